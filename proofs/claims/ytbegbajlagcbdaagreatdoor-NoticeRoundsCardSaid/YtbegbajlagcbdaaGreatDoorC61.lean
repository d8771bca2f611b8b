/- Chapter 8 and what it rests on: definitions and walks, part 61. -/
import Derived.Test.YtbegbajlagcbdaaGreatDoorC24
import Derived.Test.YtbegbajlagcbdaaGreatDoorC28
import Derived.Test.YtbegbajlagcbdaaGreatDoorC01
import Derived.Deep.SlicePairs
import Derived.Test.YtbegbajlagcbdaaGreatDoorC27
import Derived.Test.YtbegbajlagcbdaaGreatDoorC17
import Derived.Sort.Grow
import Derived.WalkKit
import Derived.Ground.SlsfProg
import Derived.Shelf.SlSortCmp.NoneTotal
import Derived.Test.YtbegbajlagcbdaaGreatDoorProg
namespace Go.Proofs.YtbegbajlagcbdaaGreatDoor
open Go Go.RowKit
/-- A notice in a list, with the slice of its acts. -/
structure NtE where
  N : Option Addr
  d : Nat
  n : Note
def NtE.cells (e : NtE) : List Value := [.string e.n.name, .int .i64 e.n.opened, .slice e.N e.n.acts.length e.d]
structure Nts (w : World) (L : Option Addr) (c : Nat) (l : List NtE) : Prop where
  rows : RowsAt w L 3 (l.map NtE.cells)
  cap : l.length ≤ c
  size : l.length ≤ 9223372036854775807
  each : ∀ (k : Nat) e, l[k]? = some e → Acts w e.N e.n.acts ∧ e.n.name.size ≤ maxLen
theorem Nts.below {w w' : World} {L : Option Addr} {c : Nat} {l : List NtE} (h : Nts w L c l) (hb : Below w.heap.size w w') : Nts w' L c l :=
  ⟨h.rows.below hb, h.cap, h.size, fun k e hk => ⟨(h.each k e hk).1.below hb, (h.each k e hk).2⟩⟩
theorem Nts.at_ {w : World} {L : Option Addr} {c : Nat} {l : List NtE} (h : Nts w L c l) {k : Nat} {e : NtE} (hk : l[k]? = some e) :
    ∃ b o, L = some ⟨b, o, none⟩ ∧ b < w.heap.size ∧ w.cell? ⟨b, o + k * 3, none⟩ = some (.string e.n.name) ∧ w.cell? ⟨b, o + k * 3 + 1, none⟩ = some (.int .i64 e.n.opened) ∧ w.cell? ⟨b, o + k * 3 + 2, none⟩ = some (.slice e.N e.n.acts.length e.d) := by
  obtain ⟨b, o, hA, hlt, hc⟩ := h.rows k e.cells (by simp [hk])
  exact ⟨b, o, hA, hlt, hc 0 _ rfl, hc 1 _ rfl, hc 2 _ rfl⟩
/-- A monument in a list, with the slice of its visits. -/
structure MoE where
  V : Option Addr
  d : Nat
  m : Mon
def MoE.cells (e : MoE) : List Value := [.string e.m.name, .string e.m.place, .slice e.V e.m.visits.length e.d]
structure Mos (w : World) (L : Option Addr) (c : Nat) (l : List MoE) : Prop where
  rows : RowsAt w L 3 (l.map MoE.cells)
  cap : l.length ≤ c
  size : l.length ≤ 9223372036854775807
  each : ∀ (k : Nat) e, l[k]? = some e → MB w e.V e.m
theorem Mos.below {w w' : World} {L : Option Addr} {c : Nat} {l : List MoE} (h : Mos w L c l) (hb : Below w.heap.size w w') : Mos w' L c l :=
  ⟨h.rows.below hb, h.cap, h.size, fun k e hk => (h.each k e hk).below hb⟩
theorem Mos.at_ {w : World} {L : Option Addr} {c : Nat} {l : List MoE} (h : Mos w L c l) {k : Nat} {e : MoE} (hk : l[k]? = some e) :
    ∃ b o, L = some ⟨b, o, none⟩ ∧ b < w.heap.size ∧ w.cell? ⟨b, o + k * 3, none⟩ = some (.string e.m.name) ∧ w.cell? ⟨b, o + k * 3 + 1, none⟩ = some (.string e.m.place) ∧ w.cell? ⟨b, o + k * 3 + 2, none⟩ = some (.slice e.V e.m.visits.length e.d) := by
  obtain ⟨b, o, hA, hlt, hc⟩ := h.rows k e.cells (by simp [hk])
  exact ⟨b, o, hA, hlt, hc 0 _ rfl, hc 1 _ rfl, hc 2 _ rfl⟩
/-- The first error of entries with names: each one's own, or that its name was there. -/
def Cal.namesE {α : Type} (E : α → Int) (nm : α → List UInt8) : List (List UInt8) → List α → Int
  | _, [] => 0
  | seen, x :: l => if E x = 0 then (if nm x ∈ seen then 5 else Cal.namesE E nm (seen ++ [nm x]) l) else E x
section
variable {α : Type} {E : α → Int} {nm : α → List UInt8}
/-- Behind k entries without an error. -/
def NamesTo (E : α → Int) (nm : α → List UInt8) (l : List α) (k : Nat) : Prop := Cal.namesE E nm ((l.take k).map nm) (l.drop k) = Cal.namesE E nm [] l
theorem NamesTo.zero (l : List α) : NamesTo E nm l 0 := rfl
theorem NamesTo.bad {l : List α} {k : Nat} (h : NamesTo E nm l k) (hk : k < l.length) (he : E l[k] ≠ 0) : Cal.namesE E nm [] l = E l[k] := by
  rw [← h, List.drop_eq_getElem_cons hk]
  show (if _ then _ else _) = _
  rw [if_neg he]
theorem NamesTo.twice {l : List α} {k : Nat} (h : NamesTo E nm l k) (hk : k < l.length) (he : E l[k] = 0) (hm : nm l[k] ∈ (l.take k).map nm) : Cal.namesE E nm [] l = 5 := by
  rw [← h, List.drop_eq_getElem_cons hk]
  show (if _ then _ else _) = _
  rw [if_pos he, if_pos hm]
theorem NamesTo.next {l : List α} {k : Nat} (h : NamesTo E nm l k) (hk : k < l.length) (he : E l[k] = 0) (hm : nm l[k] ∉ (l.take k).map nm) : NamesTo E nm l (k + 1) := by
  unfold NamesTo at h ⊢
  rw [← h, List.drop_eq_getElem_cons hk]
  conv => rhs; unfold Cal.namesE
  rw [if_pos he, if_neg hm, List.take_succ_eq_append_getElem hk, List.map_append]
  rfl
theorem NamesTo.stop {l : List α} {k : Nat} (h : NamesTo E nm l k) (hk : l.length ≤ k) : Cal.namesE E nm [] l = 0 := by
  rw [← h, List.drop_eq_nil_of_le hk]; rfl
theorem Cal.namesE_ok : ∀ {l : List α} {seen : List (List UInt8)}, Cal.namesE E nm seen l = 0 → ∀ x ∈ l, E x = 0
  | [], _, _, x, hx => by simp at hx
  | y :: l, seen, h, x, hx => by
    unfold Cal.namesE at h
    split at h
    · rename_i h0
      split at h
      · omega
      · rcases List.mem_cons.1 hx with rfl | hx
        · exact h0
        · exact Cal.namesE_ok h x hx
    · rename_i h0; exact absurd h h0
end
end Go.Proofs.YtbegbajlagcbdaaGreatDoor
namespace Go.Proofs.YtbegbajlagcbdaaGreatDoor
open Go Go.RowKit Go.ChangeShapes Go.WideShapes Go.Deep
section
variable {H : Type} {enc : TypeId × Value → H} {w : World} {spare : Nat → Bool} {held : Bool} {r : Reach} {b0 : Nat} {v : Value} {d : DataW H} {ps : List MemPlace}
set_option maxRecDepth 100000 in
theorem hols_of_trod {fuel : Nat} {x : DataW H × List MemPlace} (hf : DataW.trod enc Tryz.prog w 0 spare held fuel 45 [v] = some x) : ∃ (A : Option Addr) (l : List Hol) (c : Nat), v = .slice A l.length c ∧ Hols w A l := by
  obtain ⟨A, len, cap, hcs, hlen, hq⟩ := rows_of_open Tryz.underlying45 Tryz.underlying202 (by kernel_rfl) (by kernel_rfl) (by decide) hf
  have he : v = .slice A len cap := by simpa using hcs
  subst he
  have h1 : ∀ i, i < len → ∃ p : Hol, p.name.size ≤ maxLen ∧ ∃ b o, A = some ⟨b, o, none⟩ ∧ b < w.heap.size ∧ ∀ j v, p.cells[j]? = some v → w.cell? ⟨b, o + (i * 5 + j), none⟩ = some v := fun i hi => by
    obtain ⟨b, o, n, hA, hb, hf⟩ := hq i hi
    obtain ⟨v0, y0, c0, t0⟩ := hf 0 _ rfl
    obtain ⟨v1, y1, c1, t1⟩ := hf 1 _ rfl
    obtain ⟨v2, y2, c2, t2⟩ := hf 2 _ rfl
    obtain ⟨v3, y3, c3, t3⟩ := hf 3 _ rfl
    obtain ⟨v4, y4, c4, t4⟩ := hf 4 _ rfl
    obtain ⟨s0, e0, _, g0⟩ := DataW.trod_string Tryz.underlying9 t0
    obtain ⟨s1, e1, _, _⟩ := DataW.trod_int Tryz.underlying3 t1
    obtain ⟨s2, e2, _, _⟩ := DataW.trod_int Tryz.underlying3 t2
    obtain ⟨s3, e3, _, _⟩ := DataW.trod_int Tryz.underlying3 t3
    obtain ⟨s4, e4, _, _⟩ := DataW.trod_int Tryz.underlying3 t4
    cases e0; cases e1; cases e2; cases e3; cases e4
    refine ⟨⟨s0, s1, s2, s3, s4⟩, g0, b, o, hA, hb, fun j v hv => ?_⟩
    match j, hv with
    | 0, hv => cases hv; exact c0
    | 1, hv => cases hv; exact c1
    | 2, hv => cases hv; exact c2
    | 3, hv => cases hv; exact c3
    | 4, hv => cases hv; exact c4
    | j + 5, hv => simp [Hol.cells] at hv
  obtain ⟨l, hl, hq'⟩ := list_of len h1
  subst hl
  refine ⟨A, l, cap, rfl, ⟨fun k r hr => ?_, by unfold maxLen at hlen; omega, fun k p hp => (hq' k p hp).1⟩⟩
  rw [List.getElem?_map] at hr
  cases hk : l[k]? with
  | none => rw [hk] at hr; cases hr
  | some p => rw [hk] at hr; cases hr; exact (hq' k p hk).2
set_option maxRecDepth 100000 in
theorem acts_of_trod {fuel : Nat} {x : DataW H × List MemPlace} (hf : DataW.trod enc Tryz.prog w 0 spare held fuel 91 [v] = some x) : ∃ (A : Option Addr) (l : List NAct) (c : Nat), v = .slice A l.length c ∧ Acts w A l := by
  obtain ⟨A, len, cap, hcs, hlen, hq⟩ := rows_of_open Tryz.underlying91 Tryz.underlying109 (by kernel_rfl) (by kernel_rfl) (by decide) hf
  have he : v = .slice A len cap := by simpa using hcs
  subst he
  have h1 : ∀ i, i < len → ∃ p : NAct, ∃ b o, A = some ⟨b, o, none⟩ ∧ b < w.heap.size ∧ ∀ j v, p.cells[j]? = some v → w.cell? ⟨b, o + (i * 3 + j), none⟩ = some v := fun i hi => by
    obtain ⟨b, o, n, hA, hb, hf⟩ := hq i hi
    obtain ⟨v0, y0, c0, t0⟩ := hf 0 _ rfl
    obtain ⟨v1, y1, c1, t1⟩ := hf 1 _ rfl
    obtain ⟨v2, y2, c2, t2⟩ := hf 2 _ rfl
    obtain ⟨s0, e0, _, _⟩ := DataW.trod_int Tryz.underlying3 t0
    obtain ⟨s1, e1, _, _⟩ := DataW.trod_int Tryz.underlying3 t1
    obtain ⟨s2, e2, _, _⟩ := DataW.trod_int Tryz.underlying3 t2
    cases e0; cases e1; cases e2
    refine ⟨⟨s0, s1, s2⟩, b, o, hA, hb, fun j v hv => ?_⟩
    match j, hv with
    | 0, hv => cases hv; exact c0
    | 1, hv => cases hv; exact c1
    | 2, hv => cases hv; exact c2
    | j + 3, hv => simp [NAct.cells] at hv
  obtain ⟨l, hl, hq'⟩ := list_of len h1
  subst hl
  refine ⟨A, l, cap, rfl, ⟨fun k r hr => ?_, by unfold maxLen at hlen; omega⟩⟩
  rw [List.getElem?_map] at hr
  cases hk : l[k]? with
  | none => rw [hk] at hr; cases hr
  | some p => rw [hk] at hr; cases hr; exact hq' k p hk
set_option maxRecDepth 100000 in
theorem per_of_trod {fuel : Nat} {x : DataW H × List MemPlace} {a b c : Value} (hf : DataW.trod enc Tryz.prog w 0 spare held fuel 44 [a, b, c] = some x) : ∃ q : Per, a = .int .i64 q.m ∧ b = .int .i64 q.d ∧ c = .bool q.k := by
  have hu := Tryz.underlying44
  obtain ⟨m, xs, hlen, hxl, hi⟩ := trod_cells hu (by kernel_rfl) hf
  have h0 := hi 0 _ rfl
  have h1 := hi 1 _ rfl
  have h2 := hi 2 _ rfl
  match xs, hxl with
  | [y0, y1, y2], _ =>
    simp at h0 h1 h2
    obtain ⟨s0, e0, _, _⟩ := DataW.trod_int Tryz.underlying3 h0
    obtain ⟨s1, e1, _, _⟩ := DataW.trod_int Tryz.underlying3 h1
    obtain ⟨s2, e2, _⟩ := DataW.trod_bool Tryz.underlying4 h2
    cases e0; cases e1; cases e2
    exact ⟨⟨s0, s1, s2⟩, rfl, rfl, rfl⟩
set_option maxRecDepth 100000 in
theorem proc_of_open (hval : Value.okWide Tryz.prog w r b0 47 v) (h : DataW.Trod enc Tryz.prog w 0 spare held 47 v d ps) :
    ∃ (A : Option Addr) (c : Nat) (p : Proc), v = .agg #[.int .i64 p.runs.m, .int .i64 p.runs.d, .bool p.runs.k, .int .i64 p.obj.m, .int .i64 p.obj.d, .bool p.obj.k, .int .i64 p.wait.m, .int .i64 p.wait.d, .bool p.wait.k, .int .i64 p.exts, .int .i64 p.longest, .slice A p.hols.length c] ∧ Hols w A p.hols := by
  have hu := Tryz.underlying47
  unfold Value.okWide at hval
  rw [hu] at hval
  obtain ⟨cs, rfl, hcs, _⟩ := hval
  obtain ⟨fuel, hf⟩ := h
  obtain ⟨xs, n, _, _, _, hxl, hi⟩ := DataW.trod_struct hu hf
  have h0 : DataW.trod enc Tryz.prog w 0 spare held n 44 (((Value.agg cs).cells.toList.drop 0).take (Tryz.prog.cellsOf 44)) = xs[0]? := hi 0 _ rfl
  have h1 : DataW.trod enc Tryz.prog w 0 spare held n 44 (((Value.agg cs).cells.toList.drop 3).take (Tryz.prog.cellsOf 44)) = xs[1]? := hi 1 _ rfl
  have h2 : DataW.trod enc Tryz.prog w 0 spare held n 44 (((Value.agg cs).cells.toList.drop 6).take (Tryz.prog.cellsOf 44)) = xs[2]? := hi 2 _ rfl
  have h3 : DataW.trod enc Tryz.prog w 0 spare held n 3 (((Value.agg cs).cells.toList.drop 9).take (Tryz.prog.cellsOf 3)) = xs[3]? := hi 3 _ rfl
  have h4 : DataW.trod enc Tryz.prog w 0 spare held n 3 (((Value.agg cs).cells.toList.drop 10).take (Tryz.prog.cellsOf 3)) = xs[4]? := hi 4 _ rfl
  have h5 : DataW.trod enc Tryz.prog w 0 spare held n 45 (((Value.agg cs).cells.toList.drop 11).take (Tryz.prog.cellsOf 45)) = xs[5]? := hi 5 _ rfl
  rw [show Tryz.prog.cellsOf 47 = 12 by kernel_rfl] at hcs
  rw [show Tryz.prog.cellsOf 3 = 1 by kernel_rfl] at h3 h4
  rw [show Tryz.prog.cellsOf 45 = 1 by kernel_rfl] at h5
  rw [show Tryz.prog.cellsOf 44 = 3 by kernel_rfl] at h0 h1 h2
  obtain ⟨l⟩ := cs
  match l, hcs with
  | [a0, a1, a2, a3, a4, a5, a6, a7, a8, a9, a10, a11], _ =>
    match xs, hxl with
    | [y0, y1, y2, y3, y4, y5], _ =>
      simp [Value.cells] at h0 h1 h2 h3 h4 h5
      obtain ⟨q0, e0, e1, e2⟩ := per_of_trod h0
      obtain ⟨q1, e3, e4, e5⟩ := per_of_trod h1
      obtain ⟨q2, e6, e7, e8⟩ := per_of_trod h2
      obtain ⟨s3, e9, _, _⟩ := DataW.trod_int Tryz.underlying3 h3
      obtain ⟨s4, e10, _, _⟩ := DataW.trod_int Tryz.underlying3 h4
      obtain ⟨A, l, c, e11, hl⟩ := hols_of_trod h5
      cases e9; cases e10
      subst e0 e1 e2 e3 e4 e5 e6 e7 e8 e11
      exact ⟨A, c, ⟨q0, q1, q2, s3, s4, l⟩, rfl, hl⟩
set_option maxRecDepth 100000 in
theorem note_of_open (hval : Value.okWide Tryz.prog w r b0 93 v) (h : DataW.Trod enc Tryz.prog w 0 spare held 93 v d ps) :
    ∃ (N : Option Addr) (d : Nat) (n : Note), v = .agg #[.string n.name, .int .i64 n.opened, .slice N n.acts.length d] ∧ Acts w N n.acts ∧ n.name.size ≤ maxLen := by
  have hu := Tryz.underlying93
  unfold Value.okWide at hval
  rw [hu] at hval
  obtain ⟨cs, rfl, hcs, _⟩ := hval
  obtain ⟨fuel, hf⟩ := h
  obtain ⟨m, xs, hlen, hxl, hi⟩ := trod_cells hu (by kernel_rfl) hf
  have h0 := hi 0 _ rfl
  have h1 := hi 1 _ rfl
  have h2 := hi 2 _ rfl
  rw [show Tryz.prog.cellsOf 93 = 3 by kernel_rfl] at hcs
  obtain ⟨l⟩ := cs
  match l, hcs with
  | [a, b, c], _ =>
    match xs, hxl with
    | [y0, y1, y2], _ =>
      simp [Value.cells] at h0 h1 h2
      obtain ⟨s0, e0, _, g0⟩ := DataW.trod_string Tryz.underlying9 h0
      obtain ⟨s1, e1, _, _⟩ := DataW.trod_int Tryz.underlying3 h1
      obtain ⟨N, l, k, e2, ha⟩ := acts_of_trod h2
      cases e0; cases e1
      subst e2
      exact ⟨N, k, ⟨s0, s1, l⟩, rfl, ha, g0⟩
end
end Go.Proofs.YtbegbajlagcbdaaGreatDoor
namespace Go.Proofs.YtbegbajlagcbdaaGreatDoor
open Go Go.RowKit Go.ChangeShapes Go.WideShapes Go.Deep
section
variable {H : Type} {enc : TypeId × Value → H} {w : World} {spare : Nat → Bool} {held : Bool} {r : Reach} {b0 : Nat} {v : Value} {d : DataW H} {ps : List MemPlace}
set_option maxRecDepth 100000 in
theorem nts_of_open (hval : Value.okWide Tryz.prog w r b0 48 v) (h : DataW.Trod enc Tryz.prog w 0 spare held 48 v d ps) :
    ∃ (L : Option Addr) (l : List NtE) (c : Nat), v = .slice L l.length c ∧ Nts w L c l := by
  obtain ⟨A, len, cap, rfl⟩ := okWide_slice Tryz.underlying48 hval
  obtain ⟨fuel, hf⟩ := h
  obtain ⟨A', len', cap', hcs, hlen, hq⟩ := rows_of_open Tryz.underlying48 Tryz.underlying93 (by kernel_rfl) (by kernel_rfl) (by decide) hf
  have he : A = A' ∧ len = len' ∧ cap = cap' := by simpa [Value.cells] using hcs
  obtain ⟨rfl, rfl, rfl⟩ := he
  have hcap : len ≤ cap := by
    rcases open_slice Tryz.underlying48 hf with ⟨h0, _⟩ | ⟨a, len', cap', m, n, D, Pl, hc, _, hl, _⟩
    · have := List.singleton_inj.1 h0
      simp only [Value.slice.injEq] at this
      omega
    · have := List.singleton_inj.1 hc
      simp only [Value.slice.injEq] at this
      omega
  have h1 : ∀ i, i < len → ∃ e : NtE, (Acts w e.N e.n.acts ∧ e.n.name.size ≤ maxLen) ∧ ∃ b o, A = some ⟨b, o, none⟩ ∧ b < w.heap.size ∧ ∀ j v, e.cells[j]? = some v → w.cell? ⟨b, o + (i * 3 + j), none⟩ = some v := fun i hi => by
    obtain ⟨b, o, n, hA, hb, hf⟩ := hq i hi
    obtain ⟨v0, y0, c0, t0⟩ := hf 0 _ rfl
    obtain ⟨v1, y1, c1, t1⟩ := hf 1 _ rfl
    obtain ⟨v2, y2, c2, t2⟩ := hf 2 _ rfl
    obtain ⟨s0, e0, _, g0⟩ := DataW.trod_string Tryz.underlying9 t0
    obtain ⟨s1, e1, _, _⟩ := DataW.trod_int Tryz.underlying3 t1
    obtain ⟨N, l, k, e2, ha⟩ := acts_of_trod t2
    cases e0; cases e1
    subst e2
    refine ⟨⟨N, k, ⟨s0, s1, l⟩⟩, ⟨ha, g0⟩, b, o, hA, hb, fun j v hv => ?_⟩
    match j, hv with
    | 0, hv => cases hv; exact c0
    | 1, hv => cases hv; exact c1
    | 2, hv => cases hv; exact c2
    | j + 3, hv => simp [NtE.cells] at hv
  obtain ⟨l, hl, hq'⟩ := list_of len h1
  subst hl
  refine ⟨A, l, cap, rfl, ⟨fun k r hr => ?_, hcap, by unfold maxLen at hlen; omega, fun k e hk => (hq' k e hk).1⟩⟩
  rw [List.getElem?_map] at hr
  cases hk : l[k]? with
  | none => rw [hk] at hr; cases hr
  | some p => rw [hk] at hr; cases hr; exact (hq' k p hk).2
set_option maxRecDepth 100000 in
theorem mos_of_open (hval : Value.okWide Tryz.prog w r b0 26 v) (h : DataW.Trod enc Tryz.prog w 0 spare held 26 v d ps) :
    ∃ (L : Option Addr) (l : List MoE) (c : Nat), v = .slice L l.length c ∧ Mos w L c l := by
  obtain ⟨A, len, cap, rfl⟩ := okWide_slice Tryz.underlying26 hval
  obtain ⟨fuel, hf⟩ := h
  obtain ⟨A', len', cap', hcs, hlen, hq⟩ := rows_of_open Tryz.underlying26 Tryz.underlying31 (by kernel_rfl) (by kernel_rfl) (by decide) hf
  have he : A = A' ∧ len = len' ∧ cap = cap' := by simpa [Value.cells] using hcs
  obtain ⟨rfl, rfl, rfl⟩ := he
  have hcap : len ≤ cap := by
    rcases open_slice Tryz.underlying26 hf with ⟨h0, _⟩ | ⟨a, len', cap', m, n, D, Pl, hc, _, hl, _⟩
    · have := List.singleton_inj.1 h0
      simp only [Value.slice.injEq] at this
      omega
    · have := List.singleton_inj.1 hc
      simp only [Value.slice.injEq] at this
      omega
  have h1 : ∀ i, i < len → ∃ e : MoE, MB w e.V e.m ∧ ∃ b o, A = some ⟨b, o, none⟩ ∧ b < w.heap.size ∧ ∀ j v, e.cells[j]? = some v → w.cell? ⟨b, o + (i * 3 + j), none⟩ = some v := fun i hi => by
    obtain ⟨b, o, n, hA, hb, hf⟩ := hq i hi
    obtain ⟨v0, y0, c0, t0⟩ := hf 0 _ rfl
    obtain ⟨v1, y1, c1, t1⟩ := hf 1 _ rfl
    obtain ⟨v2, y2, c2, t2⟩ := hf 2 _ rfl
    obtain ⟨s0, e0, _, g0⟩ := DataW.trod_string Tryz.underlying9 t0
    obtain ⟨s1, e1, _, g1⟩ := DataW.trod_string Tryz.underlying9 t1
    obtain ⟨V, l, k, e2, ha⟩ := visits_of_trod t2
    cases e0; cases e1
    subst e2
    refine ⟨⟨V, k, ⟨s0, s1, l⟩⟩, ⟨ha, g0, g1⟩, b, o, hA, hb, fun j v hv => ?_⟩
    match j, hv with
    | 0, hv => cases hv; exact c0
    | 1, hv => cases hv; exact c1
    | 2, hv => cases hv; exact c2
    | j + 3, hv => simp [MoE.cells] at hv
  obtain ⟨l, hl, hq'⟩ := list_of len h1
  subst hl
  refine ⟨A, l, cap, rfl, ⟨fun k r hr => ?_, hcap, by unfold maxLen at hlen; omega, fun k e hk => (hq' k e hk).1⟩⟩
  rw [List.getElem?_map] at hr
  cases hk : l[k]? with
  | none => rw [hk] at hr; cases hr
  | some p => rw [hk] at hr; cases hr; exact (hq' k p hk).2
end
end Go.Proofs.YtbegbajlagcbdaaGreatDoor
namespace Go.Proofs.YtbegbajlagcbdaaGreatDoor
open Go Go.RowKit Go.Sort
theorem intsI_at {w : World} {A : Option Addr} {zs : List Int} (h : RowsAt w A 1 (intRows zs)) {k : Nat} (hk : k < zs.length) : ∃ b o, A = some ⟨b, o, none⟩ ∧ b < w.heap.size ∧ w.cell? ⟨b, o + k, none⟩ = some (.int .i64 zs[k]) := by
  obtain ⟨b, o, hA, hb, hc⟩ := h k [.int .i64 zs[k]] (by simp [intRows, List.getElem?_eq_getElem hk])
  have := hc 0 _ rfl
  simp only [Nat.mul_one, Nat.add_zero] at this
  exact ⟨b, o, hA, hb, this⟩
theorem RowsAt.headI {w : World} {A : Option Addr} {m : Nat} {rows : List (List Value)} (h : RowsAt w A m rows) (k : Nat) : RowsAt w A m (rows.take k) := fun j r hr => by
  refine h j r ?_
  rw [List.getElem?_take] at hr
  split at hr
  · exact hr
  · cases hr
theorem cut_headI {t : TypeId} {m : Nat} (hu : Tryz.prog.underlying t = some (.slice (Tryz.prog.elem t))) (hz : ∀ w, (sizeOf (Tryz.prog.elem t)).run Tryz.prog w = .ok m w) {w : World} {A : Option Addr} {n c : Nat} {rows : List (List Value)} (hn : n = rows.length) (hr : RowsAt w A m rows) (hc : n ≤ c) {k : Nat} (hk : k ≤ n) :
    ∃ A1 c1, (∀ w', (Instr.slice t (.slice A n c) none (some (.int .i64 k)) none).run Tryz.prog w' = .ok (.slice A1 k c1) w') ∧ RowsAt w A1 m (rows.take k) := by
  have hr1 := hr.headI k
  refine ⟨if c = 0 then A else A.map (·.add (0 * m)), c - 0, fun w' => ?_, ?_⟩
  · rw [run_slice_h w' t A n c hu .i64 k (by omega) (by omega), hz]
    simp [Result.andThen, sliced]
  · split
    · exact hr1
    · intro j r hj
      obtain ⟨b, o, hA, hb, hcell⟩ := hr1 j r hj
      exact ⟨b, o, by rw [hA, Option.map_some, Nat.zero_mul]; rfl, hb, hcell⟩
theorem sizeIntI (w : World) : (sizeOf (Tryz.prog.elem 32)).run Tryz.prog w = .ok 1 w := by kernel_rfl
theorem undIntsI : Tryz.prog.underlying 32 = some (.slice (Tryz.prog.elem 32)) := by kernel_rfl
def firstNZ : List Int → Int
  | [] => 0
  | z :: l => if z = 0 then firstNZ l else z
def nzTo (zs : List Int) (k : Nat) : Prop := firstNZ (zs.drop k) = firstNZ zs
theorem Or_any (A : Option Addr) (c : Nat) (zs : List Int) (w : World) (h : RowsAt w A 1 (intRows zs)) (hs : zs.length ≤ 1000000) :
    Calls Tryz.prog 69 #[.slice A zs.length c] w fun e w' => e = .returned (.int .i64 (firstNZ zs)) ∧ w = w' := by
  have h' := Lib.hid h
  have h0 : Hid (nzTo zs 0) := rfl
  clear h
  go_enter Tryz.func69, Tryz.ntmps69
  go_wp2
  go_loop [8] (fun i => ∃ k : Nat, k ≤ zs.length ∧ i = .int .i64 k ∧ Hid (nzTo zs k)) (fun i => zs.length - (intOf i).toNat)
  case atStart => exact ⟨0, Nat.zero_le _, rfl, h0⟩
  case round =>
    obtain ⟨k, hk, rfl, hm⟩ := hrel
    clear h0
    by_cases hlt : k < zs.length
    · obtain ⟨b, o, rfl, _, e1⟩ := intsI_at h'.out hlt
      have hd := Lib.hid (List.drop_eq_getElem_cons hlt)
      have hnz := Lib.hid (fun (h : zs[k] = 0) => show nzTo zs (k + 1) from by have := hm.out; unfold nzTo at this ⊢; rw [← this, hd.out, firstNZ, if_pos h])
      have hfz := Lib.hid (fun (h : ¬ zs[k] = 0) => show firstNZ zs = zs[k] from by have := hm.out; unfold nzTo at this; rw [← this, hd.out, firstNZ, if_neg h])
      clear hd
      generalize zs[k] = z at *
      by_cases hz : z = 0
      · have hnx : Hid (nzTo zs (k + 1)) := hnz.out hz
        clear hnz hfz
        subst hz
        go_wp2
        go_round
        case rel => exact ⟨k + 1, by omega, by go_num, hnx⟩
        case measure => simp [intOf]; omega
      · have hfin : Hid (firstNZ zs = z) := hfz.out hz
        have hz' : (z != 0) = true := by simpa using hz
        clear hnz hfz hz
        go_wp2
        go_ret
        exact ⟨ret_int hfin.out.symm, rfl⟩
    · obtain rfl : k = zs.length := by omega
      have hfin : Hid (firstNZ zs = 0) := by have := hm.out; unfold nzTo at this; rw [List.drop_length] at this; exact this.symm
      go_wp2
      go_ret
      exact ⟨ret_int hfin.out.symm, rfl⟩
theorem ints_new (w : World) (cs : Array Value) (t : TypeId) (zs : List Int) (hc : cs.toList = zs.map (Value.int .i64)) : RowsAt (w.alloc (.cells cs t)) (some ⟨w.heap.size, 0, none⟩) 1 (intRows zs) := fun k r hr => by
  have hk : k < zs.length := by
    have := (List.getElem?_eq_some_iff.1 hr).1
    rwa [intRows_length] at this
  have hrow : r = [.int .i64 zs[k]] := by
    unfold intRows at hr
    rw [List.getElem?_map, List.getElem?_eq_getElem hk] at hr
    exact (Option.some.inj hr).symm
  subst hrow
  refine ⟨_, _, rfl, by simp, fun j v hv => ?_⟩
  match j, hv with
  | 0, hv =>
    cases hv
    rw [Nat.zero_add, cell_alloc_at, ← Array.getElem?_toList, hc]
    simp [hk]
  | j + 1, hv => simp at hv
theorem cmpI_any (x y : Int) (w : World) : Calls Tryz.prog 70 #[.int .i64 x, .int .i64 y] w fun e w' => e = .returned (.int .i64 (Lib.compareInt x y)) ∧ w = w' := (Tryz.cmp_Compare_int x y w).mono fun _ _ h => ⟨h.1, h.2.symm⟩
set_option maxRecDepth 100000 in
set_option maxHeartbeats 1000000 in
theorem dueCmp_any (S SB n i k : Nat) (di dk : Int) (hi : i < n) (hk : k < n) (w : World) (hSz : S < w.heap.size) (hBz : SB < w.heap.size)
    (c0 : w.cell? ⟨SB, 0, none⟩ = some (.slice (some ⟨S, 0, none⟩) n n)) (ci : w.cell? ⟨S, i * 18 + 14, none⟩ = some (.int .i64 di)) (ck : w.cell? ⟨S, k * 18 + 14, none⟩ = some (.int .i64 dk)) :
    Calls Tryz.prog 68 #[.int .i64 i, .int .i64 k, .pointer (some ⟨SB, 0, none⟩)] w fun e w' => e = .returned (.int .i64 (firstNZ [Lib.compareInt di dk, Lib.compareInt i k])) ∧ ∃ q os, w' = grow (w.drewN q) os := by
  have hS2 : ∀ o : Obj, (w.alloc o).cell? ⟨SB, 0, none⟩ = some (.slice (some ⟨S, 0, none⟩) n n) ∧ (w.alloc o).cell? ⟨S, i * 18 + 14, none⟩ = some (.int .i64 di) ∧ (w.alloc o).cell? ⟨S, k * 18 + 14, none⟩ = some (.int .i64 dk) :=
    fun o => ⟨((below_alloc w o).cell (p := ⟨SB, 0, none⟩) hBz).trans c0, ((below_alloc w o).cell (p := ⟨S, i * 18 + 14, none⟩) hSz).trans ci, ((below_alloc w o).cell (p := ⟨S, k * 18 + 14, none⟩) hSz).trans ck⟩
  have p1 : (0 : Int) ≤ (i : Int) := by omega
  have p2 : (i : Int) < (n : Int) := by omega
  have p3 : (0 : Int) ≤ (k : Int) := by omega
  have p4 : (k : Int) < (n : Int) := by omega
  go_enter Tryz.func68, Tryz.ntmps68
  go_wp2_with fail
  refine wp_region_held_drew (S := (fun w' => w'.cell? ⟨SB, 0, none⟩ = some (.slice (some ⟨S, 0, none⟩) n n) ∧ w'.cell? ⟨S, i * 18 + 14, none⟩ = some (.int .i64 di) ∧ w'.cell? ⟨S, k * 18 + 14, none⟩ = some (.int .i64 dk))) (by kernel_rfl) ⟨c0, ci, ck⟩ (fun hHeld => ?_)
  (refine tkH 0 (v := ?_) ?_ ?_; rotate_left; focus (intro w' hSw; (try dsimp only at hSw); go_simp; (try with_reducible rfl)); (try simp only [Act.put, List.setIfInBounds_toArray, List.set_cons_zero, List.set_cons_succ]))
  (refine tkH 1 (v := ?_) ?_ ?_; rotate_left; focus (intro w' hSw; (try dsimp only at hSw); go_simp; (try with_reducible rfl)); (try simp only [Act.put, List.setIfInBounds_toArray, List.set_cons_zero, List.set_cons_succ]))
  (refine tkH 2 (v := ?_) ?_ ?_; rotate_left; focus (intro w' hSw; (try dsimp only at hSw); go_simp; (try with_reducible rfl)); (try simp only [Act.put, List.setIfInBounds_toArray, List.set_cons_zero, List.set_cons_succ]))
  (refine tkH 3 (v := ?_) ?_ ?_; rotate_left; focus (intro w' hSw; (try dsimp only at hSw); go_simp; (try with_reducible rfl)); (try simp only [Act.put, List.setIfInBounds_toArray, List.set_cons_zero, List.set_cons_succ]))
  (refine tkH 4 (v := ?_) ?_ ?_; rotate_left; focus (intro w' hSw; (try dsimp only at hSw); go_simp; (try with_reducible rfl)); (try simp only [Act.put, List.setIfInBounds_toArray, List.set_cons_zero, List.set_cons_succ]))
  (refine tkH 5 (v := ?_) ?_ ?_; rotate_left; focus (intro w' hSw; (try dsimp only at hSw); go_simp; (try with_reducible rfl)); (try simp only [Act.put, List.setIfInBounds_toArray, List.set_cons_zero, List.set_cons_succ]))
  (refine tkH 6 (v := ?_) ?_ ?_; rotate_left; focus (intro w' hSw; (try dsimp only at hSw); go_simp; (try with_reducible rfl)); (try simp only [Act.put, List.setIfInBounds_toArray, List.set_cons_zero, List.set_cons_succ]))
  (refine tkH 7 (v := ?_) ?_ ?_; rotate_left; focus (intro w' hSw; (try dsimp only at hSw); go_simp; (try with_reducible rfl)); (try simp only [Act.put, List.setIfInBounds_toArray, List.set_cons_zero, List.set_cons_succ]))
  (refine tkH 8 (v := ?_) ?_ ?_; rotate_left; focus (intro w' hSw; (try dsimp only at hSw); go_simp; (try with_reducible rfl)); (try simp only [Act.put, List.setIfInBounds_toArray, List.set_cons_zero, List.set_cons_succ]))
  (refine tkH 9 (v := ?_) ?_ ?_; rotate_left; focus (intro w' hSw; (try dsimp only at hSw); go_simp; (try with_reducible rfl)); (try simp only [Act.put, List.setIfInBounds_toArray, List.set_cons_zero, List.set_cons_succ]))
  (refine tkH 11 (v := ?_) ?_ ?_; rotate_left; focus (intro w' hSw; (try dsimp only at hSw); go_simp; (try with_reducible rfl)); (try simp only [Act.put, List.setIfInBounds_toArray, List.set_cons_zero, List.set_cons_succ]))
  (refine tkH 12 (v := ?_) ?_ ?_; rotate_left; focus (intro w' hSw; (try dsimp only at hSw); go_simp; (try with_reducible rfl)); (try simp only [Act.put, List.setIfInBounds_toArray, List.set_cons_zero, List.set_cons_succ]))
  (refine wpAnyH_ready (rs := [10]) (by decide +kernel) (by simp) ?_; refine AllReadyH.cons rfl (fun K hK => ?_) AllReadyH.nil; rw [if_pos (by kernel_rfl)]; go_simp)
  (refine (cmpI_any _ _ _).mono ?_; rintro e w' ⟨rfl, rfl⟩; go_simp; (refine hK.out _ _ ⟨c0, ci, ck⟩ (fun hHeld => ?_); clear hK K; (try simp only [Act.put, List.setIfInBounds_toArray]); (try simp only [List.set_cons_zero, List.set_cons_succ])))
  (refine wpAnyH_ready (rs := [13]) (by decide +kernel) (by simp) ?_; refine AllReadyH.cons rfl (fun K hK => ?_) AllReadyH.nil; rw [if_pos (by kernel_rfl)]; go_simp)
  (refine (cmpI_any _ _ _).mono ?_; rintro e w' ⟨rfl, rfl⟩; go_simp; (refine hK.out _ _ ⟨c0, ci, ck⟩ (fun hHeld => ?_); clear hK K; (try simp only [Act.put, List.setIfInBounds_toArray]); (try simp only [List.set_cons_zero, List.set_cons_succ])))
  (refine wpAnyH_ready (rs := [14]) (by decide +kernel) (by simp) ?_; refine AllReadyH.cons rfl (fun K hK => ?_) AllReadyH.nil; rw [if_pos (by kernel_rfl)]; go_simp)
  (refine hK.out _ _ (hS2 _) (fun hHeld => ?_); clear hK K; (try simp only [Act.put, List.setIfInBounds_toArray]); (try simp only [List.set_cons_zero, List.set_cons_succ]))
  (refine wpAnyH_ready (rs := [15]) (by decide +kernel) (by simp) ?_; refine AllReadyH.cons rfl (fun K hK => ?_) AllReadyH.nil; rw [if_pos (by kernel_rfl)]; go_simp)
  refine (Or_any (some ⟨w.heap.size, 0, none⟩) 2 [Lib.compareInt di dk, Lib.compareInt i k] (w.alloc (.cells #[.int .i64 (Lib.compareInt di dk), .int .i64 (Lib.compareInt i k)] 3)).drew (ints_new w #[.int .i64 (Lib.compareInt di dk), .int .i64 (Lib.compareInt i k)] 3 [Lib.compareInt di dk, Lib.compareInt i k] rfl) (show 2 ≤ 1000000 by decide)).mono ?_
  rintro e w' ⟨rfl, rfl⟩
  go_simp
  (refine hK.out _ _ (hS2 _) (fun hHeld => ?_); clear hK K; (try simp only [Act.put, List.setIfInBounds_toArray]); (try simp only [List.set_cons_zero, List.set_cons_succ]))
  (refine wpAnyH_ready (rs := [16]) (by decide +kernel) (by simp) ?_; refine AllReadyH.cons rfl (fun K hK => ?_) AllReadyH.nil; rw [if_pos (by kernel_rfl)]; go_simp)
  (refine hK.out _ _ (hS2 _) (fun hHeld => ?_); clear hK K; (try simp only [Act.put, List.setIfInBounds_toArray]); (try simp only [List.set_cons_zero, List.set_cons_succ]))
  refine wpAnyH_done (by kernel_rfl) ?_ _
  go_wp2_with fail
  go_ret
  exact ⟨rfl, 1, _, alloc_eq_grow w.drew _⟩
end Go.Proofs.YtbegbajlagcbdaaGreatDoor
namespace Go.Proofs.YtbegbajlagcbdaaGreatDoor.Cal
def ltK (a b : Int × Int) : Bool := decide (a.1 < b.1) || (decide (a.1 = b.1) && decide (a.2 < b.2))
theorem ltK_iff {a b : Int × Int} : ltK a b = true ↔ a.1 < b.1 ∨ (a.1 = b.1 ∧ a.2 < b.2) := by simp [ltK]
def leI (K : Nat → Int × Int) (i j : Nat) : Bool := ltK (K i) (K j) || (decide ((K i).1 = (K j).1) && (decide ((K i).2 = (K j).2) && decide (i ≤ j)))
theorem leI_iff {K : Nat → Int × Int} {i j : Nat} : leI K i j = true ↔ (K i).1 < (K j).1 ∨ (K i).1 = (K j).1 ∧ ((K i).2 < (K j).2 ∨ (K i).2 = (K j).2 ∧ i ≤ j) := by
  unfold leI
  rw [Bool.or_eq_true, ltK_iff, Bool.and_eq_true, Bool.and_eq_true, decide_eq_true_iff, decide_eq_true_iff, decide_eq_true_iff]
  omega
theorem leI_trans {K : Nat → Int × Int} (a b c : Nat) (h1 : leI K a b = true) (h2 : leI K b c = true) : leI K a c = true := by
  rw [leI_iff] at *; omega
theorem leI_total {K : Nat → Int × Int} (a b : Nat) : (leI K a b || leI K b a) = true := by
  rw [Bool.or_eq_true, leI_iff, leI_iff]; omega
theorem leI_anti {K : Nat → Int × Int} {a b : Nat} (h1 : leI K a b = true) (h2 : leI K b a = true) : a = b := by
  rw [leI_iff] at *; omega
theorem leI_of_lt {K : Nat → Int × Int} {i z : Nat} (h : ltK (K i) (K z) = true) : leI K i z = true := by
  rw [ltK_iff] at h; rw [leI_iff]; omega
theorem leI_of_not {K : Nat → Int × Int} {i z : Nat} (h : ltK (K i) (K z) = false) (hz : z < i) : leI K z i = true := by
  have h : ¬ (ltK (K i) (K z) = true) := by rw [h]; decide
  rw [ltK_iff] at h; rw [leI_iff]; omega
/-- The numbers below n that are chosen. -/
def selI (S : Nat → Bool) (n : Nat) : List Nat := (List.range n).filter S
theorem selI_zero (S : Nat → Bool) : selI S 0 = [] := rfl
theorem selI_yes {S : Nat → Bool} {n : Nat} (h : S n = true) : selI S (n + 1) = selI S n ++ [n] := by
  unfold selI; rw [List.range_succ, List.filter_append, List.filter_cons_of_pos h, List.filter_nil]
theorem selI_no {S : Nat → Bool} {n : Nat} (h : S n = false) : selI S (n + 1) = selI S n := by
  unfold selI; rw [List.range_succ, List.filter_append, List.filter_cons_of_neg (by simp [h]), List.filter_nil, List.append_nil]
theorem selI_mem {S : Nat → Bool} {n j : Nat} : j ∈ selI S n ↔ j < n ∧ S j = true := by
  unfold selI; rw [List.mem_filter, List.mem_range]
theorem selI_length (S : Nat → Bool) (n : Nat) : (selI S n).length ≤ n := by
  have := List.length_filter_le S (List.range n); rwa [List.length_range] at this
theorem selI_nodup (S : Nat → Bool) (n : Nat) : (selI S n).Nodup := List.nodup_range.filter _
/-- They in order. -/
def dueI (K : Nat → Int × Int) (S : Nat → Bool) (n : Nat) : List Nat := (selI S n).mergeSort (leI K)
theorem dueI_perm (K : Nat → Int × Int) (S : Nat → Bool) (n : Nat) : (dueI K S n).Perm (selI S n) := List.mergeSort_perm _ _
theorem dueI_sorted (K : Nat → Int × Int) (S : Nat → Bool) (n : Nat) : (dueI K S n).Pairwise fun a b => leI K a b = true :=
  List.pairwise_mergeSort leI_trans leI_total _
theorem dueI_mem {K : Nat → Int × Int} {S : Nat → Bool} {n j : Nat} : j ∈ dueI K S n ↔ j < n ∧ S j = true := by
  rw [(dueI_perm K S n).mem_iff, selI_mem]
theorem dueI_length (K : Nat → Int × Int) (S : Nat → Bool) (n : Nat) : (dueI K S n).length ≤ n := by
  rw [(dueI_perm K S n).length_eq]; exact selI_length S n
theorem dueI_nodup (K : Nat → Int × Int) (S : Nat → Bool) (n : Nat) : (dueI K S n).Nodup := (dueI_perm K S n).nodup_iff.2 (selI_nodup S n)
theorem dueI_zero (K : Nat → Int × Int) (S : Nat → Bool) : dueI K S 0 = [] := by
  have := dueI_length K S 0
  exact List.eq_nil_of_length_eq_zero (by omega)
theorem dueI_eq {K : Nat → Int × Int} {S : Nat → Bool} {n : Nat} {l : List Nat} (hs : l.Pairwise fun a b => leI K a b = true) (hp : l.Perm (selI S n)) : l = dueI K S n :=
  List.Perm.eq_of_pairwise (fun _ _ _ _ h1 h2 => leI_anti h1 h2) hs (dueI_sorted K S n) (hp.trans (dueI_perm K S n).symm)
theorem dueI_no {K : Nat → Int × Int} {S : Nat → Bool} {n : Nat} (h : S n = false) : dueI K S (n + 1) = dueI K S n := by
  unfold dueI; rw [selI_no h]
theorem ins_perm (l : List Nat) (i k : Nat) : (l.take k ++ [i] ++ l.drop k).Perm (l ++ [i]) := by
  conv => rhs; rw [← List.take_append_drop k l]
  rw [List.append_assoc, List.append_assoc]
  exact List.Perm.append_left _ List.perm_append_comm
theorem ins_sorted {K : Nat → Int × Int} {out : List Nat} {i k : Nat} (hz : out.Pairwise fun a b => leI K a b = true) (hlt : ∀ j ∈ out, j < i) (hk : k ≤ out.length)
    (h1 : ∀ (j : Nat) z, k ≤ j → out[j]? = some z → ltK (K i) (K z) = true) (h2 : ∀ z, 0 < k → out[k - 1]? = some z → ltK (K i) (K z) = false) :
    (out.take k ++ [i] ++ out.drop k).Pairwise fun a b => leI K a b = true := by
  have hz2 := hz
  rw [← List.take_append_drop k out, List.pairwise_append] at hz2
  obtain ⟨p1, p2, p3⟩ := hz2
  rw [List.append_assoc, List.pairwise_append]
  have hlow : ∀ x ∈ out.take k, leI K x i = true := fun x hx => by
    obtain ⟨j, hj, he⟩ := List.getElem_of_mem hx
    rw [List.length_take] at hj
    rw [List.getElem_take] at he
    have hq1 : k - 1 < out.length := by omega
    have hl := leI_of_not (h2 out[k - 1] (by omega) (List.getElem?_eq_getElem hq1)) (hlt _ (List.getElem_mem hq1))
    rcases Nat.lt_or_eq_of_le (show j ≤ k - 1 by omega) with h | h
    · have := List.pairwise_iff_getElem.1 hz j (k - 1) (by omega) hq1 h
      rw [← he]
      exact leI_trans _ _ _ this hl
    · subst h; rw [← he]; exact hl
  have hhigh : ∀ x ∈ out.drop k, leI K i x = true := fun x hx => by
    obtain ⟨j, hj, he⟩ := List.getElem_of_mem hx
    rw [List.length_drop] at hj
    rw [List.getElem_drop] at he
    exact leI_of_lt (h1 (k + j) x (by omega) (by rw [List.getElem?_eq_getElem (by omega), he]))
  refine ⟨p1, ?_, ?_⟩
  · rw [List.singleton_append, List.pairwise_cons]
    exact ⟨hhigh, p2⟩
  · intro x hx y hy
    rw [List.singleton_append, List.mem_cons] at hy
    rcases hy with rfl | hy
    · exact hlow x hx
    · exact p3 x hx y hy
theorem dueI_ins {K : Nat → Int × Int} {S : Nat → Bool} {i k : Nat} (hS : S i = true) (hk : k ≤ (dueI K S i).length)
    (h1 : ∀ (j : Nat) z, k ≤ j → (dueI K S i)[j]? = some z → ltK (K i) (K z) = true) (h2 : ∀ z, 0 < k → (dueI K S i)[k - 1]? = some z → ltK (K i) (K z) = false) :
    (dueI K S i).take k ++ [i] ++ (dueI K S i).drop k = dueI K S (i + 1) := by
  refine dueI_eq (ins_sorted (dueI_sorted K S i) (fun j hj => (dueI_mem.1 hj).1) hk h1 h2) ((ins_perm _ i k).trans ?_)
  rw [selI_yes hS]
  exact List.Perm.append_right _ (dueI_perm K S i)
end Go.Proofs.YtbegbajlagcbdaaGreatDoor.Cal
namespace Go.Proofs
open Go.Shelf
def Tryz.laysSlF6_f67_ren : Go.Shelf.Ren := ⟨fun | 6 => 67 | 15 => 110 | 14 => 119 | 28 => 173 | 29 => 174 | 20 => 184 | 21 => 185 | 22 => 186 | 23 => 187 | 24 => 188 | 25 => 189 | 26 => 190 | 27 => 191 | 46 => 231 | 47 => 222 | 48 => 223 | 49 => 232 | 50 => 233 | 57 => 260 | n => n, fun | 22 => 32 | 24 => 3 | 25 => 139 | 3 => 3 | 39 => 197 | 0 => 0 | 53 => 251 | 55 => 253 | 4 => 4 | 46 => 245 | 45 => 244 | 50 => 199 | 5 => 5 | 9 => 9 | 66 => 286 | 70 => 227 | 76 => 308 | 77 => 63 | n => n, fun | n => n⟩
theorem Tryz.laysSlF6_f67 : Go.Proofs.SlLaysF.n6 Tryz.prog Tryz.laysSlF6_f67_ren := {
  mixed := by kernel_rfl
  f6 := ⟨Tryz.f67.name, by decide, Tryz.func67.trans (congrArg some (by kernel_rfl))⟩
  f14 := ⟨Tryz.f119.name, by decide, Tryz.func119.trans (congrArg some (by kernel_rfl))⟩
  f15 := Tryz.func110.trans (congrArg some (by kernel_rfl))
  f20 := ⟨Tryz.f184.name, by decide, Tryz.func184.trans (congrArg some (by kernel_rfl))⟩
  f21 := ⟨Tryz.f185.name, by decide, Tryz.func185.trans (congrArg some (by kernel_rfl))⟩
  f22 := ⟨Tryz.f186.name, by decide, Tryz.func186.trans (congrArg some (by kernel_rfl))⟩
  f23 := ⟨Tryz.f187.name, by decide, Tryz.func187.trans (congrArg some (by kernel_rfl))⟩
  f24 := ⟨Tryz.f188.name, by decide, Tryz.func188.trans (congrArg some (by kernel_rfl))⟩
  f25 := ⟨Tryz.f189.name, by decide, Tryz.func189.trans (congrArg some (by kernel_rfl))⟩
  f26 := ⟨Tryz.f190.name, by decide, Tryz.func190.trans (congrArg some (by kernel_rfl))⟩
  f27 := ⟨Tryz.f191.name, by decide, Tryz.func191.trans (congrArg some (by kernel_rfl))⟩
  f28 := Tryz.func173.trans (congrArg some (by kernel_rfl))
  f29 := Tryz.func174.trans (congrArg some (by kernel_rfl))
  f46 := ⟨Tryz.f231.name, by decide, Tryz.func231.trans (congrArg some (by kernel_rfl))⟩
  f47 := Tryz.func222.trans (congrArg some (by kernel_rfl))
  f48 := Tryz.func223.trans (congrArg some (by kernel_rfl))
  f49 := ⟨Tryz.f232.name, by decide, Tryz.func232.trans (congrArg some (by kernel_rfl))⟩
  f50 := ⟨Tryz.f233.name, by decide, Tryz.func233.trans (congrArg some (by kernel_rfl))⟩
  f57 := ⟨Tryz.f260.name, by decide, Tryz.func260.trans (congrArg some (by kernel_rfl))⟩
  t0 := Tryz.underlying0
  a0 := Tryz.isAgg0
  z0 := Tryz.sizeOf0
  v0 := Tryz.zeroValue0
  t3 := Tryz.underlying3
  a3 := Tryz.isAgg3
  z3 := Tryz.sizeOf3
  v3 := Tryz.zeroValue3
  t4 := Tryz.underlying4
  a4 := Tryz.isAgg4
  z4 := Tryz.sizeOf4
  v4 := Tryz.zeroValue4
  t5 := Tryz.underlying5
  a5 := Tryz.isAgg5
  z5 := Tryz.sizeOf5
  v5 := Tryz.zeroValue5
  t9 := Tryz.underlying9
  a9 := Tryz.isAgg9
  z9 := Tryz.sizeOf9
  v9 := Tryz.zeroValue9
  t22 := Tryz.underlying32
  a22 := Tryz.isAgg32
  z22 := Tryz.sizeOf32
  v22 := Tryz.zeroValue32
  a24 := Tryz.isAgg3
  z24 := Tryz.sizeOf3
  t25 := Tryz.underlying139
  a25 := Tryz.isAgg139
  z25 := Tryz.sizeOf139
  v25 := Tryz.zeroValue139
  t39 := Tryz.underlying197
  a39 := Tryz.isAgg197
  z39 := Tryz.sizeOf197
  v39 := Tryz.zeroValue197
  t45 := Tryz.underlying244
  a45 := Tryz.isAgg244
  z45 := Tryz.sizeOf244
  v45 := Tryz.zeroValue244
  t46 := Tryz.underlying245
  a46 := Tryz.isAgg245
  z46 := Tryz.sizeOf245
  v46 := Tryz.zeroValue245
  t50 := Tryz.underlying199
  a50 := Tryz.isAgg199
  z50 := Tryz.sizeOf199
  v50 := Tryz.zeroValue199
  t53 := Tryz.underlying251
  a53 := Tryz.isAgg251
  z53 := Tryz.sizeOf251
  v53 := Tryz.zeroValue251
  t55 := Tryz.underlying253
  a55 := Tryz.isAgg253
  z55 := Tryz.sizeOf253
  v55 := Tryz.zeroValue253
  t66 := Tryz.underlying286
  a66 := Tryz.isAgg286
  z66 := Tryz.sizeOf286
  v66 := Tryz.zeroValue286
  t70 := Tryz.underlying227
  a70 := Tryz.isAgg227
  z70 := Tryz.sizeOf227
  v70 := Tryz.zeroValue227
  t76 := Tryz.underlying308
  a76 := Tryz.isAgg308
  z76 := Tryz.sizeOf308
  v76 := Tryz.zeroValue308
  t77 := Tryz.underlying63
  a77 := Tryz.isAgg63
  z77 := Tryz.sizeOf63
  v77 := Tryz.zeroValue63 }
open Go.RowKit Go.Lib Go.Sort in
theorem Tryz.sortI_none {α : Type} [Inhabited α] (p : Option Addr) (cap : Nat) (fv : Value) (w : World) :
    Calls Tryz.prog 67 #[.slice p 0 cap, fv] w fun e w' => e = .returned (.tuple #[]) ∧ w' = w := AnyF.slices_SortFunc_none { Tryz.laysSlF6_f67 with } p cap fv w
open Go.RowKit Go.Lib Go.Sort in
theorem Tryz.sortI_total {α : Type} [Inhabited α] (enc : α → Value) (h1 : OneCell enc) (cf : α → α → Int) (hO : SWO (ltOf cf)) (g : Nat) (cb : Array Value) (blk off cap : Nat) (d : Array α) (w : World) (eg : ∀ args w, (callFunc g args).run Tryz.prog w = .ok (.enter g args) w) (hcmp : CmpLays1 Tryz.prog g cb enc cf blk off d.size w) (hH : Holds enc w blk off d) (hblk : blk < w.heap.size) (hsz : d.size < 4611686018427387904) (hT : ∀ x y, (ltOf cf) x y = false → (ltOf cf) y x = false → x = y) :
    Calls Tryz.prog 67 #[.slice (some ⟨blk, off, none⟩) d.size cap, .func (.func g) #[] cb] w fun e w' =>
      e = .returned (.tuple #[]) ∧ ∃ n os, w' = sortWorld enc w blk off n (d.toList.mergeSort fun x y => !(ltOf cf) y x).toArray os := Any.slices_SortFunc_total Tryz.laysSlF6_f67 enc h1 cf hO g cb blk off cap d w eg hcmp hH hblk hsz hT
end Go.Proofs
