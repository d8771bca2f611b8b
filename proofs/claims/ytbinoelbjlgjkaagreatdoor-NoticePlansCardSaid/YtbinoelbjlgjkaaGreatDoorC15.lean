/- Chapter 8 and what it rests on: definitions and walks, part 15. -/
import Derived.Test.YtbinoelbjlgjkaaGreatDoorC04
import Derived.Test.YtbinoelbjlgjkaaGreatDoorTie
import Derived.Test.YtbinoelbjlgjkaaGreatDoorCards
import Derived.RangeFuncOwn
import Derived.Deep.Slices
import Derived.Deep.Fields
import Derived.WideKeyArgs
import Derived.ChangeSame
import Derived.Lib.SmallJoins
import Derived.Deep.DeepHandedRow
import Derived.Lib.LaidTab
import Derived.OpenShut
import Derived.Carry
namespace Go.Proofs.YtbinoelbjlgjkaaGreatDoor
open Go Go.RowKit Go.ChangeShapes Go.WideShapes Go.Deep

theorem own : ownKnob Tryz.prog.godebug = none := by kernel_rfl
theorem laidOut : laidOutB Tryz.prog = true := by kernel_rfl
theorem gLen : Tryz.prog.globalNamed "mortsafe/rule.lengths" = some 0 := by kernel_rfl
theorem gLenType : (Tryz.prog.globals[0]?).map (·.type) = some 272 := by kernel_rfl
theorem cellsLen : Tryz.prog.cellsOf 272 = 12 := by kernel_rfl
theorem cellsInt : Tryz.prog.cellsOf 3 = 1 := by kernel_rfl
theorem tab_of {W : World} (h : laidMetH Tryz.prog [("mortsafe/rule.lengths", Rows.laid_mortsafe_rule_lengths)] W) : Tab W := by
  have ht : Lib.TabIs Tryz.prog W "mortsafe/rule.lengths" .i64 lenTab := Lib.tabIs_of_head (rest := []) gLen gLenType Tryz.underlying272 Tryz.underlying3 cellsInt cellsLen h
  have hc : ∀ i : Nat, i < 12 → W.cell? ⟨0, i, none⟩ = some (.int .i64 (lenTab.getD i 0)) := fun i hi => ht.cell gLen i (by simpa [lenTab] using hi)
  refine ⟨?_, hc⟩
  have := hc 0 (by decide)
  unfold World.cell? at this
  rcases Nat.lt_or_ge 0 W.heap.size with h | h
  · exact h
  · rw [Array.getElem?_eq_none h] at this; cases this

/-- A list out of its elements. -/
theorem list_of {α : Type} {Q : Nat → α → Prop} : ∀ n : Nat, (∀ i, i < n → ∃ p, Q i p) → ∃ l : List α, l.length = n ∧ ∀ (i : Nat) p, l[i]? = some p → Q i p
  | 0, _ => ⟨[], rfl, fun i p h => by simp at h⟩
  | n + 1, h => by
    obtain ⟨l, hl, hq⟩ := list_of n (fun i hi => h i (by omega))
    obtain ⟨p, hp⟩ := h n (by omega)
    refine ⟨l ++ [p], by simp [hl], fun i q hi => ?_⟩
    rw [List.getElem?_append] at hi
    split at hi
    · exact hq i q hi
    · have : i = n := by
        have := (List.getElem?_eq_some_iff.1 hi).1
        simp at this; omega
      subst this
      rw [hl] at hi; simp at hi; subst hi; exact hp
theorem addr_plain {w : World} {a : Addr} {k : Nat} {v : Value} (h : w.cell? (a.add k) = some v) (h0 : ∃ u, w.cell? (a.add 0) = some u) : a = ⟨a.block, a.off, none⟩ := by
  obtain ⟨u, h0⟩ := h0
  have := World.cell?_spot (show w.cell? a = some u by simpa [Addr.add] using h0)
  cases a; simp at this; subst this; rfl
section
variable {H : Type} {enc : TypeId × Value → H} {w : World} {spare : Nat → Bool} {held : Bool}
/-- The elements' cells of a slice of structs whose fields are a cell each. -/
theorem rows_of_open {t e : TypeId} {fs : Array Field} {fuel : Nat} {cs : List Value} {x : DataW H × List MemPlace} (ht : Tryz.prog.underlying t = some (.slice e)) (he : Tryz.prog.underlying e = some (.struct fs))
    (hone : oneCellFields Tryz.prog fs = true) (hC : Tryz.prog.cellsOf e = fs.size) (hpos : 0 < fs.size) (h : DataW.trod enc Tryz.prog w 0 spare held fuel t cs = some x) :
    ∃ (A : Option Addr) (len cap : Nat), cs = [.slice A len cap] ∧ len ≤ maxLen ∧ ∀ i, i < len → ∃ (b o n : Nat), A = some ⟨b, o, none⟩ ∧ b < w.heap.size ∧
      ∀ (j : Nat) (f : Field), fs[j]? = some f → ∃ (v : Value) (y : DataW H × List MemPlace), w.cell? ⟨b, o + (i * fs.size + j), none⟩ = some v ∧ DataW.trod enc Tryz.prog w 0 spare held n f.type [v] = some y := by
  rcases open_slice ht h with ⟨h0, _⟩ | ⟨a, len, cap, m, n, D, Pl, hcs, hb, hl, hm, hmm, hx, hi⟩
  · exact ⟨none, 0, 0, h0, by unfold maxLen; omega, fun i hi => by omega⟩
  · refine ⟨some a, len, cap, hcs, by omega, fun i him => ?_⟩
    have hlm : len ≤ m := by rw [hmm]; split <;> omega
    obtain ⟨cs', hc, ht'⟩ := hi i (by omega)
    obtain ⟨cs0, hc0, _⟩ := hi 0 (by omega)
    rw [hC] at hc hc0
    obtain ⟨ys, n', hn', hy, hlen, hyl, hf⟩ := DataW.trod_struct he ht'
    obtain ⟨hcl0, hcl1, hat⟩ := World.cells?_some hc
    obtain ⟨_, hcl01, hat0⟩ := World.cells?_some hc0
    have hz : ∃ u, w.cell? (a.add 0) = some u := by
      have h1 := hat0 0 hpos
      have hlen0 : 0 < cs0.length := by omega
      rw [List.getElem?_eq_getElem hlen0] at h1
      exact ⟨_, by simpa [Addr.add] using h1⟩
    have ha : a = ⟨a.block, a.off, none⟩ := by obtain ⟨u, hu⟩ := hz; exact addr_plain hu ⟨u, hu⟩
    refine ⟨a.block, a.off, n', by rw [← ha], ?_, fun j f hj => ?_⟩
    · obtain ⟨u, hu⟩ := hz
      obtain ⟨o, ho, _⟩ := cells_of_cell hu
      have := (Array.getElem?_eq_some_iff.1 ho).1
      simpa [Addr.add] using this
    · obtain ⟨ho, hk⟩ := hone_of hone j f hj
      have hjl : j < fs.size := (Array.getElem?_eq_some_iff.1 hj).1
      have hcell := hat j hjl
      have hlt : j < cs'.length := by omega
      have hv : cs'[j]? = some cs'[j] := List.getElem?_eq_getElem hlt
      have h1 := hf j f hj
      rw [ho, hk] at h1
      have hone' : (cs'.drop j).take 1 = [cs'[j]] := by rw [List.drop_eq_getElem_cons hlt]; rfl
      rw [hone'] at h1
      refine ⟨cs'[j], ys[j]'(by omega), ?_, h1.trans (List.getElem?_eq_getElem (by omega))⟩
      rw [hv, ha] at hcell
      rw [← hcell, Go.Deep.add_add, ← Go.WideShapes.add_plain]
end
section
variable {H : Type} {enc : TypeId × Value → H} {w : World} {spare : Nat → Bool} {held : Bool} {r : Reach} {b0 : Nat} {v : Value} {d : DataW H} {ps : List MemPlace}
set_option maxRecDepth 100000 in
theorem provs_of_open (hval : Value.okWide Tryz.prog w r b0 22 v) (h : DataW.Trod enc Tryz.prog w 0 spare held 22 v d ps) :
    ∃ (A : Option Addr) (l : List Prov) (c : Nat), v = .slice A l.length c ∧ Provs w A l := by
  obtain ⟨A, len, cap, rfl⟩ := okWide_slice Tryz.underlying22 hval
  obtain ⟨fuel, hf⟩ := h
  obtain ⟨A', len', cap', hcs, hlen, hq⟩ := rows_of_open Tryz.underlying22 Tryz.underlying24 (by kernel_rfl) (by kernel_rfl) (by decide) hf
  have he : A = A' ∧ len = len' ∧ cap = cap' := by simpa [Value.cells] using hcs
  obtain ⟨rfl, rfl, rfl⟩ := he
  have h1 : ∀ i, i < len → ∃ p : Prov, p.name.size ≤ maxLen ∧ ∃ b o, A = some ⟨b, o, none⟩ ∧ b < w.heap.size ∧ ∀ j v, p.cells[j]? = some v → w.cell? ⟨b, o + (i * 5 + j), none⟩ = some v := fun i hi => by
    obtain ⟨b, o, n, hA, hb, hf⟩ := hq i hi
    obtain ⟨v0, y0, c0, t0⟩ := hf 0 _ rfl
    obtain ⟨v1, y1, c1, t1⟩ := hf 1 _ rfl
    obtain ⟨v2, y2, c2, t2⟩ := hf 2 _ rfl
    obtain ⟨v3, y3, c3, t3⟩ := hf 3 _ rfl
    obtain ⟨v4, y4, c4, t4⟩ := hf 4 _ rfl
    obtain ⟨s0, e0, _, g0⟩ := DataW.trod_string Tryz.underlying9 t0
    obtain ⟨s1, e1, _, _⟩ := DataW.trod_int Tryz.underlying3 t1
    obtain ⟨s2, e2, _, _⟩ := DataW.trod_int Tryz.underlying3 t2
    obtain ⟨s3, e3, _, _⟩ := DataW.trod_int Tryz.underlying3 t3
    obtain ⟨s4, e4, _⟩ := DataW.trod_bool Tryz.underlying4 t4
    cases e0; cases e1; cases e2; cases e3; cases e4
    refine ⟨⟨s0, s1, s2, s3, s4⟩, g0, b, o, hA, hb, fun j v hv => ?_⟩
    match j, hv with
    | 0, hv => cases hv; exact c0
    | 1, hv => cases hv; exact c1
    | 2, hv => cases hv; exact c2
    | 3, hv => cases hv; exact c3
    | 4, hv => cases hv; exact c4
    | j + 5, hv => simp [Prov.cells] at hv
  obtain ⟨l, hl, hq'⟩ := list_of len h1
  subst hl
  refine ⟨A, l, cap, rfl, ⟨fun k r hr => ?_, by unfold maxLen at hlen; omega, fun k p hp => (hq' k p hp).1⟩⟩
  rw [List.getElem?_map] at hr
  cases hk : l[k]? with
  | none => rw [hk] at hr; cases hr
  | some p => rw [hk] at hr; cases hr; exact (hq' k p hk).2
set_option maxRecDepth 100000 in
theorem hols_of_open (hval : Value.okWide Tryz.prog w r b0 69 v) (h : DataW.Trod enc Tryz.prog w 0 spare held 69 v d ps) :
    ∃ (A : Option Addr) (l : List Hol) (c : Nat), v = .slice A l.length c ∧ Hols w A l := by
  obtain ⟨A, len, cap, rfl⟩ := okWide_slice Tryz.underlying69 hval
  obtain ⟨fuel, hf⟩ := h
  obtain ⟨A', len', cap', hcs, hlen, hq⟩ := rows_of_open Tryz.underlying69 Tryz.underlying245 (by kernel_rfl) (by kernel_rfl) (by decide) hf
  have he : A = A' ∧ len = len' ∧ cap = cap' := by simpa [Value.cells] using hcs
  obtain ⟨rfl, rfl, rfl⟩ := he
  have h1 : ∀ i, i < len → ∃ p : Hol, p.name.size ≤ maxLen ∧ ∃ b o, A = some ⟨b, o, none⟩ ∧ b < w.heap.size ∧ ∀ j v, p.cells[j]? = some v → w.cell? ⟨b, o + (i * 5 + j), none⟩ = some v := fun i hi => by
    obtain ⟨b, o, n, hA, hb, hf⟩ := hq i hi
    obtain ⟨v0, y0, c0, t0⟩ := hf 0 _ rfl
    obtain ⟨v1, y1, c1, t1⟩ := hf 1 _ rfl
    obtain ⟨v2, y2, c2, t2⟩ := hf 2 _ rfl
    obtain ⟨v3, y3, c3, t3⟩ := hf 3 _ rfl
    obtain ⟨v4, y4, c4, t4⟩ := hf 4 _ rfl
    obtain ⟨s0, e0, _, g0⟩ := DataW.trod_string Tryz.underlying9 t0
    obtain ⟨s1, e1, _, _⟩ := DataW.trod_int Tryz.underlying3 t1
    obtain ⟨s2, e2, _, _⟩ := DataW.trod_int Tryz.underlying3 t2
    obtain ⟨s3, e3, _, _⟩ := DataW.trod_int Tryz.underlying3 t3
    obtain ⟨s4, e4, _, _⟩ := DataW.trod_int Tryz.underlying3 t4
    cases e0; cases e1; cases e2; cases e3; cases e4
    refine ⟨⟨s0, s1, s2, s3, s4⟩, g0, b, o, hA, hb, fun j v hv => ?_⟩
    match j, hv with
    | 0, hv => cases hv; exact c0
    | 1, hv => cases hv; exact c1
    | 2, hv => cases hv; exact c2
    | 3, hv => cases hv; exact c3
    | 4, hv => cases hv; exact c4
    | j + 5, hv => simp [Hol.cells] at hv
  obtain ⟨l, hl, hq'⟩ := list_of len h1
  subst hl
  refine ⟨A, l, cap, rfl, ⟨fun k r hr => ?_, by unfold maxLen at hlen; omega, fun k p hp => (hq' k p hp).1⟩⟩
  rw [List.getElem?_map] at hr
  cases hk : l[k]? with
  | none => rw [hk] at hr; cases hr
  | some p => rw [hk] at hr; cases hr; exact (hq' k p hk).2
set_option maxRecDepth 100000 in
theorem pair_of_open (hval : Value.okWide Tryz.prog w r b0 25 v) (h : DataW.Trod enc Tryz.prog w 0 spare held 25 v d ps) :
    ∃ (x y : Int), v = .agg #[.int .i64 x, .int .i64 y] ∧ (Lit.int .i64 x).wf = true ∧ (Lit.int .i64 y).wf = true := by
  have hu := Tryz.underlying25
  unfold Value.okWide at hval
  rw [hu] at hval
  obtain ⟨cs, rfl, hcs, _⟩ := hval
  obtain ⟨fuel, hf⟩ := h
  obtain ⟨xs, m, _, _, hlen, hxl, hi⟩ := DataW.trod_array hu hf
  have h0 := hi 0 (by decide)
  have h1 := hi 1 (by decide)
  rw [show Tryz.prog.cellsOf 3 = 1 by kernel_rfl] at h0 h1
  rw [show Tryz.prog.cellsOf 25 = 2 by kernel_rfl] at hcs
  obtain ⟨l⟩ := cs
  match l, hcs with
  | [a, b], _ =>
    match xs, hxl with
    | [y0, y1], _ =>
      simp [Value.cells] at h0 h1
      obtain ⟨s0, e0, _, g0⟩ := DataW.trod_int Tryz.underlying3 h0
      obtain ⟨s1, e1, _, g1⟩ := DataW.trod_int Tryz.underlying3 h1
      cases e0; cases e1
      exact ⟨s0, s1, rfl, g0, g1⟩
theorem trod_cells {t : TypeId} {fs : Array Field} {fuel : Nat} {cs : List Value} {x : DataW H × List MemPlace} (ht : Tryz.prog.underlying t = some (.struct fs)) (hone : oneCellFields Tryz.prog fs = true)
    (h : DataW.trod enc Tryz.prog w 0 spare held fuel t cs = some x) :
    ∃ (n : Nat) (xs : List (DataW H × List MemPlace)), cs.length = Tryz.prog.cellsOf t ∧ xs.length = fs.size ∧ ∀ (j : Nat) (f : Field), fs[j]? = some f → DataW.trod enc Tryz.prog w 0 spare held n f.type ((cs.drop j).take 1) = xs[j]? := by
  obtain ⟨xs, m, _, _, hlen, hxl, hi⟩ := DataW.trod_struct ht h
  refine ⟨m, xs, hlen, hxl, fun j f hj => ?_⟩
  obtain ⟨ho, hk⟩ := hone_of hone j f hj
  have := hi j f hj
  rwa [ho, hk] at this
set_option maxRecDepth 100000 in
theorem date_of_open (hval : Value.okWide Tryz.prog w r b0 126 v) (h : DataW.Trod enc Tryz.prog w 0 spare held 126 v d ps) :
    ∃ (x y z : Int), v = .agg #[.int .i64 x, .int .i64 y, .int .i64 z] ∧ (Lit.int .i64 x).wf = true ∧ (Lit.int .i64 y).wf = true ∧ (Lit.int .i64 z).wf = true := by
  have hu := Tryz.underlying126
  unfold Value.okWide at hval
  rw [hu] at hval
  obtain ⟨cs, rfl, hcs, _⟩ := hval
  obtain ⟨fuel, hf⟩ := h
  obtain ⟨m, xs, hlen, hxl, hi⟩ := trod_cells hu (by kernel_rfl) hf
  have h0 := hi 0 _ rfl
  have h1 := hi 1 _ rfl
  have h2 := hi 2 _ rfl
  rw [show Tryz.prog.cellsOf 126 = 3 by kernel_rfl] at hcs
  obtain ⟨l⟩ := cs
  match l, hcs with
  | [a, b, c], _ =>
    match xs, hxl with
    | [y0, y1, y2], _ =>
      simp [Value.cells] at h0 h1 h2
      obtain ⟨s0, e0, _, g0⟩ := DataW.trod_int Tryz.underlying3 h0
      obtain ⟨s1, e1, _, g1⟩ := DataW.trod_int Tryz.underlying3 h1
      obtain ⟨s2, e2, _, g2⟩ := DataW.trod_int Tryz.underlying3 h2
      cases e0; cases e1; cases e2
      exact ⟨s0, s1, s2, rfl, g0, g1, g2⟩
end
section
variable {H : Type} {enc : TypeId × Value → H}
theorem trodAll_stays {W W' : World} {sp' : Nat → Bool} : ∀ {ts : List TypeId} {vs : List Value} {ds : List (DataW H)} {ps : List MemPlace}, (∀ t ∈ ts, Tryz.prog.readableRec t = true ∧ t < Tryz.prog.types.size) →
    DataW.TrodAll enc Tryz.prog W 0 (fun _ => true) true ts vs ds ps → (∀ p ∈ ps, W.sameAt W' p) → (∀ p ∈ ps, sp' p.block = true) → DataW.TrodAll enc Tryz.prog W' 0 sp' true ts vs ds ps
  | [], vs, ds, ps, _, h, _, _ => by
    obtain ⟨rfl, rfl, rfl⟩ := trodAll_nil h
    exact rfl
  | t :: ts, vs, ds, ps, ht, h, hs, hp => by
    obtain ⟨v0, vs0, d0, ds0, p0, q0, rfl, rfl, rfl, h0, r0⟩ := trodAll_cons h
    have h1 := ht t (List.mem_cons_self ..)
    exact ⟨p0, q0, WideElems.Trod_stays laidOut h1.1 h1.2 h0 (fun p hm => hs p (List.mem_append_left _ hm)) (fun p hm => hp p (List.mem_append_left _ hm)),
      trodAll_stays (fun t hm => ht t (List.mem_cons_of_mem _ hm)) r0 (fun p hm => hs p (List.mem_append_right _ hm)) (fun p hm => hp p (List.mem_append_right _ hm)), rfl⟩
set_option maxRecDepth 100000 in
/-- The last step of every row of this kind: true, and the arguments as they were. -/
theorem post_true {f : Func} {s : ChangeSpec} {W W' : World} {args : Array Value} {ds gs : List (DataW H)} {before : List MemPlace} (hvars : s.vars = []) (hres : f.resultTypes = #[4])
    (hpar : ∀ t ∈ f.params.toList, Tryz.prog.readableRec t = true ∧ t < Tryz.prog.types.size)
    (hW : DataW.Whole enc Tryz.prog f.params.toList s.vars false W args.toList ds gs before) (hs : s.fn H (ds ++ gs) = { results := [.lit (.bool true)], args := ds }) (hb : Below W.heap.size W W') :
    s.post enc Tryz.prog f false true false false W args (.bool true) W' := by
  have hW' := hW
  have hlt : ∀ p ∈ before, p.block < W.heap.size := fun p hp => hW'.lt p hp
  obtain ⟨p, q, hA, hV, rfl, hfz, hnd⟩ := hW
  rw [hvars] at hV
  obtain ⟨rfl, rfl⟩ := trodVars_none hV
  simp only [List.append_nil] at hs hW' hlt
  refine post_of_below (pa := p) (pv := []) (ds := ds) (gs := []) (before := p) hW' ?_ ?_ ?_ (by simp) hb ?_
  · intro b sp hd
    rw [List.append_nil, hs, hres]
    exact trodAll_cons_mk (shut_bool Tryz.underlying4 _) trodAll_mk0
  · intro sp hsp
    rw [List.append_nil, hs]
    exact trodAll_stays hpar hA (fun x hx => hb.same (hlt x hx)) hsp
  · intro sp _
    rw [hvars, List.append_nil, hs]
    rfl
  · exact ok_one hres rfl (okWide_bool_mk Tryz.underlying4 _)
end
/-- A WORLD FOR THE WITNESS: the settled one, the table holding what its initialiser lays. -/
noncomputable def laidWorld (os : Os) : World :=
  { World.holding Tryz.prog os ⟨#[], #[], []⟩ with heap := (World.holding Tryz.prog os ⟨#[], #[], []⟩).heap.modify 0 fun
      | .cells _ t frozen => .cells #[.int .i64 31, .int .i64 28, .int .i64 31, .int .i64 30, .int .i64 31, .int .i64 30, .int .i64 31, .int .i64 31, .int .i64 30, .int .i64 31, .int .i64 30, .int .i64 31] t frozen
      | o => o }
end Go.Proofs.YtbinoelbjlgjkaaGreatDoor
namespace Go.Proofs.YtbinoelbjlgjkaaGreatDoor
open Go Go.RowKit Go.ChangeShapes Go.WideShapes Go.Deep
section
variable {H : Type} {enc : TypeId × Value → H} {w : World} {spare : Nat → Bool} {held : Bool} {r : Reach} {b0 : Nat} {v : Value} {d : DataW H} {ps : List MemPlace}
set_option maxRecDepth 100000 in
theorem prov_of_open (hval : Value.okWide Tryz.prog w r b0 24 v) (h : DataW.Trod enc Tryz.prog w 0 spare held 24 v d ps) :
    ∃ p : Prov, v = .agg #[.string p.name, .int .i64 p.value, .int .i64 p.fr, .int .i64 p.en, .bool p.repeal] ∧ p.name.size ≤ maxLen := by
  have hu := Tryz.underlying24
  unfold Value.okWide at hval
  rw [hu] at hval
  obtain ⟨cs, rfl, hcs, _⟩ := hval
  obtain ⟨fuel, hf⟩ := h
  obtain ⟨m, xs, hlen, hxl, hi⟩ := trod_cells hu (by kernel_rfl) hf
  have h0 := hi 0 _ rfl
  have h1 := hi 1 _ rfl
  have h2 := hi 2 _ rfl
  have h3 := hi 3 _ rfl
  have h4 := hi 4 _ rfl
  rw [show Tryz.prog.cellsOf 24 = 5 by kernel_rfl] at hcs
  obtain ⟨l⟩ := cs
  match l, hcs with
  | [a, b, c, e, f], _ =>
    match xs, hxl with
    | [y0, y1, y2, y3, y4], _ =>
      simp [Value.cells] at h0 h1 h2 h3 h4
      obtain ⟨s0, e0, _, g0⟩ := DataW.trod_string Tryz.underlying9 h0
      obtain ⟨s1, e1, _, _⟩ := DataW.trod_int Tryz.underlying3 h1
      obtain ⟨s2, e2, _, _⟩ := DataW.trod_int Tryz.underlying3 h2
      obtain ⟨s3, e3, _, _⟩ := DataW.trod_int Tryz.underlying3 h3
      obtain ⟨s4, e4, _⟩ := DataW.trod_bool Tryz.underlying4 h4
      cases e0; cases e1; cases e2; cases e3; cases e4
      exact ⟨⟨s0, s1, s2, s3, s4⟩, rfl, g0⟩
set_option maxRecDepth 100000 in
theorem period_of_open (hval : Value.okWide Tryz.prog w r b0 68 v) (h : DataW.Trod enc Tryz.prog w 0 spare held 68 v d ps) :
    ∃ (x y : Int) (k : Bool), v = .agg #[.int .i64 x, .int .i64 y, .bool k] := by
  have hu := Tryz.underlying68
  unfold Value.okWide at hval
  rw [hu] at hval
  obtain ⟨cs, rfl, hcs, _⟩ := hval
  obtain ⟨fuel, hf⟩ := h
  obtain ⟨m, xs, hlen, hxl, hi⟩ := trod_cells hu (by kernel_rfl) hf
  have h0 := hi 0 _ rfl
  have h1 := hi 1 _ rfl
  have h2 := hi 2 _ rfl
  rw [show Tryz.prog.cellsOf 68 = 3 by kernel_rfl] at hcs
  obtain ⟨l⟩ := cs
  match l, hcs with
  | [a, b, c], _ =>
    match xs, hxl with
    | [y0, y1, y2], _ =>
      simp [Value.cells] at h0 h1 h2
      obtain ⟨s0, e0, _, g0⟩ := DataW.trod_int Tryz.underlying3 h0
      obtain ⟨s1, e1, _, g1⟩ := DataW.trod_int Tryz.underlying3 h1
      obtain ⟨s2, e2, _⟩ := DataW.trod_bool Tryz.underlying4 h2
      cases e0; cases e1; cases e2
      exact ⟨s0, s1, s2, rfl⟩
end
end Go.Proofs.YtbinoelbjlgjkaaGreatDoor
