/- Chapter 8 and what it rests on: definitions and walks, part 22. -/
import Derived.Test.YtconnjkkgaapbaaDoorC01
import Derived.Test.YtconnjkkgaapbaaDoorC18
import Derived.Test.YtconnjkkgaapbaaDoorC21
import Derived.Test.YtconnjkkgaapbaaDoorC05
import Derived.Test.YtconnjkkgaapbaaDoorC04
namespace Go.Proofs.YtconnjkkgaapbaaDoor
open Go Go.RowKit Go.ChangeShapes Go.WideShapes Go.Deep
section
variable {H : Type} {enc : TypeId × Value → H} {w : World} {spare : Nat → Bool} {held : Bool} {r : Reach} {b0 : Nat} {v : Value} {d : DataW H} {ps : List MemPlace}
set_option maxRecDepth 100000 in
theorem hols_of_trod {fuel : Nat} {x : DataW H × List MemPlace} (hf : DataW.trod enc Tryd.prog w 0 spare held fuel 39 [v] = some x) : ∃ (A : Option Addr) (l : List Hol) (c : Nat), v = .slice A l.length c ∧ Hols w A l := by
  obtain ⟨A, len, cap, hcs, hlen, hq⟩ := rows_of_open Tryd.underlying39 Tryd.underlying95 (by kernel_rfl) (by kernel_rfl) (by decide) hf
  have he : v = .slice A len cap := by simpa using hcs
  subst he
  have h1 : ∀ i, i < len → ∃ p : Hol, p.name.size ≤ maxLen ∧ ∃ b o, A = some ⟨b, o, none⟩ ∧ b < w.heap.size ∧ ∀ j v, p.cells[j]? = some v → w.cell? ⟨b, o + (i * 5 + j), none⟩ = some v := fun i hi => by
    obtain ⟨b, o, n, hA, hb, hf⟩ := hq i hi
    obtain ⟨v0, y0, c0, t0⟩ := hf 0 _ rfl
    obtain ⟨v1, y1, c1, t1⟩ := hf 1 _ rfl
    obtain ⟨v2, y2, c2, t2⟩ := hf 2 _ rfl
    obtain ⟨v3, y3, c3, t3⟩ := hf 3 _ rfl
    obtain ⟨v4, y4, c4, t4⟩ := hf 4 _ rfl
    obtain ⟨s0, e0, _, g0⟩ := DataW.trod_string Tryd.underlying9 t0
    obtain ⟨s1, e1, _, _⟩ := DataW.trod_int Tryd.underlying3 t1
    obtain ⟨s2, e2, _, _⟩ := DataW.trod_int Tryd.underlying3 t2
    obtain ⟨s3, e3, _, _⟩ := DataW.trod_int Tryd.underlying3 t3
    obtain ⟨s4, e4, _, _⟩ := DataW.trod_int Tryd.underlying3 t4
    cases e0; cases e1; cases e2; cases e3; cases e4
    refine ⟨⟨s0, s1, s2, s3, s4⟩, g0, b, o, hA, hb, fun j v hv => ?_⟩
    match j, hv with
    | 0, hv => cases hv; exact c0
    | 1, hv => cases hv; exact c1
    | 2, hv => cases hv; exact c2
    | 3, hv => cases hv; exact c3
    | 4, hv => cases hv; exact c4
    | j + 5, hv => simp [Hol.cells] at hv
  obtain ⟨l, hl, hq'⟩ := list_of len h1
  subst hl
  refine ⟨A, l, cap, rfl, ⟨fun k r hr => ?_, by unfold maxLen at hlen; omega, fun k p hp => (hq' k p hp).1⟩⟩
  rw [List.getElem?_map] at hr
  cases hk : l[k]? with
  | none => rw [hk] at hr; cases hr
  | some p => rw [hk] at hr; cases hr; exact (hq' k p hk).2
set_option maxRecDepth 100000 in
theorem acts_of_trod {fuel : Nat} {x : DataW H × List MemPlace} (hf : DataW.trod enc Tryd.prog w 0 spare held fuel 45 [v] = some x) : ∃ (A : Option Addr) (l : List NAct) (c : Nat), v = .slice A l.length c ∧ Acts w A l := by
  obtain ⟨A, len, cap, hcs, hlen, hq⟩ := rows_of_open Tryd.underlying45 Tryd.underlying51 (by kernel_rfl) (by kernel_rfl) (by decide) hf
  have he : v = .slice A len cap := by simpa using hcs
  subst he
  have h1 : ∀ i, i < len → ∃ p : NAct, ∃ b o, A = some ⟨b, o, none⟩ ∧ b < w.heap.size ∧ ∀ j v, p.cells[j]? = some v → w.cell? ⟨b, o + (i * 3 + j), none⟩ = some v := fun i hi => by
    obtain ⟨b, o, n, hA, hb, hf⟩ := hq i hi
    obtain ⟨v0, y0, c0, t0⟩ := hf 0 _ rfl
    obtain ⟨v1, y1, c1, t1⟩ := hf 1 _ rfl
    obtain ⟨v2, y2, c2, t2⟩ := hf 2 _ rfl
    obtain ⟨s0, e0, _, _⟩ := DataW.trod_int Tryd.underlying3 t0
    obtain ⟨s1, e1, _, _⟩ := DataW.trod_int Tryd.underlying3 t1
    obtain ⟨s2, e2, _, _⟩ := DataW.trod_int Tryd.underlying3 t2
    cases e0; cases e1; cases e2
    refine ⟨⟨s0, s1, s2⟩, b, o, hA, hb, fun j v hv => ?_⟩
    match j, hv with
    | 0, hv => cases hv; exact c0
    | 1, hv => cases hv; exact c1
    | 2, hv => cases hv; exact c2
    | j + 3, hv => simp [NAct.cells] at hv
  obtain ⟨l, hl, hq'⟩ := list_of len h1
  subst hl
  refine ⟨A, l, cap, rfl, ⟨fun k r hr => ?_, by unfold maxLen at hlen; omega⟩⟩
  rw [List.getElem?_map] at hr
  cases hk : l[k]? with
  | none => rw [hk] at hr; cases hr
  | some p => rw [hk] at hr; cases hr; exact hq' k p hk
set_option maxRecDepth 100000 in
theorem per_of_trod {fuel : Nat} {x : DataW H × List MemPlace} {a b c : Value} (hf : DataW.trod enc Tryd.prog w 0 spare held fuel 38 [a, b, c] = some x) : ∃ q : Per, a = .int .i64 q.m ∧ b = .int .i64 q.d ∧ c = .bool q.k := by
  have hu := Tryd.underlying38
  obtain ⟨m, xs, hlen, hxl, hi⟩ := trod_cells hu (by kernel_rfl) hf
  have h0 := hi 0 _ rfl
  have h1 := hi 1 _ rfl
  have h2 := hi 2 _ rfl
  match xs, hxl with
  | [y0, y1, y2], _ =>
    simp at h0 h1 h2
    obtain ⟨s0, e0, _, _⟩ := DataW.trod_int Tryd.underlying3 h0
    obtain ⟨s1, e1, _, _⟩ := DataW.trod_int Tryd.underlying3 h1
    obtain ⟨s2, e2, _⟩ := DataW.trod_bool Tryd.underlying4 h2
    cases e0; cases e1; cases e2
    exact ⟨⟨s0, s1, s2⟩, rfl, rfl, rfl⟩
set_option maxRecDepth 100000 in
theorem proc_of_open (hval : Value.okWide Tryd.prog w r b0 41 v) (h : DataW.Trod enc Tryd.prog w 0 spare held 41 v d ps) :
    ∃ (A : Option Addr) (c : Nat) (p : Proc), v = .agg #[.int .i64 p.runs.m, .int .i64 p.runs.d, .bool p.runs.k, .int .i64 p.obj.m, .int .i64 p.obj.d, .bool p.obj.k, .int .i64 p.wait.m, .int .i64 p.wait.d, .bool p.wait.k, .int .i64 p.exts, .int .i64 p.longest, .slice A p.hols.length c] ∧ Hols w A p.hols := by
  have hu := Tryd.underlying41
  unfold Value.okWide at hval
  rw [hu] at hval
  obtain ⟨cs, rfl, hcs, _⟩ := hval
  obtain ⟨fuel, hf⟩ := h
  obtain ⟨xs, n, _, _, _, hxl, hi⟩ := DataW.trod_struct hu hf
  have h0 : DataW.trod enc Tryd.prog w 0 spare held n 38 (((Value.agg cs).cells.toList.drop 0).take (Tryd.prog.cellsOf 38)) = xs[0]? := hi 0 _ rfl
  have h1 : DataW.trod enc Tryd.prog w 0 spare held n 38 (((Value.agg cs).cells.toList.drop 3).take (Tryd.prog.cellsOf 38)) = xs[1]? := hi 1 _ rfl
  have h2 : DataW.trod enc Tryd.prog w 0 spare held n 38 (((Value.agg cs).cells.toList.drop 6).take (Tryd.prog.cellsOf 38)) = xs[2]? := hi 2 _ rfl
  have h3 : DataW.trod enc Tryd.prog w 0 spare held n 3 (((Value.agg cs).cells.toList.drop 9).take (Tryd.prog.cellsOf 3)) = xs[3]? := hi 3 _ rfl
  have h4 : DataW.trod enc Tryd.prog w 0 spare held n 3 (((Value.agg cs).cells.toList.drop 10).take (Tryd.prog.cellsOf 3)) = xs[4]? := hi 4 _ rfl
  have h5 : DataW.trod enc Tryd.prog w 0 spare held n 39 (((Value.agg cs).cells.toList.drop 11).take (Tryd.prog.cellsOf 39)) = xs[5]? := hi 5 _ rfl
  rw [show Tryd.prog.cellsOf 41 = 12 by kernel_rfl] at hcs
  rw [show Tryd.prog.cellsOf 3 = 1 by kernel_rfl] at h3 h4
  rw [show Tryd.prog.cellsOf 39 = 1 by kernel_rfl] at h5
  rw [show Tryd.prog.cellsOf 38 = 3 by kernel_rfl] at h0 h1 h2
  obtain ⟨l⟩ := cs
  match l, hcs with
  | [a0, a1, a2, a3, a4, a5, a6, a7, a8, a9, a10, a11], _ =>
    match xs, hxl with
    | [y0, y1, y2, y3, y4, y5], _ =>
      simp [Value.cells] at h0 h1 h2 h3 h4 h5
      obtain ⟨q0, e0, e1, e2⟩ := per_of_trod h0
      obtain ⟨q1, e3, e4, e5⟩ := per_of_trod h1
      obtain ⟨q2, e6, e7, e8⟩ := per_of_trod h2
      obtain ⟨s3, e9, _, _⟩ := DataW.trod_int Tryd.underlying3 h3
      obtain ⟨s4, e10, _, _⟩ := DataW.trod_int Tryd.underlying3 h4
      obtain ⟨A, l, c, e11, hl⟩ := hols_of_trod h5
      cases e9; cases e10
      subst e0 e1 e2 e3 e4 e5 e6 e7 e8 e11
      exact ⟨A, c, ⟨q0, q1, q2, s3, s4, l⟩, rfl, hl⟩
set_option maxRecDepth 100000 in
theorem note_of_open (hval : Value.okWide Tryd.prog w r b0 47 v) (h : DataW.Trod enc Tryd.prog w 0 spare held 47 v d ps) :
    ∃ (N : Option Addr) (d : Nat) (n : Note), v = .agg #[.string n.name, .int .i64 n.opened, .slice N n.acts.length d] ∧ Acts w N n.acts ∧ n.name.size ≤ maxLen := by
  have hu := Tryd.underlying47
  unfold Value.okWide at hval
  rw [hu] at hval
  obtain ⟨cs, rfl, hcs, _⟩ := hval
  obtain ⟨fuel, hf⟩ := h
  obtain ⟨m, xs, hlen, hxl, hi⟩ := trod_cells hu (by kernel_rfl) hf
  have h0 := hi 0 _ rfl
  have h1 := hi 1 _ rfl
  have h2 := hi 2 _ rfl
  rw [show Tryd.prog.cellsOf 47 = 3 by kernel_rfl] at hcs
  obtain ⟨l⟩ := cs
  match l, hcs with
  | [a, b, c], _ =>
    match xs, hxl with
    | [y0, y1, y2], _ =>
      simp [Value.cells] at h0 h1 h2
      obtain ⟨s0, e0, _, g0⟩ := DataW.trod_string Tryd.underlying9 h0
      obtain ⟨s1, e1, _, _⟩ := DataW.trod_int Tryd.underlying3 h1
      obtain ⟨N, l, k, e2, ha⟩ := acts_of_trod h2
      cases e0; cases e1
      subst e2
      exact ⟨N, k, ⟨s0, s1, l⟩, rfl, ha, g0⟩
end
end Go.Proofs.YtconnjkkgaapbaaDoor
namespace Go.Proofs.YtconnjkkgaapbaaDoor
open Go Go.RowKit
def CloneAPost (w : World) (l : List NAct) (e : Ending) (w' : World) : Prop := ∃ v, e = .returned v ∧ OwnL w' w.heap.size 51 3 v (l.map NAct.cells) ∧ Below w.heap.size w w'
theorem CloneA_any (A : Option Addr) (c : Nat) (l : List NAct) (w : World) (hl : Acts w A l) (hs : l.length ≤ 1000000) :
    Calls Tryd.prog 37 #[.slice A l.length c] w (CloneAPost w l) := by
  cases A with
  | none =>
    have h0 : l = [] := by
      cases l with
      | nil => rfl
      | cons q r => obtain ⟨b, o, hA, _⟩ := hl.rows 0 q.cells rfl; cases hA
    subst h0
    have hnil := fun w => Lib.run_eql_slice_nil (P := Tryd.prog) w 45 51 none 0 c 0 0 Tryd.underlying45
    go_enter Tryd.func37, Tryd.ntmps37
    go_wp2
    go_ret
    exact ⟨_, rfl, OwnL.nil _ _ _ _, Below.refl _ _⟩
  | some a =>
    have hnil := fun w => Lib.run_eql_slice_nil (P := Tryd.prog) w 45 51 (some a) l.length c 0 0 Tryd.underlying45
    have hl' := Lib.hid (fun w1 (h : Below w.heap.size w w1) => hl.below h)
    have hw := Lib.hid (actCells_wid l)
    have h1 := Lib.hid (actCells_one l)
    clear hl
    go_enter Tryd.func37, Tryd.ntmps37
    go_wp2_with (at_builtin; refine wpList_append_rows elemAct rfl _ _ rfl rfl rfl (OwnL.made w w.heap.size _ 3 (Nat.le_refl _)) (hl'.out _ (below_alloc _ _)).rows (List.length_map ..).symm hw.out h1.out (by simp; omega) (by decide) (by simp) ?_; intro v' w1 hown hg _)
    go_ret
    exact ⟨_, rfl, by simpa using hown, (below_alloc _ _).trans (grown_below hg (fun g e => by cases e; exact Nat.le_refl _) (by simp))⟩
theorem start4 (w : World) (A : Option Addr) (c : Nat) (p : Proc) (N : Option Addr) (d : Nat) (n : Note) (a : NAct) : Hid (BoxAt ((((w.alloc (.cells #[.int .i64 p.runs.m, .int .i64 p.runs.d, .bool p.runs.k, .int .i64 p.obj.m, .int .i64 p.obj.d, .bool p.obj.k, .int .i64 p.wait.m, .int .i64 p.wait.d, .bool p.wait.k, .int .i64 p.exts, .int .i64 p.longest, .slice A p.hols.length c] 41)).alloc (.cells #[.string n.name, .int .i64 n.opened, .slice N n.acts.length d] 47)).alloc (.cells #[.int .i64 a.day, .int .i64 a.kind, .int .i64 a.days] 51)).alloc (.cells #[.string ⟨#[]⟩, .int .i64 0, .slice none 0 0] 47)) w.heap.size [.int .i64 p.runs.m, .int .i64 p.runs.d, .bool p.runs.k, .int .i64 p.obj.m, .int .i64 p.obj.d, .bool p.obj.k, .int .i64 p.wait.m, .int .i64 p.wait.d, .bool p.wait.k, .int .i64 p.exts, .int .i64 p.longest, .slice A p.hols.length c]) ∧ Hid (BoxAt ((((w.alloc (.cells #[.int .i64 p.runs.m, .int .i64 p.runs.d, .bool p.runs.k, .int .i64 p.obj.m, .int .i64 p.obj.d, .bool p.obj.k, .int .i64 p.wait.m, .int .i64 p.wait.d, .bool p.wait.k, .int .i64 p.exts, .int .i64 p.longest, .slice A p.hols.length c] 41)).alloc (.cells #[.string n.name, .int .i64 n.opened, .slice N n.acts.length d] 47)).alloc (.cells #[.int .i64 a.day, .int .i64 a.kind, .int .i64 a.days] 51)).alloc (.cells #[.string ⟨#[]⟩, .int .i64 0, .slice none 0 0] 47)) (w.heap.size + 1) [.string n.name, .int .i64 n.opened, .slice N n.acts.length d]) ∧ Hid (BoxAt ((((w.alloc (.cells #[.int .i64 p.runs.m, .int .i64 p.runs.d, .bool p.runs.k, .int .i64 p.obj.m, .int .i64 p.obj.d, .bool p.obj.k, .int .i64 p.wait.m, .int .i64 p.wait.d, .bool p.wait.k, .int .i64 p.exts, .int .i64 p.longest, .slice A p.hols.length c] 41)).alloc (.cells #[.string n.name, .int .i64 n.opened, .slice N n.acts.length d] 47)).alloc (.cells #[.int .i64 a.day, .int .i64 a.kind, .int .i64 a.days] 51)).alloc (.cells #[.string ⟨#[]⟩, .int .i64 0, .slice none 0 0] 47)) (w.heap.size + 1 + 1) [.int .i64 a.day, .int .i64 a.kind, .int .i64 a.days]) ∧ Hid (BoxAt ((((w.alloc (.cells #[.int .i64 p.runs.m, .int .i64 p.runs.d, .bool p.runs.k, .int .i64 p.obj.m, .int .i64 p.obj.d, .bool p.obj.k, .int .i64 p.wait.m, .int .i64 p.wait.d, .bool p.wait.k, .int .i64 p.exts, .int .i64 p.longest, .slice A p.hols.length c] 41)).alloc (.cells #[.string n.name, .int .i64 n.opened, .slice N n.acts.length d] 47)).alloc (.cells #[.int .i64 a.day, .int .i64 a.kind, .int .i64 a.days] 51)).alloc (.cells #[.string ⟨#[]⟩, .int .i64 0, .slice none 0 0] 47)) (w.heap.size + 1 + 1 + 1) [.string ⟨#[]⟩, .int .i64 0, .slice none 0 0]) ∧ Hid (Below w.heap.size w ((((w.alloc (.cells #[.int .i64 p.runs.m, .int .i64 p.runs.d, .bool p.runs.k, .int .i64 p.obj.m, .int .i64 p.obj.d, .bool p.obj.k, .int .i64 p.wait.m, .int .i64 p.wait.d, .bool p.wait.k, .int .i64 p.exts, .int .i64 p.longest, .slice A p.hols.length c] 41)).alloc (.cells #[.string n.name, .int .i64 n.opened, .slice N n.acts.length d] 47)).alloc (.cells #[.int .i64 a.day, .int .i64 a.kind, .int .i64 a.days] 51)).alloc (.cells #[.string ⟨#[]⟩, .int .i64 0, .slice none 0 0] 47))) := by
  have h3 := (BoxAt.new (W2n w A c p N d n) #[.int .i64 a.day, .int .i64 a.kind, .int .i64 a.days] 51).alloc (.cells #[.string ⟨#[]⟩, .int .i64 0, .slice none 0 0] 47)
  rw [W2n_size] at h3
  have h4 := BoxAt.new ((W2n w A c p N d n).alloc (.cells #[.int .i64 a.day, .int .i64 a.kind, .int .i64 a.days] 51)) #[.string ⟨#[]⟩, .int .i64 0, .slice none 0 0] 47
  rw [World.size_alloc, W2n_size] at h4
  exact ⟨((W2n_pr w A c p N d n).alloc _).alloc _, ((W2n_note w A c p N d n).alloc _).alloc _, h3, h4, below_step (below_step (W2n_below w A c p N d n) (below_alloc _ _)) (below_alloc _ _)⟩
/-- The error of one more act. -/
def Cal.addE (p : Proc) (n : Note) (a : NAct) : Int :=
  if (Cal.checkS p n).2 = 0 then (if 40 ≤ n.acts.length then 8 else (Cal.actS p (Cal.stAt p n 200000) a).2) else (Cal.checkS p n).2
def AddBad (w : World) (E : Int) (e : Ending) (w' : World) : Prop := e = .returned (.tuple #[.agg #[.string ⟨#[]⟩, .int .i64 0, .slice none 0 0], .int .i64 E]) ∧ Below w.heap.size w w'
set_option maxRecDepth 100000 in
set_option maxHeartbeats 4000000 in
theorem Add_bad (A : Option Addr) (c : Nat) (p : Proc) (N : Option Addr) (d : Nat) (n : Note) (a : NAct) (w : World) (hN : NB w A p N n) (hst : (Cal.checkS p n).2 = 0 → StOk (Cal.stAt p n 200000)) (hE : Cal.addE p n a ≠ 0) :
    Calls Tryd.prog 15 #[.agg #[.int .i64 p.runs.m, .int .i64 p.runs.d, .bool p.runs.k, .int .i64 p.obj.m, .int .i64 p.obj.d, .bool p.obj.k, .int .i64 p.wait.m, .int .i64 p.wait.d, .bool p.wait.k, .int .i64 p.exts, .int .i64 p.longest, .slice A p.hols.length c], .agg #[.string n.name, .int .i64 n.opened, .slice N n.acts.length d], .agg #[.int .i64 a.day, .int .i64 a.kind, .int .i64 a.days]] w (AddBad w (Cal.addE p n a)) := by
  have hsz := hN.acts.size
  have hN := Lib.hid hN
  by_cases hc : (Cal.checkS p n).2 = 0
  · have hok := hst hc
    obtain ⟨hp, _, o0, o1, _, hrun⟩ := Cal.checkS_ok hc
    obtain ⟨_, _, _, _, x1, _, x2, _⟩ := Cal.procErr_ok hp
    have hbeh := Lib.hid (fun w1 h => behind_ok A c p N d n w1 h hc)
    obtain ⟨s, hs⟩ : ∃ s, Cal.stAt p n 200000 = s := ⟨_, rfl⟩
    rw [hs] at hbeh hok
    by_cases hlen : 40 ≤ n.acts.length
    · have hC : Cal.addE p n a = 8 := by unfold Cal.addE; rw [if_pos hc, if_pos hlen]
      rw [hC]
      clear hC hE hc hs hrun hp
      obtain ⟨h1, h2, h3, h4, hb⟩ := start4 w A c p N d n a
      have c0 := h2.out.c 0 _ rfl
      have c1 := h2.out.c 1 _ rfl
      have c2 := h2.out.c 2 _ rfl
      go_enter Tryd.func15, Tryd.ntmps15
      go_wp2_with (refine wpPr h1.out (.tmp 3) rfl ?_)
      clear c0 c1 c2
      refine (hbeh.out _ (hN.out.below hb.out)).mono ?_
      rintro e w1 ⟨he, hb1⟩
      subst he
      have hbw := Lib.hid (below_step hb.out hb1)
      have g2 := Lib.hid (h2.out.below hb1)
      have g3 := Lib.hid (h3.out.below hb1)
      have g4 := Lib.hid (h4.out.below hb1)
      have hz := (h4.out.below hb1).lt
      have hN8 := Lib.hid (BoxAt.new w1 #[.int .i64 0, .int .i64 0, .bool false, .int .i64 0, .int .i64 0, .bool false, .int .i64 0, .int .i64 0, .bool false, .int .i64 0, .int .i64 0, .slice none 0 0, .int .i64 0, .int .i64 0, .int .i64 0, .int .i64 0, .int .i64 0, .int .i64 0] 75)
      clear hb1 h1 h2 h3 h4 hb
      go_wp2_with (first | ((refine wpList_store_box rfl 75 (.tmp 8) (.tmp 14) rfl (w1.heap.size) _ [.int .i64 p.runs.m, .int .i64 p.runs.d, .bool p.runs.k, .int .i64 p.obj.m, .int .i64 p.obj.d, .bool p.obj.k, .int .i64 p.wait.m, .int .i64 p.wait.d, .bool p.wait.k, .int .i64 p.exts, .int .i64 p.longest, .slice A p.hols.length c, .int .i64 s.phase, .int .i64 s.last, .int .i64 s.deadline, .int .i64 s.object, .int .i64 s.objected, .int .i64 s.extended] (by rfl) (by rfl) hN8.out rfl stSize (by kernel_rfl) ?_; intro w2 h8 hg8); have hb12 := below_of_grownB (below_alloc w1 _) hg8 (Nat.le_refl _); have hb2 := Lib.hid (below_step hbw.out hb12); have k2 := Lib.hid (g2.out.below hb12); have k3 := Lib.hid (g3.out.below hb12); have k4 := Lib.hid (g4.out.below hb12); have h8 := Lib.hid h8; have q2 := k2.out.c 2 _ rfl; have a0 := k3.out.c 0 _ rfl; have a1 := k3.out.c 1 _ rfl; have a2 := k3.out.c 2 _ rfl; clear hb12 hg8) | ((refine wpList_store_box rfl 47 (.tmp 6) (.tmp 34) rfl (w.heap.size + 1 + 1 + 1) _ [.string ⟨#[]⟩, .int .i64 0, .slice none 0 0] (by rfl) (by rfl) k4.out rfl ntSize (by kernel_rfl) ?_; intro w6 h6 hg6); have hb6 := Lib.hid (below_of_grownB hb2.out hg6 (by omega))))
      (try simp only [Exit.inBlock, Exit.then])
      refine bodyPost_ret (results_mid2 rfl _ _ (w.heap.size + 1 + 1 + 1) [.string ⟨#[]⟩, .int .i64 0, .slice none 0 0] _ rfl h6.range Tryd.underlying47 rfl ntSize) rfl ⟨by rfl, hb6.out⟩
    · have hC : Cal.addE p n a = (Cal.actS p s a).2 := by unfold Cal.addE; rw [if_pos hc, if_neg hlen, hs]
      rw [hC] at hE ⊢
      have hlen' : n.acts.length < 40 := by omega
      rcases hr : Cal.actS p s a with ⟨s', E⟩
      rw [hr] at hE
      have hE1 : (E != 0) = true := by simpa using hE
      have hE2 : (E == 0) = false := by simpa using hE
      have hrz := Lib.hid hr
      clear hC hE hc hs hrun hp hr hlen
      obtain ⟨h1, h2, h3, h4, hb⟩ := start4 w A c p N d n a
      have c0 := h2.out.c 0 _ rfl
      have c1 := h2.out.c 1 _ rfl
      have c2 := h2.out.c 2 _ rfl
      go_enter Tryd.func15, Tryd.ntmps15
      go_wp2_with (refine wpPr h1.out (.tmp 3) rfl ?_)
      clear c0 c1 c2
      refine (hbeh.out _ (hN.out.below hb.out)).mono ?_
      rintro e w1 ⟨he, hb1⟩
      subst he
      have hbw := Lib.hid (below_step hb.out hb1)
      have g2 := Lib.hid (h2.out.below hb1)
      have g3 := Lib.hid (h3.out.below hb1)
      have g4 := Lib.hid (h4.out.below hb1)
      have hz := (h4.out.below hb1).lt
      have hN8 := Lib.hid (BoxAt.new w1 #[.int .i64 0, .int .i64 0, .bool false, .int .i64 0, .int .i64 0, .bool false, .int .i64 0, .int .i64 0, .bool false, .int .i64 0, .int .i64 0, .slice none 0 0, .int .i64 0, .int .i64 0, .int .i64 0, .int .i64 0, .int .i64 0, .int .i64 0] 75)
      clear hb1 h1 h2 h3 h4 hb
      go_wp2_with (first | ((refine wpList_store_box rfl 75 (.tmp 8) (.tmp 14) rfl (w1.heap.size) _ [.int .i64 p.runs.m, .int .i64 p.runs.d, .bool p.runs.k, .int .i64 p.obj.m, .int .i64 p.obj.d, .bool p.obj.k, .int .i64 p.wait.m, .int .i64 p.wait.d, .bool p.wait.k, .int .i64 p.exts, .int .i64 p.longest, .slice A p.hols.length c, .int .i64 s.phase, .int .i64 s.last, .int .i64 s.deadline, .int .i64 s.object, .int .i64 s.objected, .int .i64 s.extended] (by rfl) (by rfl) hN8.out rfl stSize (by kernel_rfl) ?_; intro w2 h8 hg8); have hb12 := below_of_grownB (below_alloc w1 _) hg8 (Nat.le_refl _); have hb2 := Lib.hid (below_step hbw.out hb12); have k2 := Lib.hid (g2.out.below hb12); have k3 := Lib.hid (g3.out.below hb12); have k4 := Lib.hid (g4.out.below hb12); have h8 := Lib.hid h8; have q2 := k2.out.c 2 _ rfl; have a0 := k3.out.c 0 _ rfl; have a1 := k3.out.c 1 _ rfl; have a2 := k3.out.c 2 _ rfl; clear hb12 hg8) | (refine wpList_load_mid rfl 75 (.tmp 8) rfl w1.heap.size 0 rfl [.int .i64 p.runs.m, .int .i64 p.runs.d, .bool p.runs.k, .int .i64 p.obj.m, .int .i64 p.obj.d, .bool p.obj.k, .int .i64 p.wait.m, .int .i64 p.wait.d, .bool p.wait.k, .int .i64 p.exts, .int .i64 p.longest, .slice A p.hols.length c, .int .i64 s.phase, .int .i64 s.last, .int .i64 s.deadline, .int .i64 s.object, .int .i64 s.objected, .int .i64 s.extended] _ h8.out.range Tryd.underlying75 rfl stSize ?_))
      refine (act_any A c p s a _ (hN.out.below hb2.out).hols (hN.out.below hb2.out).tab hok x2).mono ?_
      rintro e w3 ⟨he, hb3⟩
      rw [hrz.out] at he
      subst he
      clear a0 a1 a2 q2
      have l4 := Lib.hid (k4.out.below hb3)
      have hb3' := Lib.hid (below_step hb2.out hb3)
      clear hb3
      go_wp2_with ((refine wpList_store_box rfl 47 (.tmp 6) (.tmp 34) rfl (w.heap.size + 1 + 1 + 1) _ [.string ⟨#[]⟩, .int .i64 0, .slice none 0 0] (by rfl) (by rfl) l4.out rfl ntSize (by kernel_rfl) ?_; intro w6 h6 hg6); have hb6 := Lib.hid (below_of_grownB hb3'.out hg6 (by omega)))
      (try simp only [Exit.inBlock, Exit.then])
      refine bodyPost_ret (results_mid2 rfl _ _ (w.heap.size + 1 + 1 + 1) [.string ⟨#[]⟩, .int .i64 0, .slice none 0 0] _ rfl h6.range Tryd.underlying47 rfl ntSize) rfl ⟨by rfl, hb6.out⟩
  · have hbeh := fun w1 h => behind_bad A c p N d n w1 h hc
    have hC : Cal.addE p n a = (Cal.checkS p n).2 := by unfold Cal.addE; rw [if_neg hc]
    rw [hC]
    have hE1 : ((Cal.checkS p n).2 != 0) = true := by simpa using hc
    have hE2 : ((Cal.checkS p n).2 == 0) = false := by simpa using hc
    clear hC hE hc hst
    generalize (Cal.checkS p n).2 = E at *
    have hbeh := Lib.hid hbeh
    obtain ⟨h1, h2, h3, h4, hb⟩ := start4 w A c p N d n a
    have c0 := h2.out.c 0 _ rfl
    have c1 := h2.out.c 1 _ rfl
    have c2 := h2.out.c 2 _ rfl
    go_enter Tryd.func15, Tryd.ntmps15
    go_wp2_with (refine wpPr h1.out (.tmp 3) rfl ?_)
    clear c0 c1 c2
    refine (hbeh.out _ (hN.out.below hb.out)).mono ?_
    rintro e w1 ⟨he, hb1⟩
    subst he
    have hbw := Lib.hid (below_step hb.out hb1)
    have g2 := Lib.hid (h2.out.below hb1)
    have g3 := Lib.hid (h3.out.below hb1)
    have g4 := Lib.hid (h4.out.below hb1)
    have hz := (h4.out.below hb1).lt
    have hN8 := Lib.hid (BoxAt.new w1 #[.int .i64 0, .int .i64 0, .bool false, .int .i64 0, .int .i64 0, .bool false, .int .i64 0, .int .i64 0, .bool false, .int .i64 0, .int .i64 0, .slice none 0 0, .int .i64 0, .int .i64 0, .int .i64 0, .int .i64 0, .int .i64 0, .int .i64 0] 75)
    clear hb1 h1 h2 h3 h4 hb
    go_wp2_with (first | ((refine wpList_store_box rfl 75 (.tmp 8) (.tmp 14) rfl (w1.heap.size) _ [.int .i64 0, .int .i64 0, .bool false, .int .i64 0, .int .i64 0, .bool false, .int .i64 0, .int .i64 0, .bool false, .int .i64 0, .int .i64 0, .slice none 0 0, .int .i64 0, .int .i64 0, .int .i64 0, .int .i64 0, .int .i64 0, .int .i64 0] (by rfl) (by rfl) hN8.out rfl stSize (by kernel_rfl) ?_; intro w2 h8 hg8); have hb12 := below_of_grownB (below_alloc w1 _) hg8 (Nat.le_refl _); have hb2 := Lib.hid (below_step hbw.out hb12); have k2 := Lib.hid (g2.out.below hb12); have k3 := Lib.hid (g3.out.below hb12); have k4 := Lib.hid (g4.out.below hb12); have h8 := Lib.hid h8; have q2 := k2.out.c 2 _ rfl; have a0 := k3.out.c 0 _ rfl; have a1 := k3.out.c 1 _ rfl; have a2 := k3.out.c 2 _ rfl; clear hb12 hg8) | ((refine wpList_store_box rfl 47 (.tmp 6) (.tmp 34) rfl (w.heap.size + 1 + 1 + 1) _ [.string ⟨#[]⟩, .int .i64 0, .slice none 0 0] (by rfl) (by rfl) k4.out rfl ntSize (by kernel_rfl) ?_; intro w6 h6 hg6); have hb6 := Lib.hid (below_of_grownB hb2.out hg6 (by omega))))
    (try simp only [Exit.inBlock, Exit.then])
    refine bodyPost_ret (results_mid2 rfl _ _ (w.heap.size + 1 + 1 + 1) [.string ⟨#[]⟩, .int .i64 0, .slice none 0 0] _ rfl h6.range Tryd.underlying47 rfl ntSize) rfl ⟨by rfl, hb6.out⟩
end Go.Proofs.YtconnjkkgaapbaaDoor
namespace Go.Proofs.YtconnjkkgaapbaaDoor
open Go Go.RowKit
theorem Cal.addFrom_ge {l : List Hol} : ∀ (f : Nat) (d left x : Int), Cal.addFrom l 1 f d left = some x → d ≤ x ∧ Cal.worksB l x = true
  | 0, _, _, _, h => by cases h
  | f + 1, d, left, x, h => by
    unfold Cal.addFrom at h
    split at h
    · split at h
      · rename_i hw
        split at h
        · cases h; exact ⟨Int.le_refl _, hw⟩
        · have := Cal.addFrom_ge f _ _ _ h; exact ⟨by omega, this.2⟩
      · have := Cal.addFrom_ge f _ _ _ h; exact ⟨by omega, this.2⟩
    · cases h
theorem Cal.addW_ge {l : List Hol} {day n x : Int} (n0 : 0 ≤ n) (h : Cal.addW l day n = some x) : day ≤ x ∧ Cal.worksB l x = true := by
  unfold Cal.addW at h
  split at h
  · exact Cal.addFrom_ge _ _ _ _ h
  · rw [if_neg (by omega)] at h
    have := Cal.addFrom_ge _ _ _ _ h; exact ⟨by omega, this.2⟩
theorem Cal.laterS_ge {day m : Int} (d0 : 0 ≤ day) (d1 : day ≤ 200000) (m0 : 0 ≤ m) (h : (Cal.laterS day m).2 = true) : day ≤ (Cal.laterS day m).1 := by
  rw [Cal.laterS_eq] at h ⊢
  split
  · have := Cal.mval_mono (Cal.dD_pos d0 d1) (show Cal.idx day ≤ Cal.idx day + m by omega)
    rw [Cal.mval_idx d0 d1] at this
    exact this
  · rename_i hn; rw [if_neg hn] at h; cases h
theorem Cal.dlFrom_ge {l : List Hol} {day m d x : Int} {k : Bool} (d0 : 0 ≤ day) (d1 : day ≤ 200000) (m0 : 0 ≤ m) (q0 : 0 ≤ d) (h : Cal.dlFrom l day m d k = some x) : day ≤ x ∧ Cal.worksB l x = true := by
  unfold Cal.dlFrom at h
  split at h
  · rename_i hl
    have := Cal.laterS_ge d0 d1 m0 hl
    split at h
    · have := Cal.addW_ge q0 h; exact ⟨by omega, this.2⟩
    · split at h
      · have := Cal.addW_ge (Int.le_refl 0) h; exact ⟨by omega, this.2⟩
      · cases h
  · cases h
theorem Cal.dlS_ok {l : List Hol} {day m d : Int} {k : Bool} (h : (Cal.dlS l day m d k).2 = 0) : Cal.holsErr l = 0 ∧ 0 ≤ day ∧ day ≤ 200000 ∧ Cal.perE m d k = 0 ∧ Cal.dlFrom l day m d k = some (Cal.dlS l day m d k).1 := by
  by_cases h0 : Cal.holsErr l = 0
  · by_cases hd : 0 ≤ day ∧ day ≤ 200000
    · by_cases hp : Cal.perE m d k = 0
      · cases hx : Cal.dlFrom l day m d k with
        | none => unfold Cal.dlS at h; rw [if_pos h0, if_pos hd, if_pos hp, hx] at h; simp at h
        | some x => exact ⟨h0, hd.1, hd.2, hp, by unfold Cal.dlS; rw [if_pos h0, if_pos hd, if_pos hp, hx]⟩
      · unfold Cal.dlS at h; rw [if_pos h0, if_pos hd, if_neg hp] at h; exact absurd h hp
    · unfold Cal.dlS at h; rw [if_pos h0, if_neg hd] at h; simp at h
  · unfold Cal.dlS at h; rw [if_neg h0] at h; exact absurd h h0
theorem Cal.dlS_ge {l : List Hol} {day m d : Int} {k : Bool} (h : (Cal.dlS l day m d k).2 = 0) : day ≤ (Cal.dlS l day m d k).1 ∧ Cal.worksB l (Cal.dlS l day m d k).1 = true := by
  obtain ⟨_, d0, d1, hp, hx⟩ := Cal.dlS_ok h
  obtain ⟨m0, _, q0, _, _⟩ := Cal.perE_ok hp
  exact Cal.dlFrom_ge d0 d1 m0 q0 hx
theorem Cal.addWorkingS_ok {l : List Hol} {day n : Int} (h : (Cal.addWorkingS l day n).2 = 0) : Cal.holsErr l = 0 ∧ 0 ≤ day ∧ day ≤ 200000 ∧ Cal.addW l day n = some (Cal.addWorkingS l day n).1 := by
  by_cases h0 : Cal.holsErr l = 0
  · by_cases hd : 0 ≤ day ∧ day ≤ 200000 ∧ -2000 ≤ n ∧ n ≤ 2000
    · cases hx : Cal.addW l day n with
      | none => unfold Cal.addWorkingS at h; rw [if_pos h0, if_pos hd, hx] at h; simp at h
      | some x => exact ⟨h0, hd.1, hd.2.1, by unfold Cal.addWorkingS; rw [if_pos h0, if_pos hd, hx]⟩
    · unfold Cal.addWorkingS at h; rw [if_pos h0, if_neg hd] at h; simp at h
  · unfold Cal.addWorkingS at h; rw [if_neg h0] at h; exact absurd h h0
theorem Cal.addWorkingS_ge {l : List Hol} {day : Int} (h : (Cal.addWorkingS l day 0).2 = 0) : day ≤ (Cal.addWorkingS l day 0).1 ∧ Cal.worksB l (Cal.addWorkingS l day 0).1 = true :=
  Cal.addW_ge (Int.le_refl 0) (Cal.addWorkingS_ok h).2.2.2
/-- What a state keeps, of its deadline. -/
structure StIn (s : NSt) : Prop where
  run : s.phase = 1 → s.last ≤ s.deadline
  con : s.phase = 3 → s.objected ≤ s.deadline
  five : s.phase ≤ 5
theorem StIn.openSt (d : Int) : StIn (Cal.openSt d) := ⟨fun h => absurd h (by simp [Cal.openSt]), fun h => absurd h (by simp [Cal.openSt]), by simp [Cal.openSt]⟩
theorem Cal.accB_4 {ph : Int} (h : Cal.accB ph 4 = true) : ph = 3 := by simpa [Cal.accB] using h
theorem Cal.accB_6 {ph : Int} (h : Cal.accB ph 6 = true) : ph = 1 := by simpa [Cal.accB] using h
theorem StIn.act {p : Proc} {s : NSt} {a : NAct} (hs : StIn s) (h : (Cal.actS p s a).2 = 0) : StIn (Cal.actS p s a).1 := by
  obtain ⟨h1, h2⟩ := Cal.actS_ok h
  obtain ⟨hf, _, hacc, hlate, hobj, _⟩ := Cal.mayErr_ok h1
  obtain ⟨a0, a1, k0, k1, hd6, _⟩ := Cal.formErr_ok hf
  rw [h2] at h ⊢
  unfold Cal.doneS at h ⊢
  by_cases k02 : a.kind = 0 ∨ a.kind = 2
  · rw [if_pos k02] at h ⊢
    simp only at h ⊢
    split at h
    · rename_i hh
      exact ⟨fun _ => (Cal.dlS_ge hh.1).1, fun e => absurd e (by simp), by simp⟩
    · simp at h
  · rw [if_neg k02] at h ⊢
    by_cases q1 : a.kind = 1
    · rw [if_pos q1]; exact ⟨fun e => absurd e (by simp), fun e => absurd e (by simp), by simp⟩
    · rw [if_neg q1] at h ⊢
      by_cases q3 : a.kind = 3
      · rw [if_pos q3]
        refine ⟨fun e => absurd e (by simp), fun _ => ?_, by simp⟩
        show a.day ≤ s.deadline
        have : ¬ (min s.object s.deadline < a.day) := fun hh => hobj ⟨q3, hh⟩
        omega
      · rw [if_neg q3] at h ⊢
        by_cases q4 : a.kind = 4
        · rw [if_pos q4] at h ⊢
          rw [q4] at hacc
          have h3 := hs.con (Cal.accB_4 hacc)
          have h5 := (Cal.addWorkingS_ge h).1
          refine ⟨fun _ => ?_, fun e => absurd e (by simp), by simp⟩
          show a.day ≤ (Cal.addWorkingS p.hols (s.deadline + (a.day - s.objected)) 0).1
          omega
        · rw [if_neg q4] at h ⊢
          by_cases q6 : a.kind = 6
          · rw [if_pos q6] at h ⊢
            rw [q6] at hacc
            have h3 := Cal.accB_6 hacc
            have h5 := (Cal.addWorkingS_ge h).1
            have h6 := (hd6 q6).1
            have h7 : a.day ≤ s.deadline := by
              rcases Int.lt_or_le s.deadline a.day with x | x
              · exact absurd ⟨h3, x⟩ hlate
              · exact x
            refine ⟨fun _ => ?_, fun e => ?_, hs.five⟩
            · show a.day ≤ (Cal.addWorkingS p.hols (s.deadline + a.days) 0).1
              omega
            · have e : s.phase = 3 := e
              omega
          · rw [if_neg q6] at h ⊢
            split
            · exact ⟨fun e => absurd e (by simp), fun e => absurd e (by simp), by simp⟩
            · exact ⟨fun e => absurd e (by simp), fun e => absurd e (by simp), by simp⟩
theorem Cal.runS_last {p : Proc} : ∀ {l : List NAct} {s : NSt} {i : Nat}, (Cal.runS p l s i).2.2 = 0 → s.last ≤ (Cal.runS p l s i).1.last
  | [], _, _, _ => Int.le_refl _
  | a :: l, s, i, h => by
    obtain ⟨h1, h2⟩ := Cal.runS_cons.1 h
    have hl := Cal.actS_last h1
    have := Cal.runS_last h2
    rw [Cal.runS_more, if_pos h1]
    omega
theorem Cal.atS_all {p : Proc} {day : Int} : ∀ {l : List NAct} {s : NSt} {i : Nat}, (Cal.runS p l s i).2.2 = 0 → (Cal.runS p l s i).1.last ≤ day → Cal.atS p day l s = (Cal.runS p l s i).1
  | [], _, _, _, _ => rfl
  | a :: l, s, i, h, hd => by
    obtain ⟨h1, h2⟩ := Cal.runS_cons.1 h
    have hl := Cal.actS_last h1
    have h3 := Cal.runS_last h2
    rw [Cal.runS_more, if_pos h1] at hd ⊢
    unfold Cal.atS
    rw [if_pos (by omega)]
    exact Cal.atS_all h2 hd
theorem Cal.runS_st {p : Proc} (he : p.exts ≤ 12) : ∀ {l : List NAct} {s : NSt} {i : Nat}, (Cal.runS p l s i).2.2 = 0 → StOk s → StIn s → StOk (Cal.runS p l s i).1 ∧ StIn (Cal.runS p l s i).1
  | [], _, _, _, h1, h2 => ⟨h1, h2⟩
  | a :: l, s, i, h, k1, k2 => by
    obtain ⟨h1, h2⟩ := Cal.runS_cons.1 h
    rw [Cal.runS_more, if_pos h1]
    exact Cal.runS_st he h2 (k1.act he h1) (k2.act h1)
/-- The state behind all acts of a notice that is right. -/
theorem Cal.end_ok {p : Proc} {n : Note} (h : (Cal.checkS p n).2 = 0) :
    StOk (Cal.stAt p n 200000) ∧ StIn (Cal.stAt p n 200000) ∧ n.opened ≤ (Cal.stAt p n 200000).last ∧ Cal.stAt p n 200000 = (Cal.runS p n.acts (Cal.openSt n.opened) 0).1 ∧ ∀ day, (Cal.stAt p n 200000).last ≤ day → Cal.stAt p n day = Cal.stAt p n 200000 := by
  obtain ⟨hp, _, o0, o1, _, hrun⟩ := Cal.checkS_ok h
  obtain ⟨_, _, _, _, x1, _, _, _⟩ := Cal.procErr_ok hp
  have hst := Cal.runS_st x1 hrun (StOk.openSt o0 o1) (StIn.openSt n.opened)
  have he : Cal.stAt p n 200000 = (Cal.runS p n.acts (Cal.openSt n.opened) 0).1 := Cal.atS_all hrun hst.1.l1
  have hl := Cal.runS_last hrun
  rw [he]
  exact ⟨hst.1, hst.2, hl, rfl, fun day hd => Cal.atS_all hrun hd⟩
/-- The notice has expired on the day from which it may be acted on. -/
theorem Cal.exp_phase {p : Proc} {n : Note} {x : Int} (h : Cal.expS p n = (x, 0)) : Cal.phaseS p n x = (6, 0) := by
  unfold Cal.expS at h
  by_cases hE : (Cal.checkS p n).2 = 0
  · rw [if_pos hE] at h
    obtain ⟨h1, h2, h3, _, h5⟩ := Cal.end_ok hE
    by_cases hp : (Cal.stAt p n 200000).phase = 1
    · rw [if_pos hp] at h
      split at h
      · rename_i hd
        have hge := (Cal.dlS_ge hd.1).1
        have hx : (Cal.dlS p.hols (Cal.stAt p n 200000).deadline p.wait.m p.wait.d p.wait.k).1 + 1 = x := (Prod.mk.inj h).1
        have hr := h2.run hp
        have l0 := h1.l0
        have hs := h5 x (by omega)
        unfold Cal.phaseS
        have ho : Cal.onE p n x = 0 := by unfold Cal.onE; rw [if_pos hE, if_pos ⟨by omega, by omega⟩, if_neg (by omega)]
        rw [if_pos ho, hs, if_pos ⟨hp, by omega⟩]
      · exact absurd (Prod.mk.inj h).2 (by omega)
    · rw [if_neg hp] at h
      exact absurd (Prod.mk.inj h).2 (by omega)
  · rw [if_neg hE] at h
    exact absurd (Prod.mk.inj h).2 hE
/-! One more act. -/
def Note.more (n : Note) (a : NAct) : Note := ⟨n.name, n.opened, n.acts ++ [a]⟩
theorem Cal.runS_add {p : Proc} {a : NAct} : ∀ {l : List NAct} {s : NSt} {i : Nat}, (Cal.runS p l s i).2.2 = 0 → (Cal.actS p (Cal.runS p l s i).1 a).2 = 0 → Cal.runS p (l ++ [a]) s i = ((Cal.actS p (Cal.runS p l s i).1 a).1, 0, 0)
  | [], s, i, _, h => by
    show Cal.runS p [a] s i = ((Cal.actS p s a).1, 0, 0)
    have h : (Cal.actS p s a).2 = 0 := h
    rw [Cal.runS_more, if_pos h]
    rfl
  | b :: l, s, i, h, ha => by
    obtain ⟨h1, h2⟩ := Cal.runS_cons.1 h
    have e : ∀ j, Cal.runS p (b :: l) s j = Cal.runS p l (Cal.actS p s b).1 (j + 1) := fun j => by rw [Cal.runS_more, if_pos h1]
    rw [e] at ha ⊢
    rw [List.cons_append, Cal.runS_more, if_pos h1]
    exact Cal.runS_add h2 ha
theorem Cal.atS_add {p : Proc} {day : Int} {a : NAct} (hd : day < a.day) : ∀ {l : List NAct} {s : NSt}, Cal.atS p day (l ++ [a]) s = Cal.atS p day l s
  | [], s => by
    show Cal.atS p day [a] s = s
    unfold Cal.atS
    rw [if_neg (by omega)]
  | b :: l, s => by
    rw [List.cons_append]
    unfold Cal.atS
    rw [Cal.atS_add hd]
theorem Cal.addE_ok {p : Proc} {n : Note} {a : NAct} (h : Cal.addE p n a = 0) : (Cal.checkS p n).2 = 0 ∧ n.acts.length < 40 ∧ (Cal.actS p (Cal.stAt p n 200000) a).2 = 0 := by
  unfold Cal.addE at h
  split at h
  · rename_i h0
    split at h
    · omega
    · exact ⟨h0, by omega, h⟩
  · rename_i h0; exact absurd h h0
theorem Cal.more_ok {p : Proc} {n : Note} {a : NAct} (h : Cal.addE p n a = 0) :
    Cal.checkS p (n.more a) = (0, 0) ∧ (Cal.stAt p n 200000).last ≤ a.day ∧ Cal.stAt p (n.more a) 200000 = (Cal.actS p (Cal.stAt p n 200000) a).1 ∧ (Cal.actS p (Cal.stAt p n 200000) a).1.last = a.day := by
  obtain ⟨hv, hlen, ha⟩ := Cal.addE_ok h
  obtain ⟨hp, hn, o0, o1, _, hrun⟩ := Cal.checkS_ok hv
  obtain ⟨_, _, _, he, _⟩ := Cal.end_ok hv
  obtain ⟨hl1, hl2⟩ := Cal.actS_last ha
  have ha' := ha
  rw [he] at ha'
  have hadd := Cal.runS_add hrun ha'
  have hc : Cal.checkS p (n.more a) = (0, 0) := by
    unfold Cal.checkS
    rw [if_pos hp]
    unfold Cal.noteS
    rw [show (n.more a).name = n.name from rfl, hn, if_pos rfl, show (n.more a).opened = n.opened from rfl, if_pos ⟨o0, o1⟩, show (n.more a).acts = n.acts ++ [a] from rfl, if_pos (by simp; omega), hadd]
    rfl
  have hc2 : (Cal.checkS p (n.more a)).2 = 0 := by rw [hc]
  obtain ⟨_, _, _, he2, _⟩ := Cal.end_ok hc2
  refine ⟨hc, hl2, ?_, hl1⟩
  rw [he2, he]
  show (Cal.runS p (n.acts ++ [a]) (Cal.openSt n.opened) 0).1 = _
  rw [hadd]
/-- An act that is added later changes no phase of the days before it. -/
theorem Cal.more_phase {p : Proc} {n : Note} {a : NAct} (h : Cal.addE p n a = 0) {day : Int} (h0 : n.opened ≤ day) (h1 : day < a.day) : ∃ x, Cal.phaseS p n day = (x, 0) ∧ Cal.phaseS p (n.more a) day = (x, 0) := by
  obtain ⟨hv, hlen, ha⟩ := Cal.addE_ok h
  obtain ⟨hp, hn, o0, o1, _, hrun⟩ := Cal.checkS_ok hv
  obtain ⟨hc, _, _, _⟩ := Cal.more_ok h
  obtain ⟨hm, _⟩ := Cal.actS_ok ha
  obtain ⟨_, a1, _⟩ := Cal.formErr_ok (Cal.mayErr_ok hm).1
  have e1 : Cal.onE p n day = 0 := by unfold Cal.onE; rw [if_pos hv, if_pos ⟨by omega, by omega⟩, if_neg (by omega)]
  have e2 : Cal.onE p (n.more a) day = 0 := by
    unfold Cal.onE
    rw [if_pos (by rw [hc]), if_pos ⟨by omega, by omega⟩, if_neg (by show ¬ day < n.opened; omega)]
  have hs : Cal.stAt p (n.more a) day = Cal.stAt p n day := Cal.atS_add h1
  refine ⟨(Cal.phaseS p n day).1, ?_, ?_⟩
  · unfold Cal.phaseS; rw [if_pos e1]; split <;> rfl
  · unfold Cal.phaseS; rw [if_pos e1, if_pos e2, hs]; split <;> rfl
/-- A deadline that an act moves. -/
theorem Cal.more_moves {p : Proc} {n : Note} {a : NAct} (h : Cal.addE p n a = 0) (h6 : a.kind = 6) : ∃ x y, Cal.dlAtS p n a.day = (x, 0) ∧ Cal.dlAtS p (n.more a) a.day = (y, 0) ∧ x ≤ y ∧ 0 ≤ y ∧ y ≤ 200000 ∧ Cal.holsErr p.hols = 0 ∧ Cal.worksB p.hols y = true := by
  obtain ⟨hv, hlen, ha⟩ := Cal.addE_ok h
  obtain ⟨hc, hla, hmo, hl2⟩ := Cal.more_ok h
  obtain ⟨hok, _, ho, _, hall⟩ := Cal.end_ok hv
  have hc2 : (Cal.checkS p (n.more a)).2 = 0 := by rw [hc]
  obtain ⟨_, _, _, _, hall2⟩ := Cal.end_ok hc2
  obtain ⟨hm, hdo⟩ := Cal.actS_ok ha
  obtain ⟨hf, _, hacc, _, _, _⟩ := Cal.mayErr_ok hm
  obtain ⟨a0, a1, _, _, hd6, _⟩ := Cal.formErr_ok hf
  rw [h6] at hacc
  have hph := Cal.accB_6 hacc
  have s1 := hall a.day hla
  have s2 := hall2 a.day (by rw [hmo, hl2]; omega)
  rw [hmo] at s2
  have e1 : Cal.onE p n a.day = 0 := by unfold Cal.onE; rw [if_pos hv, if_pos ⟨a0, a1⟩, if_neg (by omega)]
  have e2 : Cal.onE p (n.more a) a.day = 0 := by
    unfold Cal.onE
    rw [if_pos hc2, if_pos ⟨a0, a1⟩, if_neg (by show ¬ a.day < n.opened; omega)]
  have hd : Cal.doneS p (Cal.stAt p n 200000) a = ({ Cal.stAt p n 200000 with last := a.day, extended := (Cal.stAt p n 200000).extended + 1, deadline := (Cal.addWorkingS p.hols ((Cal.stAt p n 200000).deadline + a.days) 0).1 }, (Cal.addWorkingS p.hols ((Cal.stAt p n 200000).deadline + a.days) 0).2) := by
    unfold Cal.doneS
    simp [h6]
  rw [hdo, hd] at s2
  have hw : (Cal.addWorkingS p.hols ((Cal.stAt p n 200000).deadline + a.days) 0).2 = 0 := by rw [hdo, hd] at ha; exact ha
  obtain ⟨g1, g2⟩ := Cal.addWorkingS_ge hw
  have g3 := Cal.addWorkingS_day p.hols ((Cal.stAt p n 200000).deadline + a.days) 0
  have hd1 := (hd6 h6).1
  refine ⟨(Cal.stAt p n 200000).deadline, _, ?_, ?_, ?_, g3.1, g3.2, (Cal.addWorkingS_ok hw).1, g2⟩
  · unfold Cal.dlAtS; rw [if_pos e1, s1, if_pos hph]
  · unfold Cal.dlAtS; rw [if_pos e2, s2, if_pos hph]
  · omega
theorem Cal.phase_max {p : Proc} {n : Note} (hv : (Cal.checkS p n).2 = 0) : (Cal.phaseS p n 200000).2 = 0 ∧
    (((Cal.phaseS p n 200000).1 = 1 ∨ (Cal.phaseS p n 200000).1 = 6) ∧ (Cal.stAt p n 200000).phase = 1 ∨ (Cal.phaseS p n 200000).1 = (Cal.stAt p n 200000).phase ∧ (Cal.stAt p n 200000).phase ≠ 1 ∧ 0 ≤ (Cal.stAt p n 200000).phase ∧ (Cal.stAt p n 200000).phase ≤ 5) := by
  obtain ⟨hok, hin, ho, _, _⟩ := Cal.end_ok hv
  have l1 := hok.l1
  have e1 : Cal.onE p n 200000 = 0 := by unfold Cal.onE; rw [if_pos hv, if_pos ⟨by omega, by omega⟩, if_neg (by omega)]
  unfold Cal.phaseS
  rw [if_pos e1]
  by_cases h1 : (Cal.stAt p n 200000).phase = 1
  · split
    · exact ⟨rfl, .inl ⟨.inr rfl, h1⟩⟩
    · exact ⟨rfl, .inl ⟨.inl h1, h1⟩⟩
  · rw [if_neg (fun h => h1 h.1)]
    exact ⟨rfl, .inr ⟨rfl, h1, hok.p0, hin.five⟩⟩
theorem Cal.over_add {p : Proc} {n : Note} {a : NAct} (h : (Cal.stAt p n 200000).phase = 4 ∨ (Cal.stAt p n 200000).phase = 5) : Cal.addE p n a ≠ 0 := by
  intro hE
  obtain ⟨_, _, ha⟩ := Cal.addE_ok hE
  obtain ⟨hm, _⟩ := Cal.actS_ok ha
  have hacc := (Cal.mayErr_ok hm).2.2.1
  unfold Cal.accB at hacc
  rcases h with h | h <;> rw [h] at hacc <;> simp at hacc <;> omega
theorem Cal.exp_state {p : Proc} {n : Note} (hv : (Cal.checkS p n).2 = 0) (h : (Cal.stAt p n 200000).phase ≠ 1) : (Cal.expS p n).2 = 28 := by
  unfold Cal.expS; rw [if_pos hv, if_neg h]
theorem Cal.exp_run {p : Proc} {n : Note} (hv : (Cal.checkS p n).2 = 0) (h : (Cal.stAt p n 200000).phase = 1) : (Cal.expS p n).2 = 0 ∨ (Cal.expS p n).2 = 2 := by
  unfold Cal.expS; rw [if_pos hv, if_pos h]
  split
  · exact .inl rfl
  · exact .inr rfl
end Go.Proofs.YtconnjkkgaapbaaDoor
namespace Go.Proofs.YtconnjkkgaapbaaDoor
open Go Go.RowKit
def bareNote (day : Int) : Note := ⟨nName, day, []⟩
def servAct (day : Int) : NAct := ⟨day, 0, 0⟩
theorem nName_ok : nameB nName = true := by decide +kernel
theorem Cal.bare_ok {p : Proc} {day : Int} (hp : Cal.procErr p = 0) (d0 : 0 ≤ day) (d1 : day ≤ 200000) : Cal.checkS p (bareNote day) = (0, 0) := by
  unfold Cal.checkS
  rw [if_pos hp]
  unfold Cal.noteS bareNote
  rw [nName_ok, if_pos rfl, if_pos ⟨d0, d1⟩, if_pos (by simp)]
  rfl
theorem Cal.bare_act {p : Proc} {day : Int} (d0 : 0 ≤ day) (d1 : day ≤ 200000) : Cal.actS p (Cal.openSt day) (servAct day) = (⟨1, day, (Cal.dlS p.hols day p.runs.m p.runs.d p.runs.k).1, (Cal.dlS p.hols day p.obj.m p.obj.d p.obj.k).1, 0, 0⟩,
    if (Cal.dlS p.hols day p.runs.m p.runs.d p.runs.k).2 = 0 ∧ (Cal.dlS p.hols day p.obj.m p.obj.d p.obj.k).2 = 0 then 0 else 2) := by
  have hf : Cal.formErr p (servAct day) = 0 := by
    unfold Cal.formErr servAct
    simp only
    rw [if_pos ⟨d0, d1⟩, if_pos ⟨by omega, by omega⟩, if_neg (by omega), if_pos trivial]
  have hm : Cal.mayErr p (Cal.openSt day) (servAct day) = 0 := by
    unfold Cal.mayErr
    rw [if_pos hf, if_neg (by simp [Cal.openSt, servAct]), if_pos (by simp [Cal.accB, Cal.openSt, servAct]), if_neg (by simp [Cal.openSt]), if_neg (by simp [servAct]), if_neg (by simp [servAct])]
  unfold Cal.actS
  rw [if_pos hm]
  unfold Cal.doneS
  rw [if_pos (.inl rfl)]
  rfl
theorem Cal.bare_add {p : Proc} {day : Int} (hp : Cal.procErr p = 0) (d0 : 0 ≤ day) (d1 : day ≤ 200000) : Cal.addE p (bareNote day) (servAct day) = if (Cal.dlS p.hols day p.runs.m p.runs.d p.runs.k).2 = 0 ∧ (Cal.dlS p.hols day p.obj.m p.obj.d p.obj.k).2 = 0 then 0 else 2 := by
  unfold Cal.addE
  rw [if_pos (by rw [Cal.bare_ok hp d0 d1]), if_neg (by simp [bareNote])]
  show (Cal.actS p (Cal.openSt day) (servAct day)).2 = _
  rw [Cal.bare_act d0 d1]
/-- All that the statement says of a notice that has been served. -/
structure Dead (p : Proc) (day : Int) (n : Note) (D O : Int) : Prop where
  ok : Cal.checkS p n = (0, 0)
  dl : Cal.dlAtS p n day = (D, 0)
  obj : Cal.objS p n day = (min O D, 0)
  onDay : min O D < 200000 → Cal.addE p n ⟨min O D, 3, 0⟩ = 0
  late : min O D < 200000 → Cal.addE p n ⟨min O D + 1, 3, 0⟩ = 21
  exp : Cal.expS p n = if (Cal.dlS p.hols D p.wait.m p.wait.d p.wait.k).2 = 0 ∧ (Cal.dlS p.hols D p.wait.m p.wait.d p.wait.k).1 < 200000 then ((Cal.dlS p.hols D p.wait.m p.wait.d p.wait.k).1 + 1, 0) else (0, 2)
  works : (Cal.dlS p.hols D p.wait.m p.wait.d p.wait.k).2 = 0 → Cal.isWorkB p.hols (Cal.dlS p.hols D p.wait.m p.wait.d p.wait.k).1 = true ∧ Cal.isWorkE p.hols (Cal.dlS p.hols D p.wait.m p.wait.d p.wait.k).1 = 0
  d0 : 0 ≤ D
  d1 : D ≤ 200000
  o0 : 0 ≤ O
  o1 : O ≤ 200000
theorem Cal.dead {p : Proc} {day : Int} (hp : Cal.procErr p = 0) (d0 : 0 ≤ day) (d1 : day ≤ 200000) (h1 : (Cal.dlS p.hols day p.runs.m p.runs.d p.runs.k).2 = 0) (h2 : (Cal.dlS p.hols day p.obj.m p.obj.d p.obj.k).2 = 0) :
    Dead p day ((bareNote day).more (servAct day)) (Cal.dlS p.hols day p.runs.m p.runs.d p.runs.k).1 (Cal.dlS p.hols day p.obj.m p.obj.d p.obj.k).1 := by
  have hadd : Cal.addE p (bareNote day) (servAct day) = 0 := by rw [Cal.bare_add hp d0 d1, if_pos ⟨h1, h2⟩]
  obtain ⟨hc, _, hmo, _⟩ := Cal.more_ok hadd
  have hc2 : (Cal.checkS p ((bareNote day).more (servAct day))).2 = 0 := by rw [hc]
  obtain ⟨_, _, _, _, hall⟩ := Cal.end_ok hc2
  have hbare : Cal.stAt p (bareNote day) 200000 = Cal.openSt day := rfl
  rw [hbare, Cal.bare_act d0 d1] at hmo
  have g1 := (Cal.dlS_ge h1).1
  have g2 := (Cal.dlS_ge h2).1
  have b1 := Cal.dlS_day p.hols day p.runs.m p.runs.d p.runs.k
  have b2 := Cal.dlS_day p.hols day p.obj.m p.obj.d p.obj.k
  generalize (Cal.dlS p.hols day p.runs.m p.runs.d p.runs.k).1 = D at *
  generalize (Cal.dlS p.hols day p.obj.m p.obj.d p.obj.k).1 = O at *
  have hmo : Cal.stAt p ((bareNote day).more (servAct day)) 200000 = ⟨1, day, D, O, 0, 0⟩ := hmo
  have hsd := hall day (by rw [hmo]; exact Int.le_refl _)
  rw [hmo] at hsd
  have hlen : ¬ (40 ≤ ((bareNote day).more (servAct day)).acts.length) := by simp [Note.more, bareNote]
  have hop : ((bareNote day).more (servAct day)).opened = day := rfl
  generalize (bareNote day).more (servAct day) = n at *
  have ho : Cal.onE p n day = 0 := by unfold Cal.onE; rw [if_pos hc2, if_pos ⟨d0, d1⟩, hop, if_neg (by omega)]
  have hform : ∀ x, 0 ≤ x → x ≤ 200000 → Cal.formErr p ⟨x, 3, 0⟩ = 0 := fun x x0 x1 => by
    unfold Cal.formErr
    simp only
    rw [if_pos ⟨x0, x1⟩, if_pos ⟨by omega, by omega⟩, if_neg (by omega), if_pos trivial]
  have hmay : ∀ x, day ≤ x → x ≤ 200000 → Cal.mayErr p ⟨1, day, D, O, 0, 0⟩ ⟨x, 3, 0⟩ = if D < x ∨ min O D < x then 21 else 0 := fun x x0 x1 => by
    unfold Cal.mayErr
    rw [if_pos (hform x (by omega) x1), if_neg (show ¬ x < day by omega), if_pos (by rfl)]
    by_cases q1 : D < x
    · rw [if_pos ⟨rfl, q1⟩, if_pos (.inl q1)]
    · rw [if_neg (fun h => q1 h.2)]
      by_cases q2 : min O D < x
      · rw [if_pos ⟨rfl, q2⟩, if_pos (.inr q2)]
      · rw [if_neg (fun h => q2 h.2), if_neg (fun h => absurd h.1 (by show ¬ (3 : Int) = 6; omega)), if_neg (fun h => h.elim q1 q2)]
  refine ⟨hc, ?_, ?_, fun hlt => ?_, fun hlt => ?_, ?_, fun hw => ?_, b1.1, b1.2, b2.1, b2.2⟩
  · unfold Cal.dlAtS; rw [if_pos ho, hsd, if_pos rfl]
  · unfold Cal.objS; rw [if_pos ho, hsd, if_pos rfl]
  · unfold Cal.addE
    rw [if_pos hc2, if_neg hlen, hmo]
    unfold Cal.actS
    rw [if_pos (by rw [hmay _ (by omega) (by omega), if_neg (by omega)])]
    unfold Cal.doneS
    simp
  · unfold Cal.addE
    rw [if_pos hc2, if_neg hlen, hmo]
    unfold Cal.actS
    rw [if_neg (by rw [hmay _ (by omega) (by omega), if_pos (by omega)]; omega)]
    show Cal.mayErr p _ _ = 21
    rw [hmay _ (by omega) (by omega), if_pos (by omega)]
  · unfold Cal.expS; rw [if_pos hc2, hmo, if_pos rfl]
  · obtain ⟨hh, _, _, _, _⟩ := Cal.dlS_ok hw
    have hge := (Cal.dlS_ge hw).2
    have hb := Cal.dlS_day p.hols D p.wait.m p.wait.d p.wait.k
    generalize (Cal.dlS p.hols D p.wait.m p.wait.d p.wait.k).1 = y at *
    have hE : Cal.isWorkE p.hols y = 0 := by unfold Cal.isWorkE; rw [if_pos hh, if_pos ⟨hb.1, hb.2⟩]
    refine ⟨?_, hE⟩
    unfold Cal.isWorkB
    rw [if_pos hE, ← Cal.workB_eq (Cal.holsErr_ok hh).1 hb.1 hb.2]
    exact hge
end Go.Proofs.YtconnjkkgaapbaaDoor
