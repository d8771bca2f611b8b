/- Chapter 8 and what it rests on: definitions and walks, part 32. -/
import Derived.Test.YtconnjkkgaapbaaGreatDoorC31
import Derived.Test.YtconnjkkgaapbaaGreatDoorC06
import Derived.Test.YtconnjkkgaapbaaGreatDoorC29
import Derived.Test.YtconnjkkgaapbaaGreatDoorC27
namespace Go.Proofs.YtconnjkkgaapbaaGreatDoor
open Go Go.RowKit
theorem ntSize : (Tryz.prog.info? 29).map (·.size) = some 3 := by kernel_rfl
theorem elemAct : Elem Tryz.prog 27 64 3 24 := Elem.mk' Tryz.underlying27 (z := .agg #[.int .i64 0, .int .i64 0, .int .i64 0]) (by kernel_rfl) rfl (by decide)
theorem actCells_wid (l : List NAct) : ∀ r ∈ l.map NAct.cells, r.length = 3 := fun r hr => by obtain ⟨n, _, rfl⟩ := List.mem_map.1 hr; rfl
theorem actCells_one (l : List NAct) : ∀ r ∈ l.map NAct.cells, ∀ u ∈ r, u.oneCell' = true := fun r hr u hu => by
  obtain ⟨n, _, rfl⟩ := List.mem_map.1 hr
  simp only [NAct.cells, List.mem_cons, List.not_mem_nil, or_false] at hu
  rcases hu with rfl | rfl | rfl <;> rfl
def CloneAPost (w : World) (l : List NAct) (e : Ending) (w' : World) : Prop := ∃ v, e = .returned v ∧ OwnL w' w.heap.size 64 3 v (l.map NAct.cells) ∧ Below w.heap.size w w'
theorem CloneA_any (A : Option Addr) (c : Nat) (l : List NAct) (w : World) (hl : Acts w A l) (hs : l.length ≤ 1000000) :
    Calls Tryz.prog 73 #[.slice A l.length c] w (CloneAPost w l) := by
  cases A with
  | none =>
    have h0 : l = [] := by
      cases l with
      | nil => rfl
      | cons q r => obtain ⟨b, o, hA, _⟩ := hl.rows 0 q.cells rfl; cases hA
    subst h0
    have hnil := fun w => Lib.run_eql_slice_nil (P := Tryz.prog) w 27 64 none 0 c 0 0 Tryz.underlying27
    go_enter Tryz.func73, Tryz.ntmps73
    go_wp2
    go_ret
    exact ⟨_, rfl, OwnL.nil _ _ _ _, Below.refl _ _⟩
  | some a =>
    have hnil := fun w => Lib.run_eql_slice_nil (P := Tryz.prog) w 27 64 (some a) l.length c 0 0 Tryz.underlying27
    have hl' := Lib.hid (fun w1 (h : Below w.heap.size w w1) => hl.below h)
    have hw := Lib.hid (actCells_wid l)
    have h1 := Lib.hid (actCells_one l)
    clear hl
    go_enter Tryz.func73, Tryz.ntmps73
    go_wp2_with (at_builtin; refine wpList_append_rows elemAct rfl _ _ rfl rfl rfl (OwnL.made w w.heap.size _ 3 (Nat.le_refl _)) (hl'.out _ (below_alloc _ _)).rows (List.length_map ..).symm hw.out h1.out (by simp; omega) (by decide) (by simp) ?_; intro v' w1 hown hg _)
    go_ret
    exact ⟨_, rfl, by simpa using hown, (below_alloc _ _).trans (grown_below hg (fun g e => by cases e; exact Nat.le_refl _) (by simp))⟩
theorem start4 (w : World) (A : Option Addr) (c : Nat) (p : Proc) (N : Option Addr) (d : Nat) (n : Note) (a : NAct) : Hid (BoxAt ((((w.alloc (.cells #[.int .i64 p.runs.m, .int .i64 p.runs.d, .bool p.runs.k, .int .i64 p.obj.m, .int .i64 p.obj.d, .bool p.obj.k, .int .i64 p.wait.m, .int .i64 p.wait.d, .bool p.wait.k, .int .i64 p.exts, .int .i64 p.longest, .slice A p.hols.length c] 26)).alloc (.cells #[.string n.name, .int .i64 n.opened, .slice N n.acts.length d] 29)).alloc (.cells #[.int .i64 a.day, .int .i64 a.kind, .int .i64 a.days] 64)).alloc (.cells #[.string ⟨#[]⟩, .int .i64 0, .slice none 0 0] 29)) w.heap.size [.int .i64 p.runs.m, .int .i64 p.runs.d, .bool p.runs.k, .int .i64 p.obj.m, .int .i64 p.obj.d, .bool p.obj.k, .int .i64 p.wait.m, .int .i64 p.wait.d, .bool p.wait.k, .int .i64 p.exts, .int .i64 p.longest, .slice A p.hols.length c]) ∧ Hid (BoxAt ((((w.alloc (.cells #[.int .i64 p.runs.m, .int .i64 p.runs.d, .bool p.runs.k, .int .i64 p.obj.m, .int .i64 p.obj.d, .bool p.obj.k, .int .i64 p.wait.m, .int .i64 p.wait.d, .bool p.wait.k, .int .i64 p.exts, .int .i64 p.longest, .slice A p.hols.length c] 26)).alloc (.cells #[.string n.name, .int .i64 n.opened, .slice N n.acts.length d] 29)).alloc (.cells #[.int .i64 a.day, .int .i64 a.kind, .int .i64 a.days] 64)).alloc (.cells #[.string ⟨#[]⟩, .int .i64 0, .slice none 0 0] 29)) (w.heap.size + 1) [.string n.name, .int .i64 n.opened, .slice N n.acts.length d]) ∧ Hid (BoxAt ((((w.alloc (.cells #[.int .i64 p.runs.m, .int .i64 p.runs.d, .bool p.runs.k, .int .i64 p.obj.m, .int .i64 p.obj.d, .bool p.obj.k, .int .i64 p.wait.m, .int .i64 p.wait.d, .bool p.wait.k, .int .i64 p.exts, .int .i64 p.longest, .slice A p.hols.length c] 26)).alloc (.cells #[.string n.name, .int .i64 n.opened, .slice N n.acts.length d] 29)).alloc (.cells #[.int .i64 a.day, .int .i64 a.kind, .int .i64 a.days] 64)).alloc (.cells #[.string ⟨#[]⟩, .int .i64 0, .slice none 0 0] 29)) (w.heap.size + 1 + 1) [.int .i64 a.day, .int .i64 a.kind, .int .i64 a.days]) ∧ Hid (BoxAt ((((w.alloc (.cells #[.int .i64 p.runs.m, .int .i64 p.runs.d, .bool p.runs.k, .int .i64 p.obj.m, .int .i64 p.obj.d, .bool p.obj.k, .int .i64 p.wait.m, .int .i64 p.wait.d, .bool p.wait.k, .int .i64 p.exts, .int .i64 p.longest, .slice A p.hols.length c] 26)).alloc (.cells #[.string n.name, .int .i64 n.opened, .slice N n.acts.length d] 29)).alloc (.cells #[.int .i64 a.day, .int .i64 a.kind, .int .i64 a.days] 64)).alloc (.cells #[.string ⟨#[]⟩, .int .i64 0, .slice none 0 0] 29)) (w.heap.size + 1 + 1 + 1) [.string ⟨#[]⟩, .int .i64 0, .slice none 0 0]) ∧ Hid (Below w.heap.size w ((((w.alloc (.cells #[.int .i64 p.runs.m, .int .i64 p.runs.d, .bool p.runs.k, .int .i64 p.obj.m, .int .i64 p.obj.d, .bool p.obj.k, .int .i64 p.wait.m, .int .i64 p.wait.d, .bool p.wait.k, .int .i64 p.exts, .int .i64 p.longest, .slice A p.hols.length c] 26)).alloc (.cells #[.string n.name, .int .i64 n.opened, .slice N n.acts.length d] 29)).alloc (.cells #[.int .i64 a.day, .int .i64 a.kind, .int .i64 a.days] 64)).alloc (.cells #[.string ⟨#[]⟩, .int .i64 0, .slice none 0 0] 29))) := by
  have h3 := (BoxAt.new (W2n w A c p N d n) #[.int .i64 a.day, .int .i64 a.kind, .int .i64 a.days] 64).alloc (.cells #[.string ⟨#[]⟩, .int .i64 0, .slice none 0 0] 29)
  rw [W2n_size] at h3
  have h4 := BoxAt.new ((W2n w A c p N d n).alloc (.cells #[.int .i64 a.day, .int .i64 a.kind, .int .i64 a.days] 64)) #[.string ⟨#[]⟩, .int .i64 0, .slice none 0 0] 29
  rw [World.size_alloc, W2n_size] at h4
  exact ⟨((W2n_pr w A c p N d n).alloc _).alloc _, ((W2n_note w A c p N d n).alloc _).alloc _, h3, h4, below_step (below_step (W2n_below w A c p N d n) (below_alloc _ _)) (below_alloc _ _)⟩
/-- The error of one more act. -/
def Cal.addE (p : Proc) (n : Note) (a : NAct) : Int :=
  if (Cal.checkS p n).2 = 0 then (if 40 ≤ n.acts.length then 8 else (Cal.actS p (Cal.stAt p n 200000) a).2) else (Cal.checkS p n).2
def AddBad (w : World) (E : Int) (e : Ending) (w' : World) : Prop := e = .returned (.tuple #[.agg #[.string ⟨#[]⟩, .int .i64 0, .slice none 0 0], .int .i64 E]) ∧ Below w.heap.size w w'
set_option maxRecDepth 100000 in
set_option maxHeartbeats 4000000 in
theorem Add_bad (A : Option Addr) (c : Nat) (p : Proc) (N : Option Addr) (d : Nat) (n : Note) (a : NAct) (w : World) (hN : NB w A p N n) (hst : (Cal.checkS p n).2 = 0 → StOk (Cal.stAt p n 200000)) (hE : Cal.addE p n a ≠ 0) :
    Calls Tryz.prog 37 #[.agg #[.int .i64 p.runs.m, .int .i64 p.runs.d, .bool p.runs.k, .int .i64 p.obj.m, .int .i64 p.obj.d, .bool p.obj.k, .int .i64 p.wait.m, .int .i64 p.wait.d, .bool p.wait.k, .int .i64 p.exts, .int .i64 p.longest, .slice A p.hols.length c], .agg #[.string n.name, .int .i64 n.opened, .slice N n.acts.length d], .agg #[.int .i64 a.day, .int .i64 a.kind, .int .i64 a.days]] w (AddBad w (Cal.addE p n a)) := by
  have hsz := hN.acts.size
  have hN := Lib.hid hN
  by_cases hc : (Cal.checkS p n).2 = 0
  · have hok := hst hc
    obtain ⟨hp, _, o0, o1, _, hrun⟩ := Cal.checkS_ok hc
    obtain ⟨_, _, _, _, x1, _, x2, _⟩ := Cal.procErr_ok hp
    have hbeh := Lib.hid (fun w1 h => behind_ok A c p N d n w1 h hc)
    obtain ⟨s, hs⟩ : ∃ s, Cal.stAt p n 200000 = s := ⟨_, rfl⟩
    rw [hs] at hbeh hok
    by_cases hlen : 40 ≤ n.acts.length
    · have hC : Cal.addE p n a = 8 := by unfold Cal.addE; rw [if_pos hc, if_pos hlen]
      rw [hC]
      clear hC hE hc hs hrun hp
      obtain ⟨h1, h2, h3, h4, hb⟩ := start4 w A c p N d n a
      have c0 := h2.out.c 0 _ rfl
      have c1 := h2.out.c 1 _ rfl
      have c2 := h2.out.c 2 _ rfl
      go_enter Tryz.func37, Tryz.ntmps37
      go_wp2_with (refine wpList_load_mid rfl 26 (.tmp 3) rfl (w.heap.size) 0 rfl [.int .i64 p.runs.m, .int .i64 p.runs.d, .bool p.runs.k, .int .i64 p.obj.m, .int .i64 p.obj.d, .bool p.obj.k, .int .i64 p.wait.m, .int .i64 p.wait.d, .bool p.wait.k, .int .i64 p.exts, .int .i64 p.longest, .slice A p.hols.length c] _ h1.out.range Tryz.underlying26 rfl prSize ?_)
      clear c0 c1 c2
      refine (hbeh.out _ (hN.out.below hb.out)).mono ?_
      rintro e w1 ⟨he, hb1⟩
      subst he
      have hbw := Lib.hid (below_step hb.out hb1)
      have g2 := Lib.hid (h2.out.below hb1)
      have g3 := Lib.hid (h3.out.below hb1)
      have g4 := Lib.hid (h4.out.below hb1)
      have hz := (h4.out.below hb1).lt
      have hN8 := Lib.hid (BoxAt.new w1 #[.int .i64 0, .int .i64 0, .bool false, .int .i64 0, .int .i64 0, .bool false, .int .i64 0, .int .i64 0, .bool false, .int .i64 0, .int .i64 0, .slice none 0 0, .int .i64 0, .int .i64 0, .int .i64 0, .int .i64 0, .int .i64 0, .int .i64 0] 104)
      clear hb1 h1 h2 h3 h4 hb
      go_wp2_with (first | ((refine wpList_store_box rfl 104 (.tmp 8) (.tmp 14) rfl (w1.heap.size) _ [.int .i64 p.runs.m, .int .i64 p.runs.d, .bool p.runs.k, .int .i64 p.obj.m, .int .i64 p.obj.d, .bool p.obj.k, .int .i64 p.wait.m, .int .i64 p.wait.d, .bool p.wait.k, .int .i64 p.exts, .int .i64 p.longest, .slice A p.hols.length c, .int .i64 s.phase, .int .i64 s.last, .int .i64 s.deadline, .int .i64 s.object, .int .i64 s.objected, .int .i64 s.extended] (by rfl) (by rfl) hN8.out rfl stSize (by kernel_rfl) ?_; intro w2 h8 hg8); have hb12 := below_of_grownB (below_alloc w1 _) hg8 (Nat.le_refl _); have hb2 := Lib.hid (below_step hbw.out hb12); have k2 := Lib.hid (g2.out.below hb12); have k3 := Lib.hid (g3.out.below hb12); have k4 := Lib.hid (g4.out.below hb12); have h8 := Lib.hid h8; have q2 := k2.out.c 2 _ rfl; have a0 := k3.out.c 0 _ rfl; have a1 := k3.out.c 1 _ rfl; have a2 := k3.out.c 2 _ rfl; clear hb12 hg8) | ((refine wpList_store_box rfl 29 (.tmp 6) (.tmp 34) rfl (w.heap.size + 1 + 1 + 1) _ [.string ⟨#[]⟩, .int .i64 0, .slice none 0 0] (by rfl) (by rfl) k4.out rfl ntSize (by kernel_rfl) ?_; intro w6 h6 hg6); have hb6 := Lib.hid (below_of_grownB hb2.out hg6 (by omega))))
      (try simp only [Exit.inBlock, Exit.then])
      refine bodyPost_ret (results_mid2 rfl _ _ (w.heap.size + 1 + 1 + 1) [.string ⟨#[]⟩, .int .i64 0, .slice none 0 0] _ rfl h6.range Tryz.underlying29 rfl ntSize) rfl ⟨by rfl, hb6.out⟩
    · have hC : Cal.addE p n a = (Cal.actS p s a).2 := by unfold Cal.addE; rw [if_pos hc, if_neg hlen, hs]
      rw [hC] at hE ⊢
      have hlen' : n.acts.length < 40 := by omega
      rcases hr : Cal.actS p s a with ⟨s', E⟩
      rw [hr] at hE
      have hE1 : (E != 0) = true := by simpa using hE
      have hE2 : (E == 0) = false := by simpa using hE
      have hrz := Lib.hid hr
      clear hC hE hc hs hrun hp hr hlen
      obtain ⟨h1, h2, h3, h4, hb⟩ := start4 w A c p N d n a
      have c0 := h2.out.c 0 _ rfl
      have c1 := h2.out.c 1 _ rfl
      have c2 := h2.out.c 2 _ rfl
      go_enter Tryz.func37, Tryz.ntmps37
      go_wp2_with (refine wpList_load_mid rfl 26 (.tmp 3) rfl (w.heap.size) 0 rfl [.int .i64 p.runs.m, .int .i64 p.runs.d, .bool p.runs.k, .int .i64 p.obj.m, .int .i64 p.obj.d, .bool p.obj.k, .int .i64 p.wait.m, .int .i64 p.wait.d, .bool p.wait.k, .int .i64 p.exts, .int .i64 p.longest, .slice A p.hols.length c] _ h1.out.range Tryz.underlying26 rfl prSize ?_)
      clear c0 c1 c2
      refine (hbeh.out _ (hN.out.below hb.out)).mono ?_
      rintro e w1 ⟨he, hb1⟩
      subst he
      have hbw := Lib.hid (below_step hb.out hb1)
      have g2 := Lib.hid (h2.out.below hb1)
      have g3 := Lib.hid (h3.out.below hb1)
      have g4 := Lib.hid (h4.out.below hb1)
      have hz := (h4.out.below hb1).lt
      have hN8 := Lib.hid (BoxAt.new w1 #[.int .i64 0, .int .i64 0, .bool false, .int .i64 0, .int .i64 0, .bool false, .int .i64 0, .int .i64 0, .bool false, .int .i64 0, .int .i64 0, .slice none 0 0, .int .i64 0, .int .i64 0, .int .i64 0, .int .i64 0, .int .i64 0, .int .i64 0] 104)
      clear hb1 h1 h2 h3 h4 hb
      go_wp2_with (first | ((refine wpList_store_box rfl 104 (.tmp 8) (.tmp 14) rfl (w1.heap.size) _ [.int .i64 p.runs.m, .int .i64 p.runs.d, .bool p.runs.k, .int .i64 p.obj.m, .int .i64 p.obj.d, .bool p.obj.k, .int .i64 p.wait.m, .int .i64 p.wait.d, .bool p.wait.k, .int .i64 p.exts, .int .i64 p.longest, .slice A p.hols.length c, .int .i64 s.phase, .int .i64 s.last, .int .i64 s.deadline, .int .i64 s.object, .int .i64 s.objected, .int .i64 s.extended] (by rfl) (by rfl) hN8.out rfl stSize (by kernel_rfl) ?_; intro w2 h8 hg8); have hb12 := below_of_grownB (below_alloc w1 _) hg8 (Nat.le_refl _); have hb2 := Lib.hid (below_step hbw.out hb12); have k2 := Lib.hid (g2.out.below hb12); have k3 := Lib.hid (g3.out.below hb12); have k4 := Lib.hid (g4.out.below hb12); have h8 := Lib.hid h8; have q2 := k2.out.c 2 _ rfl; have a0 := k3.out.c 0 _ rfl; have a1 := k3.out.c 1 _ rfl; have a2 := k3.out.c 2 _ rfl; clear hb12 hg8) | (refine wpList_load_mid rfl 104 (.tmp 8) rfl w1.heap.size 0 rfl [.int .i64 p.runs.m, .int .i64 p.runs.d, .bool p.runs.k, .int .i64 p.obj.m, .int .i64 p.obj.d, .bool p.obj.k, .int .i64 p.wait.m, .int .i64 p.wait.d, .bool p.wait.k, .int .i64 p.exts, .int .i64 p.longest, .slice A p.hols.length c, .int .i64 s.phase, .int .i64 s.last, .int .i64 s.deadline, .int .i64 s.object, .int .i64 s.objected, .int .i64 s.extended] _ h8.out.range Tryz.underlying104 rfl stSize ?_))
      refine (act_any A c p s a _ (hN.out.below hb2.out).hols (hN.out.below hb2.out).tab hok x2).mono ?_
      rintro e w3 ⟨he, hb3⟩
      rw [hrz.out] at he
      subst he
      clear a0 a1 a2 q2
      have l4 := Lib.hid (k4.out.below hb3)
      have hb3' := Lib.hid (below_step hb2.out hb3)
      clear hb3
      go_wp2_with ((refine wpList_store_box rfl 29 (.tmp 6) (.tmp 34) rfl (w.heap.size + 1 + 1 + 1) _ [.string ⟨#[]⟩, .int .i64 0, .slice none 0 0] (by rfl) (by rfl) l4.out rfl ntSize (by kernel_rfl) ?_; intro w6 h6 hg6); have hb6 := Lib.hid (below_of_grownB hb3'.out hg6 (by omega)))
      (try simp only [Exit.inBlock, Exit.then])
      refine bodyPost_ret (results_mid2 rfl _ _ (w.heap.size + 1 + 1 + 1) [.string ⟨#[]⟩, .int .i64 0, .slice none 0 0] _ rfl h6.range Tryz.underlying29 rfl ntSize) rfl ⟨by rfl, hb6.out⟩
  · have hbeh := fun w1 h => behind_bad A c p N d n w1 h hc
    have hC : Cal.addE p n a = (Cal.checkS p n).2 := by unfold Cal.addE; rw [if_neg hc]
    rw [hC]
    have hE1 : ((Cal.checkS p n).2 != 0) = true := by simpa using hc
    have hE2 : ((Cal.checkS p n).2 == 0) = false := by simpa using hc
    clear hC hE hc hst
    generalize (Cal.checkS p n).2 = E at *
    have hbeh := Lib.hid hbeh
    obtain ⟨h1, h2, h3, h4, hb⟩ := start4 w A c p N d n a
    have c0 := h2.out.c 0 _ rfl
    have c1 := h2.out.c 1 _ rfl
    have c2 := h2.out.c 2 _ rfl
    go_enter Tryz.func37, Tryz.ntmps37
    go_wp2_with (refine wpList_load_mid rfl 26 (.tmp 3) rfl (w.heap.size) 0 rfl [.int .i64 p.runs.m, .int .i64 p.runs.d, .bool p.runs.k, .int .i64 p.obj.m, .int .i64 p.obj.d, .bool p.obj.k, .int .i64 p.wait.m, .int .i64 p.wait.d, .bool p.wait.k, .int .i64 p.exts, .int .i64 p.longest, .slice A p.hols.length c] _ h1.out.range Tryz.underlying26 rfl prSize ?_)
    clear c0 c1 c2
    refine (hbeh.out _ (hN.out.below hb.out)).mono ?_
    rintro e w1 ⟨he, hb1⟩
    subst he
    have hbw := Lib.hid (below_step hb.out hb1)
    have g2 := Lib.hid (h2.out.below hb1)
    have g3 := Lib.hid (h3.out.below hb1)
    have g4 := Lib.hid (h4.out.below hb1)
    have hz := (h4.out.below hb1).lt
    have hN8 := Lib.hid (BoxAt.new w1 #[.int .i64 0, .int .i64 0, .bool false, .int .i64 0, .int .i64 0, .bool false, .int .i64 0, .int .i64 0, .bool false, .int .i64 0, .int .i64 0, .slice none 0 0, .int .i64 0, .int .i64 0, .int .i64 0, .int .i64 0, .int .i64 0, .int .i64 0] 104)
    clear hb1 h1 h2 h3 h4 hb
    go_wp2_with (first | ((refine wpList_store_box rfl 104 (.tmp 8) (.tmp 14) rfl (w1.heap.size) _ [.int .i64 0, .int .i64 0, .bool false, .int .i64 0, .int .i64 0, .bool false, .int .i64 0, .int .i64 0, .bool false, .int .i64 0, .int .i64 0, .slice none 0 0, .int .i64 0, .int .i64 0, .int .i64 0, .int .i64 0, .int .i64 0, .int .i64 0] (by rfl) (by rfl) hN8.out rfl stSize (by kernel_rfl) ?_; intro w2 h8 hg8); have hb12 := below_of_grownB (below_alloc w1 _) hg8 (Nat.le_refl _); have hb2 := Lib.hid (below_step hbw.out hb12); have k2 := Lib.hid (g2.out.below hb12); have k3 := Lib.hid (g3.out.below hb12); have k4 := Lib.hid (g4.out.below hb12); have h8 := Lib.hid h8; have q2 := k2.out.c 2 _ rfl; have a0 := k3.out.c 0 _ rfl; have a1 := k3.out.c 1 _ rfl; have a2 := k3.out.c 2 _ rfl; clear hb12 hg8) | ((refine wpList_store_box rfl 29 (.tmp 6) (.tmp 34) rfl (w.heap.size + 1 + 1 + 1) _ [.string ⟨#[]⟩, .int .i64 0, .slice none 0 0] (by rfl) (by rfl) k4.out rfl ntSize (by kernel_rfl) ?_; intro w6 h6 hg6); have hb6 := Lib.hid (below_of_grownB hb2.out hg6 (by omega))))
    (try simp only [Exit.inBlock, Exit.then])
    refine bodyPost_ret (results_mid2 rfl _ _ (w.heap.size + 1 + 1 + 1) [.string ⟨#[]⟩, .int .i64 0, .slice none 0 0] _ rfl h6.range Tryz.underlying29 rfl ntSize) rfl ⟨by rfl, hb6.out⟩
end Go.Proofs.YtconnjkkgaapbaaGreatDoor
namespace Go.Proofs.YtconnjkkgaapbaaGreatDoor
open Go Go.RowKit
def monthP : Proc := ⟨⟨1, 0, false⟩, ⟨0, 10, false⟩, ⟨0, 0, false⟩, 1, 30, []⟩
def nName : ByteArray := ⟨#[110]⟩
def awakeActs : List NAct := [⟨0, 0, 0⟩, ⟨12, 3, 0⟩, ⟨20, 4, 0⟩, ⟨41, 6, 4⟩]
def awakeNote : Note := ⟨nName, 0, awakeActs⟩
def scaleG : Grad := ⟨50, 100, 200, 300, 200, 100, 60, 24, 12, 0⟩
theorem grade_awake : Cal.gradeOfS scaleG ⟨0, 0, 120, 350⟩ = (2, 0) := by decide +kernel
theorem dl_awake : Cal.dlAtS monthP awakeNote 41 = (47, 0) := by decide +kernel
theorem earl_awake : Cal.earlS monthP 40 100 awakeNote = (100, 0) := by decide +kernel
theorem Month_any (w : World) : Calls Tryz.prog 54 #[] w fun e w' => e = .returned (.agg #[.int .i64 1, .int .i64 0, .bool false, .int .i64 0, .int .i64 10, .bool false, .int .i64 0, .int .i64 0, .bool false, .int .i64 1, .int .i64 30, .slice none 0 0]) ∧ Below w.heap.size w w' := by
  have h1 := Lib.hid (BoxAt.new w #[.int .i64 0, .int .i64 0, .bool false, .int .i64 0, .int .i64 0, .bool false, .int .i64 0, .int .i64 0, .bool false, .int .i64 0, .int .i64 0, .slice none 0 0] 26)
  go_enter Tryz.func54, Tryz.ntmps54
  go_wp2_with (refine wpList_store_box rfl 26 (.tmp 0) (.tmp 3) rfl (w.heap.size) _ [.int .i64 1, .int .i64 0, .bool false, .int .i64 0, .int .i64 10, .bool false, .int .i64 0, .int .i64 0, .bool false, .int .i64 1, .int .i64 30, .slice none 0 0] (by rfl) (by rfl) h1.out rfl prSize (by kernel_rfl) ?_; intro w2 h2 hg2)
  (try simp only [Exit.inBlock, Exit.then])
  refine bodyPost_ret (results_mid1 rfl _ _ (w.heap.size) [.int .i64 1, .int .i64 0, .bool false, .int .i64 0, .int .i64 10, .bool false, .int .i64 0, .int .i64 0, .bool false, .int .i64 1, .int .i64 30, .slice none 0 0] _ rfl h2.range Tryz.underlying26 rfl prSize) rfl ⟨rfl, below_of_grownB (below_alloc w _) hg2 (Nat.le_refl _)⟩
theorem Scale_any (w : World) : Calls Tryz.prog 52 #[] w fun e w' => e = .returned (.agg #[.int .i64 50, .int .i64 100, .int .i64 200, .int .i64 300, .int .i64 200, .int .i64 100, .int .i64 60, .int .i64 24, .int .i64 12, .int .i64 0]) ∧ Below w.heap.size w w' := by
  have h1 := Lib.hid (BoxAt.new w #[.int .i64 0, .int .i64 0, .int .i64 0, .int .i64 0, .int .i64 0, .int .i64 0, .int .i64 0, .int .i64 0, .int .i64 0, .int .i64 0] 77)
  go_enter Tryz.func52, Tryz.ntmps52
  go_wp2_with (refine wpList_store_box rfl 77 (.tmp 0) (.tmp 4) rfl (w.heap.size) _ [.int .i64 50, .int .i64 100, .int .i64 200, .int .i64 300, .int .i64 200, .int .i64 100, .int .i64 60, .int .i64 24, .int .i64 12, .int .i64 0] (by rfl) (by rfl) h1.out rfl grSize (by kernel_rfl) ?_; intro w2 h2 hg2)
  (try simp only [Exit.inBlock, Exit.then])
  refine bodyPost_ret (results_mid1 rfl _ _ (w.heap.size) [.int .i64 50, .int .i64 100, .int .i64 200, .int .i64 300, .int .i64 200, .int .i64 100, .int .i64 60, .int .i64 24, .int .i64 12, .int .i64 0] _ rfl h2.range Tryz.underlying77 rfl grSize) rfl ⟨rfl, below_of_grownB (below_alloc w _) hg2 (Nat.le_refl _)⟩
theorem Opened_any (A : Option Addr) (k c : Nat) (w : World) : Calls Tryz.prog 53 #[.slice A k c] w fun e w' => e = .returned (.agg #[.string ⟨#[110]⟩, .int .i64 0, .slice A k c]) ∧ Below w.heap.size w w' := by
  have h1 := Lib.hid (BoxAt.new w #[.string ⟨#[]⟩, .int .i64 0, .slice none 0 0] 29)
  go_enter Tryz.func53, Tryz.ntmps53
  go_wp2_with (refine wpList_store_box rfl 29 (.tmp 2) (.tmp 4) rfl (w.heap.size) _ [.string ⟨#[110]⟩, .int .i64 0, .slice A k c] (by rfl) (by rfl) h1.out rfl ntSize (by kernel_rfl) ?_; intro w2 h2 hg2)
  (try simp only [Exit.inBlock, Exit.then])
  refine bodyPost_ret (results_mid1 rfl _ _ (w.heap.size) [.string ⟨#[110]⟩, .int .i64 0, .slice A k c] _ rfl h2.range Tryz.underlying29 rfl ntSize) rfl ⟨rfl, below_of_grownB (below_alloc w _) hg2 (Nat.le_refl _)⟩
theorem acts_new (w : World) (l : List NAct) (hl : l.length ≤ 1000000) (t : TypeId) : Acts (w.alloc (.cells (l.map NAct.cells).flatten.toArray t)) (some ⟨w.heap.size, 0, none⟩) l :=
  ⟨fun k r hr => ⟨w.heap.size, 0, rfl, by simp, fun j v hv => by rw [cell_alloc_at, Nat.zero_add]; simpa using flat_get (actCells_wid l) hr hv⟩, by omega⟩
def awakeCells : Array Value := #[.int .i64 0, .int .i64 0, .int .i64 0, .int .i64 12, .int .i64 3, .int .i64 0, .int .i64 20, .int .i64 4, .int .i64 0, .int .i64 41, .int .i64 6, .int .i64 4]
theorem NB.awake {w : World} {A : Option Addr} (hT : Tab w) (ha : Acts w A awakeActs) : NB w none monthP A awakeNote := ⟨Hols.nil _ _, hT, ha, by decide⟩
set_option maxRecDepth 100000 in
set_option maxHeartbeats 4000000 in
theorem nawake_any (w : World) (hT : Tab w) : Calls Tryz.prog 13 #[] w fun e w' => e = .returned (.bool true) ∧ Below w.heap.size w w' := by
  have hT := Lib.hid hT
  have hgr := fun w1 => GradeOf_any scaleG ⟨0, 0, 120, 350⟩ w1
  rw [grade_awake] at hgr
  have hgr := Lib.hid hgr
  have hdl := fun w1 A (h : NB w1 none monthP A awakeNote) => DeadlineAt_any none 0 monthP A 4 awakeNote 41 w1 h
  rw [dl_awake] at hdl
  have hdl := Lib.hid hdl
  have her := fun w1 A (h : NB w1 none monthP A awakeNote) => Earliest_any none 0 monthP 40 100 A 4 awakeNote w1 h
  rw [earl_awake] at her
  have her := Lib.hid her
  go_enter Tryz.func13, Tryz.ntmps13
  go_wp2_with fail
  refine (Scale_any _).mono ?_
  rintro e w1 ⟨rfl, hb1⟩
  have hb1 := Lib.hid hb1
  go_wp2_with fail
  refine (hgr.out _).mono ?_
  rintro e w2 ⟨rfl, hb2⟩
  have hb2 := Lib.hid (below_step hb1.out hb2)
  go_wp2_with fail
  have ha3 := Lib.hid (acts_new w2 awakeActs (by decide) 64)
  have hb3 := Lib.hid (below_step hb2.out (below_alloc w2 (.cells awakeCells 64)))
  refine (Opened_any (some ⟨w2.heap.size, 0, none⟩) 4 4 _).mono ?_
  rintro e w4 ⟨rfl, hb4⟩
  have ha4 := Lib.hid (ha3.out.below hb4)
  have hb4 := Lib.hid (below_step hb3.out hb4)
  generalize some (⟨w2.heap.size, 0, none⟩ : Addr) = A at *
  have hN := Lib.hid (BoxAt.new w4 #[.string ⟨#[]⟩, .int .i64 0, .slice none 0 0] 29)
  go_wp2_with ((refine wpList_store_box rfl 29 (.tmp 3) (.tmp 19) rfl (w4.heap.size) _ [.string ⟨#[110]⟩, .int .i64 0, .slice A 4 4] (by rfl) (by rfl) hN.out rfl ntSize (by kernel_rfl) ?_; intro w5 h5 hg5))
  have hb45 := below_of_grownB (below_alloc w4 _) hg5 (Nat.le_refl _)
  have hb5 := Lib.hid (below_step hb4.out hb45)
  have ha5 := Lib.hid (ha4.out.below hb45)
  have h5 := Lib.hid h5
  clear hb45 hg5 hN
  generalize w4.heap.size = B at *
  refine wp_region_held_drew (S := (fun w' => w'.cell? ⟨B, 0, none⟩ = some (.string ⟨#[110]⟩) ∧ w'.cell? ⟨B, 1, none⟩ = some (.int .i64 0) ∧ w'.cell? ⟨B, 2, none⟩ = some (.slice A 4 4))) (by kernel_rfl) ⟨h5.out.c 0 _ rfl, h5.out.c 1 _ rfl, h5.out.c 2 _ rfl⟩ (fun hHeld => ?_)
  (refine wpAnyH_take (i := 1) (v := ?_) rfl (by kernel_rfl) (by decide +kernel) (by decide +kernel) (fun _ _ _ h => h) (Or.inl ⟨by kernel_rfl, ?_⟩) (by assumption) ?_; rotate_left; focus (intro w' hSw; (try dsimp only at hSw); go_simp; (try with_reducible rfl)); (try simp only [Act.put, List.setIfInBounds_toArray]); (try simp only [List.set_cons_zero, List.set_cons_succ]))
  (refine wpAnyH_ready (rs := [0]) (by decide +kernel) (by simp) ?_; refine AllReadyH.cons rfl (fun K hK => ?_) AllReadyH.nil; rw [if_pos (by kernel_rfl)]; go_simp)
  refine (Month_any _).mono ?_
  rintro e w6 ⟨rfl, hb6⟩
  have hb56 := below_of_drewN (n := 1) hb6
  have h6 := Lib.hid (h5.out.below hb56)
  have ha6 := Lib.hid (ha5.out.below hb56)
  have hb6 := Lib.hid (below_step hb5.out hb56)
  clear hb56
  go_simp
  (refine hK.out _ _ ⟨h6.out.c 0 _ rfl, h6.out.c 1 _ rfl, h6.out.c 2 _ rfl⟩ (fun hHeld => ?_); clear hK K; (try simp only [Act.put, List.setIfInBounds_toArray]); (try simp only [List.set_cons_zero, List.set_cons_succ]))
  (refine wpAnyH_ready (rs := [2]) (by decide +kernel) (by simp) ?_; refine AllReadyH.cons rfl (fun K hK => ?_) AllReadyH.nil; rw [if_pos (by kernel_rfl)]; go_simp)
  refine (hdl.out _ A (NB.awake (hT.out.below hb6.out) ha6.out)).mono ?_
  rintro e w7 ⟨rfl, hb7⟩
  have h7 := Lib.hid (h6.out.below hb7)
  have ha7 := Lib.hid (ha6.out.below hb7)
  have hb7 := Lib.hid (below_step hb6.out hb7)
  go_simp
  (refine hK.out _ _ ⟨h7.out.c 0 _ rfl, h7.out.c 1 _ rfl, h7.out.c 2 _ rfl⟩ (fun hHeld => ?_); clear hK K; (try simp only [Act.put, List.setIfInBounds_toArray]); (try simp only [List.set_cons_zero, List.set_cons_succ]))
  (refine wpAnyH_take (i := 3) (v := ?_) rfl (by kernel_rfl) (by decide +kernel) (by decide +kernel) (fun _ _ _ h => h) (Or.inl ⟨by kernel_rfl, ?_⟩) (by assumption) ?_; rotate_left; focus (intro w' hSw; (try dsimp only at hSw); go_simp; (try with_reducible rfl)); (try simp only [Act.put, List.setIfInBounds_toArray]); (try simp only [List.set_cons_zero, List.set_cons_succ]))
  (refine wpAnyH_take (i := 4) (v := ?_) rfl (by kernel_rfl) (by decide +kernel) (by decide +kernel) (fun _ _ _ h => h) (Or.inl ⟨by kernel_rfl, ?_⟩) (by assumption) ?_; rotate_left; focus (intro w' hSw; (try dsimp only at hSw); go_simp; (try with_reducible rfl)); (try simp only [Act.put, List.setIfInBounds_toArray]); (try simp only [List.set_cons_zero, List.set_cons_succ]))
  (refine wpAnyH_take (i := 5) (v := ?_) rfl (by kernel_rfl) (by decide +kernel) (by decide +kernel) (fun _ _ _ h => h) (Or.inl ⟨by kernel_rfl, ?_⟩) (by assumption) ?_; rotate_left; focus (intro w' hSw; (try dsimp only at hSw); go_simp; (try with_reducible rfl)); (try simp only [Act.put, List.setIfInBounds_toArray]); (try simp only [List.set_cons_zero, List.set_cons_succ]))
  (refine wpAnyH_take (i := 6) (v := ?_) rfl (by kernel_rfl) (by decide +kernel) (by decide +kernel) (fun _ _ _ h => h) (Or.inl ⟨by kernel_rfl, ?_⟩) (by assumption) ?_; rotate_left; focus (intro w' hSw; (try dsimp only at hSw); go_simp; (try with_reducible rfl)); (try simp only [Act.put, List.setIfInBounds_toArray]); (try simp only [List.set_cons_zero, List.set_cons_succ]))
  (refine wpAnyH_take (i := 7) (v := ?_) rfl (by kernel_rfl) (by decide +kernel) (by decide +kernel) (fun _ _ _ h => h) (Or.inl ⟨by kernel_rfl, ?_⟩) (by assumption) ?_; rotate_left; focus (intro w' hSw; (try dsimp only at hSw); go_simp; (try with_reducible rfl)); (try simp only [Act.put, List.setIfInBounds_toArray]); (try simp only [List.set_cons_zero, List.set_cons_succ]))
  refine wpAnyH_done (by kernel_rfl) ?_ _
  clear hHeld h5 h6 ha5 ha6
  go_wp2_with fail
  refine wp_region_held_drew (S := (fun w' => w'.cell? ⟨B, 0, none⟩ = some (.string ⟨#[110]⟩) ∧ w'.cell? ⟨B, 1, none⟩ = some (.int .i64 0) ∧ w'.cell? ⟨B, 2, none⟩ = some (.slice A 4 4))) (by kernel_rfl) ⟨h7.out.c 0 _ rfl, h7.out.c 1 _ rfl, h7.out.c 2 _ rfl⟩ (fun hHeld => ?_)
  (refine wpAnyH_take (i := 1) (v := ?_) rfl (by kernel_rfl) (by decide +kernel) (by decide +kernel) (fun _ _ _ h => h) (Or.inl ⟨by kernel_rfl, ?_⟩) (by assumption) ?_; rotate_left; focus (intro w' hSw; (try dsimp only at hSw); go_simp; (try with_reducible rfl)); (try simp only [Act.put, List.setIfInBounds_toArray]); (try simp only [List.set_cons_zero, List.set_cons_succ]))
  (refine wpAnyH_take (i := 2) (v := ?_) rfl (by kernel_rfl) (by decide +kernel) (by decide +kernel) (fun _ _ _ h => h) (Or.inl ⟨by kernel_rfl, ?_⟩) (by assumption) ?_; rotate_left; focus (intro w' hSw; (try dsimp only at hSw); go_simp; (try with_reducible rfl)); (try simp only [Act.put, List.setIfInBounds_toArray]); (try simp only [List.set_cons_zero, List.set_cons_succ]))
  (refine wpAnyH_ready (rs := [0]) (by decide +kernel) (by simp) ?_; refine AllReadyH.cons rfl (fun K hK => ?_) AllReadyH.nil; rw [if_pos (by kernel_rfl)]; go_simp)
  refine (Month_any _).mono ?_
  rintro e w8 ⟨rfl, hb8⟩
  have hb78 := below_of_drewN (n := 1) hb8
  have h8 := Lib.hid (h7.out.below hb78)
  have ha8 := Lib.hid (ha7.out.below hb78)
  have hb8 := Lib.hid (below_step hb7.out hb78)
  clear hb78
  go_simp
  (refine hK.out _ _ ⟨h8.out.c 0 _ rfl, h8.out.c 1 _ rfl, h8.out.c 2 _ rfl⟩ (fun hHeld => ?_); clear hK K; (try simp only [Act.put, List.setIfInBounds_toArray]); (try simp only [List.set_cons_zero, List.set_cons_succ]))
  (refine wpAnyH_ready (rs := [3]) (by decide +kernel) (by simp) ?_; refine AllReadyH.cons rfl (fun K hK => ?_) AllReadyH.nil; rw [if_pos (by kernel_rfl)]; go_simp)
  refine (her.out _ A (NB.awake (hT.out.below hb8.out) ha8.out)).mono ?_
  rintro e w9 ⟨rfl, hb9⟩
  have h9 := Lib.hid (h8.out.below hb9)
  have hb9 := Lib.hid (below_step hb8.out hb9)
  go_simp
  (refine hK.out _ _ ⟨h9.out.c 0 _ rfl, h9.out.c 1 _ rfl, h9.out.c 2 _ rfl⟩ (fun hHeld => ?_); clear hK K; (try simp only [Act.put, List.setIfInBounds_toArray]); (try simp only [List.set_cons_zero, List.set_cons_succ]))
  (refine wpAnyH_take (i := 4) (v := ?_) rfl (by kernel_rfl) (by decide +kernel) (by decide +kernel) (fun _ _ _ h => h) (Or.inl ⟨by kernel_rfl, ?_⟩) (by assumption) ?_; rotate_left; focus (intro w' hSw; (try dsimp only at hSw); go_simp; (try with_reducible rfl)); (try simp only [Act.put, List.setIfInBounds_toArray]); (try simp only [List.set_cons_zero, List.set_cons_succ]))
  (refine wpAnyH_take (i := 5) (v := ?_) rfl (by kernel_rfl) (by decide +kernel) (by decide +kernel) (fun _ _ _ h => h) (Or.inl ⟨by kernel_rfl, ?_⟩) (by assumption) ?_; rotate_left; focus (intro w' hSw; (try dsimp only at hSw); go_simp; (try with_reducible rfl)); (try simp only [Act.put, List.setIfInBounds_toArray]); (try simp only [List.set_cons_zero, List.set_cons_succ]))
  (refine wpAnyH_take (i := 6) (v := ?_) rfl (by kernel_rfl) (by decide +kernel) (by decide +kernel) (fun _ _ _ h => h) (Or.inl ⟨by kernel_rfl, ?_⟩) (by assumption) ?_; rotate_left; focus (intro w' hSw; (try dsimp only at hSw); go_simp; (try with_reducible rfl)); (try simp only [Act.put, List.setIfInBounds_toArray]); (try simp only [List.set_cons_zero, List.set_cons_succ]))
  (refine wpAnyH_take (i := 7) (v := ?_) rfl (by kernel_rfl) (by decide +kernel) (by decide +kernel) (fun _ _ _ h => h) (Or.inl ⟨by kernel_rfl, ?_⟩) (by assumption) ?_; rotate_left; focus (intro w' hSw; (try dsimp only at hSw); go_simp; (try with_reducible rfl)); (try simp only [Act.put, List.setIfInBounds_toArray]); (try simp only [List.set_cons_zero, List.set_cons_succ]))
  (refine wpAnyH_take (i := 8) (v := ?_) rfl (by kernel_rfl) (by decide +kernel) (by decide +kernel) (fun _ _ _ h => h) (Or.inl ⟨by kernel_rfl, ?_⟩) (by assumption) ?_; rotate_left; focus (intro w' hSw; (try dsimp only at hSw); go_simp; (try with_reducible rfl)); (try simp only [Act.put, List.setIfInBounds_toArray]); (try simp only [List.set_cons_zero, List.set_cons_succ]))
  refine wpAnyH_done (by kernel_rfl) ?_ _
  clear hHeld
  go_wp2_with fail
  go_ret
  exact ⟨rfl, hb9.out⟩
end Go.Proofs.YtconnjkkgaapbaaGreatDoor
namespace Go.Proofs.YtconnjkkgaapbaaGreatDoor
open Go Go.RowKit
set_option maxRecDepth 100000 in
set_option maxHeartbeats 4000000 in
theorem NoticeProcedures_any (A : Option Addr) (c : Nat) (p : Proc) (N : Option Addr) (d : Nat) (n : Note) (w : World) (hN : NB w A p N n) :
    Calls Tryz.prog 3 #[.agg #[.int .i64 p.runs.m, .int .i64 p.runs.d, .bool p.runs.k, .int .i64 p.obj.m, .int .i64 p.obj.d, .bool p.obj.k, .int .i64 p.wait.m, .int .i64 p.wait.d, .bool p.wait.k, .int .i64 p.exts, .int .i64 p.longest, .slice A p.hols.length c], .agg #[.string n.name, .int .i64 n.opened, .slice N n.acts.length d]] w fun e w' => e = .returned (.bool true) ∧ Below w.heap.size w w' := by
  have hN := Lib.hid hN
  obtain ⟨P, hP⟩ : ∃ P, Cal.procErr p = P := ⟨_, rfl⟩
  have hPP : (P == P) = true := by simp
  have hPN : (P != P) = false := by simp
  by_cases h0 : P = 0
  · subst h0
    have hC : Cal.checkS p n = Cal.noteS p n := if_pos hP
    rcases hn : Cal.noteS p n with ⟨i, E⟩
    rw [hn] at hC
    have hii : (i == i) = true := by simp
    have hEE : (E == E) = true := by simp
    have hnR := Lib.hid hn
    have hCz := Lib.hid hC
    have hPz := Lib.hid hP
    clear hn hC hP
    obtain ⟨g1, g2, hb⟩ := start2 w A c p N d n
    have c0 := g2.out.c 0 _ rfl
    have c1 := g2.out.c 1 _ rfl
    have c2 := g2.out.c 2 _ rfl
    go_enter Tryz.func3, Tryz.ntmps3
    go_wp2_with fail
    refine (nawake_any _ (hN.out.tab.below hb.out)).mono ?_
    rintro e w1 ⟨rfl, hbn⟩
    have g1 := Lib.hid (g1.out.below hbn)
    have g2 := Lib.hid (g2.out.below hbn)
    have hb := Lib.hid (below_step hb.out hbn)
    clear hbn c0 c1 c2
    have c0 := g2.out.c 0 _ rfl
    have c1 := g2.out.c 1 _ rfl
    have c2 := g2.out.c 2 _ rfl
    go_wp2_with (refine wpList_load_mid rfl 26 (.tmp 2) rfl (w.heap.size) 0 rfl [.int .i64 p.runs.m, .int .i64 p.runs.d, .bool p.runs.k, .int .i64 p.obj.m, .int .i64 p.obj.d, .bool p.obj.k, .int .i64 p.wait.m, .int .i64 p.wait.d, .bool p.wait.k, .int .i64 p.exts, .int .i64 p.longest, .slice A p.hols.length c] _ g1.out.range Tryz.underlying26 rfl prSize ?_)
    refine (Modest_any A c p _ (hN.out.hols.below hb.out)).mono ?_
    rintro e w2 ⟨⟨b, rfl⟩, hbn⟩
    have g1 := Lib.hid (g1.out.below hbn)
    have g2 := Lib.hid (g2.out.below hbn)
    have hb := Lib.hid (below_step hb.out hbn)
    clear hbn c0 c1 c2
    have c0 := g2.out.c 0 _ rfl
    have c1 := g2.out.c 1 _ rfl
    have c2 := g2.out.c 2 _ rfl
    cases b
    · go_wp2_with fail
      go_ret
      exact ⟨rfl, hb.out⟩
    go_wp2_with fail
    refine (Brief_any N d n _ hN.out.name hN.out.acts.size).mono ?_
    rintro e w3 ⟨⟨b, rfl⟩, hbn⟩
    have g1 := Lib.hid (g1.out.below hbn)
    have g2 := Lib.hid (g2.out.below hbn)
    have hb := Lib.hid (below_step hb.out hbn)
    clear hbn c0 c1 c2
    have c0 := g2.out.c 0 _ rfl
    have c1 := g2.out.c 1 _ rfl
    have c2 := g2.out.c 2 _ rfl
    cases b
    · go_wp2_with fail
      go_ret
      exact ⟨rfl, hb.out⟩
    go_wp2_with (refine wpList_load_mid rfl 26 (.tmp 2) rfl (w.heap.size) 0 rfl [.int .i64 p.runs.m, .int .i64 p.runs.d, .bool p.runs.k, .int .i64 p.obj.m, .int .i64 p.obj.d, .bool p.obj.k, .int .i64 p.wait.m, .int .i64 p.wait.d, .bool p.wait.k, .int .i64 p.exts, .int .i64 p.longest, .slice A p.hols.length c] _ g1.out.range Tryz.underlying26 rfl prSize ?_)
    refine (CheckProcedureR_any A c p _ (hN.out.hols.below hb.out)).mono ?_
    rintro e w4 ⟨rfl, hbn⟩
    rw [hPz.out]
    have g1 := Lib.hid (g1.out.below hbn)
    have g2 := Lib.hid (g2.out.below hbn)
    have hb := Lib.hid (below_step hb.out hbn)
    clear hbn c0 c1 c2
    have c0 := g2.out.c 0 _ rfl
    have c1 := g2.out.c 1 _ rfl
    have c2 := g2.out.c 2 _ rfl
    go_wp2_with (refine wpList_load_mid rfl 26 (.tmp 2) rfl (w.heap.size) 0 rfl [.int .i64 p.runs.m, .int .i64 p.runs.d, .bool p.runs.k, .int .i64 p.obj.m, .int .i64 p.obj.d, .bool p.obj.k, .int .i64 p.wait.m, .int .i64 p.wait.d, .bool p.wait.k, .int .i64 p.exts, .int .i64 p.longest, .slice A p.hols.length c] _ g1.out.range Tryz.underlying26 rfl prSize ?_)
    refine (CheckNotice_any A c p N d n _ (hN.out.below hb.out)).mono ?_
    rintro e w5 ⟨he, hbn⟩
    rw [hCz.out] at he
    subst he
    have g1 := Lib.hid (g1.out.below hbn)
    have g2 := Lib.hid (g2.out.below hbn)
    have hb := Lib.hid (below_step hb.out hbn)
    clear hbn c0 c1 c2
    have c0 := g2.out.c 0 _ rfl
    have c1 := g2.out.c 1 _ rfl
    have c2 := g2.out.c 2 _ rfl
    go_wp2_with (refine wpList_load_mid rfl 26 (.tmp 2) rfl (w.heap.size) 0 rfl [.int .i64 p.runs.m, .int .i64 p.runs.d, .bool p.runs.k, .int .i64 p.obj.m, .int .i64 p.obj.d, .bool p.obj.k, .int .i64 p.wait.m, .int .i64 p.wait.d, .bool p.wait.k, .int .i64 p.exts, .int .i64 p.longest, .slice A p.hols.length c] _ g1.out.range Tryz.underlying26 rfl prSize ?_)
    refine (CheckProcedure_any A c p _ (hN.out.hols.below hb.out) (hN.out.tab.below hb.out)).mono ?_
    rintro e w6 ⟨rfl, hbn⟩
    rw [hPz.out]
    have g1 := Lib.hid (g1.out.below hbn)
    have g2 := Lib.hid (g2.out.below hbn)
    have hb := Lib.hid (below_step hb.out hbn)
    clear hbn c0 c1 c2
    have c0 := g2.out.c 0 _ rfl
    have c1 := g2.out.c 1 _ rfl
    have c2 := g2.out.c 2 _ rfl
    go_wp2_with (refine wpList_load_mid rfl 26 (.tmp 2) rfl (w.heap.size) 0 rfl [.int .i64 p.runs.m, .int .i64 p.runs.d, .bool p.runs.k, .int .i64 p.obj.m, .int .i64 p.obj.d, .bool p.obj.k, .int .i64 p.wait.m, .int .i64 p.wait.d, .bool p.wait.k, .int .i64 p.exts, .int .i64 p.longest, .slice A p.hols.length c] _ g1.out.range Tryz.underlying26 rfl prSize ?_)
    refine (CheckNoticeR_any A c p N d n _ (hN.out.hols.below hb.out) (hN.out.acts.below hb.out) hN.out.name hPz.out).mono ?_
    rintro e w7 ⟨he, hbn⟩
    rw [hnR.out] at he
    subst he
    have g1 := Lib.hid (g1.out.below hbn)
    have g2 := Lib.hid (g2.out.below hbn)
    have hb := Lib.hid (below_step hb.out hbn)
    clear hbn c0 c1 c2
    have c0 := g2.out.c 0 _ rfl
    have c1 := g2.out.c 1 _ rfl
    have c2 := g2.out.c 2 _ rfl
    go_wp2_with fail
    go_ret
    exact ⟨rfl, hb.out⟩
  · have hC : Cal.checkS p n = (0, P) := by unfold Cal.checkS; rw [if_neg (by rw [hP]; exact h0), hP]
    have hP1 : (P != 0) = true := by simpa using h0
    have hCz := Lib.hid hC
    have hPz := Lib.hid hP
    clear hC hP h0
    obtain ⟨g1, g2, hb⟩ := start2 w A c p N d n
    have c0 := g2.out.c 0 _ rfl
    have c1 := g2.out.c 1 _ rfl
    have c2 := g2.out.c 2 _ rfl
    go_enter Tryz.func3, Tryz.ntmps3
    go_wp2_with fail
    refine (nawake_any _ (hN.out.tab.below hb.out)).mono ?_
    rintro e w1 ⟨rfl, hbn⟩
    have g1 := Lib.hid (g1.out.below hbn)
    have g2 := Lib.hid (g2.out.below hbn)
    have hb := Lib.hid (below_step hb.out hbn)
    clear hbn c0 c1 c2
    have c0 := g2.out.c 0 _ rfl
    have c1 := g2.out.c 1 _ rfl
    have c2 := g2.out.c 2 _ rfl
    go_wp2_with (refine wpList_load_mid rfl 26 (.tmp 2) rfl (w.heap.size) 0 rfl [.int .i64 p.runs.m, .int .i64 p.runs.d, .bool p.runs.k, .int .i64 p.obj.m, .int .i64 p.obj.d, .bool p.obj.k, .int .i64 p.wait.m, .int .i64 p.wait.d, .bool p.wait.k, .int .i64 p.exts, .int .i64 p.longest, .slice A p.hols.length c] _ g1.out.range Tryz.underlying26 rfl prSize ?_)
    refine (Modest_any A c p _ (hN.out.hols.below hb.out)).mono ?_
    rintro e w2 ⟨⟨b, rfl⟩, hbn⟩
    have g1 := Lib.hid (g1.out.below hbn)
    have g2 := Lib.hid (g2.out.below hbn)
    have hb := Lib.hid (below_step hb.out hbn)
    clear hbn c0 c1 c2
    have c0 := g2.out.c 0 _ rfl
    have c1 := g2.out.c 1 _ rfl
    have c2 := g2.out.c 2 _ rfl
    cases b
    · go_wp2_with fail
      go_ret
      exact ⟨rfl, hb.out⟩
    go_wp2_with fail
    refine (Brief_any N d n _ hN.out.name hN.out.acts.size).mono ?_
    rintro e w3 ⟨⟨b, rfl⟩, hbn⟩
    have g1 := Lib.hid (g1.out.below hbn)
    have g2 := Lib.hid (g2.out.below hbn)
    have hb := Lib.hid (below_step hb.out hbn)
    clear hbn c0 c1 c2
    have c0 := g2.out.c 0 _ rfl
    have c1 := g2.out.c 1 _ rfl
    have c2 := g2.out.c 2 _ rfl
    cases b
    · go_wp2_with fail
      go_ret
      exact ⟨rfl, hb.out⟩
    go_wp2_with (refine wpList_load_mid rfl 26 (.tmp 2) rfl (w.heap.size) 0 rfl [.int .i64 p.runs.m, .int .i64 p.runs.d, .bool p.runs.k, .int .i64 p.obj.m, .int .i64 p.obj.d, .bool p.obj.k, .int .i64 p.wait.m, .int .i64 p.wait.d, .bool p.wait.k, .int .i64 p.exts, .int .i64 p.longest, .slice A p.hols.length c] _ g1.out.range Tryz.underlying26 rfl prSize ?_)
    refine (CheckProcedureR_any A c p _ (hN.out.hols.below hb.out)).mono ?_
    rintro e w4 ⟨rfl, hbn⟩
    rw [hPz.out]
    have g1 := Lib.hid (g1.out.below hbn)
    have g2 := Lib.hid (g2.out.below hbn)
    have hb := Lib.hid (below_step hb.out hbn)
    clear hbn c0 c1 c2
    have c0 := g2.out.c 0 _ rfl
    have c1 := g2.out.c 1 _ rfl
    have c2 := g2.out.c 2 _ rfl
    go_wp2_with (refine wpList_load_mid rfl 26 (.tmp 2) rfl (w.heap.size) 0 rfl [.int .i64 p.runs.m, .int .i64 p.runs.d, .bool p.runs.k, .int .i64 p.obj.m, .int .i64 p.obj.d, .bool p.obj.k, .int .i64 p.wait.m, .int .i64 p.wait.d, .bool p.wait.k, .int .i64 p.exts, .int .i64 p.longest, .slice A p.hols.length c] _ g1.out.range Tryz.underlying26 rfl prSize ?_)
    refine (CheckNotice_any A c p N d n _ (hN.out.below hb.out)).mono ?_
    rintro e w5 ⟨he, hbn⟩
    rw [hCz.out] at he
    subst he
    have g1 := Lib.hid (g1.out.below hbn)
    have g2 := Lib.hid (g2.out.below hbn)
    have hb := Lib.hid (below_step hb.out hbn)
    clear hbn c0 c1 c2
    have c0 := g2.out.c 0 _ rfl
    have c1 := g2.out.c 1 _ rfl
    have c2 := g2.out.c 2 _ rfl
    go_wp2_with (refine wpList_load_mid rfl 26 (.tmp 2) rfl (w.heap.size) 0 rfl [.int .i64 p.runs.m, .int .i64 p.runs.d, .bool p.runs.k, .int .i64 p.obj.m, .int .i64 p.obj.d, .bool p.obj.k, .int .i64 p.wait.m, .int .i64 p.wait.d, .bool p.wait.k, .int .i64 p.exts, .int .i64 p.longest, .slice A p.hols.length c] _ g1.out.range Tryz.underlying26 rfl prSize ?_)
    refine (CheckProcedure_any A c p _ (hN.out.hols.below hb.out) (hN.out.tab.below hb.out)).mono ?_
    rintro e w6 ⟨rfl, hbn⟩
    rw [hPz.out]
    have g1 := Lib.hid (g1.out.below hbn)
    have g2 := Lib.hid (g2.out.below hbn)
    have hb := Lib.hid (below_step hb.out hbn)
    clear hbn c0 c1 c2
    have c0 := g2.out.c 0 _ rfl
    have c1 := g2.out.c 1 _ rfl
    have c2 := g2.out.c 2 _ rfl
    go_wp2_with fail
    go_ret
    exact ⟨rfl, hb.out⟩
end Go.Proofs.YtconnjkkgaapbaaGreatDoor
