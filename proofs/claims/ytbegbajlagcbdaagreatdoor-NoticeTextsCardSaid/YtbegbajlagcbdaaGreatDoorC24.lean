/- Chapter 8 and what it rests on: definitions and walks, part 24. -/
import Derived.Test.YtbegbajlagcbdaaGreatDoorC23
namespace Go.Proofs.YtbegbajlagcbdaaGreatDoor
open Go Go.RowKit
set_option maxRecDepth 100000 in
set_option maxHeartbeats 4000000 in
theorem act_objection (A : Option Addr) (c : Nat) (p : Proc) (s s' : NSt) (a : NAct) (w : World) (hl : Hols w A p.hols) (hT : Tab w) (hm : Hid (Cal.mayErr p s a = 0)) (k0 : (a.kind == 0) = false) (k2 : (a.kind == 2) = false) (k1 : (a.kind == 1) = false) (k3 : (a.kind == 3) = true) (hs' : Hid ({ s with last := a.day, phase := 3, objected := a.day } = s')) :
    Calls Tryz.prog 183 #[.agg #[.int .i64 p.runs.m, .int .i64 p.runs.d, .bool p.runs.k, .int .i64 p.obj.m, .int .i64 p.obj.d, .bool p.obj.k, .int .i64 p.wait.m, .int .i64 p.wait.d, .bool p.wait.k, .int .i64 p.exts, .int .i64 p.longest, .slice A p.hols.length c, .int .i64 s.phase, .int .i64 s.last, .int .i64 s.deadline, .int .i64 s.object, .int .i64 s.objected, .int .i64 s.extended], .agg #[.int .i64 a.day, .int .i64 a.kind, .int .i64 a.days]] w (ActPost w A c p (s', 0)) := by
  have hl := Lib.hid hl
  have hT := Lib.hid hT
  have hs0 := Lib.hid (W3_st w A c p s a)
  have ha0 := Lib.hid (W3_act w A c p s a)
  have hr0 := Lib.hid (W3_res w A c p s a)
  have hb0 := Lib.hid (W3_below w A c p s a)
  unfold W3 at hs0 ha0 hr0 hb0
  have q0 := ha0.out.c0
  have q1 := ha0.out.c1
  have q2 := ha0.out.c2
  go_enter Tryz.func183, Tryz.ntmps183
  go_wp2_with (refine wpList_load_mid rfl 134 (.tmp 2) rfl w.heap.size 0 rfl [.int .i64 p.runs.m, .int .i64 p.runs.d, .bool p.runs.k, .int .i64 p.obj.m, .int .i64 p.obj.d, .bool p.obj.k, .int .i64 p.wait.m, .int .i64 p.wait.d, .bool p.wait.k, .int .i64 p.exts, .int .i64 p.longest, .slice A p.hols.length c, .int .i64 s.phase, .int .i64 s.last, .int .i64 s.deadline, .int .i64 s.object, .int .i64 s.objected, .int .i64 s.extended] _ hs0.out.at_.range Tryz.underlying134 rfl stSize ?_)
  clear q0 q1 q2
  refine (may_any A c p s a _).mono ?_
  rintro e w1 ⟨rfl, hb1⟩
  have hs1 := Lib.hid (hs0.out.below hb1)
  have ha1 := Lib.hid (ha0.out.below hb1)
  have hr1 := Lib.hid (hr0.out.below hb1)
  have hbw := Lib.hid (below_step hb0.out hb1)
  clear hb1 hs0 ha0 hr0 hb0
  rw [hm.out]
  have d0 := ha1.out.c0
  have d1 := ha1.out.c1
  have c13 := hs1.out.at_.c13
  have f13 := hs1.out.free 13 (by omega)
  have hg2 := grown_set w1 w.heap.size 13 (.int .i64 a.day)
  have hs2 := Lib.hid (hs1.out.set 13 (.int .i64 a.day) { s with last := a.day } rfl (by omega))
  have hr2 := Lib.hid (hr1.out.grown hg2 (ne2 _))
  have hb2 := Lib.hid (below_of_grownB hbw.out hg2 (Nat.le_refl _))
  have ha2 := Lib.hid (ha1.out.grown hg2 (by simp))
  clear hg2
  have e0 := ha2.out.c0
  have e1 := ha2.out.c1
  have e2 := ha2.out.c2
  have c12 := hs2.out.at_.c12
  have f12 := hs2.out.free 12 (by omega)
  have hg3 := grown_set (w1.setCell ⟨w.heap.size, 13, none⟩ (.int .i64 a.day)).drew w.heap.size 12 (.int .i64 3)
  have hs2d := hs2.out.below ((Below.refl _ _).drew)
  have hr2d := hr2.out.below ((Below.refl _ _).drew)
  have hb2d := hb2.out.drew
  have ha2d := ha2.out.below ((Below.refl _ _).drew)
  have hs3 := Lib.hid (hs2d.set 12 (.int .i64 3) { s with last := a.day, phase := 3 } rfl (by omega))
  have ha3 := Lib.hid (ha2d.grown hg3 (by simp))
  have hr3 := Lib.hid (hr2d.grown hg3 (ne2 _))
  have hb3 := Lib.hid (below_of_grownB hb2d hg3 (Nat.le_refl _))
  clear hg3 hs2d hr2d hb2d ha2d
  have hg4 := grown_set ((w1.setCell ⟨w.heap.size, 13, none⟩ (.int .i64 a.day)).drew.setCell ⟨w.heap.size, 12, none⟩ (.int .i64 3)) w.heap.size 16 (.int .i64 a.day)
  have hs4 : Hid (StW _ w.heap.size A c p s') := hs'.out ▸ hs3.out.set 16 (.int .i64 a.day) { s with last := a.day, phase := 3, objected := a.day } rfl (by omega)
  have ha4 := Lib.hid (ha3.out.grown hg4 (by simp))
  have hr4 := Lib.hid (hr3.out.grown hg4 (ne2 _))
  have hb4 := Lib.hid (below_of_grownB hb3.out hg4 (Nat.le_refl _))
  clear hg4
  have c16 := hs3.out.at_.c16
  have f16 := hs3.out.free 16 (by omega)
  have f16' := hs1.out.free 16 (by omega)
  have c16' := hs1.out.at_.c16
  go_wp2_with fail
  refine wp_region_held_drew (S := (fun w' => w'.cell? ⟨w.heap.size + 1, 0, none⟩ = some (.int .i64 a.day))) (by kernel_rfl) e0 (fun hHeld => ?_)
  (refine tkH 0 (v := ?_) ?_ ?_; rotate_left; focus (intro w' hSw; (try dsimp only at hSw); go_simp; (try with_reducible rfl)); (try simp only [Act.put, List.setIfInBounds_toArray, List.set_cons_zero, List.set_cons_succ]))
  (refine tkH 1 (v := ?_) ?_ ?_; rotate_left; focus (intro w' hSw; (try dsimp only at hSw); go_simp; (try with_reducible rfl)); (try simp only [Act.put, List.setIfInBounds_toArray, List.set_cons_zero, List.set_cons_succ]))
  (refine tkH 2 (v := ?_) ?_ ?_; rotate_left; focus (intro w' hSw; (try dsimp only at hSw); go_simp; (try with_reducible rfl)); (try simp only [Act.put, List.setIfInBounds_toArray, List.set_cons_zero, List.set_cons_succ]))
  (refine wpAnyH_ready (rs := [3]) (by decide +kernel) (by simp) ?_; refine AllReadyH.cons rfl (fun K hK => ?_) AllReadyH.nil; rw [if_pos (by kernel_rfl)]; go_simp)
  (refine hK.out _ _ ha3.out.c0 (fun hHeld => ?_); clear hK K; (try simp only [Act.put, List.setIfInBounds_toArray]); (try simp only [List.set_cons_zero, List.set_cons_succ]))
  (refine tkH 4 (v := ?_) ?_ ?_; rotate_left; focus (intro w' hSw; (try dsimp only at hSw); go_simp; (try with_reducible rfl)); (try simp only [Act.put, List.setIfInBounds_toArray, List.set_cons_zero, List.set_cons_succ]))
  (refine wpAnyH_ready (rs := [5]) (by decide +kernel) (by simp) ?_; refine AllReadyH.cons rfl (fun K hK => ?_) AllReadyH.nil; rw [if_pos (by kernel_rfl)]; go_simp)
  (refine hK.out _ _ ha4.out.c0 (fun hHeld => ?_); clear hK K; (try simp only [Act.put, List.setIfInBounds_toArray]); (try simp only [List.set_cons_zero, List.set_cons_succ]))
  refine wpAnyH_done (by kernel_rfl) ?_ _
  clear hHeld c16 f16 c16' f16' c12 f12 c13 f13 d0 d1 e0 e1 e2
  go_wp2_with (first
    | (refine wpList_load_mid rfl 134 (.tmp 2) rfl w.heap.size 0 rfl [.int .i64 p.runs.m, .int .i64 p.runs.d, .bool p.runs.k, .int .i64 p.obj.m, .int .i64 p.obj.d, .bool p.obj.k, .int .i64 p.wait.m, .int .i64 p.wait.d, .bool p.wait.k, .int .i64 p.exts, .int .i64 p.longest, .slice A p.hols.length c, .int .i64 s'.phase, .int .i64 s'.last, .int .i64 s'.deadline, .int .i64 s'.object, .int .i64 s'.objected, .int .i64 s'.extended] _ hs4.out.at_.range Tryz.underlying134 rfl stSize ?_)
    | (refine wpList_store_mid rfl 134 (.tmp 4) (.tmp 59) rfl (w.heap.size + 1 + 1) 0 #[.int .i64 p.runs.m, .int .i64 p.runs.d, .bool p.runs.k, .int .i64 p.obj.m, .int .i64 p.obj.d, .bool p.obj.k, .int .i64 p.wait.m, .int .i64 p.wait.d, .bool p.wait.k, .int .i64 p.exts, .int .i64 p.longest, .slice A p.hols.length c, .int .i64 s'.phase, .int .i64 s'.last, .int .i64 s'.deadline, .int .i64 s'.object, .int .i64 s'.objected, .int .i64 s'.extended] (by rfl) (by rfl) ?_ ?_ ?_ ?_; (exact hr4.out.there); (exact stSize); kernel_rfl))
  (try simp only [Exit.inBlock, Exit.then])
  refine bodyPost_ret (results_mid2 rfl _ _ (w.heap.size + 1 + 1) [.int .i64 p.runs.m, .int .i64 p.runs.d, .bool p.runs.k, .int .i64 p.obj.m, .int .i64 p.obj.d, .bool p.obj.k, .int .i64 p.wait.m, .int .i64 p.wait.d, .bool p.wait.k, .int .i64 p.exts, .int .i64 p.longest, .slice A p.hols.length c, .int .i64 s'.phase, .int .i64 s'.last, .int .i64 s'.deadline, .int .i64 s'.object, .int .i64 s'.objected, .int .i64 s'.extended] _ rfl (hr4.out.put [.int .i64 p.runs.m, .int .i64 p.runs.d, .bool p.runs.k, .int .i64 p.obj.m, .int .i64 p.obj.d, .bool p.obj.k, .int .i64 p.wait.m, .int .i64 p.wait.d, .bool p.wait.k, .int .i64 p.exts, .int .i64 p.longest, .slice A p.hols.length c, .int .i64 s'.phase, .int .i64 s'.last, .int .i64 s'.deadline, .int .i64 s'.object, .int .i64 s'.objected, .int .i64 s'.extended] rfl).range Tryz.underlying134 rfl stSize) rfl ⟨?_, below_of_grownB hb4.out (grown_setCells (w.heap.size + 1 + 1) [.int .i64 p.runs.m, .int .i64 p.runs.d, .bool p.runs.k, .int .i64 p.obj.m, .int .i64 p.obj.d, .bool p.obj.k, .int .i64 p.wait.m, .int .i64 p.wait.d, .bool p.wait.k, .int .i64 p.exts, .int .i64 p.longest, .slice A p.hols.length c, .int .i64 s'.phase, .int .i64 s'.last, .int .i64 s'.deadline, .int .i64 s'.object, .int .i64 s'.objected, .int .i64 s'.extended] 0 _) (by omega)⟩
  rfl
set_option maxRecDepth 100000 in
set_option maxHeartbeats 4000000 in
theorem act_dismissed (A : Option Addr) (c : Nat) (p : Proc) (s s' : NSt) (a : NAct) (w : World) (hl : Hols w A p.hols) (hT : Tab w) (hm : Hid (Cal.mayErr p s a = 0)) (k0 : (a.kind == 0) = false) (k2 : (a.kind == 2) = false) (k1 : (a.kind == 1) = false) (k3 : (a.kind == 3) = false) (k4 : (a.kind == 4) = true) (hs' : Hid ({ s with last := a.day, phase := 1, deadline := (Cal.addWorkingS p.hols (s.deadline + (a.day - s.objected)) 0).1 } = s')) (hok : StOk s) (a0 : 0 ≤ a.day) (a1 : a.day ≤ 200000) :
    Calls Tryz.prog 183 #[.agg #[.int .i64 p.runs.m, .int .i64 p.runs.d, .bool p.runs.k, .int .i64 p.obj.m, .int .i64 p.obj.d, .bool p.obj.k, .int .i64 p.wait.m, .int .i64 p.wait.d, .bool p.wait.k, .int .i64 p.exts, .int .i64 p.longest, .slice A p.hols.length c, .int .i64 s.phase, .int .i64 s.last, .int .i64 s.deadline, .int .i64 s.object, .int .i64 s.objected, .int .i64 s.extended], .agg #[.int .i64 a.day, .int .i64 a.kind, .int .i64 a.days]] w (ActPost w A c p (s', (Cal.addWorkingS p.hols (s.deadline + (a.day - s.objected)) 0).2)) := by
  have hl := Lib.hid hl
  have hT := Lib.hid hT
  have hs0 := Lib.hid (W3_st w A c p s a)
  have ha0 := Lib.hid (W3_act w A c p s a)
  have hr0 := Lib.hid (W3_res w A c p s a)
  have hb0 := Lib.hid (W3_below w A c p s a)
  unfold W3 at hs0 ha0 hr0 hb0
  have q0 := ha0.out.c0
  have q1 := ha0.out.c1
  have q2 := ha0.out.c2
  go_enter Tryz.func183, Tryz.ntmps183
  go_wp2_with (refine wpList_load_mid rfl 134 (.tmp 2) rfl w.heap.size 0 rfl [.int .i64 p.runs.m, .int .i64 p.runs.d, .bool p.runs.k, .int .i64 p.obj.m, .int .i64 p.obj.d, .bool p.obj.k, .int .i64 p.wait.m, .int .i64 p.wait.d, .bool p.wait.k, .int .i64 p.exts, .int .i64 p.longest, .slice A p.hols.length c, .int .i64 s.phase, .int .i64 s.last, .int .i64 s.deadline, .int .i64 s.object, .int .i64 s.objected, .int .i64 s.extended] _ hs0.out.at_.range Tryz.underlying134 rfl stSize ?_)
  clear q0 q1 q2
  refine (may_any A c p s a _).mono ?_
  rintro e w1 ⟨rfl, hb1⟩
  have hs1 := Lib.hid (hs0.out.below hb1)
  have ha1 := Lib.hid (ha0.out.below hb1)
  have hr1 := Lib.hid (hr0.out.below hb1)
  have hbw := Lib.hid (below_step hb0.out hb1)
  clear hb1 hs0 ha0 hr0 hb0
  rw [hm.out]
  have d0 := ha1.out.c0
  have d1 := ha1.out.c1
  have c13 := hs1.out.at_.c13
  have f13 := hs1.out.free 13 (by omega)
  have hg2 := grown_set w1 w.heap.size 13 (.int .i64 a.day)
  have hs2 := Lib.hid (hs1.out.set 13 (.int .i64 a.day) { s with last := a.day } rfl (by omega))
  have hr2 := Lib.hid (hr1.out.grown hg2 (ne2 _))
  have hb2 := Lib.hid (below_of_grownB hbw.out hg2 (Nat.le_refl _))
  have ha2 := Lib.hid (ha1.out.grown hg2 (by simp))
  clear hg2
  have e0 := ha2.out.c0
  have e1 := ha2.out.c1
  have e2 := ha2.out.c2
  obtain ⟨_, _, _, _, x0, x1, _, _, x2, x3, _, _⟩ := hok
  have hwr : IntKind.i64.wrap (a.day - s.objected) = a.day - s.objected := IntWalk.i64_in _ (by omega)
  have c12 := hs2.out.at_.c12
  have f12 := hs2.out.free 12 (by omega)
  have hg3 := grown_set (w1.setCell ⟨w.heap.size, 13, none⟩ (.int .i64 a.day)) w.heap.size 12 (.int .i64 1)
  have hs3 := Lib.hid (hs2.out.set 12 (.int .i64 1) { s with last := a.day, phase := 1 } rfl (by omega))
  have ha3 := Lib.hid (ha2.out.grown hg3 (by simp))
  have hr3 := Lib.hid (hr2.out.grown hg3 (ne2 _))
  have hb3 := Lib.hid (below_of_grownB hb2.out hg3 (Nat.le_refl _))
  clear hg3
  have c16 := hs3.out.at_.c16
  have g0 := ha3.out.c0
  go_wp2_with fail
  clear c16 g0 c12 f12 c13 f13 d0 d1 e0 e1 e2 hwr
  refine (nmove_any A c p { s with last := a.day, phase := 1 } (a.day - s.objected) w.heap.size w _ hb3.out (Nat.le_refl _) hs3.out hl.out hT.out (by show _ ≤ s.deadline + _; omega) (by show s.deadline + _ ≤ _; omega)).mono ?_
  rintro e w4 ⟨rfl, hs4, hg4⟩
  have hr4 := Lib.hid (hr3.out.grown hg4 (ne2 _))
  have hb4 := Lib.hid (below_of_grownB hb3.out hg4 (Nat.le_refl _))
  have hs4 : Hid (StW w4 w.heap.size A c p s') := hs'.out ▸ hs4
  clear hg4
  go_wp2_with (first
    | (refine wpList_load_mid rfl 134 (.tmp 2) rfl w.heap.size 0 rfl [.int .i64 p.runs.m, .int .i64 p.runs.d, .bool p.runs.k, .int .i64 p.obj.m, .int .i64 p.obj.d, .bool p.obj.k, .int .i64 p.wait.m, .int .i64 p.wait.d, .bool p.wait.k, .int .i64 p.exts, .int .i64 p.longest, .slice A p.hols.length c, .int .i64 s'.phase, .int .i64 s'.last, .int .i64 s'.deadline, .int .i64 s'.object, .int .i64 s'.objected, .int .i64 s'.extended] _ hs4.out.at_.range Tryz.underlying134 rfl stSize ?_)
    | (refine wpList_store_mid rfl 134 (.tmp 4) (.tmp 59) rfl (w.heap.size + 1 + 1) 0 #[.int .i64 p.runs.m, .int .i64 p.runs.d, .bool p.runs.k, .int .i64 p.obj.m, .int .i64 p.obj.d, .bool p.obj.k, .int .i64 p.wait.m, .int .i64 p.wait.d, .bool p.wait.k, .int .i64 p.exts, .int .i64 p.longest, .slice A p.hols.length c, .int .i64 s'.phase, .int .i64 s'.last, .int .i64 s'.deadline, .int .i64 s'.object, .int .i64 s'.objected, .int .i64 s'.extended] (by rfl) (by rfl) ?_ ?_ ?_ ?_; (exact hr4.out.there); (exact stSize); kernel_rfl))
  (try simp only [Exit.inBlock, Exit.then])
  refine bodyPost_ret (results_mid2 rfl _ _ (w.heap.size + 1 + 1) [.int .i64 p.runs.m, .int .i64 p.runs.d, .bool p.runs.k, .int .i64 p.obj.m, .int .i64 p.obj.d, .bool p.obj.k, .int .i64 p.wait.m, .int .i64 p.wait.d, .bool p.wait.k, .int .i64 p.exts, .int .i64 p.longest, .slice A p.hols.length c, .int .i64 s'.phase, .int .i64 s'.last, .int .i64 s'.deadline, .int .i64 s'.object, .int .i64 s'.objected, .int .i64 s'.extended] _ rfl (hr4.out.put [.int .i64 p.runs.m, .int .i64 p.runs.d, .bool p.runs.k, .int .i64 p.obj.m, .int .i64 p.obj.d, .bool p.obj.k, .int .i64 p.wait.m, .int .i64 p.wait.d, .bool p.wait.k, .int .i64 p.exts, .int .i64 p.longest, .slice A p.hols.length c, .int .i64 s'.phase, .int .i64 s'.last, .int .i64 s'.deadline, .int .i64 s'.object, .int .i64 s'.objected, .int .i64 s'.extended] rfl).range Tryz.underlying134 rfl stSize) rfl ⟨?_, below_of_grownB hb4.out (grown_setCells (w.heap.size + 1 + 1) [.int .i64 p.runs.m, .int .i64 p.runs.d, .bool p.runs.k, .int .i64 p.obj.m, .int .i64 p.obj.d, .bool p.obj.k, .int .i64 p.wait.m, .int .i64 p.wait.d, .bool p.wait.k, .int .i64 p.exts, .int .i64 p.longest, .slice A p.hols.length c, .int .i64 s'.phase, .int .i64 s'.last, .int .i64 s'.deadline, .int .i64 s'.object, .int .i64 s'.objected, .int .i64 s'.extended] 0 w4) (by omega)⟩
  rfl
set_option maxRecDepth 100000 in
set_option maxHeartbeats 4000000 in
theorem act_extended (A : Option Addr) (c : Nat) (p : Proc) (s s' : NSt) (a : NAct) (w : World) (hl : Hols w A p.hols) (hT : Tab w) (hm : Hid (Cal.mayErr p s a = 0)) (k0 : (a.kind == 0) = false) (k2 : (a.kind == 2) = false) (k1 : (a.kind == 1) = false) (k3 : (a.kind == 3) = false) (k4 : (a.kind == 4) = false) (k6 : (a.kind == 6) = true) (hs' : Hid ({ s with last := a.day, extended := s.extended + 1, deadline := (Cal.addWorkingS p.hols (s.deadline + a.days) 0).1 } = s')) (hok : StOk s) (a0 : 0 ≤ a.days) (a1 : a.days ≤ 200000) :
    Calls Tryz.prog 183 #[.agg #[.int .i64 p.runs.m, .int .i64 p.runs.d, .bool p.runs.k, .int .i64 p.obj.m, .int .i64 p.obj.d, .bool p.obj.k, .int .i64 p.wait.m, .int .i64 p.wait.d, .bool p.wait.k, .int .i64 p.exts, .int .i64 p.longest, .slice A p.hols.length c, .int .i64 s.phase, .int .i64 s.last, .int .i64 s.deadline, .int .i64 s.object, .int .i64 s.objected, .int .i64 s.extended], .agg #[.int .i64 a.day, .int .i64 a.kind, .int .i64 a.days]] w (ActPost w A c p (s', (Cal.addWorkingS p.hols (s.deadline + a.days) 0).2)) := by
  have hl := Lib.hid hl
  have hT := Lib.hid hT
  have hs0 := Lib.hid (W3_st w A c p s a)
  have ha0 := Lib.hid (W3_act w A c p s a)
  have hr0 := Lib.hid (W3_res w A c p s a)
  have hb0 := Lib.hid (W3_below w A c p s a)
  unfold W3 at hs0 ha0 hr0 hb0
  have q0 := ha0.out.c0
  have q1 := ha0.out.c1
  have q2 := ha0.out.c2
  go_enter Tryz.func183, Tryz.ntmps183
  go_wp2_with (refine wpList_load_mid rfl 134 (.tmp 2) rfl w.heap.size 0 rfl [.int .i64 p.runs.m, .int .i64 p.runs.d, .bool p.runs.k, .int .i64 p.obj.m, .int .i64 p.obj.d, .bool p.obj.k, .int .i64 p.wait.m, .int .i64 p.wait.d, .bool p.wait.k, .int .i64 p.exts, .int .i64 p.longest, .slice A p.hols.length c, .int .i64 s.phase, .int .i64 s.last, .int .i64 s.deadline, .int .i64 s.object, .int .i64 s.objected, .int .i64 s.extended] _ hs0.out.at_.range Tryz.underlying134 rfl stSize ?_)
  clear q0 q1 q2
  refine (may_any A c p s a _).mono ?_
  rintro e w1 ⟨rfl, hb1⟩
  have hs1 := Lib.hid (hs0.out.below hb1)
  have ha1 := Lib.hid (ha0.out.below hb1)
  have hr1 := Lib.hid (hr0.out.below hb1)
  have hbw := Lib.hid (below_step hb0.out hb1)
  clear hb1 hs0 ha0 hr0 hb0
  rw [hm.out]
  have d0 := ha1.out.c0
  have d1 := ha1.out.c1
  have c13 := hs1.out.at_.c13
  have f13 := hs1.out.free 13 (by omega)
  have hg2 := grown_set w1 w.heap.size 13 (.int .i64 a.day)
  have hs2 := Lib.hid (hs1.out.set 13 (.int .i64 a.day) { s with last := a.day } rfl (by omega))
  have hr2 := Lib.hid (hr1.out.grown hg2 (ne2 _))
  have hb2 := Lib.hid (below_of_grownB hbw.out hg2 (Nat.le_refl _))
  have ha2 := Lib.hid (ha1.out.grown hg2 (by simp))
  clear hg2
  have e0 := ha2.out.c0
  have e1 := ha2.out.c1
  have e2 := ha2.out.c2
  obtain ⟨_, _, _, _, x0, x1, _, _, _, _, x2, x3⟩ := hok
  have hwr : IntKind.i64.wrap (s.extended + 1) = s.extended + 1 := IntWalk.i64_in _ (by omega)
  have c17 := hs2.out.at_.c17
  have f17 := hs2.out.free 17 (by omega)
  have hg3 := grown_set (w1.setCell ⟨w.heap.size, 13, none⟩ (.int .i64 a.day)) w.heap.size 17 (.int .i64 (s.extended + 1))
  have hs3 := Lib.hid (hs2.out.set 17 (.int .i64 (s.extended + 1)) { s with last := a.day, extended := s.extended + 1 } rfl (by omega))
  have ha3 := Lib.hid (ha2.out.grown hg3 (by simp))
  have hr3 := Lib.hid (hr2.out.grown hg3 (ne2 _))
  have hb3 := Lib.hid (below_of_grownB hb2.out hg3 (Nat.le_refl _))
  clear hg3
  have g2 := ha3.out.c2
  go_wp2_with fail
  clear c17 f17 g2 c13 f13 d0 d1 e0 e1 e2 hwr
  refine (nmove_any A c p { s with last := a.day, extended := s.extended + 1 } a.days w.heap.size w _ hb3.out (Nat.le_refl _) hs3.out hl.out hT.out (by show _ ≤ s.deadline + _; omega) (by show s.deadline + _ ≤ _; omega)).mono ?_
  rintro e w4 ⟨rfl, hs4, hg4⟩
  have hr4 := Lib.hid (hr3.out.grown hg4 (ne2 _))
  have hb4 := Lib.hid (below_of_grownB hb3.out hg4 (Nat.le_refl _))
  have hs4 : Hid (StW w4 w.heap.size A c p s') := hs'.out ▸ hs4
  clear hg4
  go_wp2_with (first
    | (refine wpList_load_mid rfl 134 (.tmp 2) rfl w.heap.size 0 rfl [.int .i64 p.runs.m, .int .i64 p.runs.d, .bool p.runs.k, .int .i64 p.obj.m, .int .i64 p.obj.d, .bool p.obj.k, .int .i64 p.wait.m, .int .i64 p.wait.d, .bool p.wait.k, .int .i64 p.exts, .int .i64 p.longest, .slice A p.hols.length c, .int .i64 s'.phase, .int .i64 s'.last, .int .i64 s'.deadline, .int .i64 s'.object, .int .i64 s'.objected, .int .i64 s'.extended] _ hs4.out.at_.range Tryz.underlying134 rfl stSize ?_)
    | (refine wpList_store_mid rfl 134 (.tmp 4) (.tmp 59) rfl (w.heap.size + 1 + 1) 0 #[.int .i64 p.runs.m, .int .i64 p.runs.d, .bool p.runs.k, .int .i64 p.obj.m, .int .i64 p.obj.d, .bool p.obj.k, .int .i64 p.wait.m, .int .i64 p.wait.d, .bool p.wait.k, .int .i64 p.exts, .int .i64 p.longest, .slice A p.hols.length c, .int .i64 s'.phase, .int .i64 s'.last, .int .i64 s'.deadline, .int .i64 s'.object, .int .i64 s'.objected, .int .i64 s'.extended] (by rfl) (by rfl) ?_ ?_ ?_ ?_; (exact hr4.out.there); (exact stSize); kernel_rfl))
  (try simp only [Exit.inBlock, Exit.then])
  refine bodyPost_ret (results_mid2 rfl _ _ (w.heap.size + 1 + 1) [.int .i64 p.runs.m, .int .i64 p.runs.d, .bool p.runs.k, .int .i64 p.obj.m, .int .i64 p.obj.d, .bool p.obj.k, .int .i64 p.wait.m, .int .i64 p.wait.d, .bool p.wait.k, .int .i64 p.exts, .int .i64 p.longest, .slice A p.hols.length c, .int .i64 s'.phase, .int .i64 s'.last, .int .i64 s'.deadline, .int .i64 s'.object, .int .i64 s'.objected, .int .i64 s'.extended] _ rfl (hr4.out.put [.int .i64 p.runs.m, .int .i64 p.runs.d, .bool p.runs.k, .int .i64 p.obj.m, .int .i64 p.obj.d, .bool p.obj.k, .int .i64 p.wait.m, .int .i64 p.wait.d, .bool p.wait.k, .int .i64 p.exts, .int .i64 p.longest, .slice A p.hols.length c, .int .i64 s'.phase, .int .i64 s'.last, .int .i64 s'.deadline, .int .i64 s'.object, .int .i64 s'.objected, .int .i64 s'.extended] rfl).range Tryz.underlying134 rfl stSize) rfl ⟨?_, below_of_grownB hb4.out (grown_setCells (w.heap.size + 1 + 1) [.int .i64 p.runs.m, .int .i64 p.runs.d, .bool p.runs.k, .int .i64 p.obj.m, .int .i64 p.obj.d, .bool p.obj.k, .int .i64 p.wait.m, .int .i64 p.wait.d, .bool p.wait.k, .int .i64 p.exts, .int .i64 p.longest, .slice A p.hols.length c, .int .i64 s'.phase, .int .i64 s'.last, .int .i64 s'.deadline, .int .i64 s'.object, .int .i64 s'.objected, .int .i64 s'.extended] 0 w4) (by omega)⟩
  rfl
theorem act_any (A : Option Addr) (c : Nat) (p : Proc) (s : NSt) (a : NAct) (w : World) (hl : Hols w A p.hols) (hT : Tab w) (hok : StOk s) (hx : p.longest ≤ 3660) :
    Calls Tryz.prog 183 #[.agg #[.int .i64 p.runs.m, .int .i64 p.runs.d, .bool p.runs.k, .int .i64 p.obj.m, .int .i64 p.obj.d, .bool p.obj.k, .int .i64 p.wait.m, .int .i64 p.wait.d, .bool p.wait.k, .int .i64 p.exts, .int .i64 p.longest, .slice A p.hols.length c, .int .i64 s.phase, .int .i64 s.last, .int .i64 s.deadline, .int .i64 s.object, .int .i64 s.objected, .int .i64 s.extended], .agg #[.int .i64 a.day, .int .i64 a.kind, .int .i64 a.days]] w (ActPost w A c p (Cal.actS p s a)) := by
  by_cases hm : Cal.mayErr p s a = 0
  · have hA : Cal.actS p s a = Cal.doneS p s a := if_pos hm
    rw [hA]
    obtain ⟨hf, _, _, _, _, _⟩ := Cal.mayErr_ok hm
    obtain ⟨a0, a1, k0, k1, d1, d2⟩ := Cal.formErr_ok hf
    have e : ∀ {j : Int}, a.kind = j → (a.kind == j) = true := fun h => by simpa using h
    have n : ∀ {j : Int}, a.kind ≠ j → (a.kind == j) = false := fun h => by simpa using h
    unfold Cal.doneS
    by_cases h0 : a.kind = 0
    · rw [if_pos (.inl h0)]; exact act_served A c p s _ a w hl hT hm (e h0) rfl
    by_cases h2 : a.kind = 2
    · rw [if_pos (.inr h2)]; exact act_published A c p s _ a w hl hT hm (n h0) (e h2) rfl
    rw [if_neg (fun h => h.elim h0 h2)]
    by_cases h1 : a.kind = 1
    · rw [if_pos h1]; exact act_returned A c p s _ a w hl hT hm (n h0) (n h2) (e h1) rfl
    rw [if_neg h1]
    by_cases h3 : a.kind = 3
    · rw [if_pos h3]; exact act_objection A c p s _ a w hl hT hm (n h0) (n h2) (n h1) (e h3) rfl
    rw [if_neg h3]
    by_cases h4 : a.kind = 4
    · rw [if_pos h4]; exact act_dismissed A c p s _ a w hl hT hm (n h0) (n h2) (n h1) (n h3) (e h4) rfl hok a0 a1
    rw [if_neg h4]
    by_cases h6 : a.kind = 6
    · rw [if_pos h6]; have := d1 h6; exact act_extended A c p s _ a w hl hT hm (n h0) (n h2) (n h1) (n h3) (n h4) (e h6) rfl hok (by omega) (by omega)
    rw [if_neg h6]
    by_cases h5 : a.kind = 5
    · rw [if_pos h5]; exact act_upheld A c p s _ a w hl hT hm (n h0) (n h2) (n h1) (n h3) (n h4) (n h6) (e h5) rfl
    rw [if_neg h5]
    exact act_remedied A c p s _ a w hl hT hm (n h0) (n h2) (n h1) (n h3) (n h4) (n h6) (n h5) (e (by omega)) rfl
  · have hA : Cal.actS p s a = (s, Cal.mayErr p s a) := if_neg hm
    rw [hA]
    exact act_bad A c p s a w _ rfl (by simpa using hm)
end Go.Proofs.YtbegbajlagcbdaaGreatDoor
namespace Go.Proofs.YtbegbajlagcbdaaGreatDoor
open Go Go.RowKit
theorem prSize : (Tryz.prog.info? 47).map (·.size) = some 12 := by kernel_rfl
/-- A procedure that is loaded whole. -/
theorem wpPr {ops : Array Oper} {rest : List Oper} {op : Oper} {a : Act} {w : World} {Q : Exit → Act → World → Prop} {B c : Nat} {A : Option Addr} {p : Proc} (h : BoxAt w B [.int .i64 p.runs.m, .int .i64 p.runs.d, .bool p.runs.k, .int .i64 p.obj.m, .int .i64 p.obj.d, .bool p.obj.k, .int .i64 p.wait.m, .int .i64 p.wait.d, .bool p.wait.k, .int .i64 p.exts, .int .i64 p.longest, .slice A p.hols.length c]) (x : Operand) (hx : a.eval x = .pointer (some ⟨B, 0, none⟩))
    (k : wpList Tryz.prog ops Q rest (a.put op.dst (.agg #[.int .i64 p.runs.m, .int .i64 p.runs.d, .bool p.runs.k, .int .i64 p.obj.m, .int .i64 p.obj.d, .bool p.obj.k, .int .i64 p.wait.m, .int .i64 p.wait.d, .bool p.wait.k, .int .i64 p.exts, .int .i64 p.longest, .slice A p.hols.length c])) w) (hgd : op.guard = none := by exact rfl) (ho : op.op = .load 47 x := by exact rfl) : wpList Tryz.prog ops Q (op :: rest) a w :=
  wpList_load_mid hgd 47 x ho B 0 hx [.int .i64 p.runs.m, .int .i64 p.runs.d, .bool p.runs.k, .int .i64 p.obj.m, .int .i64 p.obj.d, .bool p.obj.k, .int .i64 p.wait.m, .int .i64 p.wait.d, .bool p.wait.k, .int .i64 p.exts, .int .i64 p.longest, .slice A p.hols.length c] _ h.range Tryz.underlying47 rfl prSize k
def NAct.cells (a : NAct) : List Value := [.int .i64 a.day, .int .i64 a.kind, .int .i64 a.days]
/-- A slice that reads as a list of acts. -/
structure Acts (w : World) (A : Option Addr) (l : List NAct) : Prop where
  rows : RowsAt w A 3 (l.map NAct.cells)
  size : l.length ≤ 9223372036854775807
theorem Acts.below {w w' : World} {A : Option Addr} {l : List NAct} (h : Acts w A l) (hb : Below w.heap.size w w') : Acts w' A l := ⟨h.rows.below hb, h.size⟩
theorem Acts.at_ {w : World} {A : Option Addr} {l : List NAct} (h : Acts w A l) {k : Nat} {a : NAct} (hk : l[k]? = some a) :
    ∃ b o, A = some ⟨b, o, none⟩ ∧ b < w.heap.size ∧ w.cell? ⟨b, o + k * 3, none⟩ = some (.int .i64 a.day) ∧ w.cell? ⟨b, o + k * 3 + 1, none⟩ = some (.int .i64 a.kind) ∧ w.cell? ⟨b, o + k * 3 + 2, none⟩ = some (.int .i64 a.days) := by
  obtain ⟨b, o, hA, hlt, hc⟩ := h.rows k a.cells (by simp [hk])
  exact ⟨b, o, hA, hlt, hc 0 _ rfl, hc 1 _ rfl, hc 2 _ rfl⟩
def W2n (w : World) (A : Option Addr) (c : Nat) (p : Proc) (N : Option Addr) (d : Nat) (n : Note) : World :=
  (w.alloc (.cells #[.int .i64 p.runs.m, .int .i64 p.runs.d, .bool p.runs.k, .int .i64 p.obj.m, .int .i64 p.obj.d, .bool p.obj.k, .int .i64 p.wait.m, .int .i64 p.wait.d, .bool p.wait.k, .int .i64 p.exts, .int .i64 p.longest, .slice A p.hols.length c] 47)).alloc (.cells #[.string n.name, .int .i64 n.opened, .slice N n.acts.length d] 93)
theorem W2n_pr (w : World) (A : Option Addr) (c : Nat) (p : Proc) (N : Option Addr) (d : Nat) (n : Note) : BoxAt (W2n w A c p N d n) w.heap.size [.int .i64 p.runs.m, .int .i64 p.runs.d, .bool p.runs.k, .int .i64 p.obj.m, .int .i64 p.obj.d, .bool p.obj.k, .int .i64 p.wait.m, .int .i64 p.wait.d, .bool p.wait.k, .int .i64 p.exts, .int .i64 p.longest, .slice A p.hols.length c] := (BoxAt.new w _ _).alloc _
theorem W2n_note (w : World) (A : Option Addr) (c : Nat) (p : Proc) (N : Option Addr) (d : Nat) (n : Note) : BoxAt (W2n w A c p N d n) (w.heap.size + 1) [.string n.name, .int .i64 n.opened, .slice N n.acts.length d] := by
  have h := BoxAt.new (w.alloc (.cells #[.int .i64 p.runs.m, .int .i64 p.runs.d, .bool p.runs.k, .int .i64 p.obj.m, .int .i64 p.obj.d, .bool p.obj.k, .int .i64 p.wait.m, .int .i64 p.wait.d, .bool p.wait.k, .int .i64 p.exts, .int .i64 p.longest, .slice A p.hols.length c] 47)) #[.string n.name, .int .i64 n.opened, .slice N n.acts.length d] 93
  rw [World.size_alloc] at h
  exact h
theorem W2n_below (w : World) (A : Option Addr) (c : Nat) (p : Proc) (N : Option Addr) (d : Nat) (n : Note) : Below w.heap.size w (W2n w A c p N d n) := below_step (below_alloc _ _) (below_alloc _ _)
theorem W2n_size (w : World) (A : Option Addr) (c : Nat) (p : Proc) (N : Option Addr) (d : Nat) (n : Note) : (W2n w A c p N d n).heap.size = w.heap.size + 1 + 1 := by unfold W2n; simp
set_option maxRecDepth 100000 in
set_option maxHeartbeats 4000000 in
theorem first_any (A : Option Addr) (c : Nat) (p : Proc) (N : Option Addr) (d : Nat) (n : Note) (w : World) :
    Calls Tryz.prog 182 #[.agg #[.int .i64 p.runs.m, .int .i64 p.runs.d, .bool p.runs.k, .int .i64 p.obj.m, .int .i64 p.obj.d, .bool p.obj.k, .int .i64 p.wait.m, .int .i64 p.wait.d, .bool p.wait.k, .int .i64 p.exts, .int .i64 p.longest, .slice A p.hols.length c], .agg #[.string n.name, .int .i64 n.opened, .slice N n.acts.length d]] w fun e w' => e = .returned (.agg #[.int .i64 p.runs.m, .int .i64 p.runs.d, .bool p.runs.k, .int .i64 p.obj.m, .int .i64 p.obj.d, .bool p.obj.k, .int .i64 p.wait.m, .int .i64 p.wait.d, .bool p.wait.k, .int .i64 p.exts, .int .i64 p.longest, .slice A p.hols.length c, .int .i64 (Cal.openSt n.opened).phase, .int .i64 (Cal.openSt n.opened).last, .int .i64 (Cal.openSt n.opened).deadline, .int .i64 (Cal.openSt n.opened).object, .int .i64 (Cal.openSt n.opened).objected, .int .i64 (Cal.openSt n.opened).extended]) ∧ Below w.heap.size w w' := by
  have h1 := W2n_pr w A c p N d n
  have h2 := W2n_note w A c p N d n
  have hb := W2n_below w A c p N d n
  have h3 := BoxAt.new (W2n w A c p N d n) #[.int .i64 0, .int .i64 0, .bool false, .int .i64 0, .int .i64 0, .bool false, .int .i64 0, .int .i64 0, .bool false, .int .i64 0, .int .i64 0, .slice none 0 0, .int .i64 0, .int .i64 0, .int .i64 0, .int .i64 0, .int .i64 0, .int .i64 0] 134
  rw [W2n_size] at h3
  have hb := Lib.hid (below_step hb (below_alloc _ (.cells #[.int .i64 0, .int .i64 0, .bool false, .int .i64 0, .int .i64 0, .bool false, .int .i64 0, .int .i64 0, .bool false, .int .i64 0, .int .i64 0, .slice none 0 0, .int .i64 0, .int .i64 0, .int .i64 0, .int .i64 0, .int .i64 0, .int .i64 0] 134)))
  have h1 := Lib.hid (h1.alloc (.cells #[.int .i64 0, .int .i64 0, .bool false, .int .i64 0, .int .i64 0, .bool false, .int .i64 0, .int .i64 0, .bool false, .int .i64 0, .int .i64 0, .slice none 0 0, .int .i64 0, .int .i64 0, .int .i64 0, .int .i64 0, .int .i64 0, .int .i64 0] 134))
  have h2 := Lib.hid (h2.alloc (.cells #[.int .i64 0, .int .i64 0, .bool false, .int .i64 0, .int .i64 0, .bool false, .int .i64 0, .int .i64 0, .bool false, .int .i64 0, .int .i64 0, .slice none 0 0, .int .i64 0, .int .i64 0, .int .i64 0, .int .i64 0, .int .i64 0, .int .i64 0] 134))
  have h3 := Lib.hid h3
  unfold W2n at h1 h2 h3 hb
  have c1 := h2.out.c 1 _ rfl
  go_enter Tryz.func182, Tryz.ntmps182
  go_wp2_with (first
    | (refine wpPr h1.out (.tmp 2) rfl ?_)
    | (refine wpList_store_mid rfl 134 (.tmp 4) (.tmp 8) rfl (w.heap.size + 1 + 1) 0 #[.int .i64 p.runs.m, .int .i64 p.runs.d, .bool p.runs.k, .int .i64 p.obj.m, .int .i64 p.obj.d, .bool p.obj.k, .int .i64 p.wait.m, .int .i64 p.wait.d, .bool p.wait.k, .int .i64 p.exts, .int .i64 p.longest, .slice A p.hols.length c, .int .i64 0, .int .i64 n.opened, .int .i64 0, .int .i64 0, .int .i64 0, .int .i64 0] (by rfl) (by rfl) ?_ ?_ ?_ ?_; (exact h3.out.there); (exact stSize); kernel_rfl))
  trace_state
  (try simp only [Exit.inBlock, Exit.then])
  refine bodyPost_ret (results_mid1 rfl _ _ (w.heap.size + 1 + 1) [.int .i64 p.runs.m, .int .i64 p.runs.d, .bool p.runs.k, .int .i64 p.obj.m, .int .i64 p.obj.d, .bool p.obj.k, .int .i64 p.wait.m, .int .i64 p.wait.d, .bool p.wait.k, .int .i64 p.exts, .int .i64 p.longest, .slice A p.hols.length c, .int .i64 0, .int .i64 n.opened, .int .i64 0, .int .i64 0, .int .i64 0, .int .i64 0] _ rfl (h3.out.put [.int .i64 p.runs.m, .int .i64 p.runs.d, .bool p.runs.k, .int .i64 p.obj.m, .int .i64 p.obj.d, .bool p.obj.k, .int .i64 p.wait.m, .int .i64 p.wait.d, .bool p.wait.k, .int .i64 p.exts, .int .i64 p.longest, .slice A p.hols.length c, .int .i64 0, .int .i64 n.opened, .int .i64 0, .int .i64 0, .int .i64 0, .int .i64 0] rfl).range Tryz.underlying134 rfl stSize) rfl ⟨rfl, below_of_grownB hb.out (grown_setCells (w.heap.size + 1 + 1) [.int .i64 p.runs.m, .int .i64 p.runs.d, .bool p.runs.k, .int .i64 p.obj.m, .int .i64 p.obj.d, .bool p.obj.k, .int .i64 p.wait.m, .int .i64 p.wait.d, .bool p.wait.k, .int .i64 p.exts, .int .i64 p.longest, .slice A p.hols.length c, .int .i64 0, .int .i64 n.opened, .int .i64 0, .int .i64 0, .int .i64 0, .int .i64 0] 0 _) (by omega)⟩
end Go.Proofs.YtbegbajlagcbdaaGreatDoor
