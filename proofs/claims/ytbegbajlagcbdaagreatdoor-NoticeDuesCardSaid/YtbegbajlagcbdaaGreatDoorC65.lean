/- Chapter 8 and what it rests on: definitions and walks, part 65. -/
import Derived.Test.YtbegbajlagcbdaaGreatDoorC64
namespace Go.Proofs.YtbegbajlagcbdaaGreatDoor
open Go Go.RowKit
theorem ne3 (n : Nat) : some (n + 1 + 1 + 1) ≠ some (n + 1) := by simp; omega
set_option maxRecDepth 100000 in
set_option maxHeartbeats 4000000 in
theorem step_returned (A : Option Addr) (c : Nat) (p : Proc) (s : NSt) (a : NAct) (w : World) (hm : Cal.mayErr p s a = 0) (hk : a.kind = 1) :
    Calls Tryz.prog 122 #[.agg #[.int .i64 p.runs.m, .int .i64 p.runs.d, .bool p.runs.k, .int .i64 p.obj.m, .int .i64 p.obj.d, .bool p.obj.k, .int .i64 p.wait.m, .int .i64 p.wait.d, .bool p.wait.k, .int .i64 p.exts, .int .i64 p.longest, .slice A p.hols.length c], .agg #[.int .i64 s.phase, .int .i64 s.deadline, .int .i64 s.object, .int .i64 s.last, .int .i64 s.objected, .int .i64 s.extended], .agg #[.int .i64 a.day, .int .i64 a.kind, .int .i64 a.days]] w (StepPost w (Cal.actS p s a)) := by
  have hA : Cal.actS p s a = Cal.doneS p s a := if_pos hm
  obtain ⟨hF, hl, hac, hn1, hn2, hn3⟩ := Cal.mayErr_ok hm
  obtain ⟨d0, d1, k0, k1, x⟩ := Formed.of hF
  have hph := Cal.accI_phase (p := p) (s := s) (a := a) k0 k1 hac
  have hng : decide (Cal.accI s.phase a.kind < 0) = false := by
    have := (Cal.accI_acc k0 k1).1 hac
    rw [decide_eq_false_iff_not]; omega
  have hlate : Hid (Cal.lateB s a = false) := by show _ = _; rw [Cal.late_acc k0 k1 hac, decide_eq_false_iff_not]; exact fun h => h.elim hn1 hn2
  have hl' : decide (a.day < s.last) = false := by simpa using hl
  have x6 : (a.kind == 6) = false := by rw [hk]; rfl
  have x6n : (a.kind != 6) = true := by rw [hk]; rfl
  have xz : (a.days != 0) = false := by
    rcases x with ⟨x0, _⟩ | ⟨_, _, x2⟩
    · rw [x6] at x0; cases x0
    · exact x2
  have j0 : (a.kind == 0) = false := by rw [hk]; rfl
  have j2 : (a.kind == 2) = false := by rw [hk]; rfl
  have j3 : (a.kind == 3) = false := by rw [hk]; rfl
  have j4 : (a.kind == 4) = false := by rw [hk]; rfl
  have hfin : Hid (Cal.actS p s a = (⟨Cal.accI s.phase a.kind, a.day, s.deadline, s.object, s.objected, s.extended⟩, 0)) := by
    show _ = _
    rw [hA, ← hph]
    unfold Cal.doneS
    simp only [hk]
    rfl
  clear hA hF hl hac hn1 hn2 hn3 hph x hk hm
  obtain ⟨h1, h2, h3, h4, hb⟩ := start4s w A c p s a
  have p9 := h1.out.c 9 _ rfl
  have p10 := h1.out.c 10 _ rfl
  have p11 := h1.out.c 11 _ rfl
  have p0 := h1.out.c 0 _ rfl
  have p1 := h1.out.c 1 _ rfl
  have p2 := h1.out.c 2 _ rfl
  have p3 := h1.out.c 3 _ rfl
  have p4 := h1.out.c 4 _ rfl
  have p5 := h1.out.c 5 _ rfl
  have s0 := h2.out.c 0 _ rfl
  have s1 := h2.out.c 1 _ rfl
  have s2 := h2.out.c 2 _ rfl
  have s3 := h2.out.c 3 _ rfl
  have s4 := h2.out.c 4 _ rfl
  have s5 := h2.out.c 5 _ rfl
  have a0 := h3.out.c 0 _ rfl
  have a1 := h3.out.c 1 _ rfl
  have a2 := h3.out.c 2 _ rfl
  go_enter Tryz.func122, Tryz.ntmps122
  go_wp2_with (first | ((first | (go_at_call 134) | (go_at_call 59) | (go_at_call 133) | (go_at_call 14) | (go_at_call 178) | (fail) | (go_at_call 139)); first | refine rin ?_ | refine rout ?_ | refine rany ?_) | (go_at_call 192; refine (accepted_any s.phase a.kind k0 k1 _).mono ?_; rintro e w' ⟨rfl, rfl⟩))
  refine (late_any s a _).mono ?_
  rintro e w5 ⟨rfl, hb5⟩
  rw [hlate.out]
  clear p9 p10 p11 p0 p1 p2 p3 p4 p5 s0 s1 s2 s3 s4 s5 a0 a1 a2
  have g1 := Lib.hid (h1.out.below hb5)
  have g2 := Lib.hid (h2.out.below hb5)
  have g3 := Lib.hid (h3.out.below hb5)
  have g4 := Lib.hid (h4.out.below hb5)
  have hbw := Lib.hid (below_step hb.out hb5)
  clear h1 h2 h3 h4 hb hb5
  have p9 := g1.out.c 9 _ rfl
  have p10 := g1.out.c 10 _ rfl
  have p11 := g1.out.c 11 _ rfl
  have p0 := g1.out.c 0 _ rfl
  have p1 := g1.out.c 1 _ rfl
  have p2 := g1.out.c 2 _ rfl
  have p3 := g1.out.c 3 _ rfl
  have p4 := g1.out.c 4 _ rfl
  have p5 := g1.out.c 5 _ rfl
  have s0 := g2.out.c 0 _ rfl
  have s1 := g2.out.c 1 _ rfl
  have s2 := g2.out.c 2 _ rfl
  have s3 := g2.out.c 3 _ rfl
  have s4 := g2.out.c 4 _ rfl
  have s5 := g2.out.c 5 _ rfl
  have a0 := g3.out.c 0 _ rfl
  have a1 := g3.out.c 1 _ rfl
  have a2 := g3.out.c 2 _ rfl
  go_wp2_with fail
  clear p9 p10 p11 p0 p1 p2 p3 p4 p5 s0 s1 s2 s3 s4 s5 a0 a1 a2
  have e0 := g3.out.c 0 _ rfl
  refine wp_region_held_drew (S := (fun w' => w'.cell? ⟨w.heap.size + 1 + 1, 0, none⟩ = some (.int .i64 a.day))) (by kernel_rfl) e0 (fun hHeld => ?_)
  (refine tkH 0 (v := ?_) ?_ ?_; rotate_left; focus (intro w' hSw; (try dsimp only at hSw); go_simp; (try with_reducible rfl)); (try simp only [Act.put, List.setIfInBounds_toArray, List.set_cons_zero, List.set_cons_succ]))
  (refine tkH 1 (v := ?_) ?_ ?_; rotate_left; focus (intro w' hSw; (try dsimp only at hSw); go_simp; (try with_reducible rfl)); (try simp only [Act.put, List.setIfInBounds_toArray, List.set_cons_zero, List.set_cons_succ]))
  (refine tkH 2 (v := ?_) ?_ ?_; rotate_left; focus (intro w' hSw; (try dsimp only at hSw); go_simp; (try with_reducible rfl)); (try simp only [Act.put, List.setIfInBounds_toArray, List.set_cons_zero, List.set_cons_succ]))
  (refine tkH 3 (v := ?_) ?_ ?_; rotate_left; focus (intro w' hSw; (try dsimp only at hSw); go_simp; (try with_reducible rfl)); (try simp only [Act.put, List.setIfInBounds_toArray, List.set_cons_zero, List.set_cons_succ]))
  have z0 := g2.out.c 0 _ rfl
  have z3 := g2.out.c 3 _ rfl
  have y0 := g2.out.free 0 (by simp)
  have y3 := g2.out.free 3 (by simp)
  have hsd := g2.out.below ((Below.refl _ _).drew)
  have had := g3.out.below ((Below.refl _ _).drew)
  have hrd := g4.out.below ((Below.refl _ _).drew)
  have hbd := hbw.out.drew
  have hgA := grown_set (World.drew w5) (w.heap.size + 1) 0 (.int .i64 (Cal.accI s.phase a.kind))
  have hsA := hsd.set 0 (.int .i64 (Cal.accI s.phase a.kind)) (by simp)
  have haA := had.grown hgA (by simp)
  have hrA := hrd.grown hgA (ne3 _)
  have hbA := below_of_grownB hbd hgA (by omega)
  have hgB := grown_set ((World.drew w5).setCell ⟨w.heap.size + 1, 0, none⟩ (.int .i64 (Cal.accI s.phase a.kind))) (w.heap.size + 1) 3 (.int .i64 a.day)
  have hsB := Lib.hid (hsA.set 3 (.int .i64 a.day) (by simp))
  have haB := haA.grown hgB (by simp)
  have hrB := Lib.hid (hrA.grown hgB (ne3 _))
  have hbB := Lib.hid (below_of_grownB hbA hgB (by omega))
  have eA := haA.c 0 _ rfl
  have eB := haB.c 0 _ rfl
  clear hgA hgB hsA hsd had hrd hbd haA hrA hbA haB
  (refine wpAnyH_ready (rs := [4]) (by decide +kernel) (by simp) ?_; refine AllReadyH.cons rfl (fun K hK => ?_) AllReadyH.nil; rw [if_pos (by kernel_rfl)]; go_simp)
  (refine hK.out _ _ eA (fun hHeld => ?_); clear hK K; (try simp only [Act.put, List.setIfInBounds_toArray]); (try simp only [List.set_cons_zero, List.set_cons_succ]))
  (refine tkH 5 (v := ?_) ?_ ?_; rotate_left; focus (intro w' hSw; (try dsimp only at hSw); go_simp; (try with_reducible rfl)); (try simp only [Act.put, List.setIfInBounds_toArray, List.set_cons_zero, List.set_cons_succ]))
  (refine wpAnyH_ready (rs := [6]) (by decide +kernel) (by simp) ?_; refine AllReadyH.cons rfl (fun K hK => ?_) AllReadyH.nil; rw [if_pos (by kernel_rfl)]; go_simp)
  (refine hK.out _ _ eB (fun hHeld => ?_); clear hK K; (try simp only [Act.put, List.setIfInBounds_toArray]); (try simp only [List.set_cons_zero, List.set_cons_succ]))
  refine wpAnyH_done (by kernel_rfl) ?_ _
  clear hHeld eA eB z0 z3 y0 y3 e0
  go_wp2_with (first | (refine wpList_load_mid rfl 145 (.tmp 4) rfl (w.heap.size + 1) 0 rfl [.int .i64 (Cal.accI s.phase a.kind), .int .i64 s.deadline, .int .i64 s.object, .int .i64 a.day, .int .i64 s.objected, .int .i64 s.extended] _ hsB.out.range Tryz.underlying145 rfl rsSize ?_) | (refine wpList_store_box rfl 145 (.tmp 6) _ rfl (w.heap.size + 1 + 1 + 1) _ [.int .i64 (Cal.accI s.phase a.kind), .int .i64 s.deadline, .int .i64 s.object, .int .i64 a.day, .int .i64 s.objected, .int .i64 s.extended] (by rfl) (by rfl) hrB.out rfl rsSize (by kernel_rfl) ?_; intro w66 h66 hg66; have hb66 := Lib.hid (below_of_grownB hbB.out hg66 (by omega))))
  (try simp only [Exit.inBlock, Exit.then])
  rw [hfin.out]
  refine bodyPost_ret (results_mid2 rfl _ _ (w.heap.size + 1 + 1 + 1) [.int .i64 (Cal.accI s.phase a.kind), .int .i64 s.deadline, .int .i64 s.object, .int .i64 a.day, .int .i64 s.objected, .int .i64 s.extended] _ rfl h66.range Tryz.underlying145 rfl rsSize) rfl ⟨⟨⟨Cal.accI s.phase a.kind, a.day, s.deadline, s.object, s.objected, s.extended⟩, by rfl, fun _ => rfl⟩, hb66.out⟩
set_option maxRecDepth 100000 in
set_option maxHeartbeats 4000000 in
theorem step_upheld (A : Option Addr) (c : Nat) (p : Proc) (s : NSt) (a : NAct) (w : World) (hm : Cal.mayErr p s a = 0) (hk : a.kind = 5) :
    Calls Tryz.prog 122 #[.agg #[.int .i64 p.runs.m, .int .i64 p.runs.d, .bool p.runs.k, .int .i64 p.obj.m, .int .i64 p.obj.d, .bool p.obj.k, .int .i64 p.wait.m, .int .i64 p.wait.d, .bool p.wait.k, .int .i64 p.exts, .int .i64 p.longest, .slice A p.hols.length c], .agg #[.int .i64 s.phase, .int .i64 s.deadline, .int .i64 s.object, .int .i64 s.last, .int .i64 s.objected, .int .i64 s.extended], .agg #[.int .i64 a.day, .int .i64 a.kind, .int .i64 a.days]] w (StepPost w (Cal.actS p s a)) := by
  have hA : Cal.actS p s a = Cal.doneS p s a := if_pos hm
  obtain ⟨hF, hl, hac, hn1, hn2, hn3⟩ := Cal.mayErr_ok hm
  obtain ⟨d0, d1, k0, k1, x⟩ := Formed.of hF
  have hph := Cal.accI_phase (p := p) (s := s) (a := a) k0 k1 hac
  have hng : decide (Cal.accI s.phase a.kind < 0) = false := by
    have := (Cal.accI_acc k0 k1).1 hac
    rw [decide_eq_false_iff_not]; omega
  have hlate : Hid (Cal.lateB s a = false) := by show _ = _; rw [Cal.late_acc k0 k1 hac, decide_eq_false_iff_not]; exact fun h => h.elim hn1 hn2
  have hl' : decide (a.day < s.last) = false := by simpa using hl
  have x6 : (a.kind == 6) = false := by rw [hk]; rfl
  have x6n : (a.kind != 6) = true := by rw [hk]; rfl
  have xz : (a.days != 0) = false := by
    rcases x with ⟨x0, _⟩ | ⟨_, _, x2⟩
    · rw [x6] at x0; cases x0
    · exact x2
  have j0 : (a.kind == 0) = false := by rw [hk]; rfl
  have j2 : (a.kind == 2) = false := by rw [hk]; rfl
  have j3 : (a.kind == 3) = false := by rw [hk]; rfl
  have j4 : (a.kind == 4) = false := by rw [hk]; rfl
  have hfin : Hid (Cal.actS p s a = (⟨Cal.accI s.phase a.kind, a.day, s.deadline, s.object, s.objected, s.extended⟩, 0)) := by
    show _ = _
    rw [hA, ← hph]
    unfold Cal.doneS
    simp only [hk]
    rfl
  clear hA hF hl hac hn1 hn2 hn3 hph x hk hm
  obtain ⟨h1, h2, h3, h4, hb⟩ := start4s w A c p s a
  have p9 := h1.out.c 9 _ rfl
  have p10 := h1.out.c 10 _ rfl
  have p11 := h1.out.c 11 _ rfl
  have p0 := h1.out.c 0 _ rfl
  have p1 := h1.out.c 1 _ rfl
  have p2 := h1.out.c 2 _ rfl
  have p3 := h1.out.c 3 _ rfl
  have p4 := h1.out.c 4 _ rfl
  have p5 := h1.out.c 5 _ rfl
  have s0 := h2.out.c 0 _ rfl
  have s1 := h2.out.c 1 _ rfl
  have s2 := h2.out.c 2 _ rfl
  have s3 := h2.out.c 3 _ rfl
  have s4 := h2.out.c 4 _ rfl
  have s5 := h2.out.c 5 _ rfl
  have a0 := h3.out.c 0 _ rfl
  have a1 := h3.out.c 1 _ rfl
  have a2 := h3.out.c 2 _ rfl
  go_enter Tryz.func122, Tryz.ntmps122
  go_wp2_with (first | ((first | (go_at_call 134) | (go_at_call 59) | (go_at_call 133) | (go_at_call 14) | (go_at_call 178) | (fail) | (go_at_call 139)); first | refine rin ?_ | refine rout ?_ | refine rany ?_) | (go_at_call 192; refine (accepted_any s.phase a.kind k0 k1 _).mono ?_; rintro e w' ⟨rfl, rfl⟩))
  refine (late_any s a _).mono ?_
  rintro e w5 ⟨rfl, hb5⟩
  rw [hlate.out]
  clear p9 p10 p11 p0 p1 p2 p3 p4 p5 s0 s1 s2 s3 s4 s5 a0 a1 a2
  have g1 := Lib.hid (h1.out.below hb5)
  have g2 := Lib.hid (h2.out.below hb5)
  have g3 := Lib.hid (h3.out.below hb5)
  have g4 := Lib.hid (h4.out.below hb5)
  have hbw := Lib.hid (below_step hb.out hb5)
  clear h1 h2 h3 h4 hb hb5
  have p9 := g1.out.c 9 _ rfl
  have p10 := g1.out.c 10 _ rfl
  have p11 := g1.out.c 11 _ rfl
  have p0 := g1.out.c 0 _ rfl
  have p1 := g1.out.c 1 _ rfl
  have p2 := g1.out.c 2 _ rfl
  have p3 := g1.out.c 3 _ rfl
  have p4 := g1.out.c 4 _ rfl
  have p5 := g1.out.c 5 _ rfl
  have s0 := g2.out.c 0 _ rfl
  have s1 := g2.out.c 1 _ rfl
  have s2 := g2.out.c 2 _ rfl
  have s3 := g2.out.c 3 _ rfl
  have s4 := g2.out.c 4 _ rfl
  have s5 := g2.out.c 5 _ rfl
  have a0 := g3.out.c 0 _ rfl
  have a1 := g3.out.c 1 _ rfl
  have a2 := g3.out.c 2 _ rfl
  go_wp2_with fail
  clear p9 p10 p11 p0 p1 p2 p3 p4 p5 s0 s1 s2 s3 s4 s5 a0 a1 a2
  have e0 := g3.out.c 0 _ rfl
  refine wp_region_held_drew (S := (fun w' => w'.cell? ⟨w.heap.size + 1 + 1, 0, none⟩ = some (.int .i64 a.day))) (by kernel_rfl) e0 (fun hHeld => ?_)
  (refine tkH 0 (v := ?_) ?_ ?_; rotate_left; focus (intro w' hSw; (try dsimp only at hSw); go_simp; (try with_reducible rfl)); (try simp only [Act.put, List.setIfInBounds_toArray, List.set_cons_zero, List.set_cons_succ]))
  (refine tkH 1 (v := ?_) ?_ ?_; rotate_left; focus (intro w' hSw; (try dsimp only at hSw); go_simp; (try with_reducible rfl)); (try simp only [Act.put, List.setIfInBounds_toArray, List.set_cons_zero, List.set_cons_succ]))
  (refine tkH 2 (v := ?_) ?_ ?_; rotate_left; focus (intro w' hSw; (try dsimp only at hSw); go_simp; (try with_reducible rfl)); (try simp only [Act.put, List.setIfInBounds_toArray, List.set_cons_zero, List.set_cons_succ]))
  (refine tkH 3 (v := ?_) ?_ ?_; rotate_left; focus (intro w' hSw; (try dsimp only at hSw); go_simp; (try with_reducible rfl)); (try simp only [Act.put, List.setIfInBounds_toArray, List.set_cons_zero, List.set_cons_succ]))
  have z0 := g2.out.c 0 _ rfl
  have z3 := g2.out.c 3 _ rfl
  have y0 := g2.out.free 0 (by simp)
  have y3 := g2.out.free 3 (by simp)
  have hsd := g2.out.below ((Below.refl _ _).drew)
  have had := g3.out.below ((Below.refl _ _).drew)
  have hrd := g4.out.below ((Below.refl _ _).drew)
  have hbd := hbw.out.drew
  have hgA := grown_set (World.drew w5) (w.heap.size + 1) 0 (.int .i64 (Cal.accI s.phase a.kind))
  have hsA := hsd.set 0 (.int .i64 (Cal.accI s.phase a.kind)) (by simp)
  have haA := had.grown hgA (by simp)
  have hrA := hrd.grown hgA (ne3 _)
  have hbA := below_of_grownB hbd hgA (by omega)
  have hgB := grown_set ((World.drew w5).setCell ⟨w.heap.size + 1, 0, none⟩ (.int .i64 (Cal.accI s.phase a.kind))) (w.heap.size + 1) 3 (.int .i64 a.day)
  have hsB := Lib.hid (hsA.set 3 (.int .i64 a.day) (by simp))
  have haB := haA.grown hgB (by simp)
  have hrB := Lib.hid (hrA.grown hgB (ne3 _))
  have hbB := Lib.hid (below_of_grownB hbA hgB (by omega))
  have eA := haA.c 0 _ rfl
  have eB := haB.c 0 _ rfl
  clear hgA hgB hsA hsd had hrd hbd haA hrA hbA haB
  (refine wpAnyH_ready (rs := [4]) (by decide +kernel) (by simp) ?_; refine AllReadyH.cons rfl (fun K hK => ?_) AllReadyH.nil; rw [if_pos (by kernel_rfl)]; go_simp)
  (refine hK.out _ _ eA (fun hHeld => ?_); clear hK K; (try simp only [Act.put, List.setIfInBounds_toArray]); (try simp only [List.set_cons_zero, List.set_cons_succ]))
  (refine tkH 5 (v := ?_) ?_ ?_; rotate_left; focus (intro w' hSw; (try dsimp only at hSw); go_simp; (try with_reducible rfl)); (try simp only [Act.put, List.setIfInBounds_toArray, List.set_cons_zero, List.set_cons_succ]))
  (refine wpAnyH_ready (rs := [6]) (by decide +kernel) (by simp) ?_; refine AllReadyH.cons rfl (fun K hK => ?_) AllReadyH.nil; rw [if_pos (by kernel_rfl)]; go_simp)
  (refine hK.out _ _ eB (fun hHeld => ?_); clear hK K; (try simp only [Act.put, List.setIfInBounds_toArray]); (try simp only [List.set_cons_zero, List.set_cons_succ]))
  refine wpAnyH_done (by kernel_rfl) ?_ _
  clear hHeld eA eB z0 z3 y0 y3 e0
  go_wp2_with (first | (refine wpList_load_mid rfl 145 (.tmp 4) rfl (w.heap.size + 1) 0 rfl [.int .i64 (Cal.accI s.phase a.kind), .int .i64 s.deadline, .int .i64 s.object, .int .i64 a.day, .int .i64 s.objected, .int .i64 s.extended] _ hsB.out.range Tryz.underlying145 rfl rsSize ?_) | (refine wpList_store_box rfl 145 (.tmp 6) _ rfl (w.heap.size + 1 + 1 + 1) _ [.int .i64 (Cal.accI s.phase a.kind), .int .i64 s.deadline, .int .i64 s.object, .int .i64 a.day, .int .i64 s.objected, .int .i64 s.extended] (by rfl) (by rfl) hrB.out rfl rsSize (by kernel_rfl) ?_; intro w66 h66 hg66; have hb66 := Lib.hid (below_of_grownB hbB.out hg66 (by omega))))
  (try simp only [Exit.inBlock, Exit.then])
  rw [hfin.out]
  refine bodyPost_ret (results_mid2 rfl _ _ (w.heap.size + 1 + 1 + 1) [.int .i64 (Cal.accI s.phase a.kind), .int .i64 s.deadline, .int .i64 s.object, .int .i64 a.day, .int .i64 s.objected, .int .i64 s.extended] _ rfl h66.range Tryz.underlying145 rfl rsSize) rfl ⟨⟨⟨Cal.accI s.phase a.kind, a.day, s.deadline, s.object, s.objected, s.extended⟩, by rfl, fun _ => rfl⟩, hb66.out⟩
set_option maxRecDepth 100000 in
set_option maxHeartbeats 4000000 in
theorem step_remedied (A : Option Addr) (c : Nat) (p : Proc) (s : NSt) (a : NAct) (w : World) (hm : Cal.mayErr p s a = 0) (hk : a.kind = 7) :
    Calls Tryz.prog 122 #[.agg #[.int .i64 p.runs.m, .int .i64 p.runs.d, .bool p.runs.k, .int .i64 p.obj.m, .int .i64 p.obj.d, .bool p.obj.k, .int .i64 p.wait.m, .int .i64 p.wait.d, .bool p.wait.k, .int .i64 p.exts, .int .i64 p.longest, .slice A p.hols.length c], .agg #[.int .i64 s.phase, .int .i64 s.deadline, .int .i64 s.object, .int .i64 s.last, .int .i64 s.objected, .int .i64 s.extended], .agg #[.int .i64 a.day, .int .i64 a.kind, .int .i64 a.days]] w (StepPost w (Cal.actS p s a)) := by
  have hA : Cal.actS p s a = Cal.doneS p s a := if_pos hm
  obtain ⟨hF, hl, hac, hn1, hn2, hn3⟩ := Cal.mayErr_ok hm
  obtain ⟨d0, d1, k0, k1, x⟩ := Formed.of hF
  have hph := Cal.accI_phase (p := p) (s := s) (a := a) k0 k1 hac
  have hng : decide (Cal.accI s.phase a.kind < 0) = false := by
    have := (Cal.accI_acc k0 k1).1 hac
    rw [decide_eq_false_iff_not]; omega
  have hlate : Hid (Cal.lateB s a = false) := by show _ = _; rw [Cal.late_acc k0 k1 hac, decide_eq_false_iff_not]; exact fun h => h.elim hn1 hn2
  have hl' : decide (a.day < s.last) = false := by simpa using hl
  have x6 : (a.kind == 6) = false := by rw [hk]; rfl
  have x6n : (a.kind != 6) = true := by rw [hk]; rfl
  have xz : (a.days != 0) = false := by
    rcases x with ⟨x0, _⟩ | ⟨_, _, x2⟩
    · rw [x6] at x0; cases x0
    · exact x2
  have j0 : (a.kind == 0) = false := by rw [hk]; rfl
  have j2 : (a.kind == 2) = false := by rw [hk]; rfl
  have j3 : (a.kind == 3) = false := by rw [hk]; rfl
  have j4 : (a.kind == 4) = false := by rw [hk]; rfl
  have hfin : Hid (Cal.actS p s a = (⟨Cal.accI s.phase a.kind, a.day, s.deadline, s.object, s.objected, s.extended⟩, 0)) := by
    show _ = _
    rw [hA, ← hph]
    unfold Cal.doneS
    simp only [hk]
    rfl
  clear hA hF hl hac hn1 hn2 hn3 hph x hk hm
  obtain ⟨h1, h2, h3, h4, hb⟩ := start4s w A c p s a
  have p9 := h1.out.c 9 _ rfl
  have p10 := h1.out.c 10 _ rfl
  have p11 := h1.out.c 11 _ rfl
  have p0 := h1.out.c 0 _ rfl
  have p1 := h1.out.c 1 _ rfl
  have p2 := h1.out.c 2 _ rfl
  have p3 := h1.out.c 3 _ rfl
  have p4 := h1.out.c 4 _ rfl
  have p5 := h1.out.c 5 _ rfl
  have s0 := h2.out.c 0 _ rfl
  have s1 := h2.out.c 1 _ rfl
  have s2 := h2.out.c 2 _ rfl
  have s3 := h2.out.c 3 _ rfl
  have s4 := h2.out.c 4 _ rfl
  have s5 := h2.out.c 5 _ rfl
  have a0 := h3.out.c 0 _ rfl
  have a1 := h3.out.c 1 _ rfl
  have a2 := h3.out.c 2 _ rfl
  go_enter Tryz.func122, Tryz.ntmps122
  go_wp2_with (first | ((first | (go_at_call 134) | (go_at_call 59) | (go_at_call 133) | (go_at_call 14) | (go_at_call 178) | (fail) | (go_at_call 139)); first | refine rin ?_ | refine rout ?_ | refine rany ?_) | (go_at_call 192; refine (accepted_any s.phase a.kind k0 k1 _).mono ?_; rintro e w' ⟨rfl, rfl⟩))
  refine (late_any s a _).mono ?_
  rintro e w5 ⟨rfl, hb5⟩
  rw [hlate.out]
  clear p9 p10 p11 p0 p1 p2 p3 p4 p5 s0 s1 s2 s3 s4 s5 a0 a1 a2
  have g1 := Lib.hid (h1.out.below hb5)
  have g2 := Lib.hid (h2.out.below hb5)
  have g3 := Lib.hid (h3.out.below hb5)
  have g4 := Lib.hid (h4.out.below hb5)
  have hbw := Lib.hid (below_step hb.out hb5)
  clear h1 h2 h3 h4 hb hb5
  have p9 := g1.out.c 9 _ rfl
  have p10 := g1.out.c 10 _ rfl
  have p11 := g1.out.c 11 _ rfl
  have p0 := g1.out.c 0 _ rfl
  have p1 := g1.out.c 1 _ rfl
  have p2 := g1.out.c 2 _ rfl
  have p3 := g1.out.c 3 _ rfl
  have p4 := g1.out.c 4 _ rfl
  have p5 := g1.out.c 5 _ rfl
  have s0 := g2.out.c 0 _ rfl
  have s1 := g2.out.c 1 _ rfl
  have s2 := g2.out.c 2 _ rfl
  have s3 := g2.out.c 3 _ rfl
  have s4 := g2.out.c 4 _ rfl
  have s5 := g2.out.c 5 _ rfl
  have a0 := g3.out.c 0 _ rfl
  have a1 := g3.out.c 1 _ rfl
  have a2 := g3.out.c 2 _ rfl
  go_wp2_with fail
  clear p9 p10 p11 p0 p1 p2 p3 p4 p5 s0 s1 s2 s3 s4 s5 a0 a1 a2
  have e0 := g3.out.c 0 _ rfl
  refine wp_region_held_drew (S := (fun w' => w'.cell? ⟨w.heap.size + 1 + 1, 0, none⟩ = some (.int .i64 a.day))) (by kernel_rfl) e0 (fun hHeld => ?_)
  (refine tkH 0 (v := ?_) ?_ ?_; rotate_left; focus (intro w' hSw; (try dsimp only at hSw); go_simp; (try with_reducible rfl)); (try simp only [Act.put, List.setIfInBounds_toArray, List.set_cons_zero, List.set_cons_succ]))
  (refine tkH 1 (v := ?_) ?_ ?_; rotate_left; focus (intro w' hSw; (try dsimp only at hSw); go_simp; (try with_reducible rfl)); (try simp only [Act.put, List.setIfInBounds_toArray, List.set_cons_zero, List.set_cons_succ]))
  (refine tkH 2 (v := ?_) ?_ ?_; rotate_left; focus (intro w' hSw; (try dsimp only at hSw); go_simp; (try with_reducible rfl)); (try simp only [Act.put, List.setIfInBounds_toArray, List.set_cons_zero, List.set_cons_succ]))
  (refine tkH 3 (v := ?_) ?_ ?_; rotate_left; focus (intro w' hSw; (try dsimp only at hSw); go_simp; (try with_reducible rfl)); (try simp only [Act.put, List.setIfInBounds_toArray, List.set_cons_zero, List.set_cons_succ]))
  have z0 := g2.out.c 0 _ rfl
  have z3 := g2.out.c 3 _ rfl
  have y0 := g2.out.free 0 (by simp)
  have y3 := g2.out.free 3 (by simp)
  have hsd := g2.out.below ((Below.refl _ _).drew)
  have had := g3.out.below ((Below.refl _ _).drew)
  have hrd := g4.out.below ((Below.refl _ _).drew)
  have hbd := hbw.out.drew
  have hgA := grown_set (World.drew w5) (w.heap.size + 1) 0 (.int .i64 (Cal.accI s.phase a.kind))
  have hsA := hsd.set 0 (.int .i64 (Cal.accI s.phase a.kind)) (by simp)
  have haA := had.grown hgA (by simp)
  have hrA := hrd.grown hgA (ne3 _)
  have hbA := below_of_grownB hbd hgA (by omega)
  have hgB := grown_set ((World.drew w5).setCell ⟨w.heap.size + 1, 0, none⟩ (.int .i64 (Cal.accI s.phase a.kind))) (w.heap.size + 1) 3 (.int .i64 a.day)
  have hsB := Lib.hid (hsA.set 3 (.int .i64 a.day) (by simp))
  have haB := haA.grown hgB (by simp)
  have hrB := Lib.hid (hrA.grown hgB (ne3 _))
  have hbB := Lib.hid (below_of_grownB hbA hgB (by omega))
  have eA := haA.c 0 _ rfl
  have eB := haB.c 0 _ rfl
  clear hgA hgB hsA hsd had hrd hbd haA hrA hbA haB
  (refine wpAnyH_ready (rs := [4]) (by decide +kernel) (by simp) ?_; refine AllReadyH.cons rfl (fun K hK => ?_) AllReadyH.nil; rw [if_pos (by kernel_rfl)]; go_simp)
  (refine hK.out _ _ eA (fun hHeld => ?_); clear hK K; (try simp only [Act.put, List.setIfInBounds_toArray]); (try simp only [List.set_cons_zero, List.set_cons_succ]))
  (refine tkH 5 (v := ?_) ?_ ?_; rotate_left; focus (intro w' hSw; (try dsimp only at hSw); go_simp; (try with_reducible rfl)); (try simp only [Act.put, List.setIfInBounds_toArray, List.set_cons_zero, List.set_cons_succ]))
  (refine wpAnyH_ready (rs := [6]) (by decide +kernel) (by simp) ?_; refine AllReadyH.cons rfl (fun K hK => ?_) AllReadyH.nil; rw [if_pos (by kernel_rfl)]; go_simp)
  (refine hK.out _ _ eB (fun hHeld => ?_); clear hK K; (try simp only [Act.put, List.setIfInBounds_toArray]); (try simp only [List.set_cons_zero, List.set_cons_succ]))
  refine wpAnyH_done (by kernel_rfl) ?_ _
  clear hHeld eA eB z0 z3 y0 y3 e0
  go_wp2_with (first | (refine wpList_load_mid rfl 145 (.tmp 4) rfl (w.heap.size + 1) 0 rfl [.int .i64 (Cal.accI s.phase a.kind), .int .i64 s.deadline, .int .i64 s.object, .int .i64 a.day, .int .i64 s.objected, .int .i64 s.extended] _ hsB.out.range Tryz.underlying145 rfl rsSize ?_) | (refine wpList_store_box rfl 145 (.tmp 6) _ rfl (w.heap.size + 1 + 1 + 1) _ [.int .i64 (Cal.accI s.phase a.kind), .int .i64 s.deadline, .int .i64 s.object, .int .i64 a.day, .int .i64 s.objected, .int .i64 s.extended] (by rfl) (by rfl) hrB.out rfl rsSize (by kernel_rfl) ?_; intro w66 h66 hg66; have hb66 := Lib.hid (below_of_grownB hbB.out hg66 (by omega))))
  (try simp only [Exit.inBlock, Exit.then])
  rw [hfin.out]
  refine bodyPost_ret (results_mid2 rfl _ _ (w.heap.size + 1 + 1 + 1) [.int .i64 (Cal.accI s.phase a.kind), .int .i64 s.deadline, .int .i64 s.object, .int .i64 a.day, .int .i64 s.objected, .int .i64 s.extended] _ rfl h66.range Tryz.underlying145 rfl rsSize) rfl ⟨⟨⟨Cal.accI s.phase a.kind, a.day, s.deadline, s.object, s.objected, s.extended⟩, by rfl, fun _ => rfl⟩, hb66.out⟩
set_option maxRecDepth 100000 in
set_option maxHeartbeats 4000000 in
theorem step_objection (A : Option Addr) (c : Nat) (p : Proc) (s : NSt) (a : NAct) (w : World) (hm : Cal.mayErr p s a = 0) (hk : a.kind = 3) :
    Calls Tryz.prog 122 #[.agg #[.int .i64 p.runs.m, .int .i64 p.runs.d, .bool p.runs.k, .int .i64 p.obj.m, .int .i64 p.obj.d, .bool p.obj.k, .int .i64 p.wait.m, .int .i64 p.wait.d, .bool p.wait.k, .int .i64 p.exts, .int .i64 p.longest, .slice A p.hols.length c], .agg #[.int .i64 s.phase, .int .i64 s.deadline, .int .i64 s.object, .int .i64 s.last, .int .i64 s.objected, .int .i64 s.extended], .agg #[.int .i64 a.day, .int .i64 a.kind, .int .i64 a.days]] w (StepPost w (Cal.actS p s a)) := by
  have hA : Cal.actS p s a = Cal.doneS p s a := if_pos hm
  obtain ⟨hF, hl, hac, hn1, hn2, hn3⟩ := Cal.mayErr_ok hm
  obtain ⟨d0, d1, k0, k1, x⟩ := Formed.of hF
  have hph := Cal.accI_phase (p := p) (s := s) (a := a) k0 k1 hac
  have hng : decide (Cal.accI s.phase a.kind < 0) = false := by
    have := (Cal.accI_acc k0 k1).1 hac
    rw [decide_eq_false_iff_not]; omega
  have hlate : Hid (Cal.lateB s a = false) := by show _ = _; rw [Cal.late_acc k0 k1 hac, decide_eq_false_iff_not]; exact fun h => h.elim hn1 hn2
  have hl' : decide (a.day < s.last) = false := by simpa using hl
  have x6 : (a.kind == 6) = false := by rw [hk]; rfl
  have x6n : (a.kind != 6) = true := by rw [hk]; rfl
  have xz : (a.days != 0) = false := by
    rcases x with ⟨x0, _⟩ | ⟨_, _, x2⟩
    · rw [x6] at x0; cases x0
    · exact x2
  have j0 : (a.kind == 0) = false := by rw [hk]; rfl
  have j2 : (a.kind == 2) = false := by rw [hk]; rfl
  have j3 : (a.kind == 3) = true := by rw [hk]; rfl
  have hfin : Hid (Cal.actS p s a = (⟨Cal.accI s.phase a.kind, a.day, s.deadline, s.object, a.day, s.extended⟩, 0)) := by
    show _ = _
    rw [hA, ← hph]
    unfold Cal.doneS
    simp only [hk]
    rfl
  clear hA hF hl hac hn1 hn2 hn3 hph x hk hm
  obtain ⟨h1, h2, h3, h4, hb⟩ := start4s w A c p s a
  have p9 := h1.out.c 9 _ rfl
  have p10 := h1.out.c 10 _ rfl
  have p11 := h1.out.c 11 _ rfl
  have p0 := h1.out.c 0 _ rfl
  have p1 := h1.out.c 1 _ rfl
  have p2 := h1.out.c 2 _ rfl
  have p3 := h1.out.c 3 _ rfl
  have p4 := h1.out.c 4 _ rfl
  have p5 := h1.out.c 5 _ rfl
  have s0 := h2.out.c 0 _ rfl
  have s1 := h2.out.c 1 _ rfl
  have s2 := h2.out.c 2 _ rfl
  have s3 := h2.out.c 3 _ rfl
  have s4 := h2.out.c 4 _ rfl
  have s5 := h2.out.c 5 _ rfl
  have a0 := h3.out.c 0 _ rfl
  have a1 := h3.out.c 1 _ rfl
  have a2 := h3.out.c 2 _ rfl
  go_enter Tryz.func122, Tryz.ntmps122
  go_wp2_with (first | ((first | (go_at_call 134) | (go_at_call 59) | (go_at_call 133) | (go_at_call 14) | (go_at_call 178) | (fail) | (go_at_call 139)); first | refine rin ?_ | refine rout ?_ | refine rany ?_) | (go_at_call 192; refine (accepted_any s.phase a.kind k0 k1 _).mono ?_; rintro e w' ⟨rfl, rfl⟩))
  refine (late_any s a _).mono ?_
  rintro e w5 ⟨rfl, hb5⟩
  rw [hlate.out]
  clear p9 p10 p11 p0 p1 p2 p3 p4 p5 s0 s1 s2 s3 s4 s5 a0 a1 a2
  have g1 := Lib.hid (h1.out.below hb5)
  have g2 := Lib.hid (h2.out.below hb5)
  have g3 := Lib.hid (h3.out.below hb5)
  have g4 := Lib.hid (h4.out.below hb5)
  have hbw := Lib.hid (below_step hb.out hb5)
  clear h1 h2 h3 h4 hb hb5
  have p9 := g1.out.c 9 _ rfl
  have p10 := g1.out.c 10 _ rfl
  have p11 := g1.out.c 11 _ rfl
  have p0 := g1.out.c 0 _ rfl
  have p1 := g1.out.c 1 _ rfl
  have p2 := g1.out.c 2 _ rfl
  have p3 := g1.out.c 3 _ rfl
  have p4 := g1.out.c 4 _ rfl
  have p5 := g1.out.c 5 _ rfl
  have s0 := g2.out.c 0 _ rfl
  have s1 := g2.out.c 1 _ rfl
  have s2 := g2.out.c 2 _ rfl
  have s3 := g2.out.c 3 _ rfl
  have s4 := g2.out.c 4 _ rfl
  have s5 := g2.out.c 5 _ rfl
  have a0 := g3.out.c 0 _ rfl
  have a1 := g3.out.c 1 _ rfl
  have a2 := g3.out.c 2 _ rfl
  have y4 := g2.out.free 4 (by simp)
  have hgS := grown_set (w5) (w.heap.size + 1) 4 (.int .i64 a.day)
  have q2 := Lib.hid (g2.out.set 4 (.int .i64 a.day) (by simp))
  have q3 := Lib.hid (g3.out.grown hgS (by simp))
  have q4 := Lib.hid (g4.out.grown hgS (ne3 _))
  have qb := Lib.hid (below_of_grownB hbw.out hgS (by omega))
  clear hgS
  go_wp2_with fail
  clear y4
  clear p9 p10 p11 p0 p1 p2 p3 p4 p5 s0 s1 s2 s3 s4 s5 a0 a1 a2
  generalize w5.setCell ⟨w.heap.size + 1, 4, none⟩ (.int .i64 a.day) = w7 at *
  have e0 := q3.out.c 0 _ rfl
  refine wp_region_held_drew (S := (fun w' => w'.cell? ⟨w.heap.size + 1 + 1, 0, none⟩ = some (.int .i64 a.day))) (by kernel_rfl) e0 (fun hHeld => ?_)
  (refine tkH 0 (v := ?_) ?_ ?_; rotate_left; focus (intro w' hSw; (try dsimp only at hSw); go_simp; (try with_reducible rfl)); (try simp only [Act.put, List.setIfInBounds_toArray, List.set_cons_zero, List.set_cons_succ]))
  (refine tkH 1 (v := ?_) ?_ ?_; rotate_left; focus (intro w' hSw; (try dsimp only at hSw); go_simp; (try with_reducible rfl)); (try simp only [Act.put, List.setIfInBounds_toArray, List.set_cons_zero, List.set_cons_succ]))
  (refine tkH 2 (v := ?_) ?_ ?_; rotate_left; focus (intro w' hSw; (try dsimp only at hSw); go_simp; (try with_reducible rfl)); (try simp only [Act.put, List.setIfInBounds_toArray, List.set_cons_zero, List.set_cons_succ]))
  (refine tkH 3 (v := ?_) ?_ ?_; rotate_left; focus (intro w' hSw; (try dsimp only at hSw); go_simp; (try with_reducible rfl)); (try simp only [Act.put, List.setIfInBounds_toArray, List.set_cons_zero, List.set_cons_succ]))
  have z0 := q2.out.c 0 _ rfl
  have z3 := q2.out.c 3 _ rfl
  have y0 := q2.out.free 0 (by simp)
  have y3 := q2.out.free 3 (by simp)
  have hsd := q2.out.below ((Below.refl _ _).drew)
  have had := q3.out.below ((Below.refl _ _).drew)
  have hrd := q4.out.below ((Below.refl _ _).drew)
  have hbd := qb.out.drew
  have hgA := grown_set (World.drew w7) (w.heap.size + 1) 0 (.int .i64 (Cal.accI s.phase a.kind))
  have hsA := hsd.set 0 (.int .i64 (Cal.accI s.phase a.kind)) (by simp)
  have haA := had.grown hgA (by simp)
  have hrA := hrd.grown hgA (ne3 _)
  have hbA := below_of_grownB hbd hgA (by omega)
  have hgB := grown_set ((World.drew w7).setCell ⟨w.heap.size + 1, 0, none⟩ (.int .i64 (Cal.accI s.phase a.kind))) (w.heap.size + 1) 3 (.int .i64 a.day)
  have hsB := Lib.hid (hsA.set 3 (.int .i64 a.day) (by simp))
  have haB := haA.grown hgB (by simp)
  have hrB := Lib.hid (hrA.grown hgB (ne3 _))
  have hbB := Lib.hid (below_of_grownB hbA hgB (by omega))
  have eA := haA.c 0 _ rfl
  have eB := haB.c 0 _ rfl
  clear hgA hgB hsA hsd had hrd hbd haA hrA hbA haB
  (refine wpAnyH_ready (rs := [4]) (by decide +kernel) (by simp) ?_; refine AllReadyH.cons rfl (fun K hK => ?_) AllReadyH.nil; rw [if_pos (by kernel_rfl)]; go_simp)
  (refine hK.out _ _ eA (fun hHeld => ?_); clear hK K; (try simp only [Act.put, List.setIfInBounds_toArray]); (try simp only [List.set_cons_zero, List.set_cons_succ]))
  (refine tkH 5 (v := ?_) ?_ ?_; rotate_left; focus (intro w' hSw; (try dsimp only at hSw); go_simp; (try with_reducible rfl)); (try simp only [Act.put, List.setIfInBounds_toArray, List.set_cons_zero, List.set_cons_succ]))
  (refine wpAnyH_ready (rs := [6]) (by decide +kernel) (by simp) ?_; refine AllReadyH.cons rfl (fun K hK => ?_) AllReadyH.nil; rw [if_pos (by kernel_rfl)]; go_simp)
  (refine hK.out _ _ eB (fun hHeld => ?_); clear hK K; (try simp only [Act.put, List.setIfInBounds_toArray]); (try simp only [List.set_cons_zero, List.set_cons_succ]))
  refine wpAnyH_done (by kernel_rfl) ?_ _
  clear hHeld eA eB z0 z3 y0 y3 e0
  go_wp2_with (first | (refine wpList_load_mid rfl 145 (.tmp 4) rfl (w.heap.size + 1) 0 rfl [.int .i64 (Cal.accI s.phase a.kind), .int .i64 s.deadline, .int .i64 s.object, .int .i64 a.day, .int .i64 a.day, .int .i64 s.extended] _ hsB.out.range Tryz.underlying145 rfl rsSize ?_) | (refine wpList_store_box rfl 145 (.tmp 6) _ rfl (w.heap.size + 1 + 1 + 1) _ [.int .i64 (Cal.accI s.phase a.kind), .int .i64 s.deadline, .int .i64 s.object, .int .i64 a.day, .int .i64 a.day, .int .i64 s.extended] (by rfl) (by rfl) hrB.out rfl rsSize (by kernel_rfl) ?_; intro w66 h66 hg66; have hb66 := Lib.hid (below_of_grownB hbB.out hg66 (by omega))))
  (try simp only [Exit.inBlock, Exit.then])
  rw [hfin.out]
  refine bodyPost_ret (results_mid2 rfl _ _ (w.heap.size + 1 + 1 + 1) [.int .i64 (Cal.accI s.phase a.kind), .int .i64 s.deadline, .int .i64 s.object, .int .i64 a.day, .int .i64 a.day, .int .i64 s.extended] _ rfl h66.range Tryz.underlying145 rfl rsSize) rfl ⟨⟨⟨Cal.accI s.phase a.kind, a.day, s.deadline, s.object, a.day, s.extended⟩, by rfl, fun _ => rfl⟩, hb66.out⟩
end Go.Proofs.YtbegbajlagcbdaaGreatDoor
