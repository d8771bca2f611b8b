/- Chapter 8 and what it rests on: definitions and walks, part 73. -/
import Derived.Test.YtbegbajlagcbdaaGreatDoorC72
import Derived.Test.YtbegbajlagcbdaaGreatDoorC03
import Derived.Test.YtbegbajlagcbdaaGreatDoorC28
namespace Go.Proofs.YtbegbajlagcbdaaGreatDoor
open Go Go.RowKit
/-- The months of a grade. -/
def Grad.mo (g : Grad) (x : Int) : Int := if x = 0 then g.m0 else if x = 1 then g.m1 else if x = 2 then g.m2 else g.m3
def Cal.dueS (g : Grad) (v : Vis) : Int × Int := Cal.addS v.day (g.mo (Cal.gradeS g v))
theorem Cal.grade_cases (g : Grad) (v : Vis) : Cal.gradeS g v = 0 ∨ Cal.gradeS g v = 1 ∨ Cal.gradeS g v = 2 ∨ Cal.gradeS g v = 3 := by
  unfold Cal.gradeS
  split
  · split
    · exact .inr (.inr (.inr rfl))
    · split
      · exact .inr (.inr (.inl rfl))
      · split
        · exact .inr (.inl rfl)
        · exact .inl rfl
  · exact .inl rfl
structure VB2 (w : World) (g : Grad) (v : Vis) (wr : World) : Prop where
  hb : Below w.heap.size w wr
  g1 : BoxAt wr w.heap.size [.int .i64 g.t0, .int .i64 g.t1, .int .i64 g.t2, .int .i64 g.p0, .int .i64 g.p1, .int .i64 g.p2, .int .i64 g.m0, .int .i64 g.m1, .int .i64 g.m2, .int .i64 g.m3]
  g2 : BoxAt wr (w.heap.size + 1) [.int .i64 v.day, .int .i64 v.kind, .int .i64 v.tilt, .int .i64 v.push]
  tab : Tab wr
theorem VB2.step {w : World} {g : Grad} {v : Vis} {wr w' : World} (h : VB2 w g v wr) (hb : Below wr.heap.size wr w') : VB2 w g v w' :=
  ⟨below_step h.hb hb, h.g1.below hb, h.g2.below hb, h.tab.below hb⟩
theorem start2v (w : World) (g : Grad) (v : Vis) (hT : Tab w) : VB2 w g v ((w.alloc (.cells #[.int .i64 g.t0, .int .i64 g.t1, .int .i64 g.t2, .int .i64 g.p0, .int .i64 g.p1, .int .i64 g.p2, .int .i64 g.m0, .int .i64 g.m1, .int .i64 g.m2, .int .i64 g.m3] 25)).alloc (.cells #[.int .i64 v.day, .int .i64 v.kind, .int .i64 v.tilt, .int .i64 v.push] 106)) := by
  have h2 := BoxAt.new (w.alloc (.cells #[.int .i64 g.t0, .int .i64 g.t1, .int .i64 g.t2, .int .i64 g.p0, .int .i64 g.p1, .int .i64 g.p2, .int .i64 g.m0, .int .i64 g.m1, .int .i64 g.m2, .int .i64 g.m3] 25)) #[.int .i64 v.day, .int .i64 v.kind, .int .i64 v.tilt, .int .i64 v.push] 106
  rw [World.size_alloc] at h2
  have hb : Below w.heap.size w ((w.alloc (.cells #[.int .i64 g.t0, .int .i64 g.t1, .int .i64 g.t2, .int .i64 g.p0, .int .i64 g.p1, .int .i64 g.p2, .int .i64 g.m0, .int .i64 g.m1, .int .i64 g.m2, .int .i64 g.m3] 25)).alloc (.cells #[.int .i64 v.day, .int .i64 v.kind, .int .i64 v.tilt, .int .i64 v.push] 106)) := below_step (below_alloc _ _) (below_alloc _ _)
  exact ⟨hb, (BoxAt.new w _ _).alloc _, h2, hT.below hb⟩
set_option maxRecDepth 100000 in
set_option maxHeartbeats 8000000 in
theorem due_any (g : Grad) (v : Vis) (w : World) (hT : Tab w) :
    Calls Tryz.prog 108 #[.agg #[.int .i64 g.t0, .int .i64 g.t1, .int .i64 g.t2, .int .i64 g.p0, .int .i64 g.p1, .int .i64 g.p2, .int .i64 g.m0, .int .i64 g.m1, .int .i64 g.m2, .int .i64 g.m3], .agg #[.int .i64 v.day, .int .i64 v.kind, .int .i64 v.tilt, .int .i64 v.push]] w fun e w' => e = .returned (.tuple #[.int .i64 (Cal.dueS g v).1, .int .i64 (Cal.dueS g v).2]) ∧ Below w.heap.size w w' := by
  have hI := Lib.hid (start2v w g v hT)
  clear hT
  rcases Cal.grade_cases g v with hx | hx | hx | hx
  · have hfin : Hid (Cal.dueS g v = Cal.addS v.day g.m0) := by show _ = _; unfold Cal.dueS; rw [hx]; rfl
    have hxz := Lib.hid hx
    clear hx
    go_enter Tryz.func108, Tryz.ntmps108
    go_wp2_with fail
    refine wp_region_held_drew (S := (fun w' => BoxAt w' w.heap.size [.int .i64 g.t0, .int .i64 g.t1, .int .i64 g.t2, .int .i64 g.p0, .int .i64 g.p1, .int .i64 g.p2, .int .i64 g.m0, .int .i64 g.m1, .int .i64 g.m2, .int .i64 g.m3] ∧ w'.cell? ⟨w.heap.size + 1, 0, none⟩ = some (.int .i64 v.day) ∧ w'.cell? ⟨w.heap.size + 1, 1, none⟩ = some (.int .i64 v.kind) ∧ w'.cell? ⟨w.heap.size + 1, 2, none⟩ = some (.int .i64 v.tilt) ∧ w'.cell? ⟨w.heap.size + 1, 3, none⟩ = some (.int .i64 v.push) ∧ w'.cell? ⟨w.heap.size, 6, none⟩ = some (.int .i64 g.m0))) (by kernel_rfl) ⟨hI.out.g1.below (Below.refl _ _).drew, hI.out.g2.c 0 _ rfl, hI.out.g2.c 1 _ rfl, hI.out.g2.c 2 _ rfl, hI.out.g2.c 3 _ rfl, hI.out.g1.c 6 _ rfl⟩ (fun hHeld => ?_)
    (refine tkH 0 (v := ?_) ?_ ?_; rotate_left; focus (intro w' hSw; (try dsimp only at hSw); go_simp; (try with_reducible rfl)); (try simp only [Act.put, List.setIfInBounds_toArray, List.set_cons_zero, List.set_cons_succ]))
    (refine tkH 1 (v := ?_) ?_ ?_; rotate_left; focus (intro w' hSw; (try dsimp only at hSw); go_simp; (try with_reducible rfl)); (try simp only [Act.put, List.setIfInBounds_toArray, List.set_cons_zero, List.set_cons_succ]))
    (refine wpAnyH_take (i := 2) (v := _) rfl (by kernel_rfl) (by decide +kernel) (by decide +kernel) (fun _ _ _ h => h) (yieldsIf_load_mid (by kernel_rfl) 25 _ rfl (w.heap.size) 0 (by kernel_rfl) [.int .i64 g.t0, .int .i64 g.t1, .int .i64 g.t2, .int .i64 g.p0, .int .i64 g.p1, .int .i64 g.p2, .int .i64 g.m0, .int .i64 g.m1, .int .i64 g.m2, .int .i64 g.m3] _ (fun _ h => h.1.range) Tryz.underlying25 rfl grSize) (by assumption) ?_; (try simp only [Act.put, List.setIfInBounds_toArray]); (try simp only [List.set_cons_zero, List.set_cons_succ]))
    (refine tkH 3 (v := ?_) ?_ ?_; rotate_left; focus (intro w' hSw; (try dsimp only at hSw); go_simp; (try with_reducible rfl)); (try simp only [Act.put, List.setIfInBounds_toArray, List.set_cons_zero, List.set_cons_succ]))
    (refine tkH 5 (v := ?_) ?_ ?_; rotate_left; focus (intro w' hSw; (try dsimp only at hSw); go_simp; (try with_reducible rfl)); (try simp only [Act.put, List.setIfInBounds_toArray, List.set_cons_zero, List.set_cons_succ]))
    (refine wpAnyH_ready (rs := [4]) (by decide +kernel) (by simp) ?_; refine AllReadyH.cons rfl (fun K hK => ?_) AllReadyH.nil; rw [if_pos (by kernel_rfl)]; go_simp)
    refine (grade_any g v _).mono ?_
    rw [hxz.out]
    rintro e w5 ⟨rfl, hb5⟩
    have hb45 := below_of_drewN (n := 1) hb5
    have hI := Lib.hid (hI.out.step hb45)
    clear hb45 hb5
    go_simp
    (refine hK.out _ _ ⟨hI.out.g1, hI.out.g2.c 0 _ rfl, hI.out.g2.c 1 _ rfl, hI.out.g2.c 2 _ rfl, hI.out.g2.c 3 _ rfl, hI.out.g1.c 6 _ rfl⟩ (fun hHeld => ?_); clear hK K; (try simp only [Act.put, List.setIfInBounds_toArray]); (try simp only [List.set_cons_zero, List.set_cons_succ]))
    (refine tkH 6 (v := ?_) ?_ ?_; rotate_left; focus (intro w' hSw; (try dsimp only at hSw); go_simp; (try with_reducible rfl)); (try simp only [Act.put, List.setIfInBounds_toArray, List.set_cons_zero, List.set_cons_succ]))
    (refine tkH 7 (v := ?_) ?_ ?_; rotate_left; focus (intro w' hSw; (try dsimp only at hSw); go_simp; (try with_reducible rfl)); (try simp only [Act.put, List.setIfInBounds_toArray, List.set_cons_zero, List.set_cons_succ]))
    (refine wpAnyH_ready (rs := [8]) (by decide +kernel) (by simp) ?_; refine AllReadyH.cons rfl (fun K hK => ?_) AllReadyH.nil; rw [if_pos (by kernel_rfl)]; go_simp)
    refine (AddMonths_any _ _ _ hI.out.tab).mono ?_
    rintro e w6 ⟨rfl, hb6⟩
    have hI := Lib.hid (hI.out.step hb6)
    clear hb6
    go_simp
    (refine hK.out _ _ ⟨hI.out.g1, hI.out.g2.c 0 _ rfl, hI.out.g2.c 1 _ rfl, hI.out.g2.c 2 _ rfl, hI.out.g2.c 3 _ rfl, hI.out.g1.c 6 _ rfl⟩ (fun hHeld => ?_); clear hK K; (try simp only [Act.put, List.setIfInBounds_toArray]); (try simp only [List.set_cons_zero, List.set_cons_succ]))
    (refine tkH 9 (v := ?_) ?_ ?_; rotate_left; focus (intro w' hSw; (try dsimp only at hSw); go_simp; (try with_reducible rfl)); (try simp only [Act.put, List.setIfInBounds_toArray, List.set_cons_zero, List.set_cons_succ]))
    (refine tkH 10 (v := ?_) ?_ ?_; rotate_left; focus (intro w' hSw; (try dsimp only at hSw); go_simp; (try with_reducible rfl)); (try simp only [Act.put, List.setIfInBounds_toArray, List.set_cons_zero, List.set_cons_succ]))
    (refine tkH 11 (v := ?_) ?_ ?_; rotate_left; focus (intro w' hSw; (try dsimp only at hSw); go_simp; (try with_reducible rfl)); (try simp only [Act.put, List.setIfInBounds_toArray, List.set_cons_zero, List.set_cons_succ]))
    (refine tkH 12 (v := ?_) ?_ ?_; rotate_left; focus (intro w' hSw; (try dsimp only at hSw); go_simp; (try with_reducible rfl)); (try simp only [Act.put, List.setIfInBounds_toArray, List.set_cons_zero, List.set_cons_succ]))
    refine wpAnyH_done (by kernel_rfl) ?_ _
    go_wp2_with fail
    go_ret2
    exact ⟨by rw [hfin.out]; rfl, hI.out.hb⟩
  · have hfin : Hid (Cal.dueS g v = Cal.addS v.day g.m1) := by show _ = _; unfold Cal.dueS; rw [hx]; rfl
    have hxz := Lib.hid hx
    clear hx
    go_enter Tryz.func108, Tryz.ntmps108
    go_wp2_with fail
    refine wp_region_held_drew (S := (fun w' => BoxAt w' w.heap.size [.int .i64 g.t0, .int .i64 g.t1, .int .i64 g.t2, .int .i64 g.p0, .int .i64 g.p1, .int .i64 g.p2, .int .i64 g.m0, .int .i64 g.m1, .int .i64 g.m2, .int .i64 g.m3] ∧ w'.cell? ⟨w.heap.size + 1, 0, none⟩ = some (.int .i64 v.day) ∧ w'.cell? ⟨w.heap.size + 1, 1, none⟩ = some (.int .i64 v.kind) ∧ w'.cell? ⟨w.heap.size + 1, 2, none⟩ = some (.int .i64 v.tilt) ∧ w'.cell? ⟨w.heap.size + 1, 3, none⟩ = some (.int .i64 v.push) ∧ w'.cell? ⟨w.heap.size, 7, none⟩ = some (.int .i64 g.m1))) (by kernel_rfl) ⟨hI.out.g1.below (Below.refl _ _).drew, hI.out.g2.c 0 _ rfl, hI.out.g2.c 1 _ rfl, hI.out.g2.c 2 _ rfl, hI.out.g2.c 3 _ rfl, hI.out.g1.c 7 _ rfl⟩ (fun hHeld => ?_)
    (refine tkH 0 (v := ?_) ?_ ?_; rotate_left; focus (intro w' hSw; (try dsimp only at hSw); go_simp; (try with_reducible rfl)); (try simp only [Act.put, List.setIfInBounds_toArray, List.set_cons_zero, List.set_cons_succ]))
    (refine tkH 1 (v := ?_) ?_ ?_; rotate_left; focus (intro w' hSw; (try dsimp only at hSw); go_simp; (try with_reducible rfl)); (try simp only [Act.put, List.setIfInBounds_toArray, List.set_cons_zero, List.set_cons_succ]))
    (refine wpAnyH_take (i := 2) (v := _) rfl (by kernel_rfl) (by decide +kernel) (by decide +kernel) (fun _ _ _ h => h) (yieldsIf_load_mid (by kernel_rfl) 25 _ rfl (w.heap.size) 0 (by kernel_rfl) [.int .i64 g.t0, .int .i64 g.t1, .int .i64 g.t2, .int .i64 g.p0, .int .i64 g.p1, .int .i64 g.p2, .int .i64 g.m0, .int .i64 g.m1, .int .i64 g.m2, .int .i64 g.m3] _ (fun _ h => h.1.range) Tryz.underlying25 rfl grSize) (by assumption) ?_; (try simp only [Act.put, List.setIfInBounds_toArray]); (try simp only [List.set_cons_zero, List.set_cons_succ]))
    (refine tkH 3 (v := ?_) ?_ ?_; rotate_left; focus (intro w' hSw; (try dsimp only at hSw); go_simp; (try with_reducible rfl)); (try simp only [Act.put, List.setIfInBounds_toArray, List.set_cons_zero, List.set_cons_succ]))
    (refine tkH 5 (v := ?_) ?_ ?_; rotate_left; focus (intro w' hSw; (try dsimp only at hSw); go_simp; (try with_reducible rfl)); (try simp only [Act.put, List.setIfInBounds_toArray, List.set_cons_zero, List.set_cons_succ]))
    (refine wpAnyH_ready (rs := [4]) (by decide +kernel) (by simp) ?_; refine AllReadyH.cons rfl (fun K hK => ?_) AllReadyH.nil; rw [if_pos (by kernel_rfl)]; go_simp)
    refine (grade_any g v _).mono ?_
    rw [hxz.out]
    rintro e w5 ⟨rfl, hb5⟩
    have hb45 := below_of_drewN (n := 1) hb5
    have hI := Lib.hid (hI.out.step hb45)
    clear hb45 hb5
    go_simp
    (refine hK.out _ _ ⟨hI.out.g1, hI.out.g2.c 0 _ rfl, hI.out.g2.c 1 _ rfl, hI.out.g2.c 2 _ rfl, hI.out.g2.c 3 _ rfl, hI.out.g1.c 7 _ rfl⟩ (fun hHeld => ?_); clear hK K; (try simp only [Act.put, List.setIfInBounds_toArray]); (try simp only [List.set_cons_zero, List.set_cons_succ]))
    (refine tkH 6 (v := ?_) ?_ ?_; rotate_left; focus (intro w' hSw; (try dsimp only at hSw); go_simp; (try with_reducible rfl)); (try simp only [Act.put, List.setIfInBounds_toArray, List.set_cons_zero, List.set_cons_succ]))
    (refine tkH 7 (v := ?_) ?_ ?_; rotate_left; focus (intro w' hSw; (try dsimp only at hSw); go_simp; (try with_reducible rfl)); (try simp only [Act.put, List.setIfInBounds_toArray, List.set_cons_zero, List.set_cons_succ]))
    (refine wpAnyH_ready (rs := [8]) (by decide +kernel) (by simp) ?_; refine AllReadyH.cons rfl (fun K hK => ?_) AllReadyH.nil; rw [if_pos (by kernel_rfl)]; go_simp)
    refine (AddMonths_any _ _ _ hI.out.tab).mono ?_
    rintro e w6 ⟨rfl, hb6⟩
    have hI := Lib.hid (hI.out.step hb6)
    clear hb6
    go_simp
    (refine hK.out _ _ ⟨hI.out.g1, hI.out.g2.c 0 _ rfl, hI.out.g2.c 1 _ rfl, hI.out.g2.c 2 _ rfl, hI.out.g2.c 3 _ rfl, hI.out.g1.c 7 _ rfl⟩ (fun hHeld => ?_); clear hK K; (try simp only [Act.put, List.setIfInBounds_toArray]); (try simp only [List.set_cons_zero, List.set_cons_succ]))
    (refine tkH 9 (v := ?_) ?_ ?_; rotate_left; focus (intro w' hSw; (try dsimp only at hSw); go_simp; (try with_reducible rfl)); (try simp only [Act.put, List.setIfInBounds_toArray, List.set_cons_zero, List.set_cons_succ]))
    (refine tkH 10 (v := ?_) ?_ ?_; rotate_left; focus (intro w' hSw; (try dsimp only at hSw); go_simp; (try with_reducible rfl)); (try simp only [Act.put, List.setIfInBounds_toArray, List.set_cons_zero, List.set_cons_succ]))
    (refine tkH 11 (v := ?_) ?_ ?_; rotate_left; focus (intro w' hSw; (try dsimp only at hSw); go_simp; (try with_reducible rfl)); (try simp only [Act.put, List.setIfInBounds_toArray, List.set_cons_zero, List.set_cons_succ]))
    (refine tkH 12 (v := ?_) ?_ ?_; rotate_left; focus (intro w' hSw; (try dsimp only at hSw); go_simp; (try with_reducible rfl)); (try simp only [Act.put, List.setIfInBounds_toArray, List.set_cons_zero, List.set_cons_succ]))
    refine wpAnyH_done (by kernel_rfl) ?_ _
    go_wp2_with fail
    go_ret2
    exact ⟨by rw [hfin.out]; rfl, hI.out.hb⟩
  · have hfin : Hid (Cal.dueS g v = Cal.addS v.day g.m2) := by show _ = _; unfold Cal.dueS; rw [hx]; rfl
    have hxz := Lib.hid hx
    clear hx
    go_enter Tryz.func108, Tryz.ntmps108
    go_wp2_with fail
    refine wp_region_held_drew (S := (fun w' => BoxAt w' w.heap.size [.int .i64 g.t0, .int .i64 g.t1, .int .i64 g.t2, .int .i64 g.p0, .int .i64 g.p1, .int .i64 g.p2, .int .i64 g.m0, .int .i64 g.m1, .int .i64 g.m2, .int .i64 g.m3] ∧ w'.cell? ⟨w.heap.size + 1, 0, none⟩ = some (.int .i64 v.day) ∧ w'.cell? ⟨w.heap.size + 1, 1, none⟩ = some (.int .i64 v.kind) ∧ w'.cell? ⟨w.heap.size + 1, 2, none⟩ = some (.int .i64 v.tilt) ∧ w'.cell? ⟨w.heap.size + 1, 3, none⟩ = some (.int .i64 v.push) ∧ w'.cell? ⟨w.heap.size, 8, none⟩ = some (.int .i64 g.m2))) (by kernel_rfl) ⟨hI.out.g1.below (Below.refl _ _).drew, hI.out.g2.c 0 _ rfl, hI.out.g2.c 1 _ rfl, hI.out.g2.c 2 _ rfl, hI.out.g2.c 3 _ rfl, hI.out.g1.c 8 _ rfl⟩ (fun hHeld => ?_)
    (refine tkH 0 (v := ?_) ?_ ?_; rotate_left; focus (intro w' hSw; (try dsimp only at hSw); go_simp; (try with_reducible rfl)); (try simp only [Act.put, List.setIfInBounds_toArray, List.set_cons_zero, List.set_cons_succ]))
    (refine tkH 1 (v := ?_) ?_ ?_; rotate_left; focus (intro w' hSw; (try dsimp only at hSw); go_simp; (try with_reducible rfl)); (try simp only [Act.put, List.setIfInBounds_toArray, List.set_cons_zero, List.set_cons_succ]))
    (refine wpAnyH_take (i := 2) (v := _) rfl (by kernel_rfl) (by decide +kernel) (by decide +kernel) (fun _ _ _ h => h) (yieldsIf_load_mid (by kernel_rfl) 25 _ rfl (w.heap.size) 0 (by kernel_rfl) [.int .i64 g.t0, .int .i64 g.t1, .int .i64 g.t2, .int .i64 g.p0, .int .i64 g.p1, .int .i64 g.p2, .int .i64 g.m0, .int .i64 g.m1, .int .i64 g.m2, .int .i64 g.m3] _ (fun _ h => h.1.range) Tryz.underlying25 rfl grSize) (by assumption) ?_; (try simp only [Act.put, List.setIfInBounds_toArray]); (try simp only [List.set_cons_zero, List.set_cons_succ]))
    (refine tkH 3 (v := ?_) ?_ ?_; rotate_left; focus (intro w' hSw; (try dsimp only at hSw); go_simp; (try with_reducible rfl)); (try simp only [Act.put, List.setIfInBounds_toArray, List.set_cons_zero, List.set_cons_succ]))
    (refine tkH 5 (v := ?_) ?_ ?_; rotate_left; focus (intro w' hSw; (try dsimp only at hSw); go_simp; (try with_reducible rfl)); (try simp only [Act.put, List.setIfInBounds_toArray, List.set_cons_zero, List.set_cons_succ]))
    (refine wpAnyH_ready (rs := [4]) (by decide +kernel) (by simp) ?_; refine AllReadyH.cons rfl (fun K hK => ?_) AllReadyH.nil; rw [if_pos (by kernel_rfl)]; go_simp)
    refine (grade_any g v _).mono ?_
    rw [hxz.out]
    rintro e w5 ⟨rfl, hb5⟩
    have hb45 := below_of_drewN (n := 1) hb5
    have hI := Lib.hid (hI.out.step hb45)
    clear hb45 hb5
    go_simp
    (refine hK.out _ _ ⟨hI.out.g1, hI.out.g2.c 0 _ rfl, hI.out.g2.c 1 _ rfl, hI.out.g2.c 2 _ rfl, hI.out.g2.c 3 _ rfl, hI.out.g1.c 8 _ rfl⟩ (fun hHeld => ?_); clear hK K; (try simp only [Act.put, List.setIfInBounds_toArray]); (try simp only [List.set_cons_zero, List.set_cons_succ]))
    (refine tkH 6 (v := ?_) ?_ ?_; rotate_left; focus (intro w' hSw; (try dsimp only at hSw); go_simp; (try with_reducible rfl)); (try simp only [Act.put, List.setIfInBounds_toArray, List.set_cons_zero, List.set_cons_succ]))
    (refine tkH 7 (v := ?_) ?_ ?_; rotate_left; focus (intro w' hSw; (try dsimp only at hSw); go_simp; (try with_reducible rfl)); (try simp only [Act.put, List.setIfInBounds_toArray, List.set_cons_zero, List.set_cons_succ]))
    (refine wpAnyH_ready (rs := [8]) (by decide +kernel) (by simp) ?_; refine AllReadyH.cons rfl (fun K hK => ?_) AllReadyH.nil; rw [if_pos (by kernel_rfl)]; go_simp)
    refine (AddMonths_any _ _ _ hI.out.tab).mono ?_
    rintro e w6 ⟨rfl, hb6⟩
    have hI := Lib.hid (hI.out.step hb6)
    clear hb6
    go_simp
    (refine hK.out _ _ ⟨hI.out.g1, hI.out.g2.c 0 _ rfl, hI.out.g2.c 1 _ rfl, hI.out.g2.c 2 _ rfl, hI.out.g2.c 3 _ rfl, hI.out.g1.c 8 _ rfl⟩ (fun hHeld => ?_); clear hK K; (try simp only [Act.put, List.setIfInBounds_toArray]); (try simp only [List.set_cons_zero, List.set_cons_succ]))
    (refine tkH 9 (v := ?_) ?_ ?_; rotate_left; focus (intro w' hSw; (try dsimp only at hSw); go_simp; (try with_reducible rfl)); (try simp only [Act.put, List.setIfInBounds_toArray, List.set_cons_zero, List.set_cons_succ]))
    (refine tkH 10 (v := ?_) ?_ ?_; rotate_left; focus (intro w' hSw; (try dsimp only at hSw); go_simp; (try with_reducible rfl)); (try simp only [Act.put, List.setIfInBounds_toArray, List.set_cons_zero, List.set_cons_succ]))
    (refine tkH 11 (v := ?_) ?_ ?_; rotate_left; focus (intro w' hSw; (try dsimp only at hSw); go_simp; (try with_reducible rfl)); (try simp only [Act.put, List.setIfInBounds_toArray, List.set_cons_zero, List.set_cons_succ]))
    (refine tkH 12 (v := ?_) ?_ ?_; rotate_left; focus (intro w' hSw; (try dsimp only at hSw); go_simp; (try with_reducible rfl)); (try simp only [Act.put, List.setIfInBounds_toArray, List.set_cons_zero, List.set_cons_succ]))
    refine wpAnyH_done (by kernel_rfl) ?_ _
    go_wp2_with fail
    go_ret2
    exact ⟨by rw [hfin.out]; rfl, hI.out.hb⟩
  · have hfin : Hid (Cal.dueS g v = Cal.addS v.day g.m3) := by show _ = _; unfold Cal.dueS; rw [hx]; rfl
    have hxz := Lib.hid hx
    clear hx
    go_enter Tryz.func108, Tryz.ntmps108
    go_wp2_with fail
    refine wp_region_held_drew (S := (fun w' => BoxAt w' w.heap.size [.int .i64 g.t0, .int .i64 g.t1, .int .i64 g.t2, .int .i64 g.p0, .int .i64 g.p1, .int .i64 g.p2, .int .i64 g.m0, .int .i64 g.m1, .int .i64 g.m2, .int .i64 g.m3] ∧ w'.cell? ⟨w.heap.size + 1, 0, none⟩ = some (.int .i64 v.day) ∧ w'.cell? ⟨w.heap.size + 1, 1, none⟩ = some (.int .i64 v.kind) ∧ w'.cell? ⟨w.heap.size + 1, 2, none⟩ = some (.int .i64 v.tilt) ∧ w'.cell? ⟨w.heap.size + 1, 3, none⟩ = some (.int .i64 v.push) ∧ w'.cell? ⟨w.heap.size, 9, none⟩ = some (.int .i64 g.m3))) (by kernel_rfl) ⟨hI.out.g1.below (Below.refl _ _).drew, hI.out.g2.c 0 _ rfl, hI.out.g2.c 1 _ rfl, hI.out.g2.c 2 _ rfl, hI.out.g2.c 3 _ rfl, hI.out.g1.c 9 _ rfl⟩ (fun hHeld => ?_)
    (refine tkH 0 (v := ?_) ?_ ?_; rotate_left; focus (intro w' hSw; (try dsimp only at hSw); go_simp; (try with_reducible rfl)); (try simp only [Act.put, List.setIfInBounds_toArray, List.set_cons_zero, List.set_cons_succ]))
    (refine tkH 1 (v := ?_) ?_ ?_; rotate_left; focus (intro w' hSw; (try dsimp only at hSw); go_simp; (try with_reducible rfl)); (try simp only [Act.put, List.setIfInBounds_toArray, List.set_cons_zero, List.set_cons_succ]))
    (refine wpAnyH_take (i := 2) (v := _) rfl (by kernel_rfl) (by decide +kernel) (by decide +kernel) (fun _ _ _ h => h) (yieldsIf_load_mid (by kernel_rfl) 25 _ rfl (w.heap.size) 0 (by kernel_rfl) [.int .i64 g.t0, .int .i64 g.t1, .int .i64 g.t2, .int .i64 g.p0, .int .i64 g.p1, .int .i64 g.p2, .int .i64 g.m0, .int .i64 g.m1, .int .i64 g.m2, .int .i64 g.m3] _ (fun _ h => h.1.range) Tryz.underlying25 rfl grSize) (by assumption) ?_; (try simp only [Act.put, List.setIfInBounds_toArray]); (try simp only [List.set_cons_zero, List.set_cons_succ]))
    (refine tkH 3 (v := ?_) ?_ ?_; rotate_left; focus (intro w' hSw; (try dsimp only at hSw); go_simp; (try with_reducible rfl)); (try simp only [Act.put, List.setIfInBounds_toArray, List.set_cons_zero, List.set_cons_succ]))
    (refine tkH 5 (v := ?_) ?_ ?_; rotate_left; focus (intro w' hSw; (try dsimp only at hSw); go_simp; (try with_reducible rfl)); (try simp only [Act.put, List.setIfInBounds_toArray, List.set_cons_zero, List.set_cons_succ]))
    (refine wpAnyH_ready (rs := [4]) (by decide +kernel) (by simp) ?_; refine AllReadyH.cons rfl (fun K hK => ?_) AllReadyH.nil; rw [if_pos (by kernel_rfl)]; go_simp)
    refine (grade_any g v _).mono ?_
    rw [hxz.out]
    rintro e w5 ⟨rfl, hb5⟩
    have hb45 := below_of_drewN (n := 1) hb5
    have hI := Lib.hid (hI.out.step hb45)
    clear hb45 hb5
    go_simp
    (refine hK.out _ _ ⟨hI.out.g1, hI.out.g2.c 0 _ rfl, hI.out.g2.c 1 _ rfl, hI.out.g2.c 2 _ rfl, hI.out.g2.c 3 _ rfl, hI.out.g1.c 9 _ rfl⟩ (fun hHeld => ?_); clear hK K; (try simp only [Act.put, List.setIfInBounds_toArray]); (try simp only [List.set_cons_zero, List.set_cons_succ]))
    (refine tkH 6 (v := ?_) ?_ ?_; rotate_left; focus (intro w' hSw; (try dsimp only at hSw); go_simp; (try with_reducible rfl)); (try simp only [Act.put, List.setIfInBounds_toArray, List.set_cons_zero, List.set_cons_succ]))
    (refine tkH 7 (v := ?_) ?_ ?_; rotate_left; focus (intro w' hSw; (try dsimp only at hSw); go_simp; (try with_reducible rfl)); (try simp only [Act.put, List.setIfInBounds_toArray, List.set_cons_zero, List.set_cons_succ]))
    (refine wpAnyH_ready (rs := [8]) (by decide +kernel) (by simp) ?_; refine AllReadyH.cons rfl (fun K hK => ?_) AllReadyH.nil; rw [if_pos (by kernel_rfl)]; go_simp)
    refine (AddMonths_any _ _ _ hI.out.tab).mono ?_
    rintro e w6 ⟨rfl, hb6⟩
    have hI := Lib.hid (hI.out.step hb6)
    clear hb6
    go_simp
    (refine hK.out _ _ ⟨hI.out.g1, hI.out.g2.c 0 _ rfl, hI.out.g2.c 1 _ rfl, hI.out.g2.c 2 _ rfl, hI.out.g2.c 3 _ rfl, hI.out.g1.c 9 _ rfl⟩ (fun hHeld => ?_); clear hK K; (try simp only [Act.put, List.setIfInBounds_toArray]); (try simp only [List.set_cons_zero, List.set_cons_succ]))
    (refine tkH 9 (v := ?_) ?_ ?_; rotate_left; focus (intro w' hSw; (try dsimp only at hSw); go_simp; (try with_reducible rfl)); (try simp only [Act.put, List.setIfInBounds_toArray, List.set_cons_zero, List.set_cons_succ]))
    (refine tkH 10 (v := ?_) ?_ ?_; rotate_left; focus (intro w' hSw; (try dsimp only at hSw); go_simp; (try with_reducible rfl)); (try simp only [Act.put, List.setIfInBounds_toArray, List.set_cons_zero, List.set_cons_succ]))
    (refine tkH 11 (v := ?_) ?_ ?_; rotate_left; focus (intro w' hSw; (try dsimp only at hSw); go_simp; (try with_reducible rfl)); (try simp only [Act.put, List.setIfInBounds_toArray, List.set_cons_zero, List.set_cons_succ]))
    (refine tkH 12 (v := ?_) ?_ ?_; rotate_left; focus (intro w' hSw; (try dsimp only at hSw); go_simp; (try with_reducible rfl)); (try simp only [Act.put, List.setIfInBounds_toArray, List.set_cons_zero, List.set_cons_succ]))
    refine wpAnyH_done (by kernel_rfl) ?_ _
    go_wp2_with fail
    go_ret2
    exact ⟨by rw [hfin.out]; rfl, hI.out.hb⟩
end Go.Proofs.YtbegbajlagcbdaaGreatDoor
namespace Go.Proofs.YtbegbajlagcbdaaGreatDoor
open Go Go.RowKit
/-- The grade of a monument on a day. -/
def Cal.gradeAtS (g : Grad) (m : Mon) (day : Int) : Int × Int := if Cal.byErr g m day = 0 then (match Cal.lastV day m.visits with | some v => Cal.gradeS g v | none => 0, 0) else (0, Cal.byErr g m day)
/-- The day of the next visit. -/
def Cal.nextS (g : Grad) (m : Mon) (day : Int) : Int × Int := if Cal.byErr g m day = 0 then (match Cal.lastV day m.visits with | some v => if v.kind = 2 then (0, 28) else Cal.dueS g v | none => (0, 6)) else (0, Cal.byErr g m day)
theorem Cal.gradeAt_bad {g : Grad} {m : Mon} {day E : Int} (h : Cal.byErr g m day = E) (he : E ≠ 0) : Cal.gradeAtS g m day = (0, E) := by unfold Cal.gradeAtS; rw [if_neg (by rw [h]; exact he), h]
theorem Cal.gradeAt_ok {g : Grad} {m : Mon} {day : Int} {u : Vis} (h : Cal.byErr g m day = 0) (hu : Cal.lastV day m.visits = some u) : Cal.gradeAtS g m day = (Cal.gradeS g u, 0) := by unfold Cal.gradeAtS; rw [if_pos h, hu]
theorem Cal.next_bad {g : Grad} {m : Mon} {day E : Int} (h : Cal.byErr g m day = E) (he : E ≠ 0) : Cal.nextS g m day = (0, E) := by unfold Cal.nextS; rw [if_neg (by rw [h]; exact he), h]
theorem Cal.next_laid {g : Grad} {m : Mon} {day : Int} {u : Vis} (h : Cal.byErr g m day = 0) (hu : Cal.lastV day m.visits = some u) (hk : u.kind = 2) : Cal.nextS g m day = (0, 28) := by unfold Cal.nextS; rw [if_pos h, hu]; simp only; rw [if_pos hk]
theorem Cal.next_ok {g : Grad} {m : Mon} {day : Int} {u : Vis} (h : Cal.byErr g m day = 0) (hu : Cal.lastV day m.visits = some u) (hk : u.kind ≠ 2) : Cal.nextS g m day = Cal.dueS g u := by unfold Cal.nextS; rw [if_pos h, hu]; simp only; rw [if_neg hk]
structure GM (w : World) (g : Grad) (V : Option Addr) (d : Nat) (m : Mon) (wr : World) : Prop where
  hb : Below w.heap.size w wr
  g1 : BoxAt wr w.heap.size [.int .i64 g.t0, .int .i64 g.t1, .int .i64 g.t2, .int .i64 g.p0, .int .i64 g.p1, .int .i64 g.p2, .int .i64 g.m0, .int .i64 g.m1, .int .i64 g.m2, .int .i64 g.m3]
  g2 : BoxAt wr (w.heap.size + 1) [.string m.name, .string m.place, .slice V m.visits.length d]
  mb : MB wr V m
  tab : Tab wr
theorem GM.step {w : World} {g : Grad} {V : Option Addr} {d : Nat} {m : Mon} {wr w' : World} (h : GM w g V d m wr) (hb : Below wr.heap.size wr w') : GM w g V d m w' :=
  ⟨below_step h.hb hb, h.g1.below hb, h.g2.below hb, h.mb.below hb, h.tab.below hb⟩
theorem start2m (w : World) (g : Grad) (V : Option Addr) (d : Nat) (m : Mon) (hM : MB w V m) (hT : Tab w) : GM w g V d m ((w.alloc (.cells #[.int .i64 g.t0, .int .i64 g.t1, .int .i64 g.t2, .int .i64 g.p0, .int .i64 g.p1, .int .i64 g.p2, .int .i64 g.m0, .int .i64 g.m1, .int .i64 g.m2, .int .i64 g.m3] 25)).alloc (.cells #[.string m.name, .string m.place, .slice V m.visits.length d] 31)) := by
  have h2 := BoxAt.new (w.alloc (.cells #[.int .i64 g.t0, .int .i64 g.t1, .int .i64 g.t2, .int .i64 g.p0, .int .i64 g.p1, .int .i64 g.p2, .int .i64 g.m0, .int .i64 g.m1, .int .i64 g.m2, .int .i64 g.m3] 25)) #[.string m.name, .string m.place, .slice V m.visits.length d] 31
  rw [World.size_alloc] at h2
  have hb : Below w.heap.size w ((w.alloc (.cells #[.int .i64 g.t0, .int .i64 g.t1, .int .i64 g.t2, .int .i64 g.p0, .int .i64 g.p1, .int .i64 g.p2, .int .i64 g.m0, .int .i64 g.m1, .int .i64 g.m2, .int .i64 g.m3] 25)).alloc (.cells #[.string m.name, .string m.place, .slice V m.visits.length d] 31)) := below_step (below_alloc _ _) (below_alloc _ _)
  exact ⟨hb, (BoxAt.new w _ _).alloc _, h2, hM.below hb, hT.below hb⟩
end Go.Proofs.YtbegbajlagcbdaaGreatDoor
namespace Go.Proofs.YtbegbajlagcbdaaGreatDoor
open Go Go.RowKit
set_option maxRecDepth 100000 in
set_option maxHeartbeats 4000000 in
theorem VisitErrR_any (v : Vis) (w : World) : Calls Tryz.prog 111 #[.agg #[.int .i64 v.day, .int .i64 v.kind, .int .i64 v.tilt, .int .i64 v.push]] w fun e w' => e = .returned (.int .i64 (Cal.visErr v)) ∧ Below w.heap.size w w' := by
  by_cases h1 : 0 ≤ v.day ∧ v.day ≤ 200000
  · by_cases h2 : 0 ≤ v.kind ∧ v.kind ≤ 2
    · by_cases h3 : 0 ≤ v.tilt ∧ v.tilt ≤ 1000
      · by_cases h4 : 0 ≤ v.push ∧ v.push ≤ 5000
        · by_cases hk : v.kind = 0
          · have hfin : Hid (Cal.visErr v = 0) := by show _ = _; unfold Cal.visErr; rw [if_pos ⟨h1, h2, h3, h4⟩, if_neg (fun h => h.1 hk)]
            have kb : (v.kind != 0) = false := by simpa using hk
            obtain ⟨a0, a1⟩ := h1
            obtain ⟨b0, b1⟩ := h2
            obtain ⟨c0, c1⟩ := h3
            obtain ⟨d0, d1⟩ := h4
            clear hk
            go_enter Tryz.func111, Tryz.ntmps111
            go_wp2_with (((first | (go_at_call 134) | (go_at_call 59) | (go_at_call 133) | (go_at_call 14) | (go_at_call 178) | (fail) | (go_at_call 139)); first | refine rin ?_ | refine rout ?_ | refine rany ?_))
            go_ret
            exact ⟨ret_int hfin.out.symm, by exact blw⟩
          · have kb : (v.kind != 0) = true := by simpa using hk
            by_cases ht : v.tilt = 0
            · have tb : (v.tilt != 0) = false := by simpa using ht
              by_cases hp : v.push = 0
              · have hfin : Hid (Cal.visErr v = 0) := by show _ = _; unfold Cal.visErr; rw [if_pos ⟨h1, h2, h3, h4⟩, if_neg (fun h => h.2.elim (fun h => h ht) (fun h => h hp))]
                have pb : (v.push != 0) = false := by simpa using hp
                obtain ⟨a0, a1⟩ := h1
                obtain ⟨b0, b1⟩ := h2
                obtain ⟨c0, c1⟩ := h3
                obtain ⟨d0, d1⟩ := h4
                clear hk ht hp
                go_enter Tryz.func111, Tryz.ntmps111
                go_wp2_with (((first | (go_at_call 134) | (go_at_call 59) | (go_at_call 133) | (go_at_call 14) | (go_at_call 178) | (fail) | (go_at_call 139)); first | refine rin ?_ | refine rout ?_ | refine rany ?_))
                go_ret
                exact ⟨ret_int hfin.out.symm, by exact blw⟩
              · have hfin : Hid (Cal.visErr v = 3) := by show _ = _; unfold Cal.visErr; rw [if_pos ⟨h1, h2, h3, h4⟩, if_pos ⟨hk, .inr hp⟩]
                have pb : (v.push != 0) = true := by simpa using hp
                obtain ⟨a0, a1⟩ := h1
                obtain ⟨b0, b1⟩ := h2
                obtain ⟨c0, c1⟩ := h3
                obtain ⟨d0, d1⟩ := h4
                clear hk ht hp
                go_enter Tryz.func111, Tryz.ntmps111
                go_wp2_with (((first | (go_at_call 134) | (go_at_call 59) | (go_at_call 133) | (go_at_call 14) | (go_at_call 178) | (fail) | (go_at_call 139)); first | refine rin ?_ | refine rout ?_ | refine rany ?_))
                go_ret
                exact ⟨ret_int hfin.out.symm, by exact blw⟩
            · have hfin : Hid (Cal.visErr v = 3) := by show _ = _; unfold Cal.visErr; rw [if_pos ⟨h1, h2, h3, h4⟩, if_pos ⟨hk, .inl ht⟩]
              have tb : (v.tilt != 0) = true := by simpa using ht
              obtain ⟨a0, a1⟩ := h1
              obtain ⟨b0, b1⟩ := h2
              obtain ⟨c0, c1⟩ := h3
              obtain ⟨d0, d1⟩ := h4
              clear hk ht
              go_enter Tryz.func111, Tryz.ntmps111
              go_wp2_with (((first | (go_at_call 134) | (go_at_call 59) | (go_at_call 133) | (go_at_call 14) | (go_at_call 178) | (fail) | (go_at_call 139)); first | refine rin ?_ | refine rout ?_ | refine rany ?_))
              go_ret
              exact ⟨ret_int hfin.out.symm, by exact blw⟩
        · have hfin : Hid (Cal.visErr v = 2) := by show _ = _; unfold Cal.visErr; rw [if_neg (fun h => h4 h.2.2.2)]
          obtain ⟨a0, a1⟩ := h1
          obtain ⟨b0, b1⟩ := h2
          obtain ⟨c0, c1⟩ := h3
          have h4' : v.push < 0 ∨ 5000 < v.push := by omega
          clear h4
          go_enter Tryz.func111, Tryz.ntmps111
          go_wp2_with (((first | (go_at_call 134) | (go_at_call 59) | (go_at_call 133) | (go_at_call 14) | (go_at_call 178) | (fail) | (go_at_call 139)); first | refine rin ?_ | refine rout ?_ | refine rany ?_))
          go_ret
          exact ⟨ret_int hfin.out.symm, by exact blw⟩
      · have hfin : Hid (Cal.visErr v = 2) := by show _ = _; unfold Cal.visErr; rw [if_neg (fun h => h3 h.2.2.1)]
        obtain ⟨a0, a1⟩ := h1
        obtain ⟨b0, b1⟩ := h2
        have h3' : v.tilt < 0 ∨ 1000 < v.tilt := by omega
        clear h3
        go_enter Tryz.func111, Tryz.ntmps111
        go_wp2_with (((first | (go_at_call 134) | (go_at_call 59) | (go_at_call 133) | (go_at_call 14) | (go_at_call 178) | (fail) | (go_at_call 139)); first | refine rin ?_ | refine rout ?_ | refine rany ?_))
        go_ret
        exact ⟨ret_int hfin.out.symm, by exact blw⟩
    · have hfin : Hid (Cal.visErr v = 2) := by show _ = _; unfold Cal.visErr; rw [if_neg (fun h => h2 h.2.1)]
      obtain ⟨a0, a1⟩ := h1
      have h2' : v.kind < 0 ∨ 2 < v.kind := by omega
      clear h2
      go_enter Tryz.func111, Tryz.ntmps111
      go_wp2_with (((first | (go_at_call 134) | (go_at_call 59) | (go_at_call 133) | (go_at_call 14) | (go_at_call 178) | (fail) | (go_at_call 139)); first | refine rin ?_ | refine rout ?_ | refine rany ?_))
      go_ret
      exact ⟨ret_int hfin.out.symm, by exact blw⟩
  · have hfin : Hid (Cal.visErr v = 2) := by show _ = _; unfold Cal.visErr; rw [if_neg (fun h => h1 h.1)]
    have h1' : v.day < 0 ∨ 200000 < v.day := by omega
    clear h1
    go_enter Tryz.func111, Tryz.ntmps111
    go_wp2_with (((first | (go_at_call 134) | (go_at_call 59) | (go_at_call 133) | (go_at_call 14) | (go_at_call 178) | (fail) | (go_at_call 139)); first | refine rin ?_ | refine rout ?_ | refine rany ?_))
    go_ret
    exact ⟨ret_int hfin.out.symm, by exact blw⟩
def hit (t p tilt push : Int) : Bool := decide (t ≤ tilt) || decide (push ≤ p)
def gr1 (g : Grad) (v : Vis) : Int := if g.t0 ≤ v.tilt ∨ v.push ≤ g.p0 then 1 else 0
def gr2 (g : Grad) (v : Vis) : Int := if g.t1 ≤ v.tilt ∨ v.push ≤ g.p1 then 2 else gr1 g v
def gr3 (g : Grad) (v : Vis) : Int := if g.t2 ≤ v.tilt ∨ v.push ≤ g.p2 then 3 else gr2 g v
theorem gr3_eq {g : Grad} {v : Vis} (hk : v.kind = 0) : Cal.gradeS g v = gr3 g v := by
  unfold Cal.gradeS gr3 gr2 gr1; rw [if_pos hk]
set_option maxRecDepth 100000 in
set_option maxHeartbeats 4000000 in
theorem GradeOfR_any (g : Grad) (v : Vis) (w : World) : Calls Tryz.prog 114 #[.agg #[.int .i64 g.t0, .int .i64 g.t1, .int .i64 g.t2, .int .i64 g.p0, .int .i64 g.p1, .int .i64 g.p2, .int .i64 g.m0, .int .i64 g.m1, .int .i64 g.m2, .int .i64 g.m3], .agg #[.int .i64 v.day, .int .i64 v.kind, .int .i64 v.tilt, .int .i64 v.push]] w fun e w' => e = .returned (.int .i64 (Cal.gradeS g v)) ∧ Below w.heap.size w w' := by
  have hb : Hid (Below w.heap.size w ((w.alloc (.cells #[.int .i64 g.t0, .int .i64 g.t1, .int .i64 g.t2, .int .i64 g.p0, .int .i64 g.p1, .int .i64 g.p2, .int .i64 g.m0, .int .i64 g.m1, .int .i64 g.m2, .int .i64 g.m3] 25)).alloc (.cells #[.int .i64 v.day, .int .i64 v.kind, .int .i64 v.tilt, .int .i64 v.push] 106))) := below_step (below_alloc _ _) (below_alloc _ _)
  by_cases hk : v.kind = 0
  · have kb : (v.kind == 0) = true := by simpa using hk
    have hfin := Lib.hid (gr3_eq (g := g) hk)
    clear hk
    go_enter Tryz.func114, Tryz.ntmps114
    go_wp2_with fail
    go_loopw [5, 6] (fun o i wr => ∃ n : Nat, ((i = .int .i64 0 ∧ o = .int .i64 0) ∨ (i = .int .i64 1 ∧ ∃ x, o = .int .i64 x ∧ Hid (gr1 g v = x)) ∨ (i = .int .i64 2 ∧ ∃ x, o = .int .i64 x ∧ Hid (gr2 g v = x)) ∨ (i = .int .i64 3 ∧ ∃ x, o = .int .i64 x ∧ Hid (gr3 g v = x))) ∧ wr = World.drewN ((w.alloc (.cells #[.int .i64 g.t0, .int .i64 g.t1, .int .i64 g.t2, .int .i64 g.p0, .int .i64 g.p1, .int .i64 g.p2, .int .i64 g.m0, .int .i64 g.m1, .int .i64 g.m2, .int .i64 g.m3] 25)).alloc (.cells #[.int .i64 v.day, .int .i64 v.kind, .int .i64 v.tilt, .int .i64 v.push] 106)) n) (fun _ i _ => (3 - intOf i).toNat)
    case atStart => exact ⟨0, .inl ⟨rfl, rfl⟩, rfl⟩
    case round =>
      obtain ⟨n, hi, rfl⟩ := hrel
      rcases hi with ⟨rfl, rfl⟩ | ⟨rfl, x, rfl, n1⟩ | ⟨rfl, x, rfl, n2⟩ | ⟨rfl, x, rfl, n3⟩
      · by_cases ht : g.t0 ≤ v.tilt
        · have hd : decide (g.t0 ≤ v.tilt) = true := by simpa using ht
          have hnx : Hid (gr1 g v = 1) := if_pos (.inl ht)
          clear ht
          go_wp2_with fail
          go_quiet (fail)
          go_wp2_with fail
          go_roundw
          case rel => exact ⟨_, .inr (.inl ⟨rfl, _, rfl, hnx⟩), rfl⟩
          case measure => simp [intOf]
        · have hd : decide (g.t0 ≤ v.tilt) = false := by simpa using ht
          by_cases hp : v.push ≤ g.p0
          · have hd2 : decide (v.push ≤ g.p0) = true := by simpa using hp
            have hnx : Hid (gr1 g v = 1) := if_pos (.inr hp)
            clear ht hp
            go_wp2_with fail
            go_quiet (fail)
            go_wp2_with fail
            go_roundw
            case rel => exact ⟨_, .inr (.inl ⟨rfl, _, rfl, hnx⟩), rfl⟩
            case measure => simp [intOf]
          · have hd2 : decide (v.push ≤ g.p0) = false := by simpa using hp
            have hnx : Hid (gr1 g v = 0) := if_neg (fun h => h.elim ht hp)
            clear ht hp
            go_wp2_with fail
            go_quiet (fail)
            go_wp2_with fail
            go_roundw
            case rel => exact ⟨_, .inr (.inl ⟨rfl, _, rfl, hnx⟩), rfl⟩
            case measure => simp [intOf]
      · by_cases ht : g.t1 ≤ v.tilt
        · have hd : decide (g.t1 ≤ v.tilt) = true := by simpa using ht
          have hnx : Hid (gr2 g v = 2) := if_pos (.inl ht)
          clear ht
          go_wp2_with fail
          go_quiet (fail)
          go_wp2_with fail
          go_roundw
          case rel => exact ⟨_, .inr (.inr (.inl ⟨rfl, _, rfl, by first | exact hnx | exact hnx.out.trans n1.out⟩)), rfl⟩
          case measure => simp [intOf]
        · have hd : decide (g.t1 ≤ v.tilt) = false := by simpa using ht
          by_cases hp : v.push ≤ g.p1
          · have hd2 : decide (v.push ≤ g.p1) = true := by simpa using hp
            have hnx : Hid (gr2 g v = 2) := if_pos (.inr hp)
            clear ht hp
            go_wp2_with fail
            go_quiet (fail)
            go_wp2_with fail
            go_roundw
            case rel => exact ⟨_, .inr (.inr (.inl ⟨rfl, _, rfl, by first | exact hnx | exact hnx.out.trans n1.out⟩)), rfl⟩
            case measure => simp [intOf]
          · have hd2 : decide (v.push ≤ g.p1) = false := by simpa using hp
            have hnx : Hid (gr2 g v = gr1 g v) := if_neg (fun h => h.elim ht hp)
            clear ht hp
            go_wp2_with fail
            go_quiet (fail)
            go_wp2_with fail
            go_roundw
            case rel => exact ⟨_, .inr (.inr (.inl ⟨rfl, _, rfl, by first | exact hnx | exact hnx.out.trans n1.out⟩)), rfl⟩
            case measure => simp [intOf]
      · by_cases ht : g.t2 ≤ v.tilt
        · have hd : decide (g.t2 ≤ v.tilt) = true := by simpa using ht
          have hnx : Hid (gr3 g v = 3) := if_pos (.inl ht)
          clear ht
          go_wp2_with fail
          go_quiet (fail)
          go_wp2_with fail
          go_roundw
          case rel => exact ⟨_, .inr (.inr (.inr ⟨rfl, _, rfl, by first | exact hnx | exact hnx.out.trans n2.out⟩)), rfl⟩
          case measure => simp [intOf]
        · have hd : decide (g.t2 ≤ v.tilt) = false := by simpa using ht
          by_cases hp : v.push ≤ g.p2
          · have hd2 : decide (v.push ≤ g.p2) = true := by simpa using hp
            have hnx : Hid (gr3 g v = 3) := if_pos (.inr hp)
            clear ht hp
            go_wp2_with fail
            go_quiet (fail)
            go_wp2_with fail
            go_roundw
            case rel => exact ⟨_, .inr (.inr (.inr ⟨rfl, _, rfl, by first | exact hnx | exact hnx.out.trans n2.out⟩)), rfl⟩
            case measure => simp [intOf]
          · have hd2 : decide (v.push ≤ g.p2) = false := by simpa using hp
            have hnx : Hid (gr3 g v = gr2 g v) := if_neg (fun h => h.elim ht hp)
            clear ht hp
            go_wp2_with fail
            go_quiet (fail)
            go_wp2_with fail
            go_roundw
            case rel => exact ⟨_, .inr (.inr (.inr ⟨rfl, _, rfl, by first | exact hnx | exact hnx.out.trans n2.out⟩)), rfl⟩
            case measure => simp [intOf]
      · go_wp2_with fail
        go_ret
        exact ⟨ret_int (hfin.out.trans n3.out).symm, below_drewN hb.out _⟩
  · have hfin : Hid (Cal.gradeS g v = 0) := by show _ = _; unfold Cal.gradeS; rw [if_neg hk]
    have kb : (v.kind == 0) = false := by simpa using hk
    clear hk
    go_enter Tryz.func114, Tryz.ntmps114
    go_wp2_with fail
    go_loopw [5, 6] (fun o i wr => o = .int .i64 0 ∧ i = .int .i64 0 ∧ wr = ((w.alloc (.cells #[.int .i64 g.t0, .int .i64 g.t1, .int .i64 g.t2, .int .i64 g.p0, .int .i64 g.p1, .int .i64 g.p2, .int .i64 g.m0, .int .i64 g.m1, .int .i64 g.m2, .int .i64 g.m3] 25)).alloc (.cells #[.int .i64 v.day, .int .i64 v.kind, .int .i64 v.tilt, .int .i64 v.push] 106))) (fun _ _ _ => 0)
    case atStart => exact ⟨rfl, rfl, rfl⟩
    case round =>
      obtain ⟨rfl, rfl, rfl⟩ := hrel
      go_wp2_with fail
      go_ret
      exact ⟨ret_int hfin.out.symm, hb.out⟩
end Go.Proofs.YtbegbajlagcbdaaGreatDoor
