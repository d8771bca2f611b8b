/- Chapter 8 and what it rests on: definitions and walks, part 38. -/
import Derived.Test.YtconnjkkgaapbaaGreatDoorC37
namespace Go.Proofs.YtconnjkkgaapbaaGreatDoor
open Go Go.RowKit
theorem Cal.lastV_mem {day : Int} {u : Vis} : ∀ {l : List Vis}, Cal.lastV day l = some u → u ∈ l
  | [], h => by simp [Cal.lastV] at h
  | v :: l, h => by
    rw [Cal.lastV_cons] at h
    cases hl : Cal.lastV day l with
    | some x => rw [hl] at h; cases h; exact List.mem_cons_of_mem _ (Cal.lastV_mem hl)
    | none =>
      rw [hl] at h
      simp only at h
      split at h
      · cases h; exact List.mem_cons_self
      · cases h
theorem Cal.visits_ok {u : Vis} : ∀ {d : Int} {l : List Vis}, Cal.visitsErr d l = 0 → u ∈ l → Cal.visErr u = 0
  | _, [], _, h => by cases h
  | d, v :: l, h, hu => by
    unfold Cal.visitsErr at h
    by_cases hv : Cal.visErr v = 0
    · rw [if_pos hv] at h
      split at h
      · cases h
      · rcases List.mem_cons.1 hu with rfl | hu
        · exact hv
        · exact Cal.visits_ok h hu
    · rw [if_neg hv] at h; exact absurd h hv
theorem Cal.visErr_day2 {v : Vis} (h : Cal.visErr v = 0) : 0 ≤ v.day ∧ v.day ≤ 200000 := by
  unfold Cal.visErr at h
  split at h
  · rename_i hv; exact hv.1
  · cases h
theorem Cal.mon_last {m : Mon} {day : Int} {u : Vis} (h : Cal.monErr m = 0) (hu : Cal.lastV day m.visits = some u) : 0 ≤ u.day ∧ u.day ≤ 200000 := by
  unfold Cal.monErr at h
  split at h
  · split at h
    · exact Cal.visErr_day2 (Cal.visits_ok h (Cal.lastV_mem hu))
    · cases h
  · cases h
theorem Cal.grad_mo {g : Grad} (h : Cal.gradErr g = 0) : (0 ≤ g.m0 ∧ g.m0 ≤ 240) ∧ (0 ≤ g.m1 ∧ g.m1 ≤ 240) ∧ (0 ≤ g.m2 ∧ g.m2 ≤ 240) ∧ (0 ≤ g.m3 ∧ g.m3 ≤ 240) := by
  have hr : g.range = true := by
    unfold Cal.gradErr at h
    split at h
    · assumption
    · cases h
  simp [Grad.range, allB, inB] at hr
  omega
theorem Cal.by_ok {g : Grad} {m : Mon} {day : Int} (hg : Cal.gradErr g = 0) (hm : Cal.monErr m = 0) (hd : 0 ≤ day ∧ day ≤ 200000) : Cal.byErr g m day = if (Cal.lastV day m.visits).isSome = true then 0 else 6 := by
  unfold Cal.byErr Cal.byErr0
  rw [if_pos hg, if_pos hm, if_pos hd, if_pos rfl]
theorem Cal.add_later {day k : Int} (h0 : 0 ≤ day) (h1 : day ≤ 200000) (k0 : 0 ≤ k) (k1 : k ≤ 240) : Cal.addS day k = if (Cal.laterS day k).2 = true then ((Cal.laterS day k).1, 0) else (0, 2) := by
  unfold Cal.addS
  by_cases h : (Cal.laterS day k).2 = true
  · rw [if_pos ⟨h0, h1, by omega, by omega, h⟩, if_pos h]
  · rw [if_neg (fun hh => h hh.2.2.2.2), if_neg h]
set_option maxRecDepth 100000 in
set_option maxHeartbeats 8000000 in
theorem NextVisitR_any (g : Grad) (V : Option Addr) (d : Nat) (m : Mon) (day : Int) (w : World) (hM : MB w V m) (hT : Tab w) (hg : Cal.gradErr g = 0) (hm : Cal.monErr m = 0) (hd : 0 ≤ day ∧ day ≤ 200000) :
    Calls Tryz.prog 48 #[.agg #[.int .i64 g.t0, .int .i64 g.t1, .int .i64 g.t2, .int .i64 g.p0, .int .i64 g.p1, .int .i64 g.p2, .int .i64 g.m0, .int .i64 g.m1, .int .i64 g.m2, .int .i64 g.m3], .agg #[.string m.name, .string m.place, .slice V m.visits.length d], .int .i64 day] w fun e w' => e = .returned (.tuple #[.int .i64 (Cal.nextS g m day).1, .int .i64 (Cal.nextS g m day).2]) ∧ Below w.heap.size w w' := by
  have hI := Lib.hid (start2m w g V d m hM hT)
  clear hM hT
  have hby := Cal.by_ok hg hm hd
  have hmo := Cal.grad_mo hg
  have c0 := hI.out.g2.c 0 _ rfl
  have c1 := hI.out.g2.c 1 _ rfl
  have c2 := hI.out.g2.c 2 _ rfl
  rcases ho : Cal.lastV day m.visits with _ | u
  · rw [ho] at hby
    have hfin : Hid (Cal.nextS g m day = (0, 6)) := Cal.next_bad hby (by decide)
    have hoz := Lib.hid ho
    clear ho hby hmo hg hm hd
    go_enter Tryz.func48, Tryz.ntmps48
    go_wp2_with fail
    have hlv := fun wr h => LastR_any V d m day wr h
    rw [hoz.out] at hlv
    refine (hlv _ hI.out.mb).mono ?_
    clear hlv
    rintro e wn ⟨u', rfl, hu, hbn⟩
    have hI := Lib.hid (hI.out.step hbn)
    clear hbn c0 c1 c2
    go_wp2_with fail
    go_ret2
    exact ⟨by rw [hfin.out]; rfl, below_step hI.out.hb (below_alloc _ _)⟩
  · rw [ho] at hby
    have hud := Cal.mon_last hm ho
    by_cases hk : u.kind = 2
    · have kb : (u.kind == 2) = true := by simpa using hk
      have hfin : Hid (Cal.nextS g m day = (0, 28)) := Cal.next_laid hby ho hk
      have hoz := Lib.hid ho
      clear ho hby hmo hg hm hd hk hud
      go_enter Tryz.func48, Tryz.ntmps48
      go_wp2_with fail
      have hlv := fun wr h => LastR_any V d m day wr h
      rw [hoz.out] at hlv
      refine (hlv _ hI.out.mb).mono ?_
      clear hlv
      rintro e wn ⟨u', rfl, hu, hbn⟩
      obtain rfl : u = u' := hu.symm
      clear hu
      have hI := Lib.hid (hI.out.step hbn)
      clear hbn c0 c1 c2
      go_wp2_with fail
      go_ret2
      exact ⟨by rw [hfin.out]; rfl, below_step hI.out.hb (below_alloc _ _)⟩
    · have kb : (u.kind == 2) = false := by simpa using hk
      have hnx := Lib.hid (Cal.next_ok hby ho hk)
      have hoz := Lib.hid ho
      have hgz := Lib.hid hg
      clear ho hby hg hm hd hk
      go_enter Tryz.func48, Tryz.ntmps48
      go_wp2_with fail
      have hlv := fun wr h => LastR_any V d m day wr h
      rw [hoz.out] at hlv
      refine (hlv _ hI.out.mb).mono ?_
      clear hlv
      rintro e wn ⟨u', rfl, hu, hbn⟩
      obtain rfl : u = u' := hu.symm
      clear hu
      have hI := Lib.hid (hI.out.step hbn)
      clear hbn c0 c1 c2
      have hN := Lib.hid (BoxAt.new wn #[.int .i64 u.day, .int .i64 u.kind, .int .i64 u.tilt, .int .i64 u.push] 88)
      have hI := Lib.hid (hI.out.step (below_alloc wn (.cells #[.int .i64 u.day, .int .i64 u.kind, .int .i64 u.tilt, .int .i64 u.push] 88)))
      rcases Cal.grade_cases g u with hx | hx | hx | hx
      · have hdu : Hid (Cal.nextS g m day = if (Cal.laterS u.day g.m0).2 = true then ((Cal.laterS u.day g.m0).1, 0) else (0, 2)) := by
          show _ = _
          rw [hnx.out]; unfold Cal.dueS; rw [hx, ← Cal.add_later hud.1 hud.2 (by omega) (by omega)]; rfl
        have hrr : Hid ((0 ≤ u.day ∧ u.day ≤ 200000) ∧ (0 ≤ g.m0 ∧ g.m0 ≤ 240)) := ⟨hud, by omega⟩
        have hxz := Lib.hid hx
        clear hx hmo hud
        go_wp2_with fail
        refine wp_region_held_drew (S := (fun w' => BoxAt w' w.heap.size [.int .i64 g.t0, .int .i64 g.t1, .int .i64 g.t2, .int .i64 g.p0, .int .i64 g.p1, .int .i64 g.p2, .int .i64 g.m0, .int .i64 g.m1, .int .i64 g.m2, .int .i64 g.m3] ∧ w'.cell? ⟨wn.heap.size, 0, none⟩ = some (.int .i64 u.day) ∧ w'.cell? ⟨wn.heap.size, 1, none⟩ = some (.int .i64 u.kind) ∧ w'.cell? ⟨wn.heap.size, 2, none⟩ = some (.int .i64 u.tilt) ∧ w'.cell? ⟨wn.heap.size, 3, none⟩ = some (.int .i64 u.push) ∧ w'.cell? ⟨w.heap.size, 6, none⟩ = some (.int .i64 g.m0))) (by kernel_rfl) ⟨hI.out.g1.below (Below.refl _ _).drew, hN.out.c 0 _ rfl, hN.out.c 1 _ rfl, hN.out.c 2 _ rfl, hN.out.c 3 _ rfl, hI.out.g1.c 6 _ rfl⟩ (fun hHeld => ?_)
        (refine tkH 0 (v := ?_) ?_ ?_; rotate_left; focus (intro w' hSw; (try dsimp only at hSw); go_simp; (try with_reducible rfl)); (try simp only [Act.put, List.setIfInBounds_toArray, List.set_cons_zero, List.set_cons_succ]))
        (refine tkH 1 (v := ?_) ?_ ?_; rotate_left; focus (intro w' hSw; (try dsimp only at hSw); go_simp; (try with_reducible rfl)); (try simp only [Act.put, List.setIfInBounds_toArray, List.set_cons_zero, List.set_cons_succ]))
        (refine wpAnyH_take (i := 2) (v := _) rfl (by kernel_rfl) (by decide +kernel) (by decide +kernel) (fun _ _ _ h => h) (yieldsIf_load_mid (by kernel_rfl) 77 _ rfl (w.heap.size) 0 (by kernel_rfl) [.int .i64 g.t0, .int .i64 g.t1, .int .i64 g.t2, .int .i64 g.p0, .int .i64 g.p1, .int .i64 g.p2, .int .i64 g.m0, .int .i64 g.m1, .int .i64 g.m2, .int .i64 g.m3] _ (fun _ h => h.1.range) Tryz.underlying77 rfl grSize) (by assumption) ?_; (try simp only [Act.put, List.setIfInBounds_toArray]); (try simp only [List.set_cons_zero, List.set_cons_succ]))
        (refine tkH 3 (v := ?_) ?_ ?_; rotate_left; focus (intro w' hSw; (try dsimp only at hSw); go_simp; (try with_reducible rfl)); (try simp only [Act.put, List.setIfInBounds_toArray, List.set_cons_zero, List.set_cons_succ]))
        (refine tkH 5 (v := ?_) ?_ ?_; rotate_left; focus (intro w' hSw; (try dsimp only at hSw); go_simp; (try with_reducible rfl)); (try simp only [Act.put, List.setIfInBounds_toArray, List.set_cons_zero, List.set_cons_succ]))
        (refine wpAnyH_ready (rs := [4]) (by decide +kernel) (by simp) ?_; refine AllReadyH.cons rfl (fun K hK => ?_) AllReadyH.nil; rw [if_pos (by kernel_rfl)]; go_simp)
        refine (GradeOfR_any g u _).mono ?_
        rw [hxz.out]
        rintro e w5 ⟨rfl, hb5⟩
        have hb45 := below_of_drewN (n := 1) hb5
        have hI := Lib.hid (hI.out.step hb45)
        have hN := Lib.hid (hN.out.below hb45)
        clear hb45 hb5
        go_simp
        (refine hK.out _ _ ⟨hI.out.g1, hN.out.c 0 _ rfl, hN.out.c 1 _ rfl, hN.out.c 2 _ rfl, hN.out.c 3 _ rfl, hI.out.g1.c 6 _ rfl⟩ (fun hHeld => ?_); clear hK K; (try simp only [Act.put, List.setIfInBounds_toArray]); (try simp only [List.set_cons_zero, List.set_cons_succ]))
        (refine tkH 6 (v := ?_) ?_ ?_; rotate_left; focus (intro w' hSw; (try dsimp only at hSw); go_simp; (try with_reducible rfl)); (try simp only [Act.put, List.setIfInBounds_toArray, List.set_cons_zero, List.set_cons_succ]))
        (refine tkH 7 (v := ?_) ?_ ?_; rotate_left; focus (intro w' hSw; (try dsimp only at hSw); go_simp; (try with_reducible rfl)); (try simp only [Act.put, List.setIfInBounds_toArray, List.set_cons_zero, List.set_cons_succ]))
        (refine wpAnyH_ready (rs := [8]) (by decide +kernel) (by simp) ?_; refine AllReadyH.cons rfl (fun K hK => ?_) AllReadyH.nil; rw [if_pos (by kernel_rfl)]; go_simp)
        refine (AddMonthsR_any u.day g.m0 hrr.out.1.1 hrr.out.1.2 (by have := hrr.out.2; omega) (by have := hrr.out.2; omega) _).mono ?_
        rintro e w6 ⟨rfl, hb6⟩
        have hI := Lib.hid (hI.out.step hb6)
        have hN := Lib.hid (hN.out.below hb6)
        clear hb6
        generalize hlz : Cal.laterS u.day g.m0 = lt at *
        have hlz := Lib.hid hlz
        obtain ⟨x1, ok⟩ := lt
        go_simp
        (refine hK.out _ _ ⟨hI.out.g1, hN.out.c 0 _ rfl, hN.out.c 1 _ rfl, hN.out.c 2 _ rfl, hN.out.c 3 _ rfl, hI.out.g1.c 6 _ rfl⟩ (fun hHeld => ?_); clear hK K; (try simp only [Act.put, List.setIfInBounds_toArray]); (try simp only [List.set_cons_zero, List.set_cons_succ]))
        (refine tkH 9 (v := ?_) ?_ ?_; rotate_left; focus (intro w' hSw; (try dsimp only at hSw); go_simp; (try with_reducible rfl)); (try simp only [Act.put, List.setIfInBounds_toArray, List.set_cons_zero, List.set_cons_succ]))
        (refine tkH 10 (v := ?_) ?_ ?_; rotate_left; focus (intro w' hSw; (try dsimp only at hSw); go_simp; (try with_reducible rfl)); (try simp only [Act.put, List.setIfInBounds_toArray, List.set_cons_zero, List.set_cons_succ]))
        (refine tkH 11 (v := ?_) ?_ ?_; rotate_left; focus (intro w' hSw; (try dsimp only at hSw); go_simp; (try with_reducible rfl)); (try simp only [Act.put, List.setIfInBounds_toArray, List.set_cons_zero, List.set_cons_succ]))
        (refine tkH 12 (v := ?_) ?_ ?_; rotate_left; focus (intro w' hSw; (try dsimp only at hSw); go_simp; (try with_reducible rfl)); (try simp only [Act.put, List.setIfInBounds_toArray, List.set_cons_zero, List.set_cons_succ]))
        (refine tkH 13 (v := ?_) ?_ ?_; rotate_left; focus (intro w' hSw; (try dsimp only at hSw); go_simp; (try with_reducible rfl)); (try simp only [Act.put, List.setIfInBounds_toArray, List.set_cons_zero, List.set_cons_succ]))
        refine wpAnyH_done (by kernel_rfl) ?_ _
        cases ok
        · go_wp2_with fail
          go_ret2
          exact ⟨by rw [hdu.out]; rfl, hI.out.hb⟩
        · go_wp2_with fail
          go_ret2
          exact ⟨by rw [hdu.out]; rfl, hI.out.hb⟩
      · have hdu : Hid (Cal.nextS g m day = if (Cal.laterS u.day g.m1).2 = true then ((Cal.laterS u.day g.m1).1, 0) else (0, 2)) := by
          show _ = _
          rw [hnx.out]; unfold Cal.dueS; rw [hx, ← Cal.add_later hud.1 hud.2 (by omega) (by omega)]; rfl
        have hrr : Hid ((0 ≤ u.day ∧ u.day ≤ 200000) ∧ (0 ≤ g.m1 ∧ g.m1 ≤ 240)) := ⟨hud, by omega⟩
        have hxz := Lib.hid hx
        clear hx hmo hud
        go_wp2_with fail
        refine wp_region_held_drew (S := (fun w' => BoxAt w' w.heap.size [.int .i64 g.t0, .int .i64 g.t1, .int .i64 g.t2, .int .i64 g.p0, .int .i64 g.p1, .int .i64 g.p2, .int .i64 g.m0, .int .i64 g.m1, .int .i64 g.m2, .int .i64 g.m3] ∧ w'.cell? ⟨wn.heap.size, 0, none⟩ = some (.int .i64 u.day) ∧ w'.cell? ⟨wn.heap.size, 1, none⟩ = some (.int .i64 u.kind) ∧ w'.cell? ⟨wn.heap.size, 2, none⟩ = some (.int .i64 u.tilt) ∧ w'.cell? ⟨wn.heap.size, 3, none⟩ = some (.int .i64 u.push) ∧ w'.cell? ⟨w.heap.size, 7, none⟩ = some (.int .i64 g.m1))) (by kernel_rfl) ⟨hI.out.g1.below (Below.refl _ _).drew, hN.out.c 0 _ rfl, hN.out.c 1 _ rfl, hN.out.c 2 _ rfl, hN.out.c 3 _ rfl, hI.out.g1.c 7 _ rfl⟩ (fun hHeld => ?_)
        (refine tkH 0 (v := ?_) ?_ ?_; rotate_left; focus (intro w' hSw; (try dsimp only at hSw); go_simp; (try with_reducible rfl)); (try simp only [Act.put, List.setIfInBounds_toArray, List.set_cons_zero, List.set_cons_succ]))
        (refine tkH 1 (v := ?_) ?_ ?_; rotate_left; focus (intro w' hSw; (try dsimp only at hSw); go_simp; (try with_reducible rfl)); (try simp only [Act.put, List.setIfInBounds_toArray, List.set_cons_zero, List.set_cons_succ]))
        (refine wpAnyH_take (i := 2) (v := _) rfl (by kernel_rfl) (by decide +kernel) (by decide +kernel) (fun _ _ _ h => h) (yieldsIf_load_mid (by kernel_rfl) 77 _ rfl (w.heap.size) 0 (by kernel_rfl) [.int .i64 g.t0, .int .i64 g.t1, .int .i64 g.t2, .int .i64 g.p0, .int .i64 g.p1, .int .i64 g.p2, .int .i64 g.m0, .int .i64 g.m1, .int .i64 g.m2, .int .i64 g.m3] _ (fun _ h => h.1.range) Tryz.underlying77 rfl grSize) (by assumption) ?_; (try simp only [Act.put, List.setIfInBounds_toArray]); (try simp only [List.set_cons_zero, List.set_cons_succ]))
        (refine tkH 3 (v := ?_) ?_ ?_; rotate_left; focus (intro w' hSw; (try dsimp only at hSw); go_simp; (try with_reducible rfl)); (try simp only [Act.put, List.setIfInBounds_toArray, List.set_cons_zero, List.set_cons_succ]))
        (refine tkH 5 (v := ?_) ?_ ?_; rotate_left; focus (intro w' hSw; (try dsimp only at hSw); go_simp; (try with_reducible rfl)); (try simp only [Act.put, List.setIfInBounds_toArray, List.set_cons_zero, List.set_cons_succ]))
        (refine wpAnyH_ready (rs := [4]) (by decide +kernel) (by simp) ?_; refine AllReadyH.cons rfl (fun K hK => ?_) AllReadyH.nil; rw [if_pos (by kernel_rfl)]; go_simp)
        refine (GradeOfR_any g u _).mono ?_
        rw [hxz.out]
        rintro e w5 ⟨rfl, hb5⟩
        have hb45 := below_of_drewN (n := 1) hb5
        have hI := Lib.hid (hI.out.step hb45)
        have hN := Lib.hid (hN.out.below hb45)
        clear hb45 hb5
        go_simp
        (refine hK.out _ _ ⟨hI.out.g1, hN.out.c 0 _ rfl, hN.out.c 1 _ rfl, hN.out.c 2 _ rfl, hN.out.c 3 _ rfl, hI.out.g1.c 7 _ rfl⟩ (fun hHeld => ?_); clear hK K; (try simp only [Act.put, List.setIfInBounds_toArray]); (try simp only [List.set_cons_zero, List.set_cons_succ]))
        (refine tkH 6 (v := ?_) ?_ ?_; rotate_left; focus (intro w' hSw; (try dsimp only at hSw); go_simp; (try with_reducible rfl)); (try simp only [Act.put, List.setIfInBounds_toArray, List.set_cons_zero, List.set_cons_succ]))
        (refine tkH 7 (v := ?_) ?_ ?_; rotate_left; focus (intro w' hSw; (try dsimp only at hSw); go_simp; (try with_reducible rfl)); (try simp only [Act.put, List.setIfInBounds_toArray, List.set_cons_zero, List.set_cons_succ]))
        (refine wpAnyH_ready (rs := [8]) (by decide +kernel) (by simp) ?_; refine AllReadyH.cons rfl (fun K hK => ?_) AllReadyH.nil; rw [if_pos (by kernel_rfl)]; go_simp)
        refine (AddMonthsR_any u.day g.m1 hrr.out.1.1 hrr.out.1.2 (by have := hrr.out.2; omega) (by have := hrr.out.2; omega) _).mono ?_
        rintro e w6 ⟨rfl, hb6⟩
        have hI := Lib.hid (hI.out.step hb6)
        have hN := Lib.hid (hN.out.below hb6)
        clear hb6
        generalize hlz : Cal.laterS u.day g.m1 = lt at *
        have hlz := Lib.hid hlz
        obtain ⟨x1, ok⟩ := lt
        go_simp
        (refine hK.out _ _ ⟨hI.out.g1, hN.out.c 0 _ rfl, hN.out.c 1 _ rfl, hN.out.c 2 _ rfl, hN.out.c 3 _ rfl, hI.out.g1.c 7 _ rfl⟩ (fun hHeld => ?_); clear hK K; (try simp only [Act.put, List.setIfInBounds_toArray]); (try simp only [List.set_cons_zero, List.set_cons_succ]))
        (refine tkH 9 (v := ?_) ?_ ?_; rotate_left; focus (intro w' hSw; (try dsimp only at hSw); go_simp; (try with_reducible rfl)); (try simp only [Act.put, List.setIfInBounds_toArray, List.set_cons_zero, List.set_cons_succ]))
        (refine tkH 10 (v := ?_) ?_ ?_; rotate_left; focus (intro w' hSw; (try dsimp only at hSw); go_simp; (try with_reducible rfl)); (try simp only [Act.put, List.setIfInBounds_toArray, List.set_cons_zero, List.set_cons_succ]))
        (refine tkH 11 (v := ?_) ?_ ?_; rotate_left; focus (intro w' hSw; (try dsimp only at hSw); go_simp; (try with_reducible rfl)); (try simp only [Act.put, List.setIfInBounds_toArray, List.set_cons_zero, List.set_cons_succ]))
        (refine tkH 12 (v := ?_) ?_ ?_; rotate_left; focus (intro w' hSw; (try dsimp only at hSw); go_simp; (try with_reducible rfl)); (try simp only [Act.put, List.setIfInBounds_toArray, List.set_cons_zero, List.set_cons_succ]))
        (refine tkH 13 (v := ?_) ?_ ?_; rotate_left; focus (intro w' hSw; (try dsimp only at hSw); go_simp; (try with_reducible rfl)); (try simp only [Act.put, List.setIfInBounds_toArray, List.set_cons_zero, List.set_cons_succ]))
        refine wpAnyH_done (by kernel_rfl) ?_ _
        cases ok
        · go_wp2_with fail
          go_ret2
          exact ⟨by rw [hdu.out]; rfl, hI.out.hb⟩
        · go_wp2_with fail
          go_ret2
          exact ⟨by rw [hdu.out]; rfl, hI.out.hb⟩
      · have hdu : Hid (Cal.nextS g m day = if (Cal.laterS u.day g.m2).2 = true then ((Cal.laterS u.day g.m2).1, 0) else (0, 2)) := by
          show _ = _
          rw [hnx.out]; unfold Cal.dueS; rw [hx, ← Cal.add_later hud.1 hud.2 (by omega) (by omega)]; rfl
        have hrr : Hid ((0 ≤ u.day ∧ u.day ≤ 200000) ∧ (0 ≤ g.m2 ∧ g.m2 ≤ 240)) := ⟨hud, by omega⟩
        have hxz := Lib.hid hx
        clear hx hmo hud
        go_wp2_with fail
        refine wp_region_held_drew (S := (fun w' => BoxAt w' w.heap.size [.int .i64 g.t0, .int .i64 g.t1, .int .i64 g.t2, .int .i64 g.p0, .int .i64 g.p1, .int .i64 g.p2, .int .i64 g.m0, .int .i64 g.m1, .int .i64 g.m2, .int .i64 g.m3] ∧ w'.cell? ⟨wn.heap.size, 0, none⟩ = some (.int .i64 u.day) ∧ w'.cell? ⟨wn.heap.size, 1, none⟩ = some (.int .i64 u.kind) ∧ w'.cell? ⟨wn.heap.size, 2, none⟩ = some (.int .i64 u.tilt) ∧ w'.cell? ⟨wn.heap.size, 3, none⟩ = some (.int .i64 u.push) ∧ w'.cell? ⟨w.heap.size, 8, none⟩ = some (.int .i64 g.m2))) (by kernel_rfl) ⟨hI.out.g1.below (Below.refl _ _).drew, hN.out.c 0 _ rfl, hN.out.c 1 _ rfl, hN.out.c 2 _ rfl, hN.out.c 3 _ rfl, hI.out.g1.c 8 _ rfl⟩ (fun hHeld => ?_)
        (refine tkH 0 (v := ?_) ?_ ?_; rotate_left; focus (intro w' hSw; (try dsimp only at hSw); go_simp; (try with_reducible rfl)); (try simp only [Act.put, List.setIfInBounds_toArray, List.set_cons_zero, List.set_cons_succ]))
        (refine tkH 1 (v := ?_) ?_ ?_; rotate_left; focus (intro w' hSw; (try dsimp only at hSw); go_simp; (try with_reducible rfl)); (try simp only [Act.put, List.setIfInBounds_toArray, List.set_cons_zero, List.set_cons_succ]))
        (refine wpAnyH_take (i := 2) (v := _) rfl (by kernel_rfl) (by decide +kernel) (by decide +kernel) (fun _ _ _ h => h) (yieldsIf_load_mid (by kernel_rfl) 77 _ rfl (w.heap.size) 0 (by kernel_rfl) [.int .i64 g.t0, .int .i64 g.t1, .int .i64 g.t2, .int .i64 g.p0, .int .i64 g.p1, .int .i64 g.p2, .int .i64 g.m0, .int .i64 g.m1, .int .i64 g.m2, .int .i64 g.m3] _ (fun _ h => h.1.range) Tryz.underlying77 rfl grSize) (by assumption) ?_; (try simp only [Act.put, List.setIfInBounds_toArray]); (try simp only [List.set_cons_zero, List.set_cons_succ]))
        (refine tkH 3 (v := ?_) ?_ ?_; rotate_left; focus (intro w' hSw; (try dsimp only at hSw); go_simp; (try with_reducible rfl)); (try simp only [Act.put, List.setIfInBounds_toArray, List.set_cons_zero, List.set_cons_succ]))
        (refine tkH 5 (v := ?_) ?_ ?_; rotate_left; focus (intro w' hSw; (try dsimp only at hSw); go_simp; (try with_reducible rfl)); (try simp only [Act.put, List.setIfInBounds_toArray, List.set_cons_zero, List.set_cons_succ]))
        (refine wpAnyH_ready (rs := [4]) (by decide +kernel) (by simp) ?_; refine AllReadyH.cons rfl (fun K hK => ?_) AllReadyH.nil; rw [if_pos (by kernel_rfl)]; go_simp)
        refine (GradeOfR_any g u _).mono ?_
        rw [hxz.out]
        rintro e w5 ⟨rfl, hb5⟩
        have hb45 := below_of_drewN (n := 1) hb5
        have hI := Lib.hid (hI.out.step hb45)
        have hN := Lib.hid (hN.out.below hb45)
        clear hb45 hb5
        go_simp
        (refine hK.out _ _ ⟨hI.out.g1, hN.out.c 0 _ rfl, hN.out.c 1 _ rfl, hN.out.c 2 _ rfl, hN.out.c 3 _ rfl, hI.out.g1.c 8 _ rfl⟩ (fun hHeld => ?_); clear hK K; (try simp only [Act.put, List.setIfInBounds_toArray]); (try simp only [List.set_cons_zero, List.set_cons_succ]))
        (refine tkH 6 (v := ?_) ?_ ?_; rotate_left; focus (intro w' hSw; (try dsimp only at hSw); go_simp; (try with_reducible rfl)); (try simp only [Act.put, List.setIfInBounds_toArray, List.set_cons_zero, List.set_cons_succ]))
        (refine tkH 7 (v := ?_) ?_ ?_; rotate_left; focus (intro w' hSw; (try dsimp only at hSw); go_simp; (try with_reducible rfl)); (try simp only [Act.put, List.setIfInBounds_toArray, List.set_cons_zero, List.set_cons_succ]))
        (refine wpAnyH_ready (rs := [8]) (by decide +kernel) (by simp) ?_; refine AllReadyH.cons rfl (fun K hK => ?_) AllReadyH.nil; rw [if_pos (by kernel_rfl)]; go_simp)
        refine (AddMonthsR_any u.day g.m2 hrr.out.1.1 hrr.out.1.2 (by have := hrr.out.2; omega) (by have := hrr.out.2; omega) _).mono ?_
        rintro e w6 ⟨rfl, hb6⟩
        have hI := Lib.hid (hI.out.step hb6)
        have hN := Lib.hid (hN.out.below hb6)
        clear hb6
        generalize hlz : Cal.laterS u.day g.m2 = lt at *
        have hlz := Lib.hid hlz
        obtain ⟨x1, ok⟩ := lt
        go_simp
        (refine hK.out _ _ ⟨hI.out.g1, hN.out.c 0 _ rfl, hN.out.c 1 _ rfl, hN.out.c 2 _ rfl, hN.out.c 3 _ rfl, hI.out.g1.c 8 _ rfl⟩ (fun hHeld => ?_); clear hK K; (try simp only [Act.put, List.setIfInBounds_toArray]); (try simp only [List.set_cons_zero, List.set_cons_succ]))
        (refine tkH 9 (v := ?_) ?_ ?_; rotate_left; focus (intro w' hSw; (try dsimp only at hSw); go_simp; (try with_reducible rfl)); (try simp only [Act.put, List.setIfInBounds_toArray, List.set_cons_zero, List.set_cons_succ]))
        (refine tkH 10 (v := ?_) ?_ ?_; rotate_left; focus (intro w' hSw; (try dsimp only at hSw); go_simp; (try with_reducible rfl)); (try simp only [Act.put, List.setIfInBounds_toArray, List.set_cons_zero, List.set_cons_succ]))
        (refine tkH 11 (v := ?_) ?_ ?_; rotate_left; focus (intro w' hSw; (try dsimp only at hSw); go_simp; (try with_reducible rfl)); (try simp only [Act.put, List.setIfInBounds_toArray, List.set_cons_zero, List.set_cons_succ]))
        (refine tkH 12 (v := ?_) ?_ ?_; rotate_left; focus (intro w' hSw; (try dsimp only at hSw); go_simp; (try with_reducible rfl)); (try simp only [Act.put, List.setIfInBounds_toArray, List.set_cons_zero, List.set_cons_succ]))
        (refine tkH 13 (v := ?_) ?_ ?_; rotate_left; focus (intro w' hSw; (try dsimp only at hSw); go_simp; (try with_reducible rfl)); (try simp only [Act.put, List.setIfInBounds_toArray, List.set_cons_zero, List.set_cons_succ]))
        refine wpAnyH_done (by kernel_rfl) ?_ _
        cases ok
        · go_wp2_with fail
          go_ret2
          exact ⟨by rw [hdu.out]; rfl, hI.out.hb⟩
        · go_wp2_with fail
          go_ret2
          exact ⟨by rw [hdu.out]; rfl, hI.out.hb⟩
      · have hdu : Hid (Cal.nextS g m day = if (Cal.laterS u.day g.m3).2 = true then ((Cal.laterS u.day g.m3).1, 0) else (0, 2)) := by
          show _ = _
          rw [hnx.out]; unfold Cal.dueS; rw [hx, ← Cal.add_later hud.1 hud.2 (by omega) (by omega)]; rfl
        have hrr : Hid ((0 ≤ u.day ∧ u.day ≤ 200000) ∧ (0 ≤ g.m3 ∧ g.m3 ≤ 240)) := ⟨hud, by omega⟩
        have hxz := Lib.hid hx
        clear hx hmo hud
        go_wp2_with fail
        refine wp_region_held_drew (S := (fun w' => BoxAt w' w.heap.size [.int .i64 g.t0, .int .i64 g.t1, .int .i64 g.t2, .int .i64 g.p0, .int .i64 g.p1, .int .i64 g.p2, .int .i64 g.m0, .int .i64 g.m1, .int .i64 g.m2, .int .i64 g.m3] ∧ w'.cell? ⟨wn.heap.size, 0, none⟩ = some (.int .i64 u.day) ∧ w'.cell? ⟨wn.heap.size, 1, none⟩ = some (.int .i64 u.kind) ∧ w'.cell? ⟨wn.heap.size, 2, none⟩ = some (.int .i64 u.tilt) ∧ w'.cell? ⟨wn.heap.size, 3, none⟩ = some (.int .i64 u.push) ∧ w'.cell? ⟨w.heap.size, 9, none⟩ = some (.int .i64 g.m3))) (by kernel_rfl) ⟨hI.out.g1.below (Below.refl _ _).drew, hN.out.c 0 _ rfl, hN.out.c 1 _ rfl, hN.out.c 2 _ rfl, hN.out.c 3 _ rfl, hI.out.g1.c 9 _ rfl⟩ (fun hHeld => ?_)
        (refine tkH 0 (v := ?_) ?_ ?_; rotate_left; focus (intro w' hSw; (try dsimp only at hSw); go_simp; (try with_reducible rfl)); (try simp only [Act.put, List.setIfInBounds_toArray, List.set_cons_zero, List.set_cons_succ]))
        (refine tkH 1 (v := ?_) ?_ ?_; rotate_left; focus (intro w' hSw; (try dsimp only at hSw); go_simp; (try with_reducible rfl)); (try simp only [Act.put, List.setIfInBounds_toArray, List.set_cons_zero, List.set_cons_succ]))
        (refine wpAnyH_take (i := 2) (v := _) rfl (by kernel_rfl) (by decide +kernel) (by decide +kernel) (fun _ _ _ h => h) (yieldsIf_load_mid (by kernel_rfl) 77 _ rfl (w.heap.size) 0 (by kernel_rfl) [.int .i64 g.t0, .int .i64 g.t1, .int .i64 g.t2, .int .i64 g.p0, .int .i64 g.p1, .int .i64 g.p2, .int .i64 g.m0, .int .i64 g.m1, .int .i64 g.m2, .int .i64 g.m3] _ (fun _ h => h.1.range) Tryz.underlying77 rfl grSize) (by assumption) ?_; (try simp only [Act.put, List.setIfInBounds_toArray]); (try simp only [List.set_cons_zero, List.set_cons_succ]))
        (refine tkH 3 (v := ?_) ?_ ?_; rotate_left; focus (intro w' hSw; (try dsimp only at hSw); go_simp; (try with_reducible rfl)); (try simp only [Act.put, List.setIfInBounds_toArray, List.set_cons_zero, List.set_cons_succ]))
        (refine tkH 5 (v := ?_) ?_ ?_; rotate_left; focus (intro w' hSw; (try dsimp only at hSw); go_simp; (try with_reducible rfl)); (try simp only [Act.put, List.setIfInBounds_toArray, List.set_cons_zero, List.set_cons_succ]))
        (refine wpAnyH_ready (rs := [4]) (by decide +kernel) (by simp) ?_; refine AllReadyH.cons rfl (fun K hK => ?_) AllReadyH.nil; rw [if_pos (by kernel_rfl)]; go_simp)
        refine (GradeOfR_any g u _).mono ?_
        rw [hxz.out]
        rintro e w5 ⟨rfl, hb5⟩
        have hb45 := below_of_drewN (n := 1) hb5
        have hI := Lib.hid (hI.out.step hb45)
        have hN := Lib.hid (hN.out.below hb45)
        clear hb45 hb5
        go_simp
        (refine hK.out _ _ ⟨hI.out.g1, hN.out.c 0 _ rfl, hN.out.c 1 _ rfl, hN.out.c 2 _ rfl, hN.out.c 3 _ rfl, hI.out.g1.c 9 _ rfl⟩ (fun hHeld => ?_); clear hK K; (try simp only [Act.put, List.setIfInBounds_toArray]); (try simp only [List.set_cons_zero, List.set_cons_succ]))
        (refine tkH 6 (v := ?_) ?_ ?_; rotate_left; focus (intro w' hSw; (try dsimp only at hSw); go_simp; (try with_reducible rfl)); (try simp only [Act.put, List.setIfInBounds_toArray, List.set_cons_zero, List.set_cons_succ]))
        (refine tkH 7 (v := ?_) ?_ ?_; rotate_left; focus (intro w' hSw; (try dsimp only at hSw); go_simp; (try with_reducible rfl)); (try simp only [Act.put, List.setIfInBounds_toArray, List.set_cons_zero, List.set_cons_succ]))
        (refine wpAnyH_ready (rs := [8]) (by decide +kernel) (by simp) ?_; refine AllReadyH.cons rfl (fun K hK => ?_) AllReadyH.nil; rw [if_pos (by kernel_rfl)]; go_simp)
        refine (AddMonthsR_any u.day g.m3 hrr.out.1.1 hrr.out.1.2 (by have := hrr.out.2; omega) (by have := hrr.out.2; omega) _).mono ?_
        rintro e w6 ⟨rfl, hb6⟩
        have hI := Lib.hid (hI.out.step hb6)
        have hN := Lib.hid (hN.out.below hb6)
        clear hb6
        generalize hlz : Cal.laterS u.day g.m3 = lt at *
        have hlz := Lib.hid hlz
        obtain ⟨x1, ok⟩ := lt
        go_simp
        (refine hK.out _ _ ⟨hI.out.g1, hN.out.c 0 _ rfl, hN.out.c 1 _ rfl, hN.out.c 2 _ rfl, hN.out.c 3 _ rfl, hI.out.g1.c 9 _ rfl⟩ (fun hHeld => ?_); clear hK K; (try simp only [Act.put, List.setIfInBounds_toArray]); (try simp only [List.set_cons_zero, List.set_cons_succ]))
        (refine tkH 9 (v := ?_) ?_ ?_; rotate_left; focus (intro w' hSw; (try dsimp only at hSw); go_simp; (try with_reducible rfl)); (try simp only [Act.put, List.setIfInBounds_toArray, List.set_cons_zero, List.set_cons_succ]))
        (refine tkH 10 (v := ?_) ?_ ?_; rotate_left; focus (intro w' hSw; (try dsimp only at hSw); go_simp; (try with_reducible rfl)); (try simp only [Act.put, List.setIfInBounds_toArray, List.set_cons_zero, List.set_cons_succ]))
        (refine tkH 11 (v := ?_) ?_ ?_; rotate_left; focus (intro w' hSw; (try dsimp only at hSw); go_simp; (try with_reducible rfl)); (try simp only [Act.put, List.setIfInBounds_toArray, List.set_cons_zero, List.set_cons_succ]))
        (refine tkH 12 (v := ?_) ?_ ?_; rotate_left; focus (intro w' hSw; (try dsimp only at hSw); go_simp; (try with_reducible rfl)); (try simp only [Act.put, List.setIfInBounds_toArray, List.set_cons_zero, List.set_cons_succ]))
        (refine tkH 13 (v := ?_) ?_ ?_; rotate_left; focus (intro w' hSw; (try dsimp only at hSw); go_simp; (try with_reducible rfl)); (try simp only [Act.put, List.setIfInBounds_toArray, List.set_cons_zero, List.set_cons_succ]))
        refine wpAnyH_done (by kernel_rfl) ?_ _
        cases ok
        · go_wp2_with fail
          go_ret2
          exact ⟨by rw [hdu.out]; rfl, hI.out.hb⟩
        · go_wp2_with fail
          go_ret2
          exact ⟨by rw [hdu.out]; rfl, hI.out.hb⟩
end Go.Proofs.YtconnjkkgaapbaaGreatDoor
namespace Go.Proofs.YtconnjkkgaapbaaGreatDoor
open Go Go.RowKit
def inR (m z : Int) : Prop := 0 ≤ z ∧ z ≤ m
theorem inB_yes {m z : Int} (h : inR m z) : inB m z = true := by unfold inB; simp [h.1, h.2]
theorem inB_no {m z : Int} (h : ¬ inR m z) : inB m z = false := by
  unfold inB inR at *
  by_cases h0 : 0 ≤ z
  · have : ¬ z ≤ m := fun h1 => h ⟨h0, h1⟩
    simp [this]
  · simp [h0]
/-- What the loops of the reference have seen. -/
def Rng (g : Grad) : Prop := (inR 1000 g.t0 ∧ inR 5000 g.p0) ∧ (inR 1000 g.t1 ∧ inR 5000 g.p1) ∧ (inR 1000 g.t2 ∧ inR 5000 g.p2) ∧ inR 240 g.m0 ∧ inR 240 g.m1 ∧ inR 240 g.m2 ∧ inR 240 g.m3
def Ord (g : Grad) : Prop := (g.t0 ≤ g.t1 ∧ g.p1 ≤ g.p0) ∧ (g.t1 ≤ g.t2 ∧ g.p2 ≤ g.p1) ∧ g.m1 ≤ g.m0 ∧ g.m2 ≤ g.m1 ∧ g.m3 ≤ g.m2
theorem inB_iff {m z : Int} : inB m z = true ↔ inR m z := by unfold inB inR; simp
theorem range_iff {g : Grad} : g.range = true ↔ Rng g := by
  unfold Grad.range Rng allB
  simp only [List.all_cons, List.all_nil, Bool.and_true, Bool.and_eq_true, inB_iff]
  constructor
  · rintro ⟨⟨a, b, c⟩, ⟨d, e, f⟩, h⟩; exact ⟨⟨a, d⟩, ⟨b, e⟩, ⟨c, f⟩, h⟩
  · rintro ⟨⟨a, d⟩, ⟨b, e⟩, ⟨c, f⟩, h⟩; exact ⟨⟨a, b, c⟩, ⟨d, e, f⟩, h⟩
theorem up3_iff {a b c : Int} : upB [a, b, c] = true ↔ a ≤ b ∧ b ≤ c := by
  unfold upB
  rw [decide_eq_true_eq]
  constructor
  · intro h; exact ⟨h 0 (by simp), h 1 (by simp)⟩
  · rintro ⟨h1, h2⟩ j hj
    match j, hj with
    | 0, _ => exact h1
    | 1, _ => exact h2
theorem down3_iff {a b c : Int} : downB [a, b, c] = true ↔ b ≤ a ∧ c ≤ b := by
  unfold downB
  rw [decide_eq_true_eq]
  constructor
  · intro h; exact ⟨h 0 (by simp), h 1 (by simp)⟩
  · rintro ⟨h1, h2⟩ j hj
    match j, hj with
    | 0, _ => exact h1
    | 1, _ => exact h2
theorem down4_iff {a b c d : Int} : downB [a, b, c, d] = true ↔ b ≤ a ∧ c ≤ b ∧ d ≤ c := by
  unfold downB
  rw [decide_eq_true_eq]
  constructor
  · intro h; exact ⟨h 0 (by simp), h 1 (by simp), h 2 (by simp)⟩
  · rintro ⟨h1, h2, h3⟩ j hj
    match j, hj with
    | 0, _ => exact h1
    | 1, _ => exact h2
    | 2, _ => exact h3
theorem order_iff {g : Grad} : g.order = true ↔ Ord g := by
  unfold Grad.order Ord
  simp only [Bool.and_eq_true, up3_iff, down3_iff, down4_iff]
  constructor
  · rintro ⟨⟨a, b⟩, ⟨c, d⟩, e⟩; exact ⟨⟨a, c⟩, ⟨b, d⟩, e⟩
  · rintro ⟨⟨a, c⟩, ⟨b, d⟩, e⟩; exact ⟨⟨a, b⟩, ⟨c, d⟩, e⟩
theorem Cal.gradErr_2 {g : Grad} (h : ¬ Rng g) : Cal.gradErr g = 2 := by unfold Cal.gradErr; rw [if_neg (fun x => h (range_iff.1 x))]
theorem Cal.gradErr_9 {g : Grad} (h : Rng g) (h2 : ¬ Ord g) : Cal.gradErr g = 9 := by unfold Cal.gradErr; rw [if_pos (range_iff.2 h), if_neg (fun x => h2 (order_iff.1 x))]
theorem Cal.gradErr_0 {g : Grad} (h : Rng g) (h2 : Ord g) : Cal.gradErr g = 0 := by unfold Cal.gradErr; rw [if_pos (range_iff.2 h), if_pos (order_iff.2 h2)]
set_option maxRecDepth 100000 in
set_option maxHeartbeats 4000000 in
theorem CheckGradingR_any (g : Grad) (w : World) : Calls Tryz.prog 47 #[.agg #[.int .i64 g.t0, .int .i64 g.t1, .int .i64 g.t2, .int .i64 g.p0, .int .i64 g.p1, .int .i64 g.p2, .int .i64 g.m0, .int .i64 g.m1, .int .i64 g.m2, .int .i64 g.m3]] w fun e w' => e = .returned (.int .i64 (Cal.gradErr g)) ∧ Below w.heap.size w w' := by
  have hb : Hid (Below w.heap.size w ((w.alloc (.cells #[.int .i64 g.t0, .int .i64 g.t1, .int .i64 g.t2, .int .i64 g.p0, .int .i64 g.p1, .int .i64 g.p2, .int .i64 g.m0, .int .i64 g.m1, .int .i64 g.m2, .int .i64 g.m3] 77)))) := below_alloc _ _
  go_enter Tryz.func47, Tryz.ntmps47
  go_wp2_with fail
  go_loop [3] (fun i => (i = .int .i64 0) ∨ (i = .int .i64 1 ∧ Hid (inR 1000 g.t0 ∧ inR 5000 g.p0)) ∨ (i = .int .i64 2 ∧ Hid (inR 1000 g.t0 ∧ inR 5000 g.p0) ∧ Hid (inR 1000 g.t1 ∧ inR 5000 g.p1)) ∨ (i = .int .i64 3 ∧ Hid (inR 1000 g.t0 ∧ inR 5000 g.p0) ∧ Hid (inR 1000 g.t1 ∧ inR 5000 g.p1) ∧ Hid (inR 1000 g.t2 ∧ inR 5000 g.p2))) (fun i => (3 - intOf i).toNat)
  case atStart => exact .inl rfl
  case round =>
    rcases hrel with rfl | ⟨rfl, q0⟩ | ⟨rfl, q0, q1⟩ | ⟨rfl, q0, q1, q2⟩
    · by_cases ht : inR 1000 g.t0
      · obtain ⟨ta, tb⟩ := ht
        by_cases hp : inR 5000 g.p0
        · have hz : Hid (inR 1000 g.t0 ∧ inR 5000 g.p0) := ⟨⟨ta, tb⟩, hp⟩
          obtain ⟨pa, pb⟩ := hp
          go_wp2_with (((first | (go_at_call 86) | (go_at_call 41) | (go_at_call 74) | (go_at_call 28) | (go_at_call 109) | (fail) | (fail)); first | refine rin ?_ | refine rout ?_ | refine rany ?_))
          go_round
          case rel => exact .inr (.inl ⟨rfl, hz⟩)
          case measure => simp [intOf]
        · have hfin : Hid (Cal.gradErr g = 2) := Cal.gradErr_2 (fun h => hp (h.1).2)
          have hp' : g.p0 < 0 ∨ 5000 < g.p0 := by unfold inR at hp; omega
          clear hp
          go_wp2_with (((first | (go_at_call 86) | (go_at_call 41) | (go_at_call 74) | (go_at_call 28) | (go_at_call 109) | (fail) | (fail)); first | refine rin ?_ | refine rout ?_ | refine rany ?_))
          go_ret
          exact ⟨ret_int hfin.out.symm, hb.out⟩
      · have hfin : Hid (Cal.gradErr g = 2) := Cal.gradErr_2 (fun h => ht (h.1).1)
        have ht' : g.t0 < 0 ∨ 1000 < g.t0 := by unfold inR at ht; omega
        clear ht
        go_wp2_with (((first | (go_at_call 86) | (go_at_call 41) | (go_at_call 74) | (go_at_call 28) | (go_at_call 109) | (fail) | (fail)); first | refine rin ?_ | refine rout ?_ | refine rany ?_))
        go_ret
        exact ⟨ret_int hfin.out.symm, hb.out⟩
    · by_cases ht : inR 1000 g.t1
      · obtain ⟨ta, tb⟩ := ht
        by_cases hp : inR 5000 g.p1
        · have hz : Hid (inR 1000 g.t1 ∧ inR 5000 g.p1) := ⟨⟨ta, tb⟩, hp⟩
          obtain ⟨pa, pb⟩ := hp
          go_wp2_with (((first | (go_at_call 86) | (go_at_call 41) | (go_at_call 74) | (go_at_call 28) | (go_at_call 109) | (fail) | (fail)); first | refine rin ?_ | refine rout ?_ | refine rany ?_))
          go_round
          case rel => exact .inr (.inr (.inl ⟨rfl, q0, hz⟩))
          case measure => simp [intOf]
        · have hfin : Hid (Cal.gradErr g = 2) := Cal.gradErr_2 (fun h => hp (h.2.1).2)
          have hp' : g.p1 < 0 ∨ 5000 < g.p1 := by unfold inR at hp; omega
          clear hp
          go_wp2_with (((first | (go_at_call 86) | (go_at_call 41) | (go_at_call 74) | (go_at_call 28) | (go_at_call 109) | (fail) | (fail)); first | refine rin ?_ | refine rout ?_ | refine rany ?_))
          go_ret
          exact ⟨ret_int hfin.out.symm, hb.out⟩
      · have hfin : Hid (Cal.gradErr g = 2) := Cal.gradErr_2 (fun h => ht (h.2.1).1)
        have ht' : g.t1 < 0 ∨ 1000 < g.t1 := by unfold inR at ht; omega
        clear ht
        go_wp2_with (((first | (go_at_call 86) | (go_at_call 41) | (go_at_call 74) | (go_at_call 28) | (go_at_call 109) | (fail) | (fail)); first | refine rin ?_ | refine rout ?_ | refine rany ?_))
        go_ret
        exact ⟨ret_int hfin.out.symm, hb.out⟩
    · by_cases ht : inR 1000 g.t2
      · obtain ⟨ta, tb⟩ := ht
        by_cases hp : inR 5000 g.p2
        · have hz : Hid (inR 1000 g.t2 ∧ inR 5000 g.p2) := ⟨⟨ta, tb⟩, hp⟩
          obtain ⟨pa, pb⟩ := hp
          go_wp2_with (((first | (go_at_call 86) | (go_at_call 41) | (go_at_call 74) | (go_at_call 28) | (go_at_call 109) | (fail) | (fail)); first | refine rin ?_ | refine rout ?_ | refine rany ?_))
          go_round
          case rel => exact .inr (.inr (.inr ⟨rfl, q0, q1, hz⟩))
          case measure => simp [intOf]
        · have hfin : Hid (Cal.gradErr g = 2) := Cal.gradErr_2 (fun h => hp (h.2.2.1).2)
          have hp' : g.p2 < 0 ∨ 5000 < g.p2 := by unfold inR at hp; omega
          clear hp
          go_wp2_with (((first | (go_at_call 86) | (go_at_call 41) | (go_at_call 74) | (go_at_call 28) | (go_at_call 109) | (fail) | (fail)); first | refine rin ?_ | refine rout ?_ | refine rany ?_))
          go_ret
          exact ⟨ret_int hfin.out.symm, hb.out⟩
      · have hfin : Hid (Cal.gradErr g = 2) := Cal.gradErr_2 (fun h => ht (h.2.2.1).1)
        have ht' : g.t2 < 0 ∨ 1000 < g.t2 := by unfold inR at ht; omega
        clear ht
        go_wp2_with (((first | (go_at_call 86) | (go_at_call 41) | (go_at_call 74) | (go_at_call 28) | (go_at_call 109) | (fail) | (fail)); first | refine rin ?_ | refine rout ?_ | refine rany ?_))
        go_ret
        exact ⟨ret_int hfin.out.symm, hb.out⟩
    · go_wp2_with fail
      go_loop [4] (fun i => (i = .int .i64 0) ∨ (i = .int .i64 1 ∧ Hid (inR 240 g.m0)) ∨ (i = .int .i64 2 ∧ Hid (inR 240 g.m0) ∧ Hid (inR 240 g.m1)) ∨ (i = .int .i64 3 ∧ Hid (inR 240 g.m0) ∧ Hid (inR 240 g.m1) ∧ Hid (inR 240 g.m2)) ∨ (i = .int .i64 4 ∧ Hid (inR 240 g.m0) ∧ Hid (inR 240 g.m1) ∧ Hid (inR 240 g.m2) ∧ Hid (inR 240 g.m3))) (fun i => (4 - intOf i).toNat)
      case atStart => exact .inl rfl
      case round =>
        rcases hrel with rfl | ⟨rfl, m0⟩ | ⟨rfl, m0, m1⟩ | ⟨rfl, m0, m1, m2⟩ | ⟨rfl, m0, m1, m2, m3⟩
        · by_cases ht : inR 240 g.m0
          · have hz := Lib.hid ht
            obtain ⟨ta, tb⟩ := ht
            go_wp2_with (((first | (go_at_call 86) | (go_at_call 41) | (go_at_call 74) | (go_at_call 28) | (go_at_call 109) | (fail) | (fail)); first | refine rin ?_ | refine rout ?_ | refine rany ?_))
            go_round
            case rel => exact .inr (.inl ⟨rfl, hz⟩)
            case measure => simp [intOf]
          · have hfin : Hid (Cal.gradErr g = 2) := Cal.gradErr_2 (fun h => ht (h.2.2.2.1))
            have ht' : g.m0 < 0 ∨ 240 < g.m0 := by unfold inR at ht; omega
            clear ht
            go_wp2_with (((first | (go_at_call 86) | (go_at_call 41) | (go_at_call 74) | (go_at_call 28) | (go_at_call 109) | (fail) | (fail)); first | refine rin ?_ | refine rout ?_ | refine rany ?_))
            go_ret
            exact ⟨ret_int hfin.out.symm, hb.out⟩
        · by_cases ht : inR 240 g.m1
          · have hz := Lib.hid ht
            obtain ⟨ta, tb⟩ := ht
            go_wp2_with (((first | (go_at_call 86) | (go_at_call 41) | (go_at_call 74) | (go_at_call 28) | (go_at_call 109) | (fail) | (fail)); first | refine rin ?_ | refine rout ?_ | refine rany ?_))
            go_round
            case rel => exact .inr (.inr (.inl ⟨rfl, m0, hz⟩))
            case measure => simp [intOf]
          · have hfin : Hid (Cal.gradErr g = 2) := Cal.gradErr_2 (fun h => ht (h.2.2.2.2.1))
            have ht' : g.m1 < 0 ∨ 240 < g.m1 := by unfold inR at ht; omega
            clear ht
            go_wp2_with (((first | (go_at_call 86) | (go_at_call 41) | (go_at_call 74) | (go_at_call 28) | (go_at_call 109) | (fail) | (fail)); first | refine rin ?_ | refine rout ?_ | refine rany ?_))
            go_ret
            exact ⟨ret_int hfin.out.symm, hb.out⟩
        · by_cases ht : inR 240 g.m2
          · have hz := Lib.hid ht
            obtain ⟨ta, tb⟩ := ht
            go_wp2_with (((first | (go_at_call 86) | (go_at_call 41) | (go_at_call 74) | (go_at_call 28) | (go_at_call 109) | (fail) | (fail)); first | refine rin ?_ | refine rout ?_ | refine rany ?_))
            go_round
            case rel => exact .inr (.inr (.inr (.inl ⟨rfl, m0, m1, hz⟩)))
            case measure => simp [intOf]
          · have hfin : Hid (Cal.gradErr g = 2) := Cal.gradErr_2 (fun h => ht (h.2.2.2.2.2.1))
            have ht' : g.m2 < 0 ∨ 240 < g.m2 := by unfold inR at ht; omega
            clear ht
            go_wp2_with (((first | (go_at_call 86) | (go_at_call 41) | (go_at_call 74) | (go_at_call 28) | (go_at_call 109) | (fail) | (fail)); first | refine rin ?_ | refine rout ?_ | refine rany ?_))
            go_ret
            exact ⟨ret_int hfin.out.symm, hb.out⟩
        · by_cases ht : inR 240 g.m3
          · have hz := Lib.hid ht
            obtain ⟨ta, tb⟩ := ht
            go_wp2_with (((first | (go_at_call 86) | (go_at_call 41) | (go_at_call 74) | (go_at_call 28) | (go_at_call 109) | (fail) | (fail)); first | refine rin ?_ | refine rout ?_ | refine rany ?_))
            go_round
            case rel => exact .inr (.inr (.inr (.inr ⟨rfl, m0, m1, m2, hz⟩)))
            case measure => simp [intOf]
          · have hfin : Hid (Cal.gradErr g = 2) := Cal.gradErr_2 (fun h => ht (h.2.2.2.2.2.2))
            have ht' : g.m3 < 0 ∨ 240 < g.m3 := by unfold inR at ht; omega
            clear ht
            go_wp2_with (((first | (go_at_call 86) | (go_at_call 41) | (go_at_call 74) | (go_at_call 28) | (go_at_call 109) | (fail) | (fail)); first | refine rin ?_ | refine rout ?_ | refine rany ?_))
            go_ret
            exact ⟨ret_int hfin.out.symm, hb.out⟩
        · have hR : Hid (Rng g) := ⟨q0.out, q1.out, q2.out, m0.out, m1.out, m2.out, m3.out⟩
          clear q0 q1 q2 m0 m1 m2 m3
          go_wp2_with fail
          go_loopw [5] (fun i wr => ∃ k : Nat, ((i = .int .i64 1) ∨ (i = .int .i64 2 ∧ Hid (g.t0 ≤ g.t1 ∧ g.p1 ≤ g.p0)) ∨ (i = .int .i64 3 ∧ Hid (g.t0 ≤ g.t1 ∧ g.p1 ≤ g.p0) ∧ Hid (g.t1 ≤ g.t2 ∧ g.p2 ≤ g.p1))) ∧ wr = World.drewN ((w.alloc (.cells #[.int .i64 g.t0, .int .i64 g.t1, .int .i64 g.t2, .int .i64 g.p0, .int .i64 g.p1, .int .i64 g.p2, .int .i64 g.m0, .int .i64 g.m1, .int .i64 g.m2, .int .i64 g.m3] 77))) k) (fun i _ => (3 - intOf i).toNat)
          case atStart => exact ⟨0, .inl rfl, rfl⟩
          case round =>
            obtain ⟨k, hi, rfl⟩ := hrel
            rcases hi with rfl | ⟨rfl, o1⟩ | ⟨rfl, o1, o2⟩
            · by_cases ht : g.t1 < g.t0
              · have hfin : Hid (Cal.gradErr g = 9) := Cal.gradErr_9 hR.out (fun h => absurd (h.1).1 (by omega))
                have hd : decide (g.t1 < g.t0) = true := by simpa using ht
                clear ht
                go_wp2_with fail
                go_quiet (fail)
                go_wp2_with fail
                go_ret
                exact ⟨ret_int hfin.out.symm, by first | exact below_drewN hb.out _ | exact below_drewN (below_drewN hb.out _) _⟩
              · have hd : decide (g.t1 < g.t0) = false := by simpa using ht
                by_cases hp : g.p0 < g.p1
                · have hfin : Hid (Cal.gradErr g = 9) := Cal.gradErr_9 hR.out (fun h => absurd (h.1).2 (by omega))
                  have hd2 : decide (g.p0 < g.p1) = true := by simpa using hp
                  clear ht hp
                  go_wp2_with fail
                  go_quiet (fail)
                  go_wp2_with fail
                  go_ret
                  exact ⟨ret_int hfin.out.symm, by first | exact below_drewN hb.out _ | exact below_drewN (below_drewN hb.out _) _⟩
                · have hz : Hid (g.t0 ≤ g.t1 ∧ g.p1 ≤ g.p0) := ⟨by omega, by omega⟩
                  have hd2 : decide (g.p0 < g.p1) = false := by simpa using hp
                  clear ht hp
                  go_wp2_with fail
                  go_quiet (fail)
                  go_wp2_with fail
                  go_roundw
                  case rel => exact ⟨_, .inr (.inl ⟨rfl, hz⟩), rfl⟩
                  case measure => simp [intOf]
            · by_cases ht : g.t2 < g.t1
              · have hfin : Hid (Cal.gradErr g = 9) := Cal.gradErr_9 hR.out (fun h => absurd (h.2.1).1 (by omega))
                have hd : decide (g.t2 < g.t1) = true := by simpa using ht
                clear ht
                go_wp2_with fail
                go_quiet (fail)
                go_wp2_with fail
                go_ret
                exact ⟨ret_int hfin.out.symm, by first | exact below_drewN hb.out _ | exact below_drewN (below_drewN hb.out _) _⟩
              · have hd : decide (g.t2 < g.t1) = false := by simpa using ht
                by_cases hp : g.p1 < g.p2
                · have hfin : Hid (Cal.gradErr g = 9) := Cal.gradErr_9 hR.out (fun h => absurd (h.2.1).2 (by omega))
                  have hd2 : decide (g.p1 < g.p2) = true := by simpa using hp
                  clear ht hp
                  go_wp2_with fail
                  go_quiet (fail)
                  go_wp2_with fail
                  go_ret
                  exact ⟨ret_int hfin.out.symm, by first | exact below_drewN hb.out _ | exact below_drewN (below_drewN hb.out _) _⟩
                · have hz : Hid (g.t1 ≤ g.t2 ∧ g.p2 ≤ g.p1) := ⟨by omega, by omega⟩
                  have hd2 : decide (g.p1 < g.p2) = false := by simpa using hp
                  clear ht hp
                  go_wp2_with fail
                  go_quiet (fail)
                  go_wp2_with fail
                  go_roundw
                  case rel => exact ⟨_, .inr (.inr ⟨rfl, o1, hz⟩), rfl⟩
                  case measure => simp [intOf]
            · go_wp2_with fail
              go_loopw [6] (fun i wr => ∃ k : Nat, ((i = .int .i64 1) ∨ (i = .int .i64 2 ∧ Hid (g.m1 ≤ g.m0)) ∨ (i = .int .i64 3 ∧ Hid (g.m1 ≤ g.m0) ∧ Hid (g.m2 ≤ g.m1)) ∨ (i = .int .i64 4 ∧ Hid (g.m1 ≤ g.m0) ∧ Hid (g.m2 ≤ g.m1) ∧ Hid (g.m3 ≤ g.m2))) ∧ wr = World.drewN ((w.alloc (.cells #[.int .i64 g.t0, .int .i64 g.t1, .int .i64 g.t2, .int .i64 g.p0, .int .i64 g.p1, .int .i64 g.p2, .int .i64 g.m0, .int .i64 g.m1, .int .i64 g.m2, .int .i64 g.m3] 77))) k) (fun i _ => (4 - intOf i).toNat)
              case atStart => exact ⟨_, .inl rfl, rfl⟩
              case round =>
                obtain ⟨k, hi, rfl⟩ := hrel
                rcases hi with rfl | ⟨rfl, x1⟩ | ⟨rfl, x1, x2⟩ | ⟨rfl, x1, x2, x3⟩
                · by_cases hp : g.m0 < g.m1
                  · have hfin : Hid (Cal.gradErr g = 9) := Cal.gradErr_9 hR.out (fun h => absurd (h.2.2.1) (by omega))
                    have hd2 : decide (g.m0 < g.m1) = true := by simpa using hp
                    clear hp
                    go_wp2_with fail
                    go_quiet (fail)
                    go_wp2_with fail
                    go_ret
                    exact ⟨ret_int hfin.out.symm, by first | exact below_drewN hb.out _ | exact below_drewN (below_drewN hb.out _) _⟩
                  · have hz : Hid (g.m1 ≤ g.m0) := by show _ ≤ _; omega
                    have hd2 : decide (g.m0 < g.m1) = false := by simpa using hp
                    clear hp
                    go_wp2_with fail
                    go_quiet (fail)
                    go_wp2_with fail
                    go_roundw
                    case rel => exact ⟨_, .inr (.inl ⟨rfl, hz⟩), rfl⟩
                    case measure => simp [intOf]
                · by_cases hp : g.m1 < g.m2
                  · have hfin : Hid (Cal.gradErr g = 9) := Cal.gradErr_9 hR.out (fun h => absurd (h.2.2.2.1) (by omega))
                    have hd2 : decide (g.m1 < g.m2) = true := by simpa using hp
                    clear hp
                    go_wp2_with fail
                    go_quiet (fail)
                    go_wp2_with fail
                    go_ret
                    exact ⟨ret_int hfin.out.symm, by first | exact below_drewN hb.out _ | exact below_drewN (below_drewN hb.out _) _⟩
                  · have hz : Hid (g.m2 ≤ g.m1) := by show _ ≤ _; omega
                    have hd2 : decide (g.m1 < g.m2) = false := by simpa using hp
                    clear hp
                    go_wp2_with fail
                    go_quiet (fail)
                    go_wp2_with fail
                    go_roundw
                    case rel => exact ⟨_, .inr (.inr (.inl ⟨rfl, x1, hz⟩)), rfl⟩
                    case measure => simp [intOf]
                · by_cases hp : g.m2 < g.m3
                  · have hfin : Hid (Cal.gradErr g = 9) := Cal.gradErr_9 hR.out (fun h => absurd (h.2.2.2.2) (by omega))
                    have hd2 : decide (g.m2 < g.m3) = true := by simpa using hp
                    clear hp
                    go_wp2_with fail
                    go_quiet (fail)
                    go_wp2_with fail
                    go_ret
                    exact ⟨ret_int hfin.out.symm, by first | exact below_drewN hb.out _ | exact below_drewN (below_drewN hb.out _) _⟩
                  · have hz : Hid (g.m3 ≤ g.m2) := by show _ ≤ _; omega
                    have hd2 : decide (g.m2 < g.m3) = false := by simpa using hp
                    clear hp
                    go_wp2_with fail
                    go_quiet (fail)
                    go_wp2_with fail
                    go_roundw
                    case rel => exact ⟨_, .inr (.inr (.inr ⟨rfl, x1, x2, hz⟩)), rfl⟩
                    case measure => simp [intOf]
                · have hfin := Lib.hid (Cal.gradErr_0 hR.out ⟨o1.out, o2.out, x1.out, x2.out, x3.out⟩)
                  go_wp2_with fail
                  go_ret
                  exact ⟨ret_int hfin.out.symm, below_drewN hb.out _⟩
end Go.Proofs.YtconnjkkgaapbaaGreatDoor
