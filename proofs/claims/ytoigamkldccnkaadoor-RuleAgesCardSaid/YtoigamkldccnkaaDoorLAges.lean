/- The walk of the statement RuleAges. -/
import Derived.Test.YtoigamkldccnkaaDoorLDates
import Derived.Test.YtoigamkldccnkaaDoorW26
namespace Go.Proofs.YtoigamkldccnkaaDoor
open Go Go.RowKit
theorem DateAt.all {w : World} {B : Nat} {y m d : Int} (h : DateAt w B y m d) : w.cell? ⟨B, 0, none⟩ = some (.int .i64 y) ∧ w.cell? ⟨B, 1, none⟩ = some (.int .i64 m) ∧ w.cell? ⟨B, 2, none⟩ = some (.int .i64 d) := ⟨h.c0, h.c1, h.c2⟩
set_option maxRecDepth 100000 in
set_option maxHeartbeats 2000000 in
theorem RuleAges_any (a b : Int) (w : World) (hT : Tab w) :
    Calls Tryd.prog 12 #[.int .i64 a, .int .i64 b] w fun e w' => e = .returned (.bool true) ∧ Below w.heap.size w w' := by
  have hT' := Lib.hid hT
  by_cases ha : 0 ≤ a ∧ a ≤ 200000
  · obtain ⟨a0, a1⟩ := ha
    by_cases hb : 0 ≤ b ∧ b ≤ 200000
    · obtain ⟨b0, b1⟩ := hb
      clear hT
      by_cases hab : b < a
      · go_enter Tryd.func12, Tryd.ntmps12
        go_wp2_with fail
        refine (awake_any _ hT'.out).mono ?_
        rintro e w1 ⟨rfl, hb1⟩
        have hbw := Lib.hid hb1
        clear hb1
        go_wp2_with (first | (go_at_call 78; first | (refine (calls_in (within_any _ _ _ _) ?_ ?_).mono ?_; omega; omega; rintro e w' ⟨rfl, rfl⟩) | (refine (calls_out (within_any _ _ _ _) ?_).mono ?_; omega; rintro e w' ⟨rfl, rfl⟩) | (refine (within_any _ _ _ _).mono ?_; rintro e w' ⟨rfl, rfl⟩)) | (go_at_call 29; first | (refine (calls_in (Within_any _ _ _ _) ?_ ?_).mono ?_; omega; omega; rintro e w' ⟨rfl, rfl⟩) | (refine (calls_out (Within_any _ _ _ _) ?_).mono ?_; omega; rintro e w' ⟨rfl, rfl⟩) | (refine (Within_any _ _ _ _).mono ?_; rintro e w' ⟨rfl, rfl⟩)) | (go_at_call 75; first | (refine (calls_in (isDay_any _ _) ?_ ?_).mono ?_; omega; omega; rintro e w' ⟨rfl, rfl⟩) | (refine (calls_out (isDay_any _ _) ?_).mono ?_; omega; rintro e w' ⟨rfl, rfl⟩) | (refine (isDay_any _ _).mono ?_; rintro e w' ⟨rfl, rfl⟩)) | (go_at_call 32; first | (refine (calls_in (IsDay_any _ _) ?_ ?_).mono ?_; omega; omega; rintro e w' ⟨rfl, rfl⟩) | (refine (calls_out (IsDay_any _ _) ?_).mono ?_; omega; rintro e w' ⟨rfl, rfl⟩) | (refine (IsDay_any _ _).mono ?_; rintro e w' ⟨rfl, rfl⟩)) | (go_at_call 46; first | (refine (calls_in (IsYear_any _ _) ?_ ?_).mono ?_; omega; omega; rintro e w' ⟨rfl, rfl⟩) | (refine (calls_out (IsYear_any _ _) ?_).mono ?_; omega; rintro e w' ⟨rfl, rfl⟩) | (refine (IsYear_any _ _).mono ?_; rintro e w' ⟨rfl, rfl⟩)) | (go_at_call 25; first | (refine (calls_in (IsFull_any _ _) ?_ ?_).mono ?_; omega; omega; rintro e w' ⟨rfl, rfl⟩) | (refine (calls_out (IsFull_any _ _) ?_).mono ?_; omega; rintro e w' ⟨rfl, rfl⟩) | (refine (IsFull_any _ _).mono ?_; rintro e w' ⟨rfl, rfl⟩)) | (go_at_call 69; first | (refine (calls_in (isFull_any _ _) ?_ ?_).mono ?_; omega; omega; rintro e w' ⟨rfl, rfl⟩) | (refine (calls_out (isFull_any _ _) ?_).mono ?_; omega; rintro e w' ⟨rfl, rfl⟩) | (refine (isFull_any _ _).mono ?_; rintro e w' ⟨rfl, rfl⟩)))
        refine (Age_order a b a0 a1 b0 b1 hab _).mono ?_
        rintro e w2 ⟨rfl, hb2⟩
        have hbw2 := Lib.hid (below_step hbw.out hb2)
        clear hb2
        go_wp2_with (first | (go_at_call 78; first | (refine (calls_in (within_any _ _ _ _) ?_ ?_).mono ?_; omega; omega; rintro e w' ⟨rfl, rfl⟩) | (refine (calls_out (within_any _ _ _ _) ?_).mono ?_; omega; rintro e w' ⟨rfl, rfl⟩) | (refine (within_any _ _ _ _).mono ?_; rintro e w' ⟨rfl, rfl⟩)) | (go_at_call 29; first | (refine (calls_in (Within_any _ _ _ _) ?_ ?_).mono ?_; omega; omega; rintro e w' ⟨rfl, rfl⟩) | (refine (calls_out (Within_any _ _ _ _) ?_).mono ?_; omega; rintro e w' ⟨rfl, rfl⟩) | (refine (Within_any _ _ _ _).mono ?_; rintro e w' ⟨rfl, rfl⟩)) | (go_at_call 75; first | (refine (calls_in (isDay_any _ _) ?_ ?_).mono ?_; omega; omega; rintro e w' ⟨rfl, rfl⟩) | (refine (calls_out (isDay_any _ _) ?_).mono ?_; omega; rintro e w' ⟨rfl, rfl⟩) | (refine (isDay_any _ _).mono ?_; rintro e w' ⟨rfl, rfl⟩)) | (go_at_call 32; first | (refine (calls_in (IsDay_any _ _) ?_ ?_).mono ?_; omega; omega; rintro e w' ⟨rfl, rfl⟩) | (refine (calls_out (IsDay_any _ _) ?_).mono ?_; omega; rintro e w' ⟨rfl, rfl⟩) | (refine (IsDay_any _ _).mono ?_; rintro e w' ⟨rfl, rfl⟩)) | (go_at_call 46; first | (refine (calls_in (IsYear_any _ _) ?_ ?_).mono ?_; omega; omega; rintro e w' ⟨rfl, rfl⟩) | (refine (calls_out (IsYear_any _ _) ?_).mono ?_; omega; rintro e w' ⟨rfl, rfl⟩) | (refine (IsYear_any _ _).mono ?_; rintro e w' ⟨rfl, rfl⟩)) | (go_at_call 25; first | (refine (calls_in (IsFull_any _ _) ?_ ?_).mono ?_; omega; omega; rintro e w' ⟨rfl, rfl⟩) | (refine (calls_out (IsFull_any _ _) ?_).mono ?_; omega; rintro e w' ⟨rfl, rfl⟩) | (refine (IsFull_any _ _).mono ?_; rintro e w' ⟨rfl, rfl⟩)) | (go_at_call 69; first | (refine (calls_in (isFull_any _ _) ?_ ?_).mono ?_; omega; omega; rintro e w' ⟨rfl, rfl⟩) | (refine (calls_out (isFull_any _ _) ?_).mono ?_; omega; rintro e w' ⟨rfl, rfl⟩) | (refine (isFull_any _ _).mono ?_; rintro e w' ⟨rfl, rfl⟩)))
        go_ret
        exact ⟨rfl, below_step hbw2.out (below_alloc _ _)⟩
      · by_cases hfar : 22000 < b - a
        · go_enter Tryd.func12, Tryd.ntmps12
          go_wp2_with fail
          refine (awake_any _ hT'.out).mono ?_
          rintro e w1 ⟨rfl, hb1⟩
          have hbw := Lib.hid hb1
          clear hb1
          go_wp2_with (first | (go_at_call 78; first | (refine (calls_in (within_any _ _ _ _) ?_ ?_).mono ?_; omega; omega; rintro e w' ⟨rfl, rfl⟩) | (refine (calls_out (within_any _ _ _ _) ?_).mono ?_; omega; rintro e w' ⟨rfl, rfl⟩) | (refine (within_any _ _ _ _).mono ?_; rintro e w' ⟨rfl, rfl⟩)) | (go_at_call 29; first | (refine (calls_in (Within_any _ _ _ _) ?_ ?_).mono ?_; omega; omega; rintro e w' ⟨rfl, rfl⟩) | (refine (calls_out (Within_any _ _ _ _) ?_).mono ?_; omega; rintro e w' ⟨rfl, rfl⟩) | (refine (Within_any _ _ _ _).mono ?_; rintro e w' ⟨rfl, rfl⟩)) | (go_at_call 75; first | (refine (calls_in (isDay_any _ _) ?_ ?_).mono ?_; omega; omega; rintro e w' ⟨rfl, rfl⟩) | (refine (calls_out (isDay_any _ _) ?_).mono ?_; omega; rintro e w' ⟨rfl, rfl⟩) | (refine (isDay_any _ _).mono ?_; rintro e w' ⟨rfl, rfl⟩)) | (go_at_call 32; first | (refine (calls_in (IsDay_any _ _) ?_ ?_).mono ?_; omega; omega; rintro e w' ⟨rfl, rfl⟩) | (refine (calls_out (IsDay_any _ _) ?_).mono ?_; omega; rintro e w' ⟨rfl, rfl⟩) | (refine (IsDay_any _ _).mono ?_; rintro e w' ⟨rfl, rfl⟩)) | (go_at_call 46; first | (refine (calls_in (IsYear_any _ _) ?_ ?_).mono ?_; omega; omega; rintro e w' ⟨rfl, rfl⟩) | (refine (calls_out (IsYear_any _ _) ?_).mono ?_; omega; rintro e w' ⟨rfl, rfl⟩) | (refine (IsYear_any _ _).mono ?_; rintro e w' ⟨rfl, rfl⟩)) | (go_at_call 25; first | (refine (calls_in (IsFull_any _ _) ?_ ?_).mono ?_; omega; omega; rintro e w' ⟨rfl, rfl⟩) | (refine (calls_out (IsFull_any _ _) ?_).mono ?_; omega; rintro e w' ⟨rfl, rfl⟩) | (refine (IsFull_any _ _).mono ?_; rintro e w' ⟨rfl, rfl⟩)) | (go_at_call 69; first | (refine (calls_in (isFull_any _ _) ?_ ?_).mono ?_; omega; omega; rintro e w' ⟨rfl, rfl⟩) | (refine (calls_out (isFull_any _ _) ?_).mono ?_; omega; rintro e w' ⟨rfl, rfl⟩) | (refine (isFull_any _ _).mono ?_; rintro e w' ⟨rfl, rfl⟩)))
          go_ret
          exact ⟨rfl, hbw.out⟩
        · have hle : a ≤ b := by omega
          have hA := fun w1 (h : Below w.heap.size w w1) => Age_any a b a0 hle b1 w1 (hT'.out.below h)
          have hR := fun w1 => AgeR_any a b a0 hle b1 w1
          have hadd := fun w1 (h : Below w.heap.size w w1) => AddMonths_any a (12 * (Cal.ageM a b / 12) + Cal.ageM a b % 12) w1 (hT'.out.below h)
          obtain ⟨g1, g2⟩ := Cal.age_good a0 hle b1
          have hs : Cal.addS a (12 * (Cal.ageM a b / 12) + Cal.ageM a b % 12) = ((Cal.laterS a (Cal.ageM a b)).1, 0) := by
            have hnn := Cal.age_nonneg a0 hle b1
            have hnl := Cal.age_le a0 hle b1
            rw [show 12 * (Cal.ageM a b / 12) + Cal.ageM a b % 12 = Cal.ageM a b by omega]
            unfold Cal.addS
            rw [if_pos ⟨a0, a1, by omega, by omega, g1⟩]
          simp only [hs] at hadd
          have hx0 := Cal.laterS_nonneg a0 a1 (Cal.ageM a b)
          have hnn := Cal.age_nonneg a0 hle b1
          have hnl := Cal.age_le a0 hle b1
          unfold Cal.AgePost at hA
          unfold Cal.AgePostR at hR
          unfold Cal.ageAgg at hA hR
          generalize (Cal.laterS a (Cal.ageM a b)).1 = x at *
          generalize Cal.ageM a b = M at *
          have hA := Lib.hid hA
          have hR := Lib.hid hR
          have hadd := Lib.hid hadd
          clear g1 hs
          go_enter Tryd.func12, Tryd.ntmps12
          go_wp2_with fail
          refine (awake_any _ hT'.out).mono ?_
          rintro e w1 ⟨rfl, hb1⟩
          have hbw := Lib.hid hb1
          clear hb1
          go_wp2_with (first | (go_at_call 78; first | (refine (calls_in (within_any _ _ _ _) ?_ ?_).mono ?_; omega; omega; rintro e w' ⟨rfl, rfl⟩) | (refine (calls_out (within_any _ _ _ _) ?_).mono ?_; omega; rintro e w' ⟨rfl, rfl⟩) | (refine (within_any _ _ _ _).mono ?_; rintro e w' ⟨rfl, rfl⟩)) | (go_at_call 29; first | (refine (calls_in (Within_any _ _ _ _) ?_ ?_).mono ?_; omega; omega; rintro e w' ⟨rfl, rfl⟩) | (refine (calls_out (Within_any _ _ _ _) ?_).mono ?_; omega; rintro e w' ⟨rfl, rfl⟩) | (refine (Within_any _ _ _ _).mono ?_; rintro e w' ⟨rfl, rfl⟩)) | (go_at_call 75; first | (refine (calls_in (isDay_any _ _) ?_ ?_).mono ?_; omega; omega; rintro e w' ⟨rfl, rfl⟩) | (refine (calls_out (isDay_any _ _) ?_).mono ?_; omega; rintro e w' ⟨rfl, rfl⟩) | (refine (isDay_any _ _).mono ?_; rintro e w' ⟨rfl, rfl⟩)) | (go_at_call 32; first | (refine (calls_in (IsDay_any _ _) ?_ ?_).mono ?_; omega; omega; rintro e w' ⟨rfl, rfl⟩) | (refine (calls_out (IsDay_any _ _) ?_).mono ?_; omega; rintro e w' ⟨rfl, rfl⟩) | (refine (IsDay_any _ _).mono ?_; rintro e w' ⟨rfl, rfl⟩)) | (go_at_call 46; first | (refine (calls_in (IsYear_any _ _) ?_ ?_).mono ?_; omega; omega; rintro e w' ⟨rfl, rfl⟩) | (refine (calls_out (IsYear_any _ _) ?_).mono ?_; omega; rintro e w' ⟨rfl, rfl⟩) | (refine (IsYear_any _ _).mono ?_; rintro e w' ⟨rfl, rfl⟩)) | (go_at_call 25; first | (refine (calls_in (IsFull_any _ _) ?_ ?_).mono ?_; omega; omega; rintro e w' ⟨rfl, rfl⟩) | (refine (calls_out (IsFull_any _ _) ?_).mono ?_; omega; rintro e w' ⟨rfl, rfl⟩) | (refine (IsFull_any _ _).mono ?_; rintro e w' ⟨rfl, rfl⟩)) | (go_at_call 69; first | (refine (calls_in (isFull_any _ _) ?_ ?_).mono ?_; omega; omega; rintro e w' ⟨rfl, rfl⟩) | (refine (calls_out (isFull_any _ _) ?_).mono ?_; omega; rintro e w' ⟨rfl, rfl⟩) | (refine (isFull_any _ _).mono ?_; rintro e w' ⟨rfl, rfl⟩)))
          refine (hA.out _ hbw.out).mono ?_
          rintro e w2 ⟨rfl, hb2⟩
          have hbw2 := Lib.hid (below_step hbw.out hb2)
          clear hb2
          have hx5 := Lib.hid (DateAt.new w2 (M / 12) (M % 12) (b - x) 55)
          have x0 := hx5.out.c0
          have x1 := hx5.out.c1
          have x2 := hx5.out.c2
          go_wp2_with (first | (go_at_call 78; first | (refine (calls_in (within_any _ _ _ _) ?_ ?_).mono ?_; omega; omega; rintro e w' ⟨rfl, rfl⟩) | (refine (calls_out (within_any _ _ _ _) ?_).mono ?_; omega; rintro e w' ⟨rfl, rfl⟩) | (refine (within_any _ _ _ _).mono ?_; rintro e w' ⟨rfl, rfl⟩)) | (go_at_call 29; first | (refine (calls_in (Within_any _ _ _ _) ?_ ?_).mono ?_; omega; omega; rintro e w' ⟨rfl, rfl⟩) | (refine (calls_out (Within_any _ _ _ _) ?_).mono ?_; omega; rintro e w' ⟨rfl, rfl⟩) | (refine (Within_any _ _ _ _).mono ?_; rintro e w' ⟨rfl, rfl⟩)) | (go_at_call 75; first | (refine (calls_in (isDay_any _ _) ?_ ?_).mono ?_; omega; omega; rintro e w' ⟨rfl, rfl⟩) | (refine (calls_out (isDay_any _ _) ?_).mono ?_; omega; rintro e w' ⟨rfl, rfl⟩) | (refine (isDay_any _ _).mono ?_; rintro e w' ⟨rfl, rfl⟩)) | (go_at_call 32; first | (refine (calls_in (IsDay_any _ _) ?_ ?_).mono ?_; omega; omega; rintro e w' ⟨rfl, rfl⟩) | (refine (calls_out (IsDay_any _ _) ?_).mono ?_; omega; rintro e w' ⟨rfl, rfl⟩) | (refine (IsDay_any _ _).mono ?_; rintro e w' ⟨rfl, rfl⟩)) | (go_at_call 46; first | (refine (calls_in (IsYear_any _ _) ?_ ?_).mono ?_; omega; omega; rintro e w' ⟨rfl, rfl⟩) | (refine (calls_out (IsYear_any _ _) ?_).mono ?_; omega; rintro e w' ⟨rfl, rfl⟩) | (refine (IsYear_any _ _).mono ?_; rintro e w' ⟨rfl, rfl⟩)) | (go_at_call 25; first | (refine (calls_in (IsFull_any _ _) ?_ ?_).mono ?_; omega; omega; rintro e w' ⟨rfl, rfl⟩) | (refine (calls_out (IsFull_any _ _) ?_).mono ?_; omega; rintro e w' ⟨rfl, rfl⟩) | (refine (IsFull_any _ _).mono ?_; rintro e w' ⟨rfl, rfl⟩)) | (go_at_call 69; first | (refine (calls_in (isFull_any _ _) ?_ ?_).mono ?_; omega; omega; rintro e w' ⟨rfl, rfl⟩) | (refine (calls_out (isFull_any _ _) ?_).mono ?_; omega; rintro e w' ⟨rfl, rfl⟩) | (refine (isFull_any _ _).mono ?_; rintro e w' ⟨rfl, rfl⟩)))
          go_region_held3 (fun w' => w'.cell? ⟨w2.heap.size, 0, none⟩ = some (.int .i64 (M / 12)) ∧ w'.cell? ⟨w2.heap.size, 1, none⟩ = some (.int .i64 (M % 12)) ∧ w'.cell? ⟨w2.heap.size, 2, none⟩ = some (.int .i64 (b - x))) (first | exact hx5.out.all | exact hx6.all | fail) (first | (go_at_call 59; refine (hR.out _).mono ?_; rintro e w6 ⟨rfl, hb6⟩; have hx6 := hx5.out.below (below_of_drewN (n := 1) hb6)) | fail)
          have y0 := hx6.c0
          have y1 := hx6.c1
          have y2 := hx6.c2
          have hbw6 := Lib.hid (below_step (below_step hbw2.out (below_alloc _ _)) (below_of_drewN (n := 1) hb6))
          clear x0 x1 x2
          go_wp2_with fail
          refine (hadd.out _ hbw6.out).mono ?_
          rintro e w7 ⟨rfl, hb7⟩
          have hx7 := hx6.below hb7
          have z2 := hx7.c2
          clear y0 y1 y2
          have hE : (x + (b - x) == b) = true := by simp; omega
          go_wp2
          go_ret
          exact ⟨rfl, below_step hbw6.out hb7⟩
    · have hb' : b < 0 ∨ 200000 < b := by omega
      clear hb
      go_enter Tryd.func12, Tryd.ntmps12
      go_wp2_with fail
      refine (awake_any _ hT'.out).mono ?_
      rintro e w1 ⟨rfl, hb1⟩
      have hbw := Lib.hid hb1
      clear hb1
      go_wp2_with (first | (go_at_call 78; first | (refine (calls_in (within_any _ _ _ _) ?_ ?_).mono ?_; omega; omega; rintro e w' ⟨rfl, rfl⟩) | (refine (calls_out (within_any _ _ _ _) ?_).mono ?_; omega; rintro e w' ⟨rfl, rfl⟩) | (refine (within_any _ _ _ _).mono ?_; rintro e w' ⟨rfl, rfl⟩)) | (go_at_call 29; first | (refine (calls_in (Within_any _ _ _ _) ?_ ?_).mono ?_; omega; omega; rintro e w' ⟨rfl, rfl⟩) | (refine (calls_out (Within_any _ _ _ _) ?_).mono ?_; omega; rintro e w' ⟨rfl, rfl⟩) | (refine (Within_any _ _ _ _).mono ?_; rintro e w' ⟨rfl, rfl⟩)) | (go_at_call 75; first | (refine (calls_in (isDay_any _ _) ?_ ?_).mono ?_; omega; omega; rintro e w' ⟨rfl, rfl⟩) | (refine (calls_out (isDay_any _ _) ?_).mono ?_; omega; rintro e w' ⟨rfl, rfl⟩) | (refine (isDay_any _ _).mono ?_; rintro e w' ⟨rfl, rfl⟩)) | (go_at_call 32; first | (refine (calls_in (IsDay_any _ _) ?_ ?_).mono ?_; omega; omega; rintro e w' ⟨rfl, rfl⟩) | (refine (calls_out (IsDay_any _ _) ?_).mono ?_; omega; rintro e w' ⟨rfl, rfl⟩) | (refine (IsDay_any _ _).mono ?_; rintro e w' ⟨rfl, rfl⟩)) | (go_at_call 46; first | (refine (calls_in (IsYear_any _ _) ?_ ?_).mono ?_; omega; omega; rintro e w' ⟨rfl, rfl⟩) | (refine (calls_out (IsYear_any _ _) ?_).mono ?_; omega; rintro e w' ⟨rfl, rfl⟩) | (refine (IsYear_any _ _).mono ?_; rintro e w' ⟨rfl, rfl⟩)) | (go_at_call 25; first | (refine (calls_in (IsFull_any _ _) ?_ ?_).mono ?_; omega; omega; rintro e w' ⟨rfl, rfl⟩) | (refine (calls_out (IsFull_any _ _) ?_).mono ?_; omega; rintro e w' ⟨rfl, rfl⟩) | (refine (IsFull_any _ _).mono ?_; rintro e w' ⟨rfl, rfl⟩)) | (go_at_call 69; first | (refine (calls_in (isFull_any _ _) ?_ ?_).mono ?_; omega; omega; rintro e w' ⟨rfl, rfl⟩) | (refine (calls_out (isFull_any _ _) ?_).mono ?_; omega; rintro e w' ⟨rfl, rfl⟩) | (refine (isFull_any _ _).mono ?_; rintro e w' ⟨rfl, rfl⟩)))
      refine (Age_no a b (by omega) _).mono ?_
      rintro e w2 ⟨rfl, hb2⟩
      have hbw2 := Lib.hid (below_step hbw.out hb2)
      clear hb2
      go_wp2_with (first | (go_at_call 78; first | (refine (calls_in (within_any _ _ _ _) ?_ ?_).mono ?_; omega; omega; rintro e w' ⟨rfl, rfl⟩) | (refine (calls_out (within_any _ _ _ _) ?_).mono ?_; omega; rintro e w' ⟨rfl, rfl⟩) | (refine (within_any _ _ _ _).mono ?_; rintro e w' ⟨rfl, rfl⟩)) | (go_at_call 29; first | (refine (calls_in (Within_any _ _ _ _) ?_ ?_).mono ?_; omega; omega; rintro e w' ⟨rfl, rfl⟩) | (refine (calls_out (Within_any _ _ _ _) ?_).mono ?_; omega; rintro e w' ⟨rfl, rfl⟩) | (refine (Within_any _ _ _ _).mono ?_; rintro e w' ⟨rfl, rfl⟩)) | (go_at_call 75; first | (refine (calls_in (isDay_any _ _) ?_ ?_).mono ?_; omega; omega; rintro e w' ⟨rfl, rfl⟩) | (refine (calls_out (isDay_any _ _) ?_).mono ?_; omega; rintro e w' ⟨rfl, rfl⟩) | (refine (isDay_any _ _).mono ?_; rintro e w' ⟨rfl, rfl⟩)) | (go_at_call 32; first | (refine (calls_in (IsDay_any _ _) ?_ ?_).mono ?_; omega; omega; rintro e w' ⟨rfl, rfl⟩) | (refine (calls_out (IsDay_any _ _) ?_).mono ?_; omega; rintro e w' ⟨rfl, rfl⟩) | (refine (IsDay_any _ _).mono ?_; rintro e w' ⟨rfl, rfl⟩)) | (go_at_call 46; first | (refine (calls_in (IsYear_any _ _) ?_ ?_).mono ?_; omega; omega; rintro e w' ⟨rfl, rfl⟩) | (refine (calls_out (IsYear_any _ _) ?_).mono ?_; omega; rintro e w' ⟨rfl, rfl⟩) | (refine (IsYear_any _ _).mono ?_; rintro e w' ⟨rfl, rfl⟩)) | (go_at_call 25; first | (refine (calls_in (IsFull_any _ _) ?_ ?_).mono ?_; omega; omega; rintro e w' ⟨rfl, rfl⟩) | (refine (calls_out (IsFull_any _ _) ?_).mono ?_; omega; rintro e w' ⟨rfl, rfl⟩) | (refine (IsFull_any _ _).mono ?_; rintro e w' ⟨rfl, rfl⟩)) | (go_at_call 69; first | (refine (calls_in (isFull_any _ _) ?_ ?_).mono ?_; omega; omega; rintro e w' ⟨rfl, rfl⟩) | (refine (calls_out (isFull_any _ _) ?_).mono ?_; omega; rintro e w' ⟨rfl, rfl⟩) | (refine (isFull_any _ _).mono ?_; rintro e w' ⟨rfl, rfl⟩)))
      go_ret
      exact ⟨rfl, below_step hbw2.out (below_alloc _ _)⟩
  · have ha' : a < 0 ∨ 200000 < a := by omega
    clear ha
    go_enter Tryd.func12, Tryd.ntmps12
    go_wp2_with fail
    refine (awake_any _ hT'.out).mono ?_
    rintro e w1 ⟨rfl, hb1⟩
    have hbw := Lib.hid hb1
    clear hb1
    go_wp2_with (first | (go_at_call 78; first | (refine (calls_in (within_any _ _ _ _) ?_ ?_).mono ?_; omega; omega; rintro e w' ⟨rfl, rfl⟩) | (refine (calls_out (within_any _ _ _ _) ?_).mono ?_; omega; rintro e w' ⟨rfl, rfl⟩) | (refine (within_any _ _ _ _).mono ?_; rintro e w' ⟨rfl, rfl⟩)) | (go_at_call 29; first | (refine (calls_in (Within_any _ _ _ _) ?_ ?_).mono ?_; omega; omega; rintro e w' ⟨rfl, rfl⟩) | (refine (calls_out (Within_any _ _ _ _) ?_).mono ?_; omega; rintro e w' ⟨rfl, rfl⟩) | (refine (Within_any _ _ _ _).mono ?_; rintro e w' ⟨rfl, rfl⟩)) | (go_at_call 75; first | (refine (calls_in (isDay_any _ _) ?_ ?_).mono ?_; omega; omega; rintro e w' ⟨rfl, rfl⟩) | (refine (calls_out (isDay_any _ _) ?_).mono ?_; omega; rintro e w' ⟨rfl, rfl⟩) | (refine (isDay_any _ _).mono ?_; rintro e w' ⟨rfl, rfl⟩)) | (go_at_call 32; first | (refine (calls_in (IsDay_any _ _) ?_ ?_).mono ?_; omega; omega; rintro e w' ⟨rfl, rfl⟩) | (refine (calls_out (IsDay_any _ _) ?_).mono ?_; omega; rintro e w' ⟨rfl, rfl⟩) | (refine (IsDay_any _ _).mono ?_; rintro e w' ⟨rfl, rfl⟩)) | (go_at_call 46; first | (refine (calls_in (IsYear_any _ _) ?_ ?_).mono ?_; omega; omega; rintro e w' ⟨rfl, rfl⟩) | (refine (calls_out (IsYear_any _ _) ?_).mono ?_; omega; rintro e w' ⟨rfl, rfl⟩) | (refine (IsYear_any _ _).mono ?_; rintro e w' ⟨rfl, rfl⟩)) | (go_at_call 25; first | (refine (calls_in (IsFull_any _ _) ?_ ?_).mono ?_; omega; omega; rintro e w' ⟨rfl, rfl⟩) | (refine (calls_out (IsFull_any _ _) ?_).mono ?_; omega; rintro e w' ⟨rfl, rfl⟩) | (refine (IsFull_any _ _).mono ?_; rintro e w' ⟨rfl, rfl⟩)) | (go_at_call 69; first | (refine (calls_in (isFull_any _ _) ?_ ?_).mono ?_; omega; omega; rintro e w' ⟨rfl, rfl⟩) | (refine (calls_out (isFull_any _ _) ?_).mono ?_; omega; rintro e w' ⟨rfl, rfl⟩) | (refine (isFull_any _ _).mono ?_; rintro e w' ⟨rfl, rfl⟩)))
    refine (Age_no a b (by omega) _).mono ?_
    rintro e w2 ⟨rfl, hb2⟩
    have hbw2 := Lib.hid (below_step hbw.out hb2)
    clear hb2
    go_wp2_with (first | (go_at_call 78; first | (refine (calls_in (within_any _ _ _ _) ?_ ?_).mono ?_; omega; omega; rintro e w' ⟨rfl, rfl⟩) | (refine (calls_out (within_any _ _ _ _) ?_).mono ?_; omega; rintro e w' ⟨rfl, rfl⟩) | (refine (within_any _ _ _ _).mono ?_; rintro e w' ⟨rfl, rfl⟩)) | (go_at_call 29; first | (refine (calls_in (Within_any _ _ _ _) ?_ ?_).mono ?_; omega; omega; rintro e w' ⟨rfl, rfl⟩) | (refine (calls_out (Within_any _ _ _ _) ?_).mono ?_; omega; rintro e w' ⟨rfl, rfl⟩) | (refine (Within_any _ _ _ _).mono ?_; rintro e w' ⟨rfl, rfl⟩)) | (go_at_call 75; first | (refine (calls_in (isDay_any _ _) ?_ ?_).mono ?_; omega; omega; rintro e w' ⟨rfl, rfl⟩) | (refine (calls_out (isDay_any _ _) ?_).mono ?_; omega; rintro e w' ⟨rfl, rfl⟩) | (refine (isDay_any _ _).mono ?_; rintro e w' ⟨rfl, rfl⟩)) | (go_at_call 32; first | (refine (calls_in (IsDay_any _ _) ?_ ?_).mono ?_; omega; omega; rintro e w' ⟨rfl, rfl⟩) | (refine (calls_out (IsDay_any _ _) ?_).mono ?_; omega; rintro e w' ⟨rfl, rfl⟩) | (refine (IsDay_any _ _).mono ?_; rintro e w' ⟨rfl, rfl⟩)) | (go_at_call 46; first | (refine (calls_in (IsYear_any _ _) ?_ ?_).mono ?_; omega; omega; rintro e w' ⟨rfl, rfl⟩) | (refine (calls_out (IsYear_any _ _) ?_).mono ?_; omega; rintro e w' ⟨rfl, rfl⟩) | (refine (IsYear_any _ _).mono ?_; rintro e w' ⟨rfl, rfl⟩)) | (go_at_call 25; first | (refine (calls_in (IsFull_any _ _) ?_ ?_).mono ?_; omega; omega; rintro e w' ⟨rfl, rfl⟩) | (refine (calls_out (IsFull_any _ _) ?_).mono ?_; omega; rintro e w' ⟨rfl, rfl⟩) | (refine (IsFull_any _ _).mono ?_; rintro e w' ⟨rfl, rfl⟩)) | (go_at_call 69; first | (refine (calls_in (isFull_any _ _) ?_ ?_).mono ?_; omega; omega; rintro e w' ⟨rfl, rfl⟩) | (refine (calls_out (isFull_any _ _) ?_).mono ?_; omega; rintro e w' ⟨rfl, rfl⟩) | (refine (isFull_any _ _).mono ?_; rintro e w' ⟨rfl, rfl⟩)))
    go_ret
    exact ⟨rfl, below_step hbw2.out (below_alloc _ _)⟩
end Go.Proofs.YtoigamkldccnkaaDoor
