/- The walk of the statement RuleEaster. -/
import Derived.Test.YtoigamkldccnkaaDoorAwake
namespace Go.Proofs.YtoigamkldccnkaaDoor
open Go Go.RowKit
theorem easter_all : ∀ k : Nat, k < 547 → (0 ≤ Cal.easter (1800 + k) ∧ Cal.easter (1800 + k) ≤ 200000 ∧ (Cal.easter (1800 + k) + 2) % 7 = 6 ∧ Cal.dY (Cal.easter (1800 + k)) = 1800 + k ∧
    (Cal.dM (Cal.easter (1800 + k)) = 3 ∧ 22 ≤ Cal.dD (Cal.easter (1800 + k)) ∨ Cal.dM (Cal.easter (1800 + k)) = 4 ∧ Cal.dD (Cal.easter (1800 + k)) ≤ 25)) := by decide +kernel
set_option maxHeartbeats 1000000 in
theorem RuleEaster_any (y : Int) (w : World) (hT : Tab w) : Calls Tryd.prog 6 #[.int .i64 y] w fun e w' => e = .returned (.bool true) ∧ Below w.heap.size w w' := by
  have hT' := Lib.hid (fun w1 (h : Below w.heap.size w w1) => hT.below h)
  have ha := Lib.hid (awake_any w hT)
  clear hT
  by_cases h : 1800 ≤ y ∧ y ≤ 2346
  · obtain ⟨y0, y1⟩ := h
    obtain ⟨k, hk⟩ := Int.eq_ofNat_of_zero_le (by omega : 0 ≤ y - 1800)
    obtain ⟨e0, e1, e2, e3, e4⟩ := easter_all k (by omega)
    rw [show (1800 : Int) + (k : Nat) = y by omega] at e0 e1 e2 e3 e4
    have hE := Lib.hid (fun w1 h => Easter_any y y0 y1 w1 (hT'.out w1 h))
    have hR := Lib.hid (fun w1 => easterR_any y y0 (by omega) w1)
    have hW := fun w1 => Weekday_any (Cal.easter y) e0 e1 w1
    have hD := fun w1 h => DateOfX_any (Cal.easter y) e0 e1 w1 (hT'.out w1 h)
    rw [e2] at hW
    rw [e3] at hD
    have hW := Lib.hid hW
    generalize Cal.dD (Cal.easter y) = D at hD e4
    generalize Cal.easter y = E at *
    clear hT' e2 e3 hk k
    rcases e4 with ⟨e4, e5⟩ | ⟨e4, e5⟩
    all_goals
      rw [e4] at hD
      have hD := Lib.hid hD
      clear e4
      go_enter Tryd.func6, Tryd.ntmps6
      go_wp2_with (first | (go_at_call 15; refine (ha.out).mono ?_; rintro e w1 ⟨rfl, hb1⟩) | (go_at_call 35; refine (hE.out _ hb1).mono ?_; rintro e w' ⟨rfl, rfl⟩) | (go_at_call 36; refine (hW.out _).mono ?_; rintro e w' ⟨rfl, rfl⟩) | (go_at_call 37; refine (hD.out _ hb1).mono ?_; rintro e w2 ⟨rfl, hb2⟩) | (go_at_call 38; refine (hR.out _).mono ?_; rintro e w' ⟨rfl, rfl⟩) | (first | (go_at_call 78; first | (refine (calls_in (within_any _ _ _ _) ?_ ?_).mono ?_; omega; omega; rintro e w' ⟨rfl, rfl⟩) | (refine (calls_out (within_any _ _ _ _) ?_).mono ?_; omega; rintro e w' ⟨rfl, rfl⟩) | (refine (within_any _ _ _ _).mono ?_; rintro e w' ⟨rfl, rfl⟩)) | (go_at_call 29; first | (refine (calls_in (Within_any _ _ _ _) ?_ ?_).mono ?_; omega; omega; rintro e w' ⟨rfl, rfl⟩) | (refine (calls_out (Within_any _ _ _ _) ?_).mono ?_; omega; rintro e w' ⟨rfl, rfl⟩) | (refine (Within_any _ _ _ _).mono ?_; rintro e w' ⟨rfl, rfl⟩)) | (go_at_call 75; first | (refine (calls_in (isDay_any _ _) ?_ ?_).mono ?_; omega; omega; rintro e w' ⟨rfl, rfl⟩) | (refine (calls_out (isDay_any _ _) ?_).mono ?_; omega; rintro e w' ⟨rfl, rfl⟩) | (refine (isDay_any _ _).mono ?_; rintro e w' ⟨rfl, rfl⟩)) | (go_at_call 32; first | (refine (calls_in (IsDay_any _ _) ?_ ?_).mono ?_; omega; omega; rintro e w' ⟨rfl, rfl⟩) | (refine (calls_out (IsDay_any _ _) ?_).mono ?_; omega; rintro e w' ⟨rfl, rfl⟩) | (refine (IsDay_any _ _).mono ?_; rintro e w' ⟨rfl, rfl⟩)) | (go_at_call 46; first | (refine (calls_in (IsYear_any _ _) ?_ ?_).mono ?_; omega; omega; rintro e w' ⟨rfl, rfl⟩) | (refine (calls_out (IsYear_any _ _) ?_).mono ?_; omega; rintro e w' ⟨rfl, rfl⟩) | (refine (IsYear_any _ _).mono ?_; rintro e w' ⟨rfl, rfl⟩)) | (go_at_call 25; first | (refine (calls_in (IsFull_any _ _) ?_ ?_).mono ?_; omega; omega; rintro e w' ⟨rfl, rfl⟩) | (refine (calls_out (IsFull_any _ _) ?_).mono ?_; omega; rintro e w' ⟨rfl, rfl⟩) | (refine (IsFull_any _ _).mono ?_; rintro e w' ⟨rfl, rfl⟩)) | (go_at_call 69; first | (refine (calls_in (isFull_any _ _) ?_ ?_).mono ?_; omega; omega; rintro e w' ⟨rfl, rfl⟩) | (refine (calls_out (isFull_any _ _) ?_).mono ?_; omega; rintro e w' ⟨rfl, rfl⟩) | (refine (isFull_any _ _).mono ?_; rintro e w' ⟨rfl, rfl⟩))))
      go_ret
      exact ⟨rfl, by have hbw := below_step hb1 hb2; have hbs := hbw.size; (repeat (first | assumption | exact Below.refl _ _ | exact below_alloc _ _ | refine below_drewN ?_ _ | refine Below.drew ?_ | (refine Below.setCell ?_ ?_ _; rotate_left; focus (first | omega | (simp; done) | (simp; omega))) | (refine Below.alloc ?_ ?_ _; rotate_left; focus (first | omega | (simp; done) | (simp; omega)))))⟩
  · have y0 : y < 1800 ∨ 2346 < y := by omega
    have hE := Lib.hid (fun w1 => Easter_no y y0 w1)
    clear h
    rcases y0 with y0 | y0
    all_goals
      go_enter Tryd.func6, Tryd.ntmps6
      go_wp2_with (first | (go_at_call 15; refine (ha.out).mono ?_; rintro e w1 ⟨rfl, hb1⟩) | (go_at_call 35; refine (hE.out _).mono ?_; rintro e w' ⟨rfl, rfl⟩) | (first | (go_at_call 78; first | (refine (calls_in (within_any _ _ _ _) ?_ ?_).mono ?_; omega; omega; rintro e w' ⟨rfl, rfl⟩) | (refine (calls_out (within_any _ _ _ _) ?_).mono ?_; omega; rintro e w' ⟨rfl, rfl⟩) | (refine (within_any _ _ _ _).mono ?_; rintro e w' ⟨rfl, rfl⟩)) | (go_at_call 29; first | (refine (calls_in (Within_any _ _ _ _) ?_ ?_).mono ?_; omega; omega; rintro e w' ⟨rfl, rfl⟩) | (refine (calls_out (Within_any _ _ _ _) ?_).mono ?_; omega; rintro e w' ⟨rfl, rfl⟩) | (refine (Within_any _ _ _ _).mono ?_; rintro e w' ⟨rfl, rfl⟩)) | (go_at_call 75; first | (refine (calls_in (isDay_any _ _) ?_ ?_).mono ?_; omega; omega; rintro e w' ⟨rfl, rfl⟩) | (refine (calls_out (isDay_any _ _) ?_).mono ?_; omega; rintro e w' ⟨rfl, rfl⟩) | (refine (isDay_any _ _).mono ?_; rintro e w' ⟨rfl, rfl⟩)) | (go_at_call 32; first | (refine (calls_in (IsDay_any _ _) ?_ ?_).mono ?_; omega; omega; rintro e w' ⟨rfl, rfl⟩) | (refine (calls_out (IsDay_any _ _) ?_).mono ?_; omega; rintro e w' ⟨rfl, rfl⟩) | (refine (IsDay_any _ _).mono ?_; rintro e w' ⟨rfl, rfl⟩)) | (go_at_call 46; first | (refine (calls_in (IsYear_any _ _) ?_ ?_).mono ?_; omega; omega; rintro e w' ⟨rfl, rfl⟩) | (refine (calls_out (IsYear_any _ _) ?_).mono ?_; omega; rintro e w' ⟨rfl, rfl⟩) | (refine (IsYear_any _ _).mono ?_; rintro e w' ⟨rfl, rfl⟩)) | (go_at_call 25; first | (refine (calls_in (IsFull_any _ _) ?_ ?_).mono ?_; omega; omega; rintro e w' ⟨rfl, rfl⟩) | (refine (calls_out (IsFull_any _ _) ?_).mono ?_; omega; rintro e w' ⟨rfl, rfl⟩) | (refine (IsFull_any _ _).mono ?_; rintro e w' ⟨rfl, rfl⟩)) | (go_at_call 69; first | (refine (calls_in (isFull_any _ _) ?_ ?_).mono ?_; omega; omega; rintro e w' ⟨rfl, rfl⟩) | (refine (calls_out (isFull_any _ _) ?_).mono ?_; omega; rintro e w' ⟨rfl, rfl⟩) | (refine (isFull_any _ _).mono ?_; rintro e w' ⟨rfl, rfl⟩))))
      go_ret
      exact ⟨rfl, hb1⟩
end Go.Proofs.YtoigamkldccnkaaDoor
