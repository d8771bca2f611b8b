/- The walks of the smallest functions of rule and of its reference: numbers alone. -/
import Derived.Test.YtoigamkldccnkaaDoorKit
import Derived.Test.YtoigamkldccnkaaDoorCal
namespace Go.Proofs.YtoigamkldccnkaaDoor
open Go Go.RowKit

theorem within_any (n lo hi : Int) (w : World) :
    Calls Tryd.prog 78 #[.int .i64 n, .int .i64 lo, .int .i64 hi] w fun e w' => e = .returned (.bool (decide (lo ≤ n) && decide (n ≤ hi))) ∧ w = w' := by
  by_cases h1 : lo ≤ n
  · by_cases h2 : n ≤ hi
    all_goals
      go_enter Tryd.func78, Tryd.ntmps78
      go_wp2
      go_ret
      exact ⟨by simp; omega, rfl⟩
  · go_enter Tryd.func78, Tryd.ntmps78
    go_wp2
    go_ret
    exact ⟨by simp; omega, rfl⟩
theorem Within_any (n lo hi : Int) (w : World) :
    Calls Tryd.prog 29 #[.int .i64 n, .int .i64 lo, .int .i64 hi] w fun e w' => e = .returned (.bool (decide (lo ≤ n) && decide (n ≤ hi))) ∧ w = w' := by
  by_cases h1 : lo ≤ n
  · by_cases h2 : n ≤ hi
    all_goals
      go_enter Tryd.func29, Tryd.ntmps29
      go_wp2
      go_ret
      exact ⟨by simp; omega, rfl⟩
  · go_enter Tryd.func29, Tryd.ntmps29
    go_wp2
    go_ret
    exact ⟨by simp; omega, rfl⟩
theorem isDay_any (n : Int) (w : World) :
    Calls Tryd.prog 75 #[.int .i64 n] w fun e w' => e = .returned (.bool (decide (0 ≤ n) && decide (n ≤ 200000))) ∧ w = w' := by
  go_enter Tryd.func75, Tryd.ntmps75
  go_wp2_with (go_at_call 78; refine (within_any _ _ _ _).mono ?_; rintro e w' ⟨rfl, rfl⟩)
  go_ret
  exact ⟨rfl, rfl⟩
theorem isLeap_any (y : Int) (h0 : 0 ≤ y) (w : World) :
    Calls Tryd.prog 108 #[.int .i64 y] w fun e w' => e = .returned (.bool (Cal.leapB y)) ∧ w = w' := by
  by_cases h1 : y % 4 = 0
  · by_cases h2 : y % 100 = 0
    · by_cases h3 : y % 400 = 0
      all_goals
        go_enter Tryd.func108, Tryd.ntmps108
        go_wp2
        go_ret
        exact ⟨by simp [Cal.leapB, h1, h2, h3], rfl⟩
    · go_enter Tryd.func108, Tryd.ntmps108
      go_wp2
      go_ret
      exact ⟨by simp [Cal.leapB, h1, h2], rfl⟩
  · go_enter Tryd.func108, Tryd.ntmps108
    go_wp2
    go_ret
    exact ⟨by simp [Cal.leapB, h1], rfl⟩
theorem leap_any (y : Int) (h0 : 0 ≤ y) (w : World) :
    Calls Tryd.prog 89 #[.int .i64 y] w fun e w' => e = .returned (.bool (Cal.leapB y)) ∧ w = w' := by
  by_cases h1 : y % 4 = 0
  · by_cases h2 : y % 100 = 0
    · by_cases h3 : y % 400 = 0
      all_goals
        go_enter Tryd.func89, Tryd.ntmps89
        go_wp2
        go_ret
        exact ⟨by simp [Cal.leapB, h1, h2, h3], rfl⟩
    · go_enter Tryd.func89, Tryd.ntmps89
      go_wp2
      go_ret
      exact ⟨by simp [Cal.leapB, h1, h2], rfl⟩
  · by_cases h3 : y % 400 = 0
    · omega
    · go_enter Tryd.func89, Tryd.ntmps89
      go_wp2
      go_ret
      exact ⟨by simp [Cal.leapB, h1, h3], rfl⟩
theorem begin_any (y : Int) (w : World) (h0 : 1 ≤ y) (h1 : y ≤ 100000) :
    Calls Tryd.prog 106 #[.int .i64 y] w fun e w' => e = .returned (.int .i64 (Cal.beg y)) ∧ w = w' := by
  go_enter Tryd.func106, Tryd.ntmps106
  go_wp2
  go_ret
  exact ⟨rfl, rfl⟩
theorem length_any (y m : Int) (h0 : 0 ≤ y) (m1 : 1 ≤ m) (m2 : m ≤ 12) (w : World) (hT : Tab w) :
    Calls Tryd.prog 87 #[.int .i64 y, .int .i64 m] w fun e w' => e = .returned (.int .i64 (Cal.mlen y m)) ∧ w = w' := by
  have h : m = 1 ∨ m = 2 ∨ m = 3 ∨ m = 4 ∨ m = 5 ∨ m = 6 ∨ m = 7 ∨ m = 8 ∨ m = 9 ∨ m = 10 ∨ m = 11 ∨ m = 12 := by omega
  have hc := hT.cell
  have c0 := hc 0 (by decide); have c1 := hc 1 (by decide); have c2 := hc 2 (by decide); have c3 := hc 3 (by decide)
  have c4 := hc 4 (by decide); have c5 := hc 5 (by decide); have c6 := hc 6 (by decide); have c7 := hc 7 (by decide)
  have c8 := hc 8 (by decide); have c9 := hc 9 (by decide); have c10 := hc 10 (by decide); have c11 := hc 11 (by decide)
  simp only [lenTab, List.getD_cons_zero, List.getD_cons_succ] at c0 c1 c2 c3 c4 c5 c6 c7 c8 c9 c10 c11
  clear hc hT m1 m2
  rcases h with rfl | rfl | rfl | rfl | rfl | rfl | rfl | rfl | rfl | rfl | rfl | rfl
  case inr.inl =>
    cases hl : Cal.leapB y
    all_goals
      go_enter Tryd.func87, Tryd.ntmps87
      go_wp2_with (go_at_call 108; refine (isLeap_any _ (by omega) _).mono ?_; rintro e w' ⟨rfl, rfl⟩)
      go_ret
      exact ⟨by simp [Cal.mlen, Cal.lp, hl], rfl⟩
  all_goals
    go_enter Tryd.func87, Tryd.ntmps87
    go_wp2_with fail
    go_ret
    exact ⟨by simp [Cal.mlen], rfl⟩
end Go.Proofs.YtoigamkldccnkaaDoor
