/- The walks of the reference's MonthDays, leaps, First, DateOf. -/
import Derived.Test.YtoigamkldccnkaaDoorW2
namespace Go.Proofs.YtoigamkldccnkaaDoor
open Go Go.RowKit

theorem refTab_1 (w : World) : (Instr.index 110 (.agg #[.int .i64 0, .int .i64 31, .int .i64 28, .int .i64 31, .int .i64 30, .int .i64 31, .int .i64 30, .int .i64 31, .int .i64 31, .int .i64 30, .int .i64 31, .int .i64 30, .int .i64 31]) (.int .i64 1)).run Tryd.prog w = .ok (.int .i64 31) w := by kernel_rfl
theorem refTab_2 (w : World) : (Instr.index 110 (.agg #[.int .i64 0, .int .i64 31, .int .i64 28, .int .i64 31, .int .i64 30, .int .i64 31, .int .i64 30, .int .i64 31, .int .i64 31, .int .i64 30, .int .i64 31, .int .i64 30, .int .i64 31]) (.int .i64 2)).run Tryd.prog w = .ok (.int .i64 28) w := by kernel_rfl
theorem refTab_3 (w : World) : (Instr.index 110 (.agg #[.int .i64 0, .int .i64 31, .int .i64 28, .int .i64 31, .int .i64 30, .int .i64 31, .int .i64 30, .int .i64 31, .int .i64 31, .int .i64 30, .int .i64 31, .int .i64 30, .int .i64 31]) (.int .i64 3)).run Tryd.prog w = .ok (.int .i64 31) w := by kernel_rfl
theorem refTab_4 (w : World) : (Instr.index 110 (.agg #[.int .i64 0, .int .i64 31, .int .i64 28, .int .i64 31, .int .i64 30, .int .i64 31, .int .i64 30, .int .i64 31, .int .i64 31, .int .i64 30, .int .i64 31, .int .i64 30, .int .i64 31]) (.int .i64 4)).run Tryd.prog w = .ok (.int .i64 30) w := by kernel_rfl
theorem refTab_5 (w : World) : (Instr.index 110 (.agg #[.int .i64 0, .int .i64 31, .int .i64 28, .int .i64 31, .int .i64 30, .int .i64 31, .int .i64 30, .int .i64 31, .int .i64 31, .int .i64 30, .int .i64 31, .int .i64 30, .int .i64 31]) (.int .i64 5)).run Tryd.prog w = .ok (.int .i64 31) w := by kernel_rfl
theorem refTab_6 (w : World) : (Instr.index 110 (.agg #[.int .i64 0, .int .i64 31, .int .i64 28, .int .i64 31, .int .i64 30, .int .i64 31, .int .i64 30, .int .i64 31, .int .i64 31, .int .i64 30, .int .i64 31, .int .i64 30, .int .i64 31]) (.int .i64 6)).run Tryd.prog w = .ok (.int .i64 30) w := by kernel_rfl
theorem refTab_7 (w : World) : (Instr.index 110 (.agg #[.int .i64 0, .int .i64 31, .int .i64 28, .int .i64 31, .int .i64 30, .int .i64 31, .int .i64 30, .int .i64 31, .int .i64 31, .int .i64 30, .int .i64 31, .int .i64 30, .int .i64 31]) (.int .i64 7)).run Tryd.prog w = .ok (.int .i64 31) w := by kernel_rfl
theorem refTab_8 (w : World) : (Instr.index 110 (.agg #[.int .i64 0, .int .i64 31, .int .i64 28, .int .i64 31, .int .i64 30, .int .i64 31, .int .i64 30, .int .i64 31, .int .i64 31, .int .i64 30, .int .i64 31, .int .i64 30, .int .i64 31]) (.int .i64 8)).run Tryd.prog w = .ok (.int .i64 31) w := by kernel_rfl
theorem refTab_9 (w : World) : (Instr.index 110 (.agg #[.int .i64 0, .int .i64 31, .int .i64 28, .int .i64 31, .int .i64 30, .int .i64 31, .int .i64 30, .int .i64 31, .int .i64 31, .int .i64 30, .int .i64 31, .int .i64 30, .int .i64 31]) (.int .i64 9)).run Tryd.prog w = .ok (.int .i64 30) w := by kernel_rfl
theorem refTab_10 (w : World) : (Instr.index 110 (.agg #[.int .i64 0, .int .i64 31, .int .i64 28, .int .i64 31, .int .i64 30, .int .i64 31, .int .i64 30, .int .i64 31, .int .i64 31, .int .i64 30, .int .i64 31, .int .i64 30, .int .i64 31]) (.int .i64 10)).run Tryd.prog w = .ok (.int .i64 31) w := by kernel_rfl
theorem refTab_11 (w : World) : (Instr.index 110 (.agg #[.int .i64 0, .int .i64 31, .int .i64 28, .int .i64 31, .int .i64 30, .int .i64 31, .int .i64 30, .int .i64 31, .int .i64 31, .int .i64 30, .int .i64 31, .int .i64 30, .int .i64 31]) (.int .i64 11)).run Tryd.prog w = .ok (.int .i64 30) w := by kernel_rfl
theorem refTab_12 (w : World) : (Instr.index 110 (.agg #[.int .i64 0, .int .i64 31, .int .i64 28, .int .i64 31, .int .i64 30, .int .i64 31, .int .i64 30, .int .i64 31, .int .i64 31, .int .i64 30, .int .i64 31, .int .i64 30, .int .i64 31]) (.int .i64 12)).run Tryd.prog w = .ok (.int .i64 31) w := by kernel_rfl
set_option maxRecDepth 100000 in
set_option maxHeartbeats 2000000 in
theorem MonthDays_any (y m : Int) (h0 : 0 ≤ y) (m1 : 1 ≤ m) (m2 : m ≤ 12) (w : World) :
    Calls Tryd.prog 47 #[.int .i64 y, .int .i64 m] w fun e w' => e = .returned (.int .i64 (Cal.mlen y m)) ∧ w = w' := by
  have h : m = 1 ∨ m = 2 ∨ m = 3 ∨ m = 4 ∨ m = 5 ∨ m = 6 ∨ m = 7 ∨ m = 8 ∨ m = 9 ∨ m = 10 ∨ m = 11 ∨ m = 12 := by omega
  clear m1 m2
  rcases h with rfl | rfl | rfl | rfl | rfl | rfl | rfl | rfl | rfl | rfl | rfl | rfl
  case inr.inl =>
    have i := refTab_2 w
    cases hl : Cal.leapB y
    all_goals
      go_enter Tryd.func47, Tryd.ntmps47
      go_wp2_with (go_at_call 89; refine (leap_any _ (by omega) _).mono ?_; rintro e w' ⟨rfl, rfl⟩)
      go_ret
      exact ⟨by simp [Cal.mlen, Cal.lp, hl], rfl⟩
  case inl =>
    have i := refTab_1 w
    go_enter Tryd.func47, Tryd.ntmps47
    go_wp2_with fail
    go_ret
    exact ⟨by simp [Cal.mlen], rfl⟩
  case inr.inr.inl =>
    have i := refTab_3 w
    go_enter Tryd.func47, Tryd.ntmps47
    go_wp2_with fail
    go_ret
    exact ⟨by simp [Cal.mlen], rfl⟩
  case inr.inr.inr.inl =>
    have i := refTab_4 w
    go_enter Tryd.func47, Tryd.ntmps47
    go_wp2_with fail
    go_ret
    exact ⟨by simp [Cal.mlen], rfl⟩
  case inr.inr.inr.inr.inl =>
    have i := refTab_5 w
    go_enter Tryd.func47, Tryd.ntmps47
    go_wp2_with fail
    go_ret
    exact ⟨by simp [Cal.mlen], rfl⟩
  case inr.inr.inr.inr.inr.inl =>
    have i := refTab_6 w
    go_enter Tryd.func47, Tryd.ntmps47
    go_wp2_with fail
    go_ret
    exact ⟨by simp [Cal.mlen], rfl⟩
  case inr.inr.inr.inr.inr.inr.inl =>
    have i := refTab_7 w
    go_enter Tryd.func47, Tryd.ntmps47
    go_wp2_with fail
    go_ret
    exact ⟨by simp [Cal.mlen], rfl⟩
  case inr.inr.inr.inr.inr.inr.inr.inl =>
    have i := refTab_8 w
    go_enter Tryd.func47, Tryd.ntmps47
    go_wp2_with fail
    go_ret
    exact ⟨by simp [Cal.mlen], rfl⟩
  case inr.inr.inr.inr.inr.inr.inr.inr.inl =>
    have i := refTab_9 w
    go_enter Tryd.func47, Tryd.ntmps47
    go_wp2_with fail
    go_ret
    exact ⟨by simp [Cal.mlen], rfl⟩
  case inr.inr.inr.inr.inr.inr.inr.inr.inr.inl =>
    have i := refTab_10 w
    go_enter Tryd.func47, Tryd.ntmps47
    go_wp2_with fail
    go_ret
    exact ⟨by simp [Cal.mlen], rfl⟩
  case inr.inr.inr.inr.inr.inr.inr.inr.inr.inr.inl =>
    have i := refTab_11 w
    go_enter Tryd.func47, Tryd.ntmps47
    go_wp2_with fail
    go_ret
    exact ⟨by simp [Cal.mlen], rfl⟩
  case inr.inr.inr.inr.inr.inr.inr.inr.inr.inr.inr =>
    have i := refTab_12 w
    go_enter Tryd.func47, Tryd.ntmps47
    go_wp2_with fail
    go_ret
    exact ⟨by simp [Cal.mlen], rfl⟩

theorem leaps_any (y : Int) (h0 : 0 ≤ y) (h1 : y ≤ 100000) (w : World) :
    Calls Tryd.prog 103 #[.int .i64 y] w fun e w' => e = .returned (.int .i64 (y / 4 - y / 100 + y / 400)) ∧ w = w' := by
  go_enter Tryd.func103, Tryd.ntmps103
  go_wp2
  go_ret
  exact ⟨rfl, rfl⟩
theorem First_any (y m : Int) (y0 : 1800 ≤ y) (y1 : y ≤ 3000) (m1 : 1 ≤ m) (m2 : m ≤ 12) (w : World) :
    Calls Tryd.prog 73 #[.int .i64 y, .int .i64 m] w fun e w' => e = .returned (.int .i64 (Cal.first y m)) ∧ w = w' := by
  have hb := Cal.beg_mono y0
  have hb2 := Cal.beg_mono y1
  rw [Cal.beg_1800] at hb
  have e3 : Cal.beg 3000 = 438291 := by decide
  rw [e3] at hb2
  clear e3
  have hu : Hid (365 * (y - 1800) + ((y - 1) / 4 - (y - 1) / 100 + (y - 1) / 400) - 436 = Cal.beg y) := by show _ = _; unfold Cal.beg; omega
  go_enter Tryd.func73, Tryd.ntmps73
  go_wp2_with (go_at_call 103; refine (leaps_any _ (by omega) (by omega) _).mono ?_; rintro e w' ⟨rfl, rfl⟩)
  go_loop [5, 6] (fun n i => ∃ k : Int, 1 ≤ k ∧ k ≤ m ∧ i = .int .i64 k ∧ n = .int .i64 (Cal.beg y + Cal.cum y k)) (fun _ i => (m - intOf i).toNat)
  case atStart => exact ⟨1, by omega, by omega, rfl, by rw [Cal.cum_1]; simp; rw [← hu.out]; try omega⟩
  case round =>
    obtain ⟨k, k1, k2, rfl, rfl⟩ := hrel
    have cb := Cal.cum_bd y k
    by_cases hlt : k < m
    · have cs := Lib.hid (Cal.cum_succ y k (by omega) (by omega))
      have mb := Cal.mlen_bd y k
      go_wp2_with (go_at_call 47; refine (MonthDays_any _ _ (by omega) (by omega) (by omega) _).mono ?_; rintro e w' ⟨rfl, rfl⟩)
      go_round
      case rel => exact ⟨k + 1, by omega, by omega, rfl, by rw [cs.out]; go_num⟩
      case measure => simp [intOf]; omega
    · obtain rfl : k = m := by omega
      go_wp2
      go_ret
      exact ⟨rfl, rfl⟩
set_option maxHeartbeats 400000 in
theorem DateOf_any (day : Int) (y0 : 0 ≤ day) (y1 : day ≤ 200000) (w : World) :
    Calls Tryd.prog 48 #[.int .i64 day] w fun e w' => e = .returned (.agg #[.int .i64 (Cal.dY day), .int .i64 (Cal.dM day), .int .i64 (Cal.dD day)]) ∧ Below w.heap.size w w' := by
  have g0 := Cal.beg_guess day y0
  have g1 := Cal.year_lo day y0
  go_enter Tryd.func48, Tryd.ntmps48
  go_wp2
  go_loopg [] 600 (fun k wr => ∃ y : Int, 1800 ≤ y ∧ y + k ≤ 3000 ∧ 2348 ≤ y + k ∧ Cal.beg y ≤ day ∧ wr = (w.alloc (.cells #[.int .i64 0, .int .i64 0, .int .i64 0] 55)).alloc (.cells #[.int .i64 y, .int .i64 1, .int .i64 0] 55))
  case atStart => exact ⟨_, g1, by omega, by omega, g0, rfl⟩
  case round =>
    obtain ⟨y, hy, hk, hk2, hb, rfl⟩ := hrel
    clear g0 g1
    have hyh := Cal.year_hi y day hb y1
    have hb0 := Cal.beg_mono hy
    rw [Cal.beg_1800] at hb0
    have hbs := Cal.beg_lt (a := y) (b := y + 1) (by omega)
    by_cases hlt : Cal.beg (y + 1) ≤ day
    · have hyh2 := Cal.year_hi (y + 1) day hlt y1
      have hf : Cal.first (y + 1) 1 ≤ day := by rw [Cal.first_1]; exact hlt
      go_wp2_with (go_at_call 73; refine (First_any _ _ (by omega) (by omega) (by omega) (by omega) _).mono ?_; rintro e w' ⟨rfl, rfl⟩)
      go_roundg (gk - 1)
      case measure => omega
      case rel => exact ⟨y + 1, by omega, by omega, by omega, hlt, rfl⟩
    · have hf : ¬ Cal.first (y + 1) 1 ≤ day := by rw [Cal.first_1]; exact hlt
      go_wp2_with (go_at_call 73; refine (First_any _ _ (by omega) (by omega) (by omega) (by omega) _).mono ?_; rintro e w' ⟨rfl, rfl⟩)
      have hb1 : day < Cal.beg (y + 1) := by omega
      clear hf hlt
      have hf1 : Cal.first y 1 ≤ day := by rw [Cal.first_1]; exact hb
      go_loopg [] 12 (fun k wr => ∃ m : Int, 1 ≤ m ∧ m ≤ 12 ∧ m + k = 13 ∧ Cal.first y m ≤ day ∧ wr = (w.alloc (.cells #[.int .i64 0, .int .i64 0, .int .i64 0] 55)).alloc (.cells #[.int .i64 y, .int .i64 m, .int .i64 0] 55))
      case atStart => exact ⟨1, by omega, by omega, by omega, hf1, rfl⟩
      case round =>
        obtain ⟨m, m1, m2, mk, hr, rfl⟩ := hrel
        clear hf1
        have mk2 := Lib.hid mk
        clear mk
        by_cases hm : m < 12
        · by_cases hge : Cal.first y (m + 1) ≤ day
          · go_wp2_with (go_at_call 73; refine (First_any _ _ (by omega) (by omega) (by omega) (by omega) _).mono ?_; rintro e w' ⟨rfl, rfl⟩)
            go_roundg (gk - 1)
            case measure => have := mk2.out; omega
            case rel => exact ⟨m + 1, by omega, by omega, by have := mk2.out; omega, hge, rfl⟩
          · obtain ⟨ey, em, ed⟩ := Cal.date_of' y m day y0 y1 m1 m2 hr (by omega)
            have hfin := Lib.hid (And.intro ey (And.intro em ed))
            clear ey em ed
            have hfl := Cal.first_bd y m hy (by omega)
            go_wp2_with (go_at_call 73; refine (First_any _ _ (by omega) (by omega) (by omega) (by omega) _).mono ?_; rintro e w' ⟨rfl, rfl⟩)
            refine bodyPost_ret (v := .agg #[.int .i64 y, .int .i64 m, .int .i64 (day - Cal.first y m + 1)]) (by simp [results, Tryd.results48, go_sem]) rfl ⟨?_, ?_⟩
            · obtain ⟨ey, em, ed⟩ := hfin.out
              rw [ey, em] at ed ⊢; rw [ed]
            · exact ((Below.refl _ _).alloc (Nat.le_refl _) _).alloc (by simp) _
        · obtain ⟨ey, em, ed⟩ := Cal.date_of' y m day y0 y1 m1 m2 hr (by
            obtain rfl : m = 12 := by omega
            rw [show (12 : Int) + 1 = 13 from rfl, Cal.first_13]; exact hb1)
          have hfin := Lib.hid (And.intro ey (And.intro em ed))
          clear ey em ed
          have hfl := Cal.first_bd y m hy (by omega)
          go_wp2_with (go_at_call 73; refine (First_any _ _ (by omega) (by omega) (by omega) (by omega) _).mono ?_; rintro e w' ⟨rfl, rfl⟩)
          refine bodyPost_ret (v := .agg #[.int .i64 y, .int .i64 m, .int .i64 (day - Cal.first y m + 1)]) (by simp [results, Tryd.results48, go_sem]) rfl ⟨?_, ?_⟩
          · obtain ⟨ey, em, ed⟩ := hfin.out
            rw [ey, em] at ed ⊢; rw [ed]
          · exact ((Below.refl _ _).alloc (Nat.le_refl _) _).alloc (by simp) _
end Go.Proofs.YtoigamkldccnkaaDoor
