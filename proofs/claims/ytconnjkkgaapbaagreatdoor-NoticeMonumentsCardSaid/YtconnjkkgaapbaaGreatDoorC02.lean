/- Chapter 8 and what it rests on: definitions and walks, part 02. -/
import Derived.Test.YtconnjkkgaapbaaGreatDoorC01
namespace Go.Proofs.YtconnjkkgaapbaaGreatDoor
open Go Go.RowKit

theorem refTab_1 (w : World) : (Instr.index 169 (.agg #[.int .i64 0, .int .i64 31, .int .i64 28, .int .i64 31, .int .i64 30, .int .i64 31, .int .i64 30, .int .i64 31, .int .i64 31, .int .i64 30, .int .i64 31, .int .i64 30, .int .i64 31]) (.int .i64 1)).run Tryz.prog w = .ok (.int .i64 31) w := by kernel_rfl
theorem refTab_2 (w : World) : (Instr.index 169 (.agg #[.int .i64 0, .int .i64 31, .int .i64 28, .int .i64 31, .int .i64 30, .int .i64 31, .int .i64 30, .int .i64 31, .int .i64 31, .int .i64 30, .int .i64 31, .int .i64 30, .int .i64 31]) (.int .i64 2)).run Tryz.prog w = .ok (.int .i64 28) w := by kernel_rfl
theorem refTab_3 (w : World) : (Instr.index 169 (.agg #[.int .i64 0, .int .i64 31, .int .i64 28, .int .i64 31, .int .i64 30, .int .i64 31, .int .i64 30, .int .i64 31, .int .i64 31, .int .i64 30, .int .i64 31, .int .i64 30, .int .i64 31]) (.int .i64 3)).run Tryz.prog w = .ok (.int .i64 31) w := by kernel_rfl
theorem refTab_4 (w : World) : (Instr.index 169 (.agg #[.int .i64 0, .int .i64 31, .int .i64 28, .int .i64 31, .int .i64 30, .int .i64 31, .int .i64 30, .int .i64 31, .int .i64 31, .int .i64 30, .int .i64 31, .int .i64 30, .int .i64 31]) (.int .i64 4)).run Tryz.prog w = .ok (.int .i64 30) w := by kernel_rfl
theorem refTab_5 (w : World) : (Instr.index 169 (.agg #[.int .i64 0, .int .i64 31, .int .i64 28, .int .i64 31, .int .i64 30, .int .i64 31, .int .i64 30, .int .i64 31, .int .i64 31, .int .i64 30, .int .i64 31, .int .i64 30, .int .i64 31]) (.int .i64 5)).run Tryz.prog w = .ok (.int .i64 31) w := by kernel_rfl
theorem refTab_6 (w : World) : (Instr.index 169 (.agg #[.int .i64 0, .int .i64 31, .int .i64 28, .int .i64 31, .int .i64 30, .int .i64 31, .int .i64 30, .int .i64 31, .int .i64 31, .int .i64 30, .int .i64 31, .int .i64 30, .int .i64 31]) (.int .i64 6)).run Tryz.prog w = .ok (.int .i64 30) w := by kernel_rfl
theorem refTab_7 (w : World) : (Instr.index 169 (.agg #[.int .i64 0, .int .i64 31, .int .i64 28, .int .i64 31, .int .i64 30, .int .i64 31, .int .i64 30, .int .i64 31, .int .i64 31, .int .i64 30, .int .i64 31, .int .i64 30, .int .i64 31]) (.int .i64 7)).run Tryz.prog w = .ok (.int .i64 31) w := by kernel_rfl
theorem refTab_8 (w : World) : (Instr.index 169 (.agg #[.int .i64 0, .int .i64 31, .int .i64 28, .int .i64 31, .int .i64 30, .int .i64 31, .int .i64 30, .int .i64 31, .int .i64 31, .int .i64 30, .int .i64 31, .int .i64 30, .int .i64 31]) (.int .i64 8)).run Tryz.prog w = .ok (.int .i64 31) w := by kernel_rfl
theorem refTab_9 (w : World) : (Instr.index 169 (.agg #[.int .i64 0, .int .i64 31, .int .i64 28, .int .i64 31, .int .i64 30, .int .i64 31, .int .i64 30, .int .i64 31, .int .i64 31, .int .i64 30, .int .i64 31, .int .i64 30, .int .i64 31]) (.int .i64 9)).run Tryz.prog w = .ok (.int .i64 30) w := by kernel_rfl
theorem refTab_10 (w : World) : (Instr.index 169 (.agg #[.int .i64 0, .int .i64 31, .int .i64 28, .int .i64 31, .int .i64 30, .int .i64 31, .int .i64 30, .int .i64 31, .int .i64 31, .int .i64 30, .int .i64 31, .int .i64 30, .int .i64 31]) (.int .i64 10)).run Tryz.prog w = .ok (.int .i64 31) w := by kernel_rfl
theorem refTab_11 (w : World) : (Instr.index 169 (.agg #[.int .i64 0, .int .i64 31, .int .i64 28, .int .i64 31, .int .i64 30, .int .i64 31, .int .i64 30, .int .i64 31, .int .i64 31, .int .i64 30, .int .i64 31, .int .i64 30, .int .i64 31]) (.int .i64 11)).run Tryz.prog w = .ok (.int .i64 30) w := by kernel_rfl
theorem refTab_12 (w : World) : (Instr.index 169 (.agg #[.int .i64 0, .int .i64 31, .int .i64 28, .int .i64 31, .int .i64 30, .int .i64 31, .int .i64 30, .int .i64 31, .int .i64 31, .int .i64 30, .int .i64 31, .int .i64 30, .int .i64 31]) (.int .i64 12)).run Tryz.prog w = .ok (.int .i64 31) w := by kernel_rfl
set_option maxRecDepth 100000 in
set_option maxHeartbeats 2000000 in
theorem MonthDays_any (y m : Int) (h0 : 0 ≤ y) (m1 : 1 ≤ m) (m2 : m ≤ 12) (w : World) :
    Calls Tryz.prog 111 #[.int .i64 y, .int .i64 m] w fun e w' => e = .returned (.int .i64 (Cal.mlen y m)) ∧ w = w' := by
  have h : m = 1 ∨ m = 2 ∨ m = 3 ∨ m = 4 ∨ m = 5 ∨ m = 6 ∨ m = 7 ∨ m = 8 ∨ m = 9 ∨ m = 10 ∨ m = 11 ∨ m = 12 := by omega
  clear m1 m2
  rcases h with rfl | rfl | rfl | rfl | rfl | rfl | rfl | rfl | rfl | rfl | rfl | rfl
  case inr.inl =>
    have i := refTab_2 w
    cases hl : Cal.leapB y
    all_goals
      go_enter Tryz.func111, Tryz.ntmps111
      go_wp2_with (go_at_call 130; refine (leap_any _ (by omega) _).mono ?_; rintro e w' ⟨rfl, rfl⟩)
      go_ret
      exact ⟨by simp [Cal.mlen, Cal.lp, hl], rfl⟩
  case inl =>
    have i := refTab_1 w
    go_enter Tryz.func111, Tryz.ntmps111
    go_wp2_with fail
    go_ret
    exact ⟨by simp [Cal.mlen], rfl⟩
  case inr.inr.inl =>
    have i := refTab_3 w
    go_enter Tryz.func111, Tryz.ntmps111
    go_wp2_with fail
    go_ret
    exact ⟨by simp [Cal.mlen], rfl⟩
  case inr.inr.inr.inl =>
    have i := refTab_4 w
    go_enter Tryz.func111, Tryz.ntmps111
    go_wp2_with fail
    go_ret
    exact ⟨by simp [Cal.mlen], rfl⟩
  case inr.inr.inr.inr.inl =>
    have i := refTab_5 w
    go_enter Tryz.func111, Tryz.ntmps111
    go_wp2_with fail
    go_ret
    exact ⟨by simp [Cal.mlen], rfl⟩
  case inr.inr.inr.inr.inr.inl =>
    have i := refTab_6 w
    go_enter Tryz.func111, Tryz.ntmps111
    go_wp2_with fail
    go_ret
    exact ⟨by simp [Cal.mlen], rfl⟩
  case inr.inr.inr.inr.inr.inr.inl =>
    have i := refTab_7 w
    go_enter Tryz.func111, Tryz.ntmps111
    go_wp2_with fail
    go_ret
    exact ⟨by simp [Cal.mlen], rfl⟩
  case inr.inr.inr.inr.inr.inr.inr.inl =>
    have i := refTab_8 w
    go_enter Tryz.func111, Tryz.ntmps111
    go_wp2_with fail
    go_ret
    exact ⟨by simp [Cal.mlen], rfl⟩
  case inr.inr.inr.inr.inr.inr.inr.inr.inl =>
    have i := refTab_9 w
    go_enter Tryz.func111, Tryz.ntmps111
    go_wp2_with fail
    go_ret
    exact ⟨by simp [Cal.mlen], rfl⟩
  case inr.inr.inr.inr.inr.inr.inr.inr.inr.inl =>
    have i := refTab_10 w
    go_enter Tryz.func111, Tryz.ntmps111
    go_wp2_with fail
    go_ret
    exact ⟨by simp [Cal.mlen], rfl⟩
  case inr.inr.inr.inr.inr.inr.inr.inr.inr.inr.inl =>
    have i := refTab_11 w
    go_enter Tryz.func111, Tryz.ntmps111
    go_wp2_with fail
    go_ret
    exact ⟨by simp [Cal.mlen], rfl⟩
  case inr.inr.inr.inr.inr.inr.inr.inr.inr.inr.inr =>
    have i := refTab_12 w
    go_enter Tryz.func111, Tryz.ntmps111
    go_wp2_with fail
    go_ret
    exact ⟨by simp [Cal.mlen], rfl⟩

theorem leaps_any (y : Int) (h0 : 0 ≤ y) (h1 : y ≤ 100000) (w : World) :
    Calls Tryz.prog 129 #[.int .i64 y] w fun e w' => e = .returned (.int .i64 (y / 4 - y / 100 + y / 400)) ∧ w = w' := by
  go_enter Tryz.func129, Tryz.ntmps129
  go_wp2
  go_ret
  exact ⟨rfl, rfl⟩
theorem First_any (y m : Int) (y0 : 1800 ≤ y) (y1 : y ≤ 3000) (m1 : 1 ≤ m) (m2 : m ≤ 12) (w : World) :
    Calls Tryz.prog 110 #[.int .i64 y, .int .i64 m] w fun e w' => e = .returned (.int .i64 (Cal.first y m)) ∧ w = w' := by
  have hb := Cal.beg_mono y0
  have hb2 := Cal.beg_mono y1
  rw [Cal.beg_1800] at hb
  have e3 : Cal.beg 3000 = 438291 := by decide
  rw [e3] at hb2
  clear e3
  have hu : Hid (365 * (y - 1800) + ((y - 1) / 4 - (y - 1) / 100 + (y - 1) / 400) - 436 = Cal.beg y) := by show _ = _; unfold Cal.beg; omega
  go_enter Tryz.func110, Tryz.ntmps110
  go_wp2_with (go_at_call 129; refine (leaps_any _ (by omega) (by omega) _).mono ?_; rintro e w' ⟨rfl, rfl⟩)
  go_loop [5, 6] (fun n i => ∃ k : Int, 1 ≤ k ∧ k ≤ m ∧ i = .int .i64 k ∧ n = .int .i64 (Cal.beg y + Cal.cum y k)) (fun _ i => (m - intOf i).toNat)
  case atStart => exact ⟨1, by omega, by omega, rfl, by rw [Cal.cum_1]; simp; rw [← hu.out]; try omega⟩
  case round =>
    obtain ⟨k, k1, k2, rfl, rfl⟩ := hrel
    have cb := Cal.cum_bd y k
    by_cases hlt : k < m
    · have cs := Lib.hid (Cal.cum_succ y k (by omega) (by omega))
      have mb := Cal.mlen_bd y k
      go_wp2_with (go_at_call 111; refine (MonthDays_any _ _ (by omega) (by omega) (by omega) _).mono ?_; rintro e w' ⟨rfl, rfl⟩)
      go_round
      case rel => exact ⟨k + 1, by omega, by omega, rfl, by rw [cs.out]; go_num⟩
      case measure => simp [intOf]; omega
    · obtain rfl : k = m := by omega
      go_wp2
      go_ret
      exact ⟨rfl, rfl⟩
set_option maxHeartbeats 400000 in
theorem DateOf_any (day : Int) (y0 : 0 ≤ day) (y1 : day ≤ 200000) (w : World) :
    Calls Tryz.prog 106 #[.int .i64 day] w fun e w' => e = .returned (.agg #[.int .i64 (Cal.dY day), .int .i64 (Cal.dM day), .int .i64 (Cal.dD day)]) ∧ Below w.heap.size w w' := by
  have g0 := Cal.beg_guess day y0
  have g1 := Cal.year_lo day y0
  go_enter Tryz.func106, Tryz.ntmps106
  go_wp2
  go_loopg [] 600 (fun k wr => ∃ y : Int, 1800 ≤ y ∧ y + k ≤ 3000 ∧ 2348 ≤ y + k ∧ Cal.beg y ≤ day ∧ wr = (w.alloc (.cells #[.int .i64 0, .int .i64 0, .int .i64 0] 147)).alloc (.cells #[.int .i64 y, .int .i64 1, .int .i64 0] 147))
  case atStart => exact ⟨_, g1, by omega, by omega, g0, rfl⟩
  case round =>
    obtain ⟨y, hy, hk, hk2, hb, rfl⟩ := hrel
    clear g0 g1
    have hyh := Cal.year_hi y day hb y1
    have hb0 := Cal.beg_mono hy
    rw [Cal.beg_1800] at hb0
    have hbs := Cal.beg_lt (a := y) (b := y + 1) (by omega)
    by_cases hlt : Cal.beg (y + 1) ≤ day
    · have hyh2 := Cal.year_hi (y + 1) day hlt y1
      have hf : Cal.first (y + 1) 1 ≤ day := by rw [Cal.first_1]; exact hlt
      go_wp2_with (go_at_call 110; refine (First_any _ _ (by omega) (by omega) (by omega) (by omega) _).mono ?_; rintro e w' ⟨rfl, rfl⟩)
      go_roundg (gk - 1)
      case measure => omega
      case rel => exact ⟨y + 1, by omega, by omega, by omega, hlt, rfl⟩
    · have hf : ¬ Cal.first (y + 1) 1 ≤ day := by rw [Cal.first_1]; exact hlt
      go_wp2_with (go_at_call 110; refine (First_any _ _ (by omega) (by omega) (by omega) (by omega) _).mono ?_; rintro e w' ⟨rfl, rfl⟩)
      have hb1 : day < Cal.beg (y + 1) := by omega
      clear hf hlt
      have hf1 : Cal.first y 1 ≤ day := by rw [Cal.first_1]; exact hb
      go_loopg [] 12 (fun k wr => ∃ m : Int, 1 ≤ m ∧ m ≤ 12 ∧ m + k = 13 ∧ Cal.first y m ≤ day ∧ wr = (w.alloc (.cells #[.int .i64 0, .int .i64 0, .int .i64 0] 147)).alloc (.cells #[.int .i64 y, .int .i64 m, .int .i64 0] 147))
      case atStart => exact ⟨1, by omega, by omega, by omega, hf1, rfl⟩
      case round =>
        obtain ⟨m, m1, m2, mk, hr, rfl⟩ := hrel
        clear hf1
        have mk2 := Lib.hid mk
        clear mk
        by_cases hm : m < 12
        · by_cases hge : Cal.first y (m + 1) ≤ day
          · go_wp2_with (go_at_call 110; refine (First_any _ _ (by omega) (by omega) (by omega) (by omega) _).mono ?_; rintro e w' ⟨rfl, rfl⟩)
            go_roundg (gk - 1)
            case measure => have := mk2.out; omega
            case rel => exact ⟨m + 1, by omega, by omega, by have := mk2.out; omega, hge, rfl⟩
          · obtain ⟨ey, em, ed⟩ := Cal.date_of' y m day y0 y1 m1 m2 hr (by omega)
            have hfin := Lib.hid (And.intro ey (And.intro em ed))
            clear ey em ed
            have hfl := Cal.first_bd y m hy (by omega)
            go_wp2_with (go_at_call 110; refine (First_any _ _ (by omega) (by omega) (by omega) (by omega) _).mono ?_; rintro e w' ⟨rfl, rfl⟩)
            refine bodyPost_ret (v := .agg #[.int .i64 y, .int .i64 m, .int .i64 (day - Cal.first y m + 1)]) (by simp [results, Tryz.results106, go_sem]) rfl ⟨?_, ?_⟩
            · obtain ⟨ey, em, ed⟩ := hfin.out
              rw [ey, em] at ed ⊢; rw [ed]
            · exact ((Below.refl _ _).alloc (Nat.le_refl _) _).alloc (by simp) _
        · obtain ⟨ey, em, ed⟩ := Cal.date_of' y m day y0 y1 m1 m2 hr (by
            obtain rfl : m = 12 := by omega
            rw [show (12 : Int) + 1 = 13 from rfl, Cal.first_13]; exact hb1)
          have hfin := Lib.hid (And.intro ey (And.intro em ed))
          clear ey em ed
          have hfl := Cal.first_bd y m hy (by omega)
          go_wp2_with (go_at_call 110; refine (First_any _ _ (by omega) (by omega) (by omega) (by omega) _).mono ?_; rintro e w' ⟨rfl, rfl⟩)
          refine bodyPost_ret (v := .agg #[.int .i64 y, .int .i64 m, .int .i64 (day - Cal.first y m + 1)]) (by simp [results, Tryz.results106, go_sem]) rfl ⟨?_, ?_⟩
          · obtain ⟨ey, em, ed⟩ := hfin.out
            rw [ey, em] at ed ⊢; rw [ed]
          · exact ((Below.refl _ _).alloc (Nat.le_refl _) _).alloc (by simp) _
end Go.Proofs.YtconnjkkgaapbaaGreatDoor
namespace Go.Proofs.YtconnjkkgaapbaaGreatDoor
open Go Go.RowKit

/-- DayOf: the day and the error. -/
def Cal.dayOfS (y m d : Int) : Int × Int :=
  if 1800 ≤ y ∧ y ≤ 2347 then
    if 1 ≤ m ∧ m ≤ 12 ∧ 1 ≤ d ∧ d ≤ Cal.mlen y m then
      if Cal.first y m + d - 1 ≤ 200000 then (Cal.first y m + d - 1, 0) else (0, 2)
    else (0, 24)
  else (0, 2)

theorem IsYear_any (n : Int) (w : World) : Calls Tryz.prog 109 #[.int .i64 n] w fun e w' => e = .returned (.bool (decide (1800 ≤ n) && decide (n ≤ 2347))) ∧ w = w' := by
  go_enter Tryz.func109, Tryz.ntmps109
  go_wp2_with (go_at_call 41; refine (Within_any _ _ _ _).mono ?_; rintro e w' ⟨rfl, rfl⟩)
  go_ret
  exact ⟨rfl, rfl⟩
theorem IsDay_any (n : Int) (w : World) : Calls Tryz.prog 28 #[.int .i64 n] w fun e w' => e = .returned (.bool (decide (0 ≤ n) && decide (n ≤ 200000))) ∧ w = w' := by
  go_enter Tryz.func28, Tryz.ntmps28
  go_wp2_with (go_at_call 41; refine (Within_any _ _ _ _).mono ?_; rintro e w' ⟨rfl, rfl⟩)
  go_ret
  exact ⟨rfl, rfl⟩
end Go.Proofs.YtconnjkkgaapbaaGreatDoor
namespace Go.Proofs.YtconnjkkgaapbaaGreatDoor
open Go Go.RowKit

theorem Mod_any (n m : Int) (h0 : 0 < m) (h1 : m ≤ 100000000) (w : World) :
    Calls Tryz.prog 108 #[.int .i64 n, .int .i64 m] w fun e w' => e = .returned (.int .i64 (n % m)) ∧ w = w' := by
  have e1 : Int.tmod n m = n % m - if 0 ≤ n ∨ m ∣ n then 0 else (m : Int) := by
    rw [Int.tmod_eq_emod]; split <;> simp; omega
  have b0 := Int.emod_nonneg n (show m ≠ 0 by omega)
  have b1 := Int.emod_lt_of_pos n h0
  have e2 : Hid ((n.tmod m + m) % m = n % m) := by
    show _ = _
    rw [e1]; split
    · rw [show n % m - 0 + m = n % m + m by omega, Int.add_emod_right, Int.emod_emod]
    · rw [show n % m - m + m = n % m by omega, Int.emod_emod]
  have e3 : 0 ≤ n.tmod m + m := by rw [e1]; split <;> omega
  have e4 : n.tmod m + m ≤ 200000000 := by rw [e1]; split <;> omega
  clear e1 b0 b1
  go_enter Tryz.func108, Tryz.ntmps108
  go_wp2
  go_ret
  exact ⟨ret_int (by first | exact e2.out | (rw [← e2.out]; rfl)), rfl⟩
theorem Floor_any (n m : Int) (h0 : 0 < m) (h1 : m ≤ 100000000) (a : -1000000000000000 ≤ n) (b : n ≤ 1000000000000000) (w : World) :
    Calls Tryz.prog 107 #[.int .i64 n, .int .i64 m] w fun e w' => e = .returned (.int .i64 (n / m)) ∧ w = w' := by
  have b0 := Int.emod_nonneg n (show m ≠ 0 by omega)
  have b1 := Int.emod_lt_of_pos n h0
  have e1 : Hid ((n - n % m).tdiv m = n / m) := by
    show _ = _
    have h := Int.mul_ediv_add_emod n m
    rw [show n - n % m = m * (n / m) by omega, Int.mul_tdiv_cancel_left _ (by omega)]
  go_enter Tryz.func107, Tryz.ntmps107
  go_wp2_with (go_at_call 108; refine (Mod_any _ _ h0 h1 _).mono ?_; rintro e w' ⟨rfl, rfl⟩)
  go_ret
  exact ⟨ret_int e1.out, rfl⟩

/-- So many months later: the number and whether it is a day. -/
def Cal.laterT (day months : Int) : Int := 12 * Cal.dY day + Cal.dM day - 1 + months
def Cal.laterS (day months : Int) : Int × Bool :=
  if 1800 ≤ Cal.laterT day months / 12 ∧ Cal.laterT day months / 12 ≤ 2347 then
    (Cal.first (Cal.laterT day months / 12) (Cal.laterT day months % 12 + 1) + min (Cal.dD day) (Cal.mlen (Cal.laterT day months / 12) (Cal.laterT day months % 12 + 1)) - 1,
      decide (Cal.first (Cal.laterT day months / 12) (Cal.laterT day months % 12 + 1) + min (Cal.dD day) (Cal.mlen (Cal.laterT day months / 12) (Cal.laterT day months % 12 + 1)) - 1 ≤ 200000))
  else (0, false)

theorem ret_ib {a b : Int} {c d : Bool} (h : a = b) (h2 : c = d) : Ending.returned (.tuple #[.int .i64 a, .bool c]) = .returned (.tuple #[.int .i64 b, .bool d]) := by rw [h, h2]
theorem Cal.laterS_no {day months : Int} (h : ¬ (1800 ≤ Cal.laterT day months / 12 ∧ Cal.laterT day months / 12 ≤ 2347)) : Cal.laterS day months = (0, false) := by
  unfold Cal.laterS; rw [if_neg h]
theorem Cal.laterS_yes {day months : Int} (h : 1800 ≤ Cal.laterT day months / 12) (h2 : Cal.laterT day months / 12 ≤ 2347) :
    Cal.laterS day months = (Cal.first (Cal.laterT day months / 12) (Cal.laterT day months % 12 + 1) + min (Cal.dD day) (Cal.mlen (Cal.laterT day months / 12) (Cal.laterT day months % 12 + 1)) - 1,
      decide (Cal.first (Cal.laterT day months / 12) (Cal.laterT day months % 12 + 1) + min (Cal.dD day) (Cal.mlen (Cal.laterT day months / 12) (Cal.laterT day months % 12 + 1)) - 1 ≤ 200000)) := by
  unfold Cal.laterS; rw [if_pos ⟨h, h2⟩]
theorem later_any (day months : Int) (y0 : 0 ≤ day) (y1 : day ≤ 200000) (m0 : -12000 ≤ months) (m1 : months ≤ 12000) (w : World) (hT : Tab w) :
    Calls Tryz.prog 94 #[.int .i64 day, .int .i64 months] w fun e w' => e = .returned (.tuple #[.int .i64 (Cal.laterS day months).1, .bool (Cal.laterS day months).2]) ∧ Below w.heap.size w w' := by
  have hd := Cal.date_spec day y0 (by omega)
  obtain ⟨dy0, dy1⟩ := Cal.dY_bd day y0 y1
  obtain ⟨dm1, dm2, dd1, dd2, dd3⟩ := hd
  have dd4 := Cal.mlen_bd (Cal.dY day) (Cal.dM day)
  clear dd3
  have hT' := Lib.hid hT; clear hT
  have hno := Lib.hid (@Cal.laterS_no day months)
  have hyes := Lib.hid (@Cal.laterS_yes day months)
  unfold Cal.laterT at hno hyes
  have ht : 0 ≤ 12 * Cal.dY day + Cal.dM day - 1 + months := by omega
  by_cases hy1 : 1800 ≤ (12 * Cal.dY day + Cal.dM day - 1 + months) / 12
  · by_cases hy2 : (12 * Cal.dY day + Cal.dM day - 1 + months) / 12 ≤ 2347
    · have hfin := Lib.hid (hyes.out hy1 hy2)
      have hdec := Lib.hid (show decide ((12 * Cal.dY day + Cal.dM day - 1 + months) < 0) = false by simp; omega)
      have mb := Cal.mlen_bd ((12 * Cal.dY day + Cal.dM day - 1 + months) / 12) ((12 * Cal.dY day + Cal.dM day - 1 + months) % 12 + 1)
      have fb := Cal.first_bd ((12 * Cal.dY day + Cal.dM day - 1 + months) / 12) ((12 * Cal.dY day + Cal.dM day - 1 + months) % 12 + 1) hy1 (by omega)
      by_cases hmin : Cal.mlen ((12 * Cal.dY day + Cal.dM day - 1 + months) / 12) ((12 * Cal.dY day + Cal.dM day - 1 + months) % 12 + 1) < Cal.dD day
      · by_cases hn : Cal.first ((12 * Cal.dY day + Cal.dM day - 1 + months) / 12) ((12 * Cal.dY day + Cal.dM day - 1 + months) % 12 + 1) + Cal.mlen ((12 * Cal.dY day + Cal.dM day - 1 + months) / 12) ((12 * Cal.dY day + Cal.dM day - 1 + months) % 12 + 1) - 1 ≤ 200000
        · go_enter Tryz.func94, Tryz.ntmps94
          go_wp2_with (first | (go_at_call 101; refine (dateOf_any day y0 y1 _ hT'.out).mono ?_; rintro e w1 ⟨rfl, hb1⟩) | (((first | (go_at_call 86) | (go_at_call 41) | (go_at_call 74) | (go_at_call 28) | (go_at_call 109) | (fail) | (fail)); first | refine rin ?_ | refine rout ?_ | refine rany ?_)))
          have hTm := Lib.hid (fun o n => ((hT'.out.below hb1).alloc o).drewN n)
          go_quiet (first | (go_at_call 115; exact quiet_left (length_any _ _ (by omega) (by omega) (by omega) _ (hTm.out _ _))) | (go_at_call 116; exact quiet_left (dayOf_any _ _ _ (by omega) (by omega) (by omega) (by omega) (by omega) (by omega) _ (hTm.out _ _))))
          go_wp2_with (((first | (go_at_call 86) | (go_at_call 41) | (go_at_call 74) | (go_at_call 28) | (go_at_call 109) | (fail) | (fail)); first | refine rin ?_ | refine rout ?_ | refine rany ?_))
          go_ret2
          exact ⟨by rw [hfin.out]; exact ret_ib (by omega) (by simp; omega), below_drewN (hb1.alloc hb1.size _) _⟩
        · go_enter Tryz.func94, Tryz.ntmps94
          go_wp2_with (first | (go_at_call 101; refine (dateOf_any day y0 y1 _ hT'.out).mono ?_; rintro e w1 ⟨rfl, hb1⟩) | (((first | (go_at_call 86) | (go_at_call 41) | (go_at_call 74) | (go_at_call 28) | (go_at_call 109) | (fail) | (fail)); first | refine rin ?_ | refine rout ?_ | refine rany ?_)))
          have hTm := Lib.hid (fun o n => ((hT'.out.below hb1).alloc o).drewN n)
          go_quiet (first | (go_at_call 115; exact quiet_left (length_any _ _ (by omega) (by omega) (by omega) _ (hTm.out _ _))) | (go_at_call 116; exact quiet_left (dayOf_any _ _ _ (by omega) (by omega) (by omega) (by omega) (by omega) (by omega) _ (hTm.out _ _))))
          go_wp2_with (((first | (go_at_call 86) | (go_at_call 41) | (go_at_call 74) | (go_at_call 28) | (go_at_call 109) | (fail) | (fail)); first | refine rin ?_ | refine rout ?_ | refine rany ?_))
          go_ret2
          exact ⟨by rw [hfin.out]; exact ret_ib (by omega) (by simp; omega), below_drewN (hb1.alloc hb1.size _) _⟩
      · by_cases hn : Cal.first ((12 * Cal.dY day + Cal.dM day - 1 + months) / 12) ((12 * Cal.dY day + Cal.dM day - 1 + months) % 12 + 1) + Cal.dD day - 1 ≤ 200000
        · go_enter Tryz.func94, Tryz.ntmps94
          go_wp2_with (first | (go_at_call 101; refine (dateOf_any day y0 y1 _ hT'.out).mono ?_; rintro e w1 ⟨rfl, hb1⟩) | (((first | (go_at_call 86) | (go_at_call 41) | (go_at_call 74) | (go_at_call 28) | (go_at_call 109) | (fail) | (fail)); first | refine rin ?_ | refine rout ?_ | refine rany ?_)))
          have hTm := Lib.hid (fun o n => ((hT'.out.below hb1).alloc o).drewN n)
          go_quiet (first | (go_at_call 115; exact quiet_left (length_any _ _ (by omega) (by omega) (by omega) _ (hTm.out _ _))) | (go_at_call 116; exact quiet_left (dayOf_any _ _ _ (by omega) (by omega) (by omega) (by omega) (by omega) (by omega) _ (hTm.out _ _))))
          go_wp2_with (((first | (go_at_call 86) | (go_at_call 41) | (go_at_call 74) | (go_at_call 28) | (go_at_call 109) | (fail) | (fail)); first | refine rin ?_ | refine rout ?_ | refine rany ?_))
          go_ret2
          exact ⟨by rw [hfin.out]; exact ret_ib (by omega) (by simp; omega), below_drewN (hb1.alloc hb1.size _) _⟩
        · go_enter Tryz.func94, Tryz.ntmps94
          go_wp2_with (first | (go_at_call 101; refine (dateOf_any day y0 y1 _ hT'.out).mono ?_; rintro e w1 ⟨rfl, hb1⟩) | (((first | (go_at_call 86) | (go_at_call 41) | (go_at_call 74) | (go_at_call 28) | (go_at_call 109) | (fail) | (fail)); first | refine rin ?_ | refine rout ?_ | refine rany ?_)))
          have hTm := Lib.hid (fun o n => ((hT'.out.below hb1).alloc o).drewN n)
          go_quiet (first | (go_at_call 115; exact quiet_left (length_any _ _ (by omega) (by omega) (by omega) _ (hTm.out _ _))) | (go_at_call 116; exact quiet_left (dayOf_any _ _ _ (by omega) (by omega) (by omega) (by omega) (by omega) (by omega) _ (hTm.out _ _))))
          go_wp2_with (((first | (go_at_call 86) | (go_at_call 41) | (go_at_call 74) | (go_at_call 28) | (go_at_call 109) | (fail) | (fail)); first | refine rin ?_ | refine rout ?_ | refine rany ?_))
          go_ret2
          exact ⟨by rw [hfin.out]; exact ret_ib (by omega) (by simp; omega), below_drewN (hb1.alloc hb1.size _) _⟩
    · have hfin := Lib.hid (hno.out (by omega))
      go_enter Tryz.func94, Tryz.ntmps94
      go_wp2_with (first | (go_at_call 101; refine (dateOf_any day y0 y1 _ hT'.out).mono ?_; rintro e w1 ⟨rfl, hb1⟩) | (((first | (go_at_call 86) | (go_at_call 41) | (go_at_call 74) | (go_at_call 28) | (go_at_call 109) | (fail) | (fail)); first | refine rin ?_ | refine rout ?_ | refine rany ?_)))
      go_ret2
      exact ⟨by rw [hfin.out]; rfl, hb1.alloc hb1.size _⟩
  · have hfin := Lib.hid (hno.out (by omega))
    go_enter Tryz.func94, Tryz.ntmps94
    go_wp2_with (first | (go_at_call 101; refine (dateOf_any day y0 y1 _ hT'.out).mono ?_; rintro e w1 ⟨rfl, hb1⟩) | (((first | (go_at_call 86) | (go_at_call 41) | (go_at_call 74) | (go_at_call 28) | (go_at_call 109) | (fail) | (fail)); first | refine rin ?_ | refine rout ?_ | refine rany ?_)))
    go_ret2
    exact ⟨by rw [hfin.out]; rfl, hb1.alloc hb1.size _⟩
end Go.Proofs.YtconnjkkgaapbaaGreatDoor
namespace Go.Proofs.YtconnjkkgaapbaaGreatDoor
open Go Go.RowKit

set_option maxHeartbeats 1000000 in
theorem AddMonthsR_any (day months : Int) (y0 : 0 ≤ day) (y1 : day ≤ 200000) (m0 : -100000 ≤ months) (m1 : months ≤ 100000) (w : World) :
    Calls Tryz.prog 82 #[.int .i64 day, .int .i64 months] w fun e w' => e = .returned (.tuple #[.int .i64 (Cal.laterS day months).1, .bool (Cal.laterS day months).2]) ∧ Below w.heap.size w w' := by
  have hd := Cal.date_spec day y0 (by omega)
  obtain ⟨dy0, dy1⟩ := Cal.dY_bd day y0 y1
  obtain ⟨dm1, dm2, dd1, dd2, dd3⟩ := hd
  have dd4 := Cal.mlen_bd (Cal.dY day) (Cal.dM day)
  clear dd3
  have hno := Lib.hid (@Cal.laterS_no day months)
  have hyes := Lib.hid (@Cal.laterS_yes day months)
  have eT : Cal.laterT day months = (Cal.dY day * 12 + Cal.dM day - 1 + months) := by unfold Cal.laterT; omega
  rw [eT] at hno hyes
  clear eT
  by_cases hy1 : 1800 ≤ (Cal.dY day * 12 + Cal.dM day - 1 + months) / 12
  · by_cases hy2 : (Cal.dY day * 12 + Cal.dM day - 1 + months) / 12 ≤ 2347
    · have hfin := Lib.hid (hyes.out hy1 hy2)
      have mb := Cal.mlen_bd ((Cal.dY day * 12 + Cal.dM day - 1 + months) / 12) ((Cal.dY day * 12 + Cal.dM day - 1 + months) % 12 + 1)
      have fb := Cal.first_bd ((Cal.dY day * 12 + Cal.dM day - 1 + months) / 12) ((Cal.dY day * 12 + Cal.dM day - 1 + months) % 12 + 1) hy1 (by omega)
      by_cases hmin : Cal.mlen ((Cal.dY day * 12 + Cal.dM day - 1 + months) / 12) ((Cal.dY day * 12 + Cal.dM day - 1 + months) % 12 + 1) < Cal.dD day
      · by_cases hn : Cal.first ((Cal.dY day * 12 + Cal.dM day - 1 + months) / 12) ((Cal.dY day * 12 + Cal.dM day - 1 + months) % 12 + 1) + Cal.mlen ((Cal.dY day * 12 + Cal.dM day - 1 + months) / 12) ((Cal.dY day * 12 + Cal.dM day - 1 + months) % 12 + 1) - 1 ≤ 200000
        · go_enter Tryz.func82, Tryz.ntmps82
          go_wp2_with (first | (go_at_call 106; refine (DateOf_any day y0 y1 _).mono ?_; rintro e w1 ⟨rfl, hb1⟩) | (go_at_call 107; refine (Floor_any _ _ (by omega) (by omega) (by omega) (by omega) _).mono ?_; rintro e w' ⟨rfl, rfl⟩) | (go_at_call 108; refine (Mod_any _ _ (by omega) (by omega) _).mono ?_; rintro e w' ⟨rfl, rfl⟩) | (((first | (go_at_call 86) | (go_at_call 41) | (go_at_call 74) | (go_at_call 28) | (go_at_call 109) | (fail) | (fail)); first | refine rin ?_ | refine rout ?_ | refine rany ?_)))
          go_quiet (first | (go_at_call 111; exact quiet_left (MonthDays_any _ _ (by omega) (by omega) (by omega) _)) | (go_at_call 110; exact quiet_left (First_any _ _ (by omega) (by omega) (by omega) (by omega) _)))
          go_wp2_with (((first | (go_at_call 86) | (go_at_call 41) | (go_at_call 74) | (go_at_call 28) | (go_at_call 109) | (fail) | (fail)); first | refine rin ?_ | refine rout ?_ | refine rany ?_))
          go_ret2
          exact ⟨by rw [hfin.out]; exact ret_ib (by omega) (by simp; omega), below_drewN (hb1.alloc hb1.size _) _⟩
        · go_enter Tryz.func82, Tryz.ntmps82
          go_wp2_with (first | (go_at_call 106; refine (DateOf_any day y0 y1 _).mono ?_; rintro e w1 ⟨rfl, hb1⟩) | (go_at_call 107; refine (Floor_any _ _ (by omega) (by omega) (by omega) (by omega) _).mono ?_; rintro e w' ⟨rfl, rfl⟩) | (go_at_call 108; refine (Mod_any _ _ (by omega) (by omega) _).mono ?_; rintro e w' ⟨rfl, rfl⟩) | (((first | (go_at_call 86) | (go_at_call 41) | (go_at_call 74) | (go_at_call 28) | (go_at_call 109) | (fail) | (fail)); first | refine rin ?_ | refine rout ?_ | refine rany ?_)))
          go_quiet (first | (go_at_call 111; exact quiet_left (MonthDays_any _ _ (by omega) (by omega) (by omega) _)) | (go_at_call 110; exact quiet_left (First_any _ _ (by omega) (by omega) (by omega) (by omega) _)))
          go_wp2_with (((first | (go_at_call 86) | (go_at_call 41) | (go_at_call 74) | (go_at_call 28) | (go_at_call 109) | (fail) | (fail)); first | refine rin ?_ | refine rout ?_ | refine rany ?_))
          go_ret2
          exact ⟨by rw [hfin.out]; exact ret_ib (by omega) (by simp; omega), below_drewN (hb1.alloc hb1.size _) _⟩
      · by_cases hn : Cal.first ((Cal.dY day * 12 + Cal.dM day - 1 + months) / 12) ((Cal.dY day * 12 + Cal.dM day - 1 + months) % 12 + 1) + Cal.dD day - 1 ≤ 200000
        · go_enter Tryz.func82, Tryz.ntmps82
          go_wp2_with (first | (go_at_call 106; refine (DateOf_any day y0 y1 _).mono ?_; rintro e w1 ⟨rfl, hb1⟩) | (go_at_call 107; refine (Floor_any _ _ (by omega) (by omega) (by omega) (by omega) _).mono ?_; rintro e w' ⟨rfl, rfl⟩) | (go_at_call 108; refine (Mod_any _ _ (by omega) (by omega) _).mono ?_; rintro e w' ⟨rfl, rfl⟩) | (((first | (go_at_call 86) | (go_at_call 41) | (go_at_call 74) | (go_at_call 28) | (go_at_call 109) | (fail) | (fail)); first | refine rin ?_ | refine rout ?_ | refine rany ?_)))
          go_quiet (first | (go_at_call 111; exact quiet_left (MonthDays_any _ _ (by omega) (by omega) (by omega) _)) | (go_at_call 110; exact quiet_left (First_any _ _ (by omega) (by omega) (by omega) (by omega) _)))
          go_wp2_with (((first | (go_at_call 86) | (go_at_call 41) | (go_at_call 74) | (go_at_call 28) | (go_at_call 109) | (fail) | (fail)); first | refine rin ?_ | refine rout ?_ | refine rany ?_))
          go_ret2
          exact ⟨by rw [hfin.out]; exact ret_ib (by omega) (by simp; omega), below_drewN (hb1.alloc hb1.size _) _⟩
        · go_enter Tryz.func82, Tryz.ntmps82
          go_wp2_with (first | (go_at_call 106; refine (DateOf_any day y0 y1 _).mono ?_; rintro e w1 ⟨rfl, hb1⟩) | (go_at_call 107; refine (Floor_any _ _ (by omega) (by omega) (by omega) (by omega) _).mono ?_; rintro e w' ⟨rfl, rfl⟩) | (go_at_call 108; refine (Mod_any _ _ (by omega) (by omega) _).mono ?_; rintro e w' ⟨rfl, rfl⟩) | (((first | (go_at_call 86) | (go_at_call 41) | (go_at_call 74) | (go_at_call 28) | (go_at_call 109) | (fail) | (fail)); first | refine rin ?_ | refine rout ?_ | refine rany ?_)))
          go_quiet (first | (go_at_call 111; exact quiet_left (MonthDays_any _ _ (by omega) (by omega) (by omega) _)) | (go_at_call 110; exact quiet_left (First_any _ _ (by omega) (by omega) (by omega) (by omega) _)))
          go_wp2_with (((first | (go_at_call 86) | (go_at_call 41) | (go_at_call 74) | (go_at_call 28) | (go_at_call 109) | (fail) | (fail)); first | refine rin ?_ | refine rout ?_ | refine rany ?_))
          go_ret2
          exact ⟨by rw [hfin.out]; exact ret_ib (by omega) (by simp; omega), below_drewN (hb1.alloc hb1.size _) _⟩
    · have hfin := Lib.hid (hno.out (by omega))
      go_enter Tryz.func82, Tryz.ntmps82
      go_wp2_with (first | (go_at_call 106; refine (DateOf_any day y0 y1 _).mono ?_; rintro e w1 ⟨rfl, hb1⟩) | (go_at_call 107; refine (Floor_any _ _ (by omega) (by omega) (by omega) (by omega) _).mono ?_; rintro e w' ⟨rfl, rfl⟩) | (go_at_call 108; refine (Mod_any _ _ (by omega) (by omega) _).mono ?_; rintro e w' ⟨rfl, rfl⟩) | (((first | (go_at_call 86) | (go_at_call 41) | (go_at_call 74) | (go_at_call 28) | (go_at_call 109) | (fail) | (fail)); first | refine rin ?_ | refine rout ?_ | refine rany ?_)))
      go_ret2
      exact ⟨by rw [hfin.out]; rfl, hb1.alloc hb1.size _⟩
  · have hfin := Lib.hid (hno.out (by omega))
    go_enter Tryz.func82, Tryz.ntmps82
    go_wp2_with (first | (go_at_call 106; refine (DateOf_any day y0 y1 _).mono ?_; rintro e w1 ⟨rfl, hb1⟩) | (go_at_call 107; refine (Floor_any _ _ (by omega) (by omega) (by omega) (by omega) _).mono ?_; rintro e w' ⟨rfl, rfl⟩) | (go_at_call 108; refine (Mod_any _ _ (by omega) (by omega) _).mono ?_; rintro e w' ⟨rfl, rfl⟩) | (((first | (go_at_call 86) | (go_at_call 41) | (go_at_call 74) | (go_at_call 28) | (go_at_call 109) | (fail) | (fail)); first | refine rin ?_ | refine rout ?_ | refine rany ?_)))
    go_ret2
    exact ⟨by rw [hfin.out]; rfl, hb1.alloc hb1.size _⟩

/-- AddMonths: the day and the error. -/
def Cal.addS (day months : Int) : Int × Int :=
  if 0 ≤ day ∧ day ≤ 200000 ∧ -12000 ≤ months ∧ months ≤ 12000 ∧ (Cal.laterS day months).2 = true then ((Cal.laterS day months).1, 0) else (0, 2)
theorem AddMonths_any (day months : Int) (w : World) (hT : Tab w) :
    Calls Tryz.prog 105 #[.int .i64 day, .int .i64 months] w fun e w' => e = .returned (.tuple #[.int .i64 (Cal.addS day months).1, .int .i64 (Cal.addS day months).2]) ∧ Below w.heap.size w w' := by
  have hT' := Lib.hid hT; clear hT
  by_cases hy : 0 ≤ day ∧ day ≤ 200000 ∧ -12000 ≤ months ∧ months ≤ 12000
  · obtain ⟨y0, y1, m0, m1⟩ := hy
    cases hb : (Cal.laterS day months).2
    · have hfin : Hid (Cal.addS day months = (0, 2)) := by show _ = _; unfold Cal.addS; rw [if_neg (by simp [hb])]
      go_enter Tryz.func105, Tryz.ntmps105
      go_wp2_with (first | (go_at_call 94; refine (later_any _ _ y0 y1 m0 m1 _ hT'.out).mono ?_; rintro e w1 ⟨rfl, hb1⟩) | (((first | (go_at_call 86) | (go_at_call 41) | (go_at_call 74) | (go_at_call 28) | (go_at_call 109) | (fail) | (fail)); first | refine rin ?_ | refine rout ?_ | refine rany ?_)))
      go_ret2
      exact ⟨by rw [hfin.out]; rfl, hb1⟩
    · have hfin : Hid (Cal.addS day months = ((Cal.laterS day months).1, 0)) := by show _ = _; unfold Cal.addS; rw [if_pos ⟨y0, y1, m0, m1, hb⟩]
      go_enter Tryz.func105, Tryz.ntmps105
      go_wp2_with (first | (go_at_call 94; refine (later_any _ _ y0 y1 m0 m1 _ hT'.out).mono ?_; rintro e w1 ⟨rfl, hb1⟩) | (((first | (go_at_call 86) | (go_at_call 41) | (go_at_call 74) | (go_at_call 28) | (go_at_call 109) | (fail) | (fail)); first | refine rin ?_ | refine rout ?_ | refine rany ?_)))
      go_ret2
      exact ⟨by rw [hfin.out]; rfl, hb1⟩
  · have hfin : Hid (Cal.addS day months = (0, 2)) := by show _ = _; unfold Cal.addS; rw [if_neg (fun h => hy ⟨h.1, h.2.1, h.2.2.1, h.2.2.2.1⟩)]
    by_cases y0 : 0 ≤ day ∧ day ≤ 200000
    · obtain ⟨y0, y1⟩ := y0
      have hm : months < -12000 ∨ 12000 < months := by omega
      clear hy
      go_enter Tryz.func105, Tryz.ntmps105
      go_wp2_with (((first | (go_at_call 86) | (go_at_call 41) | (go_at_call 74) | (go_at_call 28) | (go_at_call 109) | (fail) | (fail)); first | refine rin ?_ | refine rout ?_ | refine rany ?_))
      go_ret2
      exact ⟨by rw [hfin.out]; rfl, Below.refl _ _⟩
    · clear hy
      have y0 : day < 0 ∨ 200000 < day := by omega
      go_enter Tryz.func105, Tryz.ntmps105
      go_wp2_with (((first | (go_at_call 86) | (go_at_call 41) | (go_at_call 74) | (go_at_call 28) | (go_at_call 109) | (fail) | (fail)); first | refine rin ?_ | refine rout ?_ | refine rany ?_))
      all_goals
        go_ret2
        exact ⟨by rw [hfin.out]; rfl, Below.refl _ _⟩

theorem weekday_any (day : Int) (y0 : -2 ≤ day) (y1 : day ≤ 1000000) (w : World) :
    Calls Tryz.prog 100 #[.int .i64 day] w fun e w' => e = .returned (.int .i64 ((day + 2) % 7)) ∧ w = w' := by
  go_enter Tryz.func100, Tryz.ntmps100
  go_wp2
  go_ret
  exact ⟨rfl, rfl⟩
theorem WeekdayR_any (day : Int) (y0 : -2 ≤ day) (y1 : day ≤ 1000000) (w : World) :
    Calls Tryz.prog 138 #[.int .i64 day] w fun e w' => e = .returned (.int .i64 ((day + 2) % 7)) ∧ w = w' := by
  go_enter Tryz.func138, Tryz.ntmps138
  go_wp2
  go_ret
  exact ⟨rfl, rfl⟩
end Go.Proofs.YtconnjkkgaapbaaGreatDoor
namespace Go.Proofs.YtconnjkkgaapbaaGreatDoor
open Go Go.RowKit

theorem easter_any (y : Int) (y0 : 1800 ≤ y) (y1 : y ≤ 2347) (w : World) (hT : Tab w) :
    Calls Tryz.prog 140 #[.int .i64 y] w fun e w' => e = .returned (.int .i64 (Cal.easter y)) ∧ w = w' := by
  have hT' := Lib.hid hT; clear hT
  have hE := Lib.hid (show Cal.first y (Cal.eN y / 31) + Cal.eN y % 31 = Cal.easter y from rfl)
  have bH := Cal.eH_bd y; have bL := Cal.eL_bd y; have bM := Cal.eM_bd y; have bN := Cal.eN_bd y
  have eG : (y / 100 - (y / 100 + 8) / 25 + 1) / 3 = Cal.eG y := rfl
  have eH : (19 * (y % 19) + y / 100 - y / 100 / 4 - Cal.eG y + 15) % 30 = Cal.eH y := rfl
  have eL : (32 + 2 * (y / 100 % 4) + 2 * (y % 100 / 4) - Cal.eH y - y % 4) % 7 = Cal.eL y := by rw [show y % 4 = y % 100 % 4 by omega]; rfl
  have eM : (y % 19 + 11 * Cal.eH y + 22 * Cal.eL y) / 451 = Cal.eM y := rfl
  have eN : Cal.eH y + Cal.eL y - 7 * Cal.eM y + 114 = Cal.eN y := rfl
  have bG : 0 ≤ Cal.eG y ∧ Cal.eG y ≤ 1000 := by unfold Cal.eG; omega
  generalize Cal.eG y = G at *
  generalize hH : Cal.eH y = H at *
  generalize hL : Cal.eL y = L at *
  generalize hM : Cal.eM y = M at *
  generalize hN : Cal.eN y = N at *
  have hN := Lib.hid hN
  clear hH hL hM
  go_enter Tryz.func140, Tryz.ntmps140
  go_wp2_with (go_at_call 116; refine (dayOf_any _ _ _ (by omega) (by omega) (by omega) (by omega) (by omega) (by omega) _ hT'.out).mono ?_; rintro e w' ⟨rfl, rfl⟩)
  go_ret
  exact ⟨ret_int (by rw [← hE.out]; omega), rfl⟩
theorem easterR_any (y : Int) (y0 : 1800 ≤ y) (y1 : y ≤ 2347) (w : World) :
    Calls Tryz.prog 157 #[.int .i64 y] w fun e w' => e = .returned (.int .i64 (Cal.easter y)) ∧ w = w' := by
  have hE := Lib.hid (show Cal.first y (Cal.eN y / 31) + Cal.eN y % 31 = Cal.easter y from rfl)
  have fb := Cal.first_bd y (Cal.eN y / 31) y0 (by omega)
  have bH := Cal.eH_bd y; have bL := Cal.eL_bd y; have bM := Cal.eM_bd y; have bN := Cal.eN_bd y
  have eG : (y / 100 - (y / 100 + 8) / 25 + 1) / 3 = Cal.eG y := rfl
  have eH : (19 * (y % 19) + y / 100 - y / 100 / 4 - Cal.eG y + 15) % 30 = Cal.eH y := rfl
  have eL : (32 + 2 * (y / 100 % 4) + 2 * (y % 100 / 4) - Cal.eH y - y % 4) % 7 = Cal.eL y := by rw [show y % 4 = y % 100 % 4 by omega]; rfl
  have eM : (y % 19 + 11 * Cal.eH y + 22 * Cal.eL y) / 451 = Cal.eM y := rfl
  have eN : Cal.eH y + Cal.eL y - 7 * Cal.eM y + 114 = Cal.eN y := rfl
  have bG : 0 ≤ Cal.eG y ∧ Cal.eG y ≤ 1000 := by unfold Cal.eG; omega
  generalize Cal.eG y = G at *
  generalize hH : Cal.eH y = H at *
  generalize hL : Cal.eL y = L at *
  generalize hM : Cal.eM y = M at *
  generalize hN : Cal.eN y = N at *
  have hN := Lib.hid hN
  clear hH hL hM
  go_enter Tryz.func157, Tryz.ntmps157
  go_wp2_with (go_at_call 110; refine (First_any _ _ (by omega) (by omega) (by omega) (by omega) _).mono ?_; rintro e w' ⟨rfl, rfl⟩)
  go_ret
  exact ⟨ret_int (by rw [← hE.out]), rfl⟩
end Go.Proofs.YtconnjkkgaapbaaGreatDoor
namespace Go.Proofs.YtconnjkkgaapbaaGreatDoor
open Go Go.RowKit

/-- The byte at a place, as a number. -/
def byteAt (s : ByteArray) (j : Nat) : Int := if h : j < s.size then (s[j].toNat : Int) else 0
theorem byteAt_eq {s : ByteArray} {j : Nat} (h : j < s.size) : byteAt s j = (s[j].toNat : Int) := by unfold byteAt; rw [dif_pos h]
def okAt (s : ByteArray) (j : Nat) : Bool := decide (97 ≤ byteAt s j ∧ byteAt s j ≤ 122) || decide (65 ≤ byteAt s j ∧ byteAt s j ≤ 90) || (decide (j ≠ 0) && (decide (byteAt s j = 45) || decide (48 ≤ byteAt s j ∧ byteAt s j ≤ 57)))
/-- Is a text a name? -/
def nameB (s : ByteArray) : Bool := decide (1 ≤ s.size ∧ s.size ≤ 12 ∧ ∀ j, j < s.size → okAt s j = true)
def okTo (s : ByteArray) (k : Nat) : Prop := ∀ j, j < k → okAt s j = true
theorem okTo_zero (s : ByteArray) : okTo s 0 := fun j h => by omega
theorem okTo_succ {s : ByteArray} {k : Nat} (h : okTo s k) (h2 : okAt s k = true) : okTo s (k + 1) := fun j hj => by
  rcases Nat.lt_or_ge j k with h3 | h3
  · exact h j h3
  · obtain rfl : j = k := by omega
    exact h2
theorem nameB_yes {s : ByteArray} (h1 : 1 ≤ s.size) (h2 : s.size ≤ 12) (h : okTo s s.size) : nameB s = true := by unfold nameB; simp; exact ⟨h1, h2, h⟩
theorem nameB_no {s : ByteArray} {k : Nat} (h : k < s.size) (h2 : okAt s k = false) : nameB s = false := by
  unfold nameB; rw [decide_eq_false_iff_not]; rintro ⟨_, _, h3⟩; rw [h3 k h] at h2; cases h2
theorem nameB_size {s : ByteArray} (h : s.size < 1 ∨ 12 < s.size) : nameB s = false := by
  unfold nameB; rw [decide_eq_false_iff_not]; rintro ⟨_, _, _⟩; omega
theorem isEmpty_yes {s : ByteArray} (h : s.size = 0) : s.toList.isEmpty = true := by rw [ByteArray.toList_eq]; simpa using Array.eq_empty_of_size_eq_zero h
theorem isEmpty_no {s : ByteArray} (h : 1 ≤ s.size) : s.toList.isEmpty = false := by
  rw [ByteArray.toList_eq]
  cases hh : s.data.toList with
  | nil => have : s.size = 0 := by have := congrArg List.length hh; simpa using this
           omega
  | cons a l => rfl
set_option maxHeartbeats 2000000 in
theorem isName_any (s : ByteArray) (w : World) (hs : s.size ≤ maxLen) :
    Calls Tryz.prog 87 #[.string s] w fun e w' => e = .returned (.bool (nameB s)) ∧ w = w' := by
  unfold maxLen at hs
  by_cases h0 : s.size = 0
  · have hfin := Lib.hid (nameB_size (s := s) (by omega))
    have he := isEmpty_yes h0
    have he2 : s.toList = [] := by simpa using he
    clear h0
    go_enter Tryz.func87, Tryz.ntmps87
    go_wp2
    go_ret
    exact ⟨ret_bool hfin.out.symm, rfl⟩
  have h1 : 1 ≤ s.size := by omega
  have he := isEmpty_no h1
  have he2 : ¬ s.toList = [] := by intro h; rw [h] at he; cases he
  clear h0
  by_cases h12 : s.size ≤ 12
  · have hok := okTo_zero s
    go_enter Tryz.func87, Tryz.ntmps87
    go_wp2
    go_loop [15] (fun i => ∃ k : Nat, k ≤ s.size ∧ i = .int .i64 k ∧ okTo s k) (fun i => s.size - (intOf i).toNat)
    case atStart => exact ⟨0, Nat.zero_le _, rfl, hok⟩
    case round =>
      obtain ⟨k, hk, rfl, hok2⟩ := hrel
      clear hok
      by_cases hlt : k < s.size
      · have hb := byteAt_eq hlt
        have hcl : (97 ≤ (s[k].toNat : Int) ∧ (s[k].toNat : Int) ≤ 122) ∨ (65 ≤ (s[k].toNat : Int) ∧ (s[k].toNat : Int) ≤ 90) ∨ (48 ≤ (s[k].toNat : Int) ∧ (s[k].toNat : Int) ≤ 57) ∨ (s[k].toNat : Int) = 45 ∨ (s[k].toNat : Int) < 45 ∨ (46 ≤ (s[k].toNat : Int) ∧ (s[k].toNat : Int) ≤ 47) ∨ (58 ≤ (s[k].toNat : Int) ∧ (s[k].toNat : Int) ≤ 64) ∨ (91 ≤ (s[k].toNat : Int) ∧ (s[k].toNat : Int) ≤ 96) ∨ 123 ≤ (s[k].toNat : Int) := by omega
        have c0 : 0 ≤ (s[k].toNat : Int) := by omega
        have hyes := Lib.hid (fun h : okAt s k = true => okTo_succ hok2 h)
        have hno := Lib.hid (fun h : okAt s k = false => nameB_no hlt h)
        by_cases hk0 : k = 0
        · subst hk0
          rcases hcl with ⟨ca, cb⟩ | ⟨ca, cb⟩ | ⟨ca, cb⟩ | ca | ca | ⟨ca, cb⟩ | ⟨ca, cb⟩ | ⟨ca, cb⟩ | ca
          all_goals first
            | (have hok : Hid (okTo s (0 + 1)) := hyes.out (by unfold okAt; rw [hb]; simp; omega)
               clear hyes hno hb
               go_wp2
               go_round
               case rel => exact ⟨1, by omega, rfl, hok.out⟩
               case measure => simp [intOf]; omega)
            | (have hfin : Hid (nameB s = false) := hno.out (by unfold okAt; rw [hb]; simp; omega)
               clear hyes hno hb
               try (have q0 : decide ((s[0].toNat : Int) ≤ 90) = false := by first | (simp; omega) | (simp; done))
               try (have q1 : decide ((s[0].toNat : Int) ≤ 122) = false := by first | (simp; omega) | (simp; done))
               try (have q2 : decide ((s[0].toNat : Int) ≤ 57) = false := by first | (simp; omega) | (simp; done))
               try (have q3 : ((s[0].toNat : Int) != 45) = true := by first | (simp; omega) | (simp; done))
               try (have q4 : ((s[0].toNat : Int) == 45) = false := by first | (simp; omega) | (simp; done))
               try (have q5 : decide (57 < (s[0].toNat : Int)) = true := by first | (simp; omega) | (simp; done))
               try (have q6 : decide (97 ≤ (s[0].toNat : Int)) = false := by first | (simp; omega) | (simp; done))
               try (have q7 : decide (65 ≤ (s[0].toNat : Int)) = false := by first | (simp; omega) | (simp; done))
               go_wp2
               go_ret
               exact ⟨ret_bool hfin.out.symm, rfl⟩)
        · have hk1 : 0 < (k : Int) := by omega
          have hk2 : ((k : Int) == 0) = false := by simp; omega
          rcases hcl with ⟨ca, cb⟩ | ⟨ca, cb⟩ | ⟨ca, cb⟩ | ca | ca | ⟨ca, cb⟩ | ⟨ca, cb⟩ | ⟨ca, cb⟩ | ca
          all_goals first
            | (have hok : Hid (okTo s (k + 1)) := hyes.out (by unfold okAt; rw [hb]; simp; omega)
               clear hyes hno hb hk0
               go_wp2
               go_round
               case rel => exact ⟨k + 1, by omega, by go_num, hok.out⟩
               case measure => simp [intOf]; omega)
            | (have hfin : Hid (nameB s = false) := hno.out (by unfold okAt; rw [hb]; simp; omega)
               clear hyes hno hb hk0
               try (have q0 : decide ((s[k].toNat : Int) ≤ 90) = false := by first | (simp; omega) | (simp; done))
               try (have q1 : decide ((s[k].toNat : Int) ≤ 122) = false := by first | (simp; omega) | (simp; done))
               try (have q2 : decide ((s[k].toNat : Int) ≤ 57) = false := by first | (simp; omega) | (simp; done))
               try (have q3 : ((s[k].toNat : Int) != 45) = true := by first | (simp; omega) | (simp; done))
               try (have q4 : ((s[k].toNat : Int) == 45) = false := by first | (simp; omega) | (simp; done))
               try (have q5 : decide (57 < (s[k].toNat : Int)) = true := by first | (simp; omega) | (simp; done))
               try (have q6 : decide (97 ≤ (s[k].toNat : Int)) = false := by first | (simp; omega) | (simp; done))
               try (have q7 : decide (65 ≤ (s[k].toNat : Int)) = false := by first | (simp; omega) | (simp; done))
               go_wp2
               go_ret
               exact ⟨ret_bool hfin.out.symm, rfl⟩)
      · obtain rfl : k = s.size := by omega
        have hfin := Lib.hid (nameB_yes h1 h12 hok2)
        go_wp2
        go_ret
        exact ⟨ret_bool hfin.out.symm, rfl⟩
  · have hfin := Lib.hid (nameB_size (s := s) (by omega))
    go_enter Tryz.func87, Tryz.ntmps87
    go_wp2
    go_ret
    exact ⟨ret_bool hfin.out.symm, rfl⟩
end Go.Proofs.YtconnjkkgaapbaaGreatDoor
