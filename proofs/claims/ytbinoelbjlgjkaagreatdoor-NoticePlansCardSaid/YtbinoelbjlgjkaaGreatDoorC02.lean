/- Chapter 8 and what it rests on: definitions and walks, part 02. -/
import Derived.Test.YtbinoelbjlgjkaaGreatDoorC01
namespace Go.Proofs.YtbinoelbjlgjkaaGreatDoor
open Go Go.RowKit

theorem refTab_1 (w : World) : (Instr.index 340 (.agg #[.int .i64 0, .int .i64 31, .int .i64 28, .int .i64 31, .int .i64 30, .int .i64 31, .int .i64 30, .int .i64 31, .int .i64 31, .int .i64 30, .int .i64 31, .int .i64 30, .int .i64 31]) (.int .i64 1)).run Tryz.prog w = .ok (.int .i64 31) w := by kernel_rfl
theorem refTab_2 (w : World) : (Instr.index 340 (.agg #[.int .i64 0, .int .i64 31, .int .i64 28, .int .i64 31, .int .i64 30, .int .i64 31, .int .i64 30, .int .i64 31, .int .i64 31, .int .i64 30, .int .i64 31, .int .i64 30, .int .i64 31]) (.int .i64 2)).run Tryz.prog w = .ok (.int .i64 28) w := by kernel_rfl
theorem refTab_3 (w : World) : (Instr.index 340 (.agg #[.int .i64 0, .int .i64 31, .int .i64 28, .int .i64 31, .int .i64 30, .int .i64 31, .int .i64 30, .int .i64 31, .int .i64 31, .int .i64 30, .int .i64 31, .int .i64 30, .int .i64 31]) (.int .i64 3)).run Tryz.prog w = .ok (.int .i64 31) w := by kernel_rfl
theorem refTab_4 (w : World) : (Instr.index 340 (.agg #[.int .i64 0, .int .i64 31, .int .i64 28, .int .i64 31, .int .i64 30, .int .i64 31, .int .i64 30, .int .i64 31, .int .i64 31, .int .i64 30, .int .i64 31, .int .i64 30, .int .i64 31]) (.int .i64 4)).run Tryz.prog w = .ok (.int .i64 30) w := by kernel_rfl
theorem refTab_5 (w : World) : (Instr.index 340 (.agg #[.int .i64 0, .int .i64 31, .int .i64 28, .int .i64 31, .int .i64 30, .int .i64 31, .int .i64 30, .int .i64 31, .int .i64 31, .int .i64 30, .int .i64 31, .int .i64 30, .int .i64 31]) (.int .i64 5)).run Tryz.prog w = .ok (.int .i64 31) w := by kernel_rfl
theorem refTab_6 (w : World) : (Instr.index 340 (.agg #[.int .i64 0, .int .i64 31, .int .i64 28, .int .i64 31, .int .i64 30, .int .i64 31, .int .i64 30, .int .i64 31, .int .i64 31, .int .i64 30, .int .i64 31, .int .i64 30, .int .i64 31]) (.int .i64 6)).run Tryz.prog w = .ok (.int .i64 30) w := by kernel_rfl
theorem refTab_7 (w : World) : (Instr.index 340 (.agg #[.int .i64 0, .int .i64 31, .int .i64 28, .int .i64 31, .int .i64 30, .int .i64 31, .int .i64 30, .int .i64 31, .int .i64 31, .int .i64 30, .int .i64 31, .int .i64 30, .int .i64 31]) (.int .i64 7)).run Tryz.prog w = .ok (.int .i64 31) w := by kernel_rfl
theorem refTab_8 (w : World) : (Instr.index 340 (.agg #[.int .i64 0, .int .i64 31, .int .i64 28, .int .i64 31, .int .i64 30, .int .i64 31, .int .i64 30, .int .i64 31, .int .i64 31, .int .i64 30, .int .i64 31, .int .i64 30, .int .i64 31]) (.int .i64 8)).run Tryz.prog w = .ok (.int .i64 31) w := by kernel_rfl
theorem refTab_9 (w : World) : (Instr.index 340 (.agg #[.int .i64 0, .int .i64 31, .int .i64 28, .int .i64 31, .int .i64 30, .int .i64 31, .int .i64 30, .int .i64 31, .int .i64 31, .int .i64 30, .int .i64 31, .int .i64 30, .int .i64 31]) (.int .i64 9)).run Tryz.prog w = .ok (.int .i64 30) w := by kernel_rfl
theorem refTab_10 (w : World) : (Instr.index 340 (.agg #[.int .i64 0, .int .i64 31, .int .i64 28, .int .i64 31, .int .i64 30, .int .i64 31, .int .i64 30, .int .i64 31, .int .i64 31, .int .i64 30, .int .i64 31, .int .i64 30, .int .i64 31]) (.int .i64 10)).run Tryz.prog w = .ok (.int .i64 31) w := by kernel_rfl
theorem refTab_11 (w : World) : (Instr.index 340 (.agg #[.int .i64 0, .int .i64 31, .int .i64 28, .int .i64 31, .int .i64 30, .int .i64 31, .int .i64 30, .int .i64 31, .int .i64 31, .int .i64 30, .int .i64 31, .int .i64 30, .int .i64 31]) (.int .i64 11)).run Tryz.prog w = .ok (.int .i64 30) w := by kernel_rfl
theorem refTab_12 (w : World) : (Instr.index 340 (.agg #[.int .i64 0, .int .i64 31, .int .i64 28, .int .i64 31, .int .i64 30, .int .i64 31, .int .i64 30, .int .i64 31, .int .i64 31, .int .i64 30, .int .i64 31, .int .i64 30, .int .i64 31]) (.int .i64 12)).run Tryz.prog w = .ok (.int .i64 31) w := by kernel_rfl
set_option maxRecDepth 100000 in
set_option maxHeartbeats 2000000 in
theorem MonthDays_any (y m : Int) (h0 : 0 ≤ y) (m1 : 1 ≤ m) (m2 : m ≤ 12) (w : World) :
    Calls Tryz.prog 224 #[.int .i64 y, .int .i64 m] w fun e w' => e = .returned (.int .i64 (Cal.mlen y m)) ∧ w = w' := by
  have h : m = 1 ∨ m = 2 ∨ m = 3 ∨ m = 4 ∨ m = 5 ∨ m = 6 ∨ m = 7 ∨ m = 8 ∨ m = 9 ∨ m = 10 ∨ m = 11 ∨ m = 12 := by omega
  clear m1 m2
  rcases h with rfl | rfl | rfl | rfl | rfl | rfl | rfl | rfl | rfl | rfl | rfl | rfl
  case inr.inl =>
    have i := refTab_2 w
    cases hl : Cal.leapB y
    all_goals
      go_enter Tryz.func224, Tryz.ntmps224
      go_wp2_with (go_at_call 278; refine (leap_any _ (by omega) _).mono ?_; rintro e w' ⟨rfl, rfl⟩)
      go_ret
      exact ⟨by simp [Cal.mlen, Cal.lp, hl], rfl⟩
  case inl =>
    have i := refTab_1 w
    go_enter Tryz.func224, Tryz.ntmps224
    go_wp2_with fail
    go_ret
    exact ⟨by simp [Cal.mlen], rfl⟩
  case inr.inr.inl =>
    have i := refTab_3 w
    go_enter Tryz.func224, Tryz.ntmps224
    go_wp2_with fail
    go_ret
    exact ⟨by simp [Cal.mlen], rfl⟩
  case inr.inr.inr.inl =>
    have i := refTab_4 w
    go_enter Tryz.func224, Tryz.ntmps224
    go_wp2_with fail
    go_ret
    exact ⟨by simp [Cal.mlen], rfl⟩
  case inr.inr.inr.inr.inl =>
    have i := refTab_5 w
    go_enter Tryz.func224, Tryz.ntmps224
    go_wp2_with fail
    go_ret
    exact ⟨by simp [Cal.mlen], rfl⟩
  case inr.inr.inr.inr.inr.inl =>
    have i := refTab_6 w
    go_enter Tryz.func224, Tryz.ntmps224
    go_wp2_with fail
    go_ret
    exact ⟨by simp [Cal.mlen], rfl⟩
  case inr.inr.inr.inr.inr.inr.inl =>
    have i := refTab_7 w
    go_enter Tryz.func224, Tryz.ntmps224
    go_wp2_with fail
    go_ret
    exact ⟨by simp [Cal.mlen], rfl⟩
  case inr.inr.inr.inr.inr.inr.inr.inl =>
    have i := refTab_8 w
    go_enter Tryz.func224, Tryz.ntmps224
    go_wp2_with fail
    go_ret
    exact ⟨by simp [Cal.mlen], rfl⟩
  case inr.inr.inr.inr.inr.inr.inr.inr.inl =>
    have i := refTab_9 w
    go_enter Tryz.func224, Tryz.ntmps224
    go_wp2_with fail
    go_ret
    exact ⟨by simp [Cal.mlen], rfl⟩
  case inr.inr.inr.inr.inr.inr.inr.inr.inr.inl =>
    have i := refTab_10 w
    go_enter Tryz.func224, Tryz.ntmps224
    go_wp2_with fail
    go_ret
    exact ⟨by simp [Cal.mlen], rfl⟩
  case inr.inr.inr.inr.inr.inr.inr.inr.inr.inr.inl =>
    have i := refTab_11 w
    go_enter Tryz.func224, Tryz.ntmps224
    go_wp2_with fail
    go_ret
    exact ⟨by simp [Cal.mlen], rfl⟩
  case inr.inr.inr.inr.inr.inr.inr.inr.inr.inr.inr =>
    have i := refTab_12 w
    go_enter Tryz.func224, Tryz.ntmps224
    go_wp2_with fail
    go_ret
    exact ⟨by simp [Cal.mlen], rfl⟩

theorem leaps_any (y : Int) (h0 : 0 ≤ y) (h1 : y ≤ 100000) (w : World) :
    Calls Tryz.prog 277 #[.int .i64 y] w fun e w' => e = .returned (.int .i64 (y / 4 - y / 100 + y / 400)) ∧ w = w' := by
  go_enter Tryz.func277, Tryz.ntmps277
  go_wp2
  go_ret
  exact ⟨rfl, rfl⟩
theorem First_any (y m : Int) (y0 : 1800 ≤ y) (y1 : y ≤ 3000) (m1 : 1 ≤ m) (m2 : m ≤ 12) (w : World) :
    Calls Tryz.prog 223 #[.int .i64 y, .int .i64 m] w fun e w' => e = .returned (.int .i64 (Cal.first y m)) ∧ w = w' := by
  have hb := Cal.beg_mono y0
  have hb2 := Cal.beg_mono y1
  rw [Cal.beg_1800] at hb
  have e3 : Cal.beg 3000 = 438291 := by decide
  rw [e3] at hb2
  clear e3
  have hu : Hid (365 * (y - 1800) + ((y - 1) / 4 - (y - 1) / 100 + (y - 1) / 400) - 436 = Cal.beg y) := by show _ = _; unfold Cal.beg; omega
  go_enter Tryz.func223, Tryz.ntmps223
  go_wp2_with (go_at_call 277; refine (leaps_any _ (by omega) (by omega) _).mono ?_; rintro e w' ⟨rfl, rfl⟩)
  go_loop [5, 6] (fun n i => ∃ k : Int, 1 ≤ k ∧ k ≤ m ∧ i = .int .i64 k ∧ n = .int .i64 (Cal.beg y + Cal.cum y k)) (fun _ i => (m - intOf i).toNat)
  case atStart => exact ⟨1, by omega, by omega, rfl, by rw [Cal.cum_1]; simp; rw [← hu.out]; try omega⟩
  case round =>
    obtain ⟨k, k1, k2, rfl, rfl⟩ := hrel
    have cb := Cal.cum_bd y k
    by_cases hlt : k < m
    · have cs := Lib.hid (Cal.cum_succ y k (by omega) (by omega))
      have mb := Cal.mlen_bd y k
      go_wp2_with (go_at_call 224; refine (MonthDays_any _ _ (by omega) (by omega) (by omega) _).mono ?_; rintro e w' ⟨rfl, rfl⟩)
      go_round
      case rel => exact ⟨k + 1, by omega, by omega, rfl, by rw [cs.out]; go_num⟩
      case measure => simp [intOf]; omega
    · obtain rfl : k = m := by omega
      go_wp2
      go_ret
      exact ⟨rfl, rfl⟩
set_option maxHeartbeats 400000 in
theorem DateOf_any (day : Int) (y0 : 0 ≤ day) (y1 : day ≤ 200000) (w : World) :
    Calls Tryz.prog 219 #[.int .i64 day] w fun e w' => e = .returned (.agg #[.int .i64 (Cal.dY day), .int .i64 (Cal.dM day), .int .i64 (Cal.dD day)]) ∧ Below w.heap.size w w' := by
  have g0 := Cal.beg_guess day y0
  have g1 := Cal.year_lo day y0
  go_enter Tryz.func219, Tryz.ntmps219
  go_wp2
  go_loopg [] 600 (fun k wr => ∃ y : Int, 1800 ≤ y ∧ y + k ≤ 3000 ∧ 2348 ≤ y + k ∧ Cal.beg y ≤ day ∧ wr = (w.alloc (.cells #[.int .i64 0, .int .i64 0, .int .i64 0] 126)).alloc (.cells #[.int .i64 y, .int .i64 1, .int .i64 0] 126))
  case atStart => exact ⟨_, g1, by omega, by omega, g0, rfl⟩
  case round =>
    obtain ⟨y, hy, hk, hk2, hb, rfl⟩ := hrel
    clear g0 g1
    have hyh := Cal.year_hi y day hb y1
    have hb0 := Cal.beg_mono hy
    rw [Cal.beg_1800] at hb0
    have hbs := Cal.beg_lt (a := y) (b := y + 1) (by omega)
    by_cases hlt : Cal.beg (y + 1) ≤ day
    · have hyh2 := Cal.year_hi (y + 1) day hlt y1
      have hf : Cal.first (y + 1) 1 ≤ day := by rw [Cal.first_1]; exact hlt
      go_wp2_with (go_at_call 223; refine (First_any _ _ (by omega) (by omega) (by omega) (by omega) _).mono ?_; rintro e w' ⟨rfl, rfl⟩)
      go_roundg (gk - 1)
      case measure => omega
      case rel => exact ⟨y + 1, by omega, by omega, by omega, hlt, rfl⟩
    · have hf : ¬ Cal.first (y + 1) 1 ≤ day := by rw [Cal.first_1]; exact hlt
      go_wp2_with (go_at_call 223; refine (First_any _ _ (by omega) (by omega) (by omega) (by omega) _).mono ?_; rintro e w' ⟨rfl, rfl⟩)
      have hb1 : day < Cal.beg (y + 1) := by omega
      clear hf hlt
      have hf1 : Cal.first y 1 ≤ day := by rw [Cal.first_1]; exact hb
      go_loopg [] 12 (fun k wr => ∃ m : Int, 1 ≤ m ∧ m ≤ 12 ∧ m + k = 13 ∧ Cal.first y m ≤ day ∧ wr = (w.alloc (.cells #[.int .i64 0, .int .i64 0, .int .i64 0] 126)).alloc (.cells #[.int .i64 y, .int .i64 m, .int .i64 0] 126))
      case atStart => exact ⟨1, by omega, by omega, by omega, hf1, rfl⟩
      case round =>
        obtain ⟨m, m1, m2, mk, hr, rfl⟩ := hrel
        clear hf1
        have mk2 := Lib.hid mk
        clear mk
        by_cases hm : m < 12
        · by_cases hge : Cal.first y (m + 1) ≤ day
          · go_wp2_with (go_at_call 223; refine (First_any _ _ (by omega) (by omega) (by omega) (by omega) _).mono ?_; rintro e w' ⟨rfl, rfl⟩)
            go_roundg (gk - 1)
            case measure => have := mk2.out; omega
            case rel => exact ⟨m + 1, by omega, by omega, by have := mk2.out; omega, hge, rfl⟩
          · obtain ⟨ey, em, ed⟩ := Cal.date_of' y m day y0 y1 m1 m2 hr (by omega)
            have hfin := Lib.hid (And.intro ey (And.intro em ed))
            clear ey em ed
            have hfl := Cal.first_bd y m hy (by omega)
            go_wp2_with (go_at_call 223; refine (First_any _ _ (by omega) (by omega) (by omega) (by omega) _).mono ?_; rintro e w' ⟨rfl, rfl⟩)
            refine bodyPost_ret (v := .agg #[.int .i64 y, .int .i64 m, .int .i64 (day - Cal.first y m + 1)]) (by simp [results, Tryz.results219, go_sem]) rfl ⟨?_, ?_⟩
            · obtain ⟨ey, em, ed⟩ := hfin.out
              rw [ey, em] at ed ⊢; rw [ed]
            · exact ((Below.refl _ _).alloc (Nat.le_refl _) _).alloc (by simp) _
        · obtain ⟨ey, em, ed⟩ := Cal.date_of' y m day y0 y1 m1 m2 hr (by
            obtain rfl : m = 12 := by omega
            rw [show (12 : Int) + 1 = 13 from rfl, Cal.first_13]; exact hb1)
          have hfin := Lib.hid (And.intro ey (And.intro em ed))
          clear ey em ed
          have hfl := Cal.first_bd y m hy (by omega)
          go_wp2_with (go_at_call 223; refine (First_any _ _ (by omega) (by omega) (by omega) (by omega) _).mono ?_; rintro e w' ⟨rfl, rfl⟩)
          refine bodyPost_ret (v := .agg #[.int .i64 y, .int .i64 m, .int .i64 (day - Cal.first y m + 1)]) (by simp [results, Tryz.results219, go_sem]) rfl ⟨?_, ?_⟩
          · obtain ⟨ey, em, ed⟩ := hfin.out
            rw [ey, em] at ed ⊢; rw [ed]
          · exact ((Below.refl _ _).alloc (Nat.le_refl _) _).alloc (by simp) _
end Go.Proofs.YtbinoelbjlgjkaaGreatDoor
namespace Go.Proofs.YtbinoelbjlgjkaaGreatDoor
open Go Go.RowKit

/-- DayOf: the day and the error. -/
def Cal.dayOfS (y m d : Int) : Int × Int :=
  if 1800 ≤ y ∧ y ≤ 2347 then
    if 1 ≤ m ∧ m ≤ 12 ∧ 1 ≤ d ∧ d ≤ Cal.mlen y m then
      if Cal.first y m + d - 1 ≤ 200000 then (Cal.first y m + d - 1, 0) else (0, 2)
    else (0, 24)
  else (0, 2)

theorem IsYear_any (n : Int) (w : World) : Calls Tryz.prog 222 #[.int .i64 n] w fun e w' => e = .returned (.bool (decide (1800 ≤ n) && decide (n ≤ 2347))) ∧ w = w' := by
  go_enter Tryz.func222, Tryz.ntmps222
  go_wp2_with (go_at_call 92; refine (Within_any _ _ _ _).mono ?_; rintro e w' ⟨rfl, rfl⟩)
  go_ret
  exact ⟨rfl, rfl⟩
theorem IsDay_any (n : Int) (w : World) : Calls Tryz.prog 29 #[.int .i64 n] w fun e w' => e = .returned (.bool (decide (0 ≤ n) && decide (n ≤ 200000))) ∧ w = w' := by
  go_enter Tryz.func29, Tryz.ntmps29
  go_wp2_with (go_at_call 92; refine (Within_any _ _ _ _).mono ?_; rintro e w' ⟨rfl, rfl⟩)
  go_ret
  exact ⟨rfl, rfl⟩
theorem isFull_any (n : Int) (w : World) : Calls Tryz.prog 127 #[.int .i64 n] w fun e w' => e = .returned (.bool (decide (1800 ≤ n) && decide (n ≤ 2346))) ∧ w = w' := by
  go_enter Tryz.func127, Tryz.ntmps127
  go_wp2_with (go_at_call 123; refine (within_any _ _ _ _).mono ?_; rintro e w' ⟨rfl, rfl⟩)
  go_ret
  exact ⟨rfl, rfl⟩

set_option maxHeartbeats 1000000 in
theorem DayOf_any (y m d : Int) (w : World) (hT : Tab w) :
    Calls Tryz.prog 62 #[.agg #[.int .i64 y, .int .i64 m, .int .i64 d]] w fun e w' => e = .returned (.tuple #[.int .i64 (Cal.dayOfS y m d).1, .int .i64 (Cal.dayOfS y m d).2]) ∧ Below w.heap.size w w' := by
  have hT' := Lib.hid (fun o n => (hT.alloc o).drewN n); clear hT
  by_cases hy1 : 1800 ≤ y
  · by_cases hy2 : y ≤ 2347
    · by_cases hm1 : 1 ≤ m
      · by_cases hm2 : m ≤ 12
        · have hmb := Cal.mlen_bd y m
          have hfb := Cal.first_bd y m hy1 (by omega)
          by_cases hd1 : 1 ≤ d
          · by_cases hd2 : d ≤ Cal.mlen y m
            · by_cases hn : Cal.first y m + d - 1 ≤ 200000
              · go_enter Tryz.func62, Tryz.ntmps62
                go_wp2_with (((first | (go_at_call 123) | (go_at_call 92) | (go_at_call 126) | (go_at_call 29) | (go_at_call 222) | (fail) | (go_at_call 127)); first | refine rin ?_ | refine rout ?_ | refine rany ?_))
                go_quiet (first | (((first | (go_at_call 123) | (go_at_call 92) | (go_at_call 126) | (go_at_call 29) | (go_at_call 222) | (fail) | (go_at_call 127)); first | exact qin | exact qout | exact qany)) | (go_at_call 124; exact quiet_left (length_any _ _ (by omega) hm1 hm2 _ (hT'.out _ _))))
                go_wp2_with (first | (go_at_call 125; refine (dayOf_any _ _ _ (by omega) (by omega) hm1 hm2 (by omega) (by omega) _ (hT'.out _ _)).mono ?_; rintro e w' ⟨rfl, rfl⟩) | (((first | (go_at_call 123) | (go_at_call 92) | (go_at_call 126) | (go_at_call 29) | (go_at_call 222) | (fail) | (go_at_call 127)); first | refine rin ?_ | refine rout ?_ | refine rany ?_)))
                go_ret2
                exact ⟨by unfold Cal.dayOfS; repeat' split
                          all_goals first | rfl | (exfalso; omega), by first | exact below_drewN (below_alloc _ _) _ | exact below_alloc _ _⟩
              · go_enter Tryz.func62, Tryz.ntmps62
                go_wp2_with (((first | (go_at_call 123) | (go_at_call 92) | (go_at_call 126) | (go_at_call 29) | (go_at_call 222) | (fail) | (go_at_call 127)); first | refine rin ?_ | refine rout ?_ | refine rany ?_))
                go_quiet (first | (((first | (go_at_call 123) | (go_at_call 92) | (go_at_call 126) | (go_at_call 29) | (go_at_call 222) | (fail) | (go_at_call 127)); first | exact qin | exact qout | exact qany)) | (go_at_call 124; exact quiet_left (length_any _ _ (by omega) hm1 hm2 _ (hT'.out _ _))))
                go_wp2_with (first | (go_at_call 125; refine (dayOf_any _ _ _ (by omega) (by omega) hm1 hm2 (by omega) (by omega) _ (hT'.out _ _)).mono ?_; rintro e w' ⟨rfl, rfl⟩) | (((first | (go_at_call 123) | (go_at_call 92) | (go_at_call 126) | (go_at_call 29) | (go_at_call 222) | (fail) | (go_at_call 127)); first | refine rin ?_ | refine rout ?_ | refine rany ?_)))
                go_ret2
                exact ⟨by unfold Cal.dayOfS; repeat' split
                          all_goals first | rfl | (exfalso; omega), by first | exact below_drewN (below_alloc _ _) _ | exact below_alloc _ _⟩
            · go_enter Tryz.func62, Tryz.ntmps62
              go_wp2_with (((first | (go_at_call 123) | (go_at_call 92) | (go_at_call 126) | (go_at_call 29) | (go_at_call 222) | (fail) | (go_at_call 127)); first | refine rin ?_ | refine rout ?_ | refine rany ?_))
              go_quiet (first | (((first | (go_at_call 123) | (go_at_call 92) | (go_at_call 126) | (go_at_call 29) | (go_at_call 222) | (fail) | (go_at_call 127)); first | exact qin | exact qout | exact qany)) | (go_at_call 124; exact quiet_left (length_any _ _ (by omega) hm1 hm2 _ (hT'.out _ _))))
              go_wp2
              go_ret2
              exact ⟨by unfold Cal.dayOfS; repeat' split
                        all_goals first | rfl | (exfalso; omega), by first | exact below_drewN (below_alloc _ _) _ | exact below_alloc _ _⟩
          · go_enter Tryz.func62, Tryz.ntmps62
            go_wp2_with (((first | (go_at_call 123) | (go_at_call 92) | (go_at_call 126) | (go_at_call 29) | (go_at_call 222) | (fail) | (go_at_call 127)); first | refine rin ?_ | refine rout ?_ | refine rany ?_))
            go_quiet (first | (((first | (go_at_call 123) | (go_at_call 92) | (go_at_call 126) | (go_at_call 29) | (go_at_call 222) | (fail) | (go_at_call 127)); first | exact qin | exact qout | exact qany)) | (go_at_call 124; exact quiet_left (length_any _ _ (by omega) hm1 hm2 _ (hT'.out _ _))))
            go_wp2
            go_ret2
            exact ⟨by unfold Cal.dayOfS; repeat' split
                      all_goals first | rfl | (exfalso; omega), by first | exact below_drewN (below_alloc _ _) _ | exact below_alloc _ _⟩
        · go_enter Tryz.func62, Tryz.ntmps62
          go_wp2_with (((first | (go_at_call 123) | (go_at_call 92) | (go_at_call 126) | (go_at_call 29) | (go_at_call 222) | (fail) | (go_at_call 127)); first | refine rin ?_ | refine rout ?_ | refine rany ?_))
          go_quiet (((first | (go_at_call 123) | (go_at_call 92) | (go_at_call 126) | (go_at_call 29) | (go_at_call 222) | (fail) | (go_at_call 127)); first | exact qin | exact qout | exact qany))
          go_wp2
          go_ret2
          exact ⟨by unfold Cal.dayOfS; repeat' split
                    all_goals first | rfl | (exfalso; omega), by first | exact below_drewN (below_alloc _ _) _ | exact below_alloc _ _⟩
      · go_enter Tryz.func62, Tryz.ntmps62
        go_wp2_with (((first | (go_at_call 123) | (go_at_call 92) | (go_at_call 126) | (go_at_call 29) | (go_at_call 222) | (fail) | (go_at_call 127)); first | refine rin ?_ | refine rout ?_ | refine rany ?_))
        go_quiet (((first | (go_at_call 123) | (go_at_call 92) | (go_at_call 126) | (go_at_call 29) | (go_at_call 222) | (fail) | (go_at_call 127)); first | exact qin | exact qout | exact qany))
        go_wp2
        go_ret2
        exact ⟨by unfold Cal.dayOfS; repeat' split
                  all_goals first | rfl | (exfalso; omega), by first | exact below_drewN (below_alloc _ _) _ | exact below_alloc _ _⟩
    · go_enter Tryz.func62, Tryz.ntmps62
      go_wp2_with (((first | (go_at_call 123) | (go_at_call 92) | (go_at_call 126) | (go_at_call 29) | (go_at_call 222) | (fail) | (go_at_call 127)); first | refine rin ?_ | refine rout ?_ | refine rany ?_))
      skip
      skip
      go_ret2
      exact ⟨by unfold Cal.dayOfS; repeat' split
                all_goals first | rfl | (exfalso; omega), by first | exact below_drewN (below_alloc _ _) _ | exact below_alloc _ _⟩
  · go_enter Tryz.func62, Tryz.ntmps62
    go_wp2_with (((first | (go_at_call 123) | (go_at_call 92) | (go_at_call 126) | (go_at_call 29) | (go_at_call 222) | (fail) | (go_at_call 127)); first | refine rin ?_ | refine rout ?_ | refine rany ?_))
    skip
    skip
    go_ret2
    exact ⟨by unfold Cal.dayOfS; repeat' split
              all_goals first | rfl | (exfalso; omega), by first | exact below_drewN (below_alloc _ _) _ | exact below_alloc _ _⟩
end Go.Proofs.YtbinoelbjlgjkaaGreatDoor
namespace Go.Proofs.YtbinoelbjlgjkaaGreatDoor
open Go Go.RowKit

theorem Mod_any (n m : Int) (h0 : 0 < m) (h1 : m ≤ 100000000) (w : World) :
    Calls Tryz.prog 221 #[.int .i64 n, .int .i64 m] w fun e w' => e = .returned (.int .i64 (n % m)) ∧ w = w' := by
  have e1 : Int.tmod n m = n % m - if 0 ≤ n ∨ m ∣ n then 0 else (m : Int) := by
    rw [Int.tmod_eq_emod]; split <;> simp; omega
  have b0 := Int.emod_nonneg n (show m ≠ 0 by omega)
  have b1 := Int.emod_lt_of_pos n h0
  have e2 : Hid ((n.tmod m + m) % m = n % m) := by
    show _ = _
    rw [e1]; split
    · rw [show n % m - 0 + m = n % m + m by omega, Int.add_emod_right, Int.emod_emod]
    · rw [show n % m - m + m = n % m by omega, Int.emod_emod]
  have e3 : 0 ≤ n.tmod m + m := by rw [e1]; split <;> omega
  have e4 : n.tmod m + m ≤ 200000000 := by rw [e1]; split <;> omega
  clear e1 b0 b1
  go_enter Tryz.func221, Tryz.ntmps221
  go_wp2
  go_ret
  exact ⟨ret_int (by first | exact e2.out | (rw [← e2.out]; rfl)), rfl⟩
theorem Floor_any (n m : Int) (h0 : 0 < m) (h1 : m ≤ 100000000) (a : -1000000000000000 ≤ n) (b : n ≤ 1000000000000000) (w : World) :
    Calls Tryz.prog 220 #[.int .i64 n, .int .i64 m] w fun e w' => e = .returned (.int .i64 (n / m)) ∧ w = w' := by
  have b0 := Int.emod_nonneg n (show m ≠ 0 by omega)
  have b1 := Int.emod_lt_of_pos n h0
  have e1 : Hid ((n - n % m).tdiv m = n / m) := by
    show _ = _
    have h := Int.mul_ediv_add_emod n m
    rw [show n - n % m = m * (n / m) by omega, Int.mul_tdiv_cancel_left _ (by omega)]
  go_enter Tryz.func220, Tryz.ntmps220
  go_wp2_with (go_at_call 221; refine (Mod_any _ _ h0 h1 _).mono ?_; rintro e w' ⟨rfl, rfl⟩)
  go_ret
  exact ⟨ret_int e1.out, rfl⟩

/-- So many months later: the number and whether it is a day. -/
def Cal.laterT (day months : Int) : Int := 12 * Cal.dY day + Cal.dM day - 1 + months
def Cal.laterS (day months : Int) : Int × Bool :=
  if 1800 ≤ Cal.laterT day months / 12 ∧ Cal.laterT day months / 12 ≤ 2347 then
    (Cal.first (Cal.laterT day months / 12) (Cal.laterT day months % 12 + 1) + min (Cal.dD day) (Cal.mlen (Cal.laterT day months / 12) (Cal.laterT day months % 12 + 1)) - 1,
      decide (Cal.first (Cal.laterT day months / 12) (Cal.laterT day months % 12 + 1) + min (Cal.dD day) (Cal.mlen (Cal.laterT day months / 12) (Cal.laterT day months % 12 + 1)) - 1 ≤ 200000))
  else (0, false)

theorem ret_ib {a b : Int} {c d : Bool} (h : a = b) (h2 : c = d) : Ending.returned (.tuple #[.int .i64 a, .bool c]) = .returned (.tuple #[.int .i64 b, .bool d]) := by rw [h, h2]
theorem Cal.laterS_no {day months : Int} (h : ¬ (1800 ≤ Cal.laterT day months / 12 ∧ Cal.laterT day months / 12 ≤ 2347)) : Cal.laterS day months = (0, false) := by
  unfold Cal.laterS; rw [if_neg h]
theorem Cal.laterS_yes {day months : Int} (h : 1800 ≤ Cal.laterT day months / 12) (h2 : Cal.laterT day months / 12 ≤ 2347) :
    Cal.laterS day months = (Cal.first (Cal.laterT day months / 12) (Cal.laterT day months % 12 + 1) + min (Cal.dD day) (Cal.mlen (Cal.laterT day months / 12) (Cal.laterT day months % 12 + 1)) - 1,
      decide (Cal.first (Cal.laterT day months / 12) (Cal.laterT day months % 12 + 1) + min (Cal.dD day) (Cal.mlen (Cal.laterT day months / 12) (Cal.laterT day months % 12 + 1)) - 1 ≤ 200000)) := by
  unfold Cal.laterS; rw [if_pos ⟨h, h2⟩]
theorem later_any (day months : Int) (y0 : 0 ≤ day) (y1 : day ≤ 200000) (m0 : -12000 ≤ months) (m1 : months ≤ 12000) (w : World) (hT : Tab w) :
    Calls Tryz.prog 273 #[.int .i64 day, .int .i64 months] w fun e w' => e = .returned (.tuple #[.int .i64 (Cal.laterS day months).1, .bool (Cal.laterS day months).2]) ∧ Below w.heap.size w w' := by
  have hd := Cal.date_spec day y0 (by omega)
  obtain ⟨dy0, dy1⟩ := Cal.dY_bd day y0 y1
  obtain ⟨dm1, dm2, dd1, dd2, dd3⟩ := hd
  have dd4 := Cal.mlen_bd (Cal.dY day) (Cal.dM day)
  clear dd3
  have hT' := Lib.hid hT; clear hT
  have hno := Lib.hid (@Cal.laterS_no day months)
  have hyes := Lib.hid (@Cal.laterS_yes day months)
  unfold Cal.laterT at hno hyes
  have ht : 0 ≤ 12 * Cal.dY day + Cal.dM day - 1 + months := by omega
  by_cases hy1 : 1800 ≤ (12 * Cal.dY day + Cal.dM day - 1 + months) / 12
  · by_cases hy2 : (12 * Cal.dY day + Cal.dM day - 1 + months) / 12 ≤ 2347
    · have hfin := Lib.hid (hyes.out hy1 hy2)
      have hdec := Lib.hid (show decide ((12 * Cal.dY day + Cal.dM day - 1 + months) < 0) = false by simp; omega)
      have mb := Cal.mlen_bd ((12 * Cal.dY day + Cal.dM day - 1 + months) / 12) ((12 * Cal.dY day + Cal.dM day - 1 + months) % 12 + 1)
      have fb := Cal.first_bd ((12 * Cal.dY day + Cal.dM day - 1 + months) / 12) ((12 * Cal.dY day + Cal.dM day - 1 + months) % 12 + 1) hy1 (by omega)
      by_cases hmin : Cal.mlen ((12 * Cal.dY day + Cal.dM day - 1 + months) / 12) ((12 * Cal.dY day + Cal.dM day - 1 + months) % 12 + 1) < Cal.dD day
      · by_cases hn : Cal.first ((12 * Cal.dY day + Cal.dM day - 1 + months) / 12) ((12 * Cal.dY day + Cal.dM day - 1 + months) % 12 + 1) + Cal.mlen ((12 * Cal.dY day + Cal.dM day - 1 + months) / 12) ((12 * Cal.dY day + Cal.dM day - 1 + months) % 12 + 1) - 1 ≤ 200000
        · go_enter Tryz.func273, Tryz.ntmps273
          go_wp2_with (first | (go_at_call 287; refine (dateOf_any day y0 y1 _ hT'.out).mono ?_; rintro e w1 ⟨rfl, hb1⟩) | (((first | (go_at_call 123) | (go_at_call 92) | (go_at_call 126) | (go_at_call 29) | (go_at_call 222) | (fail) | (go_at_call 127)); first | refine rin ?_ | refine rout ?_ | refine rany ?_)))
          have hTm := Lib.hid (fun o n => ((hT'.out.below hb1).alloc o).drewN n)
          go_quiet (first | (go_at_call 124; exact quiet_left (length_any _ _ (by omega) (by omega) (by omega) _ (hTm.out _ _))) | (go_at_call 125; exact quiet_left (dayOf_any _ _ _ (by omega) (by omega) (by omega) (by omega) (by omega) (by omega) _ (hTm.out _ _))))
          go_wp2_with (((first | (go_at_call 123) | (go_at_call 92) | (go_at_call 126) | (go_at_call 29) | (go_at_call 222) | (fail) | (go_at_call 127)); first | refine rin ?_ | refine rout ?_ | refine rany ?_))
          go_ret2
          exact ⟨by rw [hfin.out]; exact ret_ib (by omega) (by simp; omega), below_drewN (hb1.alloc hb1.size _) _⟩
        · go_enter Tryz.func273, Tryz.ntmps273
          go_wp2_with (first | (go_at_call 287; refine (dateOf_any day y0 y1 _ hT'.out).mono ?_; rintro e w1 ⟨rfl, hb1⟩) | (((first | (go_at_call 123) | (go_at_call 92) | (go_at_call 126) | (go_at_call 29) | (go_at_call 222) | (fail) | (go_at_call 127)); first | refine rin ?_ | refine rout ?_ | refine rany ?_)))
          have hTm := Lib.hid (fun o n => ((hT'.out.below hb1).alloc o).drewN n)
          go_quiet (first | (go_at_call 124; exact quiet_left (length_any _ _ (by omega) (by omega) (by omega) _ (hTm.out _ _))) | (go_at_call 125; exact quiet_left (dayOf_any _ _ _ (by omega) (by omega) (by omega) (by omega) (by omega) (by omega) _ (hTm.out _ _))))
          go_wp2_with (((first | (go_at_call 123) | (go_at_call 92) | (go_at_call 126) | (go_at_call 29) | (go_at_call 222) | (fail) | (go_at_call 127)); first | refine rin ?_ | refine rout ?_ | refine rany ?_))
          go_ret2
          exact ⟨by rw [hfin.out]; exact ret_ib (by omega) (by simp; omega), below_drewN (hb1.alloc hb1.size _) _⟩
      · by_cases hn : Cal.first ((12 * Cal.dY day + Cal.dM day - 1 + months) / 12) ((12 * Cal.dY day + Cal.dM day - 1 + months) % 12 + 1) + Cal.dD day - 1 ≤ 200000
        · go_enter Tryz.func273, Tryz.ntmps273
          go_wp2_with (first | (go_at_call 287; refine (dateOf_any day y0 y1 _ hT'.out).mono ?_; rintro e w1 ⟨rfl, hb1⟩) | (((first | (go_at_call 123) | (go_at_call 92) | (go_at_call 126) | (go_at_call 29) | (go_at_call 222) | (fail) | (go_at_call 127)); first | refine rin ?_ | refine rout ?_ | refine rany ?_)))
          have hTm := Lib.hid (fun o n => ((hT'.out.below hb1).alloc o).drewN n)
          go_quiet (first | (go_at_call 124; exact quiet_left (length_any _ _ (by omega) (by omega) (by omega) _ (hTm.out _ _))) | (go_at_call 125; exact quiet_left (dayOf_any _ _ _ (by omega) (by omega) (by omega) (by omega) (by omega) (by omega) _ (hTm.out _ _))))
          go_wp2_with (((first | (go_at_call 123) | (go_at_call 92) | (go_at_call 126) | (go_at_call 29) | (go_at_call 222) | (fail) | (go_at_call 127)); first | refine rin ?_ | refine rout ?_ | refine rany ?_))
          go_ret2
          exact ⟨by rw [hfin.out]; exact ret_ib (by omega) (by simp; omega), below_drewN (hb1.alloc hb1.size _) _⟩
        · go_enter Tryz.func273, Tryz.ntmps273
          go_wp2_with (first | (go_at_call 287; refine (dateOf_any day y0 y1 _ hT'.out).mono ?_; rintro e w1 ⟨rfl, hb1⟩) | (((first | (go_at_call 123) | (go_at_call 92) | (go_at_call 126) | (go_at_call 29) | (go_at_call 222) | (fail) | (go_at_call 127)); first | refine rin ?_ | refine rout ?_ | refine rany ?_)))
          have hTm := Lib.hid (fun o n => ((hT'.out.below hb1).alloc o).drewN n)
          go_quiet (first | (go_at_call 124; exact quiet_left (length_any _ _ (by omega) (by omega) (by omega) _ (hTm.out _ _))) | (go_at_call 125; exact quiet_left (dayOf_any _ _ _ (by omega) (by omega) (by omega) (by omega) (by omega) (by omega) _ (hTm.out _ _))))
          go_wp2_with (((first | (go_at_call 123) | (go_at_call 92) | (go_at_call 126) | (go_at_call 29) | (go_at_call 222) | (fail) | (go_at_call 127)); first | refine rin ?_ | refine rout ?_ | refine rany ?_))
          go_ret2
          exact ⟨by rw [hfin.out]; exact ret_ib (by omega) (by simp; omega), below_drewN (hb1.alloc hb1.size _) _⟩
    · have hfin := Lib.hid (hno.out (by omega))
      go_enter Tryz.func273, Tryz.ntmps273
      go_wp2_with (first | (go_at_call 287; refine (dateOf_any day y0 y1 _ hT'.out).mono ?_; rintro e w1 ⟨rfl, hb1⟩) | (((first | (go_at_call 123) | (go_at_call 92) | (go_at_call 126) | (go_at_call 29) | (go_at_call 222) | (fail) | (go_at_call 127)); first | refine rin ?_ | refine rout ?_ | refine rany ?_)))
      go_ret2
      exact ⟨by rw [hfin.out]; rfl, hb1.alloc hb1.size _⟩
  · have hfin := Lib.hid (hno.out (by omega))
    go_enter Tryz.func273, Tryz.ntmps273
    go_wp2_with (first | (go_at_call 287; refine (dateOf_any day y0 y1 _ hT'.out).mono ?_; rintro e w1 ⟨rfl, hb1⟩) | (((first | (go_at_call 123) | (go_at_call 92) | (go_at_call 126) | (go_at_call 29) | (go_at_call 222) | (fail) | (go_at_call 127)); first | refine rin ?_ | refine rout ?_ | refine rany ?_)))
    go_ret2
    exact ⟨by rw [hfin.out]; rfl, hb1.alloc hb1.size _⟩
end Go.Proofs.YtbinoelbjlgjkaaGreatDoor
