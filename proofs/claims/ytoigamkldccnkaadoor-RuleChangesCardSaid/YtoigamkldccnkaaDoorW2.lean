/- The walks of dayOf, dateOf and of the reference's First, MonthDays, DateOf. -/
import Derived.Test.YtoigamkldccnkaaDoorW1
namespace Go.Proofs.YtoigamkldccnkaaDoor
open Go Go.RowKit


theorem dayOf_any (y m d : Int) (y0 : 1800 ≤ y) (y1 : y ≤ 3000) (m1 : 1 ≤ m) (m2 : m ≤ 12) (d0 : -100000 ≤ d) (d1 : d ≤ 100000) (w : World) (hT : Tab w) :
    Calls Tryd.prog 88 #[.int .i64 y, .int .i64 m, .int .i64 d] w fun e w' => e = .returned (.int .i64 (Cal.first y m + d - 1)) ∧ w = w' := by
  have hb := Cal.beg_mono y0
  have hb2 := Cal.beg_mono y1
  rw [Cal.beg_1800] at hb
  have e3 : Cal.beg 3000 = 438291 := by decide
  rw [e3] at hb2
  clear e3
  have hT' := Lib.hid hT; clear hT
  go_enter Tryd.func88, Tryd.ntmps88
  go_wp2_with (go_at_call 106; refine (begin_any _ _ (by omega) (by omega)).mono ?_; rintro e w' ⟨rfl, rfl⟩)
  go_loop [7, 8] (fun n i => ∃ k : Int, 1 ≤ k ∧ k ≤ m ∧ i = .int .i64 k ∧ n = .int .i64 (Cal.beg y + d - 1 + Cal.cum y k)) (fun _ i => (m - intOf i).toNat)
  case atStart => exact ⟨1, by omega, by omega, rfl, by simp [Cal.cum_1]⟩
  case round =>
    obtain ⟨k, k1, k2, rfl, rfl⟩ := hrel
    have cb := Cal.cum_bd y k
    by_cases hlt : k < m
    · have cs := Lib.hid (Cal.cum_succ y k (by omega) (by omega))
      have mb := Cal.mlen_bd y k
      go_wp2_with (go_at_call 87; refine (length_any _ _ (by omega) (by omega) (by omega) _ hT'.out).mono ?_; rintro e w' ⟨rfl, rfl⟩)
      go_round
      case rel => exact ⟨k + 1, by omega, by omega, rfl, by rw [cs.out]; go_num⟩
      case measure => simp [intOf]; omega
    · obtain rfl : k = m := by omega
      go_wp2
      go_ret
      exact ⟨ret_int (by unfold Cal.first; omega), rfl⟩

set_option maxHeartbeats 400000 in
theorem dateOf_any (day : Int) (y0 : 0 ≤ day) (y1 : day ≤ 200000) (w : World) (hT : Tab w) :
    Calls Tryd.prog 82 #[.int .i64 day] w fun e w' => e = .returned (.agg #[.int .i64 (Cal.dY day), .int .i64 (Cal.dM day), .int .i64 (Cal.dD day)]) ∧ Below w.heap.size w w' := by
  have hT' := Lib.hid hT; clear hT
  have g0 := Cal.beg_guess day y0
  have g1 := Cal.year_lo day y0
  go_enter Tryd.func82, Tryd.ntmps82
  go_wp2
  go_loopg [] 600 (fun k wr => ∃ y : Int, 1800 ≤ y ∧ y + k ≤ 3000 ∧ 2348 ≤ y + k ∧ Cal.beg y ≤ day ∧ wr = (w.alloc (.cells #[.int .i64 0, .int .i64 0, .int .i64 0] 55)).alloc (.cells #[.int .i64 y, .int .i64 1, .int .i64 0] 55))
  case atStart => exact ⟨_, g1, by omega, by omega, g0, rfl⟩
  case round =>
    obtain ⟨y, hy, hk, hk2, hb, rfl⟩ := hrel
    clear g0 g1
    have hyh := Cal.year_hi y day hb y1
    have hb0 := Cal.beg_mono hy
    rw [Cal.beg_1800] at hb0
    have hbs := Cal.beg_lt (a := y) (b := y + 1) (by omega)
    by_cases hlt : Cal.beg (y + 1) ≤ day
    · have hyh2 := Cal.year_hi (y + 1) day hlt y1
      go_wp2_with (go_at_call 106; refine (begin_any _ _ (by omega) (by omega)).mono ?_; rintro e w' ⟨rfl, rfl⟩)
      go_roundg (gk - 1)
      case measure => omega
      case rel => exact ⟨y + 1, by omega, by omega, by omega, hlt, rfl⟩
    · have hT2 := Lib.hid (fun o1 o2 => hT'.out.below (((Below.refl _ w).alloc (Nat.le_refl _) o1).alloc (by simp) o2))
      go_wp2_with (go_at_call 106; refine (begin_any _ _ (by omega) (by omega)).mono ?_; rintro e w' ⟨rfl, rfl⟩)
      go_loopg [0] 12 (fun k v wr => ∃ m : Int, 1 ≤ m ∧ m ≤ 12 ∧ m + k = 13 ∧ 0 ≤ day - Cal.beg y - Cal.cum y m ∧ v = .int .i64 (day - Cal.beg y - Cal.cum y m) ∧ wr = (w.alloc (.cells #[.int .i64 0, .int .i64 0, .int .i64 0] 55)).alloc (.cells #[.int .i64 y, .int .i64 m, .int .i64 0] 55))
      case atStart => exact ⟨1, by omega, by omega, by omega, by rw [Cal.cum_1]; omega, by rw [Cal.cum_1]; simp, rfl⟩
      case round =>
        obtain ⟨m, m1, m2, mk, hr, rfl, rfl⟩ := hrel
        have hcb := Cal.cum_bd y m
        have hmb := Cal.mlen_bd y m
        have mk2 := Lib.hid mk
        clear mk
        by_cases hge : Cal.mlen y m ≤ day - Cal.beg y - Cal.cum y m
        · have hm11 := Cal.month_hi y m day (by omega) m2 hge m1
          have hcs := Lib.hid (Cal.cum_succ y m m1 m2)
          go_wp2_with (go_at_call 87; refine (length_any _ _ (by omega) m1 m2 _ (hT2.out _ _)).mono ?_; rintro e w' ⟨rfl, rfl⟩)
          go_roundg (gk - 1)
          case measure => have := mk2.out; omega
          case rel => exact ⟨m + 1, by omega, by omega, by have := mk2.out; omega, by rw [hcs.out]; omega, by rw [hcs.out]; go_num, rfl⟩
        · obtain ⟨ey, em, ed⟩ := Cal.date_of y m day y0 y1 m1 m2 hr (by omega)
          have hfin := Lib.hid (And.intro ey (And.intro em ed))
          clear ey em ed
          go_wp2_with (go_at_call 87; refine (length_any _ _ (by omega) m1 m2 _ (hT2.out _ _)).mono ?_; rintro e w' ⟨rfl, rfl⟩)
          refine bodyPost_ret (v := .agg #[.int .i64 y, .int .i64 m, .int .i64 (day - Cal.beg y - Cal.cum y m + 1)]) (by simp [results, Tryd.results82, go_sem]) rfl ⟨?_, ?_⟩
          · obtain ⟨ey, em, ed⟩ := hfin.out
            rw [ey, em] at ed ⊢; rw [ed]
          · exact ((Below.refl _ _).alloc (Nat.le_refl _) _).alloc (by simp) _
end Go.Proofs.YtoigamkldccnkaaDoor
