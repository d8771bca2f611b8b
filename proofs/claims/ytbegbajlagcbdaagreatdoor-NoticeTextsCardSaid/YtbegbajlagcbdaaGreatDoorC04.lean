/- Chapter 8 and what it rests on: definitions and walks, part 04. -/
import Derived.Test.YtbegbajlagcbdaaGreatDoorC03
namespace Go.Proofs.YtbegbajlagcbdaaGreatDoor
open Go Go.RowKit

/-- DayOf: the day and the error. -/
def Cal.dayOfS (y m d : Int) : Int × Int :=
  if 1800 ≤ y ∧ y ≤ 2347 then
    if 1 ≤ m ∧ m ≤ 12 ∧ 1 ≤ d ∧ d ≤ Cal.mlen y m then
      if Cal.first y m + d - 1 ≤ 200000 then (Cal.first y m + d - 1, 0) else (0, 2)
    else (0, 24)
  else (0, 2)

theorem IsYear_any (n : Int) (w : World) : Calls Tryz.prog 178 #[.int .i64 n] w fun e w' => e = .returned (.bool (decide (1800 ≤ n) && decide (n ≤ 2347))) ∧ w = w' := by
  go_enter Tryz.func178, Tryz.ntmps178
  go_wp2_with (go_at_call 59; refine (Within_any _ _ _ _).mono ?_; rintro e w' ⟨rfl, rfl⟩)
  go_ret
  exact ⟨rfl, rfl⟩
theorem IsDay_any (n : Int) (w : World) : Calls Tryz.prog 14 #[.int .i64 n] w fun e w' => e = .returned (.bool (decide (0 ≤ n) && decide (n ≤ 200000))) ∧ w = w' := by
  go_enter Tryz.func14, Tryz.ntmps14
  go_wp2_with (go_at_call 59; refine (Within_any _ _ _ _).mono ?_; rintro e w' ⟨rfl, rfl⟩)
  go_ret
  exact ⟨rfl, rfl⟩
theorem isFull_any (n : Int) (w : World) : Calls Tryz.prog 139 #[.int .i64 n] w fun e w' => e = .returned (.bool (decide (1800 ≤ n) && decide (n ≤ 2346))) ∧ w = w' := by
  go_enter Tryz.func139, Tryz.ntmps139
  go_wp2_with (go_at_call 134; refine (within_any _ _ _ _).mono ?_; rintro e w' ⟨rfl, rfl⟩)
  go_ret
  exact ⟨rfl, rfl⟩

set_option maxHeartbeats 1000000 in
theorem DayOf_any (y m d : Int) (w : World) (hT : Tab w) :
    Calls Tryz.prog 80 #[.agg #[.int .i64 y, .int .i64 m, .int .i64 d]] w fun e w' => e = .returned (.tuple #[.int .i64 (Cal.dayOfS y m d).1, .int .i64 (Cal.dayOfS y m d).2]) ∧ Below w.heap.size w w' := by
  have hT' := Lib.hid (fun o n => (hT.alloc o).drewN n); clear hT
  by_cases hy1 : 1800 ≤ y
  · by_cases hy2 : y ≤ 2347
    · by_cases hm1 : 1 ≤ m
      · by_cases hm2 : m ≤ 12
        · have hmb := Cal.mlen_bd y m
          have hfb := Cal.first_bd y m hy1 (by omega)
          by_cases hd1 : 1 ≤ d
          · by_cases hd2 : d ≤ Cal.mlen y m
            · by_cases hn : Cal.first y m + d - 1 ≤ 200000
              · go_enter Tryz.func80, Tryz.ntmps80
                go_wp2_with (((first | (go_at_call 134) | (go_at_call 59) | (go_at_call 133) | (go_at_call 14) | (go_at_call 178) | (fail) | (go_at_call 139)); first | refine rin ?_ | refine rout ?_ | refine rany ?_))
                go_quiet (first | (((first | (go_at_call 134) | (go_at_call 59) | (go_at_call 133) | (go_at_call 14) | (go_at_call 178) | (fail) | (go_at_call 139)); first | exact qin | exact qout | exact qany)) | (go_at_call 137; exact quiet_left (length_any _ _ (by omega) hm1 hm2 _ (hT'.out _ _))))
                go_wp2_with (first | (go_at_call 138; refine (dayOf_any _ _ _ (by omega) (by omega) hm1 hm2 (by omega) (by omega) _ (hT'.out _ _)).mono ?_; rintro e w' ⟨rfl, rfl⟩) | (((first | (go_at_call 134) | (go_at_call 59) | (go_at_call 133) | (go_at_call 14) | (go_at_call 178) | (fail) | (go_at_call 139)); first | refine rin ?_ | refine rout ?_ | refine rany ?_)))
                go_ret2
                exact ⟨by unfold Cal.dayOfS; repeat' split
                          all_goals first | rfl | (exfalso; omega), by first | exact below_drewN (below_alloc _ _) _ | exact below_alloc _ _⟩
              · go_enter Tryz.func80, Tryz.ntmps80
                go_wp2_with (((first | (go_at_call 134) | (go_at_call 59) | (go_at_call 133) | (go_at_call 14) | (go_at_call 178) | (fail) | (go_at_call 139)); first | refine rin ?_ | refine rout ?_ | refine rany ?_))
                go_quiet (first | (((first | (go_at_call 134) | (go_at_call 59) | (go_at_call 133) | (go_at_call 14) | (go_at_call 178) | (fail) | (go_at_call 139)); first | exact qin | exact qout | exact qany)) | (go_at_call 137; exact quiet_left (length_any _ _ (by omega) hm1 hm2 _ (hT'.out _ _))))
                go_wp2_with (first | (go_at_call 138; refine (dayOf_any _ _ _ (by omega) (by omega) hm1 hm2 (by omega) (by omega) _ (hT'.out _ _)).mono ?_; rintro e w' ⟨rfl, rfl⟩) | (((first | (go_at_call 134) | (go_at_call 59) | (go_at_call 133) | (go_at_call 14) | (go_at_call 178) | (fail) | (go_at_call 139)); first | refine rin ?_ | refine rout ?_ | refine rany ?_)))
                go_ret2
                exact ⟨by unfold Cal.dayOfS; repeat' split
                          all_goals first | rfl | (exfalso; omega), by first | exact below_drewN (below_alloc _ _) _ | exact below_alloc _ _⟩
            · go_enter Tryz.func80, Tryz.ntmps80
              go_wp2_with (((first | (go_at_call 134) | (go_at_call 59) | (go_at_call 133) | (go_at_call 14) | (go_at_call 178) | (fail) | (go_at_call 139)); first | refine rin ?_ | refine rout ?_ | refine rany ?_))
              go_quiet (first | (((first | (go_at_call 134) | (go_at_call 59) | (go_at_call 133) | (go_at_call 14) | (go_at_call 178) | (fail) | (go_at_call 139)); first | exact qin | exact qout | exact qany)) | (go_at_call 137; exact quiet_left (length_any _ _ (by omega) hm1 hm2 _ (hT'.out _ _))))
              go_wp2
              go_ret2
              exact ⟨by unfold Cal.dayOfS; repeat' split
                        all_goals first | rfl | (exfalso; omega), by first | exact below_drewN (below_alloc _ _) _ | exact below_alloc _ _⟩
          · go_enter Tryz.func80, Tryz.ntmps80
            go_wp2_with (((first | (go_at_call 134) | (go_at_call 59) | (go_at_call 133) | (go_at_call 14) | (go_at_call 178) | (fail) | (go_at_call 139)); first | refine rin ?_ | refine rout ?_ | refine rany ?_))
            go_quiet (first | (((first | (go_at_call 134) | (go_at_call 59) | (go_at_call 133) | (go_at_call 14) | (go_at_call 178) | (fail) | (go_at_call 139)); first | exact qin | exact qout | exact qany)) | (go_at_call 137; exact quiet_left (length_any _ _ (by omega) hm1 hm2 _ (hT'.out _ _))))
            go_wp2
            go_ret2
            exact ⟨by unfold Cal.dayOfS; repeat' split
                      all_goals first | rfl | (exfalso; omega), by first | exact below_drewN (below_alloc _ _) _ | exact below_alloc _ _⟩
        · go_enter Tryz.func80, Tryz.ntmps80
          go_wp2_with (((first | (go_at_call 134) | (go_at_call 59) | (go_at_call 133) | (go_at_call 14) | (go_at_call 178) | (fail) | (go_at_call 139)); first | refine rin ?_ | refine rout ?_ | refine rany ?_))
          go_quiet (((first | (go_at_call 134) | (go_at_call 59) | (go_at_call 133) | (go_at_call 14) | (go_at_call 178) | (fail) | (go_at_call 139)); first | exact qin | exact qout | exact qany))
          go_wp2
          go_ret2
          exact ⟨by unfold Cal.dayOfS; repeat' split
                    all_goals first | rfl | (exfalso; omega), by first | exact below_drewN (below_alloc _ _) _ | exact below_alloc _ _⟩
      · go_enter Tryz.func80, Tryz.ntmps80
        go_wp2_with (((first | (go_at_call 134) | (go_at_call 59) | (go_at_call 133) | (go_at_call 14) | (go_at_call 178) | (fail) | (go_at_call 139)); first | refine rin ?_ | refine rout ?_ | refine rany ?_))
        go_quiet (((first | (go_at_call 134) | (go_at_call 59) | (go_at_call 133) | (go_at_call 14) | (go_at_call 178) | (fail) | (go_at_call 139)); first | exact qin | exact qout | exact qany))
        go_wp2
        go_ret2
        exact ⟨by unfold Cal.dayOfS; repeat' split
                  all_goals first | rfl | (exfalso; omega), by first | exact below_drewN (below_alloc _ _) _ | exact below_alloc _ _⟩
    · go_enter Tryz.func80, Tryz.ntmps80
      go_wp2_with (((first | (go_at_call 134) | (go_at_call 59) | (go_at_call 133) | (go_at_call 14) | (go_at_call 178) | (fail) | (go_at_call 139)); first | refine rin ?_ | refine rout ?_ | refine rany ?_))
      skip
      skip
      go_ret2
      exact ⟨by unfold Cal.dayOfS; repeat' split
                all_goals first | rfl | (exfalso; omega), by first | exact below_drewN (below_alloc _ _) _ | exact below_alloc _ _⟩
  · go_enter Tryz.func80, Tryz.ntmps80
    go_wp2_with (((first | (go_at_call 134) | (go_at_call 59) | (go_at_call 133) | (go_at_call 14) | (go_at_call 178) | (fail) | (go_at_call 139)); first | refine rin ?_ | refine rout ?_ | refine rany ?_))
    skip
    skip
    go_ret2
    exact ⟨by unfold Cal.dayOfS; repeat' split
              all_goals first | rfl | (exfalso; omega), by first | exact below_drewN (below_alloc _ _) _ | exact below_alloc _ _⟩
end Go.Proofs.YtbegbajlagcbdaaGreatDoor
namespace Go.Proofs.YtbegbajlagcbdaaGreatDoor
open Go Go.RowKit

theorem Mod_any (n m : Int) (h0 : 0 < m) (h1 : m ≤ 100000000) (w : World) :
    Calls Tryz.prog 177 #[.int .i64 n, .int .i64 m] w fun e w' => e = .returned (.int .i64 (n % m)) ∧ w = w' := by
  have e1 : Int.tmod n m = n % m - if 0 ≤ n ∨ m ∣ n then 0 else (m : Int) := by
    rw [Int.tmod_eq_emod]; split <;> simp; omega
  have b0 := Int.emod_nonneg n (show m ≠ 0 by omega)
  have b1 := Int.emod_lt_of_pos n h0
  have e2 : Hid ((n.tmod m + m) % m = n % m) := by
    show _ = _
    rw [e1]; split
    · rw [show n % m - 0 + m = n % m + m by omega, Int.add_emod_right, Int.emod_emod]
    · rw [show n % m - m + m = n % m by omega, Int.emod_emod]
  have e3 : 0 ≤ n.tmod m + m := by rw [e1]; split <;> omega
  have e4 : n.tmod m + m ≤ 200000000 := by rw [e1]; split <;> omega
  clear e1 b0 b1
  go_enter Tryz.func177, Tryz.ntmps177
  go_wp2
  go_ret
  exact ⟨ret_int (by first | exact e2.out | (rw [← e2.out]; rfl)), rfl⟩
theorem Floor_any (n m : Int) (h0 : 0 < m) (h1 : m ≤ 100000000) (a : -1000000000000000 ≤ n) (b : n ≤ 1000000000000000) (w : World) :
    Calls Tryz.prog 176 #[.int .i64 n, .int .i64 m] w fun e w' => e = .returned (.int .i64 (n / m)) ∧ w = w' := by
  have b0 := Int.emod_nonneg n (show m ≠ 0 by omega)
  have b1 := Int.emod_lt_of_pos n h0
  have e1 : Hid ((n - n % m).tdiv m = n / m) := by
    show _ = _
    have h := Int.mul_ediv_add_emod n m
    rw [show n - n % m = m * (n / m) by omega, Int.mul_tdiv_cancel_left _ (by omega)]
  go_enter Tryz.func176, Tryz.ntmps176
  go_wp2_with (go_at_call 177; refine (Mod_any _ _ h0 h1 _).mono ?_; rintro e w' ⟨rfl, rfl⟩)
  go_ret
  exact ⟨ret_int e1.out, rfl⟩

/-- So many months later: the number and whether it is a day. -/
def Cal.laterT (day months : Int) : Int := 12 * Cal.dY day + Cal.dM day - 1 + months
def Cal.laterS (day months : Int) : Int × Bool :=
  if 1800 ≤ Cal.laterT day months / 12 ∧ Cal.laterT day months / 12 ≤ 2347 then
    (Cal.first (Cal.laterT day months / 12) (Cal.laterT day months % 12 + 1) + min (Cal.dD day) (Cal.mlen (Cal.laterT day months / 12) (Cal.laterT day months % 12 + 1)) - 1,
      decide (Cal.first (Cal.laterT day months / 12) (Cal.laterT day months % 12 + 1) + min (Cal.dD day) (Cal.mlen (Cal.laterT day months / 12) (Cal.laterT day months % 12 + 1)) - 1 ≤ 200000))
  else (0, false)

theorem ret_ib {a b : Int} {c d : Bool} (h : a = b) (h2 : c = d) : Ending.returned (.tuple #[.int .i64 a, .bool c]) = .returned (.tuple #[.int .i64 b, .bool d]) := by rw [h, h2]
theorem Cal.laterS_no {day months : Int} (h : ¬ (1800 ≤ Cal.laterT day months / 12 ∧ Cal.laterT day months / 12 ≤ 2347)) : Cal.laterS day months = (0, false) := by
  unfold Cal.laterS; rw [if_neg h]
theorem Cal.laterS_yes {day months : Int} (h : 1800 ≤ Cal.laterT day months / 12) (h2 : Cal.laterT day months / 12 ≤ 2347) :
    Cal.laterS day months = (Cal.first (Cal.laterT day months / 12) (Cal.laterT day months % 12 + 1) + min (Cal.dD day) (Cal.mlen (Cal.laterT day months / 12) (Cal.laterT day months % 12 + 1)) - 1,
      decide (Cal.first (Cal.laterT day months / 12) (Cal.laterT day months % 12 + 1) + min (Cal.dD day) (Cal.mlen (Cal.laterT day months / 12) (Cal.laterT day months % 12 + 1)) - 1 ≤ 200000)) := by
  unfold Cal.laterS; rw [if_pos ⟨h, h2⟩]
theorem later_any (day months : Int) (y0 : 0 ≤ day) (y1 : day ≤ 200000) (m0 : -12000 ≤ months) (m1 : months ≤ 12000) (w : World) (hT : Tab w) :
    Calls Tryz.prog 220 #[.int .i64 day, .int .i64 months] w fun e w' => e = .returned (.tuple #[.int .i64 (Cal.laterS day months).1, .bool (Cal.laterS day months).2]) ∧ Below w.heap.size w w' := by
  have hd := Cal.date_spec day y0 (by omega)
  obtain ⟨dy0, dy1⟩ := Cal.dY_bd day y0 y1
  obtain ⟨dm1, dm2, dd1, dd2, dd3⟩ := hd
  have dd4 := Cal.mlen_bd (Cal.dY day) (Cal.dM day)
  clear dd3
  have hT' := Lib.hid hT; clear hT
  have hno := Lib.hid (@Cal.laterS_no day months)
  have hyes := Lib.hid (@Cal.laterS_yes day months)
  unfold Cal.laterT at hno hyes
  have ht : 0 ≤ 12 * Cal.dY day + Cal.dM day - 1 + months := by omega
  by_cases hy1 : 1800 ≤ (12 * Cal.dY day + Cal.dM day - 1 + months) / 12
  · by_cases hy2 : (12 * Cal.dY day + Cal.dM day - 1 + months) / 12 ≤ 2347
    · have hfin := Lib.hid (hyes.out hy1 hy2)
      have hdec := Lib.hid (show decide ((12 * Cal.dY day + Cal.dM day - 1 + months) < 0) = false by simp; omega)
      have mb := Cal.mlen_bd ((12 * Cal.dY day + Cal.dM day - 1 + months) / 12) ((12 * Cal.dY day + Cal.dM day - 1 + months) % 12 + 1)
      have fb := Cal.first_bd ((12 * Cal.dY day + Cal.dM day - 1 + months) / 12) ((12 * Cal.dY day + Cal.dM day - 1 + months) % 12 + 1) hy1 (by omega)
      by_cases hmin : Cal.mlen ((12 * Cal.dY day + Cal.dM day - 1 + months) / 12) ((12 * Cal.dY day + Cal.dM day - 1 + months) % 12 + 1) < Cal.dD day
      · by_cases hn : Cal.first ((12 * Cal.dY day + Cal.dM day - 1 + months) / 12) ((12 * Cal.dY day + Cal.dM day - 1 + months) % 12 + 1) + Cal.mlen ((12 * Cal.dY day + Cal.dM day - 1 + months) / 12) ((12 * Cal.dY day + Cal.dM day - 1 + months) % 12 + 1) - 1 ≤ 200000
        · go_enter Tryz.func220, Tryz.ntmps220
          go_wp2_with (first | (go_at_call 238; refine (dateOf_any day y0 y1 _ hT'.out).mono ?_; rintro e w1 ⟨rfl, hb1⟩) | (((first | (go_at_call 134) | (go_at_call 59) | (go_at_call 133) | (go_at_call 14) | (go_at_call 178) | (fail) | (go_at_call 139)); first | refine rin ?_ | refine rout ?_ | refine rany ?_)))
          have hTm := Lib.hid (fun o n => ((hT'.out.below hb1).alloc o).drewN n)
          go_quiet (first | (go_at_call 137; exact quiet_left (length_any _ _ (by omega) (by omega) (by omega) _ (hTm.out _ _))) | (go_at_call 138; exact quiet_left (dayOf_any _ _ _ (by omega) (by omega) (by omega) (by omega) (by omega) (by omega) _ (hTm.out _ _))))
          go_wp2_with (((first | (go_at_call 134) | (go_at_call 59) | (go_at_call 133) | (go_at_call 14) | (go_at_call 178) | (fail) | (go_at_call 139)); first | refine rin ?_ | refine rout ?_ | refine rany ?_))
          go_ret2
          exact ⟨by rw [hfin.out]; exact ret_ib (by omega) (by simp; omega), below_drewN (hb1.alloc hb1.size _) _⟩
        · go_enter Tryz.func220, Tryz.ntmps220
          go_wp2_with (first | (go_at_call 238; refine (dateOf_any day y0 y1 _ hT'.out).mono ?_; rintro e w1 ⟨rfl, hb1⟩) | (((first | (go_at_call 134) | (go_at_call 59) | (go_at_call 133) | (go_at_call 14) | (go_at_call 178) | (fail) | (go_at_call 139)); first | refine rin ?_ | refine rout ?_ | refine rany ?_)))
          have hTm := Lib.hid (fun o n => ((hT'.out.below hb1).alloc o).drewN n)
          go_quiet (first | (go_at_call 137; exact quiet_left (length_any _ _ (by omega) (by omega) (by omega) _ (hTm.out _ _))) | (go_at_call 138; exact quiet_left (dayOf_any _ _ _ (by omega) (by omega) (by omega) (by omega) (by omega) (by omega) _ (hTm.out _ _))))
          go_wp2_with (((first | (go_at_call 134) | (go_at_call 59) | (go_at_call 133) | (go_at_call 14) | (go_at_call 178) | (fail) | (go_at_call 139)); first | refine rin ?_ | refine rout ?_ | refine rany ?_))
          go_ret2
          exact ⟨by rw [hfin.out]; exact ret_ib (by omega) (by simp; omega), below_drewN (hb1.alloc hb1.size _) _⟩
      · by_cases hn : Cal.first ((12 * Cal.dY day + Cal.dM day - 1 + months) / 12) ((12 * Cal.dY day + Cal.dM day - 1 + months) % 12 + 1) + Cal.dD day - 1 ≤ 200000
        · go_enter Tryz.func220, Tryz.ntmps220
          go_wp2_with (first | (go_at_call 238; refine (dateOf_any day y0 y1 _ hT'.out).mono ?_; rintro e w1 ⟨rfl, hb1⟩) | (((first | (go_at_call 134) | (go_at_call 59) | (go_at_call 133) | (go_at_call 14) | (go_at_call 178) | (fail) | (go_at_call 139)); first | refine rin ?_ | refine rout ?_ | refine rany ?_)))
          have hTm := Lib.hid (fun o n => ((hT'.out.below hb1).alloc o).drewN n)
          go_quiet (first | (go_at_call 137; exact quiet_left (length_any _ _ (by omega) (by omega) (by omega) _ (hTm.out _ _))) | (go_at_call 138; exact quiet_left (dayOf_any _ _ _ (by omega) (by omega) (by omega) (by omega) (by omega) (by omega) _ (hTm.out _ _))))
          go_wp2_with (((first | (go_at_call 134) | (go_at_call 59) | (go_at_call 133) | (go_at_call 14) | (go_at_call 178) | (fail) | (go_at_call 139)); first | refine rin ?_ | refine rout ?_ | refine rany ?_))
          go_ret2
          exact ⟨by rw [hfin.out]; exact ret_ib (by omega) (by simp; omega), below_drewN (hb1.alloc hb1.size _) _⟩
        · go_enter Tryz.func220, Tryz.ntmps220
          go_wp2_with (first | (go_at_call 238; refine (dateOf_any day y0 y1 _ hT'.out).mono ?_; rintro e w1 ⟨rfl, hb1⟩) | (((first | (go_at_call 134) | (go_at_call 59) | (go_at_call 133) | (go_at_call 14) | (go_at_call 178) | (fail) | (go_at_call 139)); first | refine rin ?_ | refine rout ?_ | refine rany ?_)))
          have hTm := Lib.hid (fun o n => ((hT'.out.below hb1).alloc o).drewN n)
          go_quiet (first | (go_at_call 137; exact quiet_left (length_any _ _ (by omega) (by omega) (by omega) _ (hTm.out _ _))) | (go_at_call 138; exact quiet_left (dayOf_any _ _ _ (by omega) (by omega) (by omega) (by omega) (by omega) (by omega) _ (hTm.out _ _))))
          go_wp2_with (((first | (go_at_call 134) | (go_at_call 59) | (go_at_call 133) | (go_at_call 14) | (go_at_call 178) | (fail) | (go_at_call 139)); first | refine rin ?_ | refine rout ?_ | refine rany ?_))
          go_ret2
          exact ⟨by rw [hfin.out]; exact ret_ib (by omega) (by simp; omega), below_drewN (hb1.alloc hb1.size _) _⟩
    · have hfin := Lib.hid (hno.out (by omega))
      go_enter Tryz.func220, Tryz.ntmps220
      go_wp2_with (first | (go_at_call 238; refine (dateOf_any day y0 y1 _ hT'.out).mono ?_; rintro e w1 ⟨rfl, hb1⟩) | (((first | (go_at_call 134) | (go_at_call 59) | (go_at_call 133) | (go_at_call 14) | (go_at_call 178) | (fail) | (go_at_call 139)); first | refine rin ?_ | refine rout ?_ | refine rany ?_)))
      go_ret2
      exact ⟨by rw [hfin.out]; rfl, hb1.alloc hb1.size _⟩
  · have hfin := Lib.hid (hno.out (by omega))
    go_enter Tryz.func220, Tryz.ntmps220
    go_wp2_with (first | (go_at_call 238; refine (dateOf_any day y0 y1 _ hT'.out).mono ?_; rintro e w1 ⟨rfl, hb1⟩) | (((first | (go_at_call 134) | (go_at_call 59) | (go_at_call 133) | (go_at_call 14) | (go_at_call 178) | (fail) | (go_at_call 139)); first | refine rin ?_ | refine rout ?_ | refine rany ?_)))
    go_ret2
    exact ⟨by rw [hfin.out]; rfl, hb1.alloc hb1.size _⟩
end Go.Proofs.YtbegbajlagcbdaaGreatDoor
namespace Go.Proofs.YtbegbajlagcbdaaGreatDoor
open Go Go.RowKit

set_option maxHeartbeats 1000000 in
theorem AddMonthsR_any (day months : Int) (y0 : 0 ≤ day) (y1 : day ≤ 200000) (m0 : -100000 ≤ months) (m1 : months ≤ 100000) (w : World) :
    Calls Tryz.prog 113 #[.int .i64 day, .int .i64 months] w fun e w' => e = .returned (.tuple #[.int .i64 (Cal.laterS day months).1, .bool (Cal.laterS day months).2]) ∧ Below w.heap.size w w' := by
  have hd := Cal.date_spec day y0 (by omega)
  obtain ⟨dy0, dy1⟩ := Cal.dY_bd day y0 y1
  obtain ⟨dm1, dm2, dd1, dd2, dd3⟩ := hd
  have dd4 := Cal.mlen_bd (Cal.dY day) (Cal.dM day)
  clear dd3
  have hno := Lib.hid (@Cal.laterS_no day months)
  have hyes := Lib.hid (@Cal.laterS_yes day months)
  have eT : Cal.laterT day months = (Cal.dY day * 12 + Cal.dM day - 1 + months) := by unfold Cal.laterT; omega
  rw [eT] at hno hyes
  clear eT
  by_cases hy1 : 1800 ≤ (Cal.dY day * 12 + Cal.dM day - 1 + months) / 12
  · by_cases hy2 : (Cal.dY day * 12 + Cal.dM day - 1 + months) / 12 ≤ 2347
    · have hfin := Lib.hid (hyes.out hy1 hy2)
      have mb := Cal.mlen_bd ((Cal.dY day * 12 + Cal.dM day - 1 + months) / 12) ((Cal.dY day * 12 + Cal.dM day - 1 + months) % 12 + 1)
      have fb := Cal.first_bd ((Cal.dY day * 12 + Cal.dM day - 1 + months) / 12) ((Cal.dY day * 12 + Cal.dM day - 1 + months) % 12 + 1) hy1 (by omega)
      by_cases hmin : Cal.mlen ((Cal.dY day * 12 + Cal.dM day - 1 + months) / 12) ((Cal.dY day * 12 + Cal.dM day - 1 + months) % 12 + 1) < Cal.dD day
      · by_cases hn : Cal.first ((Cal.dY day * 12 + Cal.dM day - 1 + months) / 12) ((Cal.dY day * 12 + Cal.dM day - 1 + months) % 12 + 1) + Cal.mlen ((Cal.dY day * 12 + Cal.dM day - 1 + months) / 12) ((Cal.dY day * 12 + Cal.dM day - 1 + months) % 12 + 1) - 1 ≤ 200000
        · go_enter Tryz.func113, Tryz.ntmps113
          go_wp2_with (first | (go_at_call 175; refine (DateOf_any day y0 y1 _).mono ?_; rintro e w1 ⟨rfl, hb1⟩) | (go_at_call 176; refine (Floor_any _ _ (by omega) (by omega) (by omega) (by omega) _).mono ?_; rintro e w' ⟨rfl, rfl⟩) | (go_at_call 177; refine (Mod_any _ _ (by omega) (by omega) _).mono ?_; rintro e w' ⟨rfl, rfl⟩) | (((first | (go_at_call 134) | (go_at_call 59) | (go_at_call 133) | (go_at_call 14) | (go_at_call 178) | (fail) | (go_at_call 139)); first | refine rin ?_ | refine rout ?_ | refine rany ?_)))
          go_quiet (first | (go_at_call 180; exact quiet_left (MonthDays_any _ _ (by omega) (by omega) (by omega) _)) | (go_at_call 179; exact quiet_left (First_any _ _ (by omega) (by omega) (by omega) (by omega) _)))
          go_wp2_with (((first | (go_at_call 134) | (go_at_call 59) | (go_at_call 133) | (go_at_call 14) | (go_at_call 178) | (fail) | (go_at_call 139)); first | refine rin ?_ | refine rout ?_ | refine rany ?_))
          go_ret2
          exact ⟨by rw [hfin.out]; exact ret_ib (by omega) (by simp; omega), below_drewN (hb1.alloc hb1.size _) _⟩
        · go_enter Tryz.func113, Tryz.ntmps113
          go_wp2_with (first | (go_at_call 175; refine (DateOf_any day y0 y1 _).mono ?_; rintro e w1 ⟨rfl, hb1⟩) | (go_at_call 176; refine (Floor_any _ _ (by omega) (by omega) (by omega) (by omega) _).mono ?_; rintro e w' ⟨rfl, rfl⟩) | (go_at_call 177; refine (Mod_any _ _ (by omega) (by omega) _).mono ?_; rintro e w' ⟨rfl, rfl⟩) | (((first | (go_at_call 134) | (go_at_call 59) | (go_at_call 133) | (go_at_call 14) | (go_at_call 178) | (fail) | (go_at_call 139)); first | refine rin ?_ | refine rout ?_ | refine rany ?_)))
          go_quiet (first | (go_at_call 180; exact quiet_left (MonthDays_any _ _ (by omega) (by omega) (by omega) _)) | (go_at_call 179; exact quiet_left (First_any _ _ (by omega) (by omega) (by omega) (by omega) _)))
          go_wp2_with (((first | (go_at_call 134) | (go_at_call 59) | (go_at_call 133) | (go_at_call 14) | (go_at_call 178) | (fail) | (go_at_call 139)); first | refine rin ?_ | refine rout ?_ | refine rany ?_))
          go_ret2
          exact ⟨by rw [hfin.out]; exact ret_ib (by omega) (by simp; omega), below_drewN (hb1.alloc hb1.size _) _⟩
      · by_cases hn : Cal.first ((Cal.dY day * 12 + Cal.dM day - 1 + months) / 12) ((Cal.dY day * 12 + Cal.dM day - 1 + months) % 12 + 1) + Cal.dD day - 1 ≤ 200000
        · go_enter Tryz.func113, Tryz.ntmps113
          go_wp2_with (first | (go_at_call 175; refine (DateOf_any day y0 y1 _).mono ?_; rintro e w1 ⟨rfl, hb1⟩) | (go_at_call 176; refine (Floor_any _ _ (by omega) (by omega) (by omega) (by omega) _).mono ?_; rintro e w' ⟨rfl, rfl⟩) | (go_at_call 177; refine (Mod_any _ _ (by omega) (by omega) _).mono ?_; rintro e w' ⟨rfl, rfl⟩) | (((first | (go_at_call 134) | (go_at_call 59) | (go_at_call 133) | (go_at_call 14) | (go_at_call 178) | (fail) | (go_at_call 139)); first | refine rin ?_ | refine rout ?_ | refine rany ?_)))
          go_quiet (first | (go_at_call 180; exact quiet_left (MonthDays_any _ _ (by omega) (by omega) (by omega) _)) | (go_at_call 179; exact quiet_left (First_any _ _ (by omega) (by omega) (by omega) (by omega) _)))
          go_wp2_with (((first | (go_at_call 134) | (go_at_call 59) | (go_at_call 133) | (go_at_call 14) | (go_at_call 178) | (fail) | (go_at_call 139)); first | refine rin ?_ | refine rout ?_ | refine rany ?_))
          go_ret2
          exact ⟨by rw [hfin.out]; exact ret_ib (by omega) (by simp; omega), below_drewN (hb1.alloc hb1.size _) _⟩
        · go_enter Tryz.func113, Tryz.ntmps113
          go_wp2_with (first | (go_at_call 175; refine (DateOf_any day y0 y1 _).mono ?_; rintro e w1 ⟨rfl, hb1⟩) | (go_at_call 176; refine (Floor_any _ _ (by omega) (by omega) (by omega) (by omega) _).mono ?_; rintro e w' ⟨rfl, rfl⟩) | (go_at_call 177; refine (Mod_any _ _ (by omega) (by omega) _).mono ?_; rintro e w' ⟨rfl, rfl⟩) | (((first | (go_at_call 134) | (go_at_call 59) | (go_at_call 133) | (go_at_call 14) | (go_at_call 178) | (fail) | (go_at_call 139)); first | refine rin ?_ | refine rout ?_ | refine rany ?_)))
          go_quiet (first | (go_at_call 180; exact quiet_left (MonthDays_any _ _ (by omega) (by omega) (by omega) _)) | (go_at_call 179; exact quiet_left (First_any _ _ (by omega) (by omega) (by omega) (by omega) _)))
          go_wp2_with (((first | (go_at_call 134) | (go_at_call 59) | (go_at_call 133) | (go_at_call 14) | (go_at_call 178) | (fail) | (go_at_call 139)); first | refine rin ?_ | refine rout ?_ | refine rany ?_))
          go_ret2
          exact ⟨by rw [hfin.out]; exact ret_ib (by omega) (by simp; omega), below_drewN (hb1.alloc hb1.size _) _⟩
    · have hfin := Lib.hid (hno.out (by omega))
      go_enter Tryz.func113, Tryz.ntmps113
      go_wp2_with (first | (go_at_call 175; refine (DateOf_any day y0 y1 _).mono ?_; rintro e w1 ⟨rfl, hb1⟩) | (go_at_call 176; refine (Floor_any _ _ (by omega) (by omega) (by omega) (by omega) _).mono ?_; rintro e w' ⟨rfl, rfl⟩) | (go_at_call 177; refine (Mod_any _ _ (by omega) (by omega) _).mono ?_; rintro e w' ⟨rfl, rfl⟩) | (((first | (go_at_call 134) | (go_at_call 59) | (go_at_call 133) | (go_at_call 14) | (go_at_call 178) | (fail) | (go_at_call 139)); first | refine rin ?_ | refine rout ?_ | refine rany ?_)))
      go_ret2
      exact ⟨by rw [hfin.out]; rfl, hb1.alloc hb1.size _⟩
  · have hfin := Lib.hid (hno.out (by omega))
    go_enter Tryz.func113, Tryz.ntmps113
    go_wp2_with (first | (go_at_call 175; refine (DateOf_any day y0 y1 _).mono ?_; rintro e w1 ⟨rfl, hb1⟩) | (go_at_call 176; refine (Floor_any _ _ (by omega) (by omega) (by omega) (by omega) _).mono ?_; rintro e w' ⟨rfl, rfl⟩) | (go_at_call 177; refine (Mod_any _ _ (by omega) (by omega) _).mono ?_; rintro e w' ⟨rfl, rfl⟩) | (((first | (go_at_call 134) | (go_at_call 59) | (go_at_call 133) | (go_at_call 14) | (go_at_call 178) | (fail) | (go_at_call 139)); first | refine rin ?_ | refine rout ?_ | refine rany ?_)))
    go_ret2
    exact ⟨by rw [hfin.out]; rfl, hb1.alloc hb1.size _⟩

/-- AddMonths: the day and the error. -/
def Cal.addS (day months : Int) : Int × Int :=
  if 0 ≤ day ∧ day ≤ 200000 ∧ -12000 ≤ months ∧ months ≤ 12000 ∧ (Cal.laterS day months).2 = true then ((Cal.laterS day months).1, 0) else (0, 2)
theorem AddMonths_any (day months : Int) (w : World) (hT : Tab w) :
    Calls Tryz.prog 164 #[.int .i64 day, .int .i64 months] w fun e w' => e = .returned (.tuple #[.int .i64 (Cal.addS day months).1, .int .i64 (Cal.addS day months).2]) ∧ Below w.heap.size w w' := by
  have hT' := Lib.hid hT; clear hT
  by_cases hy : 0 ≤ day ∧ day ≤ 200000 ∧ -12000 ≤ months ∧ months ≤ 12000
  · obtain ⟨y0, y1, m0, m1⟩ := hy
    cases hb : (Cal.laterS day months).2
    · have hfin : Hid (Cal.addS day months = (0, 2)) := by show _ = _; unfold Cal.addS; rw [if_neg (by simp [hb])]
      go_enter Tryz.func164, Tryz.ntmps164
      go_wp2_with (first | (go_at_call 220; refine (later_any _ _ y0 y1 m0 m1 _ hT'.out).mono ?_; rintro e w1 ⟨rfl, hb1⟩) | (((first | (go_at_call 134) | (go_at_call 59) | (go_at_call 133) | (go_at_call 14) | (go_at_call 178) | (fail) | (go_at_call 139)); first | refine rin ?_ | refine rout ?_ | refine rany ?_)))
      go_ret2
      exact ⟨by rw [hfin.out]; rfl, hb1⟩
    · have hfin : Hid (Cal.addS day months = ((Cal.laterS day months).1, 0)) := by show _ = _; unfold Cal.addS; rw [if_pos ⟨y0, y1, m0, m1, hb⟩]
      go_enter Tryz.func164, Tryz.ntmps164
      go_wp2_with (first | (go_at_call 220; refine (later_any _ _ y0 y1 m0 m1 _ hT'.out).mono ?_; rintro e w1 ⟨rfl, hb1⟩) | (((first | (go_at_call 134) | (go_at_call 59) | (go_at_call 133) | (go_at_call 14) | (go_at_call 178) | (fail) | (go_at_call 139)); first | refine rin ?_ | refine rout ?_ | refine rany ?_)))
      go_ret2
      exact ⟨by rw [hfin.out]; rfl, hb1⟩
  · have hfin : Hid (Cal.addS day months = (0, 2)) := by show _ = _; unfold Cal.addS; rw [if_neg (fun h => hy ⟨h.1, h.2.1, h.2.2.1, h.2.2.2.1⟩)]
    by_cases y0 : 0 ≤ day ∧ day ≤ 200000
    · obtain ⟨y0, y1⟩ := y0
      have hm : months < -12000 ∨ 12000 < months := by omega
      clear hy
      go_enter Tryz.func164, Tryz.ntmps164
      go_wp2_with (((first | (go_at_call 134) | (go_at_call 59) | (go_at_call 133) | (go_at_call 14) | (go_at_call 178) | (fail) | (go_at_call 139)); first | refine rin ?_ | refine rout ?_ | refine rany ?_))
      go_ret2
      exact ⟨by rw [hfin.out]; rfl, Below.refl _ _⟩
    · clear hy
      have y0 : day < 0 ∨ 200000 < day := by omega
      go_enter Tryz.func164, Tryz.ntmps164
      go_wp2_with (((first | (go_at_call 134) | (go_at_call 59) | (go_at_call 133) | (go_at_call 14) | (go_at_call 178) | (fail) | (go_at_call 139)); first | refine rin ?_ | refine rout ?_ | refine rany ?_))
      all_goals
        go_ret2
        exact ⟨by rw [hfin.out]; rfl, Below.refl _ _⟩

theorem weekday_any (day : Int) (y0 : -2 ≤ day) (y1 : day ≤ 1000000) (w : World) :
    Calls Tryz.prog 237 #[.int .i64 day] w fun e w' => e = .returned (.int .i64 ((day + 2) % 7)) ∧ w = w' := by
  go_enter Tryz.func237, Tryz.ntmps237
  go_wp2
  go_ret
  exact ⟨rfl, rfl⟩
theorem WeekdayR_any (day : Int) (y0 : -2 ≤ day) (y1 : day ≤ 1000000) (w : World) :
    Calls Tryz.prog 130 #[.int .i64 day] w fun e w' => e = .returned (.int .i64 ((day + 2) % 7)) ∧ w = w' := by
  go_enter Tryz.func130, Tryz.ntmps130
  go_wp2
  go_ret
  exact ⟨rfl, rfl⟩
end Go.Proofs.YtbegbajlagcbdaaGreatDoor
namespace Go.Proofs.YtbegbajlagcbdaaGreatDoor
open Go Go.RowKit

theorem easter_any (y : Int) (y0 : 1800 ≤ y) (y1 : y ≤ 2347) (w : World) (hT : Tab w) :
    Calls Tryz.prog 140 #[.int .i64 y] w fun e w' => e = .returned (.int .i64 (Cal.easter y)) ∧ w = w' := by
  have hT' := Lib.hid hT; clear hT
  have hE := Lib.hid (show Cal.first y (Cal.eN y / 31) + Cal.eN y % 31 = Cal.easter y from rfl)
  have bH := Cal.eH_bd y; have bL := Cal.eL_bd y; have bM := Cal.eM_bd y; have bN := Cal.eN_bd y
  have eG : (y / 100 - (y / 100 + 8) / 25 + 1) / 3 = Cal.eG y := rfl
  have eH : (19 * (y % 19) + y / 100 - y / 100 / 4 - Cal.eG y + 15) % 30 = Cal.eH y := rfl
  have eL : (32 + 2 * (y / 100 % 4) + 2 * (y % 100 / 4) - Cal.eH y - y % 4) % 7 = Cal.eL y := by rw [show y % 4 = y % 100 % 4 by omega]; rfl
  have eM : (y % 19 + 11 * Cal.eH y + 22 * Cal.eL y) / 451 = Cal.eM y := rfl
  have eN : Cal.eH y + Cal.eL y - 7 * Cal.eM y + 114 = Cal.eN y := rfl
  have bG : 0 ≤ Cal.eG y ∧ Cal.eG y ≤ 1000 := by unfold Cal.eG; omega
  generalize Cal.eG y = G at *
  generalize hH : Cal.eH y = H at *
  generalize hL : Cal.eL y = L at *
  generalize hM : Cal.eM y = M at *
  generalize hN : Cal.eN y = N at *
  have hN := Lib.hid hN
  clear hH hL hM
  go_enter Tryz.func140, Tryz.ntmps140
  go_wp2_with (go_at_call 138; refine (dayOf_any _ _ _ (by omega) (by omega) (by omega) (by omega) (by omega) (by omega) _ hT'.out).mono ?_; rintro e w' ⟨rfl, rfl⟩)
  go_ret
  exact ⟨ret_int (by rw [← hE.out]; omega), rfl⟩
theorem easterR_any (y : Int) (y0 : 1800 ≤ y) (y1 : y ≤ 2347) (w : World) :
    Calls Tryz.prog 241 #[.int .i64 y] w fun e w' => e = .returned (.int .i64 (Cal.easter y)) ∧ w = w' := by
  have hE := Lib.hid (show Cal.first y (Cal.eN y / 31) + Cal.eN y % 31 = Cal.easter y from rfl)
  have fb := Cal.first_bd y (Cal.eN y / 31) y0 (by omega)
  have bH := Cal.eH_bd y; have bL := Cal.eL_bd y; have bM := Cal.eM_bd y; have bN := Cal.eN_bd y
  have eG : (y / 100 - (y / 100 + 8) / 25 + 1) / 3 = Cal.eG y := rfl
  have eH : (19 * (y % 19) + y / 100 - y / 100 / 4 - Cal.eG y + 15) % 30 = Cal.eH y := rfl
  have eL : (32 + 2 * (y / 100 % 4) + 2 * (y % 100 / 4) - Cal.eH y - y % 4) % 7 = Cal.eL y := by rw [show y % 4 = y % 100 % 4 by omega]; rfl
  have eM : (y % 19 + 11 * Cal.eH y + 22 * Cal.eL y) / 451 = Cal.eM y := rfl
  have eN : Cal.eH y + Cal.eL y - 7 * Cal.eM y + 114 = Cal.eN y := rfl
  have bG : 0 ≤ Cal.eG y ∧ Cal.eG y ≤ 1000 := by unfold Cal.eG; omega
  generalize Cal.eG y = G at *
  generalize hH : Cal.eH y = H at *
  generalize hL : Cal.eL y = L at *
  generalize hM : Cal.eM y = M at *
  generalize hN : Cal.eN y = N at *
  have hN := Lib.hid hN
  clear hH hL hM
  go_enter Tryz.func241, Tryz.ntmps241
  go_wp2_with (go_at_call 179; refine (First_any _ _ (by omega) (by omega) (by omega) (by omega) _).mono ?_; rintro e w' ⟨rfl, rfl⟩)
  go_ret
  exact ⟨ret_int (by rw [← hE.out]), rfl⟩
theorem Easter_any (y : Int) (y0 : 1800 ≤ y) (y1 : y ≤ 2346) (w : World) (hT : Tab w) :
    Calls Tryz.prog 81 #[.int .i64 y] w fun e w' => e = .returned (.tuple #[.int .i64 (Cal.easter y), .int .i64 0]) ∧ w = w' := by
  have hT' := Lib.hid hT; clear hT
  go_enter Tryz.func81, Tryz.ntmps81
  go_wp2_with (first | (go_at_call 140; refine (easter_any _ (by omega) (by omega) _ hT'.out).mono ?_; rintro e w' ⟨rfl, rfl⟩) | (((first | (go_at_call 134) | (go_at_call 59) | (go_at_call 133) | (go_at_call 14) | (go_at_call 178) | (fail) | (go_at_call 139)); first | refine rin ?_ | refine rout ?_ | refine rany ?_)))
  go_ret2
  exact ⟨rfl, rfl⟩
theorem Easter_no (y : Int) (y0 : y < 1800 ∨ 2346 < y) (w : World) :
    Calls Tryz.prog 81 #[.int .i64 y] w fun e w' => e = .returned (.tuple #[.int .i64 0, .int .i64 2]) ∧ w = w' := by
  go_enter Tryz.func81, Tryz.ntmps81
  go_wp2_with (((first | (go_at_call 134) | (go_at_call 59) | (go_at_call 133) | (go_at_call 14) | (go_at_call 178) | (fail) | (go_at_call 139)); first | refine rin ?_ | refine rout ?_ | refine rany ?_))
  go_ret2
  exact ⟨rfl, rfl⟩
end Go.Proofs.YtbegbajlagcbdaaGreatDoor
