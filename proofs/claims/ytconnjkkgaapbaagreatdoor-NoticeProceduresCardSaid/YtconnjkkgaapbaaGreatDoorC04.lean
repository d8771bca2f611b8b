/- Chapter 8 and what it rests on: definitions and walks, part 04. -/
import Derived.Test.YtconnjkkgaapbaaGreatDoorC03
namespace Go.Proofs.YtconnjkkgaapbaaGreatDoor
open Go Go.RowKit
/-- The error of a holiday but for its name. -/
def Cal.holErr (kind month day weekday : Int) : Int :=
  if kind = 0 then (if 1 ≤ month ∧ month ≤ 12 ∧ 1 ≤ day ∧ day ≤ Cal.mlen 1804 month then (if weekday = 0 then 0 else 3) else 24)
  else if kind = 1 then (if -80 ≤ day ∧ day ≤ 240 then (if month = 0 ∧ weekday = 0 then 0 else 3) else 2)
  else if kind = 2 then (if 1 ≤ month ∧ month ≤ 12 then (if ((1 ≤ day ∧ day ≤ 4) ∨ day = -1) ∧ 0 ≤ weekday ∧ weekday ≤ 6 then 0 else 2) else 24)
  else 2
set_option maxHeartbeats 4000000 in
theorem checkHoliday_any (nm : ByteArray) (kind month day weekday : Int) (w : World) (hT : Tab w) :
    Calls Tryz.prog 88 #[.agg #[.string nm, .int .i64 kind, .int .i64 month, .int .i64 day, .int .i64 weekday]] w fun e w' => e = .returned (.int .i64 (Cal.holErr kind month day weekday)) ∧ Below w.heap.size w w' := by
  have hT' := Lib.hid (fun o n => (hT.alloc o).drewN n); clear hT
  by_cases hk0 : kind = 0
  · subst hk0
    have hmb := Cal.mlen_bd 1804 month
    by_cases hma : 1 ≤ month
    · by_cases hmb : month ≤ 12
      · by_cases hda : 1 ≤ day
        · by_cases hdb : day ≤ Cal.mlen 1804 month
          · by_cases hw : weekday = 0
            · subst hw
              go_enter Tryz.func88, Tryz.ntmps88
              go_wp2_with ((go_at_call 86; first | (refine (calls_in (within_any _ _ _ _) ?_ ?_).mono ?_; omega; omega; rintro e w' ⟨rfl, rfl⟩) | (refine (calls_out (within_any _ _ _ _) ?_).mono ?_; omega; rintro e w' ⟨rfl, rfl⟩) | (refine (within_any _ _ _ _).mono ?_; rintro e w' ⟨rfl, rfl⟩)))
              try (go_quiet (first | (go_at_call 86; first | (refine quiet_left (calls_in (within_any _ _ _ _) ?_ ?_); omega; omega) | (refine quiet_left (calls_out (within_any _ _ _ _) ?_); omega) | (refine quiet_left (within_any _ _ _ _))) | (go_at_call 115; exact quiet_left (length_any _ _ (by omega) (by omega) (by omega) _ (hT'.out _ _))))
                   go_wp2_with ((go_at_call 86; first | (refine (calls_in (within_any _ _ _ _) ?_ ?_).mono ?_; omega; omega; rintro e w' ⟨rfl, rfl⟩) | (refine (calls_out (within_any _ _ _ _) ?_).mono ?_; omega; rintro e w' ⟨rfl, rfl⟩) | (refine (within_any _ _ _ _).mono ?_; rintro e w' ⟨rfl, rfl⟩))))
              go_ret
              exact ⟨ret_int (by unfold Cal.holErr; repeat' split
                                 all_goals first | rfl | omega), by (repeat (first | assumption | exact Below.refl _ _ | exact below_alloc _ _ | refine below_drewN ?_ _ | refine Below.drew ?_ | (refine Below.setCell ?_ ?_ _; rotate_left; focus (first | omega | (simp; done) | (simp; omega))) | (refine Below.alloc ?_ ?_ _; rotate_left; focus (first | omega | (simp; done) | (simp; omega)))))⟩
            · have hwe : (weekday == 0) = false := by simpa using hw
              have hwn : (weekday != 0) = true := by simpa using hw
              go_enter Tryz.func88, Tryz.ntmps88
              go_wp2_with ((go_at_call 86; first | (refine (calls_in (within_any _ _ _ _) ?_ ?_).mono ?_; omega; omega; rintro e w' ⟨rfl, rfl⟩) | (refine (calls_out (within_any _ _ _ _) ?_).mono ?_; omega; rintro e w' ⟨rfl, rfl⟩) | (refine (within_any _ _ _ _).mono ?_; rintro e w' ⟨rfl, rfl⟩)))
              try (go_quiet (first | (go_at_call 86; first | (refine quiet_left (calls_in (within_any _ _ _ _) ?_ ?_); omega; omega) | (refine quiet_left (calls_out (within_any _ _ _ _) ?_); omega) | (refine quiet_left (within_any _ _ _ _))) | (go_at_call 115; exact quiet_left (length_any _ _ (by omega) (by omega) (by omega) _ (hT'.out _ _))))
                   go_wp2_with ((go_at_call 86; first | (refine (calls_in (within_any _ _ _ _) ?_ ?_).mono ?_; omega; omega; rintro e w' ⟨rfl, rfl⟩) | (refine (calls_out (within_any _ _ _ _) ?_).mono ?_; omega; rintro e w' ⟨rfl, rfl⟩) | (refine (within_any _ _ _ _).mono ?_; rintro e w' ⟨rfl, rfl⟩))))
              go_ret
              exact ⟨ret_int (by unfold Cal.holErr; repeat' split
                                 all_goals first | rfl | omega), by (repeat (first | assumption | exact Below.refl _ _ | exact below_alloc _ _ | refine below_drewN ?_ _ | refine Below.drew ?_ | (refine Below.setCell ?_ ?_ _; rotate_left; focus (first | omega | (simp; done) | (simp; omega))) | (refine Below.alloc ?_ ?_ _; rotate_left; focus (first | omega | (simp; done) | (simp; omega)))))⟩
          · go_enter Tryz.func88, Tryz.ntmps88
            go_wp2_with ((go_at_call 86; first | (refine (calls_in (within_any _ _ _ _) ?_ ?_).mono ?_; omega; omega; rintro e w' ⟨rfl, rfl⟩) | (refine (calls_out (within_any _ _ _ _) ?_).mono ?_; omega; rintro e w' ⟨rfl, rfl⟩) | (refine (within_any _ _ _ _).mono ?_; rintro e w' ⟨rfl, rfl⟩)))
            try (go_quiet (first | (go_at_call 86; first | (refine quiet_left (calls_in (within_any _ _ _ _) ?_ ?_); omega; omega) | (refine quiet_left (calls_out (within_any _ _ _ _) ?_); omega) | (refine quiet_left (within_any _ _ _ _))) | (go_at_call 115; exact quiet_left (length_any _ _ (by omega) (by omega) (by omega) _ (hT'.out _ _))))
                 go_wp2_with ((go_at_call 86; first | (refine (calls_in (within_any _ _ _ _) ?_ ?_).mono ?_; omega; omega; rintro e w' ⟨rfl, rfl⟩) | (refine (calls_out (within_any _ _ _ _) ?_).mono ?_; omega; rintro e w' ⟨rfl, rfl⟩) | (refine (within_any _ _ _ _).mono ?_; rintro e w' ⟨rfl, rfl⟩))))
            go_ret
            exact ⟨ret_int (by unfold Cal.holErr; repeat' split
                               all_goals first | rfl | omega), by (repeat (first | assumption | exact Below.refl _ _ | exact below_alloc _ _ | refine below_drewN ?_ _ | refine Below.drew ?_ | (refine Below.setCell ?_ ?_ _; rotate_left; focus (first | omega | (simp; done) | (simp; omega))) | (refine Below.alloc ?_ ?_ _; rotate_left; focus (first | omega | (simp; done) | (simp; omega)))))⟩
        · go_enter Tryz.func88, Tryz.ntmps88
          go_wp2_with ((go_at_call 86; first | (refine (calls_in (within_any _ _ _ _) ?_ ?_).mono ?_; omega; omega; rintro e w' ⟨rfl, rfl⟩) | (refine (calls_out (within_any _ _ _ _) ?_).mono ?_; omega; rintro e w' ⟨rfl, rfl⟩) | (refine (within_any _ _ _ _).mono ?_; rintro e w' ⟨rfl, rfl⟩)))
          try (go_quiet (first | (go_at_call 86; first | (refine quiet_left (calls_in (within_any _ _ _ _) ?_ ?_); omega; omega) | (refine quiet_left (calls_out (within_any _ _ _ _) ?_); omega) | (refine quiet_left (within_any _ _ _ _))) | (go_at_call 115; exact quiet_left (length_any _ _ (by omega) (by omega) (by omega) _ (hT'.out _ _))))
               go_wp2_with ((go_at_call 86; first | (refine (calls_in (within_any _ _ _ _) ?_ ?_).mono ?_; omega; omega; rintro e w' ⟨rfl, rfl⟩) | (refine (calls_out (within_any _ _ _ _) ?_).mono ?_; omega; rintro e w' ⟨rfl, rfl⟩) | (refine (within_any _ _ _ _).mono ?_; rintro e w' ⟨rfl, rfl⟩))))
          go_ret
          exact ⟨ret_int (by unfold Cal.holErr; repeat' split
                             all_goals first | rfl | omega), by (repeat (first | assumption | exact Below.refl _ _ | exact below_alloc _ _ | refine below_drewN ?_ _ | refine Below.drew ?_ | (refine Below.setCell ?_ ?_ _; rotate_left; focus (first | omega | (simp; done) | (simp; omega))) | (refine Below.alloc ?_ ?_ _; rotate_left; focus (first | omega | (simp; done) | (simp; omega)))))⟩
      · go_enter Tryz.func88, Tryz.ntmps88
        go_wp2_with ((go_at_call 86; first | (refine (calls_in (within_any _ _ _ _) ?_ ?_).mono ?_; omega; omega; rintro e w' ⟨rfl, rfl⟩) | (refine (calls_out (within_any _ _ _ _) ?_).mono ?_; omega; rintro e w' ⟨rfl, rfl⟩) | (refine (within_any _ _ _ _).mono ?_; rintro e w' ⟨rfl, rfl⟩)))
        try (go_quiet (first | (go_at_call 86; first | (refine quiet_left (calls_in (within_any _ _ _ _) ?_ ?_); omega; omega) | (refine quiet_left (calls_out (within_any _ _ _ _) ?_); omega) | (refine quiet_left (within_any _ _ _ _))) | (go_at_call 115; exact quiet_left (length_any _ _ (by omega) (by omega) (by omega) _ (hT'.out _ _))))
             go_wp2_with ((go_at_call 86; first | (refine (calls_in (within_any _ _ _ _) ?_ ?_).mono ?_; omega; omega; rintro e w' ⟨rfl, rfl⟩) | (refine (calls_out (within_any _ _ _ _) ?_).mono ?_; omega; rintro e w' ⟨rfl, rfl⟩) | (refine (within_any _ _ _ _).mono ?_; rintro e w' ⟨rfl, rfl⟩))))
        go_ret
        exact ⟨ret_int (by unfold Cal.holErr; repeat' split
                           all_goals first | rfl | omega), by (repeat (first | assumption | exact Below.refl _ _ | exact below_alloc _ _ | refine below_drewN ?_ _ | refine Below.drew ?_ | (refine Below.setCell ?_ ?_ _; rotate_left; focus (first | omega | (simp; done) | (simp; omega))) | (refine Below.alloc ?_ ?_ _; rotate_left; focus (first | omega | (simp; done) | (simp; omega)))))⟩
    · go_enter Tryz.func88, Tryz.ntmps88
      go_wp2_with ((go_at_call 86; first | (refine (calls_in (within_any _ _ _ _) ?_ ?_).mono ?_; omega; omega; rintro e w' ⟨rfl, rfl⟩) | (refine (calls_out (within_any _ _ _ _) ?_).mono ?_; omega; rintro e w' ⟨rfl, rfl⟩) | (refine (within_any _ _ _ _).mono ?_; rintro e w' ⟨rfl, rfl⟩)))
      try (go_quiet (first | (go_at_call 86; first | (refine quiet_left (calls_in (within_any _ _ _ _) ?_ ?_); omega; omega) | (refine quiet_left (calls_out (within_any _ _ _ _) ?_); omega) | (refine quiet_left (within_any _ _ _ _))) | (go_at_call 115; exact quiet_left (length_any _ _ (by omega) (by omega) (by omega) _ (hT'.out _ _))))
           go_wp2_with ((go_at_call 86; first | (refine (calls_in (within_any _ _ _ _) ?_ ?_).mono ?_; omega; omega; rintro e w' ⟨rfl, rfl⟩) | (refine (calls_out (within_any _ _ _ _) ?_).mono ?_; omega; rintro e w' ⟨rfl, rfl⟩) | (refine (within_any _ _ _ _).mono ?_; rintro e w' ⟨rfl, rfl⟩))))
      go_ret
      exact ⟨ret_int (by unfold Cal.holErr; repeat' split
                         all_goals first | rfl | omega), by (repeat (first | assumption | exact Below.refl _ _ | exact below_alloc _ _ | refine below_drewN ?_ _ | refine Below.drew ?_ | (refine Below.setCell ?_ ?_ _; rotate_left; focus (first | omega | (simp; done) | (simp; omega))) | (refine Below.alloc ?_ ?_ _; rotate_left; focus (first | omega | (simp; done) | (simp; omega)))))⟩
  · have hk0e : (kind == 0) = false := by simpa using hk0
    have hk0n : (kind != 0) = true := by simpa using hk0
    by_cases hk1 : kind = 1
    · subst hk1
      by_cases hda : -80 ≤ day
      · by_cases hdb : day ≤ 240
        · by_cases hm : month = 0
          · subst hm
            by_cases hw : weekday = 0
            · subst hw
              go_enter Tryz.func88, Tryz.ntmps88
              go_wp2_with ((go_at_call 86; first | (refine (calls_in (within_any _ _ _ _) ?_ ?_).mono ?_; omega; omega; rintro e w' ⟨rfl, rfl⟩) | (refine (calls_out (within_any _ _ _ _) ?_).mono ?_; omega; rintro e w' ⟨rfl, rfl⟩) | (refine (within_any _ _ _ _).mono ?_; rintro e w' ⟨rfl, rfl⟩)))
              try (go_quiet (first | (go_at_call 86; first | (refine quiet_left (calls_in (within_any _ _ _ _) ?_ ?_); omega; omega) | (refine quiet_left (calls_out (within_any _ _ _ _) ?_); omega) | (refine quiet_left (within_any _ _ _ _))) | (go_at_call 115; exact quiet_left (length_any _ _ (by omega) (by omega) (by omega) _ (hT'.out _ _))))
                   go_wp2_with ((go_at_call 86; first | (refine (calls_in (within_any _ _ _ _) ?_ ?_).mono ?_; omega; omega; rintro e w' ⟨rfl, rfl⟩) | (refine (calls_out (within_any _ _ _ _) ?_).mono ?_; omega; rintro e w' ⟨rfl, rfl⟩) | (refine (within_any _ _ _ _).mono ?_; rintro e w' ⟨rfl, rfl⟩))))
              go_ret
              exact ⟨ret_int (by unfold Cal.holErr; repeat' split
                                 all_goals first | rfl | omega), by (repeat (first | assumption | exact Below.refl _ _ | exact below_alloc _ _ | refine below_drewN ?_ _ | refine Below.drew ?_ | (refine Below.setCell ?_ ?_ _; rotate_left; focus (first | omega | (simp; done) | (simp; omega))) | (refine Below.alloc ?_ ?_ _; rotate_left; focus (first | omega | (simp; done) | (simp; omega)))))⟩
            · have hwe : (weekday == 0) = false := by simpa using hw
              have hwn : (weekday != 0) = true := by simpa using hw
              go_enter Tryz.func88, Tryz.ntmps88
              go_wp2_with ((go_at_call 86; first | (refine (calls_in (within_any _ _ _ _) ?_ ?_).mono ?_; omega; omega; rintro e w' ⟨rfl, rfl⟩) | (refine (calls_out (within_any _ _ _ _) ?_).mono ?_; omega; rintro e w' ⟨rfl, rfl⟩) | (refine (within_any _ _ _ _).mono ?_; rintro e w' ⟨rfl, rfl⟩)))
              try (go_quiet (first | (go_at_call 86; first | (refine quiet_left (calls_in (within_any _ _ _ _) ?_ ?_); omega; omega) | (refine quiet_left (calls_out (within_any _ _ _ _) ?_); omega) | (refine quiet_left (within_any _ _ _ _))) | (go_at_call 115; exact quiet_left (length_any _ _ (by omega) (by omega) (by omega) _ (hT'.out _ _))))
                   go_wp2_with ((go_at_call 86; first | (refine (calls_in (within_any _ _ _ _) ?_ ?_).mono ?_; omega; omega; rintro e w' ⟨rfl, rfl⟩) | (refine (calls_out (within_any _ _ _ _) ?_).mono ?_; omega; rintro e w' ⟨rfl, rfl⟩) | (refine (within_any _ _ _ _).mono ?_; rintro e w' ⟨rfl, rfl⟩))))
              go_ret
              exact ⟨ret_int (by unfold Cal.holErr; repeat' split
                                 all_goals first | rfl | omega), by (repeat (first | assumption | exact Below.refl _ _ | exact below_alloc _ _ | refine below_drewN ?_ _ | refine Below.drew ?_ | (refine Below.setCell ?_ ?_ _; rotate_left; focus (first | omega | (simp; done) | (simp; omega))) | (refine Below.alloc ?_ ?_ _; rotate_left; focus (first | omega | (simp; done) | (simp; omega)))))⟩
          · have hme : (month == 0) = false := by simpa using hm
            have hmn : (month != 0) = true := by simpa using hm
            go_enter Tryz.func88, Tryz.ntmps88
            go_wp2_with ((go_at_call 86; first | (refine (calls_in (within_any _ _ _ _) ?_ ?_).mono ?_; omega; omega; rintro e w' ⟨rfl, rfl⟩) | (refine (calls_out (within_any _ _ _ _) ?_).mono ?_; omega; rintro e w' ⟨rfl, rfl⟩) | (refine (within_any _ _ _ _).mono ?_; rintro e w' ⟨rfl, rfl⟩)))
            try (go_quiet (first | (go_at_call 86; first | (refine quiet_left (calls_in (within_any _ _ _ _) ?_ ?_); omega; omega) | (refine quiet_left (calls_out (within_any _ _ _ _) ?_); omega) | (refine quiet_left (within_any _ _ _ _))) | (go_at_call 115; exact quiet_left (length_any _ _ (by omega) (by omega) (by omega) _ (hT'.out _ _))))
                 go_wp2_with ((go_at_call 86; first | (refine (calls_in (within_any _ _ _ _) ?_ ?_).mono ?_; omega; omega; rintro e w' ⟨rfl, rfl⟩) | (refine (calls_out (within_any _ _ _ _) ?_).mono ?_; omega; rintro e w' ⟨rfl, rfl⟩) | (refine (within_any _ _ _ _).mono ?_; rintro e w' ⟨rfl, rfl⟩))))
            go_ret
            exact ⟨ret_int (by unfold Cal.holErr; repeat' split
                               all_goals first | rfl | omega), by (repeat (first | assumption | exact Below.refl _ _ | exact below_alloc _ _ | refine below_drewN ?_ _ | refine Below.drew ?_ | (refine Below.setCell ?_ ?_ _; rotate_left; focus (first | omega | (simp; done) | (simp; omega))) | (refine Below.alloc ?_ ?_ _; rotate_left; focus (first | omega | (simp; done) | (simp; omega)))))⟩
        · go_enter Tryz.func88, Tryz.ntmps88
          go_wp2_with ((go_at_call 86; first | (refine (calls_in (within_any _ _ _ _) ?_ ?_).mono ?_; omega; omega; rintro e w' ⟨rfl, rfl⟩) | (refine (calls_out (within_any _ _ _ _) ?_).mono ?_; omega; rintro e w' ⟨rfl, rfl⟩) | (refine (within_any _ _ _ _).mono ?_; rintro e w' ⟨rfl, rfl⟩)))
          try (go_quiet (first | (go_at_call 86; first | (refine quiet_left (calls_in (within_any _ _ _ _) ?_ ?_); omega; omega) | (refine quiet_left (calls_out (within_any _ _ _ _) ?_); omega) | (refine quiet_left (within_any _ _ _ _))) | (go_at_call 115; exact quiet_left (length_any _ _ (by omega) (by omega) (by omega) _ (hT'.out _ _))))
               go_wp2_with ((go_at_call 86; first | (refine (calls_in (within_any _ _ _ _) ?_ ?_).mono ?_; omega; omega; rintro e w' ⟨rfl, rfl⟩) | (refine (calls_out (within_any _ _ _ _) ?_).mono ?_; omega; rintro e w' ⟨rfl, rfl⟩) | (refine (within_any _ _ _ _).mono ?_; rintro e w' ⟨rfl, rfl⟩))))
          go_ret
          exact ⟨ret_int (by unfold Cal.holErr; repeat' split
                             all_goals first | rfl | omega), by (repeat (first | assumption | exact Below.refl _ _ | exact below_alloc _ _ | refine below_drewN ?_ _ | refine Below.drew ?_ | (refine Below.setCell ?_ ?_ _; rotate_left; focus (first | omega | (simp; done) | (simp; omega))) | (refine Below.alloc ?_ ?_ _; rotate_left; focus (first | omega | (simp; done) | (simp; omega)))))⟩
      · go_enter Tryz.func88, Tryz.ntmps88
        go_wp2_with ((go_at_call 86; first | (refine (calls_in (within_any _ _ _ _) ?_ ?_).mono ?_; omega; omega; rintro e w' ⟨rfl, rfl⟩) | (refine (calls_out (within_any _ _ _ _) ?_).mono ?_; omega; rintro e w' ⟨rfl, rfl⟩) | (refine (within_any _ _ _ _).mono ?_; rintro e w' ⟨rfl, rfl⟩)))
        try (go_quiet (first | (go_at_call 86; first | (refine quiet_left (calls_in (within_any _ _ _ _) ?_ ?_); omega; omega) | (refine quiet_left (calls_out (within_any _ _ _ _) ?_); omega) | (refine quiet_left (within_any _ _ _ _))) | (go_at_call 115; exact quiet_left (length_any _ _ (by omega) (by omega) (by omega) _ (hT'.out _ _))))
             go_wp2_with ((go_at_call 86; first | (refine (calls_in (within_any _ _ _ _) ?_ ?_).mono ?_; omega; omega; rintro e w' ⟨rfl, rfl⟩) | (refine (calls_out (within_any _ _ _ _) ?_).mono ?_; omega; rintro e w' ⟨rfl, rfl⟩) | (refine (within_any _ _ _ _).mono ?_; rintro e w' ⟨rfl, rfl⟩))))
        go_ret
        exact ⟨ret_int (by unfold Cal.holErr; repeat' split
                           all_goals first | rfl | omega), by (repeat (first | assumption | exact Below.refl _ _ | exact below_alloc _ _ | refine below_drewN ?_ _ | refine Below.drew ?_ | (refine Below.setCell ?_ ?_ _; rotate_left; focus (first | omega | (simp; done) | (simp; omega))) | (refine Below.alloc ?_ ?_ _; rotate_left; focus (first | omega | (simp; done) | (simp; omega)))))⟩
    · have hk1e : (kind == 1) = false := by simpa using hk1
      have hk1n : (kind != 1) = true := by simpa using hk1
      by_cases hk2 : kind = 2
      · subst hk2
        by_cases hma : 1 ≤ month
        · by_cases hmb : month ≤ 12
          · by_cases hda : 1 ≤ day
            · by_cases hdb : day ≤ 4
              · by_cases hwa : 0 ≤ weekday
                · by_cases hwb : weekday ≤ 6
                  · go_enter Tryz.func88, Tryz.ntmps88
                    go_wp2_with ((go_at_call 86; first | (refine (calls_in (within_any _ _ _ _) ?_ ?_).mono ?_; omega; omega; rintro e w' ⟨rfl, rfl⟩) | (refine (calls_out (within_any _ _ _ _) ?_).mono ?_; omega; rintro e w' ⟨rfl, rfl⟩) | (refine (within_any _ _ _ _).mono ?_; rintro e w' ⟨rfl, rfl⟩)))
                    try (go_quiet (first | (go_at_call 86; first | (refine quiet_left (calls_in (within_any _ _ _ _) ?_ ?_); omega; omega) | (refine quiet_left (calls_out (within_any _ _ _ _) ?_); omega) | (refine quiet_left (within_any _ _ _ _))) | (go_at_call 115; exact quiet_left (length_any _ _ (by omega) (by omega) (by omega) _ (hT'.out _ _))))
                         go_wp2_with ((go_at_call 86; first | (refine (calls_in (within_any _ _ _ _) ?_ ?_).mono ?_; omega; omega; rintro e w' ⟨rfl, rfl⟩) | (refine (calls_out (within_any _ _ _ _) ?_).mono ?_; omega; rintro e w' ⟨rfl, rfl⟩) | (refine (within_any _ _ _ _).mono ?_; rintro e w' ⟨rfl, rfl⟩))))
                    go_ret
                    exact ⟨ret_int (by unfold Cal.holErr; repeat' split
                                       all_goals first | rfl | omega), by (repeat (first | assumption | exact Below.refl _ _ | exact below_alloc _ _ | refine below_drewN ?_ _ | refine Below.drew ?_ | (refine Below.setCell ?_ ?_ _; rotate_left; focus (first | omega | (simp; done) | (simp; omega))) | (refine Below.alloc ?_ ?_ _; rotate_left; focus (first | omega | (simp; done) | (simp; omega)))))⟩
                  · go_enter Tryz.func88, Tryz.ntmps88
                    go_wp2_with ((go_at_call 86; first | (refine (calls_in (within_any _ _ _ _) ?_ ?_).mono ?_; omega; omega; rintro e w' ⟨rfl, rfl⟩) | (refine (calls_out (within_any _ _ _ _) ?_).mono ?_; omega; rintro e w' ⟨rfl, rfl⟩) | (refine (within_any _ _ _ _).mono ?_; rintro e w' ⟨rfl, rfl⟩)))
                    try (go_quiet (first | (go_at_call 86; first | (refine quiet_left (calls_in (within_any _ _ _ _) ?_ ?_); omega; omega) | (refine quiet_left (calls_out (within_any _ _ _ _) ?_); omega) | (refine quiet_left (within_any _ _ _ _))) | (go_at_call 115; exact quiet_left (length_any _ _ (by omega) (by omega) (by omega) _ (hT'.out _ _))))
                         go_wp2_with ((go_at_call 86; first | (refine (calls_in (within_any _ _ _ _) ?_ ?_).mono ?_; omega; omega; rintro e w' ⟨rfl, rfl⟩) | (refine (calls_out (within_any _ _ _ _) ?_).mono ?_; omega; rintro e w' ⟨rfl, rfl⟩) | (refine (within_any _ _ _ _).mono ?_; rintro e w' ⟨rfl, rfl⟩))))
                    go_ret
                    exact ⟨ret_int (by unfold Cal.holErr; repeat' split
                                       all_goals first | rfl | omega), by (repeat (first | assumption | exact Below.refl _ _ | exact below_alloc _ _ | refine below_drewN ?_ _ | refine Below.drew ?_ | (refine Below.setCell ?_ ?_ _; rotate_left; focus (first | omega | (simp; done) | (simp; omega))) | (refine Below.alloc ?_ ?_ _; rotate_left; focus (first | omega | (simp; done) | (simp; omega)))))⟩
                · go_enter Tryz.func88, Tryz.ntmps88
                  go_wp2_with ((go_at_call 86; first | (refine (calls_in (within_any _ _ _ _) ?_ ?_).mono ?_; omega; omega; rintro e w' ⟨rfl, rfl⟩) | (refine (calls_out (within_any _ _ _ _) ?_).mono ?_; omega; rintro e w' ⟨rfl, rfl⟩) | (refine (within_any _ _ _ _).mono ?_; rintro e w' ⟨rfl, rfl⟩)))
                  try (go_quiet (first | (go_at_call 86; first | (refine quiet_left (calls_in (within_any _ _ _ _) ?_ ?_); omega; omega) | (refine quiet_left (calls_out (within_any _ _ _ _) ?_); omega) | (refine quiet_left (within_any _ _ _ _))) | (go_at_call 115; exact quiet_left (length_any _ _ (by omega) (by omega) (by omega) _ (hT'.out _ _))))
                       go_wp2_with ((go_at_call 86; first | (refine (calls_in (within_any _ _ _ _) ?_ ?_).mono ?_; omega; omega; rintro e w' ⟨rfl, rfl⟩) | (refine (calls_out (within_any _ _ _ _) ?_).mono ?_; omega; rintro e w' ⟨rfl, rfl⟩) | (refine (within_any _ _ _ _).mono ?_; rintro e w' ⟨rfl, rfl⟩))))
                  go_ret
                  exact ⟨ret_int (by unfold Cal.holErr; repeat' split
                                     all_goals first | rfl | omega), by (repeat (first | assumption | exact Below.refl _ _ | exact below_alloc _ _ | refine below_drewN ?_ _ | refine Below.drew ?_ | (refine Below.setCell ?_ ?_ _; rotate_left; focus (first | omega | (simp; done) | (simp; omega))) | (refine Below.alloc ?_ ?_ _; rotate_left; focus (first | omega | (simp; done) | (simp; omega)))))⟩
              · have hd1e : (day == (-1)) = false := by simp; omega
                have hd1n : (day != (-1)) = true := by simp; omega
                go_enter Tryz.func88, Tryz.ntmps88
                go_wp2_with ((go_at_call 86; first | (refine (calls_in (within_any _ _ _ _) ?_ ?_).mono ?_; omega; omega; rintro e w' ⟨rfl, rfl⟩) | (refine (calls_out (within_any _ _ _ _) ?_).mono ?_; omega; rintro e w' ⟨rfl, rfl⟩) | (refine (within_any _ _ _ _).mono ?_; rintro e w' ⟨rfl, rfl⟩)))
                try (go_quiet (first | (go_at_call 86; first | (refine quiet_left (calls_in (within_any _ _ _ _) ?_ ?_); omega; omega) | (refine quiet_left (calls_out (within_any _ _ _ _) ?_); omega) | (refine quiet_left (within_any _ _ _ _))) | (go_at_call 115; exact quiet_left (length_any _ _ (by omega) (by omega) (by omega) _ (hT'.out _ _))))
                     go_wp2_with ((go_at_call 86; first | (refine (calls_in (within_any _ _ _ _) ?_ ?_).mono ?_; omega; omega; rintro e w' ⟨rfl, rfl⟩) | (refine (calls_out (within_any _ _ _ _) ?_).mono ?_; omega; rintro e w' ⟨rfl, rfl⟩) | (refine (within_any _ _ _ _).mono ?_; rintro e w' ⟨rfl, rfl⟩))))
                go_ret
                exact ⟨ret_int (by unfold Cal.holErr; repeat' split
                                   all_goals first | rfl | omega), by (repeat (first | assumption | exact Below.refl _ _ | exact below_alloc _ _ | refine below_drewN ?_ _ | refine Below.drew ?_ | (refine Below.setCell ?_ ?_ _; rotate_left; focus (first | omega | (simp; done) | (simp; omega))) | (refine Below.alloc ?_ ?_ _; rotate_left; focus (first | omega | (simp; done) | (simp; omega)))))⟩
            · by_cases hd1 : day = (-1)
              · have hd1e : (day == (-1)) = true := by simpa using hd1
                have hd1n : (day != (-1)) = false := by simpa using hd1
                have hd1l : day ≤ (-1) := by omega
                have hd1g : (-1) ≤ day := by omega
                clear hd1
                by_cases hwa : 0 ≤ weekday
                · by_cases hwb : weekday ≤ 6
                  · go_enter Tryz.func88, Tryz.ntmps88
                    go_wp2_with ((go_at_call 86; first | (refine (calls_in (within_any _ _ _ _) ?_ ?_).mono ?_; omega; omega; rintro e w' ⟨rfl, rfl⟩) | (refine (calls_out (within_any _ _ _ _) ?_).mono ?_; omega; rintro e w' ⟨rfl, rfl⟩) | (refine (within_any _ _ _ _).mono ?_; rintro e w' ⟨rfl, rfl⟩)))
                    try (go_quiet (first | (go_at_call 86; first | (refine quiet_left (calls_in (within_any _ _ _ _) ?_ ?_); omega; omega) | (refine quiet_left (calls_out (within_any _ _ _ _) ?_); omega) | (refine quiet_left (within_any _ _ _ _))) | (go_at_call 115; exact quiet_left (length_any _ _ (by omega) (by omega) (by omega) _ (hT'.out _ _))))
                         go_wp2_with ((go_at_call 86; first | (refine (calls_in (within_any _ _ _ _) ?_ ?_).mono ?_; omega; omega; rintro e w' ⟨rfl, rfl⟩) | (refine (calls_out (within_any _ _ _ _) ?_).mono ?_; omega; rintro e w' ⟨rfl, rfl⟩) | (refine (within_any _ _ _ _).mono ?_; rintro e w' ⟨rfl, rfl⟩))))
                    go_ret
                    exact ⟨ret_int (by unfold Cal.holErr; repeat' split
                                       all_goals first | rfl | omega), by (repeat (first | assumption | exact Below.refl _ _ | exact below_alloc _ _ | refine below_drewN ?_ _ | refine Below.drew ?_ | (refine Below.setCell ?_ ?_ _; rotate_left; focus (first | omega | (simp; done) | (simp; omega))) | (refine Below.alloc ?_ ?_ _; rotate_left; focus (first | omega | (simp; done) | (simp; omega)))))⟩
                  · go_enter Tryz.func88, Tryz.ntmps88
                    go_wp2_with ((go_at_call 86; first | (refine (calls_in (within_any _ _ _ _) ?_ ?_).mono ?_; omega; omega; rintro e w' ⟨rfl, rfl⟩) | (refine (calls_out (within_any _ _ _ _) ?_).mono ?_; omega; rintro e w' ⟨rfl, rfl⟩) | (refine (within_any _ _ _ _).mono ?_; rintro e w' ⟨rfl, rfl⟩)))
                    try (go_quiet (first | (go_at_call 86; first | (refine quiet_left (calls_in (within_any _ _ _ _) ?_ ?_); omega; omega) | (refine quiet_left (calls_out (within_any _ _ _ _) ?_); omega) | (refine quiet_left (within_any _ _ _ _))) | (go_at_call 115; exact quiet_left (length_any _ _ (by omega) (by omega) (by omega) _ (hT'.out _ _))))
                         go_wp2_with ((go_at_call 86; first | (refine (calls_in (within_any _ _ _ _) ?_ ?_).mono ?_; omega; omega; rintro e w' ⟨rfl, rfl⟩) | (refine (calls_out (within_any _ _ _ _) ?_).mono ?_; omega; rintro e w' ⟨rfl, rfl⟩) | (refine (within_any _ _ _ _).mono ?_; rintro e w' ⟨rfl, rfl⟩))))
                    go_ret
                    exact ⟨ret_int (by unfold Cal.holErr; repeat' split
                                       all_goals first | rfl | omega), by (repeat (first | assumption | exact Below.refl _ _ | exact below_alloc _ _ | refine below_drewN ?_ _ | refine Below.drew ?_ | (refine Below.setCell ?_ ?_ _; rotate_left; focus (first | omega | (simp; done) | (simp; omega))) | (refine Below.alloc ?_ ?_ _; rotate_left; focus (first | omega | (simp; done) | (simp; omega)))))⟩
                · go_enter Tryz.func88, Tryz.ntmps88
                  go_wp2_with ((go_at_call 86; first | (refine (calls_in (within_any _ _ _ _) ?_ ?_).mono ?_; omega; omega; rintro e w' ⟨rfl, rfl⟩) | (refine (calls_out (within_any _ _ _ _) ?_).mono ?_; omega; rintro e w' ⟨rfl, rfl⟩) | (refine (within_any _ _ _ _).mono ?_; rintro e w' ⟨rfl, rfl⟩)))
                  try (go_quiet (first | (go_at_call 86; first | (refine quiet_left (calls_in (within_any _ _ _ _) ?_ ?_); omega; omega) | (refine quiet_left (calls_out (within_any _ _ _ _) ?_); omega) | (refine quiet_left (within_any _ _ _ _))) | (go_at_call 115; exact quiet_left (length_any _ _ (by omega) (by omega) (by omega) _ (hT'.out _ _))))
                       go_wp2_with ((go_at_call 86; first | (refine (calls_in (within_any _ _ _ _) ?_ ?_).mono ?_; omega; omega; rintro e w' ⟨rfl, rfl⟩) | (refine (calls_out (within_any _ _ _ _) ?_).mono ?_; omega; rintro e w' ⟨rfl, rfl⟩) | (refine (within_any _ _ _ _).mono ?_; rintro e w' ⟨rfl, rfl⟩))))
                  go_ret
                  exact ⟨ret_int (by unfold Cal.holErr; repeat' split
                                     all_goals first | rfl | omega), by (repeat (first | assumption | exact Below.refl _ _ | exact below_alloc _ _ | refine below_drewN ?_ _ | refine Below.drew ?_ | (refine Below.setCell ?_ ?_ _; rotate_left; focus (first | omega | (simp; done) | (simp; omega))) | (refine Below.alloc ?_ ?_ _; rotate_left; focus (first | omega | (simp; done) | (simp; omega)))))⟩
              · have hd1e : (day == (-1)) = false := by simpa using hd1
                have hd1n : (day != (-1)) = true := by simpa using hd1
                go_enter Tryz.func88, Tryz.ntmps88
                go_wp2_with ((go_at_call 86; first | (refine (calls_in (within_any _ _ _ _) ?_ ?_).mono ?_; omega; omega; rintro e w' ⟨rfl, rfl⟩) | (refine (calls_out (within_any _ _ _ _) ?_).mono ?_; omega; rintro e w' ⟨rfl, rfl⟩) | (refine (within_any _ _ _ _).mono ?_; rintro e w' ⟨rfl, rfl⟩)))
                try (go_quiet (first | (go_at_call 86; first | (refine quiet_left (calls_in (within_any _ _ _ _) ?_ ?_); omega; omega) | (refine quiet_left (calls_out (within_any _ _ _ _) ?_); omega) | (refine quiet_left (within_any _ _ _ _))) | (go_at_call 115; exact quiet_left (length_any _ _ (by omega) (by omega) (by omega) _ (hT'.out _ _))))
                     go_wp2_with ((go_at_call 86; first | (refine (calls_in (within_any _ _ _ _) ?_ ?_).mono ?_; omega; omega; rintro e w' ⟨rfl, rfl⟩) | (refine (calls_out (within_any _ _ _ _) ?_).mono ?_; omega; rintro e w' ⟨rfl, rfl⟩) | (refine (within_any _ _ _ _).mono ?_; rintro e w' ⟨rfl, rfl⟩))))
                go_ret
                exact ⟨ret_int (by unfold Cal.holErr; repeat' split
                                   all_goals first | rfl | omega), by (repeat (first | assumption | exact Below.refl _ _ | exact below_alloc _ _ | refine below_drewN ?_ _ | refine Below.drew ?_ | (refine Below.setCell ?_ ?_ _; rotate_left; focus (first | omega | (simp; done) | (simp; omega))) | (refine Below.alloc ?_ ?_ _; rotate_left; focus (first | omega | (simp; done) | (simp; omega)))))⟩
          · go_enter Tryz.func88, Tryz.ntmps88
            go_wp2_with ((go_at_call 86; first | (refine (calls_in (within_any _ _ _ _) ?_ ?_).mono ?_; omega; omega; rintro e w' ⟨rfl, rfl⟩) | (refine (calls_out (within_any _ _ _ _) ?_).mono ?_; omega; rintro e w' ⟨rfl, rfl⟩) | (refine (within_any _ _ _ _).mono ?_; rintro e w' ⟨rfl, rfl⟩)))
            try (go_quiet (first | (go_at_call 86; first | (refine quiet_left (calls_in (within_any _ _ _ _) ?_ ?_); omega; omega) | (refine quiet_left (calls_out (within_any _ _ _ _) ?_); omega) | (refine quiet_left (within_any _ _ _ _))) | (go_at_call 115; exact quiet_left (length_any _ _ (by omega) (by omega) (by omega) _ (hT'.out _ _))))
                 go_wp2_with ((go_at_call 86; first | (refine (calls_in (within_any _ _ _ _) ?_ ?_).mono ?_; omega; omega; rintro e w' ⟨rfl, rfl⟩) | (refine (calls_out (within_any _ _ _ _) ?_).mono ?_; omega; rintro e w' ⟨rfl, rfl⟩) | (refine (within_any _ _ _ _).mono ?_; rintro e w' ⟨rfl, rfl⟩))))
            go_ret
            exact ⟨ret_int (by unfold Cal.holErr; repeat' split
                               all_goals first | rfl | omega), by (repeat (first | assumption | exact Below.refl _ _ | exact below_alloc _ _ | refine below_drewN ?_ _ | refine Below.drew ?_ | (refine Below.setCell ?_ ?_ _; rotate_left; focus (first | omega | (simp; done) | (simp; omega))) | (refine Below.alloc ?_ ?_ _; rotate_left; focus (first | omega | (simp; done) | (simp; omega)))))⟩
        · go_enter Tryz.func88, Tryz.ntmps88
          go_wp2_with ((go_at_call 86; first | (refine (calls_in (within_any _ _ _ _) ?_ ?_).mono ?_; omega; omega; rintro e w' ⟨rfl, rfl⟩) | (refine (calls_out (within_any _ _ _ _) ?_).mono ?_; omega; rintro e w' ⟨rfl, rfl⟩) | (refine (within_any _ _ _ _).mono ?_; rintro e w' ⟨rfl, rfl⟩)))
          try (go_quiet (first | (go_at_call 86; first | (refine quiet_left (calls_in (within_any _ _ _ _) ?_ ?_); omega; omega) | (refine quiet_left (calls_out (within_any _ _ _ _) ?_); omega) | (refine quiet_left (within_any _ _ _ _))) | (go_at_call 115; exact quiet_left (length_any _ _ (by omega) (by omega) (by omega) _ (hT'.out _ _))))
               go_wp2_with ((go_at_call 86; first | (refine (calls_in (within_any _ _ _ _) ?_ ?_).mono ?_; omega; omega; rintro e w' ⟨rfl, rfl⟩) | (refine (calls_out (within_any _ _ _ _) ?_).mono ?_; omega; rintro e w' ⟨rfl, rfl⟩) | (refine (within_any _ _ _ _).mono ?_; rintro e w' ⟨rfl, rfl⟩))))
          go_ret
          exact ⟨ret_int (by unfold Cal.holErr; repeat' split
                             all_goals first | rfl | omega), by (repeat (first | assumption | exact Below.refl _ _ | exact below_alloc _ _ | refine below_drewN ?_ _ | refine Below.drew ?_ | (refine Below.setCell ?_ ?_ _; rotate_left; focus (first | omega | (simp; done) | (simp; omega))) | (refine Below.alloc ?_ ?_ _; rotate_left; focus (first | omega | (simp; done) | (simp; omega)))))⟩
      · have hk2e : (kind == 2) = false := by simpa using hk2
        have hk2n : (kind != 2) = true := by simpa using hk2
        go_enter Tryz.func88, Tryz.ntmps88
        go_wp2_with ((go_at_call 86; first | (refine (calls_in (within_any _ _ _ _) ?_ ?_).mono ?_; omega; omega; rintro e w' ⟨rfl, rfl⟩) | (refine (calls_out (within_any _ _ _ _) ?_).mono ?_; omega; rintro e w' ⟨rfl, rfl⟩) | (refine (within_any _ _ _ _).mono ?_; rintro e w' ⟨rfl, rfl⟩)))
        try (go_quiet (first | (go_at_call 86; first | (refine quiet_left (calls_in (within_any _ _ _ _) ?_ ?_); omega; omega) | (refine quiet_left (calls_out (within_any _ _ _ _) ?_); omega) | (refine quiet_left (within_any _ _ _ _))) | (go_at_call 115; exact quiet_left (length_any _ _ (by omega) (by omega) (by omega) _ (hT'.out _ _))))
             go_wp2_with ((go_at_call 86; first | (refine (calls_in (within_any _ _ _ _) ?_ ?_).mono ?_; omega; omega; rintro e w' ⟨rfl, rfl⟩) | (refine (calls_out (within_any _ _ _ _) ?_).mono ?_; omega; rintro e w' ⟨rfl, rfl⟩) | (refine (within_any _ _ _ _).mono ?_; rintro e w' ⟨rfl, rfl⟩))))
        go_ret
        exact ⟨ret_int (by unfold Cal.holErr; repeat' split
                           all_goals first | rfl | omega), by (repeat (first | assumption | exact Below.refl _ _ | exact below_alloc _ _ | refine below_drewN ?_ _ | refine Below.drew ?_ | (refine Below.setCell ?_ ?_ _; rotate_left; focus (first | omega | (simp; done) | (simp; omega))) | (refine Below.alloc ?_ ?_ _; rotate_left; focus (first | omega | (simp; done) | (simp; omega)))))⟩
set_option maxHeartbeats 4000000 in
theorem HolidayErr_any (nm : ByteArray) (kind month day weekday : Int) (w : World) :
    Calls Tryz.prog 84 #[.agg #[.string nm, .int .i64 kind, .int .i64 month, .int .i64 day, .int .i64 weekday]] w fun e w' => e = .returned (.int .i64 (Cal.holErr kind month day weekday)) ∧ Below w.heap.size w w' := by
  by_cases hk0 : kind = 0
  · subst hk0
    have hmb := Cal.mlen_bd 1804 month
    by_cases hma : 1 ≤ month
    · by_cases hmb : month ≤ 12
      · by_cases hda : 1 ≤ day
        · by_cases hdb : day ≤ Cal.mlen 1804 month
          · by_cases hw : weekday = 0
            · subst hw
              go_enter Tryz.func84, Tryz.ntmps84
              go_wp2_with ((go_at_call 41; first | (refine (calls_in (Within_any _ _ _ _) ?_ ?_).mono ?_; omega; omega; rintro e w' ⟨rfl, rfl⟩) | (refine (calls_out (Within_any _ _ _ _) ?_).mono ?_; omega; rintro e w' ⟨rfl, rfl⟩) | (refine (Within_any _ _ _ _).mono ?_; rintro e w' ⟨rfl, rfl⟩)))
              try (go_quiet (first | (go_at_call 41; first | (refine quiet_left (calls_in (Within_any _ _ _ _) ?_ ?_); omega; omega) | (refine quiet_left (calls_out (Within_any _ _ _ _) ?_); omega) | (refine quiet_left (Within_any _ _ _ _))) | (go_at_call 111; exact quiet_left (MonthDays_any _ _ (by omega) (by omega) (by omega) _)))
                   go_wp2_with ((go_at_call 41; first | (refine (calls_in (Within_any _ _ _ _) ?_ ?_).mono ?_; omega; omega; rintro e w' ⟨rfl, rfl⟩) | (refine (calls_out (Within_any _ _ _ _) ?_).mono ?_; omega; rintro e w' ⟨rfl, rfl⟩) | (refine (Within_any _ _ _ _).mono ?_; rintro e w' ⟨rfl, rfl⟩))))
              go_ret
              exact ⟨ret_int (by unfold Cal.holErr; repeat' split
                                 all_goals first | rfl | omega), by (repeat (first | assumption | exact Below.refl _ _ | exact below_alloc _ _ | refine below_drewN ?_ _ | refine Below.drew ?_ | (refine Below.setCell ?_ ?_ _; rotate_left; focus (first | omega | (simp; done) | (simp; omega))) | (refine Below.alloc ?_ ?_ _; rotate_left; focus (first | omega | (simp; done) | (simp; omega)))))⟩
            · have hwe : (weekday == 0) = false := by simpa using hw
              have hwn : (weekday != 0) = true := by simpa using hw
              go_enter Tryz.func84, Tryz.ntmps84
              go_wp2_with ((go_at_call 41; first | (refine (calls_in (Within_any _ _ _ _) ?_ ?_).mono ?_; omega; omega; rintro e w' ⟨rfl, rfl⟩) | (refine (calls_out (Within_any _ _ _ _) ?_).mono ?_; omega; rintro e w' ⟨rfl, rfl⟩) | (refine (Within_any _ _ _ _).mono ?_; rintro e w' ⟨rfl, rfl⟩)))
              try (go_quiet (first | (go_at_call 41; first | (refine quiet_left (calls_in (Within_any _ _ _ _) ?_ ?_); omega; omega) | (refine quiet_left (calls_out (Within_any _ _ _ _) ?_); omega) | (refine quiet_left (Within_any _ _ _ _))) | (go_at_call 111; exact quiet_left (MonthDays_any _ _ (by omega) (by omega) (by omega) _)))
                   go_wp2_with ((go_at_call 41; first | (refine (calls_in (Within_any _ _ _ _) ?_ ?_).mono ?_; omega; omega; rintro e w' ⟨rfl, rfl⟩) | (refine (calls_out (Within_any _ _ _ _) ?_).mono ?_; omega; rintro e w' ⟨rfl, rfl⟩) | (refine (Within_any _ _ _ _).mono ?_; rintro e w' ⟨rfl, rfl⟩))))
              go_ret
              exact ⟨ret_int (by unfold Cal.holErr; repeat' split
                                 all_goals first | rfl | omega), by (repeat (first | assumption | exact Below.refl _ _ | exact below_alloc _ _ | refine below_drewN ?_ _ | refine Below.drew ?_ | (refine Below.setCell ?_ ?_ _; rotate_left; focus (first | omega | (simp; done) | (simp; omega))) | (refine Below.alloc ?_ ?_ _; rotate_left; focus (first | omega | (simp; done) | (simp; omega)))))⟩
          · go_enter Tryz.func84, Tryz.ntmps84
            go_wp2_with ((go_at_call 41; first | (refine (calls_in (Within_any _ _ _ _) ?_ ?_).mono ?_; omega; omega; rintro e w' ⟨rfl, rfl⟩) | (refine (calls_out (Within_any _ _ _ _) ?_).mono ?_; omega; rintro e w' ⟨rfl, rfl⟩) | (refine (Within_any _ _ _ _).mono ?_; rintro e w' ⟨rfl, rfl⟩)))
            try (go_quiet (first | (go_at_call 41; first | (refine quiet_left (calls_in (Within_any _ _ _ _) ?_ ?_); omega; omega) | (refine quiet_left (calls_out (Within_any _ _ _ _) ?_); omega) | (refine quiet_left (Within_any _ _ _ _))) | (go_at_call 111; exact quiet_left (MonthDays_any _ _ (by omega) (by omega) (by omega) _)))
                 go_wp2_with ((go_at_call 41; first | (refine (calls_in (Within_any _ _ _ _) ?_ ?_).mono ?_; omega; omega; rintro e w' ⟨rfl, rfl⟩) | (refine (calls_out (Within_any _ _ _ _) ?_).mono ?_; omega; rintro e w' ⟨rfl, rfl⟩) | (refine (Within_any _ _ _ _).mono ?_; rintro e w' ⟨rfl, rfl⟩))))
            go_ret
            exact ⟨ret_int (by unfold Cal.holErr; repeat' split
                               all_goals first | rfl | omega), by (repeat (first | assumption | exact Below.refl _ _ | exact below_alloc _ _ | refine below_drewN ?_ _ | refine Below.drew ?_ | (refine Below.setCell ?_ ?_ _; rotate_left; focus (first | omega | (simp; done) | (simp; omega))) | (refine Below.alloc ?_ ?_ _; rotate_left; focus (first | omega | (simp; done) | (simp; omega)))))⟩
        · go_enter Tryz.func84, Tryz.ntmps84
          go_wp2_with ((go_at_call 41; first | (refine (calls_in (Within_any _ _ _ _) ?_ ?_).mono ?_; omega; omega; rintro e w' ⟨rfl, rfl⟩) | (refine (calls_out (Within_any _ _ _ _) ?_).mono ?_; omega; rintro e w' ⟨rfl, rfl⟩) | (refine (Within_any _ _ _ _).mono ?_; rintro e w' ⟨rfl, rfl⟩)))
          try (go_quiet (first | (go_at_call 41; first | (refine quiet_left (calls_in (Within_any _ _ _ _) ?_ ?_); omega; omega) | (refine quiet_left (calls_out (Within_any _ _ _ _) ?_); omega) | (refine quiet_left (Within_any _ _ _ _))) | (go_at_call 111; exact quiet_left (MonthDays_any _ _ (by omega) (by omega) (by omega) _)))
               go_wp2_with ((go_at_call 41; first | (refine (calls_in (Within_any _ _ _ _) ?_ ?_).mono ?_; omega; omega; rintro e w' ⟨rfl, rfl⟩) | (refine (calls_out (Within_any _ _ _ _) ?_).mono ?_; omega; rintro e w' ⟨rfl, rfl⟩) | (refine (Within_any _ _ _ _).mono ?_; rintro e w' ⟨rfl, rfl⟩))))
          go_ret
          exact ⟨ret_int (by unfold Cal.holErr; repeat' split
                             all_goals first | rfl | omega), by (repeat (first | assumption | exact Below.refl _ _ | exact below_alloc _ _ | refine below_drewN ?_ _ | refine Below.drew ?_ | (refine Below.setCell ?_ ?_ _; rotate_left; focus (first | omega | (simp; done) | (simp; omega))) | (refine Below.alloc ?_ ?_ _; rotate_left; focus (first | omega | (simp; done) | (simp; omega)))))⟩
      · go_enter Tryz.func84, Tryz.ntmps84
        go_wp2_with ((go_at_call 41; first | (refine (calls_in (Within_any _ _ _ _) ?_ ?_).mono ?_; omega; omega; rintro e w' ⟨rfl, rfl⟩) | (refine (calls_out (Within_any _ _ _ _) ?_).mono ?_; omega; rintro e w' ⟨rfl, rfl⟩) | (refine (Within_any _ _ _ _).mono ?_; rintro e w' ⟨rfl, rfl⟩)))
        try (go_quiet (first | (go_at_call 41; first | (refine quiet_left (calls_in (Within_any _ _ _ _) ?_ ?_); omega; omega) | (refine quiet_left (calls_out (Within_any _ _ _ _) ?_); omega) | (refine quiet_left (Within_any _ _ _ _))) | (go_at_call 111; exact quiet_left (MonthDays_any _ _ (by omega) (by omega) (by omega) _)))
             go_wp2_with ((go_at_call 41; first | (refine (calls_in (Within_any _ _ _ _) ?_ ?_).mono ?_; omega; omega; rintro e w' ⟨rfl, rfl⟩) | (refine (calls_out (Within_any _ _ _ _) ?_).mono ?_; omega; rintro e w' ⟨rfl, rfl⟩) | (refine (Within_any _ _ _ _).mono ?_; rintro e w' ⟨rfl, rfl⟩))))
        go_ret
        exact ⟨ret_int (by unfold Cal.holErr; repeat' split
                           all_goals first | rfl | omega), by (repeat (first | assumption | exact Below.refl _ _ | exact below_alloc _ _ | refine below_drewN ?_ _ | refine Below.drew ?_ | (refine Below.setCell ?_ ?_ _; rotate_left; focus (first | omega | (simp; done) | (simp; omega))) | (refine Below.alloc ?_ ?_ _; rotate_left; focus (first | omega | (simp; done) | (simp; omega)))))⟩
    · go_enter Tryz.func84, Tryz.ntmps84
      go_wp2_with ((go_at_call 41; first | (refine (calls_in (Within_any _ _ _ _) ?_ ?_).mono ?_; omega; omega; rintro e w' ⟨rfl, rfl⟩) | (refine (calls_out (Within_any _ _ _ _) ?_).mono ?_; omega; rintro e w' ⟨rfl, rfl⟩) | (refine (Within_any _ _ _ _).mono ?_; rintro e w' ⟨rfl, rfl⟩)))
      try (go_quiet (first | (go_at_call 41; first | (refine quiet_left (calls_in (Within_any _ _ _ _) ?_ ?_); omega; omega) | (refine quiet_left (calls_out (Within_any _ _ _ _) ?_); omega) | (refine quiet_left (Within_any _ _ _ _))) | (go_at_call 111; exact quiet_left (MonthDays_any _ _ (by omega) (by omega) (by omega) _)))
           go_wp2_with ((go_at_call 41; first | (refine (calls_in (Within_any _ _ _ _) ?_ ?_).mono ?_; omega; omega; rintro e w' ⟨rfl, rfl⟩) | (refine (calls_out (Within_any _ _ _ _) ?_).mono ?_; omega; rintro e w' ⟨rfl, rfl⟩) | (refine (Within_any _ _ _ _).mono ?_; rintro e w' ⟨rfl, rfl⟩))))
      go_ret
      exact ⟨ret_int (by unfold Cal.holErr; repeat' split
                         all_goals first | rfl | omega), by (repeat (first | assumption | exact Below.refl _ _ | exact below_alloc _ _ | refine below_drewN ?_ _ | refine Below.drew ?_ | (refine Below.setCell ?_ ?_ _; rotate_left; focus (first | omega | (simp; done) | (simp; omega))) | (refine Below.alloc ?_ ?_ _; rotate_left; focus (first | omega | (simp; done) | (simp; omega)))))⟩
  · have hk0e : (kind == 0) = false := by simpa using hk0
    have hk0n : (kind != 0) = true := by simpa using hk0
    by_cases hk1 : kind = 1
    · subst hk1
      by_cases hda : -80 ≤ day
      · by_cases hdb : day ≤ 240
        · by_cases hm : month = 0
          · subst hm
            by_cases hw : weekday = 0
            · subst hw
              go_enter Tryz.func84, Tryz.ntmps84
              go_wp2_with ((go_at_call 41; first | (refine (calls_in (Within_any _ _ _ _) ?_ ?_).mono ?_; omega; omega; rintro e w' ⟨rfl, rfl⟩) | (refine (calls_out (Within_any _ _ _ _) ?_).mono ?_; omega; rintro e w' ⟨rfl, rfl⟩) | (refine (Within_any _ _ _ _).mono ?_; rintro e w' ⟨rfl, rfl⟩)))
              try (go_quiet (first | (go_at_call 41; first | (refine quiet_left (calls_in (Within_any _ _ _ _) ?_ ?_); omega; omega) | (refine quiet_left (calls_out (Within_any _ _ _ _) ?_); omega) | (refine quiet_left (Within_any _ _ _ _))) | (go_at_call 111; exact quiet_left (MonthDays_any _ _ (by omega) (by omega) (by omega) _)))
                   go_wp2_with ((go_at_call 41; first | (refine (calls_in (Within_any _ _ _ _) ?_ ?_).mono ?_; omega; omega; rintro e w' ⟨rfl, rfl⟩) | (refine (calls_out (Within_any _ _ _ _) ?_).mono ?_; omega; rintro e w' ⟨rfl, rfl⟩) | (refine (Within_any _ _ _ _).mono ?_; rintro e w' ⟨rfl, rfl⟩))))
              go_ret
              exact ⟨ret_int (by unfold Cal.holErr; repeat' split
                                 all_goals first | rfl | omega), by (repeat (first | assumption | exact Below.refl _ _ | exact below_alloc _ _ | refine below_drewN ?_ _ | refine Below.drew ?_ | (refine Below.setCell ?_ ?_ _; rotate_left; focus (first | omega | (simp; done) | (simp; omega))) | (refine Below.alloc ?_ ?_ _; rotate_left; focus (first | omega | (simp; done) | (simp; omega)))))⟩
            · have hwe : (weekday == 0) = false := by simpa using hw
              have hwn : (weekday != 0) = true := by simpa using hw
              go_enter Tryz.func84, Tryz.ntmps84
              go_wp2_with ((go_at_call 41; first | (refine (calls_in (Within_any _ _ _ _) ?_ ?_).mono ?_; omega; omega; rintro e w' ⟨rfl, rfl⟩) | (refine (calls_out (Within_any _ _ _ _) ?_).mono ?_; omega; rintro e w' ⟨rfl, rfl⟩) | (refine (Within_any _ _ _ _).mono ?_; rintro e w' ⟨rfl, rfl⟩)))
              try (go_quiet (first | (go_at_call 41; first | (refine quiet_left (calls_in (Within_any _ _ _ _) ?_ ?_); omega; omega) | (refine quiet_left (calls_out (Within_any _ _ _ _) ?_); omega) | (refine quiet_left (Within_any _ _ _ _))) | (go_at_call 111; exact quiet_left (MonthDays_any _ _ (by omega) (by omega) (by omega) _)))
                   go_wp2_with ((go_at_call 41; first | (refine (calls_in (Within_any _ _ _ _) ?_ ?_).mono ?_; omega; omega; rintro e w' ⟨rfl, rfl⟩) | (refine (calls_out (Within_any _ _ _ _) ?_).mono ?_; omega; rintro e w' ⟨rfl, rfl⟩) | (refine (Within_any _ _ _ _).mono ?_; rintro e w' ⟨rfl, rfl⟩))))
              go_ret
              exact ⟨ret_int (by unfold Cal.holErr; repeat' split
                                 all_goals first | rfl | omega), by (repeat (first | assumption | exact Below.refl _ _ | exact below_alloc _ _ | refine below_drewN ?_ _ | refine Below.drew ?_ | (refine Below.setCell ?_ ?_ _; rotate_left; focus (first | omega | (simp; done) | (simp; omega))) | (refine Below.alloc ?_ ?_ _; rotate_left; focus (first | omega | (simp; done) | (simp; omega)))))⟩
          · have hme : (month == 0) = false := by simpa using hm
            have hmn : (month != 0) = true := by simpa using hm
            go_enter Tryz.func84, Tryz.ntmps84
            go_wp2_with ((go_at_call 41; first | (refine (calls_in (Within_any _ _ _ _) ?_ ?_).mono ?_; omega; omega; rintro e w' ⟨rfl, rfl⟩) | (refine (calls_out (Within_any _ _ _ _) ?_).mono ?_; omega; rintro e w' ⟨rfl, rfl⟩) | (refine (Within_any _ _ _ _).mono ?_; rintro e w' ⟨rfl, rfl⟩)))
            try (go_quiet (first | (go_at_call 41; first | (refine quiet_left (calls_in (Within_any _ _ _ _) ?_ ?_); omega; omega) | (refine quiet_left (calls_out (Within_any _ _ _ _) ?_); omega) | (refine quiet_left (Within_any _ _ _ _))) | (go_at_call 111; exact quiet_left (MonthDays_any _ _ (by omega) (by omega) (by omega) _)))
                 go_wp2_with ((go_at_call 41; first | (refine (calls_in (Within_any _ _ _ _) ?_ ?_).mono ?_; omega; omega; rintro e w' ⟨rfl, rfl⟩) | (refine (calls_out (Within_any _ _ _ _) ?_).mono ?_; omega; rintro e w' ⟨rfl, rfl⟩) | (refine (Within_any _ _ _ _).mono ?_; rintro e w' ⟨rfl, rfl⟩))))
            go_ret
            exact ⟨ret_int (by unfold Cal.holErr; repeat' split
                               all_goals first | rfl | omega), by (repeat (first | assumption | exact Below.refl _ _ | exact below_alloc _ _ | refine below_drewN ?_ _ | refine Below.drew ?_ | (refine Below.setCell ?_ ?_ _; rotate_left; focus (first | omega | (simp; done) | (simp; omega))) | (refine Below.alloc ?_ ?_ _; rotate_left; focus (first | omega | (simp; done) | (simp; omega)))))⟩
        · go_enter Tryz.func84, Tryz.ntmps84
          go_wp2_with ((go_at_call 41; first | (refine (calls_in (Within_any _ _ _ _) ?_ ?_).mono ?_; omega; omega; rintro e w' ⟨rfl, rfl⟩) | (refine (calls_out (Within_any _ _ _ _) ?_).mono ?_; omega; rintro e w' ⟨rfl, rfl⟩) | (refine (Within_any _ _ _ _).mono ?_; rintro e w' ⟨rfl, rfl⟩)))
          try (go_quiet (first | (go_at_call 41; first | (refine quiet_left (calls_in (Within_any _ _ _ _) ?_ ?_); omega; omega) | (refine quiet_left (calls_out (Within_any _ _ _ _) ?_); omega) | (refine quiet_left (Within_any _ _ _ _))) | (go_at_call 111; exact quiet_left (MonthDays_any _ _ (by omega) (by omega) (by omega) _)))
               go_wp2_with ((go_at_call 41; first | (refine (calls_in (Within_any _ _ _ _) ?_ ?_).mono ?_; omega; omega; rintro e w' ⟨rfl, rfl⟩) | (refine (calls_out (Within_any _ _ _ _) ?_).mono ?_; omega; rintro e w' ⟨rfl, rfl⟩) | (refine (Within_any _ _ _ _).mono ?_; rintro e w' ⟨rfl, rfl⟩))))
          go_ret
          exact ⟨ret_int (by unfold Cal.holErr; repeat' split
                             all_goals first | rfl | omega), by (repeat (first | assumption | exact Below.refl _ _ | exact below_alloc _ _ | refine below_drewN ?_ _ | refine Below.drew ?_ | (refine Below.setCell ?_ ?_ _; rotate_left; focus (first | omega | (simp; done) | (simp; omega))) | (refine Below.alloc ?_ ?_ _; rotate_left; focus (first | omega | (simp; done) | (simp; omega)))))⟩
      · go_enter Tryz.func84, Tryz.ntmps84
        go_wp2_with ((go_at_call 41; first | (refine (calls_in (Within_any _ _ _ _) ?_ ?_).mono ?_; omega; omega; rintro e w' ⟨rfl, rfl⟩) | (refine (calls_out (Within_any _ _ _ _) ?_).mono ?_; omega; rintro e w' ⟨rfl, rfl⟩) | (refine (Within_any _ _ _ _).mono ?_; rintro e w' ⟨rfl, rfl⟩)))
        try (go_quiet (first | (go_at_call 41; first | (refine quiet_left (calls_in (Within_any _ _ _ _) ?_ ?_); omega; omega) | (refine quiet_left (calls_out (Within_any _ _ _ _) ?_); omega) | (refine quiet_left (Within_any _ _ _ _))) | (go_at_call 111; exact quiet_left (MonthDays_any _ _ (by omega) (by omega) (by omega) _)))
             go_wp2_with ((go_at_call 41; first | (refine (calls_in (Within_any _ _ _ _) ?_ ?_).mono ?_; omega; omega; rintro e w' ⟨rfl, rfl⟩) | (refine (calls_out (Within_any _ _ _ _) ?_).mono ?_; omega; rintro e w' ⟨rfl, rfl⟩) | (refine (Within_any _ _ _ _).mono ?_; rintro e w' ⟨rfl, rfl⟩))))
        go_ret
        exact ⟨ret_int (by unfold Cal.holErr; repeat' split
                           all_goals first | rfl | omega), by (repeat (first | assumption | exact Below.refl _ _ | exact below_alloc _ _ | refine below_drewN ?_ _ | refine Below.drew ?_ | (refine Below.setCell ?_ ?_ _; rotate_left; focus (first | omega | (simp; done) | (simp; omega))) | (refine Below.alloc ?_ ?_ _; rotate_left; focus (first | omega | (simp; done) | (simp; omega)))))⟩
    · have hk1e : (kind == 1) = false := by simpa using hk1
      have hk1n : (kind != 1) = true := by simpa using hk1
      by_cases hk2 : kind = 2
      · subst hk2
        by_cases hma : 1 ≤ month
        · by_cases hmb : month ≤ 12
          · by_cases hda : 1 ≤ day
            · by_cases hdb : day ≤ 4
              · by_cases hwa : 0 ≤ weekday
                · by_cases hwb : weekday ≤ 6
                  · go_enter Tryz.func84, Tryz.ntmps84
                    go_wp2_with ((go_at_call 41; first | (refine (calls_in (Within_any _ _ _ _) ?_ ?_).mono ?_; omega; omega; rintro e w' ⟨rfl, rfl⟩) | (refine (calls_out (Within_any _ _ _ _) ?_).mono ?_; omega; rintro e w' ⟨rfl, rfl⟩) | (refine (Within_any _ _ _ _).mono ?_; rintro e w' ⟨rfl, rfl⟩)))
                    try (go_quiet (first | (go_at_call 41; first | (refine quiet_left (calls_in (Within_any _ _ _ _) ?_ ?_); omega; omega) | (refine quiet_left (calls_out (Within_any _ _ _ _) ?_); omega) | (refine quiet_left (Within_any _ _ _ _))) | (go_at_call 111; exact quiet_left (MonthDays_any _ _ (by omega) (by omega) (by omega) _)))
                         go_wp2_with ((go_at_call 41; first | (refine (calls_in (Within_any _ _ _ _) ?_ ?_).mono ?_; omega; omega; rintro e w' ⟨rfl, rfl⟩) | (refine (calls_out (Within_any _ _ _ _) ?_).mono ?_; omega; rintro e w' ⟨rfl, rfl⟩) | (refine (Within_any _ _ _ _).mono ?_; rintro e w' ⟨rfl, rfl⟩))))
                    go_ret
                    exact ⟨ret_int (by unfold Cal.holErr; repeat' split
                                       all_goals first | rfl | omega), by (repeat (first | assumption | exact Below.refl _ _ | exact below_alloc _ _ | refine below_drewN ?_ _ | refine Below.drew ?_ | (refine Below.setCell ?_ ?_ _; rotate_left; focus (first | omega | (simp; done) | (simp; omega))) | (refine Below.alloc ?_ ?_ _; rotate_left; focus (first | omega | (simp; done) | (simp; omega)))))⟩
                  · go_enter Tryz.func84, Tryz.ntmps84
                    go_wp2_with ((go_at_call 41; first | (refine (calls_in (Within_any _ _ _ _) ?_ ?_).mono ?_; omega; omega; rintro e w' ⟨rfl, rfl⟩) | (refine (calls_out (Within_any _ _ _ _) ?_).mono ?_; omega; rintro e w' ⟨rfl, rfl⟩) | (refine (Within_any _ _ _ _).mono ?_; rintro e w' ⟨rfl, rfl⟩)))
                    try (go_quiet (first | (go_at_call 41; first | (refine quiet_left (calls_in (Within_any _ _ _ _) ?_ ?_); omega; omega) | (refine quiet_left (calls_out (Within_any _ _ _ _) ?_); omega) | (refine quiet_left (Within_any _ _ _ _))) | (go_at_call 111; exact quiet_left (MonthDays_any _ _ (by omega) (by omega) (by omega) _)))
                         go_wp2_with ((go_at_call 41; first | (refine (calls_in (Within_any _ _ _ _) ?_ ?_).mono ?_; omega; omega; rintro e w' ⟨rfl, rfl⟩) | (refine (calls_out (Within_any _ _ _ _) ?_).mono ?_; omega; rintro e w' ⟨rfl, rfl⟩) | (refine (Within_any _ _ _ _).mono ?_; rintro e w' ⟨rfl, rfl⟩))))
                    go_ret
                    exact ⟨ret_int (by unfold Cal.holErr; repeat' split
                                       all_goals first | rfl | omega), by (repeat (first | assumption | exact Below.refl _ _ | exact below_alloc _ _ | refine below_drewN ?_ _ | refine Below.drew ?_ | (refine Below.setCell ?_ ?_ _; rotate_left; focus (first | omega | (simp; done) | (simp; omega))) | (refine Below.alloc ?_ ?_ _; rotate_left; focus (first | omega | (simp; done) | (simp; omega)))))⟩
                · go_enter Tryz.func84, Tryz.ntmps84
                  go_wp2_with ((go_at_call 41; first | (refine (calls_in (Within_any _ _ _ _) ?_ ?_).mono ?_; omega; omega; rintro e w' ⟨rfl, rfl⟩) | (refine (calls_out (Within_any _ _ _ _) ?_).mono ?_; omega; rintro e w' ⟨rfl, rfl⟩) | (refine (Within_any _ _ _ _).mono ?_; rintro e w' ⟨rfl, rfl⟩)))
                  try (go_quiet (first | (go_at_call 41; first | (refine quiet_left (calls_in (Within_any _ _ _ _) ?_ ?_); omega; omega) | (refine quiet_left (calls_out (Within_any _ _ _ _) ?_); omega) | (refine quiet_left (Within_any _ _ _ _))) | (go_at_call 111; exact quiet_left (MonthDays_any _ _ (by omega) (by omega) (by omega) _)))
                       go_wp2_with ((go_at_call 41; first | (refine (calls_in (Within_any _ _ _ _) ?_ ?_).mono ?_; omega; omega; rintro e w' ⟨rfl, rfl⟩) | (refine (calls_out (Within_any _ _ _ _) ?_).mono ?_; omega; rintro e w' ⟨rfl, rfl⟩) | (refine (Within_any _ _ _ _).mono ?_; rintro e w' ⟨rfl, rfl⟩))))
                  go_ret
                  exact ⟨ret_int (by unfold Cal.holErr; repeat' split
                                     all_goals first | rfl | omega), by (repeat (first | assumption | exact Below.refl _ _ | exact below_alloc _ _ | refine below_drewN ?_ _ | refine Below.drew ?_ | (refine Below.setCell ?_ ?_ _; rotate_left; focus (first | omega | (simp; done) | (simp; omega))) | (refine Below.alloc ?_ ?_ _; rotate_left; focus (first | omega | (simp; done) | (simp; omega)))))⟩
              · have hd1e : (day == (-1)) = false := by simp; omega
                have hd1n : (day != (-1)) = true := by simp; omega
                go_enter Tryz.func84, Tryz.ntmps84
                go_wp2_with ((go_at_call 41; first | (refine (calls_in (Within_any _ _ _ _) ?_ ?_).mono ?_; omega; omega; rintro e w' ⟨rfl, rfl⟩) | (refine (calls_out (Within_any _ _ _ _) ?_).mono ?_; omega; rintro e w' ⟨rfl, rfl⟩) | (refine (Within_any _ _ _ _).mono ?_; rintro e w' ⟨rfl, rfl⟩)))
                try (go_quiet (first | (go_at_call 41; first | (refine quiet_left (calls_in (Within_any _ _ _ _) ?_ ?_); omega; omega) | (refine quiet_left (calls_out (Within_any _ _ _ _) ?_); omega) | (refine quiet_left (Within_any _ _ _ _))) | (go_at_call 111; exact quiet_left (MonthDays_any _ _ (by omega) (by omega) (by omega) _)))
                     go_wp2_with ((go_at_call 41; first | (refine (calls_in (Within_any _ _ _ _) ?_ ?_).mono ?_; omega; omega; rintro e w' ⟨rfl, rfl⟩) | (refine (calls_out (Within_any _ _ _ _) ?_).mono ?_; omega; rintro e w' ⟨rfl, rfl⟩) | (refine (Within_any _ _ _ _).mono ?_; rintro e w' ⟨rfl, rfl⟩))))
                go_ret
                exact ⟨ret_int (by unfold Cal.holErr; repeat' split
                                   all_goals first | rfl | omega), by (repeat (first | assumption | exact Below.refl _ _ | exact below_alloc _ _ | refine below_drewN ?_ _ | refine Below.drew ?_ | (refine Below.setCell ?_ ?_ _; rotate_left; focus (first | omega | (simp; done) | (simp; omega))) | (refine Below.alloc ?_ ?_ _; rotate_left; focus (first | omega | (simp; done) | (simp; omega)))))⟩
            · by_cases hd1 : day = (-1)
              · have hd1e : (day == (-1)) = true := by simpa using hd1
                have hd1n : (day != (-1)) = false := by simpa using hd1
                have hd1l : day ≤ (-1) := by omega
                have hd1g : (-1) ≤ day := by omega
                clear hd1
                by_cases hwa : 0 ≤ weekday
                · by_cases hwb : weekday ≤ 6
                  · go_enter Tryz.func84, Tryz.ntmps84
                    go_wp2_with ((go_at_call 41; first | (refine (calls_in (Within_any _ _ _ _) ?_ ?_).mono ?_; omega; omega; rintro e w' ⟨rfl, rfl⟩) | (refine (calls_out (Within_any _ _ _ _) ?_).mono ?_; omega; rintro e w' ⟨rfl, rfl⟩) | (refine (Within_any _ _ _ _).mono ?_; rintro e w' ⟨rfl, rfl⟩)))
                    try (go_quiet (first | (go_at_call 41; first | (refine quiet_left (calls_in (Within_any _ _ _ _) ?_ ?_); omega; omega) | (refine quiet_left (calls_out (Within_any _ _ _ _) ?_); omega) | (refine quiet_left (Within_any _ _ _ _))) | (go_at_call 111; exact quiet_left (MonthDays_any _ _ (by omega) (by omega) (by omega) _)))
                         go_wp2_with ((go_at_call 41; first | (refine (calls_in (Within_any _ _ _ _) ?_ ?_).mono ?_; omega; omega; rintro e w' ⟨rfl, rfl⟩) | (refine (calls_out (Within_any _ _ _ _) ?_).mono ?_; omega; rintro e w' ⟨rfl, rfl⟩) | (refine (Within_any _ _ _ _).mono ?_; rintro e w' ⟨rfl, rfl⟩))))
                    go_ret
                    exact ⟨ret_int (by unfold Cal.holErr; repeat' split
                                       all_goals first | rfl | omega), by (repeat (first | assumption | exact Below.refl _ _ | exact below_alloc _ _ | refine below_drewN ?_ _ | refine Below.drew ?_ | (refine Below.setCell ?_ ?_ _; rotate_left; focus (first | omega | (simp; done) | (simp; omega))) | (refine Below.alloc ?_ ?_ _; rotate_left; focus (first | omega | (simp; done) | (simp; omega)))))⟩
                  · go_enter Tryz.func84, Tryz.ntmps84
                    go_wp2_with ((go_at_call 41; first | (refine (calls_in (Within_any _ _ _ _) ?_ ?_).mono ?_; omega; omega; rintro e w' ⟨rfl, rfl⟩) | (refine (calls_out (Within_any _ _ _ _) ?_).mono ?_; omega; rintro e w' ⟨rfl, rfl⟩) | (refine (Within_any _ _ _ _).mono ?_; rintro e w' ⟨rfl, rfl⟩)))
                    try (go_quiet (first | (go_at_call 41; first | (refine quiet_left (calls_in (Within_any _ _ _ _) ?_ ?_); omega; omega) | (refine quiet_left (calls_out (Within_any _ _ _ _) ?_); omega) | (refine quiet_left (Within_any _ _ _ _))) | (go_at_call 111; exact quiet_left (MonthDays_any _ _ (by omega) (by omega) (by omega) _)))
                         go_wp2_with ((go_at_call 41; first | (refine (calls_in (Within_any _ _ _ _) ?_ ?_).mono ?_; omega; omega; rintro e w' ⟨rfl, rfl⟩) | (refine (calls_out (Within_any _ _ _ _) ?_).mono ?_; omega; rintro e w' ⟨rfl, rfl⟩) | (refine (Within_any _ _ _ _).mono ?_; rintro e w' ⟨rfl, rfl⟩))))
                    go_ret
                    exact ⟨ret_int (by unfold Cal.holErr; repeat' split
                                       all_goals first | rfl | omega), by (repeat (first | assumption | exact Below.refl _ _ | exact below_alloc _ _ | refine below_drewN ?_ _ | refine Below.drew ?_ | (refine Below.setCell ?_ ?_ _; rotate_left; focus (first | omega | (simp; done) | (simp; omega))) | (refine Below.alloc ?_ ?_ _; rotate_left; focus (first | omega | (simp; done) | (simp; omega)))))⟩
                · go_enter Tryz.func84, Tryz.ntmps84
                  go_wp2_with ((go_at_call 41; first | (refine (calls_in (Within_any _ _ _ _) ?_ ?_).mono ?_; omega; omega; rintro e w' ⟨rfl, rfl⟩) | (refine (calls_out (Within_any _ _ _ _) ?_).mono ?_; omega; rintro e w' ⟨rfl, rfl⟩) | (refine (Within_any _ _ _ _).mono ?_; rintro e w' ⟨rfl, rfl⟩)))
                  try (go_quiet (first | (go_at_call 41; first | (refine quiet_left (calls_in (Within_any _ _ _ _) ?_ ?_); omega; omega) | (refine quiet_left (calls_out (Within_any _ _ _ _) ?_); omega) | (refine quiet_left (Within_any _ _ _ _))) | (go_at_call 111; exact quiet_left (MonthDays_any _ _ (by omega) (by omega) (by omega) _)))
                       go_wp2_with ((go_at_call 41; first | (refine (calls_in (Within_any _ _ _ _) ?_ ?_).mono ?_; omega; omega; rintro e w' ⟨rfl, rfl⟩) | (refine (calls_out (Within_any _ _ _ _) ?_).mono ?_; omega; rintro e w' ⟨rfl, rfl⟩) | (refine (Within_any _ _ _ _).mono ?_; rintro e w' ⟨rfl, rfl⟩))))
                  go_ret
                  exact ⟨ret_int (by unfold Cal.holErr; repeat' split
                                     all_goals first | rfl | omega), by (repeat (first | assumption | exact Below.refl _ _ | exact below_alloc _ _ | refine below_drewN ?_ _ | refine Below.drew ?_ | (refine Below.setCell ?_ ?_ _; rotate_left; focus (first | omega | (simp; done) | (simp; omega))) | (refine Below.alloc ?_ ?_ _; rotate_left; focus (first | omega | (simp; done) | (simp; omega)))))⟩
              · have hd1e : (day == (-1)) = false := by simpa using hd1
                have hd1n : (day != (-1)) = true := by simpa using hd1
                go_enter Tryz.func84, Tryz.ntmps84
                go_wp2_with ((go_at_call 41; first | (refine (calls_in (Within_any _ _ _ _) ?_ ?_).mono ?_; omega; omega; rintro e w' ⟨rfl, rfl⟩) | (refine (calls_out (Within_any _ _ _ _) ?_).mono ?_; omega; rintro e w' ⟨rfl, rfl⟩) | (refine (Within_any _ _ _ _).mono ?_; rintro e w' ⟨rfl, rfl⟩)))
                try (go_quiet (first | (go_at_call 41; first | (refine quiet_left (calls_in (Within_any _ _ _ _) ?_ ?_); omega; omega) | (refine quiet_left (calls_out (Within_any _ _ _ _) ?_); omega) | (refine quiet_left (Within_any _ _ _ _))) | (go_at_call 111; exact quiet_left (MonthDays_any _ _ (by omega) (by omega) (by omega) _)))
                     go_wp2_with ((go_at_call 41; first | (refine (calls_in (Within_any _ _ _ _) ?_ ?_).mono ?_; omega; omega; rintro e w' ⟨rfl, rfl⟩) | (refine (calls_out (Within_any _ _ _ _) ?_).mono ?_; omega; rintro e w' ⟨rfl, rfl⟩) | (refine (Within_any _ _ _ _).mono ?_; rintro e w' ⟨rfl, rfl⟩))))
                go_ret
                exact ⟨ret_int (by unfold Cal.holErr; repeat' split
                                   all_goals first | rfl | omega), by (repeat (first | assumption | exact Below.refl _ _ | exact below_alloc _ _ | refine below_drewN ?_ _ | refine Below.drew ?_ | (refine Below.setCell ?_ ?_ _; rotate_left; focus (first | omega | (simp; done) | (simp; omega))) | (refine Below.alloc ?_ ?_ _; rotate_left; focus (first | omega | (simp; done) | (simp; omega)))))⟩
          · go_enter Tryz.func84, Tryz.ntmps84
            go_wp2_with ((go_at_call 41; first | (refine (calls_in (Within_any _ _ _ _) ?_ ?_).mono ?_; omega; omega; rintro e w' ⟨rfl, rfl⟩) | (refine (calls_out (Within_any _ _ _ _) ?_).mono ?_; omega; rintro e w' ⟨rfl, rfl⟩) | (refine (Within_any _ _ _ _).mono ?_; rintro e w' ⟨rfl, rfl⟩)))
            try (go_quiet (first | (go_at_call 41; first | (refine quiet_left (calls_in (Within_any _ _ _ _) ?_ ?_); omega; omega) | (refine quiet_left (calls_out (Within_any _ _ _ _) ?_); omega) | (refine quiet_left (Within_any _ _ _ _))) | (go_at_call 111; exact quiet_left (MonthDays_any _ _ (by omega) (by omega) (by omega) _)))
                 go_wp2_with ((go_at_call 41; first | (refine (calls_in (Within_any _ _ _ _) ?_ ?_).mono ?_; omega; omega; rintro e w' ⟨rfl, rfl⟩) | (refine (calls_out (Within_any _ _ _ _) ?_).mono ?_; omega; rintro e w' ⟨rfl, rfl⟩) | (refine (Within_any _ _ _ _).mono ?_; rintro e w' ⟨rfl, rfl⟩))))
            go_ret
            exact ⟨ret_int (by unfold Cal.holErr; repeat' split
                               all_goals first | rfl | omega), by (repeat (first | assumption | exact Below.refl _ _ | exact below_alloc _ _ | refine below_drewN ?_ _ | refine Below.drew ?_ | (refine Below.setCell ?_ ?_ _; rotate_left; focus (first | omega | (simp; done) | (simp; omega))) | (refine Below.alloc ?_ ?_ _; rotate_left; focus (first | omega | (simp; done) | (simp; omega)))))⟩
        · go_enter Tryz.func84, Tryz.ntmps84
          go_wp2_with ((go_at_call 41; first | (refine (calls_in (Within_any _ _ _ _) ?_ ?_).mono ?_; omega; omega; rintro e w' ⟨rfl, rfl⟩) | (refine (calls_out (Within_any _ _ _ _) ?_).mono ?_; omega; rintro e w' ⟨rfl, rfl⟩) | (refine (Within_any _ _ _ _).mono ?_; rintro e w' ⟨rfl, rfl⟩)))
          try (go_quiet (first | (go_at_call 41; first | (refine quiet_left (calls_in (Within_any _ _ _ _) ?_ ?_); omega; omega) | (refine quiet_left (calls_out (Within_any _ _ _ _) ?_); omega) | (refine quiet_left (Within_any _ _ _ _))) | (go_at_call 111; exact quiet_left (MonthDays_any _ _ (by omega) (by omega) (by omega) _)))
               go_wp2_with ((go_at_call 41; first | (refine (calls_in (Within_any _ _ _ _) ?_ ?_).mono ?_; omega; omega; rintro e w' ⟨rfl, rfl⟩) | (refine (calls_out (Within_any _ _ _ _) ?_).mono ?_; omega; rintro e w' ⟨rfl, rfl⟩) | (refine (Within_any _ _ _ _).mono ?_; rintro e w' ⟨rfl, rfl⟩))))
          go_ret
          exact ⟨ret_int (by unfold Cal.holErr; repeat' split
                             all_goals first | rfl | omega), by (repeat (first | assumption | exact Below.refl _ _ | exact below_alloc _ _ | refine below_drewN ?_ _ | refine Below.drew ?_ | (refine Below.setCell ?_ ?_ _; rotate_left; focus (first | omega | (simp; done) | (simp; omega))) | (refine Below.alloc ?_ ?_ _; rotate_left; focus (first | omega | (simp; done) | (simp; omega)))))⟩
      · have hk2e : (kind == 2) = false := by simpa using hk2
        have hk2n : (kind != 2) = true := by simpa using hk2
        go_enter Tryz.func84, Tryz.ntmps84
        go_wp2_with ((go_at_call 41; first | (refine (calls_in (Within_any _ _ _ _) ?_ ?_).mono ?_; omega; omega; rintro e w' ⟨rfl, rfl⟩) | (refine (calls_out (Within_any _ _ _ _) ?_).mono ?_; omega; rintro e w' ⟨rfl, rfl⟩) | (refine (Within_any _ _ _ _).mono ?_; rintro e w' ⟨rfl, rfl⟩)))
        try (go_quiet (first | (go_at_call 41; first | (refine quiet_left (calls_in (Within_any _ _ _ _) ?_ ?_); omega; omega) | (refine quiet_left (calls_out (Within_any _ _ _ _) ?_); omega) | (refine quiet_left (Within_any _ _ _ _))) | (go_at_call 111; exact quiet_left (MonthDays_any _ _ (by omega) (by omega) (by omega) _)))
             go_wp2_with ((go_at_call 41; first | (refine (calls_in (Within_any _ _ _ _) ?_ ?_).mono ?_; omega; omega; rintro e w' ⟨rfl, rfl⟩) | (refine (calls_out (Within_any _ _ _ _) ?_).mono ?_; omega; rintro e w' ⟨rfl, rfl⟩) | (refine (Within_any _ _ _ _).mono ?_; rintro e w' ⟨rfl, rfl⟩))))
        go_ret
        exact ⟨ret_int (by unfold Cal.holErr; repeat' split
                           all_goals first | rfl | omega), by (repeat (first | assumption | exact Below.refl _ _ | exact below_alloc _ _ | refine below_drewN ?_ _ | refine Below.drew ?_ | (refine Below.setCell ?_ ?_ _; rotate_left; focus (first | omega | (simp; done) | (simp; omega))) | (refine Below.alloc ?_ ?_ _; rotate_left; focus (first | omega | (simp; done) | (simp; omega)))))⟩
end Go.Proofs.YtconnjkkgaapbaaGreatDoor
