/- Chapter 8 and what it rests on: definitions and walks, part 11. -/
import Derived.Test.YtbegbajlagcbdaaGreatDoorC05
import Derived.Maps.OwnSet
import Derived.Maps.OwnOps
import Derived.Below
import Derived.WalkKit
namespace Go.Proofs.YtbegbajlagcbdaaGreatDoor
open Go Go.RowKit
/-- The error of a holiday but for its name. -/
def Cal.holErr (kind month day weekday : Int) : Int :=
  if kind = 0 then (if 1 ≤ month ∧ month ≤ 12 ∧ 1 ≤ day ∧ day ≤ Cal.mlen 1804 month then (if weekday = 0 then 0 else 3) else 24)
  else if kind = 1 then (if -80 ≤ day ∧ day ≤ 240 then (if month = 0 ∧ weekday = 0 then 0 else 3) else 2)
  else if kind = 2 then (if 1 ≤ month ∧ month ≤ 12 then (if ((1 ≤ day ∧ day ≤ 4) ∨ day = -1) ∧ 0 ≤ weekday ∧ weekday ≤ 6 then 0 else 2) else 24)
  else 2
set_option maxHeartbeats 4000000 in
theorem checkHoliday_any (nm : ByteArray) (kind month day weekday : Int) (w : World) (hT : Tab w) :
    Calls Tryz.prog 181 #[.agg #[.string nm, .int .i64 kind, .int .i64 month, .int .i64 day, .int .i64 weekday]] w fun e w' => e = .returned (.int .i64 (Cal.holErr kind month day weekday)) ∧ Below w.heap.size w w' := by
  have hT' := Lib.hid (fun o n => (hT.alloc o).drewN n); clear hT
  by_cases hk0 : kind = 0
  · subst hk0
    have hmb := Cal.mlen_bd 1804 month
    by_cases hma : 1 ≤ month
    · by_cases hmb : month ≤ 12
      · by_cases hda : 1 ≤ day
        · by_cases hdb : day ≤ Cal.mlen 1804 month
          · by_cases hw : weekday = 0
            · subst hw
              go_enter Tryz.func181, Tryz.ntmps181
              go_wp2_with ((go_at_call 134; first | refine rin ?_ | refine rout ?_ | refine rany ?_))
              try (go_quiet (first | (go_at_call 134; first | exact qin | exact qout | exact qany) | (go_at_call 137; exact quiet_left (length_any _ _ (by omega) (by omega) (by omega) _ (hT'.out _ _))))
                   go_wp2_with ((go_at_call 134; first | refine rin ?_ | refine rout ?_ | refine rany ?_)))
              go_ret
              exact ⟨ret_int (by unfold Cal.holErr; repeat' split
                                 all_goals first | rfl | omega), by exact blw⟩
            · have hwe : (weekday == 0) = false := by simpa using hw
              have hwn : (weekday != 0) = true := by simpa using hw
              go_enter Tryz.func181, Tryz.ntmps181
              go_wp2_with ((go_at_call 134; first | refine rin ?_ | refine rout ?_ | refine rany ?_))
              try (go_quiet (first | (go_at_call 134; first | exact qin | exact qout | exact qany) | (go_at_call 137; exact quiet_left (length_any _ _ (by omega) (by omega) (by omega) _ (hT'.out _ _))))
                   go_wp2_with ((go_at_call 134; first | refine rin ?_ | refine rout ?_ | refine rany ?_)))
              go_ret
              exact ⟨ret_int (by unfold Cal.holErr; repeat' split
                                 all_goals first | rfl | omega), by exact blw⟩
          · go_enter Tryz.func181, Tryz.ntmps181
            go_wp2_with ((go_at_call 134; first | refine rin ?_ | refine rout ?_ | refine rany ?_))
            try (go_quiet (first | (go_at_call 134; first | exact qin | exact qout | exact qany) | (go_at_call 137; exact quiet_left (length_any _ _ (by omega) (by omega) (by omega) _ (hT'.out _ _))))
                 go_wp2_with ((go_at_call 134; first | refine rin ?_ | refine rout ?_ | refine rany ?_)))
            go_ret
            exact ⟨ret_int (by unfold Cal.holErr; repeat' split
                               all_goals first | rfl | omega), by exact blw⟩
        · go_enter Tryz.func181, Tryz.ntmps181
          go_wp2_with ((go_at_call 134; first | refine rin ?_ | refine rout ?_ | refine rany ?_))
          try (go_quiet (first | (go_at_call 134; first | exact qin | exact qout | exact qany) | (go_at_call 137; exact quiet_left (length_any _ _ (by omega) (by omega) (by omega) _ (hT'.out _ _))))
               go_wp2_with ((go_at_call 134; first | refine rin ?_ | refine rout ?_ | refine rany ?_)))
          go_ret
          exact ⟨ret_int (by unfold Cal.holErr; repeat' split
                             all_goals first | rfl | omega), by exact blw⟩
      · go_enter Tryz.func181, Tryz.ntmps181
        go_wp2_with ((go_at_call 134; first | refine rin ?_ | refine rout ?_ | refine rany ?_))
        try (go_quiet (first | (go_at_call 134; first | exact qin | exact qout | exact qany) | (go_at_call 137; exact quiet_left (length_any _ _ (by omega) (by omega) (by omega) _ (hT'.out _ _))))
             go_wp2_with ((go_at_call 134; first | refine rin ?_ | refine rout ?_ | refine rany ?_)))
        go_ret
        exact ⟨ret_int (by unfold Cal.holErr; repeat' split
                           all_goals first | rfl | omega), by exact blw⟩
    · go_enter Tryz.func181, Tryz.ntmps181
      go_wp2_with ((go_at_call 134; first | refine rin ?_ | refine rout ?_ | refine rany ?_))
      try (go_quiet (first | (go_at_call 134; first | exact qin | exact qout | exact qany) | (go_at_call 137; exact quiet_left (length_any _ _ (by omega) (by omega) (by omega) _ (hT'.out _ _))))
           go_wp2_with ((go_at_call 134; first | refine rin ?_ | refine rout ?_ | refine rany ?_)))
      go_ret
      exact ⟨ret_int (by unfold Cal.holErr; repeat' split
                         all_goals first | rfl | omega), by exact blw⟩
  · have hk0e : (kind == 0) = false := by simpa using hk0
    have hk0n : (kind != 0) = true := by simpa using hk0
    by_cases hk1 : kind = 1
    · subst hk1
      by_cases hda : -80 ≤ day
      · by_cases hdb : day ≤ 240
        · by_cases hm : month = 0
          · subst hm
            by_cases hw : weekday = 0
            · subst hw
              go_enter Tryz.func181, Tryz.ntmps181
              go_wp2_with ((go_at_call 134; first | refine rin ?_ | refine rout ?_ | refine rany ?_))
              try (go_quiet (first | (go_at_call 134; first | exact qin | exact qout | exact qany) | (go_at_call 137; exact quiet_left (length_any _ _ (by omega) (by omega) (by omega) _ (hT'.out _ _))))
                   go_wp2_with ((go_at_call 134; first | refine rin ?_ | refine rout ?_ | refine rany ?_)))
              go_ret
              exact ⟨ret_int (by unfold Cal.holErr; repeat' split
                                 all_goals first | rfl | omega), by exact blw⟩
            · have hwe : (weekday == 0) = false := by simpa using hw
              have hwn : (weekday != 0) = true := by simpa using hw
              go_enter Tryz.func181, Tryz.ntmps181
              go_wp2_with ((go_at_call 134; first | refine rin ?_ | refine rout ?_ | refine rany ?_))
              try (go_quiet (first | (go_at_call 134; first | exact qin | exact qout | exact qany) | (go_at_call 137; exact quiet_left (length_any _ _ (by omega) (by omega) (by omega) _ (hT'.out _ _))))
                   go_wp2_with ((go_at_call 134; first | refine rin ?_ | refine rout ?_ | refine rany ?_)))
              go_ret
              exact ⟨ret_int (by unfold Cal.holErr; repeat' split
                                 all_goals first | rfl | omega), by exact blw⟩
          · have hme : (month == 0) = false := by simpa using hm
            have hmn : (month != 0) = true := by simpa using hm
            go_enter Tryz.func181, Tryz.ntmps181
            go_wp2_with ((go_at_call 134; first | refine rin ?_ | refine rout ?_ | refine rany ?_))
            try (go_quiet (first | (go_at_call 134; first | exact qin | exact qout | exact qany) | (go_at_call 137; exact quiet_left (length_any _ _ (by omega) (by omega) (by omega) _ (hT'.out _ _))))
                 go_wp2_with ((go_at_call 134; first | refine rin ?_ | refine rout ?_ | refine rany ?_)))
            go_ret
            exact ⟨ret_int (by unfold Cal.holErr; repeat' split
                               all_goals first | rfl | omega), by exact blw⟩
        · go_enter Tryz.func181, Tryz.ntmps181
          go_wp2_with ((go_at_call 134; first | refine rin ?_ | refine rout ?_ | refine rany ?_))
          try (go_quiet (first | (go_at_call 134; first | exact qin | exact qout | exact qany) | (go_at_call 137; exact quiet_left (length_any _ _ (by omega) (by omega) (by omega) _ (hT'.out _ _))))
               go_wp2_with ((go_at_call 134; first | refine rin ?_ | refine rout ?_ | refine rany ?_)))
          go_ret
          exact ⟨ret_int (by unfold Cal.holErr; repeat' split
                             all_goals first | rfl | omega), by exact blw⟩
      · go_enter Tryz.func181, Tryz.ntmps181
        go_wp2_with ((go_at_call 134; first | refine rin ?_ | refine rout ?_ | refine rany ?_))
        try (go_quiet (first | (go_at_call 134; first | exact qin | exact qout | exact qany) | (go_at_call 137; exact quiet_left (length_any _ _ (by omega) (by omega) (by omega) _ (hT'.out _ _))))
             go_wp2_with ((go_at_call 134; first | refine rin ?_ | refine rout ?_ | refine rany ?_)))
        go_ret
        exact ⟨ret_int (by unfold Cal.holErr; repeat' split
                           all_goals first | rfl | omega), by exact blw⟩
    · have hk1e : (kind == 1) = false := by simpa using hk1
      have hk1n : (kind != 1) = true := by simpa using hk1
      by_cases hk2 : kind = 2
      · subst hk2
        by_cases hma : 1 ≤ month
        · by_cases hmb : month ≤ 12
          · by_cases hda : 1 ≤ day
            · by_cases hdb : day ≤ 4
              · by_cases hwa : 0 ≤ weekday
                · by_cases hwb : weekday ≤ 6
                  · go_enter Tryz.func181, Tryz.ntmps181
                    go_wp2_with ((go_at_call 134; first | refine rin ?_ | refine rout ?_ | refine rany ?_))
                    try (go_quiet (first | (go_at_call 134; first | exact qin | exact qout | exact qany) | (go_at_call 137; exact quiet_left (length_any _ _ (by omega) (by omega) (by omega) _ (hT'.out _ _))))
                         go_wp2_with ((go_at_call 134; first | refine rin ?_ | refine rout ?_ | refine rany ?_)))
                    go_ret
                    exact ⟨ret_int (by unfold Cal.holErr; repeat' split
                                       all_goals first | rfl | omega), by exact blw⟩
                  · go_enter Tryz.func181, Tryz.ntmps181
                    go_wp2_with ((go_at_call 134; first | refine rin ?_ | refine rout ?_ | refine rany ?_))
                    try (go_quiet (first | (go_at_call 134; first | exact qin | exact qout | exact qany) | (go_at_call 137; exact quiet_left (length_any _ _ (by omega) (by omega) (by omega) _ (hT'.out _ _))))
                         go_wp2_with ((go_at_call 134; first | refine rin ?_ | refine rout ?_ | refine rany ?_)))
                    go_ret
                    exact ⟨ret_int (by unfold Cal.holErr; repeat' split
                                       all_goals first | rfl | omega), by exact blw⟩
                · go_enter Tryz.func181, Tryz.ntmps181
                  go_wp2_with ((go_at_call 134; first | refine rin ?_ | refine rout ?_ | refine rany ?_))
                  try (go_quiet (first | (go_at_call 134; first | exact qin | exact qout | exact qany) | (go_at_call 137; exact quiet_left (length_any _ _ (by omega) (by omega) (by omega) _ (hT'.out _ _))))
                       go_wp2_with ((go_at_call 134; first | refine rin ?_ | refine rout ?_ | refine rany ?_)))
                  go_ret
                  exact ⟨ret_int (by unfold Cal.holErr; repeat' split
                                     all_goals first | rfl | omega), by exact blw⟩
              · have hd1e : (day == (-1)) = false := by simp; omega
                have hd1n : (day != (-1)) = true := by simp; omega
                go_enter Tryz.func181, Tryz.ntmps181
                go_wp2_with ((go_at_call 134; first | refine rin ?_ | refine rout ?_ | refine rany ?_))
                try (go_quiet (first | (go_at_call 134; first | exact qin | exact qout | exact qany) | (go_at_call 137; exact quiet_left (length_any _ _ (by omega) (by omega) (by omega) _ (hT'.out _ _))))
                     go_wp2_with ((go_at_call 134; first | refine rin ?_ | refine rout ?_ | refine rany ?_)))
                go_ret
                exact ⟨ret_int (by unfold Cal.holErr; repeat' split
                                   all_goals first | rfl | omega), by exact blw⟩
            · by_cases hd1 : day = (-1)
              · have hd1e : (day == (-1)) = true := by simpa using hd1
                have hd1n : (day != (-1)) = false := by simpa using hd1
                have hd1l : day ≤ (-1) := by omega
                have hd1g : (-1) ≤ day := by omega
                clear hd1
                by_cases hwa : 0 ≤ weekday
                · by_cases hwb : weekday ≤ 6
                  · go_enter Tryz.func181, Tryz.ntmps181
                    go_wp2_with ((go_at_call 134; first | refine rin ?_ | refine rout ?_ | refine rany ?_))
                    try (go_quiet (first | (go_at_call 134; first | exact qin | exact qout | exact qany) | (go_at_call 137; exact quiet_left (length_any _ _ (by omega) (by omega) (by omega) _ (hT'.out _ _))))
                         go_wp2_with ((go_at_call 134; first | refine rin ?_ | refine rout ?_ | refine rany ?_)))
                    go_ret
                    exact ⟨ret_int (by unfold Cal.holErr; repeat' split
                                       all_goals first | rfl | omega), by exact blw⟩
                  · go_enter Tryz.func181, Tryz.ntmps181
                    go_wp2_with ((go_at_call 134; first | refine rin ?_ | refine rout ?_ | refine rany ?_))
                    try (go_quiet (first | (go_at_call 134; first | exact qin | exact qout | exact qany) | (go_at_call 137; exact quiet_left (length_any _ _ (by omega) (by omega) (by omega) _ (hT'.out _ _))))
                         go_wp2_with ((go_at_call 134; first | refine rin ?_ | refine rout ?_ | refine rany ?_)))
                    go_ret
                    exact ⟨ret_int (by unfold Cal.holErr; repeat' split
                                       all_goals first | rfl | omega), by exact blw⟩
                · go_enter Tryz.func181, Tryz.ntmps181
                  go_wp2_with ((go_at_call 134; first | refine rin ?_ | refine rout ?_ | refine rany ?_))
                  try (go_quiet (first | (go_at_call 134; first | exact qin | exact qout | exact qany) | (go_at_call 137; exact quiet_left (length_any _ _ (by omega) (by omega) (by omega) _ (hT'.out _ _))))
                       go_wp2_with ((go_at_call 134; first | refine rin ?_ | refine rout ?_ | refine rany ?_)))
                  go_ret
                  exact ⟨ret_int (by unfold Cal.holErr; repeat' split
                                     all_goals first | rfl | omega), by exact blw⟩
              · have hd1e : (day == (-1)) = false := by simpa using hd1
                have hd1n : (day != (-1)) = true := by simpa using hd1
                go_enter Tryz.func181, Tryz.ntmps181
                go_wp2_with ((go_at_call 134; first | refine rin ?_ | refine rout ?_ | refine rany ?_))
                try (go_quiet (first | (go_at_call 134; first | exact qin | exact qout | exact qany) | (go_at_call 137; exact quiet_left (length_any _ _ (by omega) (by omega) (by omega) _ (hT'.out _ _))))
                     go_wp2_with ((go_at_call 134; first | refine rin ?_ | refine rout ?_ | refine rany ?_)))
                go_ret
                exact ⟨ret_int (by unfold Cal.holErr; repeat' split
                                   all_goals first | rfl | omega), by exact blw⟩
          · go_enter Tryz.func181, Tryz.ntmps181
            go_wp2_with ((go_at_call 134; first | refine rin ?_ | refine rout ?_ | refine rany ?_))
            try (go_quiet (first | (go_at_call 134; first | exact qin | exact qout | exact qany) | (go_at_call 137; exact quiet_left (length_any _ _ (by omega) (by omega) (by omega) _ (hT'.out _ _))))
                 go_wp2_with ((go_at_call 134; first | refine rin ?_ | refine rout ?_ | refine rany ?_)))
            go_ret
            exact ⟨ret_int (by unfold Cal.holErr; repeat' split
                               all_goals first | rfl | omega), by exact blw⟩
        · go_enter Tryz.func181, Tryz.ntmps181
          go_wp2_with ((go_at_call 134; first | refine rin ?_ | refine rout ?_ | refine rany ?_))
          try (go_quiet (first | (go_at_call 134; first | exact qin | exact qout | exact qany) | (go_at_call 137; exact quiet_left (length_any _ _ (by omega) (by omega) (by omega) _ (hT'.out _ _))))
               go_wp2_with ((go_at_call 134; first | refine rin ?_ | refine rout ?_ | refine rany ?_)))
          go_ret
          exact ⟨ret_int (by unfold Cal.holErr; repeat' split
                             all_goals first | rfl | omega), by exact blw⟩
      · have hk2e : (kind == 2) = false := by simpa using hk2
        have hk2n : (kind != 2) = true := by simpa using hk2
        go_enter Tryz.func181, Tryz.ntmps181
        go_wp2_with ((go_at_call 134; first | refine rin ?_ | refine rout ?_ | refine rany ?_))
        try (go_quiet (first | (go_at_call 134; first | exact qin | exact qout | exact qany) | (go_at_call 137; exact quiet_left (length_any _ _ (by omega) (by omega) (by omega) _ (hT'.out _ _))))
             go_wp2_with ((go_at_call 134; first | refine rin ?_ | refine rout ?_ | refine rany ?_)))
        go_ret
        exact ⟨ret_int (by unfold Cal.holErr; repeat' split
                           all_goals first | rfl | omega), by exact blw⟩
set_option maxHeartbeats 4000000 in
theorem HolidayErr_any (nm : ByteArray) (kind month day weekday : Int) (w : World) :
    Calls Tryz.prog 121 #[.agg #[.string nm, .int .i64 kind, .int .i64 month, .int .i64 day, .int .i64 weekday]] w fun e w' => e = .returned (.int .i64 (Cal.holErr kind month day weekday)) ∧ Below w.heap.size w w' := by
  by_cases hk0 : kind = 0
  · subst hk0
    have hmb := Cal.mlen_bd 1804 month
    by_cases hma : 1 ≤ month
    · by_cases hmb : month ≤ 12
      · by_cases hda : 1 ≤ day
        · by_cases hdb : day ≤ Cal.mlen 1804 month
          · by_cases hw : weekday = 0
            · subst hw
              go_enter Tryz.func121, Tryz.ntmps121
              go_wp2_with ((go_at_call 59; first | refine rin ?_ | refine rout ?_ | refine rany ?_))
              try (go_quiet (first | (go_at_call 59; first | exact qin | exact qout | exact qany) | (go_at_call 180; exact quiet_left (MonthDays_any _ _ (by omega) (by omega) (by omega) _)))
                   go_wp2_with ((go_at_call 59; first | refine rin ?_ | refine rout ?_ | refine rany ?_)))
              go_ret
              exact ⟨ret_int (by unfold Cal.holErr; repeat' split
                                 all_goals first | rfl | omega), by exact blw⟩
            · have hwe : (weekday == 0) = false := by simpa using hw
              have hwn : (weekday != 0) = true := by simpa using hw
              go_enter Tryz.func121, Tryz.ntmps121
              go_wp2_with ((go_at_call 59; first | refine rin ?_ | refine rout ?_ | refine rany ?_))
              try (go_quiet (first | (go_at_call 59; first | exact qin | exact qout | exact qany) | (go_at_call 180; exact quiet_left (MonthDays_any _ _ (by omega) (by omega) (by omega) _)))
                   go_wp2_with ((go_at_call 59; first | refine rin ?_ | refine rout ?_ | refine rany ?_)))
              go_ret
              exact ⟨ret_int (by unfold Cal.holErr; repeat' split
                                 all_goals first | rfl | omega), by exact blw⟩
          · go_enter Tryz.func121, Tryz.ntmps121
            go_wp2_with ((go_at_call 59; first | refine rin ?_ | refine rout ?_ | refine rany ?_))
            try (go_quiet (first | (go_at_call 59; first | exact qin | exact qout | exact qany) | (go_at_call 180; exact quiet_left (MonthDays_any _ _ (by omega) (by omega) (by omega) _)))
                 go_wp2_with ((go_at_call 59; first | refine rin ?_ | refine rout ?_ | refine rany ?_)))
            go_ret
            exact ⟨ret_int (by unfold Cal.holErr; repeat' split
                               all_goals first | rfl | omega), by exact blw⟩
        · go_enter Tryz.func121, Tryz.ntmps121
          go_wp2_with ((go_at_call 59; first | refine rin ?_ | refine rout ?_ | refine rany ?_))
          try (go_quiet (first | (go_at_call 59; first | exact qin | exact qout | exact qany) | (go_at_call 180; exact quiet_left (MonthDays_any _ _ (by omega) (by omega) (by omega) _)))
               go_wp2_with ((go_at_call 59; first | refine rin ?_ | refine rout ?_ | refine rany ?_)))
          go_ret
          exact ⟨ret_int (by unfold Cal.holErr; repeat' split
                             all_goals first | rfl | omega), by exact blw⟩
      · go_enter Tryz.func121, Tryz.ntmps121
        go_wp2_with ((go_at_call 59; first | refine rin ?_ | refine rout ?_ | refine rany ?_))
        try (go_quiet (first | (go_at_call 59; first | exact qin | exact qout | exact qany) | (go_at_call 180; exact quiet_left (MonthDays_any _ _ (by omega) (by omega) (by omega) _)))
             go_wp2_with ((go_at_call 59; first | refine rin ?_ | refine rout ?_ | refine rany ?_)))
        go_ret
        exact ⟨ret_int (by unfold Cal.holErr; repeat' split
                           all_goals first | rfl | omega), by exact blw⟩
    · go_enter Tryz.func121, Tryz.ntmps121
      go_wp2_with ((go_at_call 59; first | refine rin ?_ | refine rout ?_ | refine rany ?_))
      try (go_quiet (first | (go_at_call 59; first | exact qin | exact qout | exact qany) | (go_at_call 180; exact quiet_left (MonthDays_any _ _ (by omega) (by omega) (by omega) _)))
           go_wp2_with ((go_at_call 59; first | refine rin ?_ | refine rout ?_ | refine rany ?_)))
      go_ret
      exact ⟨ret_int (by unfold Cal.holErr; repeat' split
                         all_goals first | rfl | omega), by exact blw⟩
  · have hk0e : (kind == 0) = false := by simpa using hk0
    have hk0n : (kind != 0) = true := by simpa using hk0
    by_cases hk1 : kind = 1
    · subst hk1
      by_cases hda : -80 ≤ day
      · by_cases hdb : day ≤ 240
        · by_cases hm : month = 0
          · subst hm
            by_cases hw : weekday = 0
            · subst hw
              go_enter Tryz.func121, Tryz.ntmps121
              go_wp2_with ((go_at_call 59; first | refine rin ?_ | refine rout ?_ | refine rany ?_))
              try (go_quiet (first | (go_at_call 59; first | exact qin | exact qout | exact qany) | (go_at_call 180; exact quiet_left (MonthDays_any _ _ (by omega) (by omega) (by omega) _)))
                   go_wp2_with ((go_at_call 59; first | refine rin ?_ | refine rout ?_ | refine rany ?_)))
              go_ret
              exact ⟨ret_int (by unfold Cal.holErr; repeat' split
                                 all_goals first | rfl | omega), by exact blw⟩
            · have hwe : (weekday == 0) = false := by simpa using hw
              have hwn : (weekday != 0) = true := by simpa using hw
              go_enter Tryz.func121, Tryz.ntmps121
              go_wp2_with ((go_at_call 59; first | refine rin ?_ | refine rout ?_ | refine rany ?_))
              try (go_quiet (first | (go_at_call 59; first | exact qin | exact qout | exact qany) | (go_at_call 180; exact quiet_left (MonthDays_any _ _ (by omega) (by omega) (by omega) _)))
                   go_wp2_with ((go_at_call 59; first | refine rin ?_ | refine rout ?_ | refine rany ?_)))
              go_ret
              exact ⟨ret_int (by unfold Cal.holErr; repeat' split
                                 all_goals first | rfl | omega), by exact blw⟩
          · have hme : (month == 0) = false := by simpa using hm
            have hmn : (month != 0) = true := by simpa using hm
            go_enter Tryz.func121, Tryz.ntmps121
            go_wp2_with ((go_at_call 59; first | refine rin ?_ | refine rout ?_ | refine rany ?_))
            try (go_quiet (first | (go_at_call 59; first | exact qin | exact qout | exact qany) | (go_at_call 180; exact quiet_left (MonthDays_any _ _ (by omega) (by omega) (by omega) _)))
                 go_wp2_with ((go_at_call 59; first | refine rin ?_ | refine rout ?_ | refine rany ?_)))
            go_ret
            exact ⟨ret_int (by unfold Cal.holErr; repeat' split
                               all_goals first | rfl | omega), by exact blw⟩
        · go_enter Tryz.func121, Tryz.ntmps121
          go_wp2_with ((go_at_call 59; first | refine rin ?_ | refine rout ?_ | refine rany ?_))
          try (go_quiet (first | (go_at_call 59; first | exact qin | exact qout | exact qany) | (go_at_call 180; exact quiet_left (MonthDays_any _ _ (by omega) (by omega) (by omega) _)))
               go_wp2_with ((go_at_call 59; first | refine rin ?_ | refine rout ?_ | refine rany ?_)))
          go_ret
          exact ⟨ret_int (by unfold Cal.holErr; repeat' split
                             all_goals first | rfl | omega), by exact blw⟩
      · go_enter Tryz.func121, Tryz.ntmps121
        go_wp2_with ((go_at_call 59; first | refine rin ?_ | refine rout ?_ | refine rany ?_))
        try (go_quiet (first | (go_at_call 59; first | exact qin | exact qout | exact qany) | (go_at_call 180; exact quiet_left (MonthDays_any _ _ (by omega) (by omega) (by omega) _)))
             go_wp2_with ((go_at_call 59; first | refine rin ?_ | refine rout ?_ | refine rany ?_)))
        go_ret
        exact ⟨ret_int (by unfold Cal.holErr; repeat' split
                           all_goals first | rfl | omega), by exact blw⟩
    · have hk1e : (kind == 1) = false := by simpa using hk1
      have hk1n : (kind != 1) = true := by simpa using hk1
      by_cases hk2 : kind = 2
      · subst hk2
        by_cases hma : 1 ≤ month
        · by_cases hmb : month ≤ 12
          · by_cases hda : 1 ≤ day
            · by_cases hdb : day ≤ 4
              · by_cases hwa : 0 ≤ weekday
                · by_cases hwb : weekday ≤ 6
                  · go_enter Tryz.func121, Tryz.ntmps121
                    go_wp2_with ((go_at_call 59; first | refine rin ?_ | refine rout ?_ | refine rany ?_))
                    try (go_quiet (first | (go_at_call 59; first | exact qin | exact qout | exact qany) | (go_at_call 180; exact quiet_left (MonthDays_any _ _ (by omega) (by omega) (by omega) _)))
                         go_wp2_with ((go_at_call 59; first | refine rin ?_ | refine rout ?_ | refine rany ?_)))
                    go_ret
                    exact ⟨ret_int (by unfold Cal.holErr; repeat' split
                                       all_goals first | rfl | omega), by exact blw⟩
                  · go_enter Tryz.func121, Tryz.ntmps121
                    go_wp2_with ((go_at_call 59; first | refine rin ?_ | refine rout ?_ | refine rany ?_))
                    try (go_quiet (first | (go_at_call 59; first | exact qin | exact qout | exact qany) | (go_at_call 180; exact quiet_left (MonthDays_any _ _ (by omega) (by omega) (by omega) _)))
                         go_wp2_with ((go_at_call 59; first | refine rin ?_ | refine rout ?_ | refine rany ?_)))
                    go_ret
                    exact ⟨ret_int (by unfold Cal.holErr; repeat' split
                                       all_goals first | rfl | omega), by exact blw⟩
                · go_enter Tryz.func121, Tryz.ntmps121
                  go_wp2_with ((go_at_call 59; first | refine rin ?_ | refine rout ?_ | refine rany ?_))
                  try (go_quiet (first | (go_at_call 59; first | exact qin | exact qout | exact qany) | (go_at_call 180; exact quiet_left (MonthDays_any _ _ (by omega) (by omega) (by omega) _)))
                       go_wp2_with ((go_at_call 59; first | refine rin ?_ | refine rout ?_ | refine rany ?_)))
                  go_ret
                  exact ⟨ret_int (by unfold Cal.holErr; repeat' split
                                     all_goals first | rfl | omega), by exact blw⟩
              · have hd1e : (day == (-1)) = false := by simp; omega
                have hd1n : (day != (-1)) = true := by simp; omega
                go_enter Tryz.func121, Tryz.ntmps121
                go_wp2_with ((go_at_call 59; first | refine rin ?_ | refine rout ?_ | refine rany ?_))
                try (go_quiet (first | (go_at_call 59; first | exact qin | exact qout | exact qany) | (go_at_call 180; exact quiet_left (MonthDays_any _ _ (by omega) (by omega) (by omega) _)))
                     go_wp2_with ((go_at_call 59; first | refine rin ?_ | refine rout ?_ | refine rany ?_)))
                go_ret
                exact ⟨ret_int (by unfold Cal.holErr; repeat' split
                                   all_goals first | rfl | omega), by exact blw⟩
            · by_cases hd1 : day = (-1)
              · have hd1e : (day == (-1)) = true := by simpa using hd1
                have hd1n : (day != (-1)) = false := by simpa using hd1
                have hd1l : day ≤ (-1) := by omega
                have hd1g : (-1) ≤ day := by omega
                clear hd1
                by_cases hwa : 0 ≤ weekday
                · by_cases hwb : weekday ≤ 6
                  · go_enter Tryz.func121, Tryz.ntmps121
                    go_wp2_with ((go_at_call 59; first | refine rin ?_ | refine rout ?_ | refine rany ?_))
                    try (go_quiet (first | (go_at_call 59; first | exact qin | exact qout | exact qany) | (go_at_call 180; exact quiet_left (MonthDays_any _ _ (by omega) (by omega) (by omega) _)))
                         go_wp2_with ((go_at_call 59; first | refine rin ?_ | refine rout ?_ | refine rany ?_)))
                    go_ret
                    exact ⟨ret_int (by unfold Cal.holErr; repeat' split
                                       all_goals first | rfl | omega), by exact blw⟩
                  · go_enter Tryz.func121, Tryz.ntmps121
                    go_wp2_with ((go_at_call 59; first | refine rin ?_ | refine rout ?_ | refine rany ?_))
                    try (go_quiet (first | (go_at_call 59; first | exact qin | exact qout | exact qany) | (go_at_call 180; exact quiet_left (MonthDays_any _ _ (by omega) (by omega) (by omega) _)))
                         go_wp2_with ((go_at_call 59; first | refine rin ?_ | refine rout ?_ | refine rany ?_)))
                    go_ret
                    exact ⟨ret_int (by unfold Cal.holErr; repeat' split
                                       all_goals first | rfl | omega), by exact blw⟩
                · go_enter Tryz.func121, Tryz.ntmps121
                  go_wp2_with ((go_at_call 59; first | refine rin ?_ | refine rout ?_ | refine rany ?_))
                  try (go_quiet (first | (go_at_call 59; first | exact qin | exact qout | exact qany) | (go_at_call 180; exact quiet_left (MonthDays_any _ _ (by omega) (by omega) (by omega) _)))
                       go_wp2_with ((go_at_call 59; first | refine rin ?_ | refine rout ?_ | refine rany ?_)))
                  go_ret
                  exact ⟨ret_int (by unfold Cal.holErr; repeat' split
                                     all_goals first | rfl | omega), by exact blw⟩
              · have hd1e : (day == (-1)) = false := by simpa using hd1
                have hd1n : (day != (-1)) = true := by simpa using hd1
                go_enter Tryz.func121, Tryz.ntmps121
                go_wp2_with ((go_at_call 59; first | refine rin ?_ | refine rout ?_ | refine rany ?_))
                try (go_quiet (first | (go_at_call 59; first | exact qin | exact qout | exact qany) | (go_at_call 180; exact quiet_left (MonthDays_any _ _ (by omega) (by omega) (by omega) _)))
                     go_wp2_with ((go_at_call 59; first | refine rin ?_ | refine rout ?_ | refine rany ?_)))
                go_ret
                exact ⟨ret_int (by unfold Cal.holErr; repeat' split
                                   all_goals first | rfl | omega), by exact blw⟩
          · go_enter Tryz.func121, Tryz.ntmps121
            go_wp2_with ((go_at_call 59; first | refine rin ?_ | refine rout ?_ | refine rany ?_))
            try (go_quiet (first | (go_at_call 59; first | exact qin | exact qout | exact qany) | (go_at_call 180; exact quiet_left (MonthDays_any _ _ (by omega) (by omega) (by omega) _)))
                 go_wp2_with ((go_at_call 59; first | refine rin ?_ | refine rout ?_ | refine rany ?_)))
            go_ret
            exact ⟨ret_int (by unfold Cal.holErr; repeat' split
                               all_goals first | rfl | omega), by exact blw⟩
        · go_enter Tryz.func121, Tryz.ntmps121
          go_wp2_with ((go_at_call 59; first | refine rin ?_ | refine rout ?_ | refine rany ?_))
          try (go_quiet (first | (go_at_call 59; first | exact qin | exact qout | exact qany) | (go_at_call 180; exact quiet_left (MonthDays_any _ _ (by omega) (by omega) (by omega) _)))
               go_wp2_with ((go_at_call 59; first | refine rin ?_ | refine rout ?_ | refine rany ?_)))
          go_ret
          exact ⟨ret_int (by unfold Cal.holErr; repeat' split
                             all_goals first | rfl | omega), by exact blw⟩
      · have hk2e : (kind == 2) = false := by simpa using hk2
        have hk2n : (kind != 2) = true := by simpa using hk2
        go_enter Tryz.func121, Tryz.ntmps121
        go_wp2_with ((go_at_call 59; first | refine rin ?_ | refine rout ?_ | refine rany ?_))
        try (go_quiet (first | (go_at_call 59; first | exact qin | exact qout | exact qany) | (go_at_call 180; exact quiet_left (MonthDays_any _ _ (by omega) (by omega) (by omega) _)))
             go_wp2_with ((go_at_call 59; first | refine rin ?_ | refine rout ?_ | refine rany ?_)))
        go_ret
        exact ⟨ret_int (by unfold Cal.holErr; repeat' split
                           all_goals first | rfl | omega), by exact blw⟩
end Go.Proofs.YtbegbajlagcbdaaGreatDoor
namespace Go.Proofs.YtbegbajlagcbdaaGreatDoor
open Go Go.RowKit Go.Maps Go.WideMaps Go.ChangeMaps
def setAt {κ : Type} [DecidableEq κ] (f : κ → Option Value) (x0 : κ) (v : Value) : κ → Option Value := fun x => if x = x0 then some v else f x
theorem setAt_same {κ : Type} [DecidableEq κ] (f : κ → Option Value) (x : κ) (v : Value) : setAt f x v x = some v := by simp [setAt]
theorem setAt_other {κ : Type} [DecidableEq κ] (f : κ → Option Value) {x0 x : κ} (v : Value) (h : x ≠ x0) : setAt f x0 v x = f x := by simp [setAt, h]
def heldR (v : Value) : Option (DataW Value × List MemPlace) := some (.held v, [])
/-- Block b is a map of at most n entries that reads as f. -/
def MapIs {κ : Type} (P : Program) (k : TypeId) (lit : κ → Lit) (w : World) (b n : Nat) (f : κ → Option Value) : Prop :=
  ∃ D : DataW Value, w.ownsMap P k heldR b n D ∧ ∀ x, WideAt.IsKeyLit (lit x) → Maps.has D (lit x) = (f x).isSome ∧ ∀ z, D.atKey (lit x) (.held z) = .held ((f x).getD z)
variable {P : Program} {k : TypeId} {w : World} {b n : Nat} {κ : Type} {lit : κ → Lit} {f : κ → Option Value}
theorem MapIs.made (P : Program) (k : TypeId) (lit : κ → Lit) (w : World) : MapIs P k lit (w.alloc (.map #[] 0)) w.heap.size 0 (fun _ => none) :=
  ⟨.map [], World.ownsMap_made w P k heldR, fun _ _ => ⟨rfl, fun _ => rfl⟩⟩
theorem MapIs.lt (h : MapIs P k lit w b n f) : b < w.heap.size := by obtain ⟨D, h, _⟩ := h; exact h.lt
theorem MapIs.kept {w' : World} {row : Option Nat} (h : MapIs P k lit w b n f) (hg : w.grownBy w' row) (hne : some b ≠ row) : MapIs P k lit w' b n f := by
  obtain ⟨D, h, hf⟩ := h; exact ⟨D, h.kept hg hne, hf⟩
theorem MapIs.same {w' : World} (h : MapIs P k lit w b n f) (hb : w'.heap[b]? = w.heap[b]?) : MapIs P k lit w' b n f := by
  obtain ⟨D, ⟨es, clock, h1, h2⟩, hf⟩ := h
  exact ⟨D, ⟨es, clock, hb.trans h1, h2⟩, hf⟩
theorem MapIs.alloc (h : MapIs P k lit w b n f) (o : Obj) : MapIs P k lit (w.alloc o) b n f := h.kept (World.grownBy_alloc w o none) (by simp)
theorem MapIs.below {w' : World} {B : Nat} (h : MapIs P k lit w b n f) (hb : Below B w w') (hlt : b < B) : MapIs P k lit w' b n f := h.same (hb.block b hlt)
theorem MapIs.setCell (h : MapIs P k lit w b n f) {a : Addr} (ha : b ≠ a.block) (u : Value) : MapIs P k lit (w.setCell a u) b n f := h.same (Below.heap_setCell w a u b ha)
theorem MapIs.mono (h : MapIs P k lit w b n f) {n' : Nat} (hn : n ≤ n') : MapIs P k lit w b n' f := by obtain ⟨D, h, hf⟩ := h; exact ⟨D, h.mono hn, hf⟩
theorem MapIs.isMap (h : MapIs P k lit w b n f) : ∃ es c, w.heap[b]? = some (.map es c) := by obtain ⟨D, ⟨es, clock, h1, _⟩, _⟩ := h; exact ⟨es, clock, h1⟩
theorem MapIs.look {t e : TypeId} (h : MapIs P k lit w b n f) (K : Keyed P k) (ht : P.underlying t = some (.map k e)) {z : Value} (hz : (zeroValue e).run P w = .ok z w) {key : Value} {kl : κ} (hkey : keyOf P k key = some (lit kl)) :
    (Instr.lookup t (.map (some b)) key false).run P w = .ok ((f kl).getD z) w := by
  obtain ⟨D, h, hf⟩ := h
  obtain ⟨v, ps, hrun, hv⟩ := h.lookup K ht hz (zd := .held z) (zp := []) rfl hkey
  obtain ⟨_, h2⟩ := hf kl (K.key hkey)
  rw [h2 z] at hv
  simp only [heldR, Option.some.injEq, Prod.mk.injEq, DataW.held.injEq] at hv
  rw [hrun, hv.1]
theorem MapIs.look_ok {t e : TypeId} (h : MapIs P k lit w b n f) (K : Keyed P k) (ht : P.underlying t = some (.map k e)) {z : Value} (hz : (zeroValue e).run P w = .ok z w) {key : Value} {kl : κ} (hkey : keyOf P k key = some (lit kl)) :
    (Instr.lookup t (.map (some b)) key true).run P w = .ok (.tuple #[(f kl).getD z, .bool (f kl).isSome]) w := by
  obtain ⟨D, h, hf⟩ := h
  obtain ⟨v, ps, hrun, hv⟩ := h.look_ok K ht hz (zd := .held z) (zp := []) rfl hkey
  obtain ⟨h1, h2⟩ := hf kl (K.key hkey)
  rw [h2 z] at hv
  simp only [heldR, Option.some.injEq, Prod.mk.injEq, DataW.held.injEq] at hv
  rw [hrun, hv.1, h1]
theorem MapIs.store [DecidableEq κ] (hinj : ∀ x y, lit x = lit y → x = y) {t e : TypeId} (h : MapIs P k lit w b n f) (K : Keyed P k) (ht : P.underlying t = some (.map k e)) (hn : n < maxLen) {key val : Value} {kl : κ} (hkey : keyOf P k key = some (lit kl)) :
    ∃ w', (Instr.mapUpdate t (.map (some b)) key val).run P w = .ok () w' ∧ MapIs P k lit w' b (n + 1) (setAt f kl val) ∧ w.grownBy w' (some b) ∧ w'.heap.size = w.heap.size := by
  obtain ⟨D, h, hf⟩ := h
  have hm := h.isMap
  obtain ⟨w', hrun, h1, h2⟩ := h.store K ht hn hkey (val := val) (d := .held val) (ps := []) rfl
  refine ⟨w', hrun, ⟨D.put (lit kl) (.held val), h1, fun x hx => ?_⟩, h2.grown, ?_⟩
  · by_cases he : x = kl
    · subst he
      rw [setAt_same]
      exact ⟨by rw [has_put_same hm hx]; rfl, fun z => by rw [atKey_put_same hm hx]; rfl⟩
    · rw [setAt_other _ _ he]
      obtain ⟨a1, a2⟩ := hf x hx
      exact ⟨by rw [has_put_other (fun e => he (hinj _ _ e))]; exact a1, fun z => by rw [atKey_put_other (fun e => he (hinj _ _ e))]; exact a2 z⟩
  · obtain ⟨es, c, es', c', _, rfl⟩ := h2
    simp [setBlock]
end Go.Proofs.YtbegbajlagcbdaaGreatDoor
