/- The walks: the error of a provision, both. -/
import Derived.Test.YtoigamkldccnkaaDoorW9
namespace Go.Proofs.YtoigamkldccnkaaDoor
open Go Go.RowKit
/-- The error of a provision by itself. -/
def Cal.provErr (nm : ByteArray) (value fr en : Int) (repeal : Bool) : Int :=
  if nameB nm = true then (if -1000000000 ≤ value ∧ value ≤ 1000000000 ∧ 0 ≤ fr ∧ fr ≤ 200000 ∧ 0 ≤ en ∧ en ≤ 200000 then (if repeal = true ∧ value ≠ 0 then 3 else 0) else 2) else 4
set_option maxHeartbeats 4000000 in
theorem checkProvision_any (nm : ByteArray) (value fr en : Int) (repeal : Bool) (w : World) (hs : nm.size ≤ maxLen) :
    Calls Tryd.prog 93 #[.agg #[.string nm, .int .i64 value, .int .i64 fr, .int .i64 en, .bool repeal]] w fun e w' => e = .returned (.int .i64 (Cal.provErr nm value fr en repeal)) ∧ Below w.heap.size w w' := by
  cases hn : nameB nm
  · go_enter Tryd.func93, Tryd.ntmps93
    go_wp2_with (first | (go_at_call 78; first | (refine (calls_in (within_any _ _ _ _) ?_ ?_).mono ?_; omega; omega; rintro e w' ⟨rfl, rfl⟩) | (refine (calls_out (within_any _ _ _ _) ?_).mono ?_; omega; rintro e w' ⟨rfl, rfl⟩) | (refine (within_any _ _ _ _).mono ?_; rintro e w' ⟨rfl, rfl⟩)) | (go_at_call 75; first | (refine (calls_in (isDay_any _ _) ?_ ?_).mono ?_; omega; omega; rintro e w' ⟨rfl, rfl⟩) | (refine (calls_out (isDay_any _ _) ?_).mono ?_; omega; rintro e w' ⟨rfl, rfl⟩) | (refine (isDay_any _ _).mono ?_; rintro e w' ⟨rfl, rfl⟩)) | (go_at_call 71; refine (isName_any _ _ hs).mono ?_; rintro e w' ⟨rfl, rfl⟩))
    go_ret
    exact ⟨ret_int (by unfold Cal.provErr; repeat' split
                       all_goals first | rfl | omega | simp_all), by (repeat (first | assumption | exact Below.refl _ _ | exact below_alloc _ _ | refine below_drewN ?_ _ | refine Below.drew ?_ | (refine Below.setCell ?_ ?_ _; rotate_left; focus (first | omega | (simp; done) | (simp; omega))) | (refine Below.alloc ?_ ?_ _; rotate_left; focus (first | omega | (simp; done) | (simp; omega)))))⟩
  · by_cases hva : -1000000000 ≤ value
    · by_cases hvb : value ≤ 1000000000
      · by_cases hfa : 0 ≤ fr
        · by_cases hfb : fr ≤ 200000
          · by_cases hia : 0 ≤ en
            · by_cases hib : en ≤ 200000
              · cases repeal
                · go_enter Tryd.func93, Tryd.ntmps93
                  go_wp2_with (first | (go_at_call 78; first | (refine (calls_in (within_any _ _ _ _) ?_ ?_).mono ?_; omega; omega; rintro e w' ⟨rfl, rfl⟩) | (refine (calls_out (within_any _ _ _ _) ?_).mono ?_; omega; rintro e w' ⟨rfl, rfl⟩) | (refine (within_any _ _ _ _).mono ?_; rintro e w' ⟨rfl, rfl⟩)) | (go_at_call 75; first | (refine (calls_in (isDay_any _ _) ?_ ?_).mono ?_; omega; omega; rintro e w' ⟨rfl, rfl⟩) | (refine (calls_out (isDay_any _ _) ?_).mono ?_; omega; rintro e w' ⟨rfl, rfl⟩) | (refine (isDay_any _ _).mono ?_; rintro e w' ⟨rfl, rfl⟩)) | (go_at_call 71; refine (isName_any _ _ hs).mono ?_; rintro e w' ⟨rfl, rfl⟩))
                  go_ret
                  exact ⟨ret_int (by unfold Cal.provErr; repeat' split
                                     all_goals first | rfl | omega | simp_all), by (repeat (first | assumption | exact Below.refl _ _ | exact below_alloc _ _ | refine below_drewN ?_ _ | refine Below.drew ?_ | (refine Below.setCell ?_ ?_ _; rotate_left; focus (first | omega | (simp; done) | (simp; omega))) | (refine Below.alloc ?_ ?_ _; rotate_left; focus (first | omega | (simp; done) | (simp; omega)))))⟩
                · by_cases hz : value = 0
                  · subst hz
                    go_enter Tryd.func93, Tryd.ntmps93
                    go_wp2_with (first | (go_at_call 78; first | (refine (calls_in (within_any _ _ _ _) ?_ ?_).mono ?_; omega; omega; rintro e w' ⟨rfl, rfl⟩) | (refine (calls_out (within_any _ _ _ _) ?_).mono ?_; omega; rintro e w' ⟨rfl, rfl⟩) | (refine (within_any _ _ _ _).mono ?_; rintro e w' ⟨rfl, rfl⟩)) | (go_at_call 75; first | (refine (calls_in (isDay_any _ _) ?_ ?_).mono ?_; omega; omega; rintro e w' ⟨rfl, rfl⟩) | (refine (calls_out (isDay_any _ _) ?_).mono ?_; omega; rintro e w' ⟨rfl, rfl⟩) | (refine (isDay_any _ _).mono ?_; rintro e w' ⟨rfl, rfl⟩)) | (go_at_call 71; refine (isName_any _ _ hs).mono ?_; rintro e w' ⟨rfl, rfl⟩))
                    go_ret
                    exact ⟨ret_int (by unfold Cal.provErr; repeat' split
                                       all_goals first | rfl | omega | simp_all), by (repeat (first | assumption | exact Below.refl _ _ | exact below_alloc _ _ | refine below_drewN ?_ _ | refine Below.drew ?_ | (refine Below.setCell ?_ ?_ _; rotate_left; focus (first | omega | (simp; done) | (simp; omega))) | (refine Below.alloc ?_ ?_ _; rotate_left; focus (first | omega | (simp; done) | (simp; omega)))))⟩
                  · have hze : (value == 0) = false := by simpa using hz
                    have hzn : (value != 0) = true := by simpa using hz
                    go_enter Tryd.func93, Tryd.ntmps93
                    go_wp2_with (first | (go_at_call 78; first | (refine (calls_in (within_any _ _ _ _) ?_ ?_).mono ?_; omega; omega; rintro e w' ⟨rfl, rfl⟩) | (refine (calls_out (within_any _ _ _ _) ?_).mono ?_; omega; rintro e w' ⟨rfl, rfl⟩) | (refine (within_any _ _ _ _).mono ?_; rintro e w' ⟨rfl, rfl⟩)) | (go_at_call 75; first | (refine (calls_in (isDay_any _ _) ?_ ?_).mono ?_; omega; omega; rintro e w' ⟨rfl, rfl⟩) | (refine (calls_out (isDay_any _ _) ?_).mono ?_; omega; rintro e w' ⟨rfl, rfl⟩) | (refine (isDay_any _ _).mono ?_; rintro e w' ⟨rfl, rfl⟩)) | (go_at_call 71; refine (isName_any _ _ hs).mono ?_; rintro e w' ⟨rfl, rfl⟩))
                    go_ret
                    exact ⟨ret_int (by unfold Cal.provErr; repeat' split
                                       all_goals first | rfl | omega | simp_all), by (repeat (first | assumption | exact Below.refl _ _ | exact below_alloc _ _ | refine below_drewN ?_ _ | refine Below.drew ?_ | (refine Below.setCell ?_ ?_ _; rotate_left; focus (first | omega | (simp; done) | (simp; omega))) | (refine Below.alloc ?_ ?_ _; rotate_left; focus (first | omega | (simp; done) | (simp; omega)))))⟩
              · go_enter Tryd.func93, Tryd.ntmps93
                go_wp2_with (first | (go_at_call 78; first | (refine (calls_in (within_any _ _ _ _) ?_ ?_).mono ?_; omega; omega; rintro e w' ⟨rfl, rfl⟩) | (refine (calls_out (within_any _ _ _ _) ?_).mono ?_; omega; rintro e w' ⟨rfl, rfl⟩) | (refine (within_any _ _ _ _).mono ?_; rintro e w' ⟨rfl, rfl⟩)) | (go_at_call 75; first | (refine (calls_in (isDay_any _ _) ?_ ?_).mono ?_; omega; omega; rintro e w' ⟨rfl, rfl⟩) | (refine (calls_out (isDay_any _ _) ?_).mono ?_; omega; rintro e w' ⟨rfl, rfl⟩) | (refine (isDay_any _ _).mono ?_; rintro e w' ⟨rfl, rfl⟩)) | (go_at_call 71; refine (isName_any _ _ hs).mono ?_; rintro e w' ⟨rfl, rfl⟩))
                go_ret
                exact ⟨ret_int (by unfold Cal.provErr; repeat' split
                                   all_goals first | rfl | omega | simp_all), by (repeat (first | assumption | exact Below.refl _ _ | exact below_alloc _ _ | refine below_drewN ?_ _ | refine Below.drew ?_ | (refine Below.setCell ?_ ?_ _; rotate_left; focus (first | omega | (simp; done) | (simp; omega))) | (refine Below.alloc ?_ ?_ _; rotate_left; focus (first | omega | (simp; done) | (simp; omega)))))⟩
            · go_enter Tryd.func93, Tryd.ntmps93
              go_wp2_with (first | (go_at_call 78; first | (refine (calls_in (within_any _ _ _ _) ?_ ?_).mono ?_; omega; omega; rintro e w' ⟨rfl, rfl⟩) | (refine (calls_out (within_any _ _ _ _) ?_).mono ?_; omega; rintro e w' ⟨rfl, rfl⟩) | (refine (within_any _ _ _ _).mono ?_; rintro e w' ⟨rfl, rfl⟩)) | (go_at_call 75; first | (refine (calls_in (isDay_any _ _) ?_ ?_).mono ?_; omega; omega; rintro e w' ⟨rfl, rfl⟩) | (refine (calls_out (isDay_any _ _) ?_).mono ?_; omega; rintro e w' ⟨rfl, rfl⟩) | (refine (isDay_any _ _).mono ?_; rintro e w' ⟨rfl, rfl⟩)) | (go_at_call 71; refine (isName_any _ _ hs).mono ?_; rintro e w' ⟨rfl, rfl⟩))
              go_ret
              exact ⟨ret_int (by unfold Cal.provErr; repeat' split
                                 all_goals first | rfl | omega | simp_all), by (repeat (first | assumption | exact Below.refl _ _ | exact below_alloc _ _ | refine below_drewN ?_ _ | refine Below.drew ?_ | (refine Below.setCell ?_ ?_ _; rotate_left; focus (first | omega | (simp; done) | (simp; omega))) | (refine Below.alloc ?_ ?_ _; rotate_left; focus (first | omega | (simp; done) | (simp; omega)))))⟩
          · go_enter Tryd.func93, Tryd.ntmps93
            go_wp2_with (first | (go_at_call 78; first | (refine (calls_in (within_any _ _ _ _) ?_ ?_).mono ?_; omega; omega; rintro e w' ⟨rfl, rfl⟩) | (refine (calls_out (within_any _ _ _ _) ?_).mono ?_; omega; rintro e w' ⟨rfl, rfl⟩) | (refine (within_any _ _ _ _).mono ?_; rintro e w' ⟨rfl, rfl⟩)) | (go_at_call 75; first | (refine (calls_in (isDay_any _ _) ?_ ?_).mono ?_; omega; omega; rintro e w' ⟨rfl, rfl⟩) | (refine (calls_out (isDay_any _ _) ?_).mono ?_; omega; rintro e w' ⟨rfl, rfl⟩) | (refine (isDay_any _ _).mono ?_; rintro e w' ⟨rfl, rfl⟩)) | (go_at_call 71; refine (isName_any _ _ hs).mono ?_; rintro e w' ⟨rfl, rfl⟩))
            go_ret
            exact ⟨ret_int (by unfold Cal.provErr; repeat' split
                               all_goals first | rfl | omega | simp_all), by (repeat (first | assumption | exact Below.refl _ _ | exact below_alloc _ _ | refine below_drewN ?_ _ | refine Below.drew ?_ | (refine Below.setCell ?_ ?_ _; rotate_left; focus (first | omega | (simp; done) | (simp; omega))) | (refine Below.alloc ?_ ?_ _; rotate_left; focus (first | omega | (simp; done) | (simp; omega)))))⟩
        · go_enter Tryd.func93, Tryd.ntmps93
          go_wp2_with (first | (go_at_call 78; first | (refine (calls_in (within_any _ _ _ _) ?_ ?_).mono ?_; omega; omega; rintro e w' ⟨rfl, rfl⟩) | (refine (calls_out (within_any _ _ _ _) ?_).mono ?_; omega; rintro e w' ⟨rfl, rfl⟩) | (refine (within_any _ _ _ _).mono ?_; rintro e w' ⟨rfl, rfl⟩)) | (go_at_call 75; first | (refine (calls_in (isDay_any _ _) ?_ ?_).mono ?_; omega; omega; rintro e w' ⟨rfl, rfl⟩) | (refine (calls_out (isDay_any _ _) ?_).mono ?_; omega; rintro e w' ⟨rfl, rfl⟩) | (refine (isDay_any _ _).mono ?_; rintro e w' ⟨rfl, rfl⟩)) | (go_at_call 71; refine (isName_any _ _ hs).mono ?_; rintro e w' ⟨rfl, rfl⟩))
          go_ret
          exact ⟨ret_int (by unfold Cal.provErr; repeat' split
                             all_goals first | rfl | omega | simp_all), by (repeat (first | assumption | exact Below.refl _ _ | exact below_alloc _ _ | refine below_drewN ?_ _ | refine Below.drew ?_ | (refine Below.setCell ?_ ?_ _; rotate_left; focus (first | omega | (simp; done) | (simp; omega))) | (refine Below.alloc ?_ ?_ _; rotate_left; focus (first | omega | (simp; done) | (simp; omega)))))⟩
      · go_enter Tryd.func93, Tryd.ntmps93
        go_wp2_with (first | (go_at_call 78; first | (refine (calls_in (within_any _ _ _ _) ?_ ?_).mono ?_; omega; omega; rintro e w' ⟨rfl, rfl⟩) | (refine (calls_out (within_any _ _ _ _) ?_).mono ?_; omega; rintro e w' ⟨rfl, rfl⟩) | (refine (within_any _ _ _ _).mono ?_; rintro e w' ⟨rfl, rfl⟩)) | (go_at_call 75; first | (refine (calls_in (isDay_any _ _) ?_ ?_).mono ?_; omega; omega; rintro e w' ⟨rfl, rfl⟩) | (refine (calls_out (isDay_any _ _) ?_).mono ?_; omega; rintro e w' ⟨rfl, rfl⟩) | (refine (isDay_any _ _).mono ?_; rintro e w' ⟨rfl, rfl⟩)) | (go_at_call 71; refine (isName_any _ _ hs).mono ?_; rintro e w' ⟨rfl, rfl⟩))
        go_ret
        exact ⟨ret_int (by unfold Cal.provErr; repeat' split
                           all_goals first | rfl | omega | simp_all), by (repeat (first | assumption | exact Below.refl _ _ | exact below_alloc _ _ | refine below_drewN ?_ _ | refine Below.drew ?_ | (refine Below.setCell ?_ ?_ _; rotate_left; focus (first | omega | (simp; done) | (simp; omega))) | (refine Below.alloc ?_ ?_ _; rotate_left; focus (first | omega | (simp; done) | (simp; omega)))))⟩
    · go_enter Tryd.func93, Tryd.ntmps93
      go_wp2_with (first | (go_at_call 78; first | (refine (calls_in (within_any _ _ _ _) ?_ ?_).mono ?_; omega; omega; rintro e w' ⟨rfl, rfl⟩) | (refine (calls_out (within_any _ _ _ _) ?_).mono ?_; omega; rintro e w' ⟨rfl, rfl⟩) | (refine (within_any _ _ _ _).mono ?_; rintro e w' ⟨rfl, rfl⟩)) | (go_at_call 75; first | (refine (calls_in (isDay_any _ _) ?_ ?_).mono ?_; omega; omega; rintro e w' ⟨rfl, rfl⟩) | (refine (calls_out (isDay_any _ _) ?_).mono ?_; omega; rintro e w' ⟨rfl, rfl⟩) | (refine (isDay_any _ _).mono ?_; rintro e w' ⟨rfl, rfl⟩)) | (go_at_call 71; refine (isName_any _ _ hs).mono ?_; rintro e w' ⟨rfl, rfl⟩))
      go_ret
      exact ⟨ret_int (by unfold Cal.provErr; repeat' split
                         all_goals first | rfl | omega | simp_all), by (repeat (first | assumption | exact Below.refl _ _ | exact below_alloc _ _ | refine below_drewN ?_ _ | refine Below.drew ?_ | (refine Below.setCell ?_ ?_ _; rotate_left; focus (first | omega | (simp; done) | (simp; omega))) | (refine Below.alloc ?_ ?_ _; rotate_left; focus (first | omega | (simp; done) | (simp; omega)))))⟩
set_option maxHeartbeats 4000000 in
theorem ProvisionErr_any (nm : ByteArray) (value fr en : Int) (repeal : Bool) (w : World) (hs : nm.size ≤ maxLen) :
    Calls Tryd.prog 94 #[.agg #[.string nm, .int .i64 value, .int .i64 fr, .int .i64 en, .bool repeal]] w fun e w' => e = .returned (.int .i64 (Cal.provErr nm value fr en repeal)) ∧ Below w.heap.size w w' := by
  cases hn : nameB nm
  · go_enter Tryd.func94, Tryd.ntmps94
    go_wp2_with (first | (go_at_call 29; first | (refine (calls_in (Within_any _ _ _ _) ?_ ?_).mono ?_; omega; omega; rintro e w' ⟨rfl, rfl⟩) | (refine (calls_out (Within_any _ _ _ _) ?_).mono ?_; omega; rintro e w' ⟨rfl, rfl⟩) | (refine (Within_any _ _ _ _).mono ?_; rintro e w' ⟨rfl, rfl⟩)) | (go_at_call 32; first | (refine (calls_in (IsDay_any _ _) ?_ ?_).mono ?_; omega; omega; rintro e w' ⟨rfl, rfl⟩) | (refine (calls_out (IsDay_any _ _) ?_).mono ?_; omega; rintro e w' ⟨rfl, rfl⟩) | (refine (IsDay_any _ _).mono ?_; rintro e w' ⟨rfl, rfl⟩)) | (go_at_call 67; refine (IsName_any _ _ hs).mono ?_; rintro e w' ⟨rfl, rfl⟩))
    go_ret
    exact ⟨ret_int (by unfold Cal.provErr; repeat' split
                       all_goals first | rfl | omega | simp_all), by (repeat (first | assumption | exact Below.refl _ _ | exact below_alloc _ _ | refine below_drewN ?_ _ | refine Below.drew ?_ | (refine Below.setCell ?_ ?_ _; rotate_left; focus (first | omega | (simp; done) | (simp; omega))) | (refine Below.alloc ?_ ?_ _; rotate_left; focus (first | omega | (simp; done) | (simp; omega)))))⟩
  · by_cases hva : -1000000000 ≤ value
    · by_cases hvb : value ≤ 1000000000
      · by_cases hfa : 0 ≤ fr
        · by_cases hfb : fr ≤ 200000
          · by_cases hia : 0 ≤ en
            · by_cases hib : en ≤ 200000
              · cases repeal
                · go_enter Tryd.func94, Tryd.ntmps94
                  go_wp2_with (first | (go_at_call 29; first | (refine (calls_in (Within_any _ _ _ _) ?_ ?_).mono ?_; omega; omega; rintro e w' ⟨rfl, rfl⟩) | (refine (calls_out (Within_any _ _ _ _) ?_).mono ?_; omega; rintro e w' ⟨rfl, rfl⟩) | (refine (Within_any _ _ _ _).mono ?_; rintro e w' ⟨rfl, rfl⟩)) | (go_at_call 32; first | (refine (calls_in (IsDay_any _ _) ?_ ?_).mono ?_; omega; omega; rintro e w' ⟨rfl, rfl⟩) | (refine (calls_out (IsDay_any _ _) ?_).mono ?_; omega; rintro e w' ⟨rfl, rfl⟩) | (refine (IsDay_any _ _).mono ?_; rintro e w' ⟨rfl, rfl⟩)) | (go_at_call 67; refine (IsName_any _ _ hs).mono ?_; rintro e w' ⟨rfl, rfl⟩))
                  go_ret
                  exact ⟨ret_int (by unfold Cal.provErr; repeat' split
                                     all_goals first | rfl | omega | simp_all), by (repeat (first | assumption | exact Below.refl _ _ | exact below_alloc _ _ | refine below_drewN ?_ _ | refine Below.drew ?_ | (refine Below.setCell ?_ ?_ _; rotate_left; focus (first | omega | (simp; done) | (simp; omega))) | (refine Below.alloc ?_ ?_ _; rotate_left; focus (first | omega | (simp; done) | (simp; omega)))))⟩
                · by_cases hz : value = 0
                  · subst hz
                    go_enter Tryd.func94, Tryd.ntmps94
                    go_wp2_with (first | (go_at_call 29; first | (refine (calls_in (Within_any _ _ _ _) ?_ ?_).mono ?_; omega; omega; rintro e w' ⟨rfl, rfl⟩) | (refine (calls_out (Within_any _ _ _ _) ?_).mono ?_; omega; rintro e w' ⟨rfl, rfl⟩) | (refine (Within_any _ _ _ _).mono ?_; rintro e w' ⟨rfl, rfl⟩)) | (go_at_call 32; first | (refine (calls_in (IsDay_any _ _) ?_ ?_).mono ?_; omega; omega; rintro e w' ⟨rfl, rfl⟩) | (refine (calls_out (IsDay_any _ _) ?_).mono ?_; omega; rintro e w' ⟨rfl, rfl⟩) | (refine (IsDay_any _ _).mono ?_; rintro e w' ⟨rfl, rfl⟩)) | (go_at_call 67; refine (IsName_any _ _ hs).mono ?_; rintro e w' ⟨rfl, rfl⟩))
                    go_ret
                    exact ⟨ret_int (by unfold Cal.provErr; repeat' split
                                       all_goals first | rfl | omega | simp_all), by (repeat (first | assumption | exact Below.refl _ _ | exact below_alloc _ _ | refine below_drewN ?_ _ | refine Below.drew ?_ | (refine Below.setCell ?_ ?_ _; rotate_left; focus (first | omega | (simp; done) | (simp; omega))) | (refine Below.alloc ?_ ?_ _; rotate_left; focus (first | omega | (simp; done) | (simp; omega)))))⟩
                  · have hze : (value == 0) = false := by simpa using hz
                    have hzn : (value != 0) = true := by simpa using hz
                    go_enter Tryd.func94, Tryd.ntmps94
                    go_wp2_with (first | (go_at_call 29; first | (refine (calls_in (Within_any _ _ _ _) ?_ ?_).mono ?_; omega; omega; rintro e w' ⟨rfl, rfl⟩) | (refine (calls_out (Within_any _ _ _ _) ?_).mono ?_; omega; rintro e w' ⟨rfl, rfl⟩) | (refine (Within_any _ _ _ _).mono ?_; rintro e w' ⟨rfl, rfl⟩)) | (go_at_call 32; first | (refine (calls_in (IsDay_any _ _) ?_ ?_).mono ?_; omega; omega; rintro e w' ⟨rfl, rfl⟩) | (refine (calls_out (IsDay_any _ _) ?_).mono ?_; omega; rintro e w' ⟨rfl, rfl⟩) | (refine (IsDay_any _ _).mono ?_; rintro e w' ⟨rfl, rfl⟩)) | (go_at_call 67; refine (IsName_any _ _ hs).mono ?_; rintro e w' ⟨rfl, rfl⟩))
                    go_ret
                    exact ⟨ret_int (by unfold Cal.provErr; repeat' split
                                       all_goals first | rfl | omega | simp_all), by (repeat (first | assumption | exact Below.refl _ _ | exact below_alloc _ _ | refine below_drewN ?_ _ | refine Below.drew ?_ | (refine Below.setCell ?_ ?_ _; rotate_left; focus (first | omega | (simp; done) | (simp; omega))) | (refine Below.alloc ?_ ?_ _; rotate_left; focus (first | omega | (simp; done) | (simp; omega)))))⟩
              · go_enter Tryd.func94, Tryd.ntmps94
                go_wp2_with (first | (go_at_call 29; first | (refine (calls_in (Within_any _ _ _ _) ?_ ?_).mono ?_; omega; omega; rintro e w' ⟨rfl, rfl⟩) | (refine (calls_out (Within_any _ _ _ _) ?_).mono ?_; omega; rintro e w' ⟨rfl, rfl⟩) | (refine (Within_any _ _ _ _).mono ?_; rintro e w' ⟨rfl, rfl⟩)) | (go_at_call 32; first | (refine (calls_in (IsDay_any _ _) ?_ ?_).mono ?_; omega; omega; rintro e w' ⟨rfl, rfl⟩) | (refine (calls_out (IsDay_any _ _) ?_).mono ?_; omega; rintro e w' ⟨rfl, rfl⟩) | (refine (IsDay_any _ _).mono ?_; rintro e w' ⟨rfl, rfl⟩)) | (go_at_call 67; refine (IsName_any _ _ hs).mono ?_; rintro e w' ⟨rfl, rfl⟩))
                go_ret
                exact ⟨ret_int (by unfold Cal.provErr; repeat' split
                                   all_goals first | rfl | omega | simp_all), by (repeat (first | assumption | exact Below.refl _ _ | exact below_alloc _ _ | refine below_drewN ?_ _ | refine Below.drew ?_ | (refine Below.setCell ?_ ?_ _; rotate_left; focus (first | omega | (simp; done) | (simp; omega))) | (refine Below.alloc ?_ ?_ _; rotate_left; focus (first | omega | (simp; done) | (simp; omega)))))⟩
            · go_enter Tryd.func94, Tryd.ntmps94
              go_wp2_with (first | (go_at_call 29; first | (refine (calls_in (Within_any _ _ _ _) ?_ ?_).mono ?_; omega; omega; rintro e w' ⟨rfl, rfl⟩) | (refine (calls_out (Within_any _ _ _ _) ?_).mono ?_; omega; rintro e w' ⟨rfl, rfl⟩) | (refine (Within_any _ _ _ _).mono ?_; rintro e w' ⟨rfl, rfl⟩)) | (go_at_call 32; first | (refine (calls_in (IsDay_any _ _) ?_ ?_).mono ?_; omega; omega; rintro e w' ⟨rfl, rfl⟩) | (refine (calls_out (IsDay_any _ _) ?_).mono ?_; omega; rintro e w' ⟨rfl, rfl⟩) | (refine (IsDay_any _ _).mono ?_; rintro e w' ⟨rfl, rfl⟩)) | (go_at_call 67; refine (IsName_any _ _ hs).mono ?_; rintro e w' ⟨rfl, rfl⟩))
              go_ret
              exact ⟨ret_int (by unfold Cal.provErr; repeat' split
                                 all_goals first | rfl | omega | simp_all), by (repeat (first | assumption | exact Below.refl _ _ | exact below_alloc _ _ | refine below_drewN ?_ _ | refine Below.drew ?_ | (refine Below.setCell ?_ ?_ _; rotate_left; focus (first | omega | (simp; done) | (simp; omega))) | (refine Below.alloc ?_ ?_ _; rotate_left; focus (first | omega | (simp; done) | (simp; omega)))))⟩
          · go_enter Tryd.func94, Tryd.ntmps94
            go_wp2_with (first | (go_at_call 29; first | (refine (calls_in (Within_any _ _ _ _) ?_ ?_).mono ?_; omega; omega; rintro e w' ⟨rfl, rfl⟩) | (refine (calls_out (Within_any _ _ _ _) ?_).mono ?_; omega; rintro e w' ⟨rfl, rfl⟩) | (refine (Within_any _ _ _ _).mono ?_; rintro e w' ⟨rfl, rfl⟩)) | (go_at_call 32; first | (refine (calls_in (IsDay_any _ _) ?_ ?_).mono ?_; omega; omega; rintro e w' ⟨rfl, rfl⟩) | (refine (calls_out (IsDay_any _ _) ?_).mono ?_; omega; rintro e w' ⟨rfl, rfl⟩) | (refine (IsDay_any _ _).mono ?_; rintro e w' ⟨rfl, rfl⟩)) | (go_at_call 67; refine (IsName_any _ _ hs).mono ?_; rintro e w' ⟨rfl, rfl⟩))
            go_ret
            exact ⟨ret_int (by unfold Cal.provErr; repeat' split
                               all_goals first | rfl | omega | simp_all), by (repeat (first | assumption | exact Below.refl _ _ | exact below_alloc _ _ | refine below_drewN ?_ _ | refine Below.drew ?_ | (refine Below.setCell ?_ ?_ _; rotate_left; focus (first | omega | (simp; done) | (simp; omega))) | (refine Below.alloc ?_ ?_ _; rotate_left; focus (first | omega | (simp; done) | (simp; omega)))))⟩
        · go_enter Tryd.func94, Tryd.ntmps94
          go_wp2_with (first | (go_at_call 29; first | (refine (calls_in (Within_any _ _ _ _) ?_ ?_).mono ?_; omega; omega; rintro e w' ⟨rfl, rfl⟩) | (refine (calls_out (Within_any _ _ _ _) ?_).mono ?_; omega; rintro e w' ⟨rfl, rfl⟩) | (refine (Within_any _ _ _ _).mono ?_; rintro e w' ⟨rfl, rfl⟩)) | (go_at_call 32; first | (refine (calls_in (IsDay_any _ _) ?_ ?_).mono ?_; omega; omega; rintro e w' ⟨rfl, rfl⟩) | (refine (calls_out (IsDay_any _ _) ?_).mono ?_; omega; rintro e w' ⟨rfl, rfl⟩) | (refine (IsDay_any _ _).mono ?_; rintro e w' ⟨rfl, rfl⟩)) | (go_at_call 67; refine (IsName_any _ _ hs).mono ?_; rintro e w' ⟨rfl, rfl⟩))
          go_ret
          exact ⟨ret_int (by unfold Cal.provErr; repeat' split
                             all_goals first | rfl | omega | simp_all), by (repeat (first | assumption | exact Below.refl _ _ | exact below_alloc _ _ | refine below_drewN ?_ _ | refine Below.drew ?_ | (refine Below.setCell ?_ ?_ _; rotate_left; focus (first | omega | (simp; done) | (simp; omega))) | (refine Below.alloc ?_ ?_ _; rotate_left; focus (first | omega | (simp; done) | (simp; omega)))))⟩
      · go_enter Tryd.func94, Tryd.ntmps94
        go_wp2_with (first | (go_at_call 29; first | (refine (calls_in (Within_any _ _ _ _) ?_ ?_).mono ?_; omega; omega; rintro e w' ⟨rfl, rfl⟩) | (refine (calls_out (Within_any _ _ _ _) ?_).mono ?_; omega; rintro e w' ⟨rfl, rfl⟩) | (refine (Within_any _ _ _ _).mono ?_; rintro e w' ⟨rfl, rfl⟩)) | (go_at_call 32; first | (refine (calls_in (IsDay_any _ _) ?_ ?_).mono ?_; omega; omega; rintro e w' ⟨rfl, rfl⟩) | (refine (calls_out (IsDay_any _ _) ?_).mono ?_; omega; rintro e w' ⟨rfl, rfl⟩) | (refine (IsDay_any _ _).mono ?_; rintro e w' ⟨rfl, rfl⟩)) | (go_at_call 67; refine (IsName_any _ _ hs).mono ?_; rintro e w' ⟨rfl, rfl⟩))
        go_ret
        exact ⟨ret_int (by unfold Cal.provErr; repeat' split
                           all_goals first | rfl | omega | simp_all), by (repeat (first | assumption | exact Below.refl _ _ | exact below_alloc _ _ | refine below_drewN ?_ _ | refine Below.drew ?_ | (refine Below.setCell ?_ ?_ _; rotate_left; focus (first | omega | (simp; done) | (simp; omega))) | (refine Below.alloc ?_ ?_ _; rotate_left; focus (first | omega | (simp; done) | (simp; omega)))))⟩
    · go_enter Tryd.func94, Tryd.ntmps94
      go_wp2_with (first | (go_at_call 29; first | (refine (calls_in (Within_any _ _ _ _) ?_ ?_).mono ?_; omega; omega; rintro e w' ⟨rfl, rfl⟩) | (refine (calls_out (Within_any _ _ _ _) ?_).mono ?_; omega; rintro e w' ⟨rfl, rfl⟩) | (refine (Within_any _ _ _ _).mono ?_; rintro e w' ⟨rfl, rfl⟩)) | (go_at_call 32; first | (refine (calls_in (IsDay_any _ _) ?_ ?_).mono ?_; omega; omega; rintro e w' ⟨rfl, rfl⟩) | (refine (calls_out (IsDay_any _ _) ?_).mono ?_; omega; rintro e w' ⟨rfl, rfl⟩) | (refine (IsDay_any _ _).mono ?_; rintro e w' ⟨rfl, rfl⟩)) | (go_at_call 67; refine (IsName_any _ _ hs).mono ?_; rintro e w' ⟨rfl, rfl⟩))
      go_ret
      exact ⟨ret_int (by unfold Cal.provErr; repeat' split
                         all_goals first | rfl | omega | simp_all), by (repeat (first | assumption | exact Below.refl _ _ | exact below_alloc _ _ | refine below_drewN ?_ _ | refine Below.drew ?_ | (refine Below.setCell ?_ ?_ _; rotate_left; focus (first | omega | (simp; done) | (simp; omega))) | (refine Below.alloc ?_ ?_ _; rotate_left; focus (first | omega | (simp; done) | (simp; omega)))))⟩
end Go.Proofs.YtoigamkldccnkaaDoor
