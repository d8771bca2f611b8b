/- The walk of the statement RuleDeadlines. -/
import Derived.Test.YtoigamkldccnkaaDoorAwake
import Derived.Test.YtoigamkldccnkaaDoorW29
import Derived.Test.YtoigamkldccnkaaDoorW34
import Derived.Deep.RegionHeld3
namespace Go.Proofs.YtoigamkldccnkaaDoor
open Go Go.RowKit
theorem Cal.addFrom_some {l : List Hol} {step : Int} : ∀ (f : Nat) (d left x : Int), Cal.addFrom l step f d left = some x → 0 ≤ x ∧ x ≤ 200000 ∧ Cal.worksB l x = true
  | 0, _, _, _, h => by cases h
  | f + 1, d, left, x, h => by
    unfold Cal.addFrom at h
    split at h
    · rename_i hd
      split at h
      · rename_i hw
        split at h
        · cases h; exact ⟨hd.1, hd.2, hw⟩
        · exact Cal.addFrom_some f _ _ _ h
      · exact Cal.addFrom_some f _ _ _ h
    · cases h
theorem Cal.addW_some {l : List Hol} {day n x : Int} (h : Cal.addW l day n = some x) : 0 ≤ x ∧ x ≤ 200000 ∧ Cal.worksB l x = true := by
  unfold Cal.addW at h
  split at h
  · exact Cal.addFrom_some _ _ _ _ h
  · split at h
    · exact Cal.addFrom_some _ _ _ _ h
    · exact Cal.addFrom_some _ _ _ _ h
theorem Cal.dlFrom_some {l : List Hol} {day m d x : Int} {k : Bool} (h : Cal.dlFrom l day m d k = some x) : 0 ≤ x ∧ x ≤ 200000 ∧ Cal.worksB l x = true := by
  unfold Cal.dlFrom at h
  split at h
  · split at h
    · exact Cal.addW_some h
    · split at h
      · exact Cal.addW_some h
      · cases h
  · cases h
theorem PerAt.all {w : World} {B : Nat} {m d : Int} {k : Bool} (h : PerAt w B m d k) : w.cell? ⟨B, 0, none⟩ = some (.int .i64 m) ∧ w.cell? ⟨B, 1, none⟩ = some (.int .i64 d) ∧ w.cell? ⟨B, 2, none⟩ = some (.bool k) := ⟨h.c0, h.c1, h.c2⟩
set_option maxRecDepth 100000 in
set_option maxHeartbeats 8000000 in
theorem RuleDeadlines_t (A : Option Addr) (c : Nat) (l : List Hol) (day m d : Int) (w : World) (hl : Hols w A l) (hT : Tab w) :
    Calls Tryd.prog 13 #[.slice A l.length c, .int .i64 day, .agg #[.int .i64 m, .int .i64 d, .bool true]] w fun e w' => e = .returned (.bool true) ∧ Below w.heap.size w w' := by
  have hl' := Lib.hid hl
  have hT' := Lib.hid hT
  have hnew := Lib.hid (PerAt.new w m d true 87)
  clear hl hT
  by_cases hfar : 60 < d ∧ d ≤ 2000
  · obtain ⟨e0, e1⟩ := hfar
    go_enter Tryd.func13, Tryd.ntmps13
    go_wp2_with fail
    refine (awake_any _ (hT'.out.alloc _)).mono ?_
    rintro e w1 ⟨rfl, hb1⟩
    have hx1 := Lib.hid (hnew.out.below hb1)
    have hbw := Lib.hid (below_step (below_alloc w _) hb1)
    clear hb1
    have k1 := hx1.out.c1
    have k2 := hx1.out.c2
    go_wp2_with fail
    refine (Calendar_any _ _ l _ (hl'.out.below hbw.out)).mono ?_
    rintro e w' ⟨⟨b, rfl, _⟩, rfl⟩
    cases b
    · go_wp2
      go_ret
      exact ⟨rfl, hbw.out⟩
    have k0 := hx1.out.c0
    go_wp2_with fail
    go_ret
    exact ⟨rfl, hbw.out⟩
  · have hn : d ≤ 60 ∨ 2000 < d := by omega
    clear hfar
    rcases hn with hn | hn
    all_goals
      by_cases h0 : Cal.holsErr l = 0
      · have h0z := Lib.hid h0
        have h1 : (Cal.holsErr l == 0) = true := by simpa using h0
        have h1' : (Cal.holsErr l != 0) = false := by simpa using h0
        obtain ⟨hok, hlen⟩ := Cal.holsErr_ok h0
        clear h0
        by_cases hd : 0 ≤ day ∧ day ≤ 200000
        · obtain ⟨d0, d1⟩ := hd
          by_cases hp : Cal.perE m d true = 0
          · have hpz := Lib.hid hp
            have hp1 : (Cal.perE m d true != 0) = false := by simpa using hp
            have hDR := fun w1 hl => DeadlineR_any A c l hok day m d true hp d0 d1 w1 hl
            unfold DlPostR at hDR
            clear hp
            cases hr : Cal.dlFrom l day m d true with
            | none =>
              have hS : Hid (Cal.dlS l day m d true = (0, 2)) := by show _ = _; unfold Cal.dlS; rw [if_pos h0z.out, if_pos ⟨d0, d1⟩, if_pos hpz.out, hr]
              rw [hr] at hDR
              unfold Cal.addV at hDR
              have hDR := Lib.hid hDR
              clear hr
              go_enter Tryd.func13, Tryd.ntmps13
              go_wp2_with fail
              refine (awake_any _ (hT'.out.alloc _)).mono ?_
              rintro e w1 ⟨rfl, hb1⟩
              have hx1 := Lib.hid (hnew.out.below hb1)
              have hbw := Lib.hid (below_step (below_alloc w _) hb1)
              clear hb1
              have k1 := hx1.out.c1
              have k2 := hx1.out.c2
              go_wp2_with fail
              refine (Calendar_any _ _ l _ (hl'.out.below hbw.out)).mono ?_
              rintro e w' ⟨⟨b, rfl, _⟩, rfl⟩
              cases b
              · go_wp2
                go_ret
                exact ⟨rfl, hbw.out⟩
              have k0 := hx1.out.c0
              go_wp2_with fail
              refine (Deadline_any _ _ l day m d _ _ (hl'.out.below hbw.out) (hT'.out.below hbw.out)).mono ?_
              rintro e w2 ⟨rfl, hb2⟩
              rw [hS.out]
              have hx2 := Lib.hid (hx1.out.below hb2)
              have hbw2 := Lib.hid (below_step hbw.out hb2)
              clear hb2 k0 k1 k2
              have k0 := hx2.out.c0
              have k1 := hx2.out.c1
              have k2 := hx2.out.c2
              go_wp2_with fail
              go_region_held3 (fun w' => w'.cell? ⟨w.heap.size, 0, none⟩ = some (.int .i64 m) ∧ w'.cell? ⟨w.heap.size, 1, none⟩ = some (.int .i64 d) ∧ w'.cell? ⟨w.heap.size, 2, none⟩ = some (.bool true)) (first | exact hx2.out.all | exact hxa.all | exact hxb.all | exact hxF.all | fail) (first
                | (go_at_call 61; refine (CheckPeriod_any m d _ _).mono ?_; rintro e wa ⟨rfl, hba⟩; first | (have hxF := hxb.below hba; have hbwF := below_step hbwb hba) | (have hxa := hx2.out.below (below_of_drewN (n := 1) hba); have hbwa := below_step hbw2.out (below_of_drewN (n := 1) hba)))
                | (go_at_call 62; refine (CheckPeriodR_any m d _ _).mono ?_; rintro e wb ⟨rfl, hbb⟩; first | (have hxF := hxa.below hbb; have hbwF := below_step hbwa hbb) | (have hxb := hx2.out.below (below_of_drewN (n := 1) hbb); have hbwb := below_step hbw2.out (below_of_drewN (n := 1) hbb)))
                | fail)
              all_goals
                have hx3 := Lib.hid hxF
                have hbw3 := Lib.hid hbwF
                clear hxF hbwF k0 k1 k2
                try clear hxa hbwa
                try clear hxb hbwb
                go_wp2_with fail
                refine (CheckHolidaysR_any _ _ l _ (hl'.out.below hbw3.out)).mono ?_
                rintro e w4 ⟨rfl, hb4⟩
                have hx4 := Lib.hid (hx3.out.below hb4)
                have hbw4 := Lib.hid (below_step hbw3.out hb4)
                clear hb4
                have k0 := hx4.out.c0
                have k1 := hx4.out.c1
                have k2 := hx4.out.c2
                go_wp2_with (first | (go_at_call 78; first | (refine (calls_in (within_any _ _ _ _) ?_ ?_).mono ?_; omega; omega; rintro e w' ⟨rfl, rfl⟩) | (refine (calls_out (within_any _ _ _ _) ?_).mono ?_; omega; rintro e w' ⟨rfl, rfl⟩) | (refine (within_any _ _ _ _).mono ?_; rintro e w' ⟨rfl, rfl⟩)) | (go_at_call 29; first | (refine (calls_in (Within_any _ _ _ _) ?_ ?_).mono ?_; omega; omega; rintro e w' ⟨rfl, rfl⟩) | (refine (calls_out (Within_any _ _ _ _) ?_).mono ?_; omega; rintro e w' ⟨rfl, rfl⟩) | (refine (Within_any _ _ _ _).mono ?_; rintro e w' ⟨rfl, rfl⟩)) | (go_at_call 75; first | (refine (calls_in (isDay_any _ _) ?_ ?_).mono ?_; omega; omega; rintro e w' ⟨rfl, rfl⟩) | (refine (calls_out (isDay_any _ _) ?_).mono ?_; omega; rintro e w' ⟨rfl, rfl⟩) | (refine (isDay_any _ _).mono ?_; rintro e w' ⟨rfl, rfl⟩)) | (go_at_call 32; first | (refine (calls_in (IsDay_any _ _) ?_ ?_).mono ?_; omega; omega; rintro e w' ⟨rfl, rfl⟩) | (refine (calls_out (IsDay_any _ _) ?_).mono ?_; omega; rintro e w' ⟨rfl, rfl⟩) | (refine (IsDay_any _ _).mono ?_; rintro e w' ⟨rfl, rfl⟩)) | (go_at_call 46; first | (refine (calls_in (IsYear_any _ _) ?_ ?_).mono ?_; omega; omega; rintro e w' ⟨rfl, rfl⟩) | (refine (calls_out (IsYear_any _ _) ?_).mono ?_; omega; rintro e w' ⟨rfl, rfl⟩) | (refine (IsYear_any _ _).mono ?_; rintro e w' ⟨rfl, rfl⟩)) | (go_at_call 25; first | (refine (calls_in (IsFull_any _ _) ?_ ?_).mono ?_; omega; omega; rintro e w' ⟨rfl, rfl⟩) | (refine (calls_out (IsFull_any _ _) ?_).mono ?_; omega; rintro e w' ⟨rfl, rfl⟩) | (refine (IsFull_any _ _).mono ?_; rintro e w' ⟨rfl, rfl⟩)) | (go_at_call 69; first | (refine (calls_in (isFull_any _ _) ?_ ?_).mono ?_; omega; omega; rintro e w' ⟨rfl, rfl⟩) | (refine (calls_out (isFull_any _ _) ?_).mono ?_; omega; rintro e w' ⟨rfl, rfl⟩) | (refine (isFull_any _ _).mono ?_; rintro e w' ⟨rfl, rfl⟩)))
              all_goals
                refine (CheckPeriodR_any m d _ _).mono ?_
                rintro e w5 ⟨rfl, hb5⟩
                have hx5 := Lib.hid (hx4.out.below hb5)
                have hbw5 := Lib.hid (below_step hbw4.out hb5)
                clear hb5 k0 k1 k2
                have k0 := hx5.out.c0
                have k1 := hx5.out.c1
                have k2 := hx5.out.c2
                go_wp2_with fail
                refine (hDR.out _ (hl'.out.below hbw5.out)).mono ?_
                rintro e w6 ⟨rfl, hb6⟩
                have hbw6 := Lib.hid (below_step hbw5.out hb6)
                clear hb6 k0 k1 k2
                go_wp2_with fail
                go_ret
                exact ⟨rfl, hbw6.out⟩
            | some x =>
              have hS : Hid (Cal.dlS l day m d true = (x, 0)) := by show _ = _; unfold Cal.dlS; rw [if_pos h0z.out, if_pos ⟨d0, d1⟩, if_pos hpz.out, hr]
              obtain ⟨x0, x1, hw⟩ := Cal.dlFrom_some hr
              have hiE : Hid (Cal.isWorkE l x = 0) := by show _ = _; unfold Cal.isWorkE; rw [if_pos h0z.out, if_pos ⟨x0, x1⟩]
              have hiB : Hid (Cal.isWorkB l x = true) := by show _ = _; unfold Cal.isWorkB; rw [if_pos hiE.out, ← Cal.workB_eq hok x0 x1, hw]
              rw [hr] at hDR
              unfold Cal.addV at hDR
              have hDR := Lib.hid hDR
              clear hr hw
              go_enter Tryd.func13, Tryd.ntmps13
              go_wp2_with fail
              refine (awake_any _ (hT'.out.alloc _)).mono ?_
              rintro e w1 ⟨rfl, hb1⟩
              have hx1 := Lib.hid (hnew.out.below hb1)
              have hbw := Lib.hid (below_step (below_alloc w _) hb1)
              clear hb1
              have k1 := hx1.out.c1
              have k2 := hx1.out.c2
              go_wp2_with fail
              refine (Calendar_any _ _ l _ (hl'.out.below hbw.out)).mono ?_
              rintro e w' ⟨⟨b, rfl, _⟩, rfl⟩
              cases b
              · go_wp2
                go_ret
                exact ⟨rfl, hbw.out⟩
              have k0 := hx1.out.c0
              go_wp2_with fail
              refine (Deadline_any _ _ l day m d _ _ (hl'.out.below hbw.out) (hT'.out.below hbw.out)).mono ?_
              rintro e w2 ⟨rfl, hb2⟩
              rw [hS.out]
              have hx2 := Lib.hid (hx1.out.below hb2)
              have hbw2 := Lib.hid (below_step hbw.out hb2)
              clear hb2 k0 k1 k2
              have k0 := hx2.out.c0
              have k1 := hx2.out.c1
              have k2 := hx2.out.c2
              go_wp2_with fail
              go_region_held3 (fun w' => w'.cell? ⟨w.heap.size, 0, none⟩ = some (.int .i64 m) ∧ w'.cell? ⟨w.heap.size, 1, none⟩ = some (.int .i64 d) ∧ w'.cell? ⟨w.heap.size, 2, none⟩ = some (.bool true)) (first | exact hx2.out.all | exact hxa.all | exact hxb.all | exact hxF.all | fail) (first
                | (go_at_call 61; refine (CheckPeriod_any m d _ _).mono ?_; rintro e wa ⟨rfl, hba⟩; first | (have hxF := hxb.below hba; have hbwF := below_step hbwb hba) | (have hxa := hx2.out.below (below_of_drewN (n := 1) hba); have hbwa := below_step hbw2.out (below_of_drewN (n := 1) hba)))
                | (go_at_call 62; refine (CheckPeriodR_any m d _ _).mono ?_; rintro e wb ⟨rfl, hbb⟩; first | (have hxF := hxa.below hbb; have hbwF := below_step hbwa hbb) | (have hxb := hx2.out.below (below_of_drewN (n := 1) hbb); have hbwb := below_step hbw2.out (below_of_drewN (n := 1) hbb)))
                | fail)
              all_goals
                have hx3 := Lib.hid hxF
                have hbw3 := Lib.hid hbwF
                clear hxF hbwF k0 k1 k2
                try clear hxa hbwa
                try clear hxb hbwb
                go_wp2_with fail
                refine (CheckHolidaysR_any _ _ l _ (hl'.out.below hbw3.out)).mono ?_
                rintro e w4 ⟨rfl, hb4⟩
                have hx4 := Lib.hid (hx3.out.below hb4)
                have hbw4 := Lib.hid (below_step hbw3.out hb4)
                clear hb4
                have k0 := hx4.out.c0
                have k1 := hx4.out.c1
                have k2 := hx4.out.c2
                go_wp2_with (first | (go_at_call 78; first | (refine (calls_in (within_any _ _ _ _) ?_ ?_).mono ?_; omega; omega; rintro e w' ⟨rfl, rfl⟩) | (refine (calls_out (within_any _ _ _ _) ?_).mono ?_; omega; rintro e w' ⟨rfl, rfl⟩) | (refine (within_any _ _ _ _).mono ?_; rintro e w' ⟨rfl, rfl⟩)) | (go_at_call 29; first | (refine (calls_in (Within_any _ _ _ _) ?_ ?_).mono ?_; omega; omega; rintro e w' ⟨rfl, rfl⟩) | (refine (calls_out (Within_any _ _ _ _) ?_).mono ?_; omega; rintro e w' ⟨rfl, rfl⟩) | (refine (Within_any _ _ _ _).mono ?_; rintro e w' ⟨rfl, rfl⟩)) | (go_at_call 75; first | (refine (calls_in (isDay_any _ _) ?_ ?_).mono ?_; omega; omega; rintro e w' ⟨rfl, rfl⟩) | (refine (calls_out (isDay_any _ _) ?_).mono ?_; omega; rintro e w' ⟨rfl, rfl⟩) | (refine (isDay_any _ _).mono ?_; rintro e w' ⟨rfl, rfl⟩)) | (go_at_call 32; first | (refine (calls_in (IsDay_any _ _) ?_ ?_).mono ?_; omega; omega; rintro e w' ⟨rfl, rfl⟩) | (refine (calls_out (IsDay_any _ _) ?_).mono ?_; omega; rintro e w' ⟨rfl, rfl⟩) | (refine (IsDay_any _ _).mono ?_; rintro e w' ⟨rfl, rfl⟩)) | (go_at_call 46; first | (refine (calls_in (IsYear_any _ _) ?_ ?_).mono ?_; omega; omega; rintro e w' ⟨rfl, rfl⟩) | (refine (calls_out (IsYear_any _ _) ?_).mono ?_; omega; rintro e w' ⟨rfl, rfl⟩) | (refine (IsYear_any _ _).mono ?_; rintro e w' ⟨rfl, rfl⟩)) | (go_at_call 25; first | (refine (calls_in (IsFull_any _ _) ?_ ?_).mono ?_; omega; omega; rintro e w' ⟨rfl, rfl⟩) | (refine (calls_out (IsFull_any _ _) ?_).mono ?_; omega; rintro e w' ⟨rfl, rfl⟩) | (refine (IsFull_any _ _).mono ?_; rintro e w' ⟨rfl, rfl⟩)) | (go_at_call 69; first | (refine (calls_in (isFull_any _ _) ?_ ?_).mono ?_; omega; omega; rintro e w' ⟨rfl, rfl⟩) | (refine (calls_out (isFull_any _ _) ?_).mono ?_; omega; rintro e w' ⟨rfl, rfl⟩) | (refine (isFull_any _ _).mono ?_; rintro e w' ⟨rfl, rfl⟩)))
              all_goals
                refine (CheckPeriodR_any m d _ _).mono ?_
                rintro e w5 ⟨rfl, hb5⟩
                have hx5 := Lib.hid (hx4.out.below hb5)
                have hbw5 := Lib.hid (below_step hbw4.out hb5)
                clear hb5 k0 k1 k2
                have k0 := hx5.out.c0
                have k1 := hx5.out.c1
                have k2 := hx5.out.c2
                go_wp2_with fail
                refine (hDR.out _ (hl'.out.below hbw5.out)).mono ?_
                rintro e w6 ⟨rfl, hb6⟩
                have hbw6 := Lib.hid (below_step hbw5.out hb6)
                clear hb6 k0 k1 k2
                go_wp2_with fail
                refine (IsWorking_any _ _ l x _ (hl'.out.below hbw6.out) (hT'.out.below hbw6.out)).mono ?_
                rintro e w7 ⟨rfl, hb7⟩
                rw [hiE.out, hiB.out]
                have hbw7 := Lib.hid (below_step hbw6.out hb7)
                clear hb7
                go_wp2_with fail
                go_ret
                exact ⟨rfl, hbw7.out⟩
          · have hpz := Lib.hid hp
            have hp1 : (Cal.perE m d true != 0) = true := by simpa using hp
            have hS : Hid (Cal.dlS l day m d true = (0, Cal.perE m d true)) := by show _ = _; unfold Cal.dlS; rw [if_pos h0z.out, if_pos ⟨d0, d1⟩, if_neg hp]
            clear hp
            go_enter Tryd.func13, Tryd.ntmps13
            go_wp2_with fail
            refine (awake_any _ (hT'.out.alloc _)).mono ?_
            rintro e w1 ⟨rfl, hb1⟩
            have hx1 := Lib.hid (hnew.out.below hb1)
            have hbw := Lib.hid (below_step (below_alloc w _) hb1)
            clear hb1
            have k1 := hx1.out.c1
            have k2 := hx1.out.c2
            go_wp2_with fail
            refine (Calendar_any _ _ l _ (hl'.out.below hbw.out)).mono ?_
            rintro e w' ⟨⟨b, rfl, _⟩, rfl⟩
            cases b
            · go_wp2
              go_ret
              exact ⟨rfl, hbw.out⟩
            have k0 := hx1.out.c0
            go_wp2_with fail
            refine (Deadline_any _ _ l day m d _ _ (hl'.out.below hbw.out) (hT'.out.below hbw.out)).mono ?_
            rintro e w2 ⟨rfl, hb2⟩
            rw [hS.out]
            have hx2 := Lib.hid (hx1.out.below hb2)
            have hbw2 := Lib.hid (below_step hbw.out hb2)
            clear hb2 k0 k1 k2
            have k0 := hx2.out.c0
            have k1 := hx2.out.c1
            have k2 := hx2.out.c2
            go_wp2_with fail
            go_region_held3 (fun w' => w'.cell? ⟨w.heap.size, 0, none⟩ = some (.int .i64 m) ∧ w'.cell? ⟨w.heap.size, 1, none⟩ = some (.int .i64 d) ∧ w'.cell? ⟨w.heap.size, 2, none⟩ = some (.bool true)) (first | exact hx2.out.all | exact hxa.all | exact hxb.all | exact hxF.all | fail) (first
              | (go_at_call 61; refine (CheckPeriod_any m d _ _).mono ?_; rintro e wa ⟨rfl, hba⟩; first | (have hxF := hxb.below hba; have hbwF := below_step hbwb hba) | (have hxa := hx2.out.below (below_of_drewN (n := 1) hba); have hbwa := below_step hbw2.out (below_of_drewN (n := 1) hba)))
              | (go_at_call 62; refine (CheckPeriodR_any m d _ _).mono ?_; rintro e wb ⟨rfl, hbb⟩; first | (have hxF := hxa.below hbb; have hbwF := below_step hbwa hbb) | (have hxb := hx2.out.below (below_of_drewN (n := 1) hbb); have hbwb := below_step hbw2.out (below_of_drewN (n := 1) hbb)))
              | fail)
            all_goals
              have hx3 := Lib.hid hxF
              have hbw3 := Lib.hid hbwF
              clear hxF hbwF k0 k1 k2
              try clear hxa hbwa
              try clear hxb hbwb
              go_wp2_with fail
              refine (CheckHolidaysR_any _ _ l _ (hl'.out.below hbw3.out)).mono ?_
              rintro e w4 ⟨rfl, hb4⟩
              have hx4 := Lib.hid (hx3.out.below hb4)
              have hbw4 := Lib.hid (below_step hbw3.out hb4)
              clear hb4
              have k0 := hx4.out.c0
              have k1 := hx4.out.c1
              have k2 := hx4.out.c2
              go_wp2_with (first | (go_at_call 78; first | (refine (calls_in (within_any _ _ _ _) ?_ ?_).mono ?_; omega; omega; rintro e w' ⟨rfl, rfl⟩) | (refine (calls_out (within_any _ _ _ _) ?_).mono ?_; omega; rintro e w' ⟨rfl, rfl⟩) | (refine (within_any _ _ _ _).mono ?_; rintro e w' ⟨rfl, rfl⟩)) | (go_at_call 29; first | (refine (calls_in (Within_any _ _ _ _) ?_ ?_).mono ?_; omega; omega; rintro e w' ⟨rfl, rfl⟩) | (refine (calls_out (Within_any _ _ _ _) ?_).mono ?_; omega; rintro e w' ⟨rfl, rfl⟩) | (refine (Within_any _ _ _ _).mono ?_; rintro e w' ⟨rfl, rfl⟩)) | (go_at_call 75; first | (refine (calls_in (isDay_any _ _) ?_ ?_).mono ?_; omega; omega; rintro e w' ⟨rfl, rfl⟩) | (refine (calls_out (isDay_any _ _) ?_).mono ?_; omega; rintro e w' ⟨rfl, rfl⟩) | (refine (isDay_any _ _).mono ?_; rintro e w' ⟨rfl, rfl⟩)) | (go_at_call 32; first | (refine (calls_in (IsDay_any _ _) ?_ ?_).mono ?_; omega; omega; rintro e w' ⟨rfl, rfl⟩) | (refine (calls_out (IsDay_any _ _) ?_).mono ?_; omega; rintro e w' ⟨rfl, rfl⟩) | (refine (IsDay_any _ _).mono ?_; rintro e w' ⟨rfl, rfl⟩)) | (go_at_call 46; first | (refine (calls_in (IsYear_any _ _) ?_ ?_).mono ?_; omega; omega; rintro e w' ⟨rfl, rfl⟩) | (refine (calls_out (IsYear_any _ _) ?_).mono ?_; omega; rintro e w' ⟨rfl, rfl⟩) | (refine (IsYear_any _ _).mono ?_; rintro e w' ⟨rfl, rfl⟩)) | (go_at_call 25; first | (refine (calls_in (IsFull_any _ _) ?_ ?_).mono ?_; omega; omega; rintro e w' ⟨rfl, rfl⟩) | (refine (calls_out (IsFull_any _ _) ?_).mono ?_; omega; rintro e w' ⟨rfl, rfl⟩) | (refine (IsFull_any _ _).mono ?_; rintro e w' ⟨rfl, rfl⟩)) | (go_at_call 69; first | (refine (calls_in (isFull_any _ _) ?_ ?_).mono ?_; omega; omega; rintro e w' ⟨rfl, rfl⟩) | (refine (calls_out (isFull_any _ _) ?_).mono ?_; omega; rintro e w' ⟨rfl, rfl⟩) | (refine (isFull_any _ _).mono ?_; rintro e w' ⟨rfl, rfl⟩)))
            all_goals
              refine (CheckPeriodR_any m d _ _).mono ?_
              rintro e w5 ⟨rfl, hb5⟩
              have hx5 := Lib.hid (hx4.out.below hb5)
              have hbw5 := Lib.hid (below_step hbw4.out hb5)
              clear hb5 k0 k1 k2
              have k0 := hx5.out.c0
              have k1 := hx5.out.c1
              have k2 := hx5.out.c2
              go_wp2_with fail
              go_ret
              exact ⟨rfl, hbw5.out⟩
        · have hd' : day < 0 ∨ 200000 < day := by omega
          have hS : Hid (Cal.dlS l day m d true = (0, 2)) := by show _ = _; unfold Cal.dlS; rw [if_pos h0z.out, if_neg hd]
          clear hd
          go_enter Tryd.func13, Tryd.ntmps13
          go_wp2_with fail
          refine (awake_any _ (hT'.out.alloc _)).mono ?_
          rintro e w1 ⟨rfl, hb1⟩
          have hx1 := Lib.hid (hnew.out.below hb1)
          have hbw := Lib.hid (below_step (below_alloc w _) hb1)
          clear hb1
          have k1 := hx1.out.c1
          have k2 := hx1.out.c2
          go_wp2_with fail
          refine (Calendar_any _ _ l _ (hl'.out.below hbw.out)).mono ?_
          rintro e w' ⟨⟨b, rfl, _⟩, rfl⟩
          cases b
          · go_wp2
            go_ret
            exact ⟨rfl, hbw.out⟩
          have k0 := hx1.out.c0
          go_wp2_with fail
          refine (Deadline_any _ _ l day m d _ _ (hl'.out.below hbw.out) (hT'.out.below hbw.out)).mono ?_
          rintro e w2 ⟨rfl, hb2⟩
          rw [hS.out]
          have hx2 := Lib.hid (hx1.out.below hb2)
          have hbw2 := Lib.hid (below_step hbw.out hb2)
          clear hb2 k0 k1 k2
          have k0 := hx2.out.c0
          have k1 := hx2.out.c1
          have k2 := hx2.out.c2
          go_wp2_with fail
          go_region_held3 (fun w' => w'.cell? ⟨w.heap.size, 0, none⟩ = some (.int .i64 m) ∧ w'.cell? ⟨w.heap.size, 1, none⟩ = some (.int .i64 d) ∧ w'.cell? ⟨w.heap.size, 2, none⟩ = some (.bool true)) (first | exact hx2.out.all | exact hxa.all | exact hxb.all | exact hxF.all | fail) (first
            | (go_at_call 61; refine (CheckPeriod_any m d _ _).mono ?_; rintro e wa ⟨rfl, hba⟩; first | (have hxF := hxb.below hba; have hbwF := below_step hbwb hba) | (have hxa := hx2.out.below (below_of_drewN (n := 1) hba); have hbwa := below_step hbw2.out (below_of_drewN (n := 1) hba)))
            | (go_at_call 62; refine (CheckPeriodR_any m d _ _).mono ?_; rintro e wb ⟨rfl, hbb⟩; first | (have hxF := hxa.below hbb; have hbwF := below_step hbwa hbb) | (have hxb := hx2.out.below (below_of_drewN (n := 1) hbb); have hbwb := below_step hbw2.out (below_of_drewN (n := 1) hbb)))
            | fail)
          all_goals
            have hx3 := Lib.hid hxF
            have hbw3 := Lib.hid hbwF
            clear hxF hbwF k0 k1 k2
            try clear hxa hbwa
            try clear hxb hbwb
            go_wp2_with fail
            refine (CheckHolidaysR_any _ _ l _ (hl'.out.below hbw3.out)).mono ?_
            rintro e w4 ⟨rfl, hb4⟩
            have hx4 := Lib.hid (hx3.out.below hb4)
            have hbw4 := Lib.hid (below_step hbw3.out hb4)
            clear hb4
            have k0 := hx4.out.c0
            have k1 := hx4.out.c1
            have k2 := hx4.out.c2
            go_wp2_with (first | (go_at_call 78; first | (refine (calls_in (within_any _ _ _ _) ?_ ?_).mono ?_; omega; omega; rintro e w' ⟨rfl, rfl⟩) | (refine (calls_out (within_any _ _ _ _) ?_).mono ?_; omega; rintro e w' ⟨rfl, rfl⟩) | (refine (within_any _ _ _ _).mono ?_; rintro e w' ⟨rfl, rfl⟩)) | (go_at_call 29; first | (refine (calls_in (Within_any _ _ _ _) ?_ ?_).mono ?_; omega; omega; rintro e w' ⟨rfl, rfl⟩) | (refine (calls_out (Within_any _ _ _ _) ?_).mono ?_; omega; rintro e w' ⟨rfl, rfl⟩) | (refine (Within_any _ _ _ _).mono ?_; rintro e w' ⟨rfl, rfl⟩)) | (go_at_call 75; first | (refine (calls_in (isDay_any _ _) ?_ ?_).mono ?_; omega; omega; rintro e w' ⟨rfl, rfl⟩) | (refine (calls_out (isDay_any _ _) ?_).mono ?_; omega; rintro e w' ⟨rfl, rfl⟩) | (refine (isDay_any _ _).mono ?_; rintro e w' ⟨rfl, rfl⟩)) | (go_at_call 32; first | (refine (calls_in (IsDay_any _ _) ?_ ?_).mono ?_; omega; omega; rintro e w' ⟨rfl, rfl⟩) | (refine (calls_out (IsDay_any _ _) ?_).mono ?_; omega; rintro e w' ⟨rfl, rfl⟩) | (refine (IsDay_any _ _).mono ?_; rintro e w' ⟨rfl, rfl⟩)) | (go_at_call 46; first | (refine (calls_in (IsYear_any _ _) ?_ ?_).mono ?_; omega; omega; rintro e w' ⟨rfl, rfl⟩) | (refine (calls_out (IsYear_any _ _) ?_).mono ?_; omega; rintro e w' ⟨rfl, rfl⟩) | (refine (IsYear_any _ _).mono ?_; rintro e w' ⟨rfl, rfl⟩)) | (go_at_call 25; first | (refine (calls_in (IsFull_any _ _) ?_ ?_).mono ?_; omega; omega; rintro e w' ⟨rfl, rfl⟩) | (refine (calls_out (IsFull_any _ _) ?_).mono ?_; omega; rintro e w' ⟨rfl, rfl⟩) | (refine (IsFull_any _ _).mono ?_; rintro e w' ⟨rfl, rfl⟩)) | (go_at_call 69; first | (refine (calls_in (isFull_any _ _) ?_ ?_).mono ?_; omega; omega; rintro e w' ⟨rfl, rfl⟩) | (refine (calls_out (isFull_any _ _) ?_).mono ?_; omega; rintro e w' ⟨rfl, rfl⟩) | (refine (isFull_any _ _).mono ?_; rintro e w' ⟨rfl, rfl⟩)))
          all_goals
            go_ret
            exact ⟨rfl, hbw4.out⟩
      · have h0z := Lib.hid h0
        have h1 : (Cal.holsErr l == 0) = false := by simpa using h0
        have h1' : (Cal.holsErr l != 0) = true := by simpa using h0
        have hS : Hid (Cal.dlS l day m d true = (0, Cal.holsErr l)) := by show _ = _; unfold Cal.dlS; rw [if_neg h0]
        clear h0
        go_enter Tryd.func13, Tryd.ntmps13
        go_wp2_with fail
        refine (awake_any _ (hT'.out.alloc _)).mono ?_
        rintro e w1 ⟨rfl, hb1⟩
        have hx1 := Lib.hid (hnew.out.below hb1)
        have hbw := Lib.hid (below_step (below_alloc w _) hb1)
        clear hb1
        have k1 := hx1.out.c1
        have k2 := hx1.out.c2
        go_wp2_with fail
        refine (Calendar_any _ _ l _ (hl'.out.below hbw.out)).mono ?_
        rintro e w' ⟨⟨b, rfl, _⟩, rfl⟩
        cases b
        · go_wp2
          go_ret
          exact ⟨rfl, hbw.out⟩
        have k0 := hx1.out.c0
        go_wp2_with fail
        refine (Deadline_any _ _ l day m d _ _ (hl'.out.below hbw.out) (hT'.out.below hbw.out)).mono ?_
        rintro e w2 ⟨rfl, hb2⟩
        rw [hS.out]
        have hx2 := Lib.hid (hx1.out.below hb2)
        have hbw2 := Lib.hid (below_step hbw.out hb2)
        clear hb2 k0 k1 k2
        have k0 := hx2.out.c0
        have k1 := hx2.out.c1
        have k2 := hx2.out.c2
        go_wp2_with fail
        go_region_held3 (fun w' => w'.cell? ⟨w.heap.size, 0, none⟩ = some (.int .i64 m) ∧ w'.cell? ⟨w.heap.size, 1, none⟩ = some (.int .i64 d) ∧ w'.cell? ⟨w.heap.size, 2, none⟩ = some (.bool true)) (first | exact hx2.out.all | exact hxa.all | exact hxb.all | exact hxF.all | fail) (first
          | (go_at_call 61; refine (CheckPeriod_any m d _ _).mono ?_; rintro e wa ⟨rfl, hba⟩; first | (have hxF := hxb.below hba; have hbwF := below_step hbwb hba) | (have hxa := hx2.out.below (below_of_drewN (n := 1) hba); have hbwa := below_step hbw2.out (below_of_drewN (n := 1) hba)))
          | (go_at_call 62; refine (CheckPeriodR_any m d _ _).mono ?_; rintro e wb ⟨rfl, hbb⟩; first | (have hxF := hxa.below hbb; have hbwF := below_step hbwa hbb) | (have hxb := hx2.out.below (below_of_drewN (n := 1) hbb); have hbwb := below_step hbw2.out (below_of_drewN (n := 1) hbb)))
          | fail)
        all_goals
          have hx3 := Lib.hid hxF
          have hbw3 := Lib.hid hbwF
          clear hxF hbwF k0 k1 k2
          try clear hxa hbwa
          try clear hxb hbwb
          go_wp2_with fail
          refine (CheckHolidaysR_any _ _ l _ (hl'.out.below hbw3.out)).mono ?_
          rintro e w4 ⟨rfl, hb4⟩
          have hx4 := Lib.hid (hx3.out.below hb4)
          have hbw4 := Lib.hid (below_step hbw3.out hb4)
          clear hb4
          have k0 := hx4.out.c0
          have k1 := hx4.out.c1
          have k2 := hx4.out.c2
          go_wp2_with (first | (go_at_call 78; first | (refine (calls_in (within_any _ _ _ _) ?_ ?_).mono ?_; omega; omega; rintro e w' ⟨rfl, rfl⟩) | (refine (calls_out (within_any _ _ _ _) ?_).mono ?_; omega; rintro e w' ⟨rfl, rfl⟩) | (refine (within_any _ _ _ _).mono ?_; rintro e w' ⟨rfl, rfl⟩)) | (go_at_call 29; first | (refine (calls_in (Within_any _ _ _ _) ?_ ?_).mono ?_; omega; omega; rintro e w' ⟨rfl, rfl⟩) | (refine (calls_out (Within_any _ _ _ _) ?_).mono ?_; omega; rintro e w' ⟨rfl, rfl⟩) | (refine (Within_any _ _ _ _).mono ?_; rintro e w' ⟨rfl, rfl⟩)) | (go_at_call 75; first | (refine (calls_in (isDay_any _ _) ?_ ?_).mono ?_; omega; omega; rintro e w' ⟨rfl, rfl⟩) | (refine (calls_out (isDay_any _ _) ?_).mono ?_; omega; rintro e w' ⟨rfl, rfl⟩) | (refine (isDay_any _ _).mono ?_; rintro e w' ⟨rfl, rfl⟩)) | (go_at_call 32; first | (refine (calls_in (IsDay_any _ _) ?_ ?_).mono ?_; omega; omega; rintro e w' ⟨rfl, rfl⟩) | (refine (calls_out (IsDay_any _ _) ?_).mono ?_; omega; rintro e w' ⟨rfl, rfl⟩) | (refine (IsDay_any _ _).mono ?_; rintro e w' ⟨rfl, rfl⟩)) | (go_at_call 46; first | (refine (calls_in (IsYear_any _ _) ?_ ?_).mono ?_; omega; omega; rintro e w' ⟨rfl, rfl⟩) | (refine (calls_out (IsYear_any _ _) ?_).mono ?_; omega; rintro e w' ⟨rfl, rfl⟩) | (refine (IsYear_any _ _).mono ?_; rintro e w' ⟨rfl, rfl⟩)) | (go_at_call 25; first | (refine (calls_in (IsFull_any _ _) ?_ ?_).mono ?_; omega; omega; rintro e w' ⟨rfl, rfl⟩) | (refine (calls_out (IsFull_any _ _) ?_).mono ?_; omega; rintro e w' ⟨rfl, rfl⟩) | (refine (IsFull_any _ _).mono ?_; rintro e w' ⟨rfl, rfl⟩)) | (go_at_call 69; first | (refine (calls_in (isFull_any _ _) ?_ ?_).mono ?_; omega; omega; rintro e w' ⟨rfl, rfl⟩) | (refine (calls_out (isFull_any _ _) ?_).mono ?_; omega; rintro e w' ⟨rfl, rfl⟩) | (refine (isFull_any _ _).mono ?_; rintro e w' ⟨rfl, rfl⟩)))
        all_goals
          go_ret
          exact ⟨rfl, hbw4.out⟩
set_option maxRecDepth 100000 in
set_option maxHeartbeats 8000000 in
theorem RuleDeadlines_f (A : Option Addr) (c : Nat) (l : List Hol) (day m d : Int) (w : World) (hl : Hols w A l) (hT : Tab w) :
    Calls Tryd.prog 13 #[.slice A l.length c, .int .i64 day, .agg #[.int .i64 m, .int .i64 d, .bool false]] w fun e w' => e = .returned (.bool true) ∧ Below w.heap.size w w' := by
  have hl' := Lib.hid hl
  have hT' := Lib.hid hT
  have hnew := Lib.hid (PerAt.new w m d false 87)
  clear hl hT
  by_cases h0 : Cal.holsErr l = 0
  · have h0z := Lib.hid h0
    have h1 : (Cal.holsErr l == 0) = true := by simpa using h0
    have h1' : (Cal.holsErr l != 0) = false := by simpa using h0
    obtain ⟨hok, hlen⟩ := Cal.holsErr_ok h0
    clear h0
    by_cases hd : 0 ≤ day ∧ day ≤ 200000
    · obtain ⟨d0, d1⟩ := hd
      by_cases hp : Cal.perE m d false = 0
      · have hpz := Lib.hid hp
        have hp1 : (Cal.perE m d false != 0) = false := by simpa using hp
        have hDR := fun w1 hl => DeadlineR_any A c l hok day m d false hp d0 d1 w1 hl
        unfold DlPostR at hDR
        clear hp
        cases hr : Cal.dlFrom l day m d false with
        | none =>
          have hS : Hid (Cal.dlS l day m d false = (0, 2)) := by show _ = _; unfold Cal.dlS; rw [if_pos h0z.out, if_pos ⟨d0, d1⟩, if_pos hpz.out, hr]
          rw [hr] at hDR
          unfold Cal.addV at hDR
          have hDR := Lib.hid hDR
          clear hr
          go_enter Tryd.func13, Tryd.ntmps13
          go_wp2_with fail
          refine (awake_any _ (hT'.out.alloc _)).mono ?_
          rintro e w1 ⟨rfl, hb1⟩
          have hx1 := Lib.hid (hnew.out.below hb1)
          have hbw := Lib.hid (below_step (below_alloc w _) hb1)
          clear hb1
          have k1 := hx1.out.c1
          have k2 := hx1.out.c2
          go_wp2_with fail
          refine (Calendar_any _ _ l _ (hl'.out.below hbw.out)).mono ?_
          rintro e w' ⟨⟨b, rfl, _⟩, rfl⟩
          cases b
          · go_wp2
            go_ret
            exact ⟨rfl, hbw.out⟩
          have k0 := hx1.out.c0
          go_wp2_with fail
          refine (Deadline_any _ _ l day m d _ _ (hl'.out.below hbw.out) (hT'.out.below hbw.out)).mono ?_
          rintro e w2 ⟨rfl, hb2⟩
          rw [hS.out]
          have hx2 := Lib.hid (hx1.out.below hb2)
          have hbw2 := Lib.hid (below_step hbw.out hb2)
          clear hb2 k0 k1 k2
          have k0 := hx2.out.c0
          have k1 := hx2.out.c1
          have k2 := hx2.out.c2
          go_wp2_with fail
          go_region_held3 (fun w' => w'.cell? ⟨w.heap.size, 0, none⟩ = some (.int .i64 m) ∧ w'.cell? ⟨w.heap.size, 1, none⟩ = some (.int .i64 d) ∧ w'.cell? ⟨w.heap.size, 2, none⟩ = some (.bool false)) (first | exact hx2.out.all | exact hxa.all | exact hxb.all | exact hxF.all | fail) (first
            | (go_at_call 61; refine (CheckPeriod_any m d _ _).mono ?_; rintro e wa ⟨rfl, hba⟩; first | (have hxF := hxb.below hba; have hbwF := below_step hbwb hba) | (have hxa := hx2.out.below (below_of_drewN (n := 1) hba); have hbwa := below_step hbw2.out (below_of_drewN (n := 1) hba)))
            | (go_at_call 62; refine (CheckPeriodR_any m d _ _).mono ?_; rintro e wb ⟨rfl, hbb⟩; first | (have hxF := hxa.below hbb; have hbwF := below_step hbwa hbb) | (have hxb := hx2.out.below (below_of_drewN (n := 1) hbb); have hbwb := below_step hbw2.out (below_of_drewN (n := 1) hbb)))
            | fail)
          all_goals
            have hx3 := Lib.hid hxF
            have hbw3 := Lib.hid hbwF
            clear hxF hbwF k0 k1 k2
            try clear hxa hbwa
            try clear hxb hbwb
            go_wp2_with fail
            refine (CheckHolidaysR_any _ _ l _ (hl'.out.below hbw3.out)).mono ?_
            rintro e w4 ⟨rfl, hb4⟩
            have hx4 := Lib.hid (hx3.out.below hb4)
            have hbw4 := Lib.hid (below_step hbw3.out hb4)
            clear hb4
            have k0 := hx4.out.c0
            have k1 := hx4.out.c1
            have k2 := hx4.out.c2
            go_wp2_with (first | (go_at_call 78; first | (refine (calls_in (within_any _ _ _ _) ?_ ?_).mono ?_; omega; omega; rintro e w' ⟨rfl, rfl⟩) | (refine (calls_out (within_any _ _ _ _) ?_).mono ?_; omega; rintro e w' ⟨rfl, rfl⟩) | (refine (within_any _ _ _ _).mono ?_; rintro e w' ⟨rfl, rfl⟩)) | (go_at_call 29; first | (refine (calls_in (Within_any _ _ _ _) ?_ ?_).mono ?_; omega; omega; rintro e w' ⟨rfl, rfl⟩) | (refine (calls_out (Within_any _ _ _ _) ?_).mono ?_; omega; rintro e w' ⟨rfl, rfl⟩) | (refine (Within_any _ _ _ _).mono ?_; rintro e w' ⟨rfl, rfl⟩)) | (go_at_call 75; first | (refine (calls_in (isDay_any _ _) ?_ ?_).mono ?_; omega; omega; rintro e w' ⟨rfl, rfl⟩) | (refine (calls_out (isDay_any _ _) ?_).mono ?_; omega; rintro e w' ⟨rfl, rfl⟩) | (refine (isDay_any _ _).mono ?_; rintro e w' ⟨rfl, rfl⟩)) | (go_at_call 32; first | (refine (calls_in (IsDay_any _ _) ?_ ?_).mono ?_; omega; omega; rintro e w' ⟨rfl, rfl⟩) | (refine (calls_out (IsDay_any _ _) ?_).mono ?_; omega; rintro e w' ⟨rfl, rfl⟩) | (refine (IsDay_any _ _).mono ?_; rintro e w' ⟨rfl, rfl⟩)) | (go_at_call 46; first | (refine (calls_in (IsYear_any _ _) ?_ ?_).mono ?_; omega; omega; rintro e w' ⟨rfl, rfl⟩) | (refine (calls_out (IsYear_any _ _) ?_).mono ?_; omega; rintro e w' ⟨rfl, rfl⟩) | (refine (IsYear_any _ _).mono ?_; rintro e w' ⟨rfl, rfl⟩)) | (go_at_call 25; first | (refine (calls_in (IsFull_any _ _) ?_ ?_).mono ?_; omega; omega; rintro e w' ⟨rfl, rfl⟩) | (refine (calls_out (IsFull_any _ _) ?_).mono ?_; omega; rintro e w' ⟨rfl, rfl⟩) | (refine (IsFull_any _ _).mono ?_; rintro e w' ⟨rfl, rfl⟩)) | (go_at_call 69; first | (refine (calls_in (isFull_any _ _) ?_ ?_).mono ?_; omega; omega; rintro e w' ⟨rfl, rfl⟩) | (refine (calls_out (isFull_any _ _) ?_).mono ?_; omega; rintro e w' ⟨rfl, rfl⟩) | (refine (isFull_any _ _).mono ?_; rintro e w' ⟨rfl, rfl⟩)))
          all_goals
            refine (CheckPeriodR_any m d _ _).mono ?_
            rintro e w5 ⟨rfl, hb5⟩
            have hx5 := Lib.hid (hx4.out.below hb5)
            have hbw5 := Lib.hid (below_step hbw4.out hb5)
            clear hb5 k0 k1 k2
            have k0 := hx5.out.c0
            have k1 := hx5.out.c1
            have k2 := hx5.out.c2
            go_wp2_with fail
            refine (hDR.out _ (hl'.out.below hbw5.out)).mono ?_
            rintro e w6 ⟨rfl, hb6⟩
            have hbw6 := Lib.hid (below_step hbw5.out hb6)
            clear hb6 k0 k1 k2
            go_wp2_with fail
            go_ret
            exact ⟨rfl, hbw6.out⟩
        | some x =>
          have hS : Hid (Cal.dlS l day m d false = (x, 0)) := by show _ = _; unfold Cal.dlS; rw [if_pos h0z.out, if_pos ⟨d0, d1⟩, if_pos hpz.out, hr]
          obtain ⟨x0, x1, hw⟩ := Cal.dlFrom_some hr
          have hiE : Hid (Cal.isWorkE l x = 0) := by show _ = _; unfold Cal.isWorkE; rw [if_pos h0z.out, if_pos ⟨x0, x1⟩]
          have hiB : Hid (Cal.isWorkB l x = true) := by show _ = _; unfold Cal.isWorkB; rw [if_pos hiE.out, ← Cal.workB_eq hok x0 x1, hw]
          rw [hr] at hDR
          unfold Cal.addV at hDR
          have hDR := Lib.hid hDR
          clear hr hw
          go_enter Tryd.func13, Tryd.ntmps13
          go_wp2_with fail
          refine (awake_any _ (hT'.out.alloc _)).mono ?_
          rintro e w1 ⟨rfl, hb1⟩
          have hx1 := Lib.hid (hnew.out.below hb1)
          have hbw := Lib.hid (below_step (below_alloc w _) hb1)
          clear hb1
          have k1 := hx1.out.c1
          have k2 := hx1.out.c2
          go_wp2_with fail
          refine (Calendar_any _ _ l _ (hl'.out.below hbw.out)).mono ?_
          rintro e w' ⟨⟨b, rfl, _⟩, rfl⟩
          cases b
          · go_wp2
            go_ret
            exact ⟨rfl, hbw.out⟩
          have k0 := hx1.out.c0
          go_wp2_with fail
          refine (Deadline_any _ _ l day m d _ _ (hl'.out.below hbw.out) (hT'.out.below hbw.out)).mono ?_
          rintro e w2 ⟨rfl, hb2⟩
          rw [hS.out]
          have hx2 := Lib.hid (hx1.out.below hb2)
          have hbw2 := Lib.hid (below_step hbw.out hb2)
          clear hb2 k0 k1 k2
          have k0 := hx2.out.c0
          have k1 := hx2.out.c1
          have k2 := hx2.out.c2
          go_wp2_with fail
          go_region_held3 (fun w' => w'.cell? ⟨w.heap.size, 0, none⟩ = some (.int .i64 m) ∧ w'.cell? ⟨w.heap.size, 1, none⟩ = some (.int .i64 d) ∧ w'.cell? ⟨w.heap.size, 2, none⟩ = some (.bool false)) (first | exact hx2.out.all | exact hxa.all | exact hxb.all | exact hxF.all | fail) (first
            | (go_at_call 61; refine (CheckPeriod_any m d _ _).mono ?_; rintro e wa ⟨rfl, hba⟩; first | (have hxF := hxb.below hba; have hbwF := below_step hbwb hba) | (have hxa := hx2.out.below (below_of_drewN (n := 1) hba); have hbwa := below_step hbw2.out (below_of_drewN (n := 1) hba)))
            | (go_at_call 62; refine (CheckPeriodR_any m d _ _).mono ?_; rintro e wb ⟨rfl, hbb⟩; first | (have hxF := hxa.below hbb; have hbwF := below_step hbwa hbb) | (have hxb := hx2.out.below (below_of_drewN (n := 1) hbb); have hbwb := below_step hbw2.out (below_of_drewN (n := 1) hbb)))
            | fail)
          all_goals
            have hx3 := Lib.hid hxF
            have hbw3 := Lib.hid hbwF
            clear hxF hbwF k0 k1 k2
            try clear hxa hbwa
            try clear hxb hbwb
            go_wp2_with fail
            refine (CheckHolidaysR_any _ _ l _ (hl'.out.below hbw3.out)).mono ?_
            rintro e w4 ⟨rfl, hb4⟩
            have hx4 := Lib.hid (hx3.out.below hb4)
            have hbw4 := Lib.hid (below_step hbw3.out hb4)
            clear hb4
            have k0 := hx4.out.c0
            have k1 := hx4.out.c1
            have k2 := hx4.out.c2
            go_wp2_with (first | (go_at_call 78; first | (refine (calls_in (within_any _ _ _ _) ?_ ?_).mono ?_; omega; omega; rintro e w' ⟨rfl, rfl⟩) | (refine (calls_out (within_any _ _ _ _) ?_).mono ?_; omega; rintro e w' ⟨rfl, rfl⟩) | (refine (within_any _ _ _ _).mono ?_; rintro e w' ⟨rfl, rfl⟩)) | (go_at_call 29; first | (refine (calls_in (Within_any _ _ _ _) ?_ ?_).mono ?_; omega; omega; rintro e w' ⟨rfl, rfl⟩) | (refine (calls_out (Within_any _ _ _ _) ?_).mono ?_; omega; rintro e w' ⟨rfl, rfl⟩) | (refine (Within_any _ _ _ _).mono ?_; rintro e w' ⟨rfl, rfl⟩)) | (go_at_call 75; first | (refine (calls_in (isDay_any _ _) ?_ ?_).mono ?_; omega; omega; rintro e w' ⟨rfl, rfl⟩) | (refine (calls_out (isDay_any _ _) ?_).mono ?_; omega; rintro e w' ⟨rfl, rfl⟩) | (refine (isDay_any _ _).mono ?_; rintro e w' ⟨rfl, rfl⟩)) | (go_at_call 32; first | (refine (calls_in (IsDay_any _ _) ?_ ?_).mono ?_; omega; omega; rintro e w' ⟨rfl, rfl⟩) | (refine (calls_out (IsDay_any _ _) ?_).mono ?_; omega; rintro e w' ⟨rfl, rfl⟩) | (refine (IsDay_any _ _).mono ?_; rintro e w' ⟨rfl, rfl⟩)) | (go_at_call 46; first | (refine (calls_in (IsYear_any _ _) ?_ ?_).mono ?_; omega; omega; rintro e w' ⟨rfl, rfl⟩) | (refine (calls_out (IsYear_any _ _) ?_).mono ?_; omega; rintro e w' ⟨rfl, rfl⟩) | (refine (IsYear_any _ _).mono ?_; rintro e w' ⟨rfl, rfl⟩)) | (go_at_call 25; first | (refine (calls_in (IsFull_any _ _) ?_ ?_).mono ?_; omega; omega; rintro e w' ⟨rfl, rfl⟩) | (refine (calls_out (IsFull_any _ _) ?_).mono ?_; omega; rintro e w' ⟨rfl, rfl⟩) | (refine (IsFull_any _ _).mono ?_; rintro e w' ⟨rfl, rfl⟩)) | (go_at_call 69; first | (refine (calls_in (isFull_any _ _) ?_ ?_).mono ?_; omega; omega; rintro e w' ⟨rfl, rfl⟩) | (refine (calls_out (isFull_any _ _) ?_).mono ?_; omega; rintro e w' ⟨rfl, rfl⟩) | (refine (isFull_any _ _).mono ?_; rintro e w' ⟨rfl, rfl⟩)))
          all_goals
            refine (CheckPeriodR_any m d _ _).mono ?_
            rintro e w5 ⟨rfl, hb5⟩
            have hx5 := Lib.hid (hx4.out.below hb5)
            have hbw5 := Lib.hid (below_step hbw4.out hb5)
            clear hb5 k0 k1 k2
            have k0 := hx5.out.c0
            have k1 := hx5.out.c1
            have k2 := hx5.out.c2
            go_wp2_with fail
            refine (hDR.out _ (hl'.out.below hbw5.out)).mono ?_
            rintro e w6 ⟨rfl, hb6⟩
            have hbw6 := Lib.hid (below_step hbw5.out hb6)
            clear hb6 k0 k1 k2
            go_wp2_with fail
            refine (IsWorking_any _ _ l x _ (hl'.out.below hbw6.out) (hT'.out.below hbw6.out)).mono ?_
            rintro e w7 ⟨rfl, hb7⟩
            rw [hiE.out, hiB.out]
            have hbw7 := Lib.hid (below_step hbw6.out hb7)
            clear hb7
            go_wp2_with fail
            go_ret
            exact ⟨rfl, hbw7.out⟩
      · have hpz := Lib.hid hp
        have hp1 : (Cal.perE m d false != 0) = true := by simpa using hp
        have hS : Hid (Cal.dlS l day m d false = (0, Cal.perE m d false)) := by show _ = _; unfold Cal.dlS; rw [if_pos h0z.out, if_pos ⟨d0, d1⟩, if_neg hp]
        clear hp
        go_enter Tryd.func13, Tryd.ntmps13
        go_wp2_with fail
        refine (awake_any _ (hT'.out.alloc _)).mono ?_
        rintro e w1 ⟨rfl, hb1⟩
        have hx1 := Lib.hid (hnew.out.below hb1)
        have hbw := Lib.hid (below_step (below_alloc w _) hb1)
        clear hb1
        have k1 := hx1.out.c1
        have k2 := hx1.out.c2
        go_wp2_with fail
        refine (Calendar_any _ _ l _ (hl'.out.below hbw.out)).mono ?_
        rintro e w' ⟨⟨b, rfl, _⟩, rfl⟩
        cases b
        · go_wp2
          go_ret
          exact ⟨rfl, hbw.out⟩
        have k0 := hx1.out.c0
        go_wp2_with fail
        refine (Deadline_any _ _ l day m d _ _ (hl'.out.below hbw.out) (hT'.out.below hbw.out)).mono ?_
        rintro e w2 ⟨rfl, hb2⟩
        rw [hS.out]
        have hx2 := Lib.hid (hx1.out.below hb2)
        have hbw2 := Lib.hid (below_step hbw.out hb2)
        clear hb2 k0 k1 k2
        have k0 := hx2.out.c0
        have k1 := hx2.out.c1
        have k2 := hx2.out.c2
        go_wp2_with fail
        go_region_held3 (fun w' => w'.cell? ⟨w.heap.size, 0, none⟩ = some (.int .i64 m) ∧ w'.cell? ⟨w.heap.size, 1, none⟩ = some (.int .i64 d) ∧ w'.cell? ⟨w.heap.size, 2, none⟩ = some (.bool false)) (first | exact hx2.out.all | exact hxa.all | exact hxb.all | exact hxF.all | fail) (first
          | (go_at_call 61; refine (CheckPeriod_any m d _ _).mono ?_; rintro e wa ⟨rfl, hba⟩; first | (have hxF := hxb.below hba; have hbwF := below_step hbwb hba) | (have hxa := hx2.out.below (below_of_drewN (n := 1) hba); have hbwa := below_step hbw2.out (below_of_drewN (n := 1) hba)))
          | (go_at_call 62; refine (CheckPeriodR_any m d _ _).mono ?_; rintro e wb ⟨rfl, hbb⟩; first | (have hxF := hxa.below hbb; have hbwF := below_step hbwa hbb) | (have hxb := hx2.out.below (below_of_drewN (n := 1) hbb); have hbwb := below_step hbw2.out (below_of_drewN (n := 1) hbb)))
          | fail)
        all_goals
          have hx3 := Lib.hid hxF
          have hbw3 := Lib.hid hbwF
          clear hxF hbwF k0 k1 k2
          try clear hxa hbwa
          try clear hxb hbwb
          go_wp2_with fail
          refine (CheckHolidaysR_any _ _ l _ (hl'.out.below hbw3.out)).mono ?_
          rintro e w4 ⟨rfl, hb4⟩
          have hx4 := Lib.hid (hx3.out.below hb4)
          have hbw4 := Lib.hid (below_step hbw3.out hb4)
          clear hb4
          have k0 := hx4.out.c0
          have k1 := hx4.out.c1
          have k2 := hx4.out.c2
          go_wp2_with (first | (go_at_call 78; first | (refine (calls_in (within_any _ _ _ _) ?_ ?_).mono ?_; omega; omega; rintro e w' ⟨rfl, rfl⟩) | (refine (calls_out (within_any _ _ _ _) ?_).mono ?_; omega; rintro e w' ⟨rfl, rfl⟩) | (refine (within_any _ _ _ _).mono ?_; rintro e w' ⟨rfl, rfl⟩)) | (go_at_call 29; first | (refine (calls_in (Within_any _ _ _ _) ?_ ?_).mono ?_; omega; omega; rintro e w' ⟨rfl, rfl⟩) | (refine (calls_out (Within_any _ _ _ _) ?_).mono ?_; omega; rintro e w' ⟨rfl, rfl⟩) | (refine (Within_any _ _ _ _).mono ?_; rintro e w' ⟨rfl, rfl⟩)) | (go_at_call 75; first | (refine (calls_in (isDay_any _ _) ?_ ?_).mono ?_; omega; omega; rintro e w' ⟨rfl, rfl⟩) | (refine (calls_out (isDay_any _ _) ?_).mono ?_; omega; rintro e w' ⟨rfl, rfl⟩) | (refine (isDay_any _ _).mono ?_; rintro e w' ⟨rfl, rfl⟩)) | (go_at_call 32; first | (refine (calls_in (IsDay_any _ _) ?_ ?_).mono ?_; omega; omega; rintro e w' ⟨rfl, rfl⟩) | (refine (calls_out (IsDay_any _ _) ?_).mono ?_; omega; rintro e w' ⟨rfl, rfl⟩) | (refine (IsDay_any _ _).mono ?_; rintro e w' ⟨rfl, rfl⟩)) | (go_at_call 46; first | (refine (calls_in (IsYear_any _ _) ?_ ?_).mono ?_; omega; omega; rintro e w' ⟨rfl, rfl⟩) | (refine (calls_out (IsYear_any _ _) ?_).mono ?_; omega; rintro e w' ⟨rfl, rfl⟩) | (refine (IsYear_any _ _).mono ?_; rintro e w' ⟨rfl, rfl⟩)) | (go_at_call 25; first | (refine (calls_in (IsFull_any _ _) ?_ ?_).mono ?_; omega; omega; rintro e w' ⟨rfl, rfl⟩) | (refine (calls_out (IsFull_any _ _) ?_).mono ?_; omega; rintro e w' ⟨rfl, rfl⟩) | (refine (IsFull_any _ _).mono ?_; rintro e w' ⟨rfl, rfl⟩)) | (go_at_call 69; first | (refine (calls_in (isFull_any _ _) ?_ ?_).mono ?_; omega; omega; rintro e w' ⟨rfl, rfl⟩) | (refine (calls_out (isFull_any _ _) ?_).mono ?_; omega; rintro e w' ⟨rfl, rfl⟩) | (refine (isFull_any _ _).mono ?_; rintro e w' ⟨rfl, rfl⟩)))
        all_goals
          refine (CheckPeriodR_any m d _ _).mono ?_
          rintro e w5 ⟨rfl, hb5⟩
          have hx5 := Lib.hid (hx4.out.below hb5)
          have hbw5 := Lib.hid (below_step hbw4.out hb5)
          clear hb5 k0 k1 k2
          have k0 := hx5.out.c0
          have k1 := hx5.out.c1
          have k2 := hx5.out.c2
          go_wp2_with fail
          go_ret
          exact ⟨rfl, hbw5.out⟩
    · have hd' : day < 0 ∨ 200000 < day := by omega
      have hS : Hid (Cal.dlS l day m d false = (0, 2)) := by show _ = _; unfold Cal.dlS; rw [if_pos h0z.out, if_neg hd]
      clear hd
      go_enter Tryd.func13, Tryd.ntmps13
      go_wp2_with fail
      refine (awake_any _ (hT'.out.alloc _)).mono ?_
      rintro e w1 ⟨rfl, hb1⟩
      have hx1 := Lib.hid (hnew.out.below hb1)
      have hbw := Lib.hid (below_step (below_alloc w _) hb1)
      clear hb1
      have k1 := hx1.out.c1
      have k2 := hx1.out.c2
      go_wp2_with fail
      refine (Calendar_any _ _ l _ (hl'.out.below hbw.out)).mono ?_
      rintro e w' ⟨⟨b, rfl, _⟩, rfl⟩
      cases b
      · go_wp2
        go_ret
        exact ⟨rfl, hbw.out⟩
      have k0 := hx1.out.c0
      go_wp2_with fail
      refine (Deadline_any _ _ l day m d _ _ (hl'.out.below hbw.out) (hT'.out.below hbw.out)).mono ?_
      rintro e w2 ⟨rfl, hb2⟩
      rw [hS.out]
      have hx2 := Lib.hid (hx1.out.below hb2)
      have hbw2 := Lib.hid (below_step hbw.out hb2)
      clear hb2 k0 k1 k2
      have k0 := hx2.out.c0
      have k1 := hx2.out.c1
      have k2 := hx2.out.c2
      go_wp2_with fail
      go_region_held3 (fun w' => w'.cell? ⟨w.heap.size, 0, none⟩ = some (.int .i64 m) ∧ w'.cell? ⟨w.heap.size, 1, none⟩ = some (.int .i64 d) ∧ w'.cell? ⟨w.heap.size, 2, none⟩ = some (.bool false)) (first | exact hx2.out.all | exact hxa.all | exact hxb.all | exact hxF.all | fail) (first
        | (go_at_call 61; refine (CheckPeriod_any m d _ _).mono ?_; rintro e wa ⟨rfl, hba⟩; first | (have hxF := hxb.below hba; have hbwF := below_step hbwb hba) | (have hxa := hx2.out.below (below_of_drewN (n := 1) hba); have hbwa := below_step hbw2.out (below_of_drewN (n := 1) hba)))
        | (go_at_call 62; refine (CheckPeriodR_any m d _ _).mono ?_; rintro e wb ⟨rfl, hbb⟩; first | (have hxF := hxa.below hbb; have hbwF := below_step hbwa hbb) | (have hxb := hx2.out.below (below_of_drewN (n := 1) hbb); have hbwb := below_step hbw2.out (below_of_drewN (n := 1) hbb)))
        | fail)
      all_goals
        have hx3 := Lib.hid hxF
        have hbw3 := Lib.hid hbwF
        clear hxF hbwF k0 k1 k2
        try clear hxa hbwa
        try clear hxb hbwb
        go_wp2_with fail
        refine (CheckHolidaysR_any _ _ l _ (hl'.out.below hbw3.out)).mono ?_
        rintro e w4 ⟨rfl, hb4⟩
        have hx4 := Lib.hid (hx3.out.below hb4)
        have hbw4 := Lib.hid (below_step hbw3.out hb4)
        clear hb4
        have k0 := hx4.out.c0
        have k1 := hx4.out.c1
        have k2 := hx4.out.c2
        go_wp2_with (first | (go_at_call 78; first | (refine (calls_in (within_any _ _ _ _) ?_ ?_).mono ?_; omega; omega; rintro e w' ⟨rfl, rfl⟩) | (refine (calls_out (within_any _ _ _ _) ?_).mono ?_; omega; rintro e w' ⟨rfl, rfl⟩) | (refine (within_any _ _ _ _).mono ?_; rintro e w' ⟨rfl, rfl⟩)) | (go_at_call 29; first | (refine (calls_in (Within_any _ _ _ _) ?_ ?_).mono ?_; omega; omega; rintro e w' ⟨rfl, rfl⟩) | (refine (calls_out (Within_any _ _ _ _) ?_).mono ?_; omega; rintro e w' ⟨rfl, rfl⟩) | (refine (Within_any _ _ _ _).mono ?_; rintro e w' ⟨rfl, rfl⟩)) | (go_at_call 75; first | (refine (calls_in (isDay_any _ _) ?_ ?_).mono ?_; omega; omega; rintro e w' ⟨rfl, rfl⟩) | (refine (calls_out (isDay_any _ _) ?_).mono ?_; omega; rintro e w' ⟨rfl, rfl⟩) | (refine (isDay_any _ _).mono ?_; rintro e w' ⟨rfl, rfl⟩)) | (go_at_call 32; first | (refine (calls_in (IsDay_any _ _) ?_ ?_).mono ?_; omega; omega; rintro e w' ⟨rfl, rfl⟩) | (refine (calls_out (IsDay_any _ _) ?_).mono ?_; omega; rintro e w' ⟨rfl, rfl⟩) | (refine (IsDay_any _ _).mono ?_; rintro e w' ⟨rfl, rfl⟩)) | (go_at_call 46; first | (refine (calls_in (IsYear_any _ _) ?_ ?_).mono ?_; omega; omega; rintro e w' ⟨rfl, rfl⟩) | (refine (calls_out (IsYear_any _ _) ?_).mono ?_; omega; rintro e w' ⟨rfl, rfl⟩) | (refine (IsYear_any _ _).mono ?_; rintro e w' ⟨rfl, rfl⟩)) | (go_at_call 25; first | (refine (calls_in (IsFull_any _ _) ?_ ?_).mono ?_; omega; omega; rintro e w' ⟨rfl, rfl⟩) | (refine (calls_out (IsFull_any _ _) ?_).mono ?_; omega; rintro e w' ⟨rfl, rfl⟩) | (refine (IsFull_any _ _).mono ?_; rintro e w' ⟨rfl, rfl⟩)) | (go_at_call 69; first | (refine (calls_in (isFull_any _ _) ?_ ?_).mono ?_; omega; omega; rintro e w' ⟨rfl, rfl⟩) | (refine (calls_out (isFull_any _ _) ?_).mono ?_; omega; rintro e w' ⟨rfl, rfl⟩) | (refine (isFull_any _ _).mono ?_; rintro e w' ⟨rfl, rfl⟩)))
      all_goals
        go_ret
        exact ⟨rfl, hbw4.out⟩
  · have h0z := Lib.hid h0
    have h1 : (Cal.holsErr l == 0) = false := by simpa using h0
    have h1' : (Cal.holsErr l != 0) = true := by simpa using h0
    have hS : Hid (Cal.dlS l day m d false = (0, Cal.holsErr l)) := by show _ = _; unfold Cal.dlS; rw [if_neg h0]
    clear h0
    go_enter Tryd.func13, Tryd.ntmps13
    go_wp2_with fail
    refine (awake_any _ (hT'.out.alloc _)).mono ?_
    rintro e w1 ⟨rfl, hb1⟩
    have hx1 := Lib.hid (hnew.out.below hb1)
    have hbw := Lib.hid (below_step (below_alloc w _) hb1)
    clear hb1
    have k1 := hx1.out.c1
    have k2 := hx1.out.c2
    go_wp2_with fail
    refine (Calendar_any _ _ l _ (hl'.out.below hbw.out)).mono ?_
    rintro e w' ⟨⟨b, rfl, _⟩, rfl⟩
    cases b
    · go_wp2
      go_ret
      exact ⟨rfl, hbw.out⟩
    have k0 := hx1.out.c0
    go_wp2_with fail
    refine (Deadline_any _ _ l day m d _ _ (hl'.out.below hbw.out) (hT'.out.below hbw.out)).mono ?_
    rintro e w2 ⟨rfl, hb2⟩
    rw [hS.out]
    have hx2 := Lib.hid (hx1.out.below hb2)
    have hbw2 := Lib.hid (below_step hbw.out hb2)
    clear hb2 k0 k1 k2
    have k0 := hx2.out.c0
    have k1 := hx2.out.c1
    have k2 := hx2.out.c2
    go_wp2_with fail
    go_region_held3 (fun w' => w'.cell? ⟨w.heap.size, 0, none⟩ = some (.int .i64 m) ∧ w'.cell? ⟨w.heap.size, 1, none⟩ = some (.int .i64 d) ∧ w'.cell? ⟨w.heap.size, 2, none⟩ = some (.bool false)) (first | exact hx2.out.all | exact hxa.all | exact hxb.all | exact hxF.all | fail) (first
      | (go_at_call 61; refine (CheckPeriod_any m d _ _).mono ?_; rintro e wa ⟨rfl, hba⟩; first | (have hxF := hxb.below hba; have hbwF := below_step hbwb hba) | (have hxa := hx2.out.below (below_of_drewN (n := 1) hba); have hbwa := below_step hbw2.out (below_of_drewN (n := 1) hba)))
      | (go_at_call 62; refine (CheckPeriodR_any m d _ _).mono ?_; rintro e wb ⟨rfl, hbb⟩; first | (have hxF := hxa.below hbb; have hbwF := below_step hbwa hbb) | (have hxb := hx2.out.below (below_of_drewN (n := 1) hbb); have hbwb := below_step hbw2.out (below_of_drewN (n := 1) hbb)))
      | fail)
    all_goals
      have hx3 := Lib.hid hxF
      have hbw3 := Lib.hid hbwF
      clear hxF hbwF k0 k1 k2
      try clear hxa hbwa
      try clear hxb hbwb
      go_wp2_with fail
      refine (CheckHolidaysR_any _ _ l _ (hl'.out.below hbw3.out)).mono ?_
      rintro e w4 ⟨rfl, hb4⟩
      have hx4 := Lib.hid (hx3.out.below hb4)
      have hbw4 := Lib.hid (below_step hbw3.out hb4)
      clear hb4
      have k0 := hx4.out.c0
      have k1 := hx4.out.c1
      have k2 := hx4.out.c2
      go_wp2_with (first | (go_at_call 78; first | (refine (calls_in (within_any _ _ _ _) ?_ ?_).mono ?_; omega; omega; rintro e w' ⟨rfl, rfl⟩) | (refine (calls_out (within_any _ _ _ _) ?_).mono ?_; omega; rintro e w' ⟨rfl, rfl⟩) | (refine (within_any _ _ _ _).mono ?_; rintro e w' ⟨rfl, rfl⟩)) | (go_at_call 29; first | (refine (calls_in (Within_any _ _ _ _) ?_ ?_).mono ?_; omega; omega; rintro e w' ⟨rfl, rfl⟩) | (refine (calls_out (Within_any _ _ _ _) ?_).mono ?_; omega; rintro e w' ⟨rfl, rfl⟩) | (refine (Within_any _ _ _ _).mono ?_; rintro e w' ⟨rfl, rfl⟩)) | (go_at_call 75; first | (refine (calls_in (isDay_any _ _) ?_ ?_).mono ?_; omega; omega; rintro e w' ⟨rfl, rfl⟩) | (refine (calls_out (isDay_any _ _) ?_).mono ?_; omega; rintro e w' ⟨rfl, rfl⟩) | (refine (isDay_any _ _).mono ?_; rintro e w' ⟨rfl, rfl⟩)) | (go_at_call 32; first | (refine (calls_in (IsDay_any _ _) ?_ ?_).mono ?_; omega; omega; rintro e w' ⟨rfl, rfl⟩) | (refine (calls_out (IsDay_any _ _) ?_).mono ?_; omega; rintro e w' ⟨rfl, rfl⟩) | (refine (IsDay_any _ _).mono ?_; rintro e w' ⟨rfl, rfl⟩)) | (go_at_call 46; first | (refine (calls_in (IsYear_any _ _) ?_ ?_).mono ?_; omega; omega; rintro e w' ⟨rfl, rfl⟩) | (refine (calls_out (IsYear_any _ _) ?_).mono ?_; omega; rintro e w' ⟨rfl, rfl⟩) | (refine (IsYear_any _ _).mono ?_; rintro e w' ⟨rfl, rfl⟩)) | (go_at_call 25; first | (refine (calls_in (IsFull_any _ _) ?_ ?_).mono ?_; omega; omega; rintro e w' ⟨rfl, rfl⟩) | (refine (calls_out (IsFull_any _ _) ?_).mono ?_; omega; rintro e w' ⟨rfl, rfl⟩) | (refine (IsFull_any _ _).mono ?_; rintro e w' ⟨rfl, rfl⟩)) | (go_at_call 69; first | (refine (calls_in (isFull_any _ _) ?_ ?_).mono ?_; omega; omega; rintro e w' ⟨rfl, rfl⟩) | (refine (calls_out (isFull_any _ _) ?_).mono ?_; omega; rintro e w' ⟨rfl, rfl⟩) | (refine (isFull_any _ _).mono ?_; rintro e w' ⟨rfl, rfl⟩)))
    all_goals
      go_ret
      exact ⟨rfl, hbw4.out⟩
theorem RuleDeadlines_any (A : Option Addr) (c : Nat) (l : List Hol) (day m d : Int) (k : Bool) (w : World) (hl : Hols w A l) (hT : Tab w) :
    Calls Tryd.prog 13 #[.slice A l.length c, .int .i64 day, .agg #[.int .i64 m, .int .i64 d, .bool k]] w fun e w' => e = .returned (.bool true) ∧ Below w.heap.size w w' := by
  cases k
  · exact RuleDeadlines_f A c l day m d w hl hT
  · exact RuleDeadlines_t A c l day m d w hl hT
end Go.Proofs.YtoigamkldccnkaaDoor
