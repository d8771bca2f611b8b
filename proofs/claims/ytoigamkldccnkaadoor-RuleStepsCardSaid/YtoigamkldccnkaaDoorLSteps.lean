/- The walk of the statement RuleSteps. -/
import Derived.Test.YtoigamkldccnkaaDoorAwake
import Derived.Test.YtoigamkldccnkaaDoorW29
import Derived.Test.YtoigamkldccnkaaDoorCalStep
namespace Go.Proofs.YtoigamkldccnkaaDoor
open Go Go.RowKit
/-- A bool that bounds the list where it is true. -/
def CalOut8 (l : List Hol) (e : Ending) : Prop := ∃ b : Bool, e = .returned (.bool b) ∧ (b = true → l.length ≤ 8 ∨ 40 < l.length)
theorem Calendar8_any (A : Option Addr) (c : Nat) (l : List Hol) (w : World) (hl : Hols w A l) :
    Calls Tryd.prog 21 #[.slice A l.length c] w fun e w' => CalOut8 l e ∧ w = w' := by
  by_cases h1 : l.length ≤ 8 ∨ 40 < l.length
  · exact (Calendar_any A c l w hl).mono fun e w' ⟨⟨b, he, _⟩, hw⟩ => ⟨⟨b, he, fun _ => h1⟩, hw⟩
  · have hsz := hl.size
    have h2 : 8 < l.length := by omega
    have h3 : l.length ≤ 40 := by omega
    clear h1 hl
    go_enter Tryd.func21, Tryd.ntmps21
    go_wp2
    go_ret
    exact ⟨⟨false, rfl, fun h => by cases h⟩, rfl⟩
/-- A boxed Steps. -/
structure StepsAt (w : World) (B : Nat) (f t m d : Int) (k : Bool) : Prop where
  c0 : w.cell? ⟨B, 0, none⟩ = some (.int .i64 f)
  c1 : w.cell? ⟨B, 1, none⟩ = some (.int .i64 t)
  c2 : w.cell? ⟨B, 2, none⟩ = some (.int .i64 m)
  c3 : w.cell? ⟨B, 3, none⟩ = some (.int .i64 d)
  c4 : w.cell? ⟨B, 4, none⟩ = some (.bool k)
  lt : B < w.heap.size
theorem StepsAt.below {w w' : World} {B : Nat} {f t m d : Int} {k : Bool} (h : StepsAt w B f t m d k) (hb : Below w.heap.size w w') : StepsAt w' B f t m d k :=
  ⟨(hb.cell (p := ⟨B, 0, none⟩) h.lt).trans h.c0, (hb.cell (p := ⟨B, 1, none⟩) h.lt).trans h.c1, (hb.cell (p := ⟨B, 2, none⟩) h.lt).trans h.c2, (hb.cell (p := ⟨B, 3, none⟩) h.lt).trans h.c3, (hb.cell (p := ⟨B, 4, none⟩) h.lt).trans h.c4, Nat.lt_of_lt_of_le h.lt hb.size⟩
theorem StepsAt.new (w : World) (f t m d : Int) (k : Bool) (ty : TypeId) : StepsAt (w.alloc (.cells #[.int .i64 f, .int .i64 t, .int .i64 m, .int .i64 d, .bool k] ty)) w.heap.size f t m d k := ⟨by simp, by simp, by simp, by simp, by simp, by simp⟩
set_option maxRecDepth 100000 in
set_option maxHeartbeats 16000000 in
theorem RuleSteps_t (A : Option Addr) (c : Nat) (l : List Hol) (day f t m d : Int) (w : World) (hl : Hols w A l) (hT : Tab w) :
    Calls Tryd.prog 14 #[.slice A l.length c, .int .i64 day, .agg #[.int .i64 f, .int .i64 t, .int .i64 m, .int .i64 d, .bool true]] w fun e w' => e = .returned (.bool true) ∧ Below w.heap.size w w' := by
  have hl' := Lib.hid hl
  have hT' := Lib.hid hT
  have hnew := Lib.hid (StepsAt.new w f t m d true 94)
  have hHC : Hid (Cal.holsErr l = 0 → HolCalls A c l) := fun h => by
    obtain ⟨hok, hlen⟩ := Cal.holsErr_ok h
    exact holidaysOf_any A c l hok (by omega)
  clear hl hT
  by_cases h0 : Cal.holsErr l = 0
  · have h0z := Lib.hid h0
    have h1' : (Cal.holsErr l != 0) = false := by simpa using h0
    obtain ⟨hok, hlen⟩ := Cal.holsErr_ok h0
    clear h0
    by_cases hd : 0 ≤ day ∧ day ≤ 196000
    · obtain ⟨d0, d1⟩ := hd
      by_cases hf : 1 ≤ f ∧ f ≤ 40
      · obtain ⟨f0, f1⟩ := hf
        by_cases ht : 1 ≤ t ∧ t ≤ 40
        · obtain ⟨t0, t1⟩ := ht
          by_cases hp : Cal.perE m d true = 0
          · have hpz := Lib.hid hp
            have hp1 : (Cal.perE m d true != 0) = false := by simpa using hp
            obtain ⟨m0, _, p0, _, _⟩ := Cal.perE_ok hp
            clear hp
            by_cases p1 : d ≤ 60
            · by_cases m1 : m ≤ 60
              · go_enter Tryd.func14, Tryd.ntmps14
                go_wp2_with fail
                refine (awake_any _ (hT'.out.alloc _)).mono ?_
                rintro e w1 ⟨rfl, hb1⟩
                have hx1 := Lib.hid (hnew.out.below hb1)
                have hbw := Lib.hid (below_step (below_alloc w _) hb1)
                clear hb1
                go_wp2_with fail
                refine (Calendar8_any _ _ l _ (hl'.out.below hbw.out)).mono ?_
                rintro e w' ⟨⟨b, rfl, h8⟩, rfl⟩
                cases b
                · go_wp2
                  go_ret
                  exact ⟨rfl, hbw.out⟩
                have h8z := Lib.hid (h8 rfl)
                clear h8
                go_wp2_with fail
                refine (CheckHolidaysR_any _ _ l _ (hl'.out.below hbw.out)).mono ?_
                rintro e w2 ⟨rfl, hb2⟩
                have hx2 := Lib.hid (hx1.out.below hb2)
                have hbw2 := Lib.hid (below_step hbw.out hb2)
                clear hb2
                have k0 := hx2.out.c0
                have k1 := hx2.out.c1
                go_wp2_with (first | (go_at_call 78; first | (refine (calls_in (within_any _ _ _ _) ?_ ?_).mono ?_; omega; omega; rintro e w' ⟨rfl, rfl⟩) | (refine (calls_out (within_any _ _ _ _) ?_).mono ?_; omega; rintro e w' ⟨rfl, rfl⟩) | (refine (within_any _ _ _ _).mono ?_; rintro e w' ⟨rfl, rfl⟩)) | (go_at_call 29; first | (refine (calls_in (Within_any _ _ _ _) ?_ ?_).mono ?_; omega; omega; rintro e w' ⟨rfl, rfl⟩) | (refine (calls_out (Within_any _ _ _ _) ?_).mono ?_; omega; rintro e w' ⟨rfl, rfl⟩) | (refine (Within_any _ _ _ _).mono ?_; rintro e w' ⟨rfl, rfl⟩)) | (go_at_call 75; first | (refine (calls_in (isDay_any _ _) ?_ ?_).mono ?_; omega; omega; rintro e w' ⟨rfl, rfl⟩) | (refine (calls_out (isDay_any _ _) ?_).mono ?_; omega; rintro e w' ⟨rfl, rfl⟩) | (refine (isDay_any _ _).mono ?_; rintro e w' ⟨rfl, rfl⟩)) | (go_at_call 32; first | (refine (calls_in (IsDay_any _ _) ?_ ?_).mono ?_; omega; omega; rintro e w' ⟨rfl, rfl⟩) | (refine (calls_out (IsDay_any _ _) ?_).mono ?_; omega; rintro e w' ⟨rfl, rfl⟩) | (refine (IsDay_any _ _).mono ?_; rintro e w' ⟨rfl, rfl⟩)) | (go_at_call 46; first | (refine (calls_in (IsYear_any _ _) ?_ ?_).mono ?_; omega; omega; rintro e w' ⟨rfl, rfl⟩) | (refine (calls_out (IsYear_any _ _) ?_).mono ?_; omega; rintro e w' ⟨rfl, rfl⟩) | (refine (IsYear_any _ _).mono ?_; rintro e w' ⟨rfl, rfl⟩)) | (go_at_call 25; first | (refine (calls_in (IsFull_any _ _) ?_ ?_).mono ?_; omega; omega; rintro e w' ⟨rfl, rfl⟩) | (refine (calls_out (IsFull_any _ _) ?_).mono ?_; omega; rintro e w' ⟨rfl, rfl⟩) | (refine (IsFull_any _ _).mono ?_; rintro e w' ⟨rfl, rfl⟩)) | (go_at_call 69; first | (refine (calls_in (isFull_any _ _) ?_ ?_).mono ?_; omega; omega; rintro e w' ⟨rfl, rfl⟩) | (refine (calls_out (isFull_any _ _) ?_).mono ?_; omega; rintro e w' ⟨rfl, rfl⟩) | (refine (isFull_any _ _).mono ?_; rintro e w' ⟨rfl, rfl⟩)))
                have hlen20 : l.length ≤ 20 := by rcases h8z.out with h | h <;> omega
                obtain ⟨x, y, q1, q2, q3, q4, q5, q6, q7⟩ := Cal.addW_both hok hlen20 d0 d1 f0 f1 t0 t1
                have hS1 : Hid (Cal.addWorkingS l day f = (x, 0)) := by show _ = _; unfold Cal.addWorkingS; rw [if_pos h0z.out, if_pos (by omega), q1]
                have hS2 : Hid (Cal.addWorkingS l x t = (y, 0)) := by show _ = _; unfold Cal.addWorkingS; rw [if_pos h0z.out, if_pos (by omega), q2]
                have hS3 : Hid (Cal.addWorkingS l day (f + t) = (y, 0)) := by show _ = _; unfold Cal.addWorkingS; rw [if_pos h0z.out, if_pos (by omega), q3]
                have hiE : Hid (Cal.isWorkE l day = 0) := by show _ = _; unfold Cal.isWorkE; rw [if_pos h0z.out, if_pos (by omega)]
                have hiB : Hid (Cal.isWorkB l day = Cal.workB l day) := by show _ = _; unfold Cal.isWorkB; rw [if_pos hiE.out]
                have hbE : Hid (Cal.betwE l day x = 0) := by show _ = _; unfold Cal.betwE; rw [if_pos h0z.out, if_pos (by omega), if_neg (by omega)]
                have hbN : Hid (Cal.betwN l day x = (if Cal.workB l day = true then 1 else 0) + (f - 1)) := by
                  show _ = _; unfold Cal.betwN; rw [if_pos hbE.out, Cal.betw_trans (show day ≤ day + 1 by omega) q4, q6, Cal.betw_succ (Int.le_refl _), Cal.betw_self]; simp
                clear q1 q2 q3 q6 q7
                refine (AddWorking_any _ _ l hHC.out day f _ (hl'.out.below hbw2.out) (hT'.out.below hbw2.out)).mono ?_
                rintro e w3 ⟨rfl, hb⟩
                rw [hS1.out]
                have hx3 := Lib.hid (hx2.out.below hb)
                have hbw3 := Lib.hid (below_step hbw2.out hb)
                clear hb
                clear k0 k1
                have k0 := hx3.out.c0
                have k1 := hx3.out.c1
                go_wp2_with fail
                refine (AddWorking_any _ _ l hHC.out x t _ (hl'.out.below hbw3.out) (hT'.out.below hbw3.out)).mono ?_
                rintro e w4 ⟨rfl, hb⟩
                rw [hS2.out]
                have hx4 := Lib.hid (hx3.out.below hb)
                have hbw4 := Lib.hid (below_step hbw3.out hb)
                clear hb
                clear k0 k1
                have k0 := hx4.out.c0
                have k1 := hx4.out.c1
                go_wp2_with fail
                refine (AddWorking_any _ _ l hHC.out day (f + t) _ (hl'.out.below hbw4.out) (hT'.out.below hbw4.out)).mono ?_
                rintro e w5 ⟨rfl, hb⟩
                rw [hS3.out]
                have hx5 := Lib.hid (hx4.out.below hb)
                have hbw5 := Lib.hid (below_step hbw4.out hb)
                clear hb
                clear k0 k1
                have k0 := hx5.out.c0
                have k1 := hx5.out.c1
                go_wp2_with fail
                refine (IsWorking_any _ _ l day _ (hl'.out.below hbw5.out) (hT'.out.below hbw5.out)).mono ?_
                rintro e w6 ⟨rfl, hb⟩
                rw [hiE.out, hiB.out]
                have hx6 := Lib.hid (hx5.out.below hb)
                have hbw6 := Lib.hid (below_step hbw5.out hb)
                clear hb
                clear k0 k1
                have k0 := hx6.out.c0
                have k1 := hx6.out.c1
                go_wp2_with fail
                refine (WorkingBetween_any _ _ l day x _ (hl'.out.below hbw6.out) (hT'.out.below hbw6.out)).mono ?_
                rintro e w7 ⟨rfl, hb⟩
                rw [hbE.out, hbN.out]
                have hx7 := Lib.hid (hx6.out.below hb)
                have hbw7 := Lib.hid (below_step hbw6.out hb)
                clear hb
                clear k0 k1
                have k0 := hx7.out.c0
                have k1 := hx7.out.c1
                have k2 := hx7.out.c2
                have k3 := hx7.out.c3
                have k4 := hx7.out.c4
                rcases (Bool.eq_false_or_eq_true (Cal.workB l day)).symm with hw | hw
                all_goals
                  rw [hw]
                  clear hw
                  simp only [Bool.false_eq_true, if_false, if_true]
                  have hfe : ((1 + (f - 1) : Int) != f) = false := by simp; omega
                  go_wp2_with fail
                  refine (CheckPeriodR_any m d _ _).mono ?_
                  rintro e w8 ⟨rfl, hb⟩
                  have hx8 := Lib.hid (hx7.out.below hb)
                  have hbw8 := Lib.hid (below_step hbw7.out hb)
                  clear hb
                  clear k0 k1 k2 k3 k4
                  have k2 := hx8.out.c2
                  have k3 := hx8.out.c3
                  have k4 := hx8.out.c4
                  go_wp2_with fail
                all_goals
                  obtain ⟨u, v, r1, r2, r3⟩ := Cal.dl_next (k := true) hok (show l.length ≤ 20 by rcases h8z.out with h | h <;> omega) d0 d1 m0 m1 p0 p1
                  have hD1 : Hid (Cal.dlS l day m d true = (u, 0)) := by show _ = _; unfold Cal.dlS; rw [if_pos h0z.out, if_pos (by omega), if_pos hpz.out, r1]
                  have hD2 : Hid (Cal.dlS l (day + 1) m d true = (v, 0)) := by show _ = _; unfold Cal.dlS; rw [if_pos h0z.out, if_pos (by omega), if_pos hpz.out, r2]
                  clear r1 r2
                  refine (Deadline_any _ _ l day m d _ _ (hl'.out.below hbw8.out) (hT'.out.below hbw8.out)).mono ?_
                  rintro e w9 ⟨rfl, hb⟩
                  rw [hD1.out]
                  have hx9 := Lib.hid (hx8.out.below hb)
                  have hbw9 := Lib.hid (below_step hbw8.out hb)
                  clear hb
                  clear k2 k3 k4
                  have k2 := hx9.out.c2
                  have k3 := hx9.out.c3
                  have k4 := hx9.out.c4
                  go_wp2_with fail
                  refine (Deadline_any _ _ l (day + 1) m d _ _ (hl'.out.below hbw9.out) (hT'.out.below hbw9.out)).mono ?_
                  rintro e w10 ⟨rfl, hb⟩
                  rw [hD2.out]
                  have hx10 := Lib.hid (hx9.out.below hb)
                  have hbw10 := Lib.hid (below_step hbw9.out hb)
                  clear hb
                  clear k2 k3 k4
                  go_wp2_with fail
                  go_ret
                  exact ⟨rfl, hbw10.out⟩
              · go_enter Tryd.func14, Tryd.ntmps14
                go_wp2_with fail
                refine (awake_any _ (hT'.out.alloc _)).mono ?_
                rintro e w1 ⟨rfl, hb1⟩
                have hx1 := Lib.hid (hnew.out.below hb1)
                have hbw := Lib.hid (below_step (below_alloc w _) hb1)
                clear hb1
                go_wp2_with fail
                refine (Calendar8_any _ _ l _ (hl'.out.below hbw.out)).mono ?_
                rintro e w' ⟨⟨b, rfl, h8⟩, rfl⟩
                cases b
                · go_wp2
                  go_ret
                  exact ⟨rfl, hbw.out⟩
                have h8z := Lib.hid (h8 rfl)
                clear h8
                go_wp2_with fail
                refine (CheckHolidaysR_any _ _ l _ (hl'.out.below hbw.out)).mono ?_
                rintro e w2 ⟨rfl, hb2⟩
                have hx2 := Lib.hid (hx1.out.below hb2)
                have hbw2 := Lib.hid (below_step hbw.out hb2)
                clear hb2
                have k0 := hx2.out.c0
                have k1 := hx2.out.c1
                go_wp2_with (first | (go_at_call 78; first | (refine (calls_in (within_any _ _ _ _) ?_ ?_).mono ?_; omega; omega; rintro e w' ⟨rfl, rfl⟩) | (refine (calls_out (within_any _ _ _ _) ?_).mono ?_; omega; rintro e w' ⟨rfl, rfl⟩) | (refine (within_any _ _ _ _).mono ?_; rintro e w' ⟨rfl, rfl⟩)) | (go_at_call 29; first | (refine (calls_in (Within_any _ _ _ _) ?_ ?_).mono ?_; omega; omega; rintro e w' ⟨rfl, rfl⟩) | (refine (calls_out (Within_any _ _ _ _) ?_).mono ?_; omega; rintro e w' ⟨rfl, rfl⟩) | (refine (Within_any _ _ _ _).mono ?_; rintro e w' ⟨rfl, rfl⟩)) | (go_at_call 75; first | (refine (calls_in (isDay_any _ _) ?_ ?_).mono ?_; omega; omega; rintro e w' ⟨rfl, rfl⟩) | (refine (calls_out (isDay_any _ _) ?_).mono ?_; omega; rintro e w' ⟨rfl, rfl⟩) | (refine (isDay_any _ _).mono ?_; rintro e w' ⟨rfl, rfl⟩)) | (go_at_call 32; first | (refine (calls_in (IsDay_any _ _) ?_ ?_).mono ?_; omega; omega; rintro e w' ⟨rfl, rfl⟩) | (refine (calls_out (IsDay_any _ _) ?_).mono ?_; omega; rintro e w' ⟨rfl, rfl⟩) | (refine (IsDay_any _ _).mono ?_; rintro e w' ⟨rfl, rfl⟩)) | (go_at_call 46; first | (refine (calls_in (IsYear_any _ _) ?_ ?_).mono ?_; omega; omega; rintro e w' ⟨rfl, rfl⟩) | (refine (calls_out (IsYear_any _ _) ?_).mono ?_; omega; rintro e w' ⟨rfl, rfl⟩) | (refine (IsYear_any _ _).mono ?_; rintro e w' ⟨rfl, rfl⟩)) | (go_at_call 25; first | (refine (calls_in (IsFull_any _ _) ?_ ?_).mono ?_; omega; omega; rintro e w' ⟨rfl, rfl⟩) | (refine (calls_out (IsFull_any _ _) ?_).mono ?_; omega; rintro e w' ⟨rfl, rfl⟩) | (refine (IsFull_any _ _).mono ?_; rintro e w' ⟨rfl, rfl⟩)) | (go_at_call 69; first | (refine (calls_in (isFull_any _ _) ?_ ?_).mono ?_; omega; omega; rintro e w' ⟨rfl, rfl⟩) | (refine (calls_out (isFull_any _ _) ?_).mono ?_; omega; rintro e w' ⟨rfl, rfl⟩) | (refine (isFull_any _ _).mono ?_; rintro e w' ⟨rfl, rfl⟩)))
                have hlen20 : l.length ≤ 20 := by rcases h8z.out with h | h <;> omega
                obtain ⟨x, y, q1, q2, q3, q4, q5, q6, q7⟩ := Cal.addW_both hok hlen20 d0 d1 f0 f1 t0 t1
                have hS1 : Hid (Cal.addWorkingS l day f = (x, 0)) := by show _ = _; unfold Cal.addWorkingS; rw [if_pos h0z.out, if_pos (by omega), q1]
                have hS2 : Hid (Cal.addWorkingS l x t = (y, 0)) := by show _ = _; unfold Cal.addWorkingS; rw [if_pos h0z.out, if_pos (by omega), q2]
                have hS3 : Hid (Cal.addWorkingS l day (f + t) = (y, 0)) := by show _ = _; unfold Cal.addWorkingS; rw [if_pos h0z.out, if_pos (by omega), q3]
                have hiE : Hid (Cal.isWorkE l day = 0) := by show _ = _; unfold Cal.isWorkE; rw [if_pos h0z.out, if_pos (by omega)]
                have hiB : Hid (Cal.isWorkB l day = Cal.workB l day) := by show _ = _; unfold Cal.isWorkB; rw [if_pos hiE.out]
                have hbE : Hid (Cal.betwE l day x = 0) := by show _ = _; unfold Cal.betwE; rw [if_pos h0z.out, if_pos (by omega), if_neg (by omega)]
                have hbN : Hid (Cal.betwN l day x = (if Cal.workB l day = true then 1 else 0) + (f - 1)) := by
                  show _ = _; unfold Cal.betwN; rw [if_pos hbE.out, Cal.betw_trans (show day ≤ day + 1 by omega) q4, q6, Cal.betw_succ (Int.le_refl _), Cal.betw_self]; simp
                clear q1 q2 q3 q6 q7
                refine (AddWorking_any _ _ l hHC.out day f _ (hl'.out.below hbw2.out) (hT'.out.below hbw2.out)).mono ?_
                rintro e w3 ⟨rfl, hb⟩
                rw [hS1.out]
                have hx3 := Lib.hid (hx2.out.below hb)
                have hbw3 := Lib.hid (below_step hbw2.out hb)
                clear hb
                clear k0 k1
                have k0 := hx3.out.c0
                have k1 := hx3.out.c1
                go_wp2_with fail
                refine (AddWorking_any _ _ l hHC.out x t _ (hl'.out.below hbw3.out) (hT'.out.below hbw3.out)).mono ?_
                rintro e w4 ⟨rfl, hb⟩
                rw [hS2.out]
                have hx4 := Lib.hid (hx3.out.below hb)
                have hbw4 := Lib.hid (below_step hbw3.out hb)
                clear hb
                clear k0 k1
                have k0 := hx4.out.c0
                have k1 := hx4.out.c1
                go_wp2_with fail
                refine (AddWorking_any _ _ l hHC.out day (f + t) _ (hl'.out.below hbw4.out) (hT'.out.below hbw4.out)).mono ?_
                rintro e w5 ⟨rfl, hb⟩
                rw [hS3.out]
                have hx5 := Lib.hid (hx4.out.below hb)
                have hbw5 := Lib.hid (below_step hbw4.out hb)
                clear hb
                clear k0 k1
                have k0 := hx5.out.c0
                have k1 := hx5.out.c1
                go_wp2_with fail
                refine (IsWorking_any _ _ l day _ (hl'.out.below hbw5.out) (hT'.out.below hbw5.out)).mono ?_
                rintro e w6 ⟨rfl, hb⟩
                rw [hiE.out, hiB.out]
                have hx6 := Lib.hid (hx5.out.below hb)
                have hbw6 := Lib.hid (below_step hbw5.out hb)
                clear hb
                clear k0 k1
                have k0 := hx6.out.c0
                have k1 := hx6.out.c1
                go_wp2_with fail
                refine (WorkingBetween_any _ _ l day x _ (hl'.out.below hbw6.out) (hT'.out.below hbw6.out)).mono ?_
                rintro e w7 ⟨rfl, hb⟩
                rw [hbE.out, hbN.out]
                have hx7 := Lib.hid (hx6.out.below hb)
                have hbw7 := Lib.hid (below_step hbw6.out hb)
                clear hb
                clear k0 k1
                have k0 := hx7.out.c0
                have k1 := hx7.out.c1
                have k2 := hx7.out.c2
                have k3 := hx7.out.c3
                have k4 := hx7.out.c4
                rcases (Bool.eq_false_or_eq_true (Cal.workB l day)).symm with hw | hw
                all_goals
                  rw [hw]
                  clear hw
                  simp only [Bool.false_eq_true, if_false, if_true]
                  have hfe : ((1 + (f - 1) : Int) != f) = false := by simp; omega
                  go_wp2_with fail
                  refine (CheckPeriodR_any m d _ _).mono ?_
                  rintro e w8 ⟨rfl, hb⟩
                  have hx8 := Lib.hid (hx7.out.below hb)
                  have hbw8 := Lib.hid (below_step hbw7.out hb)
                  clear hb
                  clear k0 k1 k2 k3 k4
                  have k2 := hx8.out.c2
                  have k3 := hx8.out.c3
                  have k4 := hx8.out.c4
                  go_wp2_with fail
                all_goals
                  go_ret
                  exact ⟨rfl, hbw8.out⟩
            · go_enter Tryd.func14, Tryd.ntmps14
              go_wp2_with fail
              refine (awake_any _ (hT'.out.alloc _)).mono ?_
              rintro e w1 ⟨rfl, hb1⟩
              have hx1 := Lib.hid (hnew.out.below hb1)
              have hbw := Lib.hid (below_step (below_alloc w _) hb1)
              clear hb1
              go_wp2_with fail
              refine (Calendar8_any _ _ l _ (hl'.out.below hbw.out)).mono ?_
              rintro e w' ⟨⟨b, rfl, h8⟩, rfl⟩
              cases b
              · go_wp2
                go_ret
                exact ⟨rfl, hbw.out⟩
              have h8z := Lib.hid (h8 rfl)
              clear h8
              go_wp2_with fail
              refine (CheckHolidaysR_any _ _ l _ (hl'.out.below hbw.out)).mono ?_
              rintro e w2 ⟨rfl, hb2⟩
              have hx2 := Lib.hid (hx1.out.below hb2)
              have hbw2 := Lib.hid (below_step hbw.out hb2)
              clear hb2
              have k0 := hx2.out.c0
              have k1 := hx2.out.c1
              go_wp2_with (first | (go_at_call 78; first | (refine (calls_in (within_any _ _ _ _) ?_ ?_).mono ?_; omega; omega; rintro e w' ⟨rfl, rfl⟩) | (refine (calls_out (within_any _ _ _ _) ?_).mono ?_; omega; rintro e w' ⟨rfl, rfl⟩) | (refine (within_any _ _ _ _).mono ?_; rintro e w' ⟨rfl, rfl⟩)) | (go_at_call 29; first | (refine (calls_in (Within_any _ _ _ _) ?_ ?_).mono ?_; omega; omega; rintro e w' ⟨rfl, rfl⟩) | (refine (calls_out (Within_any _ _ _ _) ?_).mono ?_; omega; rintro e w' ⟨rfl, rfl⟩) | (refine (Within_any _ _ _ _).mono ?_; rintro e w' ⟨rfl, rfl⟩)) | (go_at_call 75; first | (refine (calls_in (isDay_any _ _) ?_ ?_).mono ?_; omega; omega; rintro e w' ⟨rfl, rfl⟩) | (refine (calls_out (isDay_any _ _) ?_).mono ?_; omega; rintro e w' ⟨rfl, rfl⟩) | (refine (isDay_any _ _).mono ?_; rintro e w' ⟨rfl, rfl⟩)) | (go_at_call 32; first | (refine (calls_in (IsDay_any _ _) ?_ ?_).mono ?_; omega; omega; rintro e w' ⟨rfl, rfl⟩) | (refine (calls_out (IsDay_any _ _) ?_).mono ?_; omega; rintro e w' ⟨rfl, rfl⟩) | (refine (IsDay_any _ _).mono ?_; rintro e w' ⟨rfl, rfl⟩)) | (go_at_call 46; first | (refine (calls_in (IsYear_any _ _) ?_ ?_).mono ?_; omega; omega; rintro e w' ⟨rfl, rfl⟩) | (refine (calls_out (IsYear_any _ _) ?_).mono ?_; omega; rintro e w' ⟨rfl, rfl⟩) | (refine (IsYear_any _ _).mono ?_; rintro e w' ⟨rfl, rfl⟩)) | (go_at_call 25; first | (refine (calls_in (IsFull_any _ _) ?_ ?_).mono ?_; omega; omega; rintro e w' ⟨rfl, rfl⟩) | (refine (calls_out (IsFull_any _ _) ?_).mono ?_; omega; rintro e w' ⟨rfl, rfl⟩) | (refine (IsFull_any _ _).mono ?_; rintro e w' ⟨rfl, rfl⟩)) | (go_at_call 69; first | (refine (calls_in (isFull_any _ _) ?_ ?_).mono ?_; omega; omega; rintro e w' ⟨rfl, rfl⟩) | (refine (calls_out (isFull_any _ _) ?_).mono ?_; omega; rintro e w' ⟨rfl, rfl⟩) | (refine (isFull_any _ _).mono ?_; rintro e w' ⟨rfl, rfl⟩)))
              have hlen20 : l.length ≤ 20 := by rcases h8z.out with h | h <;> omega
              obtain ⟨x, y, q1, q2, q3, q4, q5, q6, q7⟩ := Cal.addW_both hok hlen20 d0 d1 f0 f1 t0 t1
              have hS1 : Hid (Cal.addWorkingS l day f = (x, 0)) := by show _ = _; unfold Cal.addWorkingS; rw [if_pos h0z.out, if_pos (by omega), q1]
              have hS2 : Hid (Cal.addWorkingS l x t = (y, 0)) := by show _ = _; unfold Cal.addWorkingS; rw [if_pos h0z.out, if_pos (by omega), q2]
              have hS3 : Hid (Cal.addWorkingS l day (f + t) = (y, 0)) := by show _ = _; unfold Cal.addWorkingS; rw [if_pos h0z.out, if_pos (by omega), q3]
              have hiE : Hid (Cal.isWorkE l day = 0) := by show _ = _; unfold Cal.isWorkE; rw [if_pos h0z.out, if_pos (by omega)]
              have hiB : Hid (Cal.isWorkB l day = Cal.workB l day) := by show _ = _; unfold Cal.isWorkB; rw [if_pos hiE.out]
              have hbE : Hid (Cal.betwE l day x = 0) := by show _ = _; unfold Cal.betwE; rw [if_pos h0z.out, if_pos (by omega), if_neg (by omega)]
              have hbN : Hid (Cal.betwN l day x = (if Cal.workB l day = true then 1 else 0) + (f - 1)) := by
                show _ = _; unfold Cal.betwN; rw [if_pos hbE.out, Cal.betw_trans (show day ≤ day + 1 by omega) q4, q6, Cal.betw_succ (Int.le_refl _), Cal.betw_self]; simp
              clear q1 q2 q3 q6 q7
              refine (AddWorking_any _ _ l hHC.out day f _ (hl'.out.below hbw2.out) (hT'.out.below hbw2.out)).mono ?_
              rintro e w3 ⟨rfl, hb⟩
              rw [hS1.out]
              have hx3 := Lib.hid (hx2.out.below hb)
              have hbw3 := Lib.hid (below_step hbw2.out hb)
              clear hb
              clear k0 k1
              have k0 := hx3.out.c0
              have k1 := hx3.out.c1
              go_wp2_with fail
              refine (AddWorking_any _ _ l hHC.out x t _ (hl'.out.below hbw3.out) (hT'.out.below hbw3.out)).mono ?_
              rintro e w4 ⟨rfl, hb⟩
              rw [hS2.out]
              have hx4 := Lib.hid (hx3.out.below hb)
              have hbw4 := Lib.hid (below_step hbw3.out hb)
              clear hb
              clear k0 k1
              have k0 := hx4.out.c0
              have k1 := hx4.out.c1
              go_wp2_with fail
              refine (AddWorking_any _ _ l hHC.out day (f + t) _ (hl'.out.below hbw4.out) (hT'.out.below hbw4.out)).mono ?_
              rintro e w5 ⟨rfl, hb⟩
              rw [hS3.out]
              have hx5 := Lib.hid (hx4.out.below hb)
              have hbw5 := Lib.hid (below_step hbw4.out hb)
              clear hb
              clear k0 k1
              have k0 := hx5.out.c0
              have k1 := hx5.out.c1
              go_wp2_with fail
              refine (IsWorking_any _ _ l day _ (hl'.out.below hbw5.out) (hT'.out.below hbw5.out)).mono ?_
              rintro e w6 ⟨rfl, hb⟩
              rw [hiE.out, hiB.out]
              have hx6 := Lib.hid (hx5.out.below hb)
              have hbw6 := Lib.hid (below_step hbw5.out hb)
              clear hb
              clear k0 k1
              have k0 := hx6.out.c0
              have k1 := hx6.out.c1
              go_wp2_with fail
              refine (WorkingBetween_any _ _ l day x _ (hl'.out.below hbw6.out) (hT'.out.below hbw6.out)).mono ?_
              rintro e w7 ⟨rfl, hb⟩
              rw [hbE.out, hbN.out]
              have hx7 := Lib.hid (hx6.out.below hb)
              have hbw7 := Lib.hid (below_step hbw6.out hb)
              clear hb
              clear k0 k1
              have k0 := hx7.out.c0
              have k1 := hx7.out.c1
              have k2 := hx7.out.c2
              have k3 := hx7.out.c3
              have k4 := hx7.out.c4
              rcases (Bool.eq_false_or_eq_true (Cal.workB l day)).symm with hw | hw
              all_goals
                rw [hw]
                clear hw
                simp only [Bool.false_eq_true, if_false, if_true]
                have hfe : ((1 + (f - 1) : Int) != f) = false := by simp; omega
                go_wp2_with fail
                refine (CheckPeriodR_any m d _ _).mono ?_
                rintro e w8 ⟨rfl, hb⟩
                have hx8 := Lib.hid (hx7.out.below hb)
                have hbw8 := Lib.hid (below_step hbw7.out hb)
                clear hb
                clear k0 k1 k2 k3 k4
                have k2 := hx8.out.c2
                have k3 := hx8.out.c3
                have k4 := hx8.out.c4
                go_wp2_with fail
              all_goals
                go_ret
                exact ⟨rfl, hbw8.out⟩
          · have hp1 : (Cal.perE m d true != 0) = true := by simpa using hp
            clear hp
            go_enter Tryd.func14, Tryd.ntmps14
            go_wp2_with fail
            refine (awake_any _ (hT'.out.alloc _)).mono ?_
            rintro e w1 ⟨rfl, hb1⟩
            have hx1 := Lib.hid (hnew.out.below hb1)
            have hbw := Lib.hid (below_step (below_alloc w _) hb1)
            clear hb1
            go_wp2_with fail
            refine (Calendar8_any _ _ l _ (hl'.out.below hbw.out)).mono ?_
            rintro e w' ⟨⟨b, rfl, h8⟩, rfl⟩
            cases b
            · go_wp2
              go_ret
              exact ⟨rfl, hbw.out⟩
            have h8z := Lib.hid (h8 rfl)
            clear h8
            go_wp2_with fail
            refine (CheckHolidaysR_any _ _ l _ (hl'.out.below hbw.out)).mono ?_
            rintro e w2 ⟨rfl, hb2⟩
            have hx2 := Lib.hid (hx1.out.below hb2)
            have hbw2 := Lib.hid (below_step hbw.out hb2)
            clear hb2
            have k0 := hx2.out.c0
            have k1 := hx2.out.c1
            go_wp2_with (first | (go_at_call 78; first | (refine (calls_in (within_any _ _ _ _) ?_ ?_).mono ?_; omega; omega; rintro e w' ⟨rfl, rfl⟩) | (refine (calls_out (within_any _ _ _ _) ?_).mono ?_; omega; rintro e w' ⟨rfl, rfl⟩) | (refine (within_any _ _ _ _).mono ?_; rintro e w' ⟨rfl, rfl⟩)) | (go_at_call 29; first | (refine (calls_in (Within_any _ _ _ _) ?_ ?_).mono ?_; omega; omega; rintro e w' ⟨rfl, rfl⟩) | (refine (calls_out (Within_any _ _ _ _) ?_).mono ?_; omega; rintro e w' ⟨rfl, rfl⟩) | (refine (Within_any _ _ _ _).mono ?_; rintro e w' ⟨rfl, rfl⟩)) | (go_at_call 75; first | (refine (calls_in (isDay_any _ _) ?_ ?_).mono ?_; omega; omega; rintro e w' ⟨rfl, rfl⟩) | (refine (calls_out (isDay_any _ _) ?_).mono ?_; omega; rintro e w' ⟨rfl, rfl⟩) | (refine (isDay_any _ _).mono ?_; rintro e w' ⟨rfl, rfl⟩)) | (go_at_call 32; first | (refine (calls_in (IsDay_any _ _) ?_ ?_).mono ?_; omega; omega; rintro e w' ⟨rfl, rfl⟩) | (refine (calls_out (IsDay_any _ _) ?_).mono ?_; omega; rintro e w' ⟨rfl, rfl⟩) | (refine (IsDay_any _ _).mono ?_; rintro e w' ⟨rfl, rfl⟩)) | (go_at_call 46; first | (refine (calls_in (IsYear_any _ _) ?_ ?_).mono ?_; omega; omega; rintro e w' ⟨rfl, rfl⟩) | (refine (calls_out (IsYear_any _ _) ?_).mono ?_; omega; rintro e w' ⟨rfl, rfl⟩) | (refine (IsYear_any _ _).mono ?_; rintro e w' ⟨rfl, rfl⟩)) | (go_at_call 25; first | (refine (calls_in (IsFull_any _ _) ?_ ?_).mono ?_; omega; omega; rintro e w' ⟨rfl, rfl⟩) | (refine (calls_out (IsFull_any _ _) ?_).mono ?_; omega; rintro e w' ⟨rfl, rfl⟩) | (refine (IsFull_any _ _).mono ?_; rintro e w' ⟨rfl, rfl⟩)) | (go_at_call 69; first | (refine (calls_in (isFull_any _ _) ?_ ?_).mono ?_; omega; omega; rintro e w' ⟨rfl, rfl⟩) | (refine (calls_out (isFull_any _ _) ?_).mono ?_; omega; rintro e w' ⟨rfl, rfl⟩) | (refine (isFull_any _ _).mono ?_; rintro e w' ⟨rfl, rfl⟩)))
            have hlen20 : l.length ≤ 20 := by rcases h8z.out with h | h <;> omega
            obtain ⟨x, y, q1, q2, q3, q4, q5, q6, q7⟩ := Cal.addW_both hok hlen20 d0 d1 f0 f1 t0 t1
            have hS1 : Hid (Cal.addWorkingS l day f = (x, 0)) := by show _ = _; unfold Cal.addWorkingS; rw [if_pos h0z.out, if_pos (by omega), q1]
            have hS2 : Hid (Cal.addWorkingS l x t = (y, 0)) := by show _ = _; unfold Cal.addWorkingS; rw [if_pos h0z.out, if_pos (by omega), q2]
            have hS3 : Hid (Cal.addWorkingS l day (f + t) = (y, 0)) := by show _ = _; unfold Cal.addWorkingS; rw [if_pos h0z.out, if_pos (by omega), q3]
            have hiE : Hid (Cal.isWorkE l day = 0) := by show _ = _; unfold Cal.isWorkE; rw [if_pos h0z.out, if_pos (by omega)]
            have hiB : Hid (Cal.isWorkB l day = Cal.workB l day) := by show _ = _; unfold Cal.isWorkB; rw [if_pos hiE.out]
            have hbE : Hid (Cal.betwE l day x = 0) := by show _ = _; unfold Cal.betwE; rw [if_pos h0z.out, if_pos (by omega), if_neg (by omega)]
            have hbN : Hid (Cal.betwN l day x = (if Cal.workB l day = true then 1 else 0) + (f - 1)) := by
              show _ = _; unfold Cal.betwN; rw [if_pos hbE.out, Cal.betw_trans (show day ≤ day + 1 by omega) q4, q6, Cal.betw_succ (Int.le_refl _), Cal.betw_self]; simp
            clear q1 q2 q3 q6 q7
            refine (AddWorking_any _ _ l hHC.out day f _ (hl'.out.below hbw2.out) (hT'.out.below hbw2.out)).mono ?_
            rintro e w3 ⟨rfl, hb⟩
            rw [hS1.out]
            have hx3 := Lib.hid (hx2.out.below hb)
            have hbw3 := Lib.hid (below_step hbw2.out hb)
            clear hb
            clear k0 k1
            have k0 := hx3.out.c0
            have k1 := hx3.out.c1
            go_wp2_with fail
            refine (AddWorking_any _ _ l hHC.out x t _ (hl'.out.below hbw3.out) (hT'.out.below hbw3.out)).mono ?_
            rintro e w4 ⟨rfl, hb⟩
            rw [hS2.out]
            have hx4 := Lib.hid (hx3.out.below hb)
            have hbw4 := Lib.hid (below_step hbw3.out hb)
            clear hb
            clear k0 k1
            have k0 := hx4.out.c0
            have k1 := hx4.out.c1
            go_wp2_with fail
            refine (AddWorking_any _ _ l hHC.out day (f + t) _ (hl'.out.below hbw4.out) (hT'.out.below hbw4.out)).mono ?_
            rintro e w5 ⟨rfl, hb⟩
            rw [hS3.out]
            have hx5 := Lib.hid (hx4.out.below hb)
            have hbw5 := Lib.hid (below_step hbw4.out hb)
            clear hb
            clear k0 k1
            have k0 := hx5.out.c0
            have k1 := hx5.out.c1
            go_wp2_with fail
            refine (IsWorking_any _ _ l day _ (hl'.out.below hbw5.out) (hT'.out.below hbw5.out)).mono ?_
            rintro e w6 ⟨rfl, hb⟩
            rw [hiE.out, hiB.out]
            have hx6 := Lib.hid (hx5.out.below hb)
            have hbw6 := Lib.hid (below_step hbw5.out hb)
            clear hb
            clear k0 k1
            have k0 := hx6.out.c0
            have k1 := hx6.out.c1
            go_wp2_with fail
            refine (WorkingBetween_any _ _ l day x _ (hl'.out.below hbw6.out) (hT'.out.below hbw6.out)).mono ?_
            rintro e w7 ⟨rfl, hb⟩
            rw [hbE.out, hbN.out]
            have hx7 := Lib.hid (hx6.out.below hb)
            have hbw7 := Lib.hid (below_step hbw6.out hb)
            clear hb
            clear k0 k1
            have k0 := hx7.out.c0
            have k1 := hx7.out.c1
            have k2 := hx7.out.c2
            have k3 := hx7.out.c3
            have k4 := hx7.out.c4
            rcases (Bool.eq_false_or_eq_true (Cal.workB l day)).symm with hw | hw
            all_goals
              rw [hw]
              clear hw
              simp only [Bool.false_eq_true, if_false, if_true]
              have hfe : ((1 + (f - 1) : Int) != f) = false := by simp; omega
              go_wp2_with fail
              refine (CheckPeriodR_any m d _ _).mono ?_
              rintro e w8 ⟨rfl, hb⟩
              have hx8 := Lib.hid (hx7.out.below hb)
              have hbw8 := Lib.hid (below_step hbw7.out hb)
              clear hb
              clear k0 k1 k2 k3 k4
              have k2 := hx8.out.c2
              have k3 := hx8.out.c3
              have k4 := hx8.out.c4
              go_wp2_with fail
            all_goals
              go_ret
              exact ⟨rfl, hbw8.out⟩
        · have ht' : t < 1 ∨ 40 < t := by omega
          clear ht
          go_enter Tryd.func14, Tryd.ntmps14
          go_wp2_with fail
          refine (awake_any _ (hT'.out.alloc _)).mono ?_
          rintro e w1 ⟨rfl, hb1⟩
          have hx1 := Lib.hid (hnew.out.below hb1)
          have hbw := Lib.hid (below_step (below_alloc w _) hb1)
          clear hb1
          go_wp2_with fail
          refine (Calendar8_any _ _ l _ (hl'.out.below hbw.out)).mono ?_
          rintro e w' ⟨⟨b, rfl, h8⟩, rfl⟩
          cases b
          · go_wp2
            go_ret
            exact ⟨rfl, hbw.out⟩
          have h8z := Lib.hid (h8 rfl)
          clear h8
          go_wp2_with fail
          refine (CheckHolidaysR_any _ _ l _ (hl'.out.below hbw.out)).mono ?_
          rintro e w2 ⟨rfl, hb2⟩
          have hx2 := Lib.hid (hx1.out.below hb2)
          have hbw2 := Lib.hid (below_step hbw.out hb2)
          clear hb2
          have k0 := hx2.out.c0
          have k1 := hx2.out.c1
          go_wp2_with (first | (go_at_call 78; first | (refine (calls_in (within_any _ _ _ _) ?_ ?_).mono ?_; omega; omega; rintro e w' ⟨rfl, rfl⟩) | (refine (calls_out (within_any _ _ _ _) ?_).mono ?_; omega; rintro e w' ⟨rfl, rfl⟩) | (refine (within_any _ _ _ _).mono ?_; rintro e w' ⟨rfl, rfl⟩)) | (go_at_call 29; first | (refine (calls_in (Within_any _ _ _ _) ?_ ?_).mono ?_; omega; omega; rintro e w' ⟨rfl, rfl⟩) | (refine (calls_out (Within_any _ _ _ _) ?_).mono ?_; omega; rintro e w' ⟨rfl, rfl⟩) | (refine (Within_any _ _ _ _).mono ?_; rintro e w' ⟨rfl, rfl⟩)) | (go_at_call 75; first | (refine (calls_in (isDay_any _ _) ?_ ?_).mono ?_; omega; omega; rintro e w' ⟨rfl, rfl⟩) | (refine (calls_out (isDay_any _ _) ?_).mono ?_; omega; rintro e w' ⟨rfl, rfl⟩) | (refine (isDay_any _ _).mono ?_; rintro e w' ⟨rfl, rfl⟩)) | (go_at_call 32; first | (refine (calls_in (IsDay_any _ _) ?_ ?_).mono ?_; omega; omega; rintro e w' ⟨rfl, rfl⟩) | (refine (calls_out (IsDay_any _ _) ?_).mono ?_; omega; rintro e w' ⟨rfl, rfl⟩) | (refine (IsDay_any _ _).mono ?_; rintro e w' ⟨rfl, rfl⟩)) | (go_at_call 46; first | (refine (calls_in (IsYear_any _ _) ?_ ?_).mono ?_; omega; omega; rintro e w' ⟨rfl, rfl⟩) | (refine (calls_out (IsYear_any _ _) ?_).mono ?_; omega; rintro e w' ⟨rfl, rfl⟩) | (refine (IsYear_any _ _).mono ?_; rintro e w' ⟨rfl, rfl⟩)) | (go_at_call 25; first | (refine (calls_in (IsFull_any _ _) ?_ ?_).mono ?_; omega; omega; rintro e w' ⟨rfl, rfl⟩) | (refine (calls_out (IsFull_any _ _) ?_).mono ?_; omega; rintro e w' ⟨rfl, rfl⟩) | (refine (IsFull_any _ _).mono ?_; rintro e w' ⟨rfl, rfl⟩)) | (go_at_call 69; first | (refine (calls_in (isFull_any _ _) ?_ ?_).mono ?_; omega; omega; rintro e w' ⟨rfl, rfl⟩) | (refine (calls_out (isFull_any _ _) ?_).mono ?_; omega; rintro e w' ⟨rfl, rfl⟩) | (refine (isFull_any _ _).mono ?_; rintro e w' ⟨rfl, rfl⟩)))
          go_ret
          exact ⟨rfl, hbw2.out⟩
      · have hf' : f < 1 ∨ 40 < f := by omega
        clear hf
        go_enter Tryd.func14, Tryd.ntmps14
        go_wp2_with fail
        refine (awake_any _ (hT'.out.alloc _)).mono ?_
        rintro e w1 ⟨rfl, hb1⟩
        have hx1 := Lib.hid (hnew.out.below hb1)
        have hbw := Lib.hid (below_step (below_alloc w _) hb1)
        clear hb1
        go_wp2_with fail
        refine (Calendar8_any _ _ l _ (hl'.out.below hbw.out)).mono ?_
        rintro e w' ⟨⟨b, rfl, h8⟩, rfl⟩
        cases b
        · go_wp2
          go_ret
          exact ⟨rfl, hbw.out⟩
        have h8z := Lib.hid (h8 rfl)
        clear h8
        go_wp2_with fail
        refine (CheckHolidaysR_any _ _ l _ (hl'.out.below hbw.out)).mono ?_
        rintro e w2 ⟨rfl, hb2⟩
        have hx2 := Lib.hid (hx1.out.below hb2)
        have hbw2 := Lib.hid (below_step hbw.out hb2)
        clear hb2
        have k0 := hx2.out.c0
        have k1 := hx2.out.c1
        go_wp2_with (first | (go_at_call 78; first | (refine (calls_in (within_any _ _ _ _) ?_ ?_).mono ?_; omega; omega; rintro e w' ⟨rfl, rfl⟩) | (refine (calls_out (within_any _ _ _ _) ?_).mono ?_; omega; rintro e w' ⟨rfl, rfl⟩) | (refine (within_any _ _ _ _).mono ?_; rintro e w' ⟨rfl, rfl⟩)) | (go_at_call 29; first | (refine (calls_in (Within_any _ _ _ _) ?_ ?_).mono ?_; omega; omega; rintro e w' ⟨rfl, rfl⟩) | (refine (calls_out (Within_any _ _ _ _) ?_).mono ?_; omega; rintro e w' ⟨rfl, rfl⟩) | (refine (Within_any _ _ _ _).mono ?_; rintro e w' ⟨rfl, rfl⟩)) | (go_at_call 75; first | (refine (calls_in (isDay_any _ _) ?_ ?_).mono ?_; omega; omega; rintro e w' ⟨rfl, rfl⟩) | (refine (calls_out (isDay_any _ _) ?_).mono ?_; omega; rintro e w' ⟨rfl, rfl⟩) | (refine (isDay_any _ _).mono ?_; rintro e w' ⟨rfl, rfl⟩)) | (go_at_call 32; first | (refine (calls_in (IsDay_any _ _) ?_ ?_).mono ?_; omega; omega; rintro e w' ⟨rfl, rfl⟩) | (refine (calls_out (IsDay_any _ _) ?_).mono ?_; omega; rintro e w' ⟨rfl, rfl⟩) | (refine (IsDay_any _ _).mono ?_; rintro e w' ⟨rfl, rfl⟩)) | (go_at_call 46; first | (refine (calls_in (IsYear_any _ _) ?_ ?_).mono ?_; omega; omega; rintro e w' ⟨rfl, rfl⟩) | (refine (calls_out (IsYear_any _ _) ?_).mono ?_; omega; rintro e w' ⟨rfl, rfl⟩) | (refine (IsYear_any _ _).mono ?_; rintro e w' ⟨rfl, rfl⟩)) | (go_at_call 25; first | (refine (calls_in (IsFull_any _ _) ?_ ?_).mono ?_; omega; omega; rintro e w' ⟨rfl, rfl⟩) | (refine (calls_out (IsFull_any _ _) ?_).mono ?_; omega; rintro e w' ⟨rfl, rfl⟩) | (refine (IsFull_any _ _).mono ?_; rintro e w' ⟨rfl, rfl⟩)) | (go_at_call 69; first | (refine (calls_in (isFull_any _ _) ?_ ?_).mono ?_; omega; omega; rintro e w' ⟨rfl, rfl⟩) | (refine (calls_out (isFull_any _ _) ?_).mono ?_; omega; rintro e w' ⟨rfl, rfl⟩) | (refine (isFull_any _ _).mono ?_; rintro e w' ⟨rfl, rfl⟩)))
        go_ret
        exact ⟨rfl, hbw2.out⟩
    · have hd' : day < 0 ∨ 196000 < day := by omega
      clear hd
      go_enter Tryd.func14, Tryd.ntmps14
      go_wp2_with fail
      refine (awake_any _ (hT'.out.alloc _)).mono ?_
      rintro e w1 ⟨rfl, hb1⟩
      have hx1 := Lib.hid (hnew.out.below hb1)
      have hbw := Lib.hid (below_step (below_alloc w _) hb1)
      clear hb1
      go_wp2_with fail
      refine (Calendar8_any _ _ l _ (hl'.out.below hbw.out)).mono ?_
      rintro e w' ⟨⟨b, rfl, h8⟩, rfl⟩
      cases b
      · go_wp2
        go_ret
        exact ⟨rfl, hbw.out⟩
      have h8z := Lib.hid (h8 rfl)
      clear h8
      go_wp2_with fail
      refine (CheckHolidaysR_any _ _ l _ (hl'.out.below hbw.out)).mono ?_
      rintro e w2 ⟨rfl, hb2⟩
      have hx2 := Lib.hid (hx1.out.below hb2)
      have hbw2 := Lib.hid (below_step hbw.out hb2)
      clear hb2
      have k0 := hx2.out.c0
      have k1 := hx2.out.c1
      go_wp2_with (first | (go_at_call 78; first | (refine (calls_in (within_any _ _ _ _) ?_ ?_).mono ?_; omega; omega; rintro e w' ⟨rfl, rfl⟩) | (refine (calls_out (within_any _ _ _ _) ?_).mono ?_; omega; rintro e w' ⟨rfl, rfl⟩) | (refine (within_any _ _ _ _).mono ?_; rintro e w' ⟨rfl, rfl⟩)) | (go_at_call 29; first | (refine (calls_in (Within_any _ _ _ _) ?_ ?_).mono ?_; omega; omega; rintro e w' ⟨rfl, rfl⟩) | (refine (calls_out (Within_any _ _ _ _) ?_).mono ?_; omega; rintro e w' ⟨rfl, rfl⟩) | (refine (Within_any _ _ _ _).mono ?_; rintro e w' ⟨rfl, rfl⟩)) | (go_at_call 75; first | (refine (calls_in (isDay_any _ _) ?_ ?_).mono ?_; omega; omega; rintro e w' ⟨rfl, rfl⟩) | (refine (calls_out (isDay_any _ _) ?_).mono ?_; omega; rintro e w' ⟨rfl, rfl⟩) | (refine (isDay_any _ _).mono ?_; rintro e w' ⟨rfl, rfl⟩)) | (go_at_call 32; first | (refine (calls_in (IsDay_any _ _) ?_ ?_).mono ?_; omega; omega; rintro e w' ⟨rfl, rfl⟩) | (refine (calls_out (IsDay_any _ _) ?_).mono ?_; omega; rintro e w' ⟨rfl, rfl⟩) | (refine (IsDay_any _ _).mono ?_; rintro e w' ⟨rfl, rfl⟩)) | (go_at_call 46; first | (refine (calls_in (IsYear_any _ _) ?_ ?_).mono ?_; omega; omega; rintro e w' ⟨rfl, rfl⟩) | (refine (calls_out (IsYear_any _ _) ?_).mono ?_; omega; rintro e w' ⟨rfl, rfl⟩) | (refine (IsYear_any _ _).mono ?_; rintro e w' ⟨rfl, rfl⟩)) | (go_at_call 25; first | (refine (calls_in (IsFull_any _ _) ?_ ?_).mono ?_; omega; omega; rintro e w' ⟨rfl, rfl⟩) | (refine (calls_out (IsFull_any _ _) ?_).mono ?_; omega; rintro e w' ⟨rfl, rfl⟩) | (refine (IsFull_any _ _).mono ?_; rintro e w' ⟨rfl, rfl⟩)) | (go_at_call 69; first | (refine (calls_in (isFull_any _ _) ?_ ?_).mono ?_; omega; omega; rintro e w' ⟨rfl, rfl⟩) | (refine (calls_out (isFull_any _ _) ?_).mono ?_; omega; rintro e w' ⟨rfl, rfl⟩) | (refine (isFull_any _ _).mono ?_; rintro e w' ⟨rfl, rfl⟩)))
      go_ret
      exact ⟨rfl, hbw2.out⟩
  · have h1' : (Cal.holsErr l != 0) = true := by simpa using h0
    clear h0
    go_enter Tryd.func14, Tryd.ntmps14
    go_wp2_with fail
    refine (awake_any _ (hT'.out.alloc _)).mono ?_
    rintro e w1 ⟨rfl, hb1⟩
    have hx1 := Lib.hid (hnew.out.below hb1)
    have hbw := Lib.hid (below_step (below_alloc w _) hb1)
    clear hb1
    go_wp2_with fail
    refine (Calendar8_any _ _ l _ (hl'.out.below hbw.out)).mono ?_
    rintro e w' ⟨⟨b, rfl, h8⟩, rfl⟩
    cases b
    · go_wp2
      go_ret
      exact ⟨rfl, hbw.out⟩
    have h8z := Lib.hid (h8 rfl)
    clear h8
    go_wp2_with fail
    refine (CheckHolidaysR_any _ _ l _ (hl'.out.below hbw.out)).mono ?_
    rintro e w2 ⟨rfl, hb2⟩
    have hx2 := Lib.hid (hx1.out.below hb2)
    have hbw2 := Lib.hid (below_step hbw.out hb2)
    clear hb2
    have k0 := hx2.out.c0
    have k1 := hx2.out.c1
    go_wp2_with (first | (go_at_call 78; first | (refine (calls_in (within_any _ _ _ _) ?_ ?_).mono ?_; omega; omega; rintro e w' ⟨rfl, rfl⟩) | (refine (calls_out (within_any _ _ _ _) ?_).mono ?_; omega; rintro e w' ⟨rfl, rfl⟩) | (refine (within_any _ _ _ _).mono ?_; rintro e w' ⟨rfl, rfl⟩)) | (go_at_call 29; first | (refine (calls_in (Within_any _ _ _ _) ?_ ?_).mono ?_; omega; omega; rintro e w' ⟨rfl, rfl⟩) | (refine (calls_out (Within_any _ _ _ _) ?_).mono ?_; omega; rintro e w' ⟨rfl, rfl⟩) | (refine (Within_any _ _ _ _).mono ?_; rintro e w' ⟨rfl, rfl⟩)) | (go_at_call 75; first | (refine (calls_in (isDay_any _ _) ?_ ?_).mono ?_; omega; omega; rintro e w' ⟨rfl, rfl⟩) | (refine (calls_out (isDay_any _ _) ?_).mono ?_; omega; rintro e w' ⟨rfl, rfl⟩) | (refine (isDay_any _ _).mono ?_; rintro e w' ⟨rfl, rfl⟩)) | (go_at_call 32; first | (refine (calls_in (IsDay_any _ _) ?_ ?_).mono ?_; omega; omega; rintro e w' ⟨rfl, rfl⟩) | (refine (calls_out (IsDay_any _ _) ?_).mono ?_; omega; rintro e w' ⟨rfl, rfl⟩) | (refine (IsDay_any _ _).mono ?_; rintro e w' ⟨rfl, rfl⟩)) | (go_at_call 46; first | (refine (calls_in (IsYear_any _ _) ?_ ?_).mono ?_; omega; omega; rintro e w' ⟨rfl, rfl⟩) | (refine (calls_out (IsYear_any _ _) ?_).mono ?_; omega; rintro e w' ⟨rfl, rfl⟩) | (refine (IsYear_any _ _).mono ?_; rintro e w' ⟨rfl, rfl⟩)) | (go_at_call 25; first | (refine (calls_in (IsFull_any _ _) ?_ ?_).mono ?_; omega; omega; rintro e w' ⟨rfl, rfl⟩) | (refine (calls_out (IsFull_any _ _) ?_).mono ?_; omega; rintro e w' ⟨rfl, rfl⟩) | (refine (IsFull_any _ _).mono ?_; rintro e w' ⟨rfl, rfl⟩)) | (go_at_call 69; first | (refine (calls_in (isFull_any _ _) ?_ ?_).mono ?_; omega; omega; rintro e w' ⟨rfl, rfl⟩) | (refine (calls_out (isFull_any _ _) ?_).mono ?_; omega; rintro e w' ⟨rfl, rfl⟩) | (refine (isFull_any _ _).mono ?_; rintro e w' ⟨rfl, rfl⟩)))
    go_ret
    exact ⟨rfl, hbw2.out⟩
set_option maxRecDepth 100000 in
set_option maxHeartbeats 16000000 in
theorem RuleSteps_f (A : Option Addr) (c : Nat) (l : List Hol) (day f t m d : Int) (w : World) (hl : Hols w A l) (hT : Tab w) :
    Calls Tryd.prog 14 #[.slice A l.length c, .int .i64 day, .agg #[.int .i64 f, .int .i64 t, .int .i64 m, .int .i64 d, .bool false]] w fun e w' => e = .returned (.bool true) ∧ Below w.heap.size w w' := by
  have hl' := Lib.hid hl
  have hT' := Lib.hid hT
  have hnew := Lib.hid (StepsAt.new w f t m d false 94)
  have hHC : Hid (Cal.holsErr l = 0 → HolCalls A c l) := fun h => by
    obtain ⟨hok, hlen⟩ := Cal.holsErr_ok h
    exact holidaysOf_any A c l hok (by omega)
  clear hl hT
  by_cases h0 : Cal.holsErr l = 0
  · have h0z := Lib.hid h0
    have h1' : (Cal.holsErr l != 0) = false := by simpa using h0
    obtain ⟨hok, hlen⟩ := Cal.holsErr_ok h0
    clear h0
    by_cases hd : 0 ≤ day ∧ day ≤ 196000
    · obtain ⟨d0, d1⟩ := hd
      by_cases hf : 1 ≤ f ∧ f ≤ 40
      · obtain ⟨f0, f1⟩ := hf
        by_cases ht : 1 ≤ t ∧ t ≤ 40
        · obtain ⟨t0, t1⟩ := ht
          by_cases hp : Cal.perE m d false = 0
          · have hpz := Lib.hid hp
            have hp1 : (Cal.perE m d false != 0) = false := by simpa using hp
            obtain ⟨m0, _, p0, _, _⟩ := Cal.perE_ok hp
            clear hp
            by_cases p1 : d ≤ 60
            · by_cases m1 : m ≤ 60
              · go_enter Tryd.func14, Tryd.ntmps14
                go_wp2_with fail
                refine (awake_any _ (hT'.out.alloc _)).mono ?_
                rintro e w1 ⟨rfl, hb1⟩
                have hx1 := Lib.hid (hnew.out.below hb1)
                have hbw := Lib.hid (below_step (below_alloc w _) hb1)
                clear hb1
                go_wp2_with fail
                refine (Calendar8_any _ _ l _ (hl'.out.below hbw.out)).mono ?_
                rintro e w' ⟨⟨b, rfl, h8⟩, rfl⟩
                cases b
                · go_wp2
                  go_ret
                  exact ⟨rfl, hbw.out⟩
                have h8z := Lib.hid (h8 rfl)
                clear h8
                go_wp2_with fail
                refine (CheckHolidaysR_any _ _ l _ (hl'.out.below hbw.out)).mono ?_
                rintro e w2 ⟨rfl, hb2⟩
                have hx2 := Lib.hid (hx1.out.below hb2)
                have hbw2 := Lib.hid (below_step hbw.out hb2)
                clear hb2
                have k0 := hx2.out.c0
                have k1 := hx2.out.c1
                go_wp2_with (first | (go_at_call 78; first | (refine (calls_in (within_any _ _ _ _) ?_ ?_).mono ?_; omega; omega; rintro e w' ⟨rfl, rfl⟩) | (refine (calls_out (within_any _ _ _ _) ?_).mono ?_; omega; rintro e w' ⟨rfl, rfl⟩) | (refine (within_any _ _ _ _).mono ?_; rintro e w' ⟨rfl, rfl⟩)) | (go_at_call 29; first | (refine (calls_in (Within_any _ _ _ _) ?_ ?_).mono ?_; omega; omega; rintro e w' ⟨rfl, rfl⟩) | (refine (calls_out (Within_any _ _ _ _) ?_).mono ?_; omega; rintro e w' ⟨rfl, rfl⟩) | (refine (Within_any _ _ _ _).mono ?_; rintro e w' ⟨rfl, rfl⟩)) | (go_at_call 75; first | (refine (calls_in (isDay_any _ _) ?_ ?_).mono ?_; omega; omega; rintro e w' ⟨rfl, rfl⟩) | (refine (calls_out (isDay_any _ _) ?_).mono ?_; omega; rintro e w' ⟨rfl, rfl⟩) | (refine (isDay_any _ _).mono ?_; rintro e w' ⟨rfl, rfl⟩)) | (go_at_call 32; first | (refine (calls_in (IsDay_any _ _) ?_ ?_).mono ?_; omega; omega; rintro e w' ⟨rfl, rfl⟩) | (refine (calls_out (IsDay_any _ _) ?_).mono ?_; omega; rintro e w' ⟨rfl, rfl⟩) | (refine (IsDay_any _ _).mono ?_; rintro e w' ⟨rfl, rfl⟩)) | (go_at_call 46; first | (refine (calls_in (IsYear_any _ _) ?_ ?_).mono ?_; omega; omega; rintro e w' ⟨rfl, rfl⟩) | (refine (calls_out (IsYear_any _ _) ?_).mono ?_; omega; rintro e w' ⟨rfl, rfl⟩) | (refine (IsYear_any _ _).mono ?_; rintro e w' ⟨rfl, rfl⟩)) | (go_at_call 25; first | (refine (calls_in (IsFull_any _ _) ?_ ?_).mono ?_; omega; omega; rintro e w' ⟨rfl, rfl⟩) | (refine (calls_out (IsFull_any _ _) ?_).mono ?_; omega; rintro e w' ⟨rfl, rfl⟩) | (refine (IsFull_any _ _).mono ?_; rintro e w' ⟨rfl, rfl⟩)) | (go_at_call 69; first | (refine (calls_in (isFull_any _ _) ?_ ?_).mono ?_; omega; omega; rintro e w' ⟨rfl, rfl⟩) | (refine (calls_out (isFull_any _ _) ?_).mono ?_; omega; rintro e w' ⟨rfl, rfl⟩) | (refine (isFull_any _ _).mono ?_; rintro e w' ⟨rfl, rfl⟩)))
                have hlen20 : l.length ≤ 20 := by rcases h8z.out with h | h <;> omega
                obtain ⟨x, y, q1, q2, q3, q4, q5, q6, q7⟩ := Cal.addW_both hok hlen20 d0 d1 f0 f1 t0 t1
                have hS1 : Hid (Cal.addWorkingS l day f = (x, 0)) := by show _ = _; unfold Cal.addWorkingS; rw [if_pos h0z.out, if_pos (by omega), q1]
                have hS2 : Hid (Cal.addWorkingS l x t = (y, 0)) := by show _ = _; unfold Cal.addWorkingS; rw [if_pos h0z.out, if_pos (by omega), q2]
                have hS3 : Hid (Cal.addWorkingS l day (f + t) = (y, 0)) := by show _ = _; unfold Cal.addWorkingS; rw [if_pos h0z.out, if_pos (by omega), q3]
                have hiE : Hid (Cal.isWorkE l day = 0) := by show _ = _; unfold Cal.isWorkE; rw [if_pos h0z.out, if_pos (by omega)]
                have hiB : Hid (Cal.isWorkB l day = Cal.workB l day) := by show _ = _; unfold Cal.isWorkB; rw [if_pos hiE.out]
                have hbE : Hid (Cal.betwE l day x = 0) := by show _ = _; unfold Cal.betwE; rw [if_pos h0z.out, if_pos (by omega), if_neg (by omega)]
                have hbN : Hid (Cal.betwN l day x = (if Cal.workB l day = true then 1 else 0) + (f - 1)) := by
                  show _ = _; unfold Cal.betwN; rw [if_pos hbE.out, Cal.betw_trans (show day ≤ day + 1 by omega) q4, q6, Cal.betw_succ (Int.le_refl _), Cal.betw_self]; simp
                clear q1 q2 q3 q6 q7
                refine (AddWorking_any _ _ l hHC.out day f _ (hl'.out.below hbw2.out) (hT'.out.below hbw2.out)).mono ?_
                rintro e w3 ⟨rfl, hb⟩
                rw [hS1.out]
                have hx3 := Lib.hid (hx2.out.below hb)
                have hbw3 := Lib.hid (below_step hbw2.out hb)
                clear hb
                clear k0 k1
                have k0 := hx3.out.c0
                have k1 := hx3.out.c1
                go_wp2_with fail
                refine (AddWorking_any _ _ l hHC.out x t _ (hl'.out.below hbw3.out) (hT'.out.below hbw3.out)).mono ?_
                rintro e w4 ⟨rfl, hb⟩
                rw [hS2.out]
                have hx4 := Lib.hid (hx3.out.below hb)
                have hbw4 := Lib.hid (below_step hbw3.out hb)
                clear hb
                clear k0 k1
                have k0 := hx4.out.c0
                have k1 := hx4.out.c1
                go_wp2_with fail
                refine (AddWorking_any _ _ l hHC.out day (f + t) _ (hl'.out.below hbw4.out) (hT'.out.below hbw4.out)).mono ?_
                rintro e w5 ⟨rfl, hb⟩
                rw [hS3.out]
                have hx5 := Lib.hid (hx4.out.below hb)
                have hbw5 := Lib.hid (below_step hbw4.out hb)
                clear hb
                clear k0 k1
                have k0 := hx5.out.c0
                have k1 := hx5.out.c1
                go_wp2_with fail
                refine (IsWorking_any _ _ l day _ (hl'.out.below hbw5.out) (hT'.out.below hbw5.out)).mono ?_
                rintro e w6 ⟨rfl, hb⟩
                rw [hiE.out, hiB.out]
                have hx6 := Lib.hid (hx5.out.below hb)
                have hbw6 := Lib.hid (below_step hbw5.out hb)
                clear hb
                clear k0 k1
                have k0 := hx6.out.c0
                have k1 := hx6.out.c1
                go_wp2_with fail
                refine (WorkingBetween_any _ _ l day x _ (hl'.out.below hbw6.out) (hT'.out.below hbw6.out)).mono ?_
                rintro e w7 ⟨rfl, hb⟩
                rw [hbE.out, hbN.out]
                have hx7 := Lib.hid (hx6.out.below hb)
                have hbw7 := Lib.hid (below_step hbw6.out hb)
                clear hb
                clear k0 k1
                have k0 := hx7.out.c0
                have k1 := hx7.out.c1
                have k2 := hx7.out.c2
                have k3 := hx7.out.c3
                have k4 := hx7.out.c4
                rcases (Bool.eq_false_or_eq_true (Cal.workB l day)).symm with hw | hw
                all_goals
                  rw [hw]
                  clear hw
                  simp only [Bool.false_eq_true, if_false, if_true]
                  have hfe : ((1 + (f - 1) : Int) != f) = false := by simp; omega
                  go_wp2_with fail
                  refine (CheckPeriodR_any m d _ _).mono ?_
                  rintro e w8 ⟨rfl, hb⟩
                  have hx8 := Lib.hid (hx7.out.below hb)
                  have hbw8 := Lib.hid (below_step hbw7.out hb)
                  clear hb
                  clear k0 k1 k2 k3 k4
                  have k2 := hx8.out.c2
                  have k3 := hx8.out.c3
                  have k4 := hx8.out.c4
                  go_wp2_with fail
                all_goals
                  obtain ⟨u, v, r1, r2, r3⟩ := Cal.dl_next (k := false) hok (show l.length ≤ 20 by rcases h8z.out with h | h <;> omega) d0 d1 m0 m1 p0 p1
                  have hD1 : Hid (Cal.dlS l day m d false = (u, 0)) := by show _ = _; unfold Cal.dlS; rw [if_pos h0z.out, if_pos (by omega), if_pos hpz.out, r1]
                  have hD2 : Hid (Cal.dlS l (day + 1) m d false = (v, 0)) := by show _ = _; unfold Cal.dlS; rw [if_pos h0z.out, if_pos (by omega), if_pos hpz.out, r2]
                  clear r1 r2
                  refine (Deadline_any _ _ l day m d _ _ (hl'.out.below hbw8.out) (hT'.out.below hbw8.out)).mono ?_
                  rintro e w9 ⟨rfl, hb⟩
                  rw [hD1.out]
                  have hx9 := Lib.hid (hx8.out.below hb)
                  have hbw9 := Lib.hid (below_step hbw8.out hb)
                  clear hb
                  clear k2 k3 k4
                  have k2 := hx9.out.c2
                  have k3 := hx9.out.c3
                  have k4 := hx9.out.c4
                  go_wp2_with fail
                  refine (Deadline_any _ _ l (day + 1) m d _ _ (hl'.out.below hbw9.out) (hT'.out.below hbw9.out)).mono ?_
                  rintro e w10 ⟨rfl, hb⟩
                  rw [hD2.out]
                  have hx10 := Lib.hid (hx9.out.below hb)
                  have hbw10 := Lib.hid (below_step hbw9.out hb)
                  clear hb
                  clear k2 k3 k4
                  go_wp2_with fail
                  go_ret
                  exact ⟨rfl, hbw10.out⟩
              · go_enter Tryd.func14, Tryd.ntmps14
                go_wp2_with fail
                refine (awake_any _ (hT'.out.alloc _)).mono ?_
                rintro e w1 ⟨rfl, hb1⟩
                have hx1 := Lib.hid (hnew.out.below hb1)
                have hbw := Lib.hid (below_step (below_alloc w _) hb1)
                clear hb1
                go_wp2_with fail
                refine (Calendar8_any _ _ l _ (hl'.out.below hbw.out)).mono ?_
                rintro e w' ⟨⟨b, rfl, h8⟩, rfl⟩
                cases b
                · go_wp2
                  go_ret
                  exact ⟨rfl, hbw.out⟩
                have h8z := Lib.hid (h8 rfl)
                clear h8
                go_wp2_with fail
                refine (CheckHolidaysR_any _ _ l _ (hl'.out.below hbw.out)).mono ?_
                rintro e w2 ⟨rfl, hb2⟩
                have hx2 := Lib.hid (hx1.out.below hb2)
                have hbw2 := Lib.hid (below_step hbw.out hb2)
                clear hb2
                have k0 := hx2.out.c0
                have k1 := hx2.out.c1
                go_wp2_with (first | (go_at_call 78; first | (refine (calls_in (within_any _ _ _ _) ?_ ?_).mono ?_; omega; omega; rintro e w' ⟨rfl, rfl⟩) | (refine (calls_out (within_any _ _ _ _) ?_).mono ?_; omega; rintro e w' ⟨rfl, rfl⟩) | (refine (within_any _ _ _ _).mono ?_; rintro e w' ⟨rfl, rfl⟩)) | (go_at_call 29; first | (refine (calls_in (Within_any _ _ _ _) ?_ ?_).mono ?_; omega; omega; rintro e w' ⟨rfl, rfl⟩) | (refine (calls_out (Within_any _ _ _ _) ?_).mono ?_; omega; rintro e w' ⟨rfl, rfl⟩) | (refine (Within_any _ _ _ _).mono ?_; rintro e w' ⟨rfl, rfl⟩)) | (go_at_call 75; first | (refine (calls_in (isDay_any _ _) ?_ ?_).mono ?_; omega; omega; rintro e w' ⟨rfl, rfl⟩) | (refine (calls_out (isDay_any _ _) ?_).mono ?_; omega; rintro e w' ⟨rfl, rfl⟩) | (refine (isDay_any _ _).mono ?_; rintro e w' ⟨rfl, rfl⟩)) | (go_at_call 32; first | (refine (calls_in (IsDay_any _ _) ?_ ?_).mono ?_; omega; omega; rintro e w' ⟨rfl, rfl⟩) | (refine (calls_out (IsDay_any _ _) ?_).mono ?_; omega; rintro e w' ⟨rfl, rfl⟩) | (refine (IsDay_any _ _).mono ?_; rintro e w' ⟨rfl, rfl⟩)) | (go_at_call 46; first | (refine (calls_in (IsYear_any _ _) ?_ ?_).mono ?_; omega; omega; rintro e w' ⟨rfl, rfl⟩) | (refine (calls_out (IsYear_any _ _) ?_).mono ?_; omega; rintro e w' ⟨rfl, rfl⟩) | (refine (IsYear_any _ _).mono ?_; rintro e w' ⟨rfl, rfl⟩)) | (go_at_call 25; first | (refine (calls_in (IsFull_any _ _) ?_ ?_).mono ?_; omega; omega; rintro e w' ⟨rfl, rfl⟩) | (refine (calls_out (IsFull_any _ _) ?_).mono ?_; omega; rintro e w' ⟨rfl, rfl⟩) | (refine (IsFull_any _ _).mono ?_; rintro e w' ⟨rfl, rfl⟩)) | (go_at_call 69; first | (refine (calls_in (isFull_any _ _) ?_ ?_).mono ?_; omega; omega; rintro e w' ⟨rfl, rfl⟩) | (refine (calls_out (isFull_any _ _) ?_).mono ?_; omega; rintro e w' ⟨rfl, rfl⟩) | (refine (isFull_any _ _).mono ?_; rintro e w' ⟨rfl, rfl⟩)))
                have hlen20 : l.length ≤ 20 := by rcases h8z.out with h | h <;> omega
                obtain ⟨x, y, q1, q2, q3, q4, q5, q6, q7⟩ := Cal.addW_both hok hlen20 d0 d1 f0 f1 t0 t1
                have hS1 : Hid (Cal.addWorkingS l day f = (x, 0)) := by show _ = _; unfold Cal.addWorkingS; rw [if_pos h0z.out, if_pos (by omega), q1]
                have hS2 : Hid (Cal.addWorkingS l x t = (y, 0)) := by show _ = _; unfold Cal.addWorkingS; rw [if_pos h0z.out, if_pos (by omega), q2]
                have hS3 : Hid (Cal.addWorkingS l day (f + t) = (y, 0)) := by show _ = _; unfold Cal.addWorkingS; rw [if_pos h0z.out, if_pos (by omega), q3]
                have hiE : Hid (Cal.isWorkE l day = 0) := by show _ = _; unfold Cal.isWorkE; rw [if_pos h0z.out, if_pos (by omega)]
                have hiB : Hid (Cal.isWorkB l day = Cal.workB l day) := by show _ = _; unfold Cal.isWorkB; rw [if_pos hiE.out]
                have hbE : Hid (Cal.betwE l day x = 0) := by show _ = _; unfold Cal.betwE; rw [if_pos h0z.out, if_pos (by omega), if_neg (by omega)]
                have hbN : Hid (Cal.betwN l day x = (if Cal.workB l day = true then 1 else 0) + (f - 1)) := by
                  show _ = _; unfold Cal.betwN; rw [if_pos hbE.out, Cal.betw_trans (show day ≤ day + 1 by omega) q4, q6, Cal.betw_succ (Int.le_refl _), Cal.betw_self]; simp
                clear q1 q2 q3 q6 q7
                refine (AddWorking_any _ _ l hHC.out day f _ (hl'.out.below hbw2.out) (hT'.out.below hbw2.out)).mono ?_
                rintro e w3 ⟨rfl, hb⟩
                rw [hS1.out]
                have hx3 := Lib.hid (hx2.out.below hb)
                have hbw3 := Lib.hid (below_step hbw2.out hb)
                clear hb
                clear k0 k1
                have k0 := hx3.out.c0
                have k1 := hx3.out.c1
                go_wp2_with fail
                refine (AddWorking_any _ _ l hHC.out x t _ (hl'.out.below hbw3.out) (hT'.out.below hbw3.out)).mono ?_
                rintro e w4 ⟨rfl, hb⟩
                rw [hS2.out]
                have hx4 := Lib.hid (hx3.out.below hb)
                have hbw4 := Lib.hid (below_step hbw3.out hb)
                clear hb
                clear k0 k1
                have k0 := hx4.out.c0
                have k1 := hx4.out.c1
                go_wp2_with fail
                refine (AddWorking_any _ _ l hHC.out day (f + t) _ (hl'.out.below hbw4.out) (hT'.out.below hbw4.out)).mono ?_
                rintro e w5 ⟨rfl, hb⟩
                rw [hS3.out]
                have hx5 := Lib.hid (hx4.out.below hb)
                have hbw5 := Lib.hid (below_step hbw4.out hb)
                clear hb
                clear k0 k1
                have k0 := hx5.out.c0
                have k1 := hx5.out.c1
                go_wp2_with fail
                refine (IsWorking_any _ _ l day _ (hl'.out.below hbw5.out) (hT'.out.below hbw5.out)).mono ?_
                rintro e w6 ⟨rfl, hb⟩
                rw [hiE.out, hiB.out]
                have hx6 := Lib.hid (hx5.out.below hb)
                have hbw6 := Lib.hid (below_step hbw5.out hb)
                clear hb
                clear k0 k1
                have k0 := hx6.out.c0
                have k1 := hx6.out.c1
                go_wp2_with fail
                refine (WorkingBetween_any _ _ l day x _ (hl'.out.below hbw6.out) (hT'.out.below hbw6.out)).mono ?_
                rintro e w7 ⟨rfl, hb⟩
                rw [hbE.out, hbN.out]
                have hx7 := Lib.hid (hx6.out.below hb)
                have hbw7 := Lib.hid (below_step hbw6.out hb)
                clear hb
                clear k0 k1
                have k0 := hx7.out.c0
                have k1 := hx7.out.c1
                have k2 := hx7.out.c2
                have k3 := hx7.out.c3
                have k4 := hx7.out.c4
                rcases (Bool.eq_false_or_eq_true (Cal.workB l day)).symm with hw | hw
                all_goals
                  rw [hw]
                  clear hw
                  simp only [Bool.false_eq_true, if_false, if_true]
                  have hfe : ((1 + (f - 1) : Int) != f) = false := by simp; omega
                  go_wp2_with fail
                  refine (CheckPeriodR_any m d _ _).mono ?_
                  rintro e w8 ⟨rfl, hb⟩
                  have hx8 := Lib.hid (hx7.out.below hb)
                  have hbw8 := Lib.hid (below_step hbw7.out hb)
                  clear hb
                  clear k0 k1 k2 k3 k4
                  have k2 := hx8.out.c2
                  have k3 := hx8.out.c3
                  have k4 := hx8.out.c4
                  go_wp2_with fail
                all_goals
                  go_ret
                  exact ⟨rfl, hbw8.out⟩
            · go_enter Tryd.func14, Tryd.ntmps14
              go_wp2_with fail
              refine (awake_any _ (hT'.out.alloc _)).mono ?_
              rintro e w1 ⟨rfl, hb1⟩
              have hx1 := Lib.hid (hnew.out.below hb1)
              have hbw := Lib.hid (below_step (below_alloc w _) hb1)
              clear hb1
              go_wp2_with fail
              refine (Calendar8_any _ _ l _ (hl'.out.below hbw.out)).mono ?_
              rintro e w' ⟨⟨b, rfl, h8⟩, rfl⟩
              cases b
              · go_wp2
                go_ret
                exact ⟨rfl, hbw.out⟩
              have h8z := Lib.hid (h8 rfl)
              clear h8
              go_wp2_with fail
              refine (CheckHolidaysR_any _ _ l _ (hl'.out.below hbw.out)).mono ?_
              rintro e w2 ⟨rfl, hb2⟩
              have hx2 := Lib.hid (hx1.out.below hb2)
              have hbw2 := Lib.hid (below_step hbw.out hb2)
              clear hb2
              have k0 := hx2.out.c0
              have k1 := hx2.out.c1
              go_wp2_with (first | (go_at_call 78; first | (refine (calls_in (within_any _ _ _ _) ?_ ?_).mono ?_; omega; omega; rintro e w' ⟨rfl, rfl⟩) | (refine (calls_out (within_any _ _ _ _) ?_).mono ?_; omega; rintro e w' ⟨rfl, rfl⟩) | (refine (within_any _ _ _ _).mono ?_; rintro e w' ⟨rfl, rfl⟩)) | (go_at_call 29; first | (refine (calls_in (Within_any _ _ _ _) ?_ ?_).mono ?_; omega; omega; rintro e w' ⟨rfl, rfl⟩) | (refine (calls_out (Within_any _ _ _ _) ?_).mono ?_; omega; rintro e w' ⟨rfl, rfl⟩) | (refine (Within_any _ _ _ _).mono ?_; rintro e w' ⟨rfl, rfl⟩)) | (go_at_call 75; first | (refine (calls_in (isDay_any _ _) ?_ ?_).mono ?_; omega; omega; rintro e w' ⟨rfl, rfl⟩) | (refine (calls_out (isDay_any _ _) ?_).mono ?_; omega; rintro e w' ⟨rfl, rfl⟩) | (refine (isDay_any _ _).mono ?_; rintro e w' ⟨rfl, rfl⟩)) | (go_at_call 32; first | (refine (calls_in (IsDay_any _ _) ?_ ?_).mono ?_; omega; omega; rintro e w' ⟨rfl, rfl⟩) | (refine (calls_out (IsDay_any _ _) ?_).mono ?_; omega; rintro e w' ⟨rfl, rfl⟩) | (refine (IsDay_any _ _).mono ?_; rintro e w' ⟨rfl, rfl⟩)) | (go_at_call 46; first | (refine (calls_in (IsYear_any _ _) ?_ ?_).mono ?_; omega; omega; rintro e w' ⟨rfl, rfl⟩) | (refine (calls_out (IsYear_any _ _) ?_).mono ?_; omega; rintro e w' ⟨rfl, rfl⟩) | (refine (IsYear_any _ _).mono ?_; rintro e w' ⟨rfl, rfl⟩)) | (go_at_call 25; first | (refine (calls_in (IsFull_any _ _) ?_ ?_).mono ?_; omega; omega; rintro e w' ⟨rfl, rfl⟩) | (refine (calls_out (IsFull_any _ _) ?_).mono ?_; omega; rintro e w' ⟨rfl, rfl⟩) | (refine (IsFull_any _ _).mono ?_; rintro e w' ⟨rfl, rfl⟩)) | (go_at_call 69; first | (refine (calls_in (isFull_any _ _) ?_ ?_).mono ?_; omega; omega; rintro e w' ⟨rfl, rfl⟩) | (refine (calls_out (isFull_any _ _) ?_).mono ?_; omega; rintro e w' ⟨rfl, rfl⟩) | (refine (isFull_any _ _).mono ?_; rintro e w' ⟨rfl, rfl⟩)))
              have hlen20 : l.length ≤ 20 := by rcases h8z.out with h | h <;> omega
              obtain ⟨x, y, q1, q2, q3, q4, q5, q6, q7⟩ := Cal.addW_both hok hlen20 d0 d1 f0 f1 t0 t1
              have hS1 : Hid (Cal.addWorkingS l day f = (x, 0)) := by show _ = _; unfold Cal.addWorkingS; rw [if_pos h0z.out, if_pos (by omega), q1]
              have hS2 : Hid (Cal.addWorkingS l x t = (y, 0)) := by show _ = _; unfold Cal.addWorkingS; rw [if_pos h0z.out, if_pos (by omega), q2]
              have hS3 : Hid (Cal.addWorkingS l day (f + t) = (y, 0)) := by show _ = _; unfold Cal.addWorkingS; rw [if_pos h0z.out, if_pos (by omega), q3]
              have hiE : Hid (Cal.isWorkE l day = 0) := by show _ = _; unfold Cal.isWorkE; rw [if_pos h0z.out, if_pos (by omega)]
              have hiB : Hid (Cal.isWorkB l day = Cal.workB l day) := by show _ = _; unfold Cal.isWorkB; rw [if_pos hiE.out]
              have hbE : Hid (Cal.betwE l day x = 0) := by show _ = _; unfold Cal.betwE; rw [if_pos h0z.out, if_pos (by omega), if_neg (by omega)]
              have hbN : Hid (Cal.betwN l day x = (if Cal.workB l day = true then 1 else 0) + (f - 1)) := by
                show _ = _; unfold Cal.betwN; rw [if_pos hbE.out, Cal.betw_trans (show day ≤ day + 1 by omega) q4, q6, Cal.betw_succ (Int.le_refl _), Cal.betw_self]; simp
              clear q1 q2 q3 q6 q7
              refine (AddWorking_any _ _ l hHC.out day f _ (hl'.out.below hbw2.out) (hT'.out.below hbw2.out)).mono ?_
              rintro e w3 ⟨rfl, hb⟩
              rw [hS1.out]
              have hx3 := Lib.hid (hx2.out.below hb)
              have hbw3 := Lib.hid (below_step hbw2.out hb)
              clear hb
              clear k0 k1
              have k0 := hx3.out.c0
              have k1 := hx3.out.c1
              go_wp2_with fail
              refine (AddWorking_any _ _ l hHC.out x t _ (hl'.out.below hbw3.out) (hT'.out.below hbw3.out)).mono ?_
              rintro e w4 ⟨rfl, hb⟩
              rw [hS2.out]
              have hx4 := Lib.hid (hx3.out.below hb)
              have hbw4 := Lib.hid (below_step hbw3.out hb)
              clear hb
              clear k0 k1
              have k0 := hx4.out.c0
              have k1 := hx4.out.c1
              go_wp2_with fail
              refine (AddWorking_any _ _ l hHC.out day (f + t) _ (hl'.out.below hbw4.out) (hT'.out.below hbw4.out)).mono ?_
              rintro e w5 ⟨rfl, hb⟩
              rw [hS3.out]
              have hx5 := Lib.hid (hx4.out.below hb)
              have hbw5 := Lib.hid (below_step hbw4.out hb)
              clear hb
              clear k0 k1
              have k0 := hx5.out.c0
              have k1 := hx5.out.c1
              go_wp2_with fail
              refine (IsWorking_any _ _ l day _ (hl'.out.below hbw5.out) (hT'.out.below hbw5.out)).mono ?_
              rintro e w6 ⟨rfl, hb⟩
              rw [hiE.out, hiB.out]
              have hx6 := Lib.hid (hx5.out.below hb)
              have hbw6 := Lib.hid (below_step hbw5.out hb)
              clear hb
              clear k0 k1
              have k0 := hx6.out.c0
              have k1 := hx6.out.c1
              go_wp2_with fail
              refine (WorkingBetween_any _ _ l day x _ (hl'.out.below hbw6.out) (hT'.out.below hbw6.out)).mono ?_
              rintro e w7 ⟨rfl, hb⟩
              rw [hbE.out, hbN.out]
              have hx7 := Lib.hid (hx6.out.below hb)
              have hbw7 := Lib.hid (below_step hbw6.out hb)
              clear hb
              clear k0 k1
              have k0 := hx7.out.c0
              have k1 := hx7.out.c1
              have k2 := hx7.out.c2
              have k3 := hx7.out.c3
              have k4 := hx7.out.c4
              rcases (Bool.eq_false_or_eq_true (Cal.workB l day)).symm with hw | hw
              all_goals
                rw [hw]
                clear hw
                simp only [Bool.false_eq_true, if_false, if_true]
                have hfe : ((1 + (f - 1) : Int) != f) = false := by simp; omega
                go_wp2_with fail
                refine (CheckPeriodR_any m d _ _).mono ?_
                rintro e w8 ⟨rfl, hb⟩
                have hx8 := Lib.hid (hx7.out.below hb)
                have hbw8 := Lib.hid (below_step hbw7.out hb)
                clear hb
                clear k0 k1 k2 k3 k4
                have k2 := hx8.out.c2
                have k3 := hx8.out.c3
                have k4 := hx8.out.c4
                go_wp2_with fail
              all_goals
                go_ret
                exact ⟨rfl, hbw8.out⟩
          · have hp1 : (Cal.perE m d false != 0) = true := by simpa using hp
            clear hp
            go_enter Tryd.func14, Tryd.ntmps14
            go_wp2_with fail
            refine (awake_any _ (hT'.out.alloc _)).mono ?_
            rintro e w1 ⟨rfl, hb1⟩
            have hx1 := Lib.hid (hnew.out.below hb1)
            have hbw := Lib.hid (below_step (below_alloc w _) hb1)
            clear hb1
            go_wp2_with fail
            refine (Calendar8_any _ _ l _ (hl'.out.below hbw.out)).mono ?_
            rintro e w' ⟨⟨b, rfl, h8⟩, rfl⟩
            cases b
            · go_wp2
              go_ret
              exact ⟨rfl, hbw.out⟩
            have h8z := Lib.hid (h8 rfl)
            clear h8
            go_wp2_with fail
            refine (CheckHolidaysR_any _ _ l _ (hl'.out.below hbw.out)).mono ?_
            rintro e w2 ⟨rfl, hb2⟩
            have hx2 := Lib.hid (hx1.out.below hb2)
            have hbw2 := Lib.hid (below_step hbw.out hb2)
            clear hb2
            have k0 := hx2.out.c0
            have k1 := hx2.out.c1
            go_wp2_with (first | (go_at_call 78; first | (refine (calls_in (within_any _ _ _ _) ?_ ?_).mono ?_; omega; omega; rintro e w' ⟨rfl, rfl⟩) | (refine (calls_out (within_any _ _ _ _) ?_).mono ?_; omega; rintro e w' ⟨rfl, rfl⟩) | (refine (within_any _ _ _ _).mono ?_; rintro e w' ⟨rfl, rfl⟩)) | (go_at_call 29; first | (refine (calls_in (Within_any _ _ _ _) ?_ ?_).mono ?_; omega; omega; rintro e w' ⟨rfl, rfl⟩) | (refine (calls_out (Within_any _ _ _ _) ?_).mono ?_; omega; rintro e w' ⟨rfl, rfl⟩) | (refine (Within_any _ _ _ _).mono ?_; rintro e w' ⟨rfl, rfl⟩)) | (go_at_call 75; first | (refine (calls_in (isDay_any _ _) ?_ ?_).mono ?_; omega; omega; rintro e w' ⟨rfl, rfl⟩) | (refine (calls_out (isDay_any _ _) ?_).mono ?_; omega; rintro e w' ⟨rfl, rfl⟩) | (refine (isDay_any _ _).mono ?_; rintro e w' ⟨rfl, rfl⟩)) | (go_at_call 32; first | (refine (calls_in (IsDay_any _ _) ?_ ?_).mono ?_; omega; omega; rintro e w' ⟨rfl, rfl⟩) | (refine (calls_out (IsDay_any _ _) ?_).mono ?_; omega; rintro e w' ⟨rfl, rfl⟩) | (refine (IsDay_any _ _).mono ?_; rintro e w' ⟨rfl, rfl⟩)) | (go_at_call 46; first | (refine (calls_in (IsYear_any _ _) ?_ ?_).mono ?_; omega; omega; rintro e w' ⟨rfl, rfl⟩) | (refine (calls_out (IsYear_any _ _) ?_).mono ?_; omega; rintro e w' ⟨rfl, rfl⟩) | (refine (IsYear_any _ _).mono ?_; rintro e w' ⟨rfl, rfl⟩)) | (go_at_call 25; first | (refine (calls_in (IsFull_any _ _) ?_ ?_).mono ?_; omega; omega; rintro e w' ⟨rfl, rfl⟩) | (refine (calls_out (IsFull_any _ _) ?_).mono ?_; omega; rintro e w' ⟨rfl, rfl⟩) | (refine (IsFull_any _ _).mono ?_; rintro e w' ⟨rfl, rfl⟩)) | (go_at_call 69; first | (refine (calls_in (isFull_any _ _) ?_ ?_).mono ?_; omega; omega; rintro e w' ⟨rfl, rfl⟩) | (refine (calls_out (isFull_any _ _) ?_).mono ?_; omega; rintro e w' ⟨rfl, rfl⟩) | (refine (isFull_any _ _).mono ?_; rintro e w' ⟨rfl, rfl⟩)))
            have hlen20 : l.length ≤ 20 := by rcases h8z.out with h | h <;> omega
            obtain ⟨x, y, q1, q2, q3, q4, q5, q6, q7⟩ := Cal.addW_both hok hlen20 d0 d1 f0 f1 t0 t1
            have hS1 : Hid (Cal.addWorkingS l day f = (x, 0)) := by show _ = _; unfold Cal.addWorkingS; rw [if_pos h0z.out, if_pos (by omega), q1]
            have hS2 : Hid (Cal.addWorkingS l x t = (y, 0)) := by show _ = _; unfold Cal.addWorkingS; rw [if_pos h0z.out, if_pos (by omega), q2]
            have hS3 : Hid (Cal.addWorkingS l day (f + t) = (y, 0)) := by show _ = _; unfold Cal.addWorkingS; rw [if_pos h0z.out, if_pos (by omega), q3]
            have hiE : Hid (Cal.isWorkE l day = 0) := by show _ = _; unfold Cal.isWorkE; rw [if_pos h0z.out, if_pos (by omega)]
            have hiB : Hid (Cal.isWorkB l day = Cal.workB l day) := by show _ = _; unfold Cal.isWorkB; rw [if_pos hiE.out]
            have hbE : Hid (Cal.betwE l day x = 0) := by show _ = _; unfold Cal.betwE; rw [if_pos h0z.out, if_pos (by omega), if_neg (by omega)]
            have hbN : Hid (Cal.betwN l day x = (if Cal.workB l day = true then 1 else 0) + (f - 1)) := by
              show _ = _; unfold Cal.betwN; rw [if_pos hbE.out, Cal.betw_trans (show day ≤ day + 1 by omega) q4, q6, Cal.betw_succ (Int.le_refl _), Cal.betw_self]; simp
            clear q1 q2 q3 q6 q7
            refine (AddWorking_any _ _ l hHC.out day f _ (hl'.out.below hbw2.out) (hT'.out.below hbw2.out)).mono ?_
            rintro e w3 ⟨rfl, hb⟩
            rw [hS1.out]
            have hx3 := Lib.hid (hx2.out.below hb)
            have hbw3 := Lib.hid (below_step hbw2.out hb)
            clear hb
            clear k0 k1
            have k0 := hx3.out.c0
            have k1 := hx3.out.c1
            go_wp2_with fail
            refine (AddWorking_any _ _ l hHC.out x t _ (hl'.out.below hbw3.out) (hT'.out.below hbw3.out)).mono ?_
            rintro e w4 ⟨rfl, hb⟩
            rw [hS2.out]
            have hx4 := Lib.hid (hx3.out.below hb)
            have hbw4 := Lib.hid (below_step hbw3.out hb)
            clear hb
            clear k0 k1
            have k0 := hx4.out.c0
            have k1 := hx4.out.c1
            go_wp2_with fail
            refine (AddWorking_any _ _ l hHC.out day (f + t) _ (hl'.out.below hbw4.out) (hT'.out.below hbw4.out)).mono ?_
            rintro e w5 ⟨rfl, hb⟩
            rw [hS3.out]
            have hx5 := Lib.hid (hx4.out.below hb)
            have hbw5 := Lib.hid (below_step hbw4.out hb)
            clear hb
            clear k0 k1
            have k0 := hx5.out.c0
            have k1 := hx5.out.c1
            go_wp2_with fail
            refine (IsWorking_any _ _ l day _ (hl'.out.below hbw5.out) (hT'.out.below hbw5.out)).mono ?_
            rintro e w6 ⟨rfl, hb⟩
            rw [hiE.out, hiB.out]
            have hx6 := Lib.hid (hx5.out.below hb)
            have hbw6 := Lib.hid (below_step hbw5.out hb)
            clear hb
            clear k0 k1
            have k0 := hx6.out.c0
            have k1 := hx6.out.c1
            go_wp2_with fail
            refine (WorkingBetween_any _ _ l day x _ (hl'.out.below hbw6.out) (hT'.out.below hbw6.out)).mono ?_
            rintro e w7 ⟨rfl, hb⟩
            rw [hbE.out, hbN.out]
            have hx7 := Lib.hid (hx6.out.below hb)
            have hbw7 := Lib.hid (below_step hbw6.out hb)
            clear hb
            clear k0 k1
            have k0 := hx7.out.c0
            have k1 := hx7.out.c1
            have k2 := hx7.out.c2
            have k3 := hx7.out.c3
            have k4 := hx7.out.c4
            rcases (Bool.eq_false_or_eq_true (Cal.workB l day)).symm with hw | hw
            all_goals
              rw [hw]
              clear hw
              simp only [Bool.false_eq_true, if_false, if_true]
              have hfe : ((1 + (f - 1) : Int) != f) = false := by simp; omega
              go_wp2_with fail
              refine (CheckPeriodR_any m d _ _).mono ?_
              rintro e w8 ⟨rfl, hb⟩
              have hx8 := Lib.hid (hx7.out.below hb)
              have hbw8 := Lib.hid (below_step hbw7.out hb)
              clear hb
              clear k0 k1 k2 k3 k4
              have k2 := hx8.out.c2
              have k3 := hx8.out.c3
              have k4 := hx8.out.c4
              go_wp2_with fail
            all_goals
              go_ret
              exact ⟨rfl, hbw8.out⟩
        · have ht' : t < 1 ∨ 40 < t := by omega
          clear ht
          go_enter Tryd.func14, Tryd.ntmps14
          go_wp2_with fail
          refine (awake_any _ (hT'.out.alloc _)).mono ?_
          rintro e w1 ⟨rfl, hb1⟩
          have hx1 := Lib.hid (hnew.out.below hb1)
          have hbw := Lib.hid (below_step (below_alloc w _) hb1)
          clear hb1
          go_wp2_with fail
          refine (Calendar8_any _ _ l _ (hl'.out.below hbw.out)).mono ?_
          rintro e w' ⟨⟨b, rfl, h8⟩, rfl⟩
          cases b
          · go_wp2
            go_ret
            exact ⟨rfl, hbw.out⟩
          have h8z := Lib.hid (h8 rfl)
          clear h8
          go_wp2_with fail
          refine (CheckHolidaysR_any _ _ l _ (hl'.out.below hbw.out)).mono ?_
          rintro e w2 ⟨rfl, hb2⟩
          have hx2 := Lib.hid (hx1.out.below hb2)
          have hbw2 := Lib.hid (below_step hbw.out hb2)
          clear hb2
          have k0 := hx2.out.c0
          have k1 := hx2.out.c1
          go_wp2_with (first | (go_at_call 78; first | (refine (calls_in (within_any _ _ _ _) ?_ ?_).mono ?_; omega; omega; rintro e w' ⟨rfl, rfl⟩) | (refine (calls_out (within_any _ _ _ _) ?_).mono ?_; omega; rintro e w' ⟨rfl, rfl⟩) | (refine (within_any _ _ _ _).mono ?_; rintro e w' ⟨rfl, rfl⟩)) | (go_at_call 29; first | (refine (calls_in (Within_any _ _ _ _) ?_ ?_).mono ?_; omega; omega; rintro e w' ⟨rfl, rfl⟩) | (refine (calls_out (Within_any _ _ _ _) ?_).mono ?_; omega; rintro e w' ⟨rfl, rfl⟩) | (refine (Within_any _ _ _ _).mono ?_; rintro e w' ⟨rfl, rfl⟩)) | (go_at_call 75; first | (refine (calls_in (isDay_any _ _) ?_ ?_).mono ?_; omega; omega; rintro e w' ⟨rfl, rfl⟩) | (refine (calls_out (isDay_any _ _) ?_).mono ?_; omega; rintro e w' ⟨rfl, rfl⟩) | (refine (isDay_any _ _).mono ?_; rintro e w' ⟨rfl, rfl⟩)) | (go_at_call 32; first | (refine (calls_in (IsDay_any _ _) ?_ ?_).mono ?_; omega; omega; rintro e w' ⟨rfl, rfl⟩) | (refine (calls_out (IsDay_any _ _) ?_).mono ?_; omega; rintro e w' ⟨rfl, rfl⟩) | (refine (IsDay_any _ _).mono ?_; rintro e w' ⟨rfl, rfl⟩)) | (go_at_call 46; first | (refine (calls_in (IsYear_any _ _) ?_ ?_).mono ?_; omega; omega; rintro e w' ⟨rfl, rfl⟩) | (refine (calls_out (IsYear_any _ _) ?_).mono ?_; omega; rintro e w' ⟨rfl, rfl⟩) | (refine (IsYear_any _ _).mono ?_; rintro e w' ⟨rfl, rfl⟩)) | (go_at_call 25; first | (refine (calls_in (IsFull_any _ _) ?_ ?_).mono ?_; omega; omega; rintro e w' ⟨rfl, rfl⟩) | (refine (calls_out (IsFull_any _ _) ?_).mono ?_; omega; rintro e w' ⟨rfl, rfl⟩) | (refine (IsFull_any _ _).mono ?_; rintro e w' ⟨rfl, rfl⟩)) | (go_at_call 69; first | (refine (calls_in (isFull_any _ _) ?_ ?_).mono ?_; omega; omega; rintro e w' ⟨rfl, rfl⟩) | (refine (calls_out (isFull_any _ _) ?_).mono ?_; omega; rintro e w' ⟨rfl, rfl⟩) | (refine (isFull_any _ _).mono ?_; rintro e w' ⟨rfl, rfl⟩)))
          go_ret
          exact ⟨rfl, hbw2.out⟩
      · have hf' : f < 1 ∨ 40 < f := by omega
        clear hf
        go_enter Tryd.func14, Tryd.ntmps14
        go_wp2_with fail
        refine (awake_any _ (hT'.out.alloc _)).mono ?_
        rintro e w1 ⟨rfl, hb1⟩
        have hx1 := Lib.hid (hnew.out.below hb1)
        have hbw := Lib.hid (below_step (below_alloc w _) hb1)
        clear hb1
        go_wp2_with fail
        refine (Calendar8_any _ _ l _ (hl'.out.below hbw.out)).mono ?_
        rintro e w' ⟨⟨b, rfl, h8⟩, rfl⟩
        cases b
        · go_wp2
          go_ret
          exact ⟨rfl, hbw.out⟩
        have h8z := Lib.hid (h8 rfl)
        clear h8
        go_wp2_with fail
        refine (CheckHolidaysR_any _ _ l _ (hl'.out.below hbw.out)).mono ?_
        rintro e w2 ⟨rfl, hb2⟩
        have hx2 := Lib.hid (hx1.out.below hb2)
        have hbw2 := Lib.hid (below_step hbw.out hb2)
        clear hb2
        have k0 := hx2.out.c0
        have k1 := hx2.out.c1
        go_wp2_with (first | (go_at_call 78; first | (refine (calls_in (within_any _ _ _ _) ?_ ?_).mono ?_; omega; omega; rintro e w' ⟨rfl, rfl⟩) | (refine (calls_out (within_any _ _ _ _) ?_).mono ?_; omega; rintro e w' ⟨rfl, rfl⟩) | (refine (within_any _ _ _ _).mono ?_; rintro e w' ⟨rfl, rfl⟩)) | (go_at_call 29; first | (refine (calls_in (Within_any _ _ _ _) ?_ ?_).mono ?_; omega; omega; rintro e w' ⟨rfl, rfl⟩) | (refine (calls_out (Within_any _ _ _ _) ?_).mono ?_; omega; rintro e w' ⟨rfl, rfl⟩) | (refine (Within_any _ _ _ _).mono ?_; rintro e w' ⟨rfl, rfl⟩)) | (go_at_call 75; first | (refine (calls_in (isDay_any _ _) ?_ ?_).mono ?_; omega; omega; rintro e w' ⟨rfl, rfl⟩) | (refine (calls_out (isDay_any _ _) ?_).mono ?_; omega; rintro e w' ⟨rfl, rfl⟩) | (refine (isDay_any _ _).mono ?_; rintro e w' ⟨rfl, rfl⟩)) | (go_at_call 32; first | (refine (calls_in (IsDay_any _ _) ?_ ?_).mono ?_; omega; omega; rintro e w' ⟨rfl, rfl⟩) | (refine (calls_out (IsDay_any _ _) ?_).mono ?_; omega; rintro e w' ⟨rfl, rfl⟩) | (refine (IsDay_any _ _).mono ?_; rintro e w' ⟨rfl, rfl⟩)) | (go_at_call 46; first | (refine (calls_in (IsYear_any _ _) ?_ ?_).mono ?_; omega; omega; rintro e w' ⟨rfl, rfl⟩) | (refine (calls_out (IsYear_any _ _) ?_).mono ?_; omega; rintro e w' ⟨rfl, rfl⟩) | (refine (IsYear_any _ _).mono ?_; rintro e w' ⟨rfl, rfl⟩)) | (go_at_call 25; first | (refine (calls_in (IsFull_any _ _) ?_ ?_).mono ?_; omega; omega; rintro e w' ⟨rfl, rfl⟩) | (refine (calls_out (IsFull_any _ _) ?_).mono ?_; omega; rintro e w' ⟨rfl, rfl⟩) | (refine (IsFull_any _ _).mono ?_; rintro e w' ⟨rfl, rfl⟩)) | (go_at_call 69; first | (refine (calls_in (isFull_any _ _) ?_ ?_).mono ?_; omega; omega; rintro e w' ⟨rfl, rfl⟩) | (refine (calls_out (isFull_any _ _) ?_).mono ?_; omega; rintro e w' ⟨rfl, rfl⟩) | (refine (isFull_any _ _).mono ?_; rintro e w' ⟨rfl, rfl⟩)))
        go_ret
        exact ⟨rfl, hbw2.out⟩
    · have hd' : day < 0 ∨ 196000 < day := by omega
      clear hd
      go_enter Tryd.func14, Tryd.ntmps14
      go_wp2_with fail
      refine (awake_any _ (hT'.out.alloc _)).mono ?_
      rintro e w1 ⟨rfl, hb1⟩
      have hx1 := Lib.hid (hnew.out.below hb1)
      have hbw := Lib.hid (below_step (below_alloc w _) hb1)
      clear hb1
      go_wp2_with fail
      refine (Calendar8_any _ _ l _ (hl'.out.below hbw.out)).mono ?_
      rintro e w' ⟨⟨b, rfl, h8⟩, rfl⟩
      cases b
      · go_wp2
        go_ret
        exact ⟨rfl, hbw.out⟩
      have h8z := Lib.hid (h8 rfl)
      clear h8
      go_wp2_with fail
      refine (CheckHolidaysR_any _ _ l _ (hl'.out.below hbw.out)).mono ?_
      rintro e w2 ⟨rfl, hb2⟩
      have hx2 := Lib.hid (hx1.out.below hb2)
      have hbw2 := Lib.hid (below_step hbw.out hb2)
      clear hb2
      have k0 := hx2.out.c0
      have k1 := hx2.out.c1
      go_wp2_with (first | (go_at_call 78; first | (refine (calls_in (within_any _ _ _ _) ?_ ?_).mono ?_; omega; omega; rintro e w' ⟨rfl, rfl⟩) | (refine (calls_out (within_any _ _ _ _) ?_).mono ?_; omega; rintro e w' ⟨rfl, rfl⟩) | (refine (within_any _ _ _ _).mono ?_; rintro e w' ⟨rfl, rfl⟩)) | (go_at_call 29; first | (refine (calls_in (Within_any _ _ _ _) ?_ ?_).mono ?_; omega; omega; rintro e w' ⟨rfl, rfl⟩) | (refine (calls_out (Within_any _ _ _ _) ?_).mono ?_; omega; rintro e w' ⟨rfl, rfl⟩) | (refine (Within_any _ _ _ _).mono ?_; rintro e w' ⟨rfl, rfl⟩)) | (go_at_call 75; first | (refine (calls_in (isDay_any _ _) ?_ ?_).mono ?_; omega; omega; rintro e w' ⟨rfl, rfl⟩) | (refine (calls_out (isDay_any _ _) ?_).mono ?_; omega; rintro e w' ⟨rfl, rfl⟩) | (refine (isDay_any _ _).mono ?_; rintro e w' ⟨rfl, rfl⟩)) | (go_at_call 32; first | (refine (calls_in (IsDay_any _ _) ?_ ?_).mono ?_; omega; omega; rintro e w' ⟨rfl, rfl⟩) | (refine (calls_out (IsDay_any _ _) ?_).mono ?_; omega; rintro e w' ⟨rfl, rfl⟩) | (refine (IsDay_any _ _).mono ?_; rintro e w' ⟨rfl, rfl⟩)) | (go_at_call 46; first | (refine (calls_in (IsYear_any _ _) ?_ ?_).mono ?_; omega; omega; rintro e w' ⟨rfl, rfl⟩) | (refine (calls_out (IsYear_any _ _) ?_).mono ?_; omega; rintro e w' ⟨rfl, rfl⟩) | (refine (IsYear_any _ _).mono ?_; rintro e w' ⟨rfl, rfl⟩)) | (go_at_call 25; first | (refine (calls_in (IsFull_any _ _) ?_ ?_).mono ?_; omega; omega; rintro e w' ⟨rfl, rfl⟩) | (refine (calls_out (IsFull_any _ _) ?_).mono ?_; omega; rintro e w' ⟨rfl, rfl⟩) | (refine (IsFull_any _ _).mono ?_; rintro e w' ⟨rfl, rfl⟩)) | (go_at_call 69; first | (refine (calls_in (isFull_any _ _) ?_ ?_).mono ?_; omega; omega; rintro e w' ⟨rfl, rfl⟩) | (refine (calls_out (isFull_any _ _) ?_).mono ?_; omega; rintro e w' ⟨rfl, rfl⟩) | (refine (isFull_any _ _).mono ?_; rintro e w' ⟨rfl, rfl⟩)))
      go_ret
      exact ⟨rfl, hbw2.out⟩
  · have h1' : (Cal.holsErr l != 0) = true := by simpa using h0
    clear h0
    go_enter Tryd.func14, Tryd.ntmps14
    go_wp2_with fail
    refine (awake_any _ (hT'.out.alloc _)).mono ?_
    rintro e w1 ⟨rfl, hb1⟩
    have hx1 := Lib.hid (hnew.out.below hb1)
    have hbw := Lib.hid (below_step (below_alloc w _) hb1)
    clear hb1
    go_wp2_with fail
    refine (Calendar8_any _ _ l _ (hl'.out.below hbw.out)).mono ?_
    rintro e w' ⟨⟨b, rfl, h8⟩, rfl⟩
    cases b
    · go_wp2
      go_ret
      exact ⟨rfl, hbw.out⟩
    have h8z := Lib.hid (h8 rfl)
    clear h8
    go_wp2_with fail
    refine (CheckHolidaysR_any _ _ l _ (hl'.out.below hbw.out)).mono ?_
    rintro e w2 ⟨rfl, hb2⟩
    have hx2 := Lib.hid (hx1.out.below hb2)
    have hbw2 := Lib.hid (below_step hbw.out hb2)
    clear hb2
    have k0 := hx2.out.c0
    have k1 := hx2.out.c1
    go_wp2_with (first | (go_at_call 78; first | (refine (calls_in (within_any _ _ _ _) ?_ ?_).mono ?_; omega; omega; rintro e w' ⟨rfl, rfl⟩) | (refine (calls_out (within_any _ _ _ _) ?_).mono ?_; omega; rintro e w' ⟨rfl, rfl⟩) | (refine (within_any _ _ _ _).mono ?_; rintro e w' ⟨rfl, rfl⟩)) | (go_at_call 29; first | (refine (calls_in (Within_any _ _ _ _) ?_ ?_).mono ?_; omega; omega; rintro e w' ⟨rfl, rfl⟩) | (refine (calls_out (Within_any _ _ _ _) ?_).mono ?_; omega; rintro e w' ⟨rfl, rfl⟩) | (refine (Within_any _ _ _ _).mono ?_; rintro e w' ⟨rfl, rfl⟩)) | (go_at_call 75; first | (refine (calls_in (isDay_any _ _) ?_ ?_).mono ?_; omega; omega; rintro e w' ⟨rfl, rfl⟩) | (refine (calls_out (isDay_any _ _) ?_).mono ?_; omega; rintro e w' ⟨rfl, rfl⟩) | (refine (isDay_any _ _).mono ?_; rintro e w' ⟨rfl, rfl⟩)) | (go_at_call 32; first | (refine (calls_in (IsDay_any _ _) ?_ ?_).mono ?_; omega; omega; rintro e w' ⟨rfl, rfl⟩) | (refine (calls_out (IsDay_any _ _) ?_).mono ?_; omega; rintro e w' ⟨rfl, rfl⟩) | (refine (IsDay_any _ _).mono ?_; rintro e w' ⟨rfl, rfl⟩)) | (go_at_call 46; first | (refine (calls_in (IsYear_any _ _) ?_ ?_).mono ?_; omega; omega; rintro e w' ⟨rfl, rfl⟩) | (refine (calls_out (IsYear_any _ _) ?_).mono ?_; omega; rintro e w' ⟨rfl, rfl⟩) | (refine (IsYear_any _ _).mono ?_; rintro e w' ⟨rfl, rfl⟩)) | (go_at_call 25; first | (refine (calls_in (IsFull_any _ _) ?_ ?_).mono ?_; omega; omega; rintro e w' ⟨rfl, rfl⟩) | (refine (calls_out (IsFull_any _ _) ?_).mono ?_; omega; rintro e w' ⟨rfl, rfl⟩) | (refine (IsFull_any _ _).mono ?_; rintro e w' ⟨rfl, rfl⟩)) | (go_at_call 69; first | (refine (calls_in (isFull_any _ _) ?_ ?_).mono ?_; omega; omega; rintro e w' ⟨rfl, rfl⟩) | (refine (calls_out (isFull_any _ _) ?_).mono ?_; omega; rintro e w' ⟨rfl, rfl⟩) | (refine (isFull_any _ _).mono ?_; rintro e w' ⟨rfl, rfl⟩)))
    go_ret
    exact ⟨rfl, hbw2.out⟩
theorem RuleSteps_any (A : Option Addr) (c : Nat) (l : List Hol) (day f t m d : Int) (k : Bool) (w : World) (hl : Hols w A l) (hT : Tab w) :
    Calls Tryd.prog 14 #[.slice A l.length c, .int .i64 day, .agg #[.int .i64 f, .int .i64 t, .int .i64 m, .int .i64 d, .bool k]] w fun e w' => e = .returned (.bool true) ∧ Below w.heap.size w w' := by
  cases k
  · exact RuleSteps_f A c l day f t m d w hl hT
  · exact RuleSteps_t A c l day f t m d w hl hT
end Go.Proofs.YtoigamkldccnkaaDoor
