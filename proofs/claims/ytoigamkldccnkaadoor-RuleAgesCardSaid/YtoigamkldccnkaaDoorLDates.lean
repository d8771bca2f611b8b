/- The walk of the statement RuleDates. -/
import Derived.Test.YtoigamkldccnkaaDoorAwake
import Derived.Deep.RegionHeld3
namespace Go.Proofs.YtoigamkldccnkaaDoor
open Go Go.RowKit
theorem Cal.dayOfS_date (day : Int) (h0 : 0 ≤ day) (h1 : day ≤ 200000) : Cal.dayOfS (Cal.dY day) (Cal.dM day) (Cal.dD day) = (day, 0) := by
  obtain ⟨m1, m2, d1, d2, hd⟩ := Cal.date_spec day h0 (by omega)
  have hy := Cal.dY_bd day h0 h1
  unfold Cal.dayOfS
  rw [if_pos hy, if_pos ⟨m1, m2, d1, d2⟩, hd, if_pos h1]
/-- A boxed date. -/
structure DateAt (w : World) (B : Nat) (y m d : Int) : Prop where
  c0 : w.cell? ⟨B, 0, none⟩ = some (.int .i64 y)
  c1 : w.cell? ⟨B, 1, none⟩ = some (.int .i64 m)
  c2 : w.cell? ⟨B, 2, none⟩ = some (.int .i64 d)
  lt : B < w.heap.size
theorem DateAt.below {w w' : World} {B : Nat} {y m d : Int} (h : DateAt w B y m d) (hb : Below w.heap.size w w') : DateAt w' B y m d :=
  ⟨(hb.cell (p := ⟨B, 0, none⟩) h.lt).trans h.c0, (hb.cell (p := ⟨B, 1, none⟩) h.lt).trans h.c1, (hb.cell (p := ⟨B, 2, none⟩) h.lt).trans h.c2, Nat.lt_of_lt_of_le h.lt hb.size⟩
theorem DateAt.new (w : World) (y m d : Int) (t : TypeId) : DateAt (w.alloc (.cells #[.int .i64 y, .int .i64 m, .int .i64 d] t)) w.heap.size y m d := ⟨by simp, by simp, by simp, by simp⟩
set_option maxRecDepth 100000 in
set_option maxHeartbeats 4000000 in
theorem dates_out_in (y m d n : Int) (w : World) (hT : Tab w) (hn : n < 0 ∨ 200000 < n) (y0 : 1800 ≤ y) (y1 : y ≤ 2347) (m0 : 1 ≤ m) (m1 : m ≤ 12) :
    Calls Tryd.prog 9 #[.agg #[.int .i64 y, .int .i64 m, .int .i64 d], .int .i64 n] w fun e w' => e = .returned (.bool true) ∧ Below w.heap.size w w' := by
  have hT' := Lib.hid (fun w1 (h : Below w.heap.size w w1) => hT.below h)
  have hd0 := Lib.hid (DateAt.new w y m d 55)
  have hDay := fun w1 (h : Below w.heap.size w w1) => DayOf_any y m d w1 (hT.below h)
  have hDayR := fun w1 => DayOfR_any y m d w1
  rcases hq : Cal.dayOfS y m d with ⟨N, E⟩
  simp only [hq] at hDay hDayR
  have hDay := Lib.hid hDay
  have hDayR := Lib.hid hDayR
  clear hq
  have hDt := Lib.hid (fun w1 (_ : Below w.heap.size w w1) => DateOfX_no n hn w1)
  have hW := Lib.hid (fun w1 => Weekday_no n hn w1)
  have hM := Lib.hid (fun w1 (h : Below w.heap.size w w1) => MonthDaysX_any y m y0 y1 m0 m1 w1 (hT.below h))
  have hMR := Lib.hid (fun w1 => MonthDays_any y m (by omega) m0 m1 w1)
  clear hT
  go_enter Tryd.func9, Tryd.ntmps9
  go_wp2_with fail
  refine (awake_any _ (hT'.out _ (below_alloc w _))).mono ?_
  rintro e w1 ⟨rfl, hb1⟩
  have ha1 := Lib.hid (hd0.out.below hb1)
  have hbw1 := Lib.hid (below_step (below_alloc w _) hb1)
  clear hb1
  have k0 := ha1.out.c0
  have k1 := ha1.out.c1
  have k2 := ha1.out.c2
  go_wp2_with fail
  refine (hDay.out _ hbw1.out).mono ?_
  rintro e w2 ⟨rfl, hb2⟩
  have ha2 := Lib.hid (ha1.out.below hb2)
  have hbw2 := Lib.hid (below_step hbw1.out hb2)
  clear hb2 k0 k1 k2
  go_wp2_with fail
  refine (hDt.out _ hbw2.out).mono ?_
  rintro e w3 ⟨rfl, hb3⟩
  have ha3 := Lib.hid (ha2.out.below hb3)
  have hbw3 := Lib.hid (below_step hbw2.out hb3)
  clear hb3
  have k0 := ha3.out.c0
  have k1 := ha3.out.c1
  have k2 := ha3.out.c2
  have klt := ha3.out.lt
  have kne : w.heap.size ≠ w3.heap.size := by omega
  have kne2 : w3.heap.size ≠ w.heap.size := by omega
  go_wp2_with (first | (go_at_call 36; refine (hW.out _).mono ?_; rintro e w' ⟨rfl, rfl⟩) | (go_at_call 44; refine (hM.out _ (hbw3.out.trans (by (repeat (first | assumption | exact Below.refl _ _ | exact below_alloc _ _ | refine below_drewN ?_ _ | refine Below.drew ?_ | (refine Below.setCell ?_ ?_ _; rotate_left; focus (first | omega | (simp; done) | (simp; omega))) | (refine Below.alloc ?_ ?_ _; rotate_left; focus (first | omega | (simp; done) | (simp; omega)))))))).mono ?_; rintro e w' ⟨rfl, rfl⟩))
  refine (hDayR.out _).mono ?_
  rintro e w5 ⟨rfl, hb5⟩
  have hb35 : Below w3.heap.size w3 w5 := Below.trans (by (repeat (first | assumption | exact Below.refl _ _ | exact below_alloc _ _ | refine below_drewN ?_ _ | refine Below.drew ?_ | (refine Below.setCell ?_ ?_ _; rotate_left; focus (first | omega | (simp; done) | (simp; omega))) | (refine Below.alloc ?_ ?_ _; rotate_left; focus (first | omega | (simp; done) | (simp; omega)))))) (hb5.mono (by simp))
  have hx5 := Lib.hid (DateAt.below (DateAt.new w3 0 0 0 _) hb5)
  have ha5 := Lib.hid (ha3.out.below hb35)
  have hbw5 := Lib.hid (below_step hbw3.out hb35)
  clear hb5 hb35 k0 k1 k2
  have k0 := ha5.out.c0
  have k1 := ha5.out.c1
  have k2 := ha5.out.c2
  have x0 := hx5.out.c0
  have x1 := hx5.out.c1
  have x2 := hx5.out.c2
  go_wp2_with (first | (go_at_call 47; refine (hMR.out _).mono ?_; rintro e w' ⟨rfl, rfl⟩) |(first | (go_at_call 78; first | (refine (calls_in (within_any _ _ _ _) ?_ ?_).mono ?_; omega; omega; rintro e w' ⟨rfl, rfl⟩) | (refine (calls_out (within_any _ _ _ _) ?_).mono ?_; omega; rintro e w' ⟨rfl, rfl⟩) | (refine (within_any _ _ _ _).mono ?_; rintro e w' ⟨rfl, rfl⟩)) | (go_at_call 29; first | (refine (calls_in (Within_any _ _ _ _) ?_ ?_).mono ?_; omega; omega; rintro e w' ⟨rfl, rfl⟩) | (refine (calls_out (Within_any _ _ _ _) ?_).mono ?_; omega; rintro e w' ⟨rfl, rfl⟩) | (refine (Within_any _ _ _ _).mono ?_; rintro e w' ⟨rfl, rfl⟩)) | (go_at_call 75; first | (refine (calls_in (isDay_any _ _) ?_ ?_).mono ?_; omega; omega; rintro e w' ⟨rfl, rfl⟩) | (refine (calls_out (isDay_any _ _) ?_).mono ?_; omega; rintro e w' ⟨rfl, rfl⟩) | (refine (isDay_any _ _).mono ?_; rintro e w' ⟨rfl, rfl⟩)) | (go_at_call 32; first | (refine (calls_in (IsDay_any _ _) ?_ ?_).mono ?_; omega; omega; rintro e w' ⟨rfl, rfl⟩) | (refine (calls_out (IsDay_any _ _) ?_).mono ?_; omega; rintro e w' ⟨rfl, rfl⟩) | (refine (IsDay_any _ _).mono ?_; rintro e w' ⟨rfl, rfl⟩)) | (go_at_call 46; first | (refine (calls_in (IsYear_any _ _) ?_ ?_).mono ?_; omega; omega; rintro e w' ⟨rfl, rfl⟩) | (refine (calls_out (IsYear_any _ _) ?_).mono ?_; omega; rintro e w' ⟨rfl, rfl⟩) | (refine (IsYear_any _ _).mono ?_; rintro e w' ⟨rfl, rfl⟩)) | (go_at_call 25; first | (refine (calls_in (IsFull_any _ _) ?_ ?_).mono ?_; omega; omega; rintro e w' ⟨rfl, rfl⟩) | (refine (calls_out (IsFull_any _ _) ?_).mono ?_; omega; rintro e w' ⟨rfl, rfl⟩) | (refine (IsFull_any _ _).mono ?_; rintro e w' ⟨rfl, rfl⟩)) | (go_at_call 69; first | (refine (calls_in (isFull_any _ _) ?_ ?_).mono ?_; omega; omega; rintro e w' ⟨rfl, rfl⟩) | (refine (calls_out (isFull_any _ _) ?_).mono ?_; omega; rintro e w' ⟨rfl, rfl⟩) | (refine (isFull_any _ _).mono ?_; rintro e w' ⟨rfl, rfl⟩))))
  go_ret
  exact ⟨rfl, hbw5.out⟩
set_option maxRecDepth 100000 in
set_option maxHeartbeats 4000000 in
theorem dates_out_mo (y m d n : Int) (w : World) (hT : Tab w) (hn : n < 0 ∨ 200000 < n) (y0 : 1800 ≤ y) (y1 : y ≤ 2347) (hm : m < 1 ∨ 12 < m) :
    Calls Tryd.prog 9 #[.agg #[.int .i64 y, .int .i64 m, .int .i64 d], .int .i64 n] w fun e w' => e = .returned (.bool true) ∧ Below w.heap.size w w' := by
  have hT' := Lib.hid (fun w1 (h : Below w.heap.size w w1) => hT.below h)
  have hd0 := Lib.hid (DateAt.new w y m d 55)
  have hDay := fun w1 (h : Below w.heap.size w w1) => DayOf_any y m d w1 (hT.below h)
  have hDayR := fun w1 => DayOfR_any y m d w1
  rcases hq : Cal.dayOfS y m d with ⟨N, E⟩
  simp only [hq] at hDay hDayR
  have hDay := Lib.hid hDay
  have hDayR := Lib.hid hDayR
  clear hq
  have hDt := Lib.hid (fun w1 (_ : Below w.heap.size w w1) => DateOfX_no n hn w1)
  have hW := Lib.hid (fun w1 => Weekday_no n hn w1)
  have hM := Lib.hid (fun w1 (_ : Below w.heap.size w w1) => MonthDaysX_month y m y0 y1 hm w1)
  clear hT
  go_enter Tryd.func9, Tryd.ntmps9
  go_wp2_with fail
  refine (awake_any _ (hT'.out _ (below_alloc w _))).mono ?_
  rintro e w1 ⟨rfl, hb1⟩
  have ha1 := Lib.hid (hd0.out.below hb1)
  have hbw1 := Lib.hid (below_step (below_alloc w _) hb1)
  clear hb1
  have k0 := ha1.out.c0
  have k1 := ha1.out.c1
  have k2 := ha1.out.c2
  go_wp2_with fail
  refine (hDay.out _ hbw1.out).mono ?_
  rintro e w2 ⟨rfl, hb2⟩
  have ha2 := Lib.hid (ha1.out.below hb2)
  have hbw2 := Lib.hid (below_step hbw1.out hb2)
  clear hb2 k0 k1 k2
  go_wp2_with fail
  refine (hDt.out _ hbw2.out).mono ?_
  rintro e w3 ⟨rfl, hb3⟩
  have ha3 := Lib.hid (ha2.out.below hb3)
  have hbw3 := Lib.hid (below_step hbw2.out hb3)
  clear hb3
  have k0 := ha3.out.c0
  have k1 := ha3.out.c1
  have k2 := ha3.out.c2
  have klt := ha3.out.lt
  have kne : w.heap.size ≠ w3.heap.size := by omega
  have kne2 : w3.heap.size ≠ w.heap.size := by omega
  go_wp2_with (first | (go_at_call 36; refine (hW.out _).mono ?_; rintro e w' ⟨rfl, rfl⟩) | (go_at_call 44; refine (hM.out _ (hbw3.out.trans (by (repeat (first | assumption | exact Below.refl _ _ | exact below_alloc _ _ | refine below_drewN ?_ _ | refine Below.drew ?_ | (refine Below.setCell ?_ ?_ _; rotate_left; focus (first | omega | (simp; done) | (simp; omega))) | (refine Below.alloc ?_ ?_ _; rotate_left; focus (first | omega | (simp; done) | (simp; omega)))))))).mono ?_; rintro e w' ⟨rfl, rfl⟩))
  refine (hDayR.out _).mono ?_
  rintro e w5 ⟨rfl, hb5⟩
  have hb35 : Below w3.heap.size w3 w5 := Below.trans (by (repeat (first | assumption | exact Below.refl _ _ | exact below_alloc _ _ | refine below_drewN ?_ _ | refine Below.drew ?_ | (refine Below.setCell ?_ ?_ _; rotate_left; focus (first | omega | (simp; done) | (simp; omega))) | (refine Below.alloc ?_ ?_ _; rotate_left; focus (first | omega | (simp; done) | (simp; omega)))))) (hb5.mono (by simp))
  have hx5 := Lib.hid (DateAt.below (DateAt.new w3 0 0 0 _) hb5)
  have ha5 := Lib.hid (ha3.out.below hb35)
  have hbw5 := Lib.hid (below_step hbw3.out hb35)
  clear hb5 hb35 k0 k1 k2
  have k0 := ha5.out.c0
  have k1 := ha5.out.c1
  have k2 := ha5.out.c2
  have x0 := hx5.out.c0
  have x1 := hx5.out.c1
  have x2 := hx5.out.c2
  go_wp2_with (first | (first | (go_at_call 78; first | (refine (calls_in (within_any _ _ _ _) ?_ ?_).mono ?_; omega; omega; rintro e w' ⟨rfl, rfl⟩) | (refine (calls_out (within_any _ _ _ _) ?_).mono ?_; omega; rintro e w' ⟨rfl, rfl⟩) | (refine (within_any _ _ _ _).mono ?_; rintro e w' ⟨rfl, rfl⟩)) | (go_at_call 29; first | (refine (calls_in (Within_any _ _ _ _) ?_ ?_).mono ?_; omega; omega; rintro e w' ⟨rfl, rfl⟩) | (refine (calls_out (Within_any _ _ _ _) ?_).mono ?_; omega; rintro e w' ⟨rfl, rfl⟩) | (refine (Within_any _ _ _ _).mono ?_; rintro e w' ⟨rfl, rfl⟩)) | (go_at_call 75; first | (refine (calls_in (isDay_any _ _) ?_ ?_).mono ?_; omega; omega; rintro e w' ⟨rfl, rfl⟩) | (refine (calls_out (isDay_any _ _) ?_).mono ?_; omega; rintro e w' ⟨rfl, rfl⟩) | (refine (isDay_any _ _).mono ?_; rintro e w' ⟨rfl, rfl⟩)) | (go_at_call 32; first | (refine (calls_in (IsDay_any _ _) ?_ ?_).mono ?_; omega; omega; rintro e w' ⟨rfl, rfl⟩) | (refine (calls_out (IsDay_any _ _) ?_).mono ?_; omega; rintro e w' ⟨rfl, rfl⟩) | (refine (IsDay_any _ _).mono ?_; rintro e w' ⟨rfl, rfl⟩)) | (go_at_call 46; first | (refine (calls_in (IsYear_any _ _) ?_ ?_).mono ?_; omega; omega; rintro e w' ⟨rfl, rfl⟩) | (refine (calls_out (IsYear_any _ _) ?_).mono ?_; omega; rintro e w' ⟨rfl, rfl⟩) | (refine (IsYear_any _ _).mono ?_; rintro e w' ⟨rfl, rfl⟩)) | (go_at_call 25; first | (refine (calls_in (IsFull_any _ _) ?_ ?_).mono ?_; omega; omega; rintro e w' ⟨rfl, rfl⟩) | (refine (calls_out (IsFull_any _ _) ?_).mono ?_; omega; rintro e w' ⟨rfl, rfl⟩) | (refine (IsFull_any _ _).mono ?_; rintro e w' ⟨rfl, rfl⟩)) | (go_at_call 69; first | (refine (calls_in (isFull_any _ _) ?_ ?_).mono ?_; omega; omega; rintro e w' ⟨rfl, rfl⟩) | (refine (calls_out (isFull_any _ _) ?_).mono ?_; omega; rintro e w' ⟨rfl, rfl⟩) | (refine (isFull_any _ _).mono ?_; rintro e w' ⟨rfl, rfl⟩))))
  go_ret
  exact ⟨rfl, hbw5.out⟩
set_option maxRecDepth 100000 in
set_option maxHeartbeats 4000000 in
theorem dates_out_yo (y m d n : Int) (w : World) (hT : Tab w) (hn : n < 0 ∨ 200000 < n) (hy : y < 1800 ∨ 2347 < y) :
    Calls Tryd.prog 9 #[.agg #[.int .i64 y, .int .i64 m, .int .i64 d], .int .i64 n] w fun e w' => e = .returned (.bool true) ∧ Below w.heap.size w w' := by
  have hT' := Lib.hid (fun w1 (h : Below w.heap.size w w1) => hT.below h)
  have hd0 := Lib.hid (DateAt.new w y m d 55)
  have hDay := fun w1 (h : Below w.heap.size w w1) => DayOf_any y m d w1 (hT.below h)
  have hDayR := fun w1 => DayOfR_any y m d w1
  rcases hq : Cal.dayOfS y m d with ⟨N, E⟩
  simp only [hq] at hDay hDayR
  have hDay := Lib.hid hDay
  have hDayR := Lib.hid hDayR
  clear hq
  have hDt := Lib.hid (fun w1 (_ : Below w.heap.size w w1) => DateOfX_no n hn w1)
  have hW := Lib.hid (fun w1 => Weekday_no n hn w1)
  have hM := Lib.hid (fun w1 (_ : Below w.heap.size w w1) => MonthDaysX_year y m hy w1)
  clear hT
  go_enter Tryd.func9, Tryd.ntmps9
  go_wp2_with fail
  refine (awake_any _ (hT'.out _ (below_alloc w _))).mono ?_
  rintro e w1 ⟨rfl, hb1⟩
  have ha1 := Lib.hid (hd0.out.below hb1)
  have hbw1 := Lib.hid (below_step (below_alloc w _) hb1)
  clear hb1
  have k0 := ha1.out.c0
  have k1 := ha1.out.c1
  have k2 := ha1.out.c2
  go_wp2_with fail
  refine (hDay.out _ hbw1.out).mono ?_
  rintro e w2 ⟨rfl, hb2⟩
  have ha2 := Lib.hid (ha1.out.below hb2)
  have hbw2 := Lib.hid (below_step hbw1.out hb2)
  clear hb2 k0 k1 k2
  go_wp2_with fail
  refine (hDt.out _ hbw2.out).mono ?_
  rintro e w3 ⟨rfl, hb3⟩
  have ha3 := Lib.hid (ha2.out.below hb3)
  have hbw3 := Lib.hid (below_step hbw2.out hb3)
  clear hb3
  have k0 := ha3.out.c0
  have k1 := ha3.out.c1
  have k2 := ha3.out.c2
  have klt := ha3.out.lt
  have kne : w.heap.size ≠ w3.heap.size := by omega
  have kne2 : w3.heap.size ≠ w.heap.size := by omega
  go_wp2_with (first | (go_at_call 36; refine (hW.out _).mono ?_; rintro e w' ⟨rfl, rfl⟩) | (go_at_call 44; refine (hM.out _ (hbw3.out.trans (by (repeat (first | assumption | exact Below.refl _ _ | exact below_alloc _ _ | refine below_drewN ?_ _ | refine Below.drew ?_ | (refine Below.setCell ?_ ?_ _; rotate_left; focus (first | omega | (simp; done) | (simp; omega))) | (refine Below.alloc ?_ ?_ _; rotate_left; focus (first | omega | (simp; done) | (simp; omega)))))))).mono ?_; rintro e w' ⟨rfl, rfl⟩))
  refine (hDayR.out _).mono ?_
  rintro e w5 ⟨rfl, hb5⟩
  have hb35 : Below w3.heap.size w3 w5 := Below.trans (by (repeat (first | assumption | exact Below.refl _ _ | exact below_alloc _ _ | refine below_drewN ?_ _ | refine Below.drew ?_ | (refine Below.setCell ?_ ?_ _; rotate_left; focus (first | omega | (simp; done) | (simp; omega))) | (refine Below.alloc ?_ ?_ _; rotate_left; focus (first | omega | (simp; done) | (simp; omega)))))) (hb5.mono (by simp))
  have hx5 := Lib.hid (DateAt.below (DateAt.new w3 0 0 0 _) hb5)
  have ha5 := Lib.hid (ha3.out.below hb35)
  have hbw5 := Lib.hid (below_step hbw3.out hb35)
  clear hb5 hb35 k0 k1 k2
  have k0 := ha5.out.c0
  have k1 := ha5.out.c1
  have k2 := ha5.out.c2
  have x0 := hx5.out.c0
  have x1 := hx5.out.c1
  have x2 := hx5.out.c2
  go_wp2_with (first | (first | (go_at_call 78; first | (refine (calls_in (within_any _ _ _ _) ?_ ?_).mono ?_; omega; omega; rintro e w' ⟨rfl, rfl⟩) | (refine (calls_out (within_any _ _ _ _) ?_).mono ?_; omega; rintro e w' ⟨rfl, rfl⟩) | (refine (within_any _ _ _ _).mono ?_; rintro e w' ⟨rfl, rfl⟩)) | (go_at_call 29; first | (refine (calls_in (Within_any _ _ _ _) ?_ ?_).mono ?_; omega; omega; rintro e w' ⟨rfl, rfl⟩) | (refine (calls_out (Within_any _ _ _ _) ?_).mono ?_; omega; rintro e w' ⟨rfl, rfl⟩) | (refine (Within_any _ _ _ _).mono ?_; rintro e w' ⟨rfl, rfl⟩)) | (go_at_call 75; first | (refine (calls_in (isDay_any _ _) ?_ ?_).mono ?_; omega; omega; rintro e w' ⟨rfl, rfl⟩) | (refine (calls_out (isDay_any _ _) ?_).mono ?_; omega; rintro e w' ⟨rfl, rfl⟩) | (refine (isDay_any _ _).mono ?_; rintro e w' ⟨rfl, rfl⟩)) | (go_at_call 32; first | (refine (calls_in (IsDay_any _ _) ?_ ?_).mono ?_; omega; omega; rintro e w' ⟨rfl, rfl⟩) | (refine (calls_out (IsDay_any _ _) ?_).mono ?_; omega; rintro e w' ⟨rfl, rfl⟩) | (refine (IsDay_any _ _).mono ?_; rintro e w' ⟨rfl, rfl⟩)) | (go_at_call 46; first | (refine (calls_in (IsYear_any _ _) ?_ ?_).mono ?_; omega; omega; rintro e w' ⟨rfl, rfl⟩) | (refine (calls_out (IsYear_any _ _) ?_).mono ?_; omega; rintro e w' ⟨rfl, rfl⟩) | (refine (IsYear_any _ _).mono ?_; rintro e w' ⟨rfl, rfl⟩)) | (go_at_call 25; first | (refine (calls_in (IsFull_any _ _) ?_ ?_).mono ?_; omega; omega; rintro e w' ⟨rfl, rfl⟩) | (refine (calls_out (IsFull_any _ _) ?_).mono ?_; omega; rintro e w' ⟨rfl, rfl⟩) | (refine (IsFull_any _ _).mono ?_; rintro e w' ⟨rfl, rfl⟩)) | (go_at_call 69; first | (refine (calls_in (isFull_any _ _) ?_ ?_).mono ?_; omega; omega; rintro e w' ⟨rfl, rfl⟩) | (refine (calls_out (isFull_any _ _) ?_).mono ?_; omega; rintro e w' ⟨rfl, rfl⟩) | (refine (isFull_any _ _).mono ?_; rintro e w' ⟨rfl, rfl⟩))))
  go_ret
  exact ⟨rfl, hbw5.out⟩
set_option maxRecDepth 100000 in
set_option maxHeartbeats 4000000 in
theorem dates_in_in (y m d n : Int) (w : World) (hT : Tab w) (n0 : 0 ≤ n) (n1 : n ≤ 200000) (y0 : 1800 ≤ y) (y1 : y ≤ 2347) (m0 : 1 ≤ m) (m1 : m ≤ 12) :
    Calls Tryd.prog 9 #[.agg #[.int .i64 y, .int .i64 m, .int .i64 d], .int .i64 n] w fun e w' => e = .returned (.bool true) ∧ Below w.heap.size w w' := by
  have hT' := Lib.hid (fun w1 (h : Below w.heap.size w w1) => hT.below h)
  have hd0 := Lib.hid (DateAt.new w y m d 55)
  have hDay := fun w1 (h : Below w.heap.size w w1) => DayOf_any y m d w1 (hT.below h)
  have hDayR := fun w1 => DayOfR_any y m d w1
  rcases hq : Cal.dayOfS y m d with ⟨N, E⟩
  simp only [hq] at hDay hDayR
  have hDay := Lib.hid hDay
  have hDayR := Lib.hid hDayR
  clear hq
  have hDt := fun w1 (h : Below w.heap.size w w1) => DateOfX_any n n0 n1 w1 (hT.below h)
  have hDtR := fun w1 => DateOf_any n n0 n1 w1
  have hB := fun w1 (h : Below w.heap.size w w1) => DayOf_any (Cal.dY n) (Cal.dM n) (Cal.dD n) w1 (hT.below h)
  simp only [Cal.dayOfS_date n n0 n1] at hB
  generalize Cal.dY n = a at hDt hDtR hB
  generalize Cal.dM n = b at hDt hDtR hB
  generalize Cal.dD n = c at hDt hDtR hB
  have hDt := Lib.hid hDt
  have hDtR := Lib.hid hDtR
  have hB := Lib.hid hB
  have hW := fun w1 => Weekday_any n n0 n1 w1
  have hWR := fun w1 => WeekdayR_any n (by omega) (by omega) w1
  generalize (n + 2) % 7 = wd at hW hWR
  have hW := Lib.hid hW
  have hWR := Lib.hid hWR
  have hM := Lib.hid (fun w1 (h : Below w.heap.size w w1) => MonthDaysX_any y m y0 y1 m0 m1 w1 (hT.below h))
  have hMR := Lib.hid (fun w1 => MonthDays_any y m (by omega) m0 m1 w1)
  clear hT
  go_enter Tryd.func9, Tryd.ntmps9
  go_wp2_with fail
  refine (awake_any _ (hT'.out _ (below_alloc w _))).mono ?_
  rintro e w1 ⟨rfl, hb1⟩
  have ha1 := Lib.hid (hd0.out.below hb1)
  have hbw1 := Lib.hid (below_step (below_alloc w _) hb1)
  clear hb1
  have k0 := ha1.out.c0
  have k1 := ha1.out.c1
  have k2 := ha1.out.c2
  go_wp2_with fail
  refine (hDay.out _ hbw1.out).mono ?_
  rintro e w2 ⟨rfl, hb2⟩
  have ha2 := Lib.hid (ha1.out.below hb2)
  have hbw2 := Lib.hid (below_step hbw1.out hb2)
  clear hb2 k0 k1 k2
  go_wp2_with fail
  refine (hDt.out _ hbw2.out).mono ?_
  rintro e w3 ⟨rfl, hb3⟩
  have ha3 := Lib.hid (ha2.out.below hb3)
  have hbw3 := Lib.hid (below_step hbw2.out hb3)
  clear hb3
  have k0 := ha3.out.c0
  have k1 := ha3.out.c1
  have k2 := ha3.out.c2
  have klt := ha3.out.lt
  have kne : w.heap.size ≠ w3.heap.size := by omega
  have kne2 : w3.heap.size ≠ w.heap.size := by omega
  go_wp2_with (first | (go_at_call 36; refine (hW.out _).mono ?_; rintro e w' ⟨rfl, rfl⟩) | (go_at_call 44; refine (hM.out _ (hbw3.out.trans (by (repeat (first | assumption | exact Below.refl _ _ | exact below_alloc _ _ | refine below_drewN ?_ _ | refine Below.drew ?_ | (refine Below.setCell ?_ ?_ _; rotate_left; focus (first | omega | (simp; done) | (simp; omega))) | (refine Below.alloc ?_ ?_ _; rotate_left; focus (first | omega | (simp; done) | (simp; omega)))))))).mono ?_; rintro e w' ⟨rfl, rfl⟩))
  refine (hDayR.out _).mono ?_
  rintro e w5 ⟨rfl, hb5⟩
  have hb35 : Below w3.heap.size w3 w5 := Below.trans (by (repeat (first | assumption | exact Below.refl _ _ | exact below_alloc _ _ | refine below_drewN ?_ _ | refine Below.drew ?_ | (refine Below.setCell ?_ ?_ _; rotate_left; focus (first | omega | (simp; done) | (simp; omega))) | (refine Below.alloc ?_ ?_ _; rotate_left; focus (first | omega | (simp; done) | (simp; omega)))))) (hb5.mono (by simp))
  have hx5 := Lib.hid (DateAt.below (DateAt.new w3 a b c _) hb5)
  have ha5 := Lib.hid (ha3.out.below hb35)
  have hbw5 := Lib.hid (below_step hbw3.out hb35)
  clear hb5 hb35 k0 k1 k2
  have k0 := ha5.out.c0
  have k1 := ha5.out.c1
  have k2 := ha5.out.c2
  have x0 := hx5.out.c0
  have x1 := hx5.out.c1
  have x2 := hx5.out.c2
  go_wp2_with (first | (go_at_call 47; refine (hMR.out _).mono ?_; rintro e w' ⟨rfl, rfl⟩) |(first | (go_at_call 78; first | (refine (calls_in (within_any _ _ _ _) ?_ ?_).mono ?_; omega; omega; rintro e w' ⟨rfl, rfl⟩) | (refine (calls_out (within_any _ _ _ _) ?_).mono ?_; omega; rintro e w' ⟨rfl, rfl⟩) | (refine (within_any _ _ _ _).mono ?_; rintro e w' ⟨rfl, rfl⟩)) | (go_at_call 29; first | (refine (calls_in (Within_any _ _ _ _) ?_ ?_).mono ?_; omega; omega; rintro e w' ⟨rfl, rfl⟩) | (refine (calls_out (Within_any _ _ _ _) ?_).mono ?_; omega; rintro e w' ⟨rfl, rfl⟩) | (refine (Within_any _ _ _ _).mono ?_; rintro e w' ⟨rfl, rfl⟩)) | (go_at_call 75; first | (refine (calls_in (isDay_any _ _) ?_ ?_).mono ?_; omega; omega; rintro e w' ⟨rfl, rfl⟩) | (refine (calls_out (isDay_any _ _) ?_).mono ?_; omega; rintro e w' ⟨rfl, rfl⟩) | (refine (isDay_any _ _).mono ?_; rintro e w' ⟨rfl, rfl⟩)) | (go_at_call 32; first | (refine (calls_in (IsDay_any _ _) ?_ ?_).mono ?_; omega; omega; rintro e w' ⟨rfl, rfl⟩) | (refine (calls_out (IsDay_any _ _) ?_).mono ?_; omega; rintro e w' ⟨rfl, rfl⟩) | (refine (IsDay_any _ _).mono ?_; rintro e w' ⟨rfl, rfl⟩)) | (go_at_call 46; first | (refine (calls_in (IsYear_any _ _) ?_ ?_).mono ?_; omega; omega; rintro e w' ⟨rfl, rfl⟩) | (refine (calls_out (IsYear_any _ _) ?_).mono ?_; omega; rintro e w' ⟨rfl, rfl⟩) | (refine (IsYear_any _ _).mono ?_; rintro e w' ⟨rfl, rfl⟩)) | (go_at_call 25; first | (refine (calls_in (IsFull_any _ _) ?_ ?_).mono ?_; omega; omega; rintro e w' ⟨rfl, rfl⟩) | (refine (calls_out (IsFull_any _ _) ?_).mono ?_; omega; rintro e w' ⟨rfl, rfl⟩) | (refine (IsFull_any _ _).mono ?_; rintro e w' ⟨rfl, rfl⟩)) | (go_at_call 69; first | (refine (calls_in (isFull_any _ _) ?_ ?_).mono ?_; omega; omega; rintro e w' ⟨rfl, rfl⟩) | (refine (calls_out (isFull_any _ _) ?_).mono ?_; omega; rintro e w' ⟨rfl, rfl⟩) | (refine (isFull_any _ _).mono ?_; rintro e w' ⟨rfl, rfl⟩))))
  go_region_held3 (fun w' => w'.cell? ⟨w3.heap.size, 0, none⟩ = some (.int .i64 a) ∧ w'.cell? ⟨w3.heap.size, 1, none⟩ = some (.int .i64 b) ∧ w'.cell? ⟨w3.heap.size, 2, none⟩ = some (.int .i64 c)) (first | exact ⟨x0, x1, x2⟩ | exact ⟨hx6.c0, hx6.c1, hx6.c2⟩) (first | (go_at_call 48; refine (hDtR.out _).mono ?_; rintro e w6 ⟨rfl, hb6⟩; have hx6 := hx5.out.below (below_of_drewN (n := 1) hb6)) | (go_at_call 49; refine (hWR.out _).mono ?_; rintro e w' ⟨rfl, rfl⟩))
  have y0 := hx6.c0
  have y1 := hx6.c1
  have y2 := hx6.c2
  have hbw6 := Lib.hid (below_step hbw5.out (below_of_drewN (n := 1) hb6))
  clear x0 x1 x2 k0 k1 k2
  go_wp2_with fail
  refine (hB.out _ hbw6.out).mono ?_
  rintro e w7 ⟨rfl, hb7⟩
  go_wp2
  go_ret
  exact ⟨rfl, below_step hbw6.out hb7⟩
set_option maxRecDepth 100000 in
set_option maxHeartbeats 4000000 in
theorem dates_in_mo (y m d n : Int) (w : World) (hT : Tab w) (n0 : 0 ≤ n) (n1 : n ≤ 200000) (y0 : 1800 ≤ y) (y1 : y ≤ 2347) (hm : m < 1 ∨ 12 < m) :
    Calls Tryd.prog 9 #[.agg #[.int .i64 y, .int .i64 m, .int .i64 d], .int .i64 n] w fun e w' => e = .returned (.bool true) ∧ Below w.heap.size w w' := by
  have hT' := Lib.hid (fun w1 (h : Below w.heap.size w w1) => hT.below h)
  have hd0 := Lib.hid (DateAt.new w y m d 55)
  have hDay := fun w1 (h : Below w.heap.size w w1) => DayOf_any y m d w1 (hT.below h)
  have hDayR := fun w1 => DayOfR_any y m d w1
  rcases hq : Cal.dayOfS y m d with ⟨N, E⟩
  simp only [hq] at hDay hDayR
  have hDay := Lib.hid hDay
  have hDayR := Lib.hid hDayR
  clear hq
  have hDt := fun w1 (h : Below w.heap.size w w1) => DateOfX_any n n0 n1 w1 (hT.below h)
  have hDtR := fun w1 => DateOf_any n n0 n1 w1
  have hB := fun w1 (h : Below w.heap.size w w1) => DayOf_any (Cal.dY n) (Cal.dM n) (Cal.dD n) w1 (hT.below h)
  simp only [Cal.dayOfS_date n n0 n1] at hB
  generalize Cal.dY n = a at hDt hDtR hB
  generalize Cal.dM n = b at hDt hDtR hB
  generalize Cal.dD n = c at hDt hDtR hB
  have hDt := Lib.hid hDt
  have hDtR := Lib.hid hDtR
  have hB := Lib.hid hB
  have hW := fun w1 => Weekday_any n n0 n1 w1
  have hWR := fun w1 => WeekdayR_any n (by omega) (by omega) w1
  generalize (n + 2) % 7 = wd at hW hWR
  have hW := Lib.hid hW
  have hWR := Lib.hid hWR
  have hM := Lib.hid (fun w1 (_ : Below w.heap.size w w1) => MonthDaysX_month y m y0 y1 hm w1)
  clear hT
  go_enter Tryd.func9, Tryd.ntmps9
  go_wp2_with fail
  refine (awake_any _ (hT'.out _ (below_alloc w _))).mono ?_
  rintro e w1 ⟨rfl, hb1⟩
  have ha1 := Lib.hid (hd0.out.below hb1)
  have hbw1 := Lib.hid (below_step (below_alloc w _) hb1)
  clear hb1
  have k0 := ha1.out.c0
  have k1 := ha1.out.c1
  have k2 := ha1.out.c2
  go_wp2_with fail
  refine (hDay.out _ hbw1.out).mono ?_
  rintro e w2 ⟨rfl, hb2⟩
  have ha2 := Lib.hid (ha1.out.below hb2)
  have hbw2 := Lib.hid (below_step hbw1.out hb2)
  clear hb2 k0 k1 k2
  go_wp2_with fail
  refine (hDt.out _ hbw2.out).mono ?_
  rintro e w3 ⟨rfl, hb3⟩
  have ha3 := Lib.hid (ha2.out.below hb3)
  have hbw3 := Lib.hid (below_step hbw2.out hb3)
  clear hb3
  have k0 := ha3.out.c0
  have k1 := ha3.out.c1
  have k2 := ha3.out.c2
  have klt := ha3.out.lt
  have kne : w.heap.size ≠ w3.heap.size := by omega
  have kne2 : w3.heap.size ≠ w.heap.size := by omega
  go_wp2_with (first | (go_at_call 36; refine (hW.out _).mono ?_; rintro e w' ⟨rfl, rfl⟩) | (go_at_call 44; refine (hM.out _ (hbw3.out.trans (by (repeat (first | assumption | exact Below.refl _ _ | exact below_alloc _ _ | refine below_drewN ?_ _ | refine Below.drew ?_ | (refine Below.setCell ?_ ?_ _; rotate_left; focus (first | omega | (simp; done) | (simp; omega))) | (refine Below.alloc ?_ ?_ _; rotate_left; focus (first | omega | (simp; done) | (simp; omega)))))))).mono ?_; rintro e w' ⟨rfl, rfl⟩))
  refine (hDayR.out _).mono ?_
  rintro e w5 ⟨rfl, hb5⟩
  have hb35 : Below w3.heap.size w3 w5 := Below.trans (by (repeat (first | assumption | exact Below.refl _ _ | exact below_alloc _ _ | refine below_drewN ?_ _ | refine Below.drew ?_ | (refine Below.setCell ?_ ?_ _; rotate_left; focus (first | omega | (simp; done) | (simp; omega))) | (refine Below.alloc ?_ ?_ _; rotate_left; focus (first | omega | (simp; done) | (simp; omega)))))) (hb5.mono (by simp))
  have hx5 := Lib.hid (DateAt.below (DateAt.new w3 a b c _) hb5)
  have ha5 := Lib.hid (ha3.out.below hb35)
  have hbw5 := Lib.hid (below_step hbw3.out hb35)
  clear hb5 hb35 k0 k1 k2
  have k0 := ha5.out.c0
  have k1 := ha5.out.c1
  have k2 := ha5.out.c2
  have x0 := hx5.out.c0
  have x1 := hx5.out.c1
  have x2 := hx5.out.c2
  go_wp2_with (first | (first | (go_at_call 78; first | (refine (calls_in (within_any _ _ _ _) ?_ ?_).mono ?_; omega; omega; rintro e w' ⟨rfl, rfl⟩) | (refine (calls_out (within_any _ _ _ _) ?_).mono ?_; omega; rintro e w' ⟨rfl, rfl⟩) | (refine (within_any _ _ _ _).mono ?_; rintro e w' ⟨rfl, rfl⟩)) | (go_at_call 29; first | (refine (calls_in (Within_any _ _ _ _) ?_ ?_).mono ?_; omega; omega; rintro e w' ⟨rfl, rfl⟩) | (refine (calls_out (Within_any _ _ _ _) ?_).mono ?_; omega; rintro e w' ⟨rfl, rfl⟩) | (refine (Within_any _ _ _ _).mono ?_; rintro e w' ⟨rfl, rfl⟩)) | (go_at_call 75; first | (refine (calls_in (isDay_any _ _) ?_ ?_).mono ?_; omega; omega; rintro e w' ⟨rfl, rfl⟩) | (refine (calls_out (isDay_any _ _) ?_).mono ?_; omega; rintro e w' ⟨rfl, rfl⟩) | (refine (isDay_any _ _).mono ?_; rintro e w' ⟨rfl, rfl⟩)) | (go_at_call 32; first | (refine (calls_in (IsDay_any _ _) ?_ ?_).mono ?_; omega; omega; rintro e w' ⟨rfl, rfl⟩) | (refine (calls_out (IsDay_any _ _) ?_).mono ?_; omega; rintro e w' ⟨rfl, rfl⟩) | (refine (IsDay_any _ _).mono ?_; rintro e w' ⟨rfl, rfl⟩)) | (go_at_call 46; first | (refine (calls_in (IsYear_any _ _) ?_ ?_).mono ?_; omega; omega; rintro e w' ⟨rfl, rfl⟩) | (refine (calls_out (IsYear_any _ _) ?_).mono ?_; omega; rintro e w' ⟨rfl, rfl⟩) | (refine (IsYear_any _ _).mono ?_; rintro e w' ⟨rfl, rfl⟩)) | (go_at_call 25; first | (refine (calls_in (IsFull_any _ _) ?_ ?_).mono ?_; omega; omega; rintro e w' ⟨rfl, rfl⟩) | (refine (calls_out (IsFull_any _ _) ?_).mono ?_; omega; rintro e w' ⟨rfl, rfl⟩) | (refine (IsFull_any _ _).mono ?_; rintro e w' ⟨rfl, rfl⟩)) | (go_at_call 69; first | (refine (calls_in (isFull_any _ _) ?_ ?_).mono ?_; omega; omega; rintro e w' ⟨rfl, rfl⟩) | (refine (calls_out (isFull_any _ _) ?_).mono ?_; omega; rintro e w' ⟨rfl, rfl⟩) | (refine (isFull_any _ _).mono ?_; rintro e w' ⟨rfl, rfl⟩))))
  go_region_held3 (fun w' => w'.cell? ⟨w3.heap.size, 0, none⟩ = some (.int .i64 a) ∧ w'.cell? ⟨w3.heap.size, 1, none⟩ = some (.int .i64 b) ∧ w'.cell? ⟨w3.heap.size, 2, none⟩ = some (.int .i64 c)) (first | exact ⟨x0, x1, x2⟩ | exact ⟨hx6.c0, hx6.c1, hx6.c2⟩) (first | (go_at_call 48; refine (hDtR.out _).mono ?_; rintro e w6 ⟨rfl, hb6⟩; have hx6 := hx5.out.below (below_of_drewN (n := 1) hb6)) | (go_at_call 49; refine (hWR.out _).mono ?_; rintro e w' ⟨rfl, rfl⟩))
  have y0 := hx6.c0
  have y1 := hx6.c1
  have y2 := hx6.c2
  have hbw6 := Lib.hid (below_step hbw5.out (below_of_drewN (n := 1) hb6))
  clear x0 x1 x2 k0 k1 k2
  go_wp2_with fail
  refine (hB.out _ hbw6.out).mono ?_
  rintro e w7 ⟨rfl, hb7⟩
  go_wp2
  go_ret
  exact ⟨rfl, below_step hbw6.out hb7⟩
set_option maxRecDepth 100000 in
set_option maxHeartbeats 4000000 in
theorem dates_in_yo (y m d n : Int) (w : World) (hT : Tab w) (n0 : 0 ≤ n) (n1 : n ≤ 200000) (hy : y < 1800 ∨ 2347 < y) :
    Calls Tryd.prog 9 #[.agg #[.int .i64 y, .int .i64 m, .int .i64 d], .int .i64 n] w fun e w' => e = .returned (.bool true) ∧ Below w.heap.size w w' := by
  have hT' := Lib.hid (fun w1 (h : Below w.heap.size w w1) => hT.below h)
  have hd0 := Lib.hid (DateAt.new w y m d 55)
  have hDay := fun w1 (h : Below w.heap.size w w1) => DayOf_any y m d w1 (hT.below h)
  have hDayR := fun w1 => DayOfR_any y m d w1
  rcases hq : Cal.dayOfS y m d with ⟨N, E⟩
  simp only [hq] at hDay hDayR
  have hDay := Lib.hid hDay
  have hDayR := Lib.hid hDayR
  clear hq
  have hDt := fun w1 (h : Below w.heap.size w w1) => DateOfX_any n n0 n1 w1 (hT.below h)
  have hDtR := fun w1 => DateOf_any n n0 n1 w1
  have hB := fun w1 (h : Below w.heap.size w w1) => DayOf_any (Cal.dY n) (Cal.dM n) (Cal.dD n) w1 (hT.below h)
  simp only [Cal.dayOfS_date n n0 n1] at hB
  generalize Cal.dY n = a at hDt hDtR hB
  generalize Cal.dM n = b at hDt hDtR hB
  generalize Cal.dD n = c at hDt hDtR hB
  have hDt := Lib.hid hDt
  have hDtR := Lib.hid hDtR
  have hB := Lib.hid hB
  have hW := fun w1 => Weekday_any n n0 n1 w1
  have hWR := fun w1 => WeekdayR_any n (by omega) (by omega) w1
  generalize (n + 2) % 7 = wd at hW hWR
  have hW := Lib.hid hW
  have hWR := Lib.hid hWR
  have hM := Lib.hid (fun w1 (_ : Below w.heap.size w w1) => MonthDaysX_year y m hy w1)
  clear hT
  go_enter Tryd.func9, Tryd.ntmps9
  go_wp2_with fail
  refine (awake_any _ (hT'.out _ (below_alloc w _))).mono ?_
  rintro e w1 ⟨rfl, hb1⟩
  have ha1 := Lib.hid (hd0.out.below hb1)
  have hbw1 := Lib.hid (below_step (below_alloc w _) hb1)
  clear hb1
  have k0 := ha1.out.c0
  have k1 := ha1.out.c1
  have k2 := ha1.out.c2
  go_wp2_with fail
  refine (hDay.out _ hbw1.out).mono ?_
  rintro e w2 ⟨rfl, hb2⟩
  have ha2 := Lib.hid (ha1.out.below hb2)
  have hbw2 := Lib.hid (below_step hbw1.out hb2)
  clear hb2 k0 k1 k2
  go_wp2_with fail
  refine (hDt.out _ hbw2.out).mono ?_
  rintro e w3 ⟨rfl, hb3⟩
  have ha3 := Lib.hid (ha2.out.below hb3)
  have hbw3 := Lib.hid (below_step hbw2.out hb3)
  clear hb3
  have k0 := ha3.out.c0
  have k1 := ha3.out.c1
  have k2 := ha3.out.c2
  have klt := ha3.out.lt
  have kne : w.heap.size ≠ w3.heap.size := by omega
  have kne2 : w3.heap.size ≠ w.heap.size := by omega
  go_wp2_with (first | (go_at_call 36; refine (hW.out _).mono ?_; rintro e w' ⟨rfl, rfl⟩) | (go_at_call 44; refine (hM.out _ (hbw3.out.trans (by (repeat (first | assumption | exact Below.refl _ _ | exact below_alloc _ _ | refine below_drewN ?_ _ | refine Below.drew ?_ | (refine Below.setCell ?_ ?_ _; rotate_left; focus (first | omega | (simp; done) | (simp; omega))) | (refine Below.alloc ?_ ?_ _; rotate_left; focus (first | omega | (simp; done) | (simp; omega)))))))).mono ?_; rintro e w' ⟨rfl, rfl⟩))
  refine (hDayR.out _).mono ?_
  rintro e w5 ⟨rfl, hb5⟩
  have hb35 : Below w3.heap.size w3 w5 := Below.trans (by (repeat (first | assumption | exact Below.refl _ _ | exact below_alloc _ _ | refine below_drewN ?_ _ | refine Below.drew ?_ | (refine Below.setCell ?_ ?_ _; rotate_left; focus (first | omega | (simp; done) | (simp; omega))) | (refine Below.alloc ?_ ?_ _; rotate_left; focus (first | omega | (simp; done) | (simp; omega)))))) (hb5.mono (by simp))
  have hx5 := Lib.hid (DateAt.below (DateAt.new w3 a b c _) hb5)
  have ha5 := Lib.hid (ha3.out.below hb35)
  have hbw5 := Lib.hid (below_step hbw3.out hb35)
  clear hb5 hb35 k0 k1 k2
  have k0 := ha5.out.c0
  have k1 := ha5.out.c1
  have k2 := ha5.out.c2
  have x0 := hx5.out.c0
  have x1 := hx5.out.c1
  have x2 := hx5.out.c2
  go_wp2_with (first | (first | (go_at_call 78; first | (refine (calls_in (within_any _ _ _ _) ?_ ?_).mono ?_; omega; omega; rintro e w' ⟨rfl, rfl⟩) | (refine (calls_out (within_any _ _ _ _) ?_).mono ?_; omega; rintro e w' ⟨rfl, rfl⟩) | (refine (within_any _ _ _ _).mono ?_; rintro e w' ⟨rfl, rfl⟩)) | (go_at_call 29; first | (refine (calls_in (Within_any _ _ _ _) ?_ ?_).mono ?_; omega; omega; rintro e w' ⟨rfl, rfl⟩) | (refine (calls_out (Within_any _ _ _ _) ?_).mono ?_; omega; rintro e w' ⟨rfl, rfl⟩) | (refine (Within_any _ _ _ _).mono ?_; rintro e w' ⟨rfl, rfl⟩)) | (go_at_call 75; first | (refine (calls_in (isDay_any _ _) ?_ ?_).mono ?_; omega; omega; rintro e w' ⟨rfl, rfl⟩) | (refine (calls_out (isDay_any _ _) ?_).mono ?_; omega; rintro e w' ⟨rfl, rfl⟩) | (refine (isDay_any _ _).mono ?_; rintro e w' ⟨rfl, rfl⟩)) | (go_at_call 32; first | (refine (calls_in (IsDay_any _ _) ?_ ?_).mono ?_; omega; omega; rintro e w' ⟨rfl, rfl⟩) | (refine (calls_out (IsDay_any _ _) ?_).mono ?_; omega; rintro e w' ⟨rfl, rfl⟩) | (refine (IsDay_any _ _).mono ?_; rintro e w' ⟨rfl, rfl⟩)) | (go_at_call 46; first | (refine (calls_in (IsYear_any _ _) ?_ ?_).mono ?_; omega; omega; rintro e w' ⟨rfl, rfl⟩) | (refine (calls_out (IsYear_any _ _) ?_).mono ?_; omega; rintro e w' ⟨rfl, rfl⟩) | (refine (IsYear_any _ _).mono ?_; rintro e w' ⟨rfl, rfl⟩)) | (go_at_call 25; first | (refine (calls_in (IsFull_any _ _) ?_ ?_).mono ?_; omega; omega; rintro e w' ⟨rfl, rfl⟩) | (refine (calls_out (IsFull_any _ _) ?_).mono ?_; omega; rintro e w' ⟨rfl, rfl⟩) | (refine (IsFull_any _ _).mono ?_; rintro e w' ⟨rfl, rfl⟩)) | (go_at_call 69; first | (refine (calls_in (isFull_any _ _) ?_ ?_).mono ?_; omega; omega; rintro e w' ⟨rfl, rfl⟩) | (refine (calls_out (isFull_any _ _) ?_).mono ?_; omega; rintro e w' ⟨rfl, rfl⟩) | (refine (isFull_any _ _).mono ?_; rintro e w' ⟨rfl, rfl⟩))))
  go_region_held3 (fun w' => w'.cell? ⟨w3.heap.size, 0, none⟩ = some (.int .i64 a) ∧ w'.cell? ⟨w3.heap.size, 1, none⟩ = some (.int .i64 b) ∧ w'.cell? ⟨w3.heap.size, 2, none⟩ = some (.int .i64 c)) (first | exact ⟨x0, x1, x2⟩ | exact ⟨hx6.c0, hx6.c1, hx6.c2⟩) (first | (go_at_call 48; refine (hDtR.out _).mono ?_; rintro e w6 ⟨rfl, hb6⟩; have hx6 := hx5.out.below (below_of_drewN (n := 1) hb6)) | (go_at_call 49; refine (hWR.out _).mono ?_; rintro e w' ⟨rfl, rfl⟩))
  have y0 := hx6.c0
  have y1 := hx6.c1
  have y2 := hx6.c2
  have hbw6 := Lib.hid (below_step hbw5.out (below_of_drewN (n := 1) hb6))
  clear x0 x1 x2 k0 k1 k2
  go_wp2_with fail
  refine (hB.out _ hbw6.out).mono ?_
  rintro e w7 ⟨rfl, hb7⟩
  go_wp2
  go_ret
  exact ⟨rfl, below_step hbw6.out hb7⟩
theorem RuleDates_any (y m d n : Int) (w : World) (hT : Tab w) :
    Calls Tryd.prog 9 #[.agg #[.int .i64 y, .int .i64 m, .int .i64 d], .int .i64 n] w fun e w' => e = .returned (.bool true) ∧ Below w.heap.size w w' := by
  by_cases hn : 0 ≤ n ∧ n ≤ 200000
  · obtain ⟨n0, n1⟩ := hn
    by_cases hy : 1800 ≤ y ∧ y ≤ 2347
    · by_cases hm : 1 ≤ m ∧ m ≤ 12
      · exact dates_in_in y m d n w hT n0 n1 hy.1 hy.2 hm.1 hm.2
      · exact dates_in_mo y m d n w hT n0 n1 hy.1 hy.2 (by omega)
    · exact dates_in_yo y m d n w hT n0 n1 (by omega)
  · have hn : n < 0 ∨ 200000 < n := by omega
    by_cases hy : 1800 ≤ y ∧ y ≤ 2347
    · by_cases hm : 1 ≤ m ∧ m ≤ 12
      · exact dates_out_in y m d n w hT hn hy.1 hy.2 hm.1 hm.2
      · exact dates_out_mo y m d n w hT hn hy.1 hy.2 (by omega)
    · exact dates_out_yo y m d n w hT hn (by omega)
end Go.Proofs.YtoigamkldccnkaaDoor
