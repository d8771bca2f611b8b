/- The walk of the statement RuleHolidays. -/
import Derived.Test.YtoigamkldccnkaaDoorAwake
import Derived.Test.YtoigamkldccnkaaDoorW29
import Derived.Test.YtoigamkldccnkaaDoorW31
namespace Go.Proofs.YtoigamkldccnkaaDoor
open Go Go.RowKit
set_option maxRecDepth 100000 in
set_option maxHeartbeats 2000000 in
theorem RuleHolidays_any (A : Option Addr) (c : Nat) (l : List Hol) (y : Int) (w : World) (hl : Hols w A l) (hT : Tab w) :
    Calls Tryd.prog 4 #[.slice A l.length c, .int .i64 y] w fun e w' => e = .returned (.bool true) ∧ Below w.heap.size w w' := by
  have hl' := Lib.hid hl
  have hT' := Lib.hid hT
  clear hl hT
  by_cases h0 : Cal.holsErr l = 0
  · have h0z := Lib.hid h0
    have h1 : (Cal.holsErr l == 0) = true := by simpa using h0
    have h1' : (Cal.holsErr l != 0) = false := by simpa using h0
    obtain ⟨hok, hlen⟩ := Cal.holsErr_ok h0
    clear h0
    by_cases hy : 1800 ≤ y ∧ y ≤ 2346
    · obtain ⟨y1, y2⟩ := hy
      have hE : Hid (Cal.hofE l y = 0) := by show _ = _; unfold Cal.hofE; rw [if_pos h0z.out, if_pos ⟨y1, y2⟩]
      have hL : Hid (Cal.hofL l y = Cal.ups (Cal.hols l y)) := by show _ = _; unfold Cal.hofL; rw [if_pos hE.out]
      go_enter Tryd.func4, Tryd.ntmps4
      go_wp2_with fail
      refine (awake_any _ hT'.out).mono ?_
      rintro e w1 ⟨rfl, hb1⟩
      have hbw := Lib.hid hb1
      clear hb1
      go_wp2_with fail
      refine (Calendar_any _ _ l _ (hl'.out.below hbw.out)).mono ?_
      rintro e w' ⟨⟨b, rfl, _⟩, rfl⟩
      cases b
      · go_wp2
        go_ret
        exact ⟨rfl, hbw.out⟩
      go_wp2_with fail
      refine (CheckHolidaysR_any _ _ l _ (hl'.out.below hbw.out)).mono ?_
      rintro e w2 ⟨rfl, hb2⟩
      have hbw2 := Lib.hid (below_step hbw.out hb2)
      clear hb2
      go_wp2_with fail
      refine (HolidaysOf_any _ _ l y _ (hl'.out.below hbw2.out) (hT'.out.below hbw2.out)).mono ?_
      rintro e w3 ⟨v, rfl, hs, hb3⟩
      have hbw3 := Lib.hid (below_step hbw2.out hb3)
      clear hb3
      rw [hL.out] at hs
      rw [hE.out]
      have hs := Lib.hid hs
      go_wp2_with fail
      refine (CheckHolidays_any _ _ l _ (hl'.out.below hbw3.out) (hT'.out.below hbw3.out)).mono ?_
      rintro e w4 ⟨rfl, hb4⟩
      have hb4' := Lib.hid hb4
      have hbw4 := Lib.hid (below_step hbw3.out hb4)
      clear hb4
      go_wp2_with (first | (go_at_call 78; first | (refine (calls_in (within_any _ _ _ _) ?_ ?_).mono ?_; omega; omega; rintro e w' ⟨rfl, rfl⟩) | (refine (calls_out (within_any _ _ _ _) ?_).mono ?_; omega; rintro e w' ⟨rfl, rfl⟩) | (refine (within_any _ _ _ _).mono ?_; rintro e w' ⟨rfl, rfl⟩)) | (go_at_call 29; first | (refine (calls_in (Within_any _ _ _ _) ?_ ?_).mono ?_; omega; omega; rintro e w' ⟨rfl, rfl⟩) | (refine (calls_out (Within_any _ _ _ _) ?_).mono ?_; omega; rintro e w' ⟨rfl, rfl⟩) | (refine (Within_any _ _ _ _).mono ?_; rintro e w' ⟨rfl, rfl⟩)) | (go_at_call 75; first | (refine (calls_in (isDay_any _ _) ?_ ?_).mono ?_; omega; omega; rintro e w' ⟨rfl, rfl⟩) | (refine (calls_out (isDay_any _ _) ?_).mono ?_; omega; rintro e w' ⟨rfl, rfl⟩) | (refine (isDay_any _ _).mono ?_; rintro e w' ⟨rfl, rfl⟩)) | (go_at_call 32; first | (refine (calls_in (IsDay_any _ _) ?_ ?_).mono ?_; omega; omega; rintro e w' ⟨rfl, rfl⟩) | (refine (calls_out (IsDay_any _ _) ?_).mono ?_; omega; rintro e w' ⟨rfl, rfl⟩) | (refine (IsDay_any _ _).mono ?_; rintro e w' ⟨rfl, rfl⟩)) | (go_at_call 46; first | (refine (calls_in (IsYear_any _ _) ?_ ?_).mono ?_; omega; omega; rintro e w' ⟨rfl, rfl⟩) | (refine (calls_out (IsYear_any _ _) ?_).mono ?_; omega; rintro e w' ⟨rfl, rfl⟩) | (refine (IsYear_any _ _).mono ?_; rintro e w' ⟨rfl, rfl⟩)) | (go_at_call 25; first | (refine (calls_in (IsFull_any _ _) ?_ ?_).mono ?_; omega; omega; rintro e w' ⟨rfl, rfl⟩) | (refine (calls_out (IsFull_any _ _) ?_).mono ?_; omega; rintro e w' ⟨rfl, rfl⟩) | (refine (IsFull_any _ _).mono ?_; rintro e w' ⟨rfl, rfl⟩)) | (go_at_call 69; first | (refine (calls_in (isFull_any _ _) ?_ ?_).mono ?_; omega; omega; rintro e w' ⟨rfl, rfl⟩) | (refine (calls_out (isFull_any _ _) ?_).mono ?_; omega; rintro e w' ⟨rfl, rfl⟩) | (refine (isFull_any _ _).mono ?_; rintro e w' ⟨rfl, rfl⟩)))
      refine (HolidaysOfR_any A c l hok y y1 y2 _ (hl'.out.below hbw4.out)).mono ?_
      rintro e w5 ⟨u, rfl, hu, hb5⟩
      have hbw5 := Lib.hid (below_step hbw4.out hb5)
      have hs5 := Lib.hid ((hs.out.below hb4'.out).below hb5)
      have hu := Lib.hid hu
      clear hb5
      go_wp2_with fail
      refine (Ints_any v u _ _ _ _ hs5.out hu.out).mono ?_
      rintro e w6 ⟨rfl, hb6⟩
      have hbw6 := Lib.hid (below_step hbw5.out hb6)
      clear hb6
      go_wp2
      go_ret
      exact ⟨rfl, hbw6.out⟩
    · have hy' : y < 1800 ∨ 2346 < y := by omega
      have hE : Hid (Cal.hofE l y = 2) := by show _ = _; unfold Cal.hofE; rw [if_pos h0z.out, if_neg hy]
      have hL : Hid (Cal.hofL l y = []) := by show _ = _; unfold Cal.hofL; rw [if_neg (by rw [hE.out]; decide)]
      clear hy
      go_enter Tryd.func4, Tryd.ntmps4
      go_wp2_with fail
      refine (awake_any _ hT'.out).mono ?_
      rintro e w1 ⟨rfl, hb1⟩
      have hbw := Lib.hid hb1
      clear hb1
      go_wp2_with fail
      refine (Calendar_any _ _ l _ (hl'.out.below hbw.out)).mono ?_
      rintro e w' ⟨⟨b, rfl, _⟩, rfl⟩
      cases b
      · go_wp2
        go_ret
        exact ⟨rfl, hbw.out⟩
      go_wp2_with fail
      refine (CheckHolidaysR_any _ _ l _ (hl'.out.below hbw.out)).mono ?_
      rintro e w2 ⟨rfl, hb2⟩
      have hbw2 := Lib.hid (below_step hbw.out hb2)
      clear hb2
      go_wp2_with fail
      refine (HolidaysOf_any _ _ l y _ (hl'.out.below hbw2.out) (hT'.out.below hbw2.out)).mono ?_
      rintro e w3 ⟨v, rfl, hs, hb3⟩
      have hbw3 := Lib.hid (below_step hbw2.out hb3)
      clear hb3
      rw [hL.out] at hs
      rw [hE.out]
      obtain ⟨A3, c3, rfl, _, _⟩ := hs
      go_wp2_with fail
      refine (CheckHolidays_any _ _ l _ (hl'.out.below hbw3.out) (hT'.out.below hbw3.out)).mono ?_
      rintro e w4 ⟨rfl, hb4⟩
      have hb4' := Lib.hid hb4
      have hbw4 := Lib.hid (below_step hbw3.out hb4)
      clear hb4
      go_wp2_with (first | (go_at_call 78; first | (refine (calls_in (within_any _ _ _ _) ?_ ?_).mono ?_; omega; omega; rintro e w' ⟨rfl, rfl⟩) | (refine (calls_out (within_any _ _ _ _) ?_).mono ?_; omega; rintro e w' ⟨rfl, rfl⟩) | (refine (within_any _ _ _ _).mono ?_; rintro e w' ⟨rfl, rfl⟩)) | (go_at_call 29; first | (refine (calls_in (Within_any _ _ _ _) ?_ ?_).mono ?_; omega; omega; rintro e w' ⟨rfl, rfl⟩) | (refine (calls_out (Within_any _ _ _ _) ?_).mono ?_; omega; rintro e w' ⟨rfl, rfl⟩) | (refine (Within_any _ _ _ _).mono ?_; rintro e w' ⟨rfl, rfl⟩)) | (go_at_call 75; first | (refine (calls_in (isDay_any _ _) ?_ ?_).mono ?_; omega; omega; rintro e w' ⟨rfl, rfl⟩) | (refine (calls_out (isDay_any _ _) ?_).mono ?_; omega; rintro e w' ⟨rfl, rfl⟩) | (refine (isDay_any _ _).mono ?_; rintro e w' ⟨rfl, rfl⟩)) | (go_at_call 32; first | (refine (calls_in (IsDay_any _ _) ?_ ?_).mono ?_; omega; omega; rintro e w' ⟨rfl, rfl⟩) | (refine (calls_out (IsDay_any _ _) ?_).mono ?_; omega; rintro e w' ⟨rfl, rfl⟩) | (refine (IsDay_any _ _).mono ?_; rintro e w' ⟨rfl, rfl⟩)) | (go_at_call 46; first | (refine (calls_in (IsYear_any _ _) ?_ ?_).mono ?_; omega; omega; rintro e w' ⟨rfl, rfl⟩) | (refine (calls_out (IsYear_any _ _) ?_).mono ?_; omega; rintro e w' ⟨rfl, rfl⟩) | (refine (IsYear_any _ _).mono ?_; rintro e w' ⟨rfl, rfl⟩)) | (go_at_call 25; first | (refine (calls_in (IsFull_any _ _) ?_ ?_).mono ?_; omega; omega; rintro e w' ⟨rfl, rfl⟩) | (refine (calls_out (IsFull_any _ _) ?_).mono ?_; omega; rintro e w' ⟨rfl, rfl⟩) | (refine (IsFull_any _ _).mono ?_; rintro e w' ⟨rfl, rfl⟩)) | (go_at_call 69; first | (refine (calls_in (isFull_any _ _) ?_ ?_).mono ?_; omega; omega; rintro e w' ⟨rfl, rfl⟩) | (refine (calls_out (isFull_any _ _) ?_).mono ?_; omega; rintro e w' ⟨rfl, rfl⟩) | (refine (isFull_any _ _).mono ?_; rintro e w' ⟨rfl, rfl⟩)))
      go_ret
      exact ⟨rfl, hbw4.out⟩
  · have h0z := Lib.hid h0
    have h1 : (Cal.holsErr l == 0) = false := by simpa using h0
    have h1' : (Cal.holsErr l != 0) = true := by simpa using h0
    have hE : Hid (Cal.hofE l y = Cal.holsErr l) := by show _ = _; unfold Cal.hofE; rw [if_neg h0]
    have hL : Hid (Cal.hofL l y = []) := by show _ = _; unfold Cal.hofL; rw [if_neg (by rw [hE.out]; exact h0)]
    clear h0
    go_enter Tryd.func4, Tryd.ntmps4
    go_wp2_with fail
    refine (awake_any _ hT'.out).mono ?_
    rintro e w1 ⟨rfl, hb1⟩
    have hbw := Lib.hid hb1
    clear hb1
    go_wp2_with fail
    refine (Calendar_any _ _ l _ (hl'.out.below hbw.out)).mono ?_
    rintro e w' ⟨⟨b, rfl, _⟩, rfl⟩
    cases b
    · go_wp2
      go_ret
      exact ⟨rfl, hbw.out⟩
    go_wp2_with fail
    refine (CheckHolidaysR_any _ _ l _ (hl'.out.below hbw.out)).mono ?_
    rintro e w2 ⟨rfl, hb2⟩
    have hbw2 := Lib.hid (below_step hbw.out hb2)
    clear hb2
    go_wp2_with fail
    refine (HolidaysOf_any _ _ l y _ (hl'.out.below hbw2.out) (hT'.out.below hbw2.out)).mono ?_
    rintro e w3 ⟨v, rfl, hs, hb3⟩
    have hbw3 := Lib.hid (below_step hbw2.out hb3)
    clear hb3
    rw [hL.out] at hs
    rw [hE.out]
    obtain ⟨A3, c3, rfl, _, _⟩ := hs
    go_wp2_with fail
    refine (CheckHolidays_any _ _ l _ (hl'.out.below hbw3.out) (hT'.out.below hbw3.out)).mono ?_
    rintro e w4 ⟨rfl, hb4⟩
    have hb4' := Lib.hid hb4
    have hbw4 := Lib.hid (below_step hbw3.out hb4)
    clear hb4
    go_wp2_with (first | (go_at_call 78; first | (refine (calls_in (within_any _ _ _ _) ?_ ?_).mono ?_; omega; omega; rintro e w' ⟨rfl, rfl⟩) | (refine (calls_out (within_any _ _ _ _) ?_).mono ?_; omega; rintro e w' ⟨rfl, rfl⟩) | (refine (within_any _ _ _ _).mono ?_; rintro e w' ⟨rfl, rfl⟩)) | (go_at_call 29; first | (refine (calls_in (Within_any _ _ _ _) ?_ ?_).mono ?_; omega; omega; rintro e w' ⟨rfl, rfl⟩) | (refine (calls_out (Within_any _ _ _ _) ?_).mono ?_; omega; rintro e w' ⟨rfl, rfl⟩) | (refine (Within_any _ _ _ _).mono ?_; rintro e w' ⟨rfl, rfl⟩)) | (go_at_call 75; first | (refine (calls_in (isDay_any _ _) ?_ ?_).mono ?_; omega; omega; rintro e w' ⟨rfl, rfl⟩) | (refine (calls_out (isDay_any _ _) ?_).mono ?_; omega; rintro e w' ⟨rfl, rfl⟩) | (refine (isDay_any _ _).mono ?_; rintro e w' ⟨rfl, rfl⟩)) | (go_at_call 32; first | (refine (calls_in (IsDay_any _ _) ?_ ?_).mono ?_; omega; omega; rintro e w' ⟨rfl, rfl⟩) | (refine (calls_out (IsDay_any _ _) ?_).mono ?_; omega; rintro e w' ⟨rfl, rfl⟩) | (refine (IsDay_any _ _).mono ?_; rintro e w' ⟨rfl, rfl⟩)) | (go_at_call 46; first | (refine (calls_in (IsYear_any _ _) ?_ ?_).mono ?_; omega; omega; rintro e w' ⟨rfl, rfl⟩) | (refine (calls_out (IsYear_any _ _) ?_).mono ?_; omega; rintro e w' ⟨rfl, rfl⟩) | (refine (IsYear_any _ _).mono ?_; rintro e w' ⟨rfl, rfl⟩)) | (go_at_call 25; first | (refine (calls_in (IsFull_any _ _) ?_ ?_).mono ?_; omega; omega; rintro e w' ⟨rfl, rfl⟩) | (refine (calls_out (IsFull_any _ _) ?_).mono ?_; omega; rintro e w' ⟨rfl, rfl⟩) | (refine (IsFull_any _ _).mono ?_; rintro e w' ⟨rfl, rfl⟩)) | (go_at_call 69; first | (refine (calls_in (isFull_any _ _) ?_ ?_).mono ?_; omega; omega; rintro e w' ⟨rfl, rfl⟩) | (refine (calls_out (isFull_any _ _) ?_).mono ?_; omega; rintro e w' ⟨rfl, rfl⟩) | (refine (isFull_any _ _).mono ?_; rintro e w' ⟨rfl, rfl⟩)))
    go_ret
    exact ⟨rfl, hbw4.out⟩
end Go.Proofs.YtoigamkldccnkaaDoor
