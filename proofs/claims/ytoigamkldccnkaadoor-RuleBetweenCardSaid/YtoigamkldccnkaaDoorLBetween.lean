/- The walk of the statement RuleBetween. -/
import Derived.Test.YtoigamkldccnkaaDoorAwake
import Derived.Test.YtoigamkldccnkaaDoorW29
import Derived.Test.YtoigamkldccnkaaDoorW33
namespace Go.Proofs.YtoigamkldccnkaaDoor
open Go Go.RowKit
set_option maxRecDepth 100000 in
set_option maxHeartbeats 4000000 in
theorem RuleBetween_any (A : Option Addr) (c : Nat) (l : List Hol) (from_ to_ : Int) (w : World) (hl : Hols w A l) (hT : Tab w) :
    Calls Tryd.prog 7 #[.slice A l.length c, .int .i64 from_, .int .i64 to_] w fun e w' => e = .returned (.bool true) ∧ Below w.heap.size w w' := by
  have hl' := Lib.hid hl
  have hT' := Lib.hid hT
  clear hl hT
  by_cases hf : 0 ≤ from_ ∧ from_ ≤ 200000
  · obtain ⟨f0, f1⟩ := hf
    by_cases ht : 0 ≤ to_ ∧ to_ ≤ 200000
    · obtain ⟨t0, t1⟩ := ht
      by_cases hfar : 300 < to_ - from_
      · go_enter Tryd.func7, Tryd.ntmps7
        go_wp2_with fail
        refine (awake_any _ hT'.out).mono ?_
        rintro e w1 ⟨rfl, hb1⟩
        have hbw := Lib.hid hb1
        clear hb1
        go_wp2_with fail
        refine (Calendar_any _ _ l _ (hl'.out.below hbw.out)).mono ?_
        rintro e w' ⟨⟨b, rfl, _⟩, rfl⟩
        cases b
        · go_wp2
          go_ret
          exact ⟨rfl, hbw.out⟩
        go_wp2_with (first | (go_at_call 78; first | (refine (calls_in (within_any _ _ _ _) ?_ ?_).mono ?_; omega; omega; rintro e w' ⟨rfl, rfl⟩) | (refine (calls_out (within_any _ _ _ _) ?_).mono ?_; omega; rintro e w' ⟨rfl, rfl⟩) | (refine (within_any _ _ _ _).mono ?_; rintro e w' ⟨rfl, rfl⟩)) | (go_at_call 29; first | (refine (calls_in (Within_any _ _ _ _) ?_ ?_).mono ?_; omega; omega; rintro e w' ⟨rfl, rfl⟩) | (refine (calls_out (Within_any _ _ _ _) ?_).mono ?_; omega; rintro e w' ⟨rfl, rfl⟩) | (refine (Within_any _ _ _ _).mono ?_; rintro e w' ⟨rfl, rfl⟩)) | (go_at_call 75; first | (refine (calls_in (isDay_any _ _) ?_ ?_).mono ?_; omega; omega; rintro e w' ⟨rfl, rfl⟩) | (refine (calls_out (isDay_any _ _) ?_).mono ?_; omega; rintro e w' ⟨rfl, rfl⟩) | (refine (isDay_any _ _).mono ?_; rintro e w' ⟨rfl, rfl⟩)) | (go_at_call 32; first | (refine (calls_in (IsDay_any _ _) ?_ ?_).mono ?_; omega; omega; rintro e w' ⟨rfl, rfl⟩) | (refine (calls_out (IsDay_any _ _) ?_).mono ?_; omega; rintro e w' ⟨rfl, rfl⟩) | (refine (IsDay_any _ _).mono ?_; rintro e w' ⟨rfl, rfl⟩)) | (go_at_call 46; first | (refine (calls_in (IsYear_any _ _) ?_ ?_).mono ?_; omega; omega; rintro e w' ⟨rfl, rfl⟩) | (refine (calls_out (IsYear_any _ _) ?_).mono ?_; omega; rintro e w' ⟨rfl, rfl⟩) | (refine (IsYear_any _ _).mono ?_; rintro e w' ⟨rfl, rfl⟩)) | (go_at_call 25; first | (refine (calls_in (IsFull_any _ _) ?_ ?_).mono ?_; omega; omega; rintro e w' ⟨rfl, rfl⟩) | (refine (calls_out (IsFull_any _ _) ?_).mono ?_; omega; rintro e w' ⟨rfl, rfl⟩) | (refine (IsFull_any _ _).mono ?_; rintro e w' ⟨rfl, rfl⟩)) | (go_at_call 69; first | (refine (calls_in (isFull_any _ _) ?_ ?_).mono ?_; omega; omega; rintro e w' ⟨rfl, rfl⟩) | (refine (calls_out (isFull_any _ _) ?_).mono ?_; omega; rintro e w' ⟨rfl, rfl⟩) | (refine (isFull_any _ _).mono ?_; rintro e w' ⟨rfl, rfl⟩)))
        go_ret
        exact ⟨rfl, hbw.out⟩
      · by_cases h0 : Cal.holsErr l = 0
        · have h0z := Lib.hid h0
          have h1 : (Cal.holsErr l == 0) = true := by simpa using h0
          have h1' : (Cal.holsErr l != 0) = false := by simpa using h0
          obtain ⟨hok, hlen⟩ := Cal.holsErr_ok h0
          clear h0
          by_cases hab : from_ ≤ to_
          · have hmid : 0 ≤ (from_ + to_) / 2 ∧ (from_ + to_) / 2 ≤ 200000 ∧ from_ ≤ (from_ + to_) / 2 ∧ (from_ + to_) / 2 ≤ to_ := by omega
            have hE0 : ∀ a b, 0 ≤ a → a ≤ 200000 → 0 ≤ b → b ≤ 200000 → a ≤ b → Cal.betwE l a b = 0 := fun a b q1 q2 q3 q4 q5 => by unfold Cal.betwE; rw [if_pos h0z.out, if_pos ⟨q1, q2, q3, q4⟩, if_neg (by omega)]
            have hN0 : ∀ a b, Cal.betwE l a b = 0 → Cal.betwN l a b = Cal.betw l a b := fun a b q => by unfold Cal.betwN; rw [if_pos q]
            have hE := Lib.hid (hE0 from_ to_ f0 f1 t0 t1 hab)
            have hN := Lib.hid (hN0 _ _ hE.out)
            have hE1 := Lib.hid (hE0 from_ ((from_ + to_) / 2) f0 f1 hmid.1 hmid.2.1 hmid.2.2.1)
            have hN1 := Lib.hid (hN0 _ _ hE1.out)
            have hE2 := Lib.hid (hE0 ((from_ + to_) / 2) to_ hmid.1 hmid.2.1 t0 t1 hmid.2.2.2)
            have hN2 := Lib.hid (hN0 _ _ hE2.out)
            have hadd := Cal.betw_add (l := l) hmid.2.2.1 (to_ - (from_ + to_) / 2).toNat
            rw [show (from_ + to_) / 2 + ((to_ - (from_ + to_) / 2).toNat : Int) = to_ by omega] at hadd
            have b1 := Cal.betw_bd (l := l) hmid.2.2.1
            have b2 := Cal.betw_bd (l := l) hmid.2.2.2
            have hadd' : (Cal.betw l from_ ((from_ + to_) / 2) + Cal.betw l ((from_ + to_) / 2) to_ == Cal.betw l from_ to_) = true := by simp; omega
            clear hE0 hN0 hadd
            go_enter Tryd.func7, Tryd.ntmps7
            go_wp2_with fail
            refine (awake_any _ hT'.out).mono ?_
            rintro e w1 ⟨rfl, hb1⟩
            have hbw := Lib.hid hb1
            clear hb1
            go_wp2_with fail
            refine (Calendar_any _ _ l _ (hl'.out.below hbw.out)).mono ?_
            rintro e w' ⟨⟨b, rfl, _⟩, rfl⟩
            cases b
            · go_wp2
              go_ret
              exact ⟨rfl, hbw.out⟩
            go_wp2_with (first | (go_at_call 78; first | (refine (calls_in (within_any _ _ _ _) ?_ ?_).mono ?_; omega; omega; rintro e w' ⟨rfl, rfl⟩) | (refine (calls_out (within_any _ _ _ _) ?_).mono ?_; omega; rintro e w' ⟨rfl, rfl⟩) | (refine (within_any _ _ _ _).mono ?_; rintro e w' ⟨rfl, rfl⟩)) | (go_at_call 29; first | (refine (calls_in (Within_any _ _ _ _) ?_ ?_).mono ?_; omega; omega; rintro e w' ⟨rfl, rfl⟩) | (refine (calls_out (Within_any _ _ _ _) ?_).mono ?_; omega; rintro e w' ⟨rfl, rfl⟩) | (refine (Within_any _ _ _ _).mono ?_; rintro e w' ⟨rfl, rfl⟩)) | (go_at_call 75; first | (refine (calls_in (isDay_any _ _) ?_ ?_).mono ?_; omega; omega; rintro e w' ⟨rfl, rfl⟩) | (refine (calls_out (isDay_any _ _) ?_).mono ?_; omega; rintro e w' ⟨rfl, rfl⟩) | (refine (isDay_any _ _).mono ?_; rintro e w' ⟨rfl, rfl⟩)) | (go_at_call 32; first | (refine (calls_in (IsDay_any _ _) ?_ ?_).mono ?_; omega; omega; rintro e w' ⟨rfl, rfl⟩) | (refine (calls_out (IsDay_any _ _) ?_).mono ?_; omega; rintro e w' ⟨rfl, rfl⟩) | (refine (IsDay_any _ _).mono ?_; rintro e w' ⟨rfl, rfl⟩)) | (go_at_call 46; first | (refine (calls_in (IsYear_any _ _) ?_ ?_).mono ?_; omega; omega; rintro e w' ⟨rfl, rfl⟩) | (refine (calls_out (IsYear_any _ _) ?_).mono ?_; omega; rintro e w' ⟨rfl, rfl⟩) | (refine (IsYear_any _ _).mono ?_; rintro e w' ⟨rfl, rfl⟩)) | (go_at_call 25; first | (refine (calls_in (IsFull_any _ _) ?_ ?_).mono ?_; omega; omega; rintro e w' ⟨rfl, rfl⟩) | (refine (calls_out (IsFull_any _ _) ?_).mono ?_; omega; rintro e w' ⟨rfl, rfl⟩) | (refine (IsFull_any _ _).mono ?_; rintro e w' ⟨rfl, rfl⟩)) | (go_at_call 69; first | (refine (calls_in (isFull_any _ _) ?_ ?_).mono ?_; omega; omega; rintro e w' ⟨rfl, rfl⟩) | (refine (calls_out (isFull_any _ _) ?_).mono ?_; omega; rintro e w' ⟨rfl, rfl⟩) | (refine (isFull_any _ _).mono ?_; rintro e w' ⟨rfl, rfl⟩)))
            refine (WorkingBetween_any _ _ l from_ to_ _ (hl'.out.below hbw.out) (hT'.out.below hbw.out)).mono ?_
            rintro e w2 ⟨rfl, hb2⟩
            have hbw2 := Lib.hid (below_step hbw.out hb2)
            clear hb2
            rw [hE.out, hN.out]
            go_wp2_with fail
            refine (CheckHolidaysR_any _ _ l _ (hl'.out.below hbw2.out)).mono ?_
            rintro e w3 ⟨rfl, hb3⟩
            have hbw3 := Lib.hid (below_step hbw2.out hb3)
            clear hb3
            go_wp2_with (first | (go_at_call 78; first | (refine (calls_in (within_any _ _ _ _) ?_ ?_).mono ?_; omega; omega; rintro e w' ⟨rfl, rfl⟩) | (refine (calls_out (within_any _ _ _ _) ?_).mono ?_; omega; rintro e w' ⟨rfl, rfl⟩) | (refine (within_any _ _ _ _).mono ?_; rintro e w' ⟨rfl, rfl⟩)) | (go_at_call 29; first | (refine (calls_in (Within_any _ _ _ _) ?_ ?_).mono ?_; omega; omega; rintro e w' ⟨rfl, rfl⟩) | (refine (calls_out (Within_any _ _ _ _) ?_).mono ?_; omega; rintro e w' ⟨rfl, rfl⟩) | (refine (Within_any _ _ _ _).mono ?_; rintro e w' ⟨rfl, rfl⟩)) | (go_at_call 75; first | (refine (calls_in (isDay_any _ _) ?_ ?_).mono ?_; omega; omega; rintro e w' ⟨rfl, rfl⟩) | (refine (calls_out (isDay_any _ _) ?_).mono ?_; omega; rintro e w' ⟨rfl, rfl⟩) | (refine (isDay_any _ _).mono ?_; rintro e w' ⟨rfl, rfl⟩)) | (go_at_call 32; first | (refine (calls_in (IsDay_any _ _) ?_ ?_).mono ?_; omega; omega; rintro e w' ⟨rfl, rfl⟩) | (refine (calls_out (IsDay_any _ _) ?_).mono ?_; omega; rintro e w' ⟨rfl, rfl⟩) | (refine (IsDay_any _ _).mono ?_; rintro e w' ⟨rfl, rfl⟩)) | (go_at_call 46; first | (refine (calls_in (IsYear_any _ _) ?_ ?_).mono ?_; omega; omega; rintro e w' ⟨rfl, rfl⟩) | (refine (calls_out (IsYear_any _ _) ?_).mono ?_; omega; rintro e w' ⟨rfl, rfl⟩) | (refine (IsYear_any _ _).mono ?_; rintro e w' ⟨rfl, rfl⟩)) | (go_at_call 25; first | (refine (calls_in (IsFull_any _ _) ?_ ?_).mono ?_; omega; omega; rintro e w' ⟨rfl, rfl⟩) | (refine (calls_out (IsFull_any _ _) ?_).mono ?_; omega; rintro e w' ⟨rfl, rfl⟩) | (refine (IsFull_any _ _).mono ?_; rintro e w' ⟨rfl, rfl⟩)) | (go_at_call 69; first | (refine (calls_in (isFull_any _ _) ?_ ?_).mono ?_; omega; omega; rintro e w' ⟨rfl, rfl⟩) | (refine (calls_out (isFull_any _ _) ?_).mono ?_; omega; rintro e w' ⟨rfl, rfl⟩) | (refine (isFull_any _ _).mono ?_; rintro e w' ⟨rfl, rfl⟩)))
            refine (WorkingBetweenR_any A c l hok from_ to_ f0 hab t1 _ (hl'.out.below hbw3.out)).mono ?_
            rintro e w4 ⟨rfl, hb4⟩
            have hbw4 := Lib.hid (below_step hbw3.out hb4)
            clear hb4
            go_wp2_with fail
            refine (WorkingBetween_any _ _ l from_ ((from_ + to_) / 2) _ (hl'.out.below hbw4.out) (hT'.out.below hbw4.out)).mono ?_
            rintro e w5 ⟨rfl, hb5⟩
            have hbw5 := Lib.hid (below_step hbw4.out hb5)
            clear hb5
            rw [hE1.out, hN1.out]
            go_wp2_with fail
            refine (WorkingBetween_any _ _ l ((from_ + to_) / 2) to_ _ (hl'.out.below hbw5.out) (hT'.out.below hbw5.out)).mono ?_
            rintro e w6 ⟨rfl, hb6⟩
            have hbw6 := Lib.hid (below_step hbw5.out hb6)
            clear hb6
            rw [hE2.out, hN2.out]
            go_wp2_with fail
            go_ret
            exact ⟨rfl, hbw6.out⟩
          · have hE : Hid (Cal.betwE l from_ to_ = 9) := by show _ = _; unfold Cal.betwE; rw [if_pos h0z.out, if_pos ⟨f0, f1, t0, t1⟩, if_pos (by omega)]
            have hN : Hid (Cal.betwN l from_ to_ = 0) := by show _ = _; unfold Cal.betwN; rw [if_neg (by rw [hE.out]; decide)]
            go_enter Tryd.func7, Tryd.ntmps7
            go_wp2_with fail
            refine (awake_any _ hT'.out).mono ?_
            rintro e w1 ⟨rfl, hb1⟩
            have hbw := Lib.hid hb1
            clear hb1
            go_wp2_with fail
            refine (Calendar_any _ _ l _ (hl'.out.below hbw.out)).mono ?_
            rintro e w' ⟨⟨b, rfl, _⟩, rfl⟩
            cases b
            · go_wp2
              go_ret
              exact ⟨rfl, hbw.out⟩
            go_wp2_with (first | (go_at_call 78; first | (refine (calls_in (within_any _ _ _ _) ?_ ?_).mono ?_; omega; omega; rintro e w' ⟨rfl, rfl⟩) | (refine (calls_out (within_any _ _ _ _) ?_).mono ?_; omega; rintro e w' ⟨rfl, rfl⟩) | (refine (within_any _ _ _ _).mono ?_; rintro e w' ⟨rfl, rfl⟩)) | (go_at_call 29; first | (refine (calls_in (Within_any _ _ _ _) ?_ ?_).mono ?_; omega; omega; rintro e w' ⟨rfl, rfl⟩) | (refine (calls_out (Within_any _ _ _ _) ?_).mono ?_; omega; rintro e w' ⟨rfl, rfl⟩) | (refine (Within_any _ _ _ _).mono ?_; rintro e w' ⟨rfl, rfl⟩)) | (go_at_call 75; first | (refine (calls_in (isDay_any _ _) ?_ ?_).mono ?_; omega; omega; rintro e w' ⟨rfl, rfl⟩) | (refine (calls_out (isDay_any _ _) ?_).mono ?_; omega; rintro e w' ⟨rfl, rfl⟩) | (refine (isDay_any _ _).mono ?_; rintro e w' ⟨rfl, rfl⟩)) | (go_at_call 32; first | (refine (calls_in (IsDay_any _ _) ?_ ?_).mono ?_; omega; omega; rintro e w' ⟨rfl, rfl⟩) | (refine (calls_out (IsDay_any _ _) ?_).mono ?_; omega; rintro e w' ⟨rfl, rfl⟩) | (refine (IsDay_any _ _).mono ?_; rintro e w' ⟨rfl, rfl⟩)) | (go_at_call 46; first | (refine (calls_in (IsYear_any _ _) ?_ ?_).mono ?_; omega; omega; rintro e w' ⟨rfl, rfl⟩) | (refine (calls_out (IsYear_any _ _) ?_).mono ?_; omega; rintro e w' ⟨rfl, rfl⟩) | (refine (IsYear_any _ _).mono ?_; rintro e w' ⟨rfl, rfl⟩)) | (go_at_call 25; first | (refine (calls_in (IsFull_any _ _) ?_ ?_).mono ?_; omega; omega; rintro e w' ⟨rfl, rfl⟩) | (refine (calls_out (IsFull_any _ _) ?_).mono ?_; omega; rintro e w' ⟨rfl, rfl⟩) | (refine (IsFull_any _ _).mono ?_; rintro e w' ⟨rfl, rfl⟩)) | (go_at_call 69; first | (refine (calls_in (isFull_any _ _) ?_ ?_).mono ?_; omega; omega; rintro e w' ⟨rfl, rfl⟩) | (refine (calls_out (isFull_any _ _) ?_).mono ?_; omega; rintro e w' ⟨rfl, rfl⟩) | (refine (isFull_any _ _).mono ?_; rintro e w' ⟨rfl, rfl⟩)))
            refine (WorkingBetween_any _ _ l from_ to_ _ (hl'.out.below hbw.out) (hT'.out.below hbw.out)).mono ?_
            rintro e w2 ⟨rfl, hb2⟩
            have hbw2 := Lib.hid (below_step hbw.out hb2)
            clear hb2
            rw [hE.out, hN.out]
            go_wp2_with fail
            refine (CheckHolidaysR_any _ _ l _ (hl'.out.below hbw2.out)).mono ?_
            rintro e w3 ⟨rfl, hb3⟩
            have hbw3 := Lib.hid (below_step hbw2.out hb3)
            clear hb3
            go_wp2_with (first | (go_at_call 78; first | (refine (calls_in (within_any _ _ _ _) ?_ ?_).mono ?_; omega; omega; rintro e w' ⟨rfl, rfl⟩) | (refine (calls_out (within_any _ _ _ _) ?_).mono ?_; omega; rintro e w' ⟨rfl, rfl⟩) | (refine (within_any _ _ _ _).mono ?_; rintro e w' ⟨rfl, rfl⟩)) | (go_at_call 29; first | (refine (calls_in (Within_any _ _ _ _) ?_ ?_).mono ?_; omega; omega; rintro e w' ⟨rfl, rfl⟩) | (refine (calls_out (Within_any _ _ _ _) ?_).mono ?_; omega; rintro e w' ⟨rfl, rfl⟩) | (refine (Within_any _ _ _ _).mono ?_; rintro e w' ⟨rfl, rfl⟩)) | (go_at_call 75; first | (refine (calls_in (isDay_any _ _) ?_ ?_).mono ?_; omega; omega; rintro e w' ⟨rfl, rfl⟩) | (refine (calls_out (isDay_any _ _) ?_).mono ?_; omega; rintro e w' ⟨rfl, rfl⟩) | (refine (isDay_any _ _).mono ?_; rintro e w' ⟨rfl, rfl⟩)) | (go_at_call 32; first | (refine (calls_in (IsDay_any _ _) ?_ ?_).mono ?_; omega; omega; rintro e w' ⟨rfl, rfl⟩) | (refine (calls_out (IsDay_any _ _) ?_).mono ?_; omega; rintro e w' ⟨rfl, rfl⟩) | (refine (IsDay_any _ _).mono ?_; rintro e w' ⟨rfl, rfl⟩)) | (go_at_call 46; first | (refine (calls_in (IsYear_any _ _) ?_ ?_).mono ?_; omega; omega; rintro e w' ⟨rfl, rfl⟩) | (refine (calls_out (IsYear_any _ _) ?_).mono ?_; omega; rintro e w' ⟨rfl, rfl⟩) | (refine (IsYear_any _ _).mono ?_; rintro e w' ⟨rfl, rfl⟩)) | (go_at_call 25; first | (refine (calls_in (IsFull_any _ _) ?_ ?_).mono ?_; omega; omega; rintro e w' ⟨rfl, rfl⟩) | (refine (calls_out (IsFull_any _ _) ?_).mono ?_; omega; rintro e w' ⟨rfl, rfl⟩) | (refine (IsFull_any _ _).mono ?_; rintro e w' ⟨rfl, rfl⟩)) | (go_at_call 69; first | (refine (calls_in (isFull_any _ _) ?_ ?_).mono ?_; omega; omega; rintro e w' ⟨rfl, rfl⟩) | (refine (calls_out (isFull_any _ _) ?_).mono ?_; omega; rintro e w' ⟨rfl, rfl⟩) | (refine (isFull_any _ _).mono ?_; rintro e w' ⟨rfl, rfl⟩)))
            go_ret
            exact ⟨rfl, hbw3.out⟩
        · have h0z := Lib.hid h0
          have h1 : (Cal.holsErr l == 0) = false := by simpa using h0
          have h1' : (Cal.holsErr l != 0) = true := by simpa using h0
          have hE : Hid (Cal.betwE l from_ to_ = Cal.holsErr l) := by show _ = _; unfold Cal.betwE; rw [if_neg h0]
          have hN : Hid (Cal.betwN l from_ to_ = 0) := by show _ = _; unfold Cal.betwN; rw [if_neg (by rw [hE.out]; exact h0)]
          clear h0
          go_enter Tryd.func7, Tryd.ntmps7
          go_wp2_with fail
          refine (awake_any _ hT'.out).mono ?_
          rintro e w1 ⟨rfl, hb1⟩
          have hbw := Lib.hid hb1
          clear hb1
          go_wp2_with fail
          refine (Calendar_any _ _ l _ (hl'.out.below hbw.out)).mono ?_
          rintro e w' ⟨⟨b, rfl, _⟩, rfl⟩
          cases b
          · go_wp2
            go_ret
            exact ⟨rfl, hbw.out⟩
          go_wp2_with (first | (go_at_call 78; first | (refine (calls_in (within_any _ _ _ _) ?_ ?_).mono ?_; omega; omega; rintro e w' ⟨rfl, rfl⟩) | (refine (calls_out (within_any _ _ _ _) ?_).mono ?_; omega; rintro e w' ⟨rfl, rfl⟩) | (refine (within_any _ _ _ _).mono ?_; rintro e w' ⟨rfl, rfl⟩)) | (go_at_call 29; first | (refine (calls_in (Within_any _ _ _ _) ?_ ?_).mono ?_; omega; omega; rintro e w' ⟨rfl, rfl⟩) | (refine (calls_out (Within_any _ _ _ _) ?_).mono ?_; omega; rintro e w' ⟨rfl, rfl⟩) | (refine (Within_any _ _ _ _).mono ?_; rintro e w' ⟨rfl, rfl⟩)) | (go_at_call 75; first | (refine (calls_in (isDay_any _ _) ?_ ?_).mono ?_; omega; omega; rintro e w' ⟨rfl, rfl⟩) | (refine (calls_out (isDay_any _ _) ?_).mono ?_; omega; rintro e w' ⟨rfl, rfl⟩) | (refine (isDay_any _ _).mono ?_; rintro e w' ⟨rfl, rfl⟩)) | (go_at_call 32; first | (refine (calls_in (IsDay_any _ _) ?_ ?_).mono ?_; omega; omega; rintro e w' ⟨rfl, rfl⟩) | (refine (calls_out (IsDay_any _ _) ?_).mono ?_; omega; rintro e w' ⟨rfl, rfl⟩) | (refine (IsDay_any _ _).mono ?_; rintro e w' ⟨rfl, rfl⟩)) | (go_at_call 46; first | (refine (calls_in (IsYear_any _ _) ?_ ?_).mono ?_; omega; omega; rintro e w' ⟨rfl, rfl⟩) | (refine (calls_out (IsYear_any _ _) ?_).mono ?_; omega; rintro e w' ⟨rfl, rfl⟩) | (refine (IsYear_any _ _).mono ?_; rintro e w' ⟨rfl, rfl⟩)) | (go_at_call 25; first | (refine (calls_in (IsFull_any _ _) ?_ ?_).mono ?_; omega; omega; rintro e w' ⟨rfl, rfl⟩) | (refine (calls_out (IsFull_any _ _) ?_).mono ?_; omega; rintro e w' ⟨rfl, rfl⟩) | (refine (IsFull_any _ _).mono ?_; rintro e w' ⟨rfl, rfl⟩)) | (go_at_call 69; first | (refine (calls_in (isFull_any _ _) ?_ ?_).mono ?_; omega; omega; rintro e w' ⟨rfl, rfl⟩) | (refine (calls_out (isFull_any _ _) ?_).mono ?_; omega; rintro e w' ⟨rfl, rfl⟩) | (refine (isFull_any _ _).mono ?_; rintro e w' ⟨rfl, rfl⟩)))
          refine (WorkingBetween_any _ _ l from_ to_ _ (hl'.out.below hbw.out) (hT'.out.below hbw.out)).mono ?_
          rintro e w2 ⟨rfl, hb2⟩
          have hbw2 := Lib.hid (below_step hbw.out hb2)
          clear hb2
          rw [hE.out, hN.out]
          go_wp2_with fail
          refine (CheckHolidaysR_any _ _ l _ (hl'.out.below hbw2.out)).mono ?_
          rintro e w3 ⟨rfl, hb3⟩
          have hbw3 := Lib.hid (below_step hbw2.out hb3)
          clear hb3
          go_wp2_with (first | (go_at_call 78; first | (refine (calls_in (within_any _ _ _ _) ?_ ?_).mono ?_; omega; omega; rintro e w' ⟨rfl, rfl⟩) | (refine (calls_out (within_any _ _ _ _) ?_).mono ?_; omega; rintro e w' ⟨rfl, rfl⟩) | (refine (within_any _ _ _ _).mono ?_; rintro e w' ⟨rfl, rfl⟩)) | (go_at_call 29; first | (refine (calls_in (Within_any _ _ _ _) ?_ ?_).mono ?_; omega; omega; rintro e w' ⟨rfl, rfl⟩) | (refine (calls_out (Within_any _ _ _ _) ?_).mono ?_; omega; rintro e w' ⟨rfl, rfl⟩) | (refine (Within_any _ _ _ _).mono ?_; rintro e w' ⟨rfl, rfl⟩)) | (go_at_call 75; first | (refine (calls_in (isDay_any _ _) ?_ ?_).mono ?_; omega; omega; rintro e w' ⟨rfl, rfl⟩) | (refine (calls_out (isDay_any _ _) ?_).mono ?_; omega; rintro e w' ⟨rfl, rfl⟩) | (refine (isDay_any _ _).mono ?_; rintro e w' ⟨rfl, rfl⟩)) | (go_at_call 32; first | (refine (calls_in (IsDay_any _ _) ?_ ?_).mono ?_; omega; omega; rintro e w' ⟨rfl, rfl⟩) | (refine (calls_out (IsDay_any _ _) ?_).mono ?_; omega; rintro e w' ⟨rfl, rfl⟩) | (refine (IsDay_any _ _).mono ?_; rintro e w' ⟨rfl, rfl⟩)) | (go_at_call 46; first | (refine (calls_in (IsYear_any _ _) ?_ ?_).mono ?_; omega; omega; rintro e w' ⟨rfl, rfl⟩) | (refine (calls_out (IsYear_any _ _) ?_).mono ?_; omega; rintro e w' ⟨rfl, rfl⟩) | (refine (IsYear_any _ _).mono ?_; rintro e w' ⟨rfl, rfl⟩)) | (go_at_call 25; first | (refine (calls_in (IsFull_any _ _) ?_ ?_).mono ?_; omega; omega; rintro e w' ⟨rfl, rfl⟩) | (refine (calls_out (IsFull_any _ _) ?_).mono ?_; omega; rintro e w' ⟨rfl, rfl⟩) | (refine (IsFull_any _ _).mono ?_; rintro e w' ⟨rfl, rfl⟩)) | (go_at_call 69; first | (refine (calls_in (isFull_any _ _) ?_ ?_).mono ?_; omega; omega; rintro e w' ⟨rfl, rfl⟩) | (refine (calls_out (isFull_any _ _) ?_).mono ?_; omega; rintro e w' ⟨rfl, rfl⟩) | (refine (isFull_any _ _).mono ?_; rintro e w' ⟨rfl, rfl⟩)))
          go_ret
          exact ⟨rfl, hbw3.out⟩
    · have ht' : to_ < 0 ∨ 200000 < to_ := by omega
      by_cases h0 : Cal.holsErr l = 0
      · have h0z := Lib.hid h0
        have h1 : (Cal.holsErr l == 0) = true := by simpa using h0
        have h1' : (Cal.holsErr l != 0) = false := by simpa using h0
        obtain ⟨hok, hlen⟩ := Cal.holsErr_ok h0
        have hE : Hid (Cal.betwE l from_ to_ = 2) := by show _ = _; unfold Cal.betwE; rw [if_pos h0, if_neg (by omega)]
        have hN : Hid (Cal.betwN l from_ to_ = 0) := by show _ = _; unfold Cal.betwN; rw [if_neg (by rw [hE.out]; decide)]
        clear h0 ht
        go_enter Tryd.func7, Tryd.ntmps7
        go_wp2_with fail
        refine (awake_any _ hT'.out).mono ?_
        rintro e w1 ⟨rfl, hb1⟩
        have hbw := Lib.hid hb1
        clear hb1
        go_wp2_with fail
        refine (Calendar_any _ _ l _ (hl'.out.below hbw.out)).mono ?_
        rintro e w' ⟨⟨b, rfl, _⟩, rfl⟩
        cases b
        · go_wp2
          go_ret
          exact ⟨rfl, hbw.out⟩
        go_wp2_with (first | (go_at_call 78; first | (refine (calls_in (within_any _ _ _ _) ?_ ?_).mono ?_; omega; omega; rintro e w' ⟨rfl, rfl⟩) | (refine (calls_out (within_any _ _ _ _) ?_).mono ?_; omega; rintro e w' ⟨rfl, rfl⟩) | (refine (within_any _ _ _ _).mono ?_; rintro e w' ⟨rfl, rfl⟩)) | (go_at_call 29; first | (refine (calls_in (Within_any _ _ _ _) ?_ ?_).mono ?_; omega; omega; rintro e w' ⟨rfl, rfl⟩) | (refine (calls_out (Within_any _ _ _ _) ?_).mono ?_; omega; rintro e w' ⟨rfl, rfl⟩) | (refine (Within_any _ _ _ _).mono ?_; rintro e w' ⟨rfl, rfl⟩)) | (go_at_call 75; first | (refine (calls_in (isDay_any _ _) ?_ ?_).mono ?_; omega; omega; rintro e w' ⟨rfl, rfl⟩) | (refine (calls_out (isDay_any _ _) ?_).mono ?_; omega; rintro e w' ⟨rfl, rfl⟩) | (refine (isDay_any _ _).mono ?_; rintro e w' ⟨rfl, rfl⟩)) | (go_at_call 32; first | (refine (calls_in (IsDay_any _ _) ?_ ?_).mono ?_; omega; omega; rintro e w' ⟨rfl, rfl⟩) | (refine (calls_out (IsDay_any _ _) ?_).mono ?_; omega; rintro e w' ⟨rfl, rfl⟩) | (refine (IsDay_any _ _).mono ?_; rintro e w' ⟨rfl, rfl⟩)) | (go_at_call 46; first | (refine (calls_in (IsYear_any _ _) ?_ ?_).mono ?_; omega; omega; rintro e w' ⟨rfl, rfl⟩) | (refine (calls_out (IsYear_any _ _) ?_).mono ?_; omega; rintro e w' ⟨rfl, rfl⟩) | (refine (IsYear_any _ _).mono ?_; rintro e w' ⟨rfl, rfl⟩)) | (go_at_call 25; first | (refine (calls_in (IsFull_any _ _) ?_ ?_).mono ?_; omega; omega; rintro e w' ⟨rfl, rfl⟩) | (refine (calls_out (IsFull_any _ _) ?_).mono ?_; omega; rintro e w' ⟨rfl, rfl⟩) | (refine (IsFull_any _ _).mono ?_; rintro e w' ⟨rfl, rfl⟩)) | (go_at_call 69; first | (refine (calls_in (isFull_any _ _) ?_ ?_).mono ?_; omega; omega; rintro e w' ⟨rfl, rfl⟩) | (refine (calls_out (isFull_any _ _) ?_).mono ?_; omega; rintro e w' ⟨rfl, rfl⟩) | (refine (isFull_any _ _).mono ?_; rintro e w' ⟨rfl, rfl⟩)))
        refine (WorkingBetween_any _ _ l from_ to_ _ (hl'.out.below hbw.out) (hT'.out.below hbw.out)).mono ?_
        rintro e w2 ⟨rfl, hb2⟩
        have hbw2 := Lib.hid (below_step hbw.out hb2)
        clear hb2
        rw [hE.out, hN.out]
        go_wp2_with fail
        refine (CheckHolidaysR_any _ _ l _ (hl'.out.below hbw2.out)).mono ?_
        rintro e w3 ⟨rfl, hb3⟩
        have hbw3 := Lib.hid (below_step hbw2.out hb3)
        clear hb3
        go_wp2_with (first | (go_at_call 78; first | (refine (calls_in (within_any _ _ _ _) ?_ ?_).mono ?_; omega; omega; rintro e w' ⟨rfl, rfl⟩) | (refine (calls_out (within_any _ _ _ _) ?_).mono ?_; omega; rintro e w' ⟨rfl, rfl⟩) | (refine (within_any _ _ _ _).mono ?_; rintro e w' ⟨rfl, rfl⟩)) | (go_at_call 29; first | (refine (calls_in (Within_any _ _ _ _) ?_ ?_).mono ?_; omega; omega; rintro e w' ⟨rfl, rfl⟩) | (refine (calls_out (Within_any _ _ _ _) ?_).mono ?_; omega; rintro e w' ⟨rfl, rfl⟩) | (refine (Within_any _ _ _ _).mono ?_; rintro e w' ⟨rfl, rfl⟩)) | (go_at_call 75; first | (refine (calls_in (isDay_any _ _) ?_ ?_).mono ?_; omega; omega; rintro e w' ⟨rfl, rfl⟩) | (refine (calls_out (isDay_any _ _) ?_).mono ?_; omega; rintro e w' ⟨rfl, rfl⟩) | (refine (isDay_any _ _).mono ?_; rintro e w' ⟨rfl, rfl⟩)) | (go_at_call 32; first | (refine (calls_in (IsDay_any _ _) ?_ ?_).mono ?_; omega; omega; rintro e w' ⟨rfl, rfl⟩) | (refine (calls_out (IsDay_any _ _) ?_).mono ?_; omega; rintro e w' ⟨rfl, rfl⟩) | (refine (IsDay_any _ _).mono ?_; rintro e w' ⟨rfl, rfl⟩)) | (go_at_call 46; first | (refine (calls_in (IsYear_any _ _) ?_ ?_).mono ?_; omega; omega; rintro e w' ⟨rfl, rfl⟩) | (refine (calls_out (IsYear_any _ _) ?_).mono ?_; omega; rintro e w' ⟨rfl, rfl⟩) | (refine (IsYear_any _ _).mono ?_; rintro e w' ⟨rfl, rfl⟩)) | (go_at_call 25; first | (refine (calls_in (IsFull_any _ _) ?_ ?_).mono ?_; omega; omega; rintro e w' ⟨rfl, rfl⟩) | (refine (calls_out (IsFull_any _ _) ?_).mono ?_; omega; rintro e w' ⟨rfl, rfl⟩) | (refine (IsFull_any _ _).mono ?_; rintro e w' ⟨rfl, rfl⟩)) | (go_at_call 69; first | (refine (calls_in (isFull_any _ _) ?_ ?_).mono ?_; omega; omega; rintro e w' ⟨rfl, rfl⟩) | (refine (calls_out (isFull_any _ _) ?_).mono ?_; omega; rintro e w' ⟨rfl, rfl⟩) | (refine (isFull_any _ _).mono ?_; rintro e w' ⟨rfl, rfl⟩)))
        go_ret
        exact ⟨rfl, hbw3.out⟩
      · have h0z := Lib.hid h0
        have h1 : (Cal.holsErr l == 0) = false := by simpa using h0
        have h1' : (Cal.holsErr l != 0) = true := by simpa using h0
        have hE : Hid (Cal.betwE l from_ to_ = Cal.holsErr l) := by show _ = _; unfold Cal.betwE; rw [if_neg h0]
        have hN : Hid (Cal.betwN l from_ to_ = 0) := by show _ = _; unfold Cal.betwN; rw [if_neg (by rw [hE.out]; exact h0)]
        clear h0
        clear ht
        go_enter Tryd.func7, Tryd.ntmps7
        go_wp2_with fail
        refine (awake_any _ hT'.out).mono ?_
        rintro e w1 ⟨rfl, hb1⟩
        have hbw := Lib.hid hb1
        clear hb1
        go_wp2_with fail
        refine (Calendar_any _ _ l _ (hl'.out.below hbw.out)).mono ?_
        rintro e w' ⟨⟨b, rfl, _⟩, rfl⟩
        cases b
        · go_wp2
          go_ret
          exact ⟨rfl, hbw.out⟩
        go_wp2_with (first | (go_at_call 78; first | (refine (calls_in (within_any _ _ _ _) ?_ ?_).mono ?_; omega; omega; rintro e w' ⟨rfl, rfl⟩) | (refine (calls_out (within_any _ _ _ _) ?_).mono ?_; omega; rintro e w' ⟨rfl, rfl⟩) | (refine (within_any _ _ _ _).mono ?_; rintro e w' ⟨rfl, rfl⟩)) | (go_at_call 29; first | (refine (calls_in (Within_any _ _ _ _) ?_ ?_).mono ?_; omega; omega; rintro e w' ⟨rfl, rfl⟩) | (refine (calls_out (Within_any _ _ _ _) ?_).mono ?_; omega; rintro e w' ⟨rfl, rfl⟩) | (refine (Within_any _ _ _ _).mono ?_; rintro e w' ⟨rfl, rfl⟩)) | (go_at_call 75; first | (refine (calls_in (isDay_any _ _) ?_ ?_).mono ?_; omega; omega; rintro e w' ⟨rfl, rfl⟩) | (refine (calls_out (isDay_any _ _) ?_).mono ?_; omega; rintro e w' ⟨rfl, rfl⟩) | (refine (isDay_any _ _).mono ?_; rintro e w' ⟨rfl, rfl⟩)) | (go_at_call 32; first | (refine (calls_in (IsDay_any _ _) ?_ ?_).mono ?_; omega; omega; rintro e w' ⟨rfl, rfl⟩) | (refine (calls_out (IsDay_any _ _) ?_).mono ?_; omega; rintro e w' ⟨rfl, rfl⟩) | (refine (IsDay_any _ _).mono ?_; rintro e w' ⟨rfl, rfl⟩)) | (go_at_call 46; first | (refine (calls_in (IsYear_any _ _) ?_ ?_).mono ?_; omega; omega; rintro e w' ⟨rfl, rfl⟩) | (refine (calls_out (IsYear_any _ _) ?_).mono ?_; omega; rintro e w' ⟨rfl, rfl⟩) | (refine (IsYear_any _ _).mono ?_; rintro e w' ⟨rfl, rfl⟩)) | (go_at_call 25; first | (refine (calls_in (IsFull_any _ _) ?_ ?_).mono ?_; omega; omega; rintro e w' ⟨rfl, rfl⟩) | (refine (calls_out (IsFull_any _ _) ?_).mono ?_; omega; rintro e w' ⟨rfl, rfl⟩) | (refine (IsFull_any _ _).mono ?_; rintro e w' ⟨rfl, rfl⟩)) | (go_at_call 69; first | (refine (calls_in (isFull_any _ _) ?_ ?_).mono ?_; omega; omega; rintro e w' ⟨rfl, rfl⟩) | (refine (calls_out (isFull_any _ _) ?_).mono ?_; omega; rintro e w' ⟨rfl, rfl⟩) | (refine (isFull_any _ _).mono ?_; rintro e w' ⟨rfl, rfl⟩)))
        refine (WorkingBetween_any _ _ l from_ to_ _ (hl'.out.below hbw.out) (hT'.out.below hbw.out)).mono ?_
        rintro e w2 ⟨rfl, hb2⟩
        have hbw2 := Lib.hid (below_step hbw.out hb2)
        clear hb2
        rw [hE.out, hN.out]
        go_wp2_with fail
        refine (CheckHolidaysR_any _ _ l _ (hl'.out.below hbw2.out)).mono ?_
        rintro e w3 ⟨rfl, hb3⟩
        have hbw3 := Lib.hid (below_step hbw2.out hb3)
        clear hb3
        go_wp2_with (first | (go_at_call 78; first | (refine (calls_in (within_any _ _ _ _) ?_ ?_).mono ?_; omega; omega; rintro e w' ⟨rfl, rfl⟩) | (refine (calls_out (within_any _ _ _ _) ?_).mono ?_; omega; rintro e w' ⟨rfl, rfl⟩) | (refine (within_any _ _ _ _).mono ?_; rintro e w' ⟨rfl, rfl⟩)) | (go_at_call 29; first | (refine (calls_in (Within_any _ _ _ _) ?_ ?_).mono ?_; omega; omega; rintro e w' ⟨rfl, rfl⟩) | (refine (calls_out (Within_any _ _ _ _) ?_).mono ?_; omega; rintro e w' ⟨rfl, rfl⟩) | (refine (Within_any _ _ _ _).mono ?_; rintro e w' ⟨rfl, rfl⟩)) | (go_at_call 75; first | (refine (calls_in (isDay_any _ _) ?_ ?_).mono ?_; omega; omega; rintro e w' ⟨rfl, rfl⟩) | (refine (calls_out (isDay_any _ _) ?_).mono ?_; omega; rintro e w' ⟨rfl, rfl⟩) | (refine (isDay_any _ _).mono ?_; rintro e w' ⟨rfl, rfl⟩)) | (go_at_call 32; first | (refine (calls_in (IsDay_any _ _) ?_ ?_).mono ?_; omega; omega; rintro e w' ⟨rfl, rfl⟩) | (refine (calls_out (IsDay_any _ _) ?_).mono ?_; omega; rintro e w' ⟨rfl, rfl⟩) | (refine (IsDay_any _ _).mono ?_; rintro e w' ⟨rfl, rfl⟩)) | (go_at_call 46; first | (refine (calls_in (IsYear_any _ _) ?_ ?_).mono ?_; omega; omega; rintro e w' ⟨rfl, rfl⟩) | (refine (calls_out (IsYear_any _ _) ?_).mono ?_; omega; rintro e w' ⟨rfl, rfl⟩) | (refine (IsYear_any _ _).mono ?_; rintro e w' ⟨rfl, rfl⟩)) | (go_at_call 25; first | (refine (calls_in (IsFull_any _ _) ?_ ?_).mono ?_; omega; omega; rintro e w' ⟨rfl, rfl⟩) | (refine (calls_out (IsFull_any _ _) ?_).mono ?_; omega; rintro e w' ⟨rfl, rfl⟩) | (refine (IsFull_any _ _).mono ?_; rintro e w' ⟨rfl, rfl⟩)) | (go_at_call 69; first | (refine (calls_in (isFull_any _ _) ?_ ?_).mono ?_; omega; omega; rintro e w' ⟨rfl, rfl⟩) | (refine (calls_out (isFull_any _ _) ?_).mono ?_; omega; rintro e w' ⟨rfl, rfl⟩) | (refine (isFull_any _ _).mono ?_; rintro e w' ⟨rfl, rfl⟩)))
        go_ret
        exact ⟨rfl, hbw3.out⟩
  · have hf' : from_ < 0 ∨ 200000 < from_ := by omega
    by_cases h0 : Cal.holsErr l = 0
    · have h0z := Lib.hid h0
      have h1 : (Cal.holsErr l == 0) = true := by simpa using h0
      have h1' : (Cal.holsErr l != 0) = false := by simpa using h0
      obtain ⟨hok, hlen⟩ := Cal.holsErr_ok h0
      have hE : Hid (Cal.betwE l from_ to_ = 2) := by show _ = _; unfold Cal.betwE; rw [if_pos h0, if_neg (by omega)]
      have hN : Hid (Cal.betwN l from_ to_ = 0) := by show _ = _; unfold Cal.betwN; rw [if_neg (by rw [hE.out]; decide)]
      clear h0 hf
      go_enter Tryd.func7, Tryd.ntmps7
      go_wp2_with fail
      refine (awake_any _ hT'.out).mono ?_
      rintro e w1 ⟨rfl, hb1⟩
      have hbw := Lib.hid hb1
      clear hb1
      go_wp2_with fail
      refine (Calendar_any _ _ l _ (hl'.out.below hbw.out)).mono ?_
      rintro e w' ⟨⟨b, rfl, _⟩, rfl⟩
      cases b
      · go_wp2
        go_ret
        exact ⟨rfl, hbw.out⟩
      go_wp2_with (first | (go_at_call 78; first | (refine (calls_in (within_any _ _ _ _) ?_ ?_).mono ?_; omega; omega; rintro e w' ⟨rfl, rfl⟩) | (refine (calls_out (within_any _ _ _ _) ?_).mono ?_; omega; rintro e w' ⟨rfl, rfl⟩) | (refine (within_any _ _ _ _).mono ?_; rintro e w' ⟨rfl, rfl⟩)) | (go_at_call 29; first | (refine (calls_in (Within_any _ _ _ _) ?_ ?_).mono ?_; omega; omega; rintro e w' ⟨rfl, rfl⟩) | (refine (calls_out (Within_any _ _ _ _) ?_).mono ?_; omega; rintro e w' ⟨rfl, rfl⟩) | (refine (Within_any _ _ _ _).mono ?_; rintro e w' ⟨rfl, rfl⟩)) | (go_at_call 75; first | (refine (calls_in (isDay_any _ _) ?_ ?_).mono ?_; omega; omega; rintro e w' ⟨rfl, rfl⟩) | (refine (calls_out (isDay_any _ _) ?_).mono ?_; omega; rintro e w' ⟨rfl, rfl⟩) | (refine (isDay_any _ _).mono ?_; rintro e w' ⟨rfl, rfl⟩)) | (go_at_call 32; first | (refine (calls_in (IsDay_any _ _) ?_ ?_).mono ?_; omega; omega; rintro e w' ⟨rfl, rfl⟩) | (refine (calls_out (IsDay_any _ _) ?_).mono ?_; omega; rintro e w' ⟨rfl, rfl⟩) | (refine (IsDay_any _ _).mono ?_; rintro e w' ⟨rfl, rfl⟩)) | (go_at_call 46; first | (refine (calls_in (IsYear_any _ _) ?_ ?_).mono ?_; omega; omega; rintro e w' ⟨rfl, rfl⟩) | (refine (calls_out (IsYear_any _ _) ?_).mono ?_; omega; rintro e w' ⟨rfl, rfl⟩) | (refine (IsYear_any _ _).mono ?_; rintro e w' ⟨rfl, rfl⟩)) | (go_at_call 25; first | (refine (calls_in (IsFull_any _ _) ?_ ?_).mono ?_; omega; omega; rintro e w' ⟨rfl, rfl⟩) | (refine (calls_out (IsFull_any _ _) ?_).mono ?_; omega; rintro e w' ⟨rfl, rfl⟩) | (refine (IsFull_any _ _).mono ?_; rintro e w' ⟨rfl, rfl⟩)) | (go_at_call 69; first | (refine (calls_in (isFull_any _ _) ?_ ?_).mono ?_; omega; omega; rintro e w' ⟨rfl, rfl⟩) | (refine (calls_out (isFull_any _ _) ?_).mono ?_; omega; rintro e w' ⟨rfl, rfl⟩) | (refine (isFull_any _ _).mono ?_; rintro e w' ⟨rfl, rfl⟩)))
      refine (WorkingBetween_any _ _ l from_ to_ _ (hl'.out.below hbw.out) (hT'.out.below hbw.out)).mono ?_
      rintro e w2 ⟨rfl, hb2⟩
      have hbw2 := Lib.hid (below_step hbw.out hb2)
      clear hb2
      rw [hE.out, hN.out]
      go_wp2_with fail
      refine (CheckHolidaysR_any _ _ l _ (hl'.out.below hbw2.out)).mono ?_
      rintro e w3 ⟨rfl, hb3⟩
      have hbw3 := Lib.hid (below_step hbw2.out hb3)
      clear hb3
      go_wp2_with (first | (go_at_call 78; first | (refine (calls_in (within_any _ _ _ _) ?_ ?_).mono ?_; omega; omega; rintro e w' ⟨rfl, rfl⟩) | (refine (calls_out (within_any _ _ _ _) ?_).mono ?_; omega; rintro e w' ⟨rfl, rfl⟩) | (refine (within_any _ _ _ _).mono ?_; rintro e w' ⟨rfl, rfl⟩)) | (go_at_call 29; first | (refine (calls_in (Within_any _ _ _ _) ?_ ?_).mono ?_; omega; omega; rintro e w' ⟨rfl, rfl⟩) | (refine (calls_out (Within_any _ _ _ _) ?_).mono ?_; omega; rintro e w' ⟨rfl, rfl⟩) | (refine (Within_any _ _ _ _).mono ?_; rintro e w' ⟨rfl, rfl⟩)) | (go_at_call 75; first | (refine (calls_in (isDay_any _ _) ?_ ?_).mono ?_; omega; omega; rintro e w' ⟨rfl, rfl⟩) | (refine (calls_out (isDay_any _ _) ?_).mono ?_; omega; rintro e w' ⟨rfl, rfl⟩) | (refine (isDay_any _ _).mono ?_; rintro e w' ⟨rfl, rfl⟩)) | (go_at_call 32; first | (refine (calls_in (IsDay_any _ _) ?_ ?_).mono ?_; omega; omega; rintro e w' ⟨rfl, rfl⟩) | (refine (calls_out (IsDay_any _ _) ?_).mono ?_; omega; rintro e w' ⟨rfl, rfl⟩) | (refine (IsDay_any _ _).mono ?_; rintro e w' ⟨rfl, rfl⟩)) | (go_at_call 46; first | (refine (calls_in (IsYear_any _ _) ?_ ?_).mono ?_; omega; omega; rintro e w' ⟨rfl, rfl⟩) | (refine (calls_out (IsYear_any _ _) ?_).mono ?_; omega; rintro e w' ⟨rfl, rfl⟩) | (refine (IsYear_any _ _).mono ?_; rintro e w' ⟨rfl, rfl⟩)) | (go_at_call 25; first | (refine (calls_in (IsFull_any _ _) ?_ ?_).mono ?_; omega; omega; rintro e w' ⟨rfl, rfl⟩) | (refine (calls_out (IsFull_any _ _) ?_).mono ?_; omega; rintro e w' ⟨rfl, rfl⟩) | (refine (IsFull_any _ _).mono ?_; rintro e w' ⟨rfl, rfl⟩)) | (go_at_call 69; first | (refine (calls_in (isFull_any _ _) ?_ ?_).mono ?_; omega; omega; rintro e w' ⟨rfl, rfl⟩) | (refine (calls_out (isFull_any _ _) ?_).mono ?_; omega; rintro e w' ⟨rfl, rfl⟩) | (refine (isFull_any _ _).mono ?_; rintro e w' ⟨rfl, rfl⟩)))
      go_ret
      exact ⟨rfl, hbw3.out⟩
    · have h0z := Lib.hid h0
      have h1 : (Cal.holsErr l == 0) = false := by simpa using h0
      have h1' : (Cal.holsErr l != 0) = true := by simpa using h0
      have hE : Hid (Cal.betwE l from_ to_ = Cal.holsErr l) := by show _ = _; unfold Cal.betwE; rw [if_neg h0]
      have hN : Hid (Cal.betwN l from_ to_ = 0) := by show _ = _; unfold Cal.betwN; rw [if_neg (by rw [hE.out]; exact h0)]
      clear h0
      clear hf
      go_enter Tryd.func7, Tryd.ntmps7
      go_wp2_with fail
      refine (awake_any _ hT'.out).mono ?_
      rintro e w1 ⟨rfl, hb1⟩
      have hbw := Lib.hid hb1
      clear hb1
      go_wp2_with fail
      refine (Calendar_any _ _ l _ (hl'.out.below hbw.out)).mono ?_
      rintro e w' ⟨⟨b, rfl, _⟩, rfl⟩
      cases b
      · go_wp2
        go_ret
        exact ⟨rfl, hbw.out⟩
      go_wp2_with (first | (go_at_call 78; first | (refine (calls_in (within_any _ _ _ _) ?_ ?_).mono ?_; omega; omega; rintro e w' ⟨rfl, rfl⟩) | (refine (calls_out (within_any _ _ _ _) ?_).mono ?_; omega; rintro e w' ⟨rfl, rfl⟩) | (refine (within_any _ _ _ _).mono ?_; rintro e w' ⟨rfl, rfl⟩)) | (go_at_call 29; first | (refine (calls_in (Within_any _ _ _ _) ?_ ?_).mono ?_; omega; omega; rintro e w' ⟨rfl, rfl⟩) | (refine (calls_out (Within_any _ _ _ _) ?_).mono ?_; omega; rintro e w' ⟨rfl, rfl⟩) | (refine (Within_any _ _ _ _).mono ?_; rintro e w' ⟨rfl, rfl⟩)) | (go_at_call 75; first | (refine (calls_in (isDay_any _ _) ?_ ?_).mono ?_; omega; omega; rintro e w' ⟨rfl, rfl⟩) | (refine (calls_out (isDay_any _ _) ?_).mono ?_; omega; rintro e w' ⟨rfl, rfl⟩) | (refine (isDay_any _ _).mono ?_; rintro e w' ⟨rfl, rfl⟩)) | (go_at_call 32; first | (refine (calls_in (IsDay_any _ _) ?_ ?_).mono ?_; omega; omega; rintro e w' ⟨rfl, rfl⟩) | (refine (calls_out (IsDay_any _ _) ?_).mono ?_; omega; rintro e w' ⟨rfl, rfl⟩) | (refine (IsDay_any _ _).mono ?_; rintro e w' ⟨rfl, rfl⟩)) | (go_at_call 46; first | (refine (calls_in (IsYear_any _ _) ?_ ?_).mono ?_; omega; omega; rintro e w' ⟨rfl, rfl⟩) | (refine (calls_out (IsYear_any _ _) ?_).mono ?_; omega; rintro e w' ⟨rfl, rfl⟩) | (refine (IsYear_any _ _).mono ?_; rintro e w' ⟨rfl, rfl⟩)) | (go_at_call 25; first | (refine (calls_in (IsFull_any _ _) ?_ ?_).mono ?_; omega; omega; rintro e w' ⟨rfl, rfl⟩) | (refine (calls_out (IsFull_any _ _) ?_).mono ?_; omega; rintro e w' ⟨rfl, rfl⟩) | (refine (IsFull_any _ _).mono ?_; rintro e w' ⟨rfl, rfl⟩)) | (go_at_call 69; first | (refine (calls_in (isFull_any _ _) ?_ ?_).mono ?_; omega; omega; rintro e w' ⟨rfl, rfl⟩) | (refine (calls_out (isFull_any _ _) ?_).mono ?_; omega; rintro e w' ⟨rfl, rfl⟩) | (refine (isFull_any _ _).mono ?_; rintro e w' ⟨rfl, rfl⟩)))
      refine (WorkingBetween_any _ _ l from_ to_ _ (hl'.out.below hbw.out) (hT'.out.below hbw.out)).mono ?_
      rintro e w2 ⟨rfl, hb2⟩
      have hbw2 := Lib.hid (below_step hbw.out hb2)
      clear hb2
      rw [hE.out, hN.out]
      go_wp2_with fail
      refine (CheckHolidaysR_any _ _ l _ (hl'.out.below hbw2.out)).mono ?_
      rintro e w3 ⟨rfl, hb3⟩
      have hbw3 := Lib.hid (below_step hbw2.out hb3)
      clear hb3
      go_wp2_with (first | (go_at_call 78; first | (refine (calls_in (within_any _ _ _ _) ?_ ?_).mono ?_; omega; omega; rintro e w' ⟨rfl, rfl⟩) | (refine (calls_out (within_any _ _ _ _) ?_).mono ?_; omega; rintro e w' ⟨rfl, rfl⟩) | (refine (within_any _ _ _ _).mono ?_; rintro e w' ⟨rfl, rfl⟩)) | (go_at_call 29; first | (refine (calls_in (Within_any _ _ _ _) ?_ ?_).mono ?_; omega; omega; rintro e w' ⟨rfl, rfl⟩) | (refine (calls_out (Within_any _ _ _ _) ?_).mono ?_; omega; rintro e w' ⟨rfl, rfl⟩) | (refine (Within_any _ _ _ _).mono ?_; rintro e w' ⟨rfl, rfl⟩)) | (go_at_call 75; first | (refine (calls_in (isDay_any _ _) ?_ ?_).mono ?_; omega; omega; rintro e w' ⟨rfl, rfl⟩) | (refine (calls_out (isDay_any _ _) ?_).mono ?_; omega; rintro e w' ⟨rfl, rfl⟩) | (refine (isDay_any _ _).mono ?_; rintro e w' ⟨rfl, rfl⟩)) | (go_at_call 32; first | (refine (calls_in (IsDay_any _ _) ?_ ?_).mono ?_; omega; omega; rintro e w' ⟨rfl, rfl⟩) | (refine (calls_out (IsDay_any _ _) ?_).mono ?_; omega; rintro e w' ⟨rfl, rfl⟩) | (refine (IsDay_any _ _).mono ?_; rintro e w' ⟨rfl, rfl⟩)) | (go_at_call 46; first | (refine (calls_in (IsYear_any _ _) ?_ ?_).mono ?_; omega; omega; rintro e w' ⟨rfl, rfl⟩) | (refine (calls_out (IsYear_any _ _) ?_).mono ?_; omega; rintro e w' ⟨rfl, rfl⟩) | (refine (IsYear_any _ _).mono ?_; rintro e w' ⟨rfl, rfl⟩)) | (go_at_call 25; first | (refine (calls_in (IsFull_any _ _) ?_ ?_).mono ?_; omega; omega; rintro e w' ⟨rfl, rfl⟩) | (refine (calls_out (IsFull_any _ _) ?_).mono ?_; omega; rintro e w' ⟨rfl, rfl⟩) | (refine (IsFull_any _ _).mono ?_; rintro e w' ⟨rfl, rfl⟩)) | (go_at_call 69; first | (refine (calls_in (isFull_any _ _) ?_ ?_).mono ?_; omega; omega; rintro e w' ⟨rfl, rfl⟩) | (refine (calls_out (isFull_any _ _) ?_).mono ?_; omega; rintro e w' ⟨rfl, rfl⟩) | (refine (isFull_any _ _).mono ?_; rintro e w' ⟨rfl, rfl⟩)))
      go_ret
      exact ⟨rfl, hbw3.out⟩
end Go.Proofs.YtoigamkldccnkaaDoor
