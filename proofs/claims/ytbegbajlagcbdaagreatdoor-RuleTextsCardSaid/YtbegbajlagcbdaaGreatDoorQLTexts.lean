/- The walk of a statement. -/
import Derived.Test.YtbegbajlagcbdaaGreatDoorC33
namespace Go.Proofs.YtbegbajlagcbdaaGreatDoor
open Go Go.RowKit
set_option maxRecDepth 100000 in
set_option maxHeartbeats 8000000 in
theorem RuleTexts_any (A : Option Addr) (c : Nat) (l : List Prov) (s : ByteArray) (w : World) (hl : Provs w A l) (hT : Tab w) (hX : TxtT w) :
    Calls Tryz.prog 7 #[.slice A l.length c, .string s] w fun e w' => e = .returned (.bool true) ∧ Below w.heap.size w w' := by
  have hT := Lib.hid hT
  have hl := Lib.hid (fun w' (h : Below w.heap.size w w') => hl.below h)
  have hX := Lib.hid (fun w' (h : Below w.heap.size w w') => hX.below h)
  by_cases h1 : s.size ≤ 600 ∨ (60000 < s.size ∧ s.size ≤ 120000)
  · obtain ⟨ps, k, E, hpv⟩ : ∃ ps k E, Cal.parseT s.data.toList = (ps, k, E) := ⟨_, _, _, rfl⟩
    have hpv := Lib.hid hpv
    have hs6 : s.size ≤ 1000000 := by omega
    by_cases hE : Cal.provsErr l = 0
    · obtain ⟨t, ht⟩ : ∃ t : ByteArray, t = ⟨(Cal.printT l).toArray⟩ := ⟨_, rfl⟩
      have htl : t.data.toList = Cal.printT l := by rw [ht]
      obtain ⟨hpp, hpl⟩ := Cal.parse_print hE
      rw [← htl] at hpp
      have hpp := Lib.hid hpp
      have hP : Hid ((Value.tuple #[.string ⟨(if Cal.provsErr l = 0 then Cal.printT l else []).toArray⟩, .int .i64 (Cal.provsErr l)]) = .tuple #[.string t, .int .i64 0]) := by show _ = _; rw [if_pos hE, hE, ht]
      have hEz := Lib.hid hE
      have htz := Lib.hid ht
      clear hE ht htl hpl
      rcases h1 with h1 | ⟨h1, h2⟩
      all_goals
        go_enter Tryz.func7, Tryz.ntmps7
        go_wp2_with fail
        refine (awake_any _ hT.out).mono ?_
        rintro e w1 ⟨rfl, hbn⟩
        have hb := Lib.hid hbn
        clear hbn
        go_wp2_with fail
        refine (LawsT_any A c l _ (hl.out _ hb.out)).mono ?_
        rintro e w' ⟨⟨b, rfl, _⟩, rfl⟩
        cases b
        · go_wp2_with fail
          go_ret
          exact ⟨rfl, hb.out⟩
        go_wp2_with fail
        refine (Print_any A c l _ (hl.out _ hb.out) (hX.out _ hb.out)).mono ?_
        rintro e w2 ⟨rfl, hbn⟩
        have hb := Lib.hid (below_step hb.out hbn)
        clear hbn
        rw [hP.out]
        go_wp2_with fail
        refine (Parse_any s _ (hX.out _ hb.out)).mono ?_
        rintro e w3 ⟨A1, c1, rfl, hl1, hbn⟩
        have hb := Lib.hid (below_step hb.out hbn)
        clear hbn
        have hl1 := Lib.hid hl1
        rw [hpv.out] at hl1 ⊢
        go_wp2_with fail
        refine (ParseR_any s _ (by omega)).mono ?_
        rintro e w4 ⟨A2, c2, rfl, hl2, hbn⟩
        have hl1 := Lib.hid (hl1.out.below hbn)
        have hb := Lib.hid (below_step hb.out hbn)
        clear hbn
        have hl2 := Lib.hid hl2
        rw [hpv.out] at hl2 ⊢
        go_wp2_with fail
        refine (sameT_any A1 A2 c1 c2 ps _ hl1.out hl2.out).mono ?_
        rintro e w5 ⟨rfl, hbn⟩
        have hb := Lib.hid (below_step hb.out hbn)
        clear hbn
        clear hl1 hl2
        go_wp2_with fail
        refine (CheckProvisionsR_any A c l _ (hl.out _ hb.out)).mono ?_
        rintro e w6 ⟨rfl, hbn⟩
        have hb := Lib.hid (below_step hb.out hbn)
        clear hbn
        rw [hEz.out]
        go_wp2_with fail
        refine (Parse_any t _ (hX.out _ hb.out)).mono ?_
        rintro e w7 ⟨A3, c3, rfl, hl3, hbn⟩
        have hb := Lib.hid (below_step hb.out hbn)
        clear hbn
        have hl3 := Lib.hid hl3
        rw [hpp.out] at hl3 ⊢
        go_wp2_with fail
        refine (PrintR_any A c l _ (hl.out _ hb.out) hEz.out).mono ?_
        rintro e w8 ⟨rfl, hbn⟩
        have hl3 := Lib.hid (hl3.out.below hbn)
        have hb := Lib.hid (below_step hb.out hbn)
        clear hbn
        rw [← htz.out]
        go_wp2_with fail
        refine (sameT_any A3 A c3 c l _ hl3.out (hl.out _ hb.out)).mono ?_
        rintro e w9 ⟨rfl, hbn⟩
        have hb := Lib.hid (below_step hb.out hbn)
        clear hbn
        go_wp2_with fail
        go_ret
        exact ⟨by first | rfl | done, hb.out⟩
    · have hP : Hid ((Value.tuple #[.string ⟨(if Cal.provsErr l = 0 then Cal.printT l else []).toArray⟩, .int .i64 (Cal.provsErr l)]) = .tuple #[.string ⟨#[]⟩, .int .i64 (Cal.provsErr l)]) := by show _ = _; rw [if_neg hE]
      have hE1 : (Cal.provsErr l != 0) = true := by simpa using hE
      clear hE
      rcases h1 with h1 | ⟨h1, h2⟩
      all_goals
        go_enter Tryz.func7, Tryz.ntmps7
        go_wp2_with fail
        refine (awake_any _ hT.out).mono ?_
        rintro e w1 ⟨rfl, hbn⟩
        have hb := Lib.hid hbn
        clear hbn
        go_wp2_with fail
        refine (LawsT_any A c l _ (hl.out _ hb.out)).mono ?_
        rintro e w' ⟨⟨b, rfl, _⟩, rfl⟩
        cases b
        · go_wp2_with fail
          go_ret
          exact ⟨rfl, hb.out⟩
        go_wp2_with fail
        refine (Print_any A c l _ (hl.out _ hb.out) (hX.out _ hb.out)).mono ?_
        rintro e w2 ⟨rfl, hbn⟩
        have hb := Lib.hid (below_step hb.out hbn)
        clear hbn
        rw [hP.out]
        go_wp2_with fail
        refine (Parse_any s _ (hX.out _ hb.out)).mono ?_
        rintro e w3 ⟨A1, c1, rfl, hl1, hbn⟩
        have hb := Lib.hid (below_step hb.out hbn)
        clear hbn
        have hl1 := Lib.hid hl1
        rw [hpv.out] at hl1 ⊢
        go_wp2_with fail
        refine (ParseR_any s _ (by omega)).mono ?_
        rintro e w4 ⟨A2, c2, rfl, hl2, hbn⟩
        have hl1 := Lib.hid (hl1.out.below hbn)
        have hb := Lib.hid (below_step hb.out hbn)
        clear hbn
        have hl2 := Lib.hid hl2
        rw [hpv.out] at hl2 ⊢
        go_wp2_with fail
        refine (sameT_any A1 A2 c1 c2 ps _ hl1.out hl2.out).mono ?_
        rintro e w5 ⟨rfl, hbn⟩
        have hb := Lib.hid (below_step hb.out hbn)
        clear hbn
        clear hl1 hl2
        go_wp2_with fail
        refine (CheckProvisionsR_any A c l _ (hl.out _ hb.out)).mono ?_
        rintro e w6 ⟨rfl, hbn⟩
        have hb := Lib.hid (below_step hb.out hbn)
        clear hbn
        go_wp2_with fail
        go_ret
        exact ⟨by first | rfl | done, hb.out⟩
  · have h2 : 600 < s.size := by omega
    have h3 : s.size ≤ 60000 ∨ 120000 < s.size := by omega
    clear h1
    rcases h3 with h3 | h3
    all_goals
      go_enter Tryz.func7, Tryz.ntmps7
      go_wp2_with fail
      refine (awake_any _ hT.out).mono ?_
      rintro e w1 ⟨rfl, hbn⟩
      have hb := Lib.hid hbn
      clear hbn
      go_wp2_with fail
      refine (LawsT_any A c l _ (hl.out _ hb.out)).mono ?_
      rintro e w' ⟨⟨b, rfl, _⟩, rfl⟩
      cases b
      · go_wp2_with fail
        go_ret
        exact ⟨rfl, hb.out⟩
      go_wp2_with fail
      go_ret
      exact ⟨rfl, hb.out⟩
end Go.Proofs.YtbegbajlagcbdaaGreatDoor
