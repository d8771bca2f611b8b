/- The walk of a statement. -/
import Derived.Test.YtconnjkkgaapbaaGreatDoorC28
import Derived.Test.YtconnjkkgaapbaaGreatDoorC27
namespace Go.Proofs.YtconnjkkgaapbaaGreatDoor
open Go Go.RowKit
set_option maxRecDepth 100000 in
set_option maxHeartbeats 4000000 in
theorem NoticeExpires_any (A : Option Addr) (c : Nat) (p : Proc) (N : Option Addr) (d : Nat) (n : Note) (w : World) (hN : NB w A p N n) :
    Calls Tryz.prog 4 #[.agg #[.int .i64 p.runs.m, .int .i64 p.runs.d, .bool p.runs.k, .int .i64 p.obj.m, .int .i64 p.obj.d, .bool p.obj.k, .int .i64 p.wait.m, .int .i64 p.wait.d, .bool p.wait.k, .int .i64 p.exts, .int .i64 p.longest, .slice A p.hols.length c], .agg #[.string n.name, .int .i64 n.opened, .slice N n.acts.length d]] w fun e w' => e = .returned (.bool true) ∧ Below w.heap.size w w' := by
  have hN := Lib.hid hN
  obtain ⟨C, hC⟩ : ∃ C, (Cal.checkS p n).2 = C := ⟨_, rfl⟩
  have hbo := Lib.hid hC
  by_cases h0 : C = 0
  · subst h0
    have hex := fun w1 (h : NB w1 A p N n) => ExpiresAtR_any A c p N d n w1 h hC
    rcases hx : Cal.expS p n with ⟨x, F⟩
    rw [hx] at hex
    have hexp := Lib.hid hx
    have hex := Lib.hid hex
    have hFF : (F != F) = false := by simp
    have hxx : (x != x) = false := by simp
    by_cases hF : F = 0
    · subst hF
      have hph := Lib.hid (Cal.exp_phase hx)
      clear hC hx
      obtain ⟨g1, g2, hb⟩ := start2 w A c p N d n
      have c0 := g2.out.c 0 _ rfl
      have c1 := g2.out.c 1 _ rfl
      have c2 := g2.out.c 2 _ rfl
      go_enter Tryz.func4, Tryz.ntmps4
      go_wp2_with fail
      refine (nawake_any _ (hN.out.tab.below hb.out)).mono ?_
      rintro e w1 ⟨rfl, hbn⟩
      have g1 := Lib.hid (g1.out.below hbn)
      have g2 := Lib.hid (g2.out.below hbn)
      have hb := Lib.hid (below_step hb.out hbn)
      clear hbn c0 c1 c2
      have c0 := g2.out.c 0 _ rfl
      have c1 := g2.out.c 1 _ rfl
      have c2 := g2.out.c 2 _ rfl
      go_wp2_with (refine wpPr g1.out (.tmp 2) rfl ?_)
      refine (Modest_any A c p _ (hN.out.hols.below hb.out)).mono ?_
      rintro e w2 ⟨⟨b, rfl⟩, hbn⟩
      have g1 := Lib.hid (g1.out.below hbn)
      have g2 := Lib.hid (g2.out.below hbn)
      have hb := Lib.hid (below_step hb.out hbn)
      clear hbn c0 c1 c2
      have c0 := g2.out.c 0 _ rfl
      have c1 := g2.out.c 1 _ rfl
      have c2 := g2.out.c 2 _ rfl
      cases b
      · go_wp2_with fail
        go_ret
        exact ⟨rfl, hb.out⟩
      go_wp2_with fail
      refine (Brief_any N d n _ hN.out.name hN.out.acts.size).mono ?_
      rintro e w3 ⟨⟨b, rfl⟩, hbn⟩
      have g1 := Lib.hid (g1.out.below hbn)
      have g2 := Lib.hid (g2.out.below hbn)
      have hb := Lib.hid (below_step hb.out hbn)
      clear hbn c0 c1 c2
      have c0 := g2.out.c 0 _ rfl
      have c1 := g2.out.c 1 _ rfl
      have c2 := g2.out.c 2 _ rfl
      cases b
      · go_wp2_with fail
        go_ret
        exact ⟨rfl, hb.out⟩
      go_wp2_with (refine wpPr g1.out (.tmp 2) rfl ?_)
      refine (ExpiresAt_any A c p N d n _ (hN.out.below hb.out)).mono ?_
      rintro e wn ⟨he, hbn⟩
      rw [hexp.out] at he
      subst he
      have g1 := Lib.hid (g1.out.below hbn)
      have g2 := Lib.hid (g2.out.below hbn)
      have hb := Lib.hid (below_step hb.out hbn)
      clear hbn c0 c1 c2
      have c0 := g2.out.c 0 _ rfl
      have c1 := g2.out.c 1 _ rfl
      have c2 := g2.out.c 2 _ rfl
      go_wp2_with (refine wpPr g1.out (.tmp 2) rfl ?_)
      refine (both_any A c p N d n _ (hN.out.below hb.out)).mono ?_
      rintro e wn ⟨he, hbn⟩
      subst he
      rw [hbo.out]
      have g1 := Lib.hid (g1.out.below hbn)
      have g2 := Lib.hid (g2.out.below hbn)
      have hb := Lib.hid (below_step hb.out hbn)
      clear hbn c0 c1 c2
      have c0 := g2.out.c 0 _ rfl
      have c1 := g2.out.c 1 _ rfl
      have c2 := g2.out.c 2 _ rfl
      go_wp2_with (refine wpPr g1.out (.tmp 2) rfl ?_)
      refine (hex.out _ (hN.out.below hb.out)).mono ?_
      rintro e wn ⟨he, hbn⟩
      subst he
      have g1 := Lib.hid (g1.out.below hbn)
      have g2 := Lib.hid (g2.out.below hbn)
      have hb := Lib.hid (below_step hb.out hbn)
      clear hbn c0 c1 c2
      have c0 := g2.out.c 0 _ rfl
      have c1 := g2.out.c 1 _ rfl
      have c2 := g2.out.c 2 _ rfl
      go_wp2_with (refine wpPr g1.out (.tmp 2) rfl ?_)
      refine (Phase_any A c p N d n x _ (hN.out.below hb.out)).mono ?_
      rintro e wn ⟨he, hbn⟩
      rw [hph.out] at he
      subst he
      have g1 := Lib.hid (g1.out.below hbn)
      have g2 := Lib.hid (g2.out.below hbn)
      have hb := Lib.hid (below_step hb.out hbn)
      clear hbn c0 c1 c2
      have c0 := g2.out.c 0 _ rfl
      have c1 := g2.out.c 1 _ rfl
      have c2 := g2.out.c 2 _ rfl
      go_wp2_with fail
      go_ret
      exact ⟨rfl, hb.out⟩
    · have hF1 : (F != 0) = true := by simpa using hF
      clear hC hx hF
      obtain ⟨g1, g2, hb⟩ := start2 w A c p N d n
      have c0 := g2.out.c 0 _ rfl
      have c1 := g2.out.c 1 _ rfl
      have c2 := g2.out.c 2 _ rfl
      go_enter Tryz.func4, Tryz.ntmps4
      go_wp2_with fail
      refine (nawake_any _ (hN.out.tab.below hb.out)).mono ?_
      rintro e w1 ⟨rfl, hbn⟩
      have g1 := Lib.hid (g1.out.below hbn)
      have g2 := Lib.hid (g2.out.below hbn)
      have hb := Lib.hid (below_step hb.out hbn)
      clear hbn c0 c1 c2
      have c0 := g2.out.c 0 _ rfl
      have c1 := g2.out.c 1 _ rfl
      have c2 := g2.out.c 2 _ rfl
      go_wp2_with (refine wpPr g1.out (.tmp 2) rfl ?_)
      refine (Modest_any A c p _ (hN.out.hols.below hb.out)).mono ?_
      rintro e w2 ⟨⟨b, rfl⟩, hbn⟩
      have g1 := Lib.hid (g1.out.below hbn)
      have g2 := Lib.hid (g2.out.below hbn)
      have hb := Lib.hid (below_step hb.out hbn)
      clear hbn c0 c1 c2
      have c0 := g2.out.c 0 _ rfl
      have c1 := g2.out.c 1 _ rfl
      have c2 := g2.out.c 2 _ rfl
      cases b
      · go_wp2_with fail
        go_ret
        exact ⟨rfl, hb.out⟩
      go_wp2_with fail
      refine (Brief_any N d n _ hN.out.name hN.out.acts.size).mono ?_
      rintro e w3 ⟨⟨b, rfl⟩, hbn⟩
      have g1 := Lib.hid (g1.out.below hbn)
      have g2 := Lib.hid (g2.out.below hbn)
      have hb := Lib.hid (below_step hb.out hbn)
      clear hbn c0 c1 c2
      have c0 := g2.out.c 0 _ rfl
      have c1 := g2.out.c 1 _ rfl
      have c2 := g2.out.c 2 _ rfl
      cases b
      · go_wp2_with fail
        go_ret
        exact ⟨rfl, hb.out⟩
      go_wp2_with (refine wpPr g1.out (.tmp 2) rfl ?_)
      refine (ExpiresAt_any A c p N d n _ (hN.out.below hb.out)).mono ?_
      rintro e wn ⟨he, hbn⟩
      rw [hexp.out] at he
      subst he
      have g1 := Lib.hid (g1.out.below hbn)
      have g2 := Lib.hid (g2.out.below hbn)
      have hb := Lib.hid (below_step hb.out hbn)
      clear hbn c0 c1 c2
      have c0 := g2.out.c 0 _ rfl
      have c1 := g2.out.c 1 _ rfl
      have c2 := g2.out.c 2 _ rfl
      go_wp2_with (refine wpPr g1.out (.tmp 2) rfl ?_)
      refine (both_any A c p N d n _ (hN.out.below hb.out)).mono ?_
      rintro e wn ⟨he, hbn⟩
      subst he
      rw [hbo.out]
      have g1 := Lib.hid (g1.out.below hbn)
      have g2 := Lib.hid (g2.out.below hbn)
      have hb := Lib.hid (below_step hb.out hbn)
      clear hbn c0 c1 c2
      have c0 := g2.out.c 0 _ rfl
      have c1 := g2.out.c 1 _ rfl
      have c2 := g2.out.c 2 _ rfl
      go_wp2_with (refine wpPr g1.out (.tmp 2) rfl ?_)
      refine (hex.out _ (hN.out.below hb.out)).mono ?_
      rintro e wn ⟨he, hbn⟩
      subst he
      have g1 := Lib.hid (g1.out.below hbn)
      have g2 := Lib.hid (g2.out.below hbn)
      have hb := Lib.hid (below_step hb.out hbn)
      clear hbn c0 c1 c2
      have c0 := g2.out.c 0 _ rfl
      have c1 := g2.out.c 1 _ rfl
      have c2 := g2.out.c 2 _ rfl
      go_wp2_with fail
      go_ret
      exact ⟨rfl, hb.out⟩
  · have hexp : Hid (Cal.expS p n = (0, C)) := by show _ = _; unfold Cal.expS; rw [if_neg (by rw [hC]; exact h0), hC]
    have hC1 : (C != 0) = true := by simpa using h0
    have hCC : (C == C) = true := by simp
    clear hC h0
    obtain ⟨g1, g2, hb⟩ := start2 w A c p N d n
    have c0 := g2.out.c 0 _ rfl
    have c1 := g2.out.c 1 _ rfl
    have c2 := g2.out.c 2 _ rfl
    go_enter Tryz.func4, Tryz.ntmps4
    go_wp2_with fail
    refine (nawake_any _ (hN.out.tab.below hb.out)).mono ?_
    rintro e w1 ⟨rfl, hbn⟩
    have g1 := Lib.hid (g1.out.below hbn)
    have g2 := Lib.hid (g2.out.below hbn)
    have hb := Lib.hid (below_step hb.out hbn)
    clear hbn c0 c1 c2
    have c0 := g2.out.c 0 _ rfl
    have c1 := g2.out.c 1 _ rfl
    have c2 := g2.out.c 2 _ rfl
    go_wp2_with (refine wpPr g1.out (.tmp 2) rfl ?_)
    refine (Modest_any A c p _ (hN.out.hols.below hb.out)).mono ?_
    rintro e w2 ⟨⟨b, rfl⟩, hbn⟩
    have g1 := Lib.hid (g1.out.below hbn)
    have g2 := Lib.hid (g2.out.below hbn)
    have hb := Lib.hid (below_step hb.out hbn)
    clear hbn c0 c1 c2
    have c0 := g2.out.c 0 _ rfl
    have c1 := g2.out.c 1 _ rfl
    have c2 := g2.out.c 2 _ rfl
    cases b
    · go_wp2_with fail
      go_ret
      exact ⟨rfl, hb.out⟩
    go_wp2_with fail
    refine (Brief_any N d n _ hN.out.name hN.out.acts.size).mono ?_
    rintro e w3 ⟨⟨b, rfl⟩, hbn⟩
    have g1 := Lib.hid (g1.out.below hbn)
    have g2 := Lib.hid (g2.out.below hbn)
    have hb := Lib.hid (below_step hb.out hbn)
    clear hbn c0 c1 c2
    have c0 := g2.out.c 0 _ rfl
    have c1 := g2.out.c 1 _ rfl
    have c2 := g2.out.c 2 _ rfl
    cases b
    · go_wp2_with fail
      go_ret
      exact ⟨rfl, hb.out⟩
    go_wp2_with (refine wpPr g1.out (.tmp 2) rfl ?_)
    refine (ExpiresAt_any A c p N d n _ (hN.out.below hb.out)).mono ?_
    rintro e wn ⟨he, hbn⟩
    rw [hexp.out] at he
    subst he
    have g1 := Lib.hid (g1.out.below hbn)
    have g2 := Lib.hid (g2.out.below hbn)
    have hb := Lib.hid (below_step hb.out hbn)
    clear hbn c0 c1 c2
    have c0 := g2.out.c 0 _ rfl
    have c1 := g2.out.c 1 _ rfl
    have c2 := g2.out.c 2 _ rfl
    go_wp2_with (refine wpPr g1.out (.tmp 2) rfl ?_)
    refine (both_any A c p N d n _ (hN.out.below hb.out)).mono ?_
    rintro e wn ⟨he, hbn⟩
    subst he
    rw [hbo.out]
    have g1 := Lib.hid (g1.out.below hbn)
    have g2 := Lib.hid (g2.out.below hbn)
    have hb := Lib.hid (below_step hb.out hbn)
    clear hbn c0 c1 c2
    have c0 := g2.out.c 0 _ rfl
    have c1 := g2.out.c 1 _ rfl
    have c2 := g2.out.c 2 _ rfl
    go_wp2_with fail
    go_ret
    exact ⟨rfl, hb.out⟩
end Go.Proofs.YtconnjkkgaapbaaGreatDoor
