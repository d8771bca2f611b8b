/- The walk of a statement. -/
import Derived.Test.YtconnjkkgaapbaaGreatDoorC34
import Derived.Test.YtconnjkkgaapbaaGreatDoorC27
namespace Go.Proofs.YtconnjkkgaapbaaGreatDoor
open Go Go.RowKit
set_option maxRecDepth 100000 in
set_option maxHeartbeats 8000000 in
theorem NoticeMays_any (A : Option Addr) (c : Nat) (p : Proc) (N : Option Addr) (d : Nat) (n : Note) (day : Int) (w : World) (hN : NB w A p N n) :
    Calls Tryz.prog 7 #[.agg #[.int .i64 p.runs.m, .int .i64 p.runs.d, .bool p.runs.k, .int .i64 p.obj.m, .int .i64 p.obj.d, .bool p.obj.k, .int .i64 p.wait.m, .int .i64 p.wait.d, .bool p.wait.k, .int .i64 p.exts, .int .i64 p.longest, .slice A p.hols.length c], .agg #[.string n.name, .int .i64 n.opened, .slice N n.acts.length d], .int .i64 day] w fun e w' => e = .returned (.bool true) ∧ Below w.heap.size w w' := by
  have hN := Lib.hid hN
  obtain ⟨C, hC⟩ : ∃ C, (Cal.checkS p n).2 = C := ⟨_, rfl⟩
  have hbo := Lib.hid hC
  by_cases h0 : C = 0
  · subst h0
    by_cases hd : 0 ≤ day ∧ day ≤ 200000
    · obtain ⟨d0, d1⟩ := hd
      have hmy := Lib.hid (fun w1 h => May_ok A c p N d n day w1 h hC d0 d1)
      have hmr := Lib.hid (fun w1 h => MayR_any A c p N d n day w1 h hC)
      generalize Cal.mayL p n day = zs at *
      clear hC
      obtain ⟨g1, g2, hb⟩ := start2 w A c p N d n
      have c0 := g2.out.c 0 _ rfl
      have c1 := g2.out.c 1 _ rfl
      have c2 := g2.out.c 2 _ rfl
      go_enter Tryz.func7, Tryz.ntmps7
      go_wp2_with fail
      refine (nawake_any _ (hN.out.tab.below hb.out)).mono ?_
      rintro e w1 ⟨rfl, hbn⟩
      have g1 := Lib.hid (g1.out.below hbn)
      have g2 := Lib.hid (g2.out.below hbn)
      have hb := Lib.hid (below_step hb.out hbn)
      clear hbn c0 c1 c2
      have c0 := g2.out.c 0 _ rfl
      have c1 := g2.out.c 1 _ rfl
      have c2 := g2.out.c 2 _ rfl
      go_wp2_with (refine wpPrG g1.out (.tmp 3) rfl ?_)
      refine (Modest_any A c p _ (hN.out.hols.below hb.out)).mono ?_
      rintro e w2 ⟨⟨b, rfl⟩, hbn⟩
      have g1 := Lib.hid (g1.out.below hbn)
      have g2 := Lib.hid (g2.out.below hbn)
      have hb := Lib.hid (below_step hb.out hbn)
      clear hbn c0 c1 c2
      have c0 := g2.out.c 0 _ rfl
      have c1 := g2.out.c 1 _ rfl
      have c2 := g2.out.c 2 _ rfl
      cases b
      · go_wp2_with fail
        go_ret
        exact ⟨rfl, hb.out⟩
      go_wp2_with fail
      refine (Brief_any N d n _ hN.out.name hN.out.acts.size).mono ?_
      rintro e w3 ⟨⟨b, rfl⟩, hbn⟩
      have g1 := Lib.hid (g1.out.below hbn)
      have g2 := Lib.hid (g2.out.below hbn)
      have hb := Lib.hid (below_step hb.out hbn)
      clear hbn c0 c1 c2
      have c0 := g2.out.c 0 _ rfl
      have c1 := g2.out.c 1 _ rfl
      have c2 := g2.out.c 2 _ rfl
      cases b
      · go_wp2_with fail
        go_ret
        exact ⟨rfl, hb.out⟩
      go_wp2_with (refine wpPrG g1.out (.tmp 3) rfl ?_)
      refine (hmy.out _ (hN.out.below hb.out)).mono ?_
      rintro e w4 ⟨v, rfl, hsl, hbn⟩
      have hsl := Lib.hid hsl
      have g1 := Lib.hid (g1.out.below hbn)
      have g2 := Lib.hid (g2.out.below hbn)
      have hb := Lib.hid (below_step hb.out hbn)
      clear hbn c0 c1 c2
      have c0 := g2.out.c 0 _ rfl
      have c1 := g2.out.c 1 _ rfl
      have c2 := g2.out.c 2 _ rfl
      go_wp2_with (refine wpPrG g1.out (.tmp 3) rfl ?_)
      refine (both_any A c p N d n _ (hN.out.below hb.out)).mono ?_
      rintro e w5 ⟨rfl, hbn⟩
      rw [hbo.out]
      have hsl := Lib.hid ((hsl.out.keep (fun g cs t hg hh => (hbn.block g (Array.getElem?_eq_some_iff.1 hh).1).trans hh)))
      have g1 := Lib.hid (g1.out.below hbn)
      have g2 := Lib.hid (g2.out.below hbn)
      have hb := Lib.hid (below_step hb.out hbn)
      clear hbn c0 c1 c2
      have c0 := g2.out.c 0 _ rfl
      have c1 := g2.out.c 1 _ rfl
      have c2 := g2.out.c 2 _ rfl
      go_wp2_with (first | ((first | (go_at_call 86) | (go_at_call 41) | (go_at_call 74) | (go_at_call 28) | (go_at_call 109) | (fail) | (fail)); first | refine rin ?_ | refine rout ?_ | refine rany ?_) | (refine wpPrG g1.out (.tmp 3) rfl ?_))
      refine (hmr.out _ (hN.out.below hb.out)).mono ?_
      rintro e w9 ⟨u, rfl, hsu, hbn⟩
      have hsl := Lib.hid ((hsl.out.keep (fun g cs t hg hh => (hbn.block g (Array.getElem?_eq_some_iff.1 hh).1).trans hh)))
      have hsu := Lib.hid hsu
      have g1 := Lib.hid (g1.out.below hbn)
      have g2 := Lib.hid (g2.out.below hbn)
      have hb := Lib.hid (below_step hb.out hbn)
      clear hbn c0 c1 c2
      have c0 := g2.out.c 0 _ rfl
      have c1 := g2.out.c 1 _ rfl
      have c2 := g2.out.c 2 _ rfl
      go_wp2_with fail
      refine (Ints_any _ _ _ _ _ _ hsl.out hsu.out).mono ?_
      rintro e w10 ⟨rfl, hbn⟩
      have hb := Lib.hid (below_step hb.out hbn)
      clear hbn c0 c1 c2
      go_wp2_with fail
      go_ret
      exact ⟨by first | rfl | done, hb.out⟩
    · have hmy := Lib.hid (fun w1 h => May_day A c p N d n day w1 h hC hd)
      have hd' : day < 0 ∨ 200000 < day := by omega
      clear hC hd
      obtain ⟨g1, g2, hb⟩ := start2 w A c p N d n
      have c0 := g2.out.c 0 _ rfl
      have c1 := g2.out.c 1 _ rfl
      have c2 := g2.out.c 2 _ rfl
      go_enter Tryz.func7, Tryz.ntmps7
      go_wp2_with fail
      refine (nawake_any _ (hN.out.tab.below hb.out)).mono ?_
      rintro e w1 ⟨rfl, hbn⟩
      have g1 := Lib.hid (g1.out.below hbn)
      have g2 := Lib.hid (g2.out.below hbn)
      have hb := Lib.hid (below_step hb.out hbn)
      clear hbn c0 c1 c2
      have c0 := g2.out.c 0 _ rfl
      have c1 := g2.out.c 1 _ rfl
      have c2 := g2.out.c 2 _ rfl
      go_wp2_with (refine wpPrG g1.out (.tmp 3) rfl ?_)
      refine (Modest_any A c p _ (hN.out.hols.below hb.out)).mono ?_
      rintro e w2 ⟨⟨b, rfl⟩, hbn⟩
      have g1 := Lib.hid (g1.out.below hbn)
      have g2 := Lib.hid (g2.out.below hbn)
      have hb := Lib.hid (below_step hb.out hbn)
      clear hbn c0 c1 c2
      have c0 := g2.out.c 0 _ rfl
      have c1 := g2.out.c 1 _ rfl
      have c2 := g2.out.c 2 _ rfl
      cases b
      · go_wp2_with fail
        go_ret
        exact ⟨rfl, hb.out⟩
      go_wp2_with fail
      refine (Brief_any N d n _ hN.out.name hN.out.acts.size).mono ?_
      rintro e w3 ⟨⟨b, rfl⟩, hbn⟩
      have g1 := Lib.hid (g1.out.below hbn)
      have g2 := Lib.hid (g2.out.below hbn)
      have hb := Lib.hid (below_step hb.out hbn)
      clear hbn c0 c1 c2
      have c0 := g2.out.c 0 _ rfl
      have c1 := g2.out.c 1 _ rfl
      have c2 := g2.out.c 2 _ rfl
      cases b
      · go_wp2_with fail
        go_ret
        exact ⟨rfl, hb.out⟩
      go_wp2_with (refine wpPrG g1.out (.tmp 3) rfl ?_)
      refine (hmy.out _ (hN.out.below hb.out)).mono ?_
      rintro e w4 ⟨v, rfl, hsl, hbn⟩
      have hsl := Lib.hid hsl
      have g1 := Lib.hid (g1.out.below hbn)
      have g2 := Lib.hid (g2.out.below hbn)
      have hb := Lib.hid (below_step hb.out hbn)
      clear hbn c0 c1 c2
      have c0 := g2.out.c 0 _ rfl
      have c1 := g2.out.c 1 _ rfl
      have c2 := g2.out.c 2 _ rfl
      go_wp2_with (refine wpPrG g1.out (.tmp 3) rfl ?_)
      refine (both_any A c p N d n _ (hN.out.below hb.out)).mono ?_
      rintro e w5 ⟨rfl, hbn⟩
      rw [hbo.out]
      obtain ⟨A1, c1', rfl, _⟩ := hsl.out
      have g1 := Lib.hid (g1.out.below hbn)
      have g2 := Lib.hid (g2.out.below hbn)
      have hb := Lib.hid (below_step hb.out hbn)
      clear hbn c0 c1 c2
      have c0 := g2.out.c 0 _ rfl
      have c1 := g2.out.c 1 _ rfl
      have c2 := g2.out.c 2 _ rfl
      go_wp2_with (((first | (go_at_call 86) | (go_at_call 41) | (go_at_call 74) | (go_at_call 28) | (go_at_call 109) | (fail) | (fail)); first | refine rin ?_ | refine rout ?_ | refine rany ?_))
      go_ret
      exact ⟨by first | rfl | done, hb.out⟩
  · have hmy := fun w1 h => May_bad A c p N d n day w1 h (by rw [hC]; exact h0)
    rw [hC] at hmy
    have hmy := Lib.hid hmy
    have hC1 : (C != 0) = true := by simpa using h0
    have hC2 : (C == 0) = false := by simpa using h0
    have hCC : (C == C) = true := by simp
    clear hC h0
    obtain ⟨g1, g2, hb⟩ := start2 w A c p N d n
    have c0 := g2.out.c 0 _ rfl
    have c1 := g2.out.c 1 _ rfl
    have c2 := g2.out.c 2 _ rfl
    go_enter Tryz.func7, Tryz.ntmps7
    go_wp2_with fail
    refine (nawake_any _ (hN.out.tab.below hb.out)).mono ?_
    rintro e w1 ⟨rfl, hbn⟩
    have g1 := Lib.hid (g1.out.below hbn)
    have g2 := Lib.hid (g2.out.below hbn)
    have hb := Lib.hid (below_step hb.out hbn)
    clear hbn c0 c1 c2
    have c0 := g2.out.c 0 _ rfl
    have c1 := g2.out.c 1 _ rfl
    have c2 := g2.out.c 2 _ rfl
    go_wp2_with (refine wpPrG g1.out (.tmp 3) rfl ?_)
    refine (Modest_any A c p _ (hN.out.hols.below hb.out)).mono ?_
    rintro e w2 ⟨⟨b, rfl⟩, hbn⟩
    have g1 := Lib.hid (g1.out.below hbn)
    have g2 := Lib.hid (g2.out.below hbn)
    have hb := Lib.hid (below_step hb.out hbn)
    clear hbn c0 c1 c2
    have c0 := g2.out.c 0 _ rfl
    have c1 := g2.out.c 1 _ rfl
    have c2 := g2.out.c 2 _ rfl
    cases b
    · go_wp2_with fail
      go_ret
      exact ⟨rfl, hb.out⟩
    go_wp2_with fail
    refine (Brief_any N d n _ hN.out.name hN.out.acts.size).mono ?_
    rintro e w3 ⟨⟨b, rfl⟩, hbn⟩
    have g1 := Lib.hid (g1.out.below hbn)
    have g2 := Lib.hid (g2.out.below hbn)
    have hb := Lib.hid (below_step hb.out hbn)
    clear hbn c0 c1 c2
    have c0 := g2.out.c 0 _ rfl
    have c1 := g2.out.c 1 _ rfl
    have c2 := g2.out.c 2 _ rfl
    cases b
    · go_wp2_with fail
      go_ret
      exact ⟨rfl, hb.out⟩
    go_wp2_with (refine wpPrG g1.out (.tmp 3) rfl ?_)
    refine (hmy.out _ (hN.out.below hb.out)).mono ?_
    rintro e w4 ⟨v, rfl, hsl, hbn⟩
    have hsl := Lib.hid hsl
    have g1 := Lib.hid (g1.out.below hbn)
    have g2 := Lib.hid (g2.out.below hbn)
    have hb := Lib.hid (below_step hb.out hbn)
    clear hbn c0 c1 c2
    have c0 := g2.out.c 0 _ rfl
    have c1 := g2.out.c 1 _ rfl
    have c2 := g2.out.c 2 _ rfl
    go_wp2_with (refine wpPrG g1.out (.tmp 3) rfl ?_)
    refine (both_any A c p N d n _ (hN.out.below hb.out)).mono ?_
    rintro e w5 ⟨rfl, hbn⟩
    rw [hbo.out]
    obtain ⟨A1, c1', rfl, _⟩ := hsl.out
    have g1 := Lib.hid (g1.out.below hbn)
    have g2 := Lib.hid (g2.out.below hbn)
    have hb := Lib.hid (below_step hb.out hbn)
    clear hbn c0 c1 c2
    have c0 := g2.out.c 0 _ rfl
    have c1 := g2.out.c 1 _ rfl
    have c2 := g2.out.c 2 _ rfl
    go_wp2_with (((first | (go_at_call 86) | (go_at_call 41) | (go_at_call 74) | (go_at_call 28) | (go_at_call 109) | (fail) | (fail)); first | refine rin ?_ | refine rout ?_ | refine rany ?_))
    go_ret
    exact ⟨by first | rfl | done, hb.out⟩
end Go.Proofs.YtconnjkkgaapbaaGreatDoor
