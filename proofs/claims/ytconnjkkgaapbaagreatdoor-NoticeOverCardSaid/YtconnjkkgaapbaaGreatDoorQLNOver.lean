/- The walk of a statement. -/
import Derived.Test.YtconnjkkgaapbaaGreatDoorC30
import Derived.Test.YtconnjkkgaapbaaGreatDoorC31
import Derived.Test.YtconnjkkgaapbaaGreatDoorC27
import Derived.Test.YtconnjkkgaapbaaGreatDoorC24
namespace Go.Proofs.YtconnjkkgaapbaaGreatDoor
open Go Go.RowKit
set_option maxRecDepth 100000 in
set_option maxHeartbeats 8000000 in
theorem NoticeOver_any (A : Option Addr) (c : Nat) (p : Proc) (N : Option Addr) (d : Nat) (n : Note) (a : NAct) (w : World) (hN : NB w A p N n) :
    Calls Tryz.prog 11 #[.agg #[.int .i64 p.runs.m, .int .i64 p.runs.d, .bool p.runs.k, .int .i64 p.obj.m, .int .i64 p.obj.d, .bool p.obj.k, .int .i64 p.wait.m, .int .i64 p.wait.d, .bool p.wait.k, .int .i64 p.exts, .int .i64 p.longest, .slice A p.hols.length c], .agg #[.string n.name, .int .i64 n.opened, .slice N n.acts.length d], .agg #[.int .i64 a.day, .int .i64 a.kind, .int .i64 a.days]] w fun e w' => e = .returned (.bool true) ∧ Below w.heap.size w w' := by
  have hsz := hN.acts.size
  have hnm := hN.name
  unfold maxLen at hnm
  have hN := Lib.hid hN
  obtain ⟨C, hC⟩ : ∃ C, (Cal.checkS p n).2 = C := ⟨_, rfl⟩
  have hbo := Lib.hid hC
  by_cases hl : n.acts.length ≤ 12
  · by_cases hs : n.name.size ≤ 30
    · by_cases h0 : C = 0
      · subst h0
        obtain ⟨hp0, hcase⟩ := Cal.phase_max hC
        rcases hphS : Cal.phaseS p n 200000 with ⟨K, F⟩
        rw [hphS] at hp0 hcase
        have hp0 : F = 0 := hp0
        subst hp0
        have hph := Lib.hid hphS
        rcases hexS : Cal.expS p n with ⟨x, f⟩
        have hex := Lib.hid hexS
        rcases hcase with ⟨hK, hs1⟩ | ⟨hK, hs1, hk0, hk5⟩
        · have hf := Cal.exp_run hC hs1
          rw [hexS] at hf
          have hK : K = 1 ∨ K = 6 := hK
          have hf : f = 0 ∨ f = 2 := hf
          clear hC hphS hexS hs1
          rcases hK with rfl | rfl
          all_goals rcases hf with rfl | rfl
          all_goals
            obtain ⟨g1, g2, g3, hb⟩ := start3n w A c p N d n a
            have c0 := g2.out.c 0 _ rfl
            have c1 := g2.out.c 1 _ rfl
            have c2 := g2.out.c 2 _ rfl
            have a0 := g3.out.c 0 _ rfl
            have a1 := g3.out.c 1 _ rfl
            have a2 := g3.out.c 2 _ rfl
            go_enter Tryz.func11, Tryz.ntmps11
            go_wp2_with fail
            refine (nawake_any _ (hN.out.tab.below hb.out)).mono ?_
            rintro e wn ⟨rfl, hbn⟩
            have g1 := Lib.hid (g1.out.below hbn)
            have g2 := Lib.hid (g2.out.below hbn)
            have g3 := Lib.hid (g3.out.below hbn)
            have hb := Lib.hid (below_step hb.out hbn)
            clear hbn c0 c1 c2 a0 a1 a2
            have c0 := g2.out.c 0 _ rfl
            have c1 := g2.out.c 1 _ rfl
            have c2 := g2.out.c 2 _ rfl
            have a0 := g3.out.c 0 _ rfl
            have a1 := g3.out.c 1 _ rfl
            have a2 := g3.out.c 2 _ rfl
            go_wp2_with (refine wpPr g1.out (.tmp 3) rfl ?_)
            refine (Modest_any A c p _ (hN.out.hols.below hb.out)).mono ?_
            rintro e wn ⟨⟨b, rfl⟩, hbn⟩
            have g1 := Lib.hid (g1.out.below hbn)
            have g2 := Lib.hid (g2.out.below hbn)
            have g3 := Lib.hid (g3.out.below hbn)
            have hb := Lib.hid (below_step hb.out hbn)
            clear hbn c0 c1 c2 a0 a1 a2
            have c0 := g2.out.c 0 _ rfl
            have c1 := g2.out.c 1 _ rfl
            have c2 := g2.out.c 2 _ rfl
            have a0 := g3.out.c 0 _ rfl
            have a1 := g3.out.c 1 _ rfl
            have a2 := g3.out.c 2 _ rfl
            cases b
            · go_wp2_with fail
              go_ret
              exact ⟨rfl, hb.out⟩
            have z0 := g1.out.c 0 _ rfl
            have z1 := g1.out.c 1 _ rfl
            have z2 := g1.out.c 2 _ rfl
            have z3 := g1.out.c 3 _ rfl
            have z4 := g1.out.c 4 _ rfl
            have z5 := g1.out.c 5 _ rfl
            have z6 := g1.out.c 6 _ rfl
            have z7 := g1.out.c 7 _ rfl
            have z8 := g1.out.c 8 _ rfl
            have z9 := g1.out.c 9 _ rfl
            have z10 := g1.out.c 10 _ rfl
            have z11 := g1.out.c 11 _ rfl
            go_wp2_with fail
            refine (both_any A c p N d n _ (hN.out.below hb.out)).mono ?_
            rintro e wn ⟨rfl, hbn⟩
            rw [hbo.out]
            clear z0 z1 z2 z3 z4 z5 z6 z7 z8 z9 z10 z11
            have g1 := Lib.hid (g1.out.below hbn)
            have g2 := Lib.hid (g2.out.below hbn)
            have g3 := Lib.hid (g3.out.below hbn)
            have hb := Lib.hid (below_step hb.out hbn)
            clear hbn c0 c1 c2 a0 a1 a2
            have c0 := g2.out.c 0 _ rfl
            have c1 := g2.out.c 1 _ rfl
            have c2 := g2.out.c 2 _ rfl
            have a0 := g3.out.c 0 _ rfl
            have a1 := g3.out.c 1 _ rfl
            have a2 := g3.out.c 2 _ rfl
            go_wp2_with (refine wpPr g1.out (.tmp 3) rfl ?_)
            refine (Phase_any A c p N d n 200000 _ (hN.out.below hb.out)).mono ?_
            rintro e wn ⟨he, hbn⟩
            rw [hph.out] at he
            subst he
            have g1 := Lib.hid (g1.out.below hbn)
            have g2 := Lib.hid (g2.out.below hbn)
            have g3 := Lib.hid (g3.out.below hbn)
            have hb := Lib.hid (below_step hb.out hbn)
            clear hbn c0 c1 c2 a0 a1 a2
            have c0 := g2.out.c 0 _ rfl
            have c1 := g2.out.c 1 _ rfl
            have c2 := g2.out.c 2 _ rfl
            have a0 := g3.out.c 0 _ rfl
            have a1 := g3.out.c 1 _ rfl
            have a2 := g3.out.c 2 _ rfl
            go_wp2_with (refine wpPr g1.out (.tmp 3) rfl ?_)
            refine (ExpiresAt_any A c p N d n _ (hN.out.below hb.out)).mono ?_
            rintro e wn ⟨he, hbn⟩
            rw [hex.out] at he
            subst he
            have g1 := Lib.hid (g1.out.below hbn)
            have g2 := Lib.hid (g2.out.below hbn)
            have g3 := Lib.hid (g3.out.below hbn)
            have hb := Lib.hid (below_step hb.out hbn)
            clear hbn c0 c1 c2 a0 a1 a2
            have c0 := g2.out.c 0 _ rfl
            have c1 := g2.out.c 1 _ rfl
            have c2 := g2.out.c 2 _ rfl
            have a0 := g3.out.c 0 _ rfl
            have a1 := g3.out.c 1 _ rfl
            have a2 := g3.out.c 2 _ rfl
            go_wp2_with (((first | (go_at_call 86) | (go_at_call 41) | (go_at_call 74) | (go_at_call 28) | (go_at_call 109) | (fail) | (fail)); first | refine rin ?_ | refine rout ?_ | refine rany ?_))
            go_ret
            exact ⟨by first | rfl | done, hb.out⟩
        · have hf := Cal.exp_state hC hs1
          rw [hexS] at hf
          have hf : f = 28 := hf
          subst hf
          have hK : K = (Cal.stAt p n 200000).phase := hK
          have hadd0 := fun (h : (Cal.stAt p n 200000).phase = 4 ∨ (Cal.stAt p n 200000).phase = 5) => Cal.over_add (p := p) (n := n) (a := a) h
          have hmay0 := fun (h : (Cal.stAt p n 200000).phase = 4 ∨ (Cal.stAt p n 200000).phase = 5) => Cal.over_may (p := p) (n := n) h
          rw [← hK] at hs1 hk0 hk5 hadd0 hmay0
          have hmay := fun w1 h => May_ok A c p N d n 200000 w1 h hC (by omega) (by omega)
          clear hK
          have hKs : K = 0 ∨ K = 2 ∨ K = 3 ∨ K = 4 ∨ K = 5 := by omega
          clear hC hphS hexS hs1 hk0 hk5
          rcases hKs with rfl | rfl | rfl | hK
          case inr.inr.inr =>
            have hE := hadd0 hK
            have hM := hmay0 hK
            rw [hM] at hmay
            have hadd := Lib.hid (fun w1 h => Add_no A c p N d n a w1 h hE)
            have hE1 : (Cal.addE p n a != 0) = true := by simpa using hE
            have hmay := Lib.hid hmay
            generalize Cal.addE p n a = E at *
            clear hadd0 hmay0 hE hM
            rcases hK with rfl | rfl
            all_goals
              obtain ⟨g1, g2, g3, hb⟩ := start3n w A c p N d n a
              have c0 := g2.out.c 0 _ rfl
              have c1 := g2.out.c 1 _ rfl
              have c2 := g2.out.c 2 _ rfl
              have a0 := g3.out.c 0 _ rfl
              have a1 := g3.out.c 1 _ rfl
              have a2 := g3.out.c 2 _ rfl
              go_enter Tryz.func11, Tryz.ntmps11
              go_wp2_with fail
              refine (nawake_any _ (hN.out.tab.below hb.out)).mono ?_
              rintro e wn ⟨rfl, hbn⟩
              have g1 := Lib.hid (g1.out.below hbn)
              have g2 := Lib.hid (g2.out.below hbn)
              have g3 := Lib.hid (g3.out.below hbn)
              have hb := Lib.hid (below_step hb.out hbn)
              clear hbn c0 c1 c2 a0 a1 a2
              have c0 := g2.out.c 0 _ rfl
              have c1 := g2.out.c 1 _ rfl
              have c2 := g2.out.c 2 _ rfl
              have a0 := g3.out.c 0 _ rfl
              have a1 := g3.out.c 1 _ rfl
              have a2 := g3.out.c 2 _ rfl
              go_wp2_with (refine wpPr g1.out (.tmp 3) rfl ?_)
              refine (Modest_any A c p _ (hN.out.hols.below hb.out)).mono ?_
              rintro e wn ⟨⟨b, rfl⟩, hbn⟩
              have g1 := Lib.hid (g1.out.below hbn)
              have g2 := Lib.hid (g2.out.below hbn)
              have g3 := Lib.hid (g3.out.below hbn)
              have hb := Lib.hid (below_step hb.out hbn)
              clear hbn c0 c1 c2 a0 a1 a2
              have c0 := g2.out.c 0 _ rfl
              have c1 := g2.out.c 1 _ rfl
              have c2 := g2.out.c 2 _ rfl
              have a0 := g3.out.c 0 _ rfl
              have a1 := g3.out.c 1 _ rfl
              have a2 := g3.out.c 2 _ rfl
              cases b
              · go_wp2_with fail
                go_ret
                exact ⟨rfl, hb.out⟩
              have z0 := g1.out.c 0 _ rfl
              have z1 := g1.out.c 1 _ rfl
              have z2 := g1.out.c 2 _ rfl
              have z3 := g1.out.c 3 _ rfl
              have z4 := g1.out.c 4 _ rfl
              have z5 := g1.out.c 5 _ rfl
              have z6 := g1.out.c 6 _ rfl
              have z7 := g1.out.c 7 _ rfl
              have z8 := g1.out.c 8 _ rfl
              have z9 := g1.out.c 9 _ rfl
              have z10 := g1.out.c 10 _ rfl
              have z11 := g1.out.c 11 _ rfl
              go_wp2_with fail
              refine (both_any A c p N d n _ (hN.out.below hb.out)).mono ?_
              rintro e wn ⟨rfl, hbn⟩
              rw [hbo.out]
              clear z0 z1 z2 z3 z4 z5 z6 z7 z8 z9 z10 z11
              have g1 := Lib.hid (g1.out.below hbn)
              have g2 := Lib.hid (g2.out.below hbn)
              have g3 := Lib.hid (g3.out.below hbn)
              have hb := Lib.hid (below_step hb.out hbn)
              clear hbn c0 c1 c2 a0 a1 a2
              have c0 := g2.out.c 0 _ rfl
              have c1 := g2.out.c 1 _ rfl
              have c2 := g2.out.c 2 _ rfl
              have a0 := g3.out.c 0 _ rfl
              have a1 := g3.out.c 1 _ rfl
              have a2 := g3.out.c 2 _ rfl
              go_wp2_with (refine wpPr g1.out (.tmp 3) rfl ?_)
              refine (Phase_any A c p N d n 200000 _ (hN.out.below hb.out)).mono ?_
              rintro e wn ⟨he, hbn⟩
              rw [hph.out] at he
              subst he
              have g1 := Lib.hid (g1.out.below hbn)
              have g2 := Lib.hid (g2.out.below hbn)
              have g3 := Lib.hid (g3.out.below hbn)
              have hb := Lib.hid (below_step hb.out hbn)
              clear hbn c0 c1 c2 a0 a1 a2
              have c0 := g2.out.c 0 _ rfl
              have c1 := g2.out.c 1 _ rfl
              have c2 := g2.out.c 2 _ rfl
              have a0 := g3.out.c 0 _ rfl
              have a1 := g3.out.c 1 _ rfl
              have a2 := g3.out.c 2 _ rfl
              go_wp2_with (refine wpPr g1.out (.tmp 3) rfl ?_)
              refine (ExpiresAt_any A c p N d n _ (hN.out.below hb.out)).mono ?_
              rintro e wn ⟨he, hbn⟩
              rw [hex.out] at he
              subst he
              have g1 := Lib.hid (g1.out.below hbn)
              have g2 := Lib.hid (g2.out.below hbn)
              have g3 := Lib.hid (g3.out.below hbn)
              have hb := Lib.hid (below_step hb.out hbn)
              clear hbn c0 c1 c2 a0 a1 a2
              have c0 := g2.out.c 0 _ rfl
              have c1 := g2.out.c 1 _ rfl
              have c2 := g2.out.c 2 _ rfl
              have a0 := g3.out.c 0 _ rfl
              have a1 := g3.out.c 1 _ rfl
              have a2 := g3.out.c 2 _ rfl
              go_wp2_with (first | ((first | (go_at_call 86) | (go_at_call 41) | (go_at_call 74) | (go_at_call 28) | (go_at_call 109) | (fail) | (fail)); first | refine rin ?_ | refine rout ?_ | refine rany ?_) | (refine wpPr g1.out (.tmp 3) rfl ?_))
              refine (hadd.out _ (hN.out.below hb.out)).mono ?_
              rintro e wn ⟨rfl, hbn⟩
              have g1 := Lib.hid (g1.out.below hbn)
              have g2 := Lib.hid (g2.out.below hbn)
              have g3 := Lib.hid (g3.out.below hbn)
              have hb := Lib.hid (below_step hb.out hbn)
              clear hbn c0 c1 c2 a0 a1 a2
              have c0 := g2.out.c 0 _ rfl
              have c1 := g2.out.c 1 _ rfl
              have c2 := g2.out.c 2 _ rfl
              have a0 := g3.out.c 0 _ rfl
              have a1 := g3.out.c 1 _ rfl
              have a2 := g3.out.c 2 _ rfl
              have hN7 := Lib.hid (BoxAt.new wn #[.string ⟨#[]⟩, .int .i64 0, .slice none 0 0] 29)
              have hm1 : Hid (Acts wn none []) := Acts.nil _
              go_wp2_with (first | ((refine wpList_store_box rfl 29 (.tmp 11) (.tmp 60) rfl (wn.heap.size) _ [.string ⟨#[]⟩, .int .i64 0, .slice none 0 0] (by rfl) (by rfl) hN7.out rfl ntSize (by kernel_rfl) ?_; intro w5 h5 hg5); have hbn5 := below_of_grownB (below_alloc wn _) hg5 (Nat.le_refl _); have g1 := Lib.hid (g1.out.below hbn5); have g2 := Lib.hid (g2.out.below hbn5); have g3 := Lib.hid (g3.out.below hbn5); have hb := Lib.hid (below_step hb.out hbn5); have hm1 := Lib.hid (hm1.out.below hbn5); have g7 := Lib.hid h5; clear hbn5 hg5 hN7 c0 c1 c2 a0 a1 a2; have c0 := g2.out.c 0 _ rfl; have c1 := g2.out.c 1 _ rfl; have c2 := g2.out.c 2 _ rfl; have a0 := g3.out.c 0 _ rfl; have a1 := g3.out.c 1 _ rfl; have a2 := g3.out.c 2 _ rfl; have m0 := g7.out.c 0 _ rfl; have m1 := g7.out.c 1 _ rfl; have m2 := g7.out.c 2 _ rfl) | (refine wpPr g1.out (.tmp 3) rfl ?_))
              refine (hmay.out _ (hN.out.below hb.out)).mono ?_
              rintro e wm ⟨v, rfl, ⟨A2, c2', rfl, _⟩, hbn⟩
              have hb := Lib.hid (below_step hb.out hbn)
              go_wp2_with fail
              go_ret
              exact ⟨by first | rfl | done, hb.out⟩
          all_goals
            clear hadd0 hmay0 hmay
            obtain ⟨g1, g2, g3, hb⟩ := start3n w A c p N d n a
            have c0 := g2.out.c 0 _ rfl
            have c1 := g2.out.c 1 _ rfl
            have c2 := g2.out.c 2 _ rfl
            have a0 := g3.out.c 0 _ rfl
            have a1 := g3.out.c 1 _ rfl
            have a2 := g3.out.c 2 _ rfl
            go_enter Tryz.func11, Tryz.ntmps11
            go_wp2_with fail
            refine (nawake_any _ (hN.out.tab.below hb.out)).mono ?_
            rintro e wn ⟨rfl, hbn⟩
            have g1 := Lib.hid (g1.out.below hbn)
            have g2 := Lib.hid (g2.out.below hbn)
            have g3 := Lib.hid (g3.out.below hbn)
            have hb := Lib.hid (below_step hb.out hbn)
            clear hbn c0 c1 c2 a0 a1 a2
            have c0 := g2.out.c 0 _ rfl
            have c1 := g2.out.c 1 _ rfl
            have c2 := g2.out.c 2 _ rfl
            have a0 := g3.out.c 0 _ rfl
            have a1 := g3.out.c 1 _ rfl
            have a2 := g3.out.c 2 _ rfl
            go_wp2_with (refine wpPr g1.out (.tmp 3) rfl ?_)
            refine (Modest_any A c p _ (hN.out.hols.below hb.out)).mono ?_
            rintro e wn ⟨⟨b, rfl⟩, hbn⟩
            have g1 := Lib.hid (g1.out.below hbn)
            have g2 := Lib.hid (g2.out.below hbn)
            have g3 := Lib.hid (g3.out.below hbn)
            have hb := Lib.hid (below_step hb.out hbn)
            clear hbn c0 c1 c2 a0 a1 a2
            have c0 := g2.out.c 0 _ rfl
            have c1 := g2.out.c 1 _ rfl
            have c2 := g2.out.c 2 _ rfl
            have a0 := g3.out.c 0 _ rfl
            have a1 := g3.out.c 1 _ rfl
            have a2 := g3.out.c 2 _ rfl
            cases b
            · go_wp2_with fail
              go_ret
              exact ⟨rfl, hb.out⟩
            have z0 := g1.out.c 0 _ rfl
            have z1 := g1.out.c 1 _ rfl
            have z2 := g1.out.c 2 _ rfl
            have z3 := g1.out.c 3 _ rfl
            have z4 := g1.out.c 4 _ rfl
            have z5 := g1.out.c 5 _ rfl
            have z6 := g1.out.c 6 _ rfl
            have z7 := g1.out.c 7 _ rfl
            have z8 := g1.out.c 8 _ rfl
            have z9 := g1.out.c 9 _ rfl
            have z10 := g1.out.c 10 _ rfl
            have z11 := g1.out.c 11 _ rfl
            go_wp2_with fail
            refine (both_any A c p N d n _ (hN.out.below hb.out)).mono ?_
            rintro e wn ⟨rfl, hbn⟩
            rw [hbo.out]
            clear z0 z1 z2 z3 z4 z5 z6 z7 z8 z9 z10 z11
            have g1 := Lib.hid (g1.out.below hbn)
            have g2 := Lib.hid (g2.out.below hbn)
            have g3 := Lib.hid (g3.out.below hbn)
            have hb := Lib.hid (below_step hb.out hbn)
            clear hbn c0 c1 c2 a0 a1 a2
            have c0 := g2.out.c 0 _ rfl
            have c1 := g2.out.c 1 _ rfl
            have c2 := g2.out.c 2 _ rfl
            have a0 := g3.out.c 0 _ rfl
            have a1 := g3.out.c 1 _ rfl
            have a2 := g3.out.c 2 _ rfl
            go_wp2_with (refine wpPr g1.out (.tmp 3) rfl ?_)
            refine (Phase_any A c p N d n 200000 _ (hN.out.below hb.out)).mono ?_
            rintro e wn ⟨he, hbn⟩
            rw [hph.out] at he
            subst he
            have g1 := Lib.hid (g1.out.below hbn)
            have g2 := Lib.hid (g2.out.below hbn)
            have g3 := Lib.hid (g3.out.below hbn)
            have hb := Lib.hid (below_step hb.out hbn)
            clear hbn c0 c1 c2 a0 a1 a2
            have c0 := g2.out.c 0 _ rfl
            have c1 := g2.out.c 1 _ rfl
            have c2 := g2.out.c 2 _ rfl
            have a0 := g3.out.c 0 _ rfl
            have a1 := g3.out.c 1 _ rfl
            have a2 := g3.out.c 2 _ rfl
            go_wp2_with (refine wpPr g1.out (.tmp 3) rfl ?_)
            refine (ExpiresAt_any A c p N d n _ (hN.out.below hb.out)).mono ?_
            rintro e wn ⟨he, hbn⟩
            rw [hex.out] at he
            subst he
            have g1 := Lib.hid (g1.out.below hbn)
            have g2 := Lib.hid (g2.out.below hbn)
            have g3 := Lib.hid (g3.out.below hbn)
            have hb := Lib.hid (below_step hb.out hbn)
            clear hbn c0 c1 c2 a0 a1 a2
            have c0 := g2.out.c 0 _ rfl
            have c1 := g2.out.c 1 _ rfl
            have c2 := g2.out.c 2 _ rfl
            have a0 := g3.out.c 0 _ rfl
            have a1 := g3.out.c 1 _ rfl
            have a2 := g3.out.c 2 _ rfl
            go_wp2_with (((first | (go_at_call 86) | (go_at_call 41) | (go_at_call 74) | (go_at_call 28) | (go_at_call 109) | (fail) | (fail)); first | refine rin ?_ | refine rout ?_ | refine rany ?_))
            go_ret
            exact ⟨by first | rfl | done, hb.out⟩
      · have hC1 : (C != 0) = true := by simpa using h0
        clear hC h0
        obtain ⟨g1, g2, g3, hb⟩ := start3n w A c p N d n a
        have c0 := g2.out.c 0 _ rfl
        have c1 := g2.out.c 1 _ rfl
        have c2 := g2.out.c 2 _ rfl
        have a0 := g3.out.c 0 _ rfl
        have a1 := g3.out.c 1 _ rfl
        have a2 := g3.out.c 2 _ rfl
        go_enter Tryz.func11, Tryz.ntmps11
        go_wp2_with fail
        refine (nawake_any _ (hN.out.tab.below hb.out)).mono ?_
        rintro e wn ⟨rfl, hbn⟩
        have g1 := Lib.hid (g1.out.below hbn)
        have g2 := Lib.hid (g2.out.below hbn)
        have g3 := Lib.hid (g3.out.below hbn)
        have hb := Lib.hid (below_step hb.out hbn)
        clear hbn c0 c1 c2 a0 a1 a2
        have c0 := g2.out.c 0 _ rfl
        have c1 := g2.out.c 1 _ rfl
        have c2 := g2.out.c 2 _ rfl
        have a0 := g3.out.c 0 _ rfl
        have a1 := g3.out.c 1 _ rfl
        have a2 := g3.out.c 2 _ rfl
        go_wp2_with (refine wpPr g1.out (.tmp 3) rfl ?_)
        refine (Modest_any A c p _ (hN.out.hols.below hb.out)).mono ?_
        rintro e wn ⟨⟨b, rfl⟩, hbn⟩
        have g1 := Lib.hid (g1.out.below hbn)
        have g2 := Lib.hid (g2.out.below hbn)
        have g3 := Lib.hid (g3.out.below hbn)
        have hb := Lib.hid (below_step hb.out hbn)
        clear hbn c0 c1 c2 a0 a1 a2
        have c0 := g2.out.c 0 _ rfl
        have c1 := g2.out.c 1 _ rfl
        have c2 := g2.out.c 2 _ rfl
        have a0 := g3.out.c 0 _ rfl
        have a1 := g3.out.c 1 _ rfl
        have a2 := g3.out.c 2 _ rfl
        cases b
        · go_wp2_with fail
          go_ret
          exact ⟨rfl, hb.out⟩
        have z0 := g1.out.c 0 _ rfl
        have z1 := g1.out.c 1 _ rfl
        have z2 := g1.out.c 2 _ rfl
        have z3 := g1.out.c 3 _ rfl
        have z4 := g1.out.c 4 _ rfl
        have z5 := g1.out.c 5 _ rfl
        have z6 := g1.out.c 6 _ rfl
        have z7 := g1.out.c 7 _ rfl
        have z8 := g1.out.c 8 _ rfl
        have z9 := g1.out.c 9 _ rfl
        have z10 := g1.out.c 10 _ rfl
        have z11 := g1.out.c 11 _ rfl
        go_wp2_with fail
        refine (both_any A c p N d n _ (hN.out.below hb.out)).mono ?_
        rintro e wn ⟨rfl, hbn⟩
        rw [hbo.out]
        clear z0 z1 z2 z3 z4 z5 z6 z7 z8 z9 z10 z11
        have g1 := Lib.hid (g1.out.below hbn)
        have g2 := Lib.hid (g2.out.below hbn)
        have g3 := Lib.hid (g3.out.below hbn)
        have hb := Lib.hid (below_step hb.out hbn)
        clear hbn c0 c1 c2 a0 a1 a2
        have c0 := g2.out.c 0 _ rfl
        have c1 := g2.out.c 1 _ rfl
        have c2 := g2.out.c 2 _ rfl
        have a0 := g3.out.c 0 _ rfl
        have a1 := g3.out.c 1 _ rfl
        have a2 := g3.out.c 2 _ rfl
        go_wp2_with fail
        go_ret
        exact ⟨by first | rfl | done, hb.out⟩
    · have hs' : 30 < n.name.size := by omega
      clear hC hbo hs
      obtain ⟨g1, g2, g3, hb⟩ := start3n w A c p N d n a
      have c0 := g2.out.c 0 _ rfl
      have c1 := g2.out.c 1 _ rfl
      have c2 := g2.out.c 2 _ rfl
      have a0 := g3.out.c 0 _ rfl
      have a1 := g3.out.c 1 _ rfl
      have a2 := g3.out.c 2 _ rfl
      go_enter Tryz.func11, Tryz.ntmps11
      go_wp2_with fail
      refine (nawake_any _ (hN.out.tab.below hb.out)).mono ?_
      rintro e wn ⟨rfl, hbn⟩
      have g1 := Lib.hid (g1.out.below hbn)
      have g2 := Lib.hid (g2.out.below hbn)
      have g3 := Lib.hid (g3.out.below hbn)
      have hb := Lib.hid (below_step hb.out hbn)
      clear hbn c0 c1 c2 a0 a1 a2
      have c0 := g2.out.c 0 _ rfl
      have c1 := g2.out.c 1 _ rfl
      have c2 := g2.out.c 2 _ rfl
      have a0 := g3.out.c 0 _ rfl
      have a1 := g3.out.c 1 _ rfl
      have a2 := g3.out.c 2 _ rfl
      go_wp2_with (refine wpPr g1.out (.tmp 3) rfl ?_)
      refine (Modest_any A c p _ (hN.out.hols.below hb.out)).mono ?_
      rintro e wn ⟨⟨b, rfl⟩, hbn⟩
      have g1 := Lib.hid (g1.out.below hbn)
      have g2 := Lib.hid (g2.out.below hbn)
      have g3 := Lib.hid (g3.out.below hbn)
      have hb := Lib.hid (below_step hb.out hbn)
      clear hbn c0 c1 c2 a0 a1 a2
      have c0 := g2.out.c 0 _ rfl
      have c1 := g2.out.c 1 _ rfl
      have c2 := g2.out.c 2 _ rfl
      have a0 := g3.out.c 0 _ rfl
      have a1 := g3.out.c 1 _ rfl
      have a2 := g3.out.c 2 _ rfl
      cases b
      · go_wp2_with fail
        go_ret
        exact ⟨rfl, hb.out⟩
      go_wp2_with fail
      go_ret
      exact ⟨by first | rfl | done, hb.out⟩
  · have hl' : 12 < n.acts.length := by omega
    clear hC hbo hl
    obtain ⟨g1, g2, g3, hb⟩ := start3n w A c p N d n a
    have c0 := g2.out.c 0 _ rfl
    have c1 := g2.out.c 1 _ rfl
    have c2 := g2.out.c 2 _ rfl
    have a0 := g3.out.c 0 _ rfl
    have a1 := g3.out.c 1 _ rfl
    have a2 := g3.out.c 2 _ rfl
    go_enter Tryz.func11, Tryz.ntmps11
    go_wp2_with fail
    refine (nawake_any _ (hN.out.tab.below hb.out)).mono ?_
    rintro e wn ⟨rfl, hbn⟩
    have g1 := Lib.hid (g1.out.below hbn)
    have g2 := Lib.hid (g2.out.below hbn)
    have g3 := Lib.hid (g3.out.below hbn)
    have hb := Lib.hid (below_step hb.out hbn)
    clear hbn c0 c1 c2 a0 a1 a2
    have c0 := g2.out.c 0 _ rfl
    have c1 := g2.out.c 1 _ rfl
    have c2 := g2.out.c 2 _ rfl
    have a0 := g3.out.c 0 _ rfl
    have a1 := g3.out.c 1 _ rfl
    have a2 := g3.out.c 2 _ rfl
    go_wp2_with (refine wpPr g1.out (.tmp 3) rfl ?_)
    refine (Modest_any A c p _ (hN.out.hols.below hb.out)).mono ?_
    rintro e wn ⟨⟨b, rfl⟩, hbn⟩
    have g1 := Lib.hid (g1.out.below hbn)
    have g2 := Lib.hid (g2.out.below hbn)
    have g3 := Lib.hid (g3.out.below hbn)
    have hb := Lib.hid (below_step hb.out hbn)
    clear hbn c0 c1 c2 a0 a1 a2
    have c0 := g2.out.c 0 _ rfl
    have c1 := g2.out.c 1 _ rfl
    have c2 := g2.out.c 2 _ rfl
    have a0 := g3.out.c 0 _ rfl
    have a1 := g3.out.c 1 _ rfl
    have a2 := g3.out.c 2 _ rfl
    cases b
    · go_wp2_with fail
      go_ret
      exact ⟨rfl, hb.out⟩
    go_wp2_with fail
    go_ret
    exact ⟨by first | rfl | done, hb.out⟩
end Go.Proofs.YtconnjkkgaapbaaGreatDoor
