/- The walk of a statement. -/
import Derived.Test.YtconnjkkgaapbaaGreatDoorC30
import Derived.Test.YtconnjkkgaapbaaGreatDoorC27
import Derived.Test.YtconnjkkgaapbaaGreatDoorC24
namespace Go.Proofs.YtconnjkkgaapbaaGreatDoor
open Go Go.RowKit
set_option maxRecDepth 100000 in
set_option maxHeartbeats 8000000 in
theorem NoticeMoves_any (A : Option Addr) (c : Nat) (p : Proc) (N : Option Addr) (d : Nat) (n : Note) (a : NAct) (w : World) (hN : NB w A p N n) :
    Calls Tryz.prog 10 #[.agg #[.int .i64 p.runs.m, .int .i64 p.runs.d, .bool p.runs.k, .int .i64 p.obj.m, .int .i64 p.obj.d, .bool p.obj.k, .int .i64 p.wait.m, .int .i64 p.wait.d, .bool p.wait.k, .int .i64 p.exts, .int .i64 p.longest, .slice A p.hols.length c], .agg #[.string n.name, .int .i64 n.opened, .slice N n.acts.length d], .agg #[.int .i64 a.day, .int .i64 a.kind, .int .i64 a.days]] w fun e w' => e = .returned (.bool true) ∧ Below w.heap.size w w' := by
  have hsz := hN.acts.size
  have hnm := hN.name
  unfold maxLen at hnm
  have hN := Lib.hid hN
  obtain ⟨C, hC⟩ : ∃ C, (Cal.checkS p n).2 = C := ⟨_, rfl⟩
  have hbo := Lib.hid hC
  by_cases hl : n.acts.length ≤ 12
  · by_cases hs : n.name.size ≤ 30
    · by_cases h0 : C = 0
      · subst h0
        by_cases hk : a.kind = 6
        · have hkb : (a.kind != 6) = false := by simpa using hk
          by_cases hE : Cal.addE p n a = 0
          · obtain ⟨x, y, hx, hy, hxy, y0, y1, hh, hwk⟩ := Cal.more_moves hE hk
            have hadd := Lib.hid (fun w1 h => Add_more A c p N d n a w1 h hE)
            have hwE : Hid (Cal.isWorkE p.hols y = 0) := by show _ = _; unfold Cal.isWorkE; rw [if_pos hh, if_pos ⟨y0, y1⟩]
            have hwB : Hid (Cal.isWorkB p.hols y = true) := by show _ = _; unfold Cal.isWorkB; rw [if_pos hwE.out, ← Cal.workB_eq (Cal.holsErr_ok hh).1 y0 y1]; exact hwk
            have hnm2 : (n.more a).name.size ≤ maxLen := hN.out.name
            have hx := Lib.hid hx
            have hy := Lib.hid hy
            have hxyb : decide (y < x) = false := by simpa using hxy
            clear hC hE hk hh hwk hxy
            generalize n.more a = m at *
            obtain ⟨g1, g2, g3, hb⟩ := start3n w A c p N d n a
            have c0 := g2.out.c 0 _ rfl
            have c1 := g2.out.c 1 _ rfl
            have c2 := g2.out.c 2 _ rfl
            have a0 := g3.out.c 0 _ rfl
            have a1 := g3.out.c 1 _ rfl
            have a2 := g3.out.c 2 _ rfl
            go_enter Tryz.func10, Tryz.ntmps10
            go_wp2_with fail
            refine (nawake_any _ (hN.out.tab.below hb.out)).mono ?_
            rintro e wn ⟨rfl, hbn⟩
            have g1 := Lib.hid (g1.out.below hbn)
            have g2 := Lib.hid (g2.out.below hbn)
            have g3 := Lib.hid (g3.out.below hbn)
            have hb := Lib.hid (below_step hb.out hbn)
            clear hbn c0 c1 c2 a0 a1 a2
            have c0 := g2.out.c 0 _ rfl
            have c1 := g2.out.c 1 _ rfl
            have c2 := g2.out.c 2 _ rfl
            have a0 := g3.out.c 0 _ rfl
            have a1 := g3.out.c 1 _ rfl
            have a2 := g3.out.c 2 _ rfl
            go_wp2_with (refine wpPr g1.out (.tmp 3) rfl ?_)
            refine (Modest_any A c p _ (hN.out.hols.below hb.out)).mono ?_
            rintro e wn ⟨⟨b, rfl⟩, hbn⟩
            have g1 := Lib.hid (g1.out.below hbn)
            have g2 := Lib.hid (g2.out.below hbn)
            have g3 := Lib.hid (g3.out.below hbn)
            have hb := Lib.hid (below_step hb.out hbn)
            clear hbn c0 c1 c2 a0 a1 a2
            have c0 := g2.out.c 0 _ rfl
            have c1 := g2.out.c 1 _ rfl
            have c2 := g2.out.c 2 _ rfl
            have a0 := g3.out.c 0 _ rfl
            have a1 := g3.out.c 1 _ rfl
            have a2 := g3.out.c 2 _ rfl
            cases b
            · go_wp2_with fail
              go_ret
              exact ⟨rfl, hb.out⟩
            have z0 := g1.out.c 0 _ rfl
            have z1 := g1.out.c 1 _ rfl
            have z2 := g1.out.c 2 _ rfl
            have z3 := g1.out.c 3 _ rfl
            have z4 := g1.out.c 4 _ rfl
            have z5 := g1.out.c 5 _ rfl
            have z6 := g1.out.c 6 _ rfl
            have z7 := g1.out.c 7 _ rfl
            have z8 := g1.out.c 8 _ rfl
            have z9 := g1.out.c 9 _ rfl
            have z10 := g1.out.c 10 _ rfl
            have z11 := g1.out.c 11 _ rfl
            go_wp2_with fail
            refine (both_any A c p N d n _ (hN.out.below hb.out)).mono ?_
            rintro e wn ⟨rfl, hbn⟩
            rw [hbo.out]
            clear z0 z1 z2 z3 z4 z5 z6 z7 z8 z9 z10 z11
            have g1 := Lib.hid (g1.out.below hbn)
            have g2 := Lib.hid (g2.out.below hbn)
            have g3 := Lib.hid (g3.out.below hbn)
            have hb := Lib.hid (below_step hb.out hbn)
            clear hbn c0 c1 c2 a0 a1 a2
            have c0 := g2.out.c 0 _ rfl
            have c1 := g2.out.c 1 _ rfl
            have c2 := g2.out.c 2 _ rfl
            have a0 := g3.out.c 0 _ rfl
            have a1 := g3.out.c 1 _ rfl
            have a2 := g3.out.c 2 _ rfl
            go_wp2_with (refine wpPr g1.out (.tmp 3) rfl ?_)
            refine (hadd.out _ (hN.out.below hb.out)).mono ?_
            rintro e wn ⟨N1, d1, rfl, hm1, hbn, _⟩
            have hm1 := Lib.hid hm1
            have g1 := Lib.hid (g1.out.below hbn)
            have g2 := Lib.hid (g2.out.below hbn)
            have g3 := Lib.hid (g3.out.below hbn)
            have hb := Lib.hid (below_step hb.out hbn)
            clear hbn c0 c1 c2 a0 a1 a2
            have c0 := g2.out.c 0 _ rfl
            have c1 := g2.out.c 1 _ rfl
            have c2 := g2.out.c 2 _ rfl
            have a0 := g3.out.c 0 _ rfl
            have a1 := g3.out.c 1 _ rfl
            have a2 := g3.out.c 2 _ rfl
            have hN7 := Lib.hid (BoxAt.new wn #[.string ⟨#[]⟩, .int .i64 0, .slice none 0 0] 29)
            go_wp2_with (first | ((refine wpList_store_box rfl 29 (.tmp 7) (.tmp 48) rfl (wn.heap.size) _ [.string m.name, .int .i64 m.opened, .slice N1 m.acts.length d1] (by rfl) (by rfl) hN7.out rfl ntSize (by kernel_rfl) ?_; intro w5 h5 hg5); have hbn5 := below_of_grownB (below_alloc wn _) hg5 (Nat.le_refl _); have g1 := Lib.hid (g1.out.below hbn5); have g2 := Lib.hid (g2.out.below hbn5); have g3 := Lib.hid (g3.out.below hbn5); have hb := Lib.hid (below_step hb.out hbn5); have hm1 := Lib.hid (hm1.out.below hbn5); have g7 := Lib.hid h5; clear hbn5 hg5 hN7 c0 c1 c2 a0 a1 a2; have c0 := g2.out.c 0 _ rfl; have c1 := g2.out.c 1 _ rfl; have c2 := g2.out.c 2 _ rfl; have a0 := g3.out.c 0 _ rfl; have a1 := g3.out.c 1 _ rfl; have a2 := g3.out.c 2 _ rfl; have m0 := g7.out.c 0 _ rfl; have m1 := g7.out.c 1 _ rfl; have m2 := g7.out.c 2 _ rfl) | (refine wpPr g1.out (.tmp 3) rfl ?_))
            refine (DeadlineAt_any A c p N d n a.day _ (hN.out.below hb.out)).mono ?_
            rintro e wk ⟨he, hbn⟩
            rw [hx.out] at he
            subst he
            have g7 := Lib.hid (g7.out.below hbn)
            have hm1 := Lib.hid (hm1.out.below hbn)
            clear m0 m1 m2
            have g1 := Lib.hid (g1.out.below hbn)
            have g2 := Lib.hid (g2.out.below hbn)
            have g3 := Lib.hid (g3.out.below hbn)
            have hb := Lib.hid (below_step hb.out hbn)
            clear hbn c0 c1 c2 a0 a1 a2
            have c0 := g2.out.c 0 _ rfl
            have c1 := g2.out.c 1 _ rfl
            have c2 := g2.out.c 2 _ rfl
            have a0 := g3.out.c 0 _ rfl
            have a1 := g3.out.c 1 _ rfl
            have a2 := g3.out.c 2 _ rfl
            have m0 := g7.out.c 0 _ rfl; have m1 := g7.out.c 1 _ rfl; have m2 := g7.out.c 2 _ rfl
            go_wp2_with (refine wpPr g1.out (.tmp 3) rfl ?_)
            refine (DeadlineAt_any A c p N1 d1 m a.day _ ⟨(hN.out.below hb.out).hols, (hN.out.below hb.out).tab, hm1.out, hnm2⟩).mono ?_
            rintro e wk ⟨he, hbn⟩
            rw [hy.out] at he
            subst he
            have g7 := Lib.hid (g7.out.below hbn)
            have hm1 := Lib.hid (hm1.out.below hbn)
            clear m0 m1 m2
            have g1 := Lib.hid (g1.out.below hbn)
            have g2 := Lib.hid (g2.out.below hbn)
            have g3 := Lib.hid (g3.out.below hbn)
            have hb := Lib.hid (below_step hb.out hbn)
            clear hbn c0 c1 c2 a0 a1 a2
            have c0 := g2.out.c 0 _ rfl
            have c1 := g2.out.c 1 _ rfl
            have c2 := g2.out.c 2 _ rfl
            have a0 := g3.out.c 0 _ rfl
            have a1 := g3.out.c 1 _ rfl
            have a2 := g3.out.c 2 _ rfl
            have m0 := g7.out.c 0 _ rfl; have m1 := g7.out.c 1 _ rfl; have m2 := g7.out.c 2 _ rfl
            have z11 := g1.out.c 11 _ rfl
            go_wp2_with fail
            refine (IsWorking_any A c p.hols y _ (hN.out.below hb.out).hols (hN.out.below hb.out).tab).mono ?_
            rintro e wk ⟨rfl, hbn⟩
            rw [hwE.out, hwB.out]
            clear z11
            have g7 := Lib.hid (g7.out.below hbn)
            have hm1 := Lib.hid (hm1.out.below hbn)
            clear m0 m1 m2
            have g1 := Lib.hid (g1.out.below hbn)
            have g2 := Lib.hid (g2.out.below hbn)
            have g3 := Lib.hid (g3.out.below hbn)
            have hb := Lib.hid (below_step hb.out hbn)
            clear hbn c0 c1 c2 a0 a1 a2
            have c0 := g2.out.c 0 _ rfl
            have c1 := g2.out.c 1 _ rfl
            have c2 := g2.out.c 2 _ rfl
            have a0 := g3.out.c 0 _ rfl
            have a1 := g3.out.c 1 _ rfl
            have a2 := g3.out.c 2 _ rfl
            have m0 := g7.out.c 0 _ rfl; have m1 := g7.out.c 1 _ rfl; have m2 := g7.out.c 2 _ rfl
            go_wp2_with fail
            go_ret
            exact ⟨by first | rfl | done, hb.out⟩
          · have hadd := Lib.hid (fun w1 h => Add_no A c p N d n a w1 h hE)
            have hE1 : (Cal.addE p n a != 0) = true := by simpa using hE
            generalize Cal.addE p n a = E at *
            clear hC hE hk
            obtain ⟨g1, g2, g3, hb⟩ := start3n w A c p N d n a
            have c0 := g2.out.c 0 _ rfl
            have c1 := g2.out.c 1 _ rfl
            have c2 := g2.out.c 2 _ rfl
            have a0 := g3.out.c 0 _ rfl
            have a1 := g3.out.c 1 _ rfl
            have a2 := g3.out.c 2 _ rfl
            go_enter Tryz.func10, Tryz.ntmps10
            go_wp2_with fail
            refine (nawake_any _ (hN.out.tab.below hb.out)).mono ?_
            rintro e wn ⟨rfl, hbn⟩
            have g1 := Lib.hid (g1.out.below hbn)
            have g2 := Lib.hid (g2.out.below hbn)
            have g3 := Lib.hid (g3.out.below hbn)
            have hb := Lib.hid (below_step hb.out hbn)
            clear hbn c0 c1 c2 a0 a1 a2
            have c0 := g2.out.c 0 _ rfl
            have c1 := g2.out.c 1 _ rfl
            have c2 := g2.out.c 2 _ rfl
            have a0 := g3.out.c 0 _ rfl
            have a1 := g3.out.c 1 _ rfl
            have a2 := g3.out.c 2 _ rfl
            go_wp2_with (refine wpPr g1.out (.tmp 3) rfl ?_)
            refine (Modest_any A c p _ (hN.out.hols.below hb.out)).mono ?_
            rintro e wn ⟨⟨b, rfl⟩, hbn⟩
            have g1 := Lib.hid (g1.out.below hbn)
            have g2 := Lib.hid (g2.out.below hbn)
            have g3 := Lib.hid (g3.out.below hbn)
            have hb := Lib.hid (below_step hb.out hbn)
            clear hbn c0 c1 c2 a0 a1 a2
            have c0 := g2.out.c 0 _ rfl
            have c1 := g2.out.c 1 _ rfl
            have c2 := g2.out.c 2 _ rfl
            have a0 := g3.out.c 0 _ rfl
            have a1 := g3.out.c 1 _ rfl
            have a2 := g3.out.c 2 _ rfl
            cases b
            · go_wp2_with fail
              go_ret
              exact ⟨rfl, hb.out⟩
            have z0 := g1.out.c 0 _ rfl
            have z1 := g1.out.c 1 _ rfl
            have z2 := g1.out.c 2 _ rfl
            have z3 := g1.out.c 3 _ rfl
            have z4 := g1.out.c 4 _ rfl
            have z5 := g1.out.c 5 _ rfl
            have z6 := g1.out.c 6 _ rfl
            have z7 := g1.out.c 7 _ rfl
            have z8 := g1.out.c 8 _ rfl
            have z9 := g1.out.c 9 _ rfl
            have z10 := g1.out.c 10 _ rfl
            have z11 := g1.out.c 11 _ rfl
            go_wp2_with fail
            refine (both_any A c p N d n _ (hN.out.below hb.out)).mono ?_
            rintro e wn ⟨rfl, hbn⟩
            rw [hbo.out]
            clear z0 z1 z2 z3 z4 z5 z6 z7 z8 z9 z10 z11
            have g1 := Lib.hid (g1.out.below hbn)
            have g2 := Lib.hid (g2.out.below hbn)
            have g3 := Lib.hid (g3.out.below hbn)
            have hb := Lib.hid (below_step hb.out hbn)
            clear hbn c0 c1 c2 a0 a1 a2
            have c0 := g2.out.c 0 _ rfl
            have c1 := g2.out.c 1 _ rfl
            have c2 := g2.out.c 2 _ rfl
            have a0 := g3.out.c 0 _ rfl
            have a1 := g3.out.c 1 _ rfl
            have a2 := g3.out.c 2 _ rfl
            go_wp2_with (refine wpPr g1.out (.tmp 3) rfl ?_)
            refine (hadd.out _ (hN.out.below hb.out)).mono ?_
            rintro e wn ⟨rfl, hbn⟩
            have g1 := Lib.hid (g1.out.below hbn)
            have g2 := Lib.hid (g2.out.below hbn)
            have g3 := Lib.hid (g3.out.below hbn)
            have hb := Lib.hid (below_step hb.out hbn)
            clear hbn c0 c1 c2 a0 a1 a2
            have c0 := g2.out.c 0 _ rfl
            have c1 := g2.out.c 1 _ rfl
            have c2 := g2.out.c 2 _ rfl
            have a0 := g3.out.c 0 _ rfl
            have a1 := g3.out.c 1 _ rfl
            have a2 := g3.out.c 2 _ rfl
            have hN7 := Lib.hid (BoxAt.new wn #[.string ⟨#[]⟩, .int .i64 0, .slice none 0 0] 29)
            have hm1 : Hid (Acts wn none []) := Acts.nil _
            go_wp2_with ((refine wpList_store_box rfl 29 (.tmp 7) (.tmp 48) rfl (wn.heap.size) _ [.string ⟨#[]⟩, .int .i64 0, .slice none 0 0] (by rfl) (by rfl) hN7.out rfl ntSize (by kernel_rfl) ?_; intro w5 h5 hg5); have hbn5 := below_of_grownB (below_alloc wn _) hg5 (Nat.le_refl _); have g1 := Lib.hid (g1.out.below hbn5); have g2 := Lib.hid (g2.out.below hbn5); have g3 := Lib.hid (g3.out.below hbn5); have hb := Lib.hid (below_step hb.out hbn5); have hm1 := Lib.hid (hm1.out.below hbn5); have g7 := Lib.hid h5; clear hbn5 hg5 hN7 c0 c1 c2 a0 a1 a2; have c0 := g2.out.c 0 _ rfl; have c1 := g2.out.c 1 _ rfl; have c2 := g2.out.c 2 _ rfl; have a0 := g3.out.c 0 _ rfl; have a1 := g3.out.c 1 _ rfl; have a2 := g3.out.c 2 _ rfl; have m0 := g7.out.c 0 _ rfl; have m1 := g7.out.c 1 _ rfl; have m2 := g7.out.c 2 _ rfl)
            go_ret
            exact ⟨by first | rfl | done, hb.out⟩
        · have hkb : (a.kind != 6) = true := by simpa using hk
          clear hC hk
          obtain ⟨g1, g2, g3, hb⟩ := start3n w A c p N d n a
          have c0 := g2.out.c 0 _ rfl
          have c1 := g2.out.c 1 _ rfl
          have c2 := g2.out.c 2 _ rfl
          have a0 := g3.out.c 0 _ rfl
          have a1 := g3.out.c 1 _ rfl
          have a2 := g3.out.c 2 _ rfl
          go_enter Tryz.func10, Tryz.ntmps10
          go_wp2_with fail
          refine (nawake_any _ (hN.out.tab.below hb.out)).mono ?_
          rintro e wn ⟨rfl, hbn⟩
          have g1 := Lib.hid (g1.out.below hbn)
          have g2 := Lib.hid (g2.out.below hbn)
          have g3 := Lib.hid (g3.out.below hbn)
          have hb := Lib.hid (below_step hb.out hbn)
          clear hbn c0 c1 c2 a0 a1 a2
          have c0 := g2.out.c 0 _ rfl
          have c1 := g2.out.c 1 _ rfl
          have c2 := g2.out.c 2 _ rfl
          have a0 := g3.out.c 0 _ rfl
          have a1 := g3.out.c 1 _ rfl
          have a2 := g3.out.c 2 _ rfl
          go_wp2_with (refine wpPr g1.out (.tmp 3) rfl ?_)
          refine (Modest_any A c p _ (hN.out.hols.below hb.out)).mono ?_
          rintro e wn ⟨⟨b, rfl⟩, hbn⟩
          have g1 := Lib.hid (g1.out.below hbn)
          have g2 := Lib.hid (g2.out.below hbn)
          have g3 := Lib.hid (g3.out.below hbn)
          have hb := Lib.hid (below_step hb.out hbn)
          clear hbn c0 c1 c2 a0 a1 a2
          have c0 := g2.out.c 0 _ rfl
          have c1 := g2.out.c 1 _ rfl
          have c2 := g2.out.c 2 _ rfl
          have a0 := g3.out.c 0 _ rfl
          have a1 := g3.out.c 1 _ rfl
          have a2 := g3.out.c 2 _ rfl
          cases b
          · go_wp2_with fail
            go_ret
            exact ⟨rfl, hb.out⟩
          have z0 := g1.out.c 0 _ rfl
          have z1 := g1.out.c 1 _ rfl
          have z2 := g1.out.c 2 _ rfl
          have z3 := g1.out.c 3 _ rfl
          have z4 := g1.out.c 4 _ rfl
          have z5 := g1.out.c 5 _ rfl
          have z6 := g1.out.c 6 _ rfl
          have z7 := g1.out.c 7 _ rfl
          have z8 := g1.out.c 8 _ rfl
          have z9 := g1.out.c 9 _ rfl
          have z10 := g1.out.c 10 _ rfl
          have z11 := g1.out.c 11 _ rfl
          go_wp2_with fail
          refine (both_any A c p N d n _ (hN.out.below hb.out)).mono ?_
          rintro e wn ⟨rfl, hbn⟩
          rw [hbo.out]
          clear z0 z1 z2 z3 z4 z5 z6 z7 z8 z9 z10 z11
          have g1 := Lib.hid (g1.out.below hbn)
          have g2 := Lib.hid (g2.out.below hbn)
          have g3 := Lib.hid (g3.out.below hbn)
          have hb := Lib.hid (below_step hb.out hbn)
          clear hbn c0 c1 c2 a0 a1 a2
          have c0 := g2.out.c 0 _ rfl
          have c1 := g2.out.c 1 _ rfl
          have c2 := g2.out.c 2 _ rfl
          have a0 := g3.out.c 0 _ rfl
          have a1 := g3.out.c 1 _ rfl
          have a2 := g3.out.c 2 _ rfl
          go_wp2_with fail
          go_ret
          exact ⟨by first | rfl | done, hb.out⟩
      · have hC1 : (C != 0) = true := by simpa using h0
        clear hC h0
        obtain ⟨g1, g2, g3, hb⟩ := start3n w A c p N d n a
        have c0 := g2.out.c 0 _ rfl
        have c1 := g2.out.c 1 _ rfl
        have c2 := g2.out.c 2 _ rfl
        have a0 := g3.out.c 0 _ rfl
        have a1 := g3.out.c 1 _ rfl
        have a2 := g3.out.c 2 _ rfl
        go_enter Tryz.func10, Tryz.ntmps10
        go_wp2_with fail
        refine (nawake_any _ (hN.out.tab.below hb.out)).mono ?_
        rintro e wn ⟨rfl, hbn⟩
        have g1 := Lib.hid (g1.out.below hbn)
        have g2 := Lib.hid (g2.out.below hbn)
        have g3 := Lib.hid (g3.out.below hbn)
        have hb := Lib.hid (below_step hb.out hbn)
        clear hbn c0 c1 c2 a0 a1 a2
        have c0 := g2.out.c 0 _ rfl
        have c1 := g2.out.c 1 _ rfl
        have c2 := g2.out.c 2 _ rfl
        have a0 := g3.out.c 0 _ rfl
        have a1 := g3.out.c 1 _ rfl
        have a2 := g3.out.c 2 _ rfl
        go_wp2_with (refine wpPr g1.out (.tmp 3) rfl ?_)
        refine (Modest_any A c p _ (hN.out.hols.below hb.out)).mono ?_
        rintro e wn ⟨⟨b, rfl⟩, hbn⟩
        have g1 := Lib.hid (g1.out.below hbn)
        have g2 := Lib.hid (g2.out.below hbn)
        have g3 := Lib.hid (g3.out.below hbn)
        have hb := Lib.hid (below_step hb.out hbn)
        clear hbn c0 c1 c2 a0 a1 a2
        have c0 := g2.out.c 0 _ rfl
        have c1 := g2.out.c 1 _ rfl
        have c2 := g2.out.c 2 _ rfl
        have a0 := g3.out.c 0 _ rfl
        have a1 := g3.out.c 1 _ rfl
        have a2 := g3.out.c 2 _ rfl
        cases b
        · go_wp2_with fail
          go_ret
          exact ⟨rfl, hb.out⟩
        have z0 := g1.out.c 0 _ rfl
        have z1 := g1.out.c 1 _ rfl
        have z2 := g1.out.c 2 _ rfl
        have z3 := g1.out.c 3 _ rfl
        have z4 := g1.out.c 4 _ rfl
        have z5 := g1.out.c 5 _ rfl
        have z6 := g1.out.c 6 _ rfl
        have z7 := g1.out.c 7 _ rfl
        have z8 := g1.out.c 8 _ rfl
        have z9 := g1.out.c 9 _ rfl
        have z10 := g1.out.c 10 _ rfl
        have z11 := g1.out.c 11 _ rfl
        go_wp2_with fail
        refine (both_any A c p N d n _ (hN.out.below hb.out)).mono ?_
        rintro e wn ⟨rfl, hbn⟩
        rw [hbo.out]
        clear z0 z1 z2 z3 z4 z5 z6 z7 z8 z9 z10 z11
        have g1 := Lib.hid (g1.out.below hbn)
        have g2 := Lib.hid (g2.out.below hbn)
        have g3 := Lib.hid (g3.out.below hbn)
        have hb := Lib.hid (below_step hb.out hbn)
        clear hbn c0 c1 c2 a0 a1 a2
        have c0 := g2.out.c 0 _ rfl
        have c1 := g2.out.c 1 _ rfl
        have c2 := g2.out.c 2 _ rfl
        have a0 := g3.out.c 0 _ rfl
        have a1 := g3.out.c 1 _ rfl
        have a2 := g3.out.c 2 _ rfl
        go_wp2_with fail
        go_ret
        exact ⟨by first | rfl | done, hb.out⟩
    · have hs' : 30 < n.name.size := by omega
      clear hC hbo hs
      obtain ⟨g1, g2, g3, hb⟩ := start3n w A c p N d n a
      have c0 := g2.out.c 0 _ rfl
      have c1 := g2.out.c 1 _ rfl
      have c2 := g2.out.c 2 _ rfl
      have a0 := g3.out.c 0 _ rfl
      have a1 := g3.out.c 1 _ rfl
      have a2 := g3.out.c 2 _ rfl
      go_enter Tryz.func10, Tryz.ntmps10
      go_wp2_with fail
      refine (nawake_any _ (hN.out.tab.below hb.out)).mono ?_
      rintro e wn ⟨rfl, hbn⟩
      have g1 := Lib.hid (g1.out.below hbn)
      have g2 := Lib.hid (g2.out.below hbn)
      have g3 := Lib.hid (g3.out.below hbn)
      have hb := Lib.hid (below_step hb.out hbn)
      clear hbn c0 c1 c2 a0 a1 a2
      have c0 := g2.out.c 0 _ rfl
      have c1 := g2.out.c 1 _ rfl
      have c2 := g2.out.c 2 _ rfl
      have a0 := g3.out.c 0 _ rfl
      have a1 := g3.out.c 1 _ rfl
      have a2 := g3.out.c 2 _ rfl
      go_wp2_with (refine wpPr g1.out (.tmp 3) rfl ?_)
      refine (Modest_any A c p _ (hN.out.hols.below hb.out)).mono ?_
      rintro e wn ⟨⟨b, rfl⟩, hbn⟩
      have g1 := Lib.hid (g1.out.below hbn)
      have g2 := Lib.hid (g2.out.below hbn)
      have g3 := Lib.hid (g3.out.below hbn)
      have hb := Lib.hid (below_step hb.out hbn)
      clear hbn c0 c1 c2 a0 a1 a2
      have c0 := g2.out.c 0 _ rfl
      have c1 := g2.out.c 1 _ rfl
      have c2 := g2.out.c 2 _ rfl
      have a0 := g3.out.c 0 _ rfl
      have a1 := g3.out.c 1 _ rfl
      have a2 := g3.out.c 2 _ rfl
      cases b
      · go_wp2_with fail
        go_ret
        exact ⟨rfl, hb.out⟩
      go_wp2_with fail
      go_ret
      exact ⟨by first | rfl | done, hb.out⟩
  · have hl' : 12 < n.acts.length := by omega
    clear hC hbo hl
    obtain ⟨g1, g2, g3, hb⟩ := start3n w A c p N d n a
    have c0 := g2.out.c 0 _ rfl
    have c1 := g2.out.c 1 _ rfl
    have c2 := g2.out.c 2 _ rfl
    have a0 := g3.out.c 0 _ rfl
    have a1 := g3.out.c 1 _ rfl
    have a2 := g3.out.c 2 _ rfl
    go_enter Tryz.func10, Tryz.ntmps10
    go_wp2_with fail
    refine (nawake_any _ (hN.out.tab.below hb.out)).mono ?_
    rintro e wn ⟨rfl, hbn⟩
    have g1 := Lib.hid (g1.out.below hbn)
    have g2 := Lib.hid (g2.out.below hbn)
    have g3 := Lib.hid (g3.out.below hbn)
    have hb := Lib.hid (below_step hb.out hbn)
    clear hbn c0 c1 c2 a0 a1 a2
    have c0 := g2.out.c 0 _ rfl
    have c1 := g2.out.c 1 _ rfl
    have c2 := g2.out.c 2 _ rfl
    have a0 := g3.out.c 0 _ rfl
    have a1 := g3.out.c 1 _ rfl
    have a2 := g3.out.c 2 _ rfl
    go_wp2_with (refine wpPr g1.out (.tmp 3) rfl ?_)
    refine (Modest_any A c p _ (hN.out.hols.below hb.out)).mono ?_
    rintro e wn ⟨⟨b, rfl⟩, hbn⟩
    have g1 := Lib.hid (g1.out.below hbn)
    have g2 := Lib.hid (g2.out.below hbn)
    have g3 := Lib.hid (g3.out.below hbn)
    have hb := Lib.hid (below_step hb.out hbn)
    clear hbn c0 c1 c2 a0 a1 a2
    have c0 := g2.out.c 0 _ rfl
    have c1 := g2.out.c 1 _ rfl
    have c2 := g2.out.c 2 _ rfl
    have a0 := g3.out.c 0 _ rfl
    have a1 := g3.out.c 1 _ rfl
    have a2 := g3.out.c 2 _ rfl
    cases b
    · go_wp2_with fail
      go_ret
      exact ⟨rfl, hb.out⟩
    go_wp2_with fail
    go_ret
    exact ⟨by first | rfl | done, hb.out⟩
end Go.Proofs.YtconnjkkgaapbaaGreatDoor
