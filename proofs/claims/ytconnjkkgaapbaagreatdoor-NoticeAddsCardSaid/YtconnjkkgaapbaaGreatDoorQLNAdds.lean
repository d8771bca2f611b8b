/- The walk of a statement. -/
import Derived.Test.YtconnjkkgaapbaaGreatDoorC33
import Derived.Test.YtconnjkkgaapbaaGreatDoorC27
namespace Go.Proofs.YtconnjkkgaapbaaGreatDoor
open Go Go.RowKit
def zeroNote : Note := ⟨⟨#[]⟩, 0, []⟩
theorem Same_zero (w : World) : Calls Tryz.prog 38 #[.agg #[.string ⟨#[]⟩, .int .i64 0, .slice none 0 0], .agg #[.string ⟨#[]⟩, .int .i64 0, .slice none 0 0]] w fun e w' => e = .returned (.bool true) ∧ Below w.heap.size w w' :=
  Same_any none none 0 0 zeroNote w (Acts.nil w) (Acts.nil w)
set_option maxRecDepth 100000 in
set_option maxHeartbeats 8000000 in
theorem NoticeAdds_any (A : Option Addr) (c : Nat) (p : Proc) (N : Option Addr) (d : Nat) (n : Note) (a : NAct) (w : World) (hN : NB w A p N n) :
    Calls Tryz.prog 8 #[.agg #[.int .i64 p.runs.m, .int .i64 p.runs.d, .bool p.runs.k, .int .i64 p.obj.m, .int .i64 p.obj.d, .bool p.obj.k, .int .i64 p.wait.m, .int .i64 p.wait.d, .bool p.wait.k, .int .i64 p.exts, .int .i64 p.longest, .slice A p.hols.length c], .agg #[.string n.name, .int .i64 n.opened, .slice N n.acts.length d], .agg #[.int .i64 a.day, .int .i64 a.kind, .int .i64 a.days]] w fun e w' => e = .returned (.bool true) ∧ Below w.heap.size w w' := by
  have hN := Lib.hid hN
  obtain ⟨C, hC⟩ : ∃ C, (Cal.checkS p n).2 = C := ⟨_, rfl⟩
  have hbo := Lib.hid hC
  by_cases h0 : C = 0
  · subst h0
    by_cases hE : Cal.addE p n a = 0
    · have hadd := Lib.hid (fun w1 h => Add_more A c p N d n a w1 h hE)
      have haddR := fun w1 h => AddR_ok A c p N d n a w1 h hC hE
      have haddR := Lib.hid haddR
      have hck := Lib.hid (Cal.more_ok hE).1
      have hnm2 : (n.more a).name.size ≤ maxLen := hN.out.name
      clear hC hE
      generalize n.more a = m at *
      obtain ⟨g1, g2, g3, hb⟩ := start3n w A c p N d n a
      have c0 := g2.out.c 0 _ rfl
      have c1 := g2.out.c 1 _ rfl
      have c2 := g2.out.c 2 _ rfl
      have a0 := g3.out.c 0 _ rfl
      have a1 := g3.out.c 1 _ rfl
      have a2 := g3.out.c 2 _ rfl
      go_enter Tryz.func8, Tryz.ntmps8
      go_wp2_with fail
      refine (nawake_any _ (hN.out.tab.below hb.out)).mono ?_
      rintro e wn ⟨rfl, hbn⟩
      have g1 := Lib.hid (g1.out.below hbn)
      have g2 := Lib.hid (g2.out.below hbn)
      have g3 := Lib.hid (g3.out.below hbn)
      have hb := Lib.hid (below_step hb.out hbn)
      clear hbn c0 c1 c2 a0 a1 a2
      have c0 := g2.out.c 0 _ rfl
      have c1 := g2.out.c 1 _ rfl
      have c2 := g2.out.c 2 _ rfl
      have a0 := g3.out.c 0 _ rfl
      have a1 := g3.out.c 1 _ rfl
      have a2 := g3.out.c 2 _ rfl
      go_wp2_with (refine wpPrG g1.out (.tmp 3) rfl ?_)
      refine (Modest_any A c p _ (hN.out.hols.below hb.out)).mono ?_
      rintro e wn ⟨⟨b, rfl⟩, hbn⟩
      have g1 := Lib.hid (g1.out.below hbn)
      have g2 := Lib.hid (g2.out.below hbn)
      have g3 := Lib.hid (g3.out.below hbn)
      have hb := Lib.hid (below_step hb.out hbn)
      clear hbn c0 c1 c2 a0 a1 a2
      have c0 := g2.out.c 0 _ rfl
      have c1 := g2.out.c 1 _ rfl
      have c2 := g2.out.c 2 _ rfl
      have a0 := g3.out.c 0 _ rfl
      have a1 := g3.out.c 1 _ rfl
      have a2 := g3.out.c 2 _ rfl
      cases b
      · go_wp2_with fail
        go_ret
        exact ⟨rfl, hb.out⟩
      go_wp2_with fail
      refine (Brief_any N d n _ hN.out.name hN.out.acts.size).mono ?_
      rintro e wn ⟨⟨b, rfl⟩, hbn⟩
      have g1 := Lib.hid (g1.out.below hbn)
      have g2 := Lib.hid (g2.out.below hbn)
      have g3 := Lib.hid (g3.out.below hbn)
      have hb := Lib.hid (below_step hb.out hbn)
      clear hbn c0 c1 c2 a0 a1 a2
      have c0 := g2.out.c 0 _ rfl
      have c1 := g2.out.c 1 _ rfl
      have c2 := g2.out.c 2 _ rfl
      have a0 := g3.out.c 0 _ rfl
      have a1 := g3.out.c 1 _ rfl
      have a2 := g3.out.c 2 _ rfl
      cases b
      · go_wp2_with fail
        go_ret
        exact ⟨rfl, hb.out⟩
      go_wp2_with (refine wpPrG g1.out (.tmp 3) rfl ?_)
      refine (hadd.out _ (hN.out.below hb.out)).mono ?_
      rintro e wn ⟨N1, d1, rfl, hm1, hbn, _⟩
      have hm1 := Lib.hid hm1
      have g1 := Lib.hid (g1.out.below hbn)
      have g2 := Lib.hid (g2.out.below hbn)
      have g3 := Lib.hid (g3.out.below hbn)
      have hb := Lib.hid (below_step hb.out hbn)
      clear hbn c0 c1 c2 a0 a1 a2
      have c0 := g2.out.c 0 _ rfl
      have c1 := g2.out.c 1 _ rfl
      have c2 := g2.out.c 2 _ rfl
      have a0 := g3.out.c 0 _ rfl
      have a1 := g3.out.c 1 _ rfl
      have a2 := g3.out.c 2 _ rfl
      have hN7 := Lib.hid (BoxAt.new wn #[.string ⟨#[]⟩, .int .i64 0, .slice none 0 0] 29)
      go_wp2_with (first | ((refine wpList_store_box rfl 29 (.tmp 7) (.tmp 29) rfl (wn.heap.size) _ [.string m.name, .int .i64 m.opened, .slice N1 m.acts.length d1] (by rfl) (by rfl) hN7.out rfl ntSize (by kernel_rfl) ?_; intro w5 h5 hg5); have hbn5 := below_of_grownB (below_alloc wn _) hg5 (Nat.le_refl _); have g1 := Lib.hid (g1.out.below hbn5); have g2 := Lib.hid (g2.out.below hbn5); have g3 := Lib.hid (g3.out.below hbn5); have hb := Lib.hid (below_step hb.out hbn5); have hm1 := Lib.hid (hm1.out.below hbn5); have g7 := Lib.hid h5; clear hbn5 hg5 hN7 c0 c1 c2 a0 a1 a2; have c0 := g2.out.c 0 _ rfl; have c1 := g2.out.c 1 _ rfl; have c2 := g2.out.c 2 _ rfl; have a0 := g3.out.c 0 _ rfl; have a1 := g3.out.c 1 _ rfl; have a2 := g3.out.c 2 _ rfl; have m0 := g7.out.c 0 _ rfl; have m1 := g7.out.c 1 _ rfl; have m2 := g7.out.c 2 _ rfl) | (refine wpPrG g1.out (.tmp 3) rfl ?_))
      refine (both_any A c p N d n _ (hN.out.below hb.out)).mono ?_
      rintro e wk ⟨rfl, hbn⟩
      rw [hbo.out]
      have g7 := Lib.hid (g7.out.below hbn)
      have hm1 := Lib.hid (hm1.out.below hbn)
      clear m0 m1 m2
      have g1 := Lib.hid (g1.out.below hbn)
      have g2 := Lib.hid (g2.out.below hbn)
      have g3 := Lib.hid (g3.out.below hbn)
      have hb := Lib.hid (below_step hb.out hbn)
      clear hbn c0 c1 c2 a0 a1 a2
      have c0 := g2.out.c 0 _ rfl
      have c1 := g2.out.c 1 _ rfl
      have c2 := g2.out.c 2 _ rfl
      have a0 := g3.out.c 0 _ rfl
      have a1 := g3.out.c 1 _ rfl
      have a2 := g3.out.c 2 _ rfl
      have m0 := g7.out.c 0 _ rfl; have m1 := g7.out.c 1 _ rfl; have m2 := g7.out.c 2 _ rfl
      go_wp2_with (refine wpPrG g1.out (.tmp 3) rfl ?_)
      refine (haddR.out _ (hN.out.below hb.out)).mono ?_
      rintro e wk ⟨N2, d2, rfl, hm2, hbn⟩
      have hm2 := Lib.hid hm2
      have g7 := Lib.hid (g7.out.below hbn)
      have hm1 := Lib.hid (hm1.out.below hbn)
      clear m0 m1 m2
      have g1 := Lib.hid (g1.out.below hbn)
      have g2 := Lib.hid (g2.out.below hbn)
      have g3 := Lib.hid (g3.out.below hbn)
      have hb := Lib.hid (below_step hb.out hbn)
      clear hbn c0 c1 c2 a0 a1 a2
      have c0 := g2.out.c 0 _ rfl
      have c1 := g2.out.c 1 _ rfl
      have c2 := g2.out.c 2 _ rfl
      have a0 := g3.out.c 0 _ rfl
      have a1 := g3.out.c 1 _ rfl
      have a2 := g3.out.c 2 _ rfl
      have m0 := g7.out.c 0 _ rfl; have m1 := g7.out.c 1 _ rfl; have m2 := g7.out.c 2 _ rfl
      have hN10 := Lib.hid (BoxAt.new wk #[.string ⟨#[]⟩, .int .i64 0, .slice none 0 0] 29)
      go_wp2_with ((refine wpList_store_box rfl 29 (.tmp 10) (.tmp 49) rfl (wk.heap.size) _ [.string m.name, .int .i64 m.opened, .slice N2 m.acts.length d2] (by rfl) (by rfl) hN10.out rfl ntSize (by kernel_rfl) ?_; intro w6 h6 hg6); have hbn6 := below_of_grownB (below_alloc wk _) hg6 (Nat.le_refl _); have g1 := Lib.hid (g1.out.below hbn6); have g7 := Lib.hid (g7.out.below hbn6); have hb := Lib.hid (below_step hb.out hbn6); have hm1 := Lib.hid (hm1.out.below hbn6); have hm2 := Lib.hid (hm2.out.below hbn6); have g10 := Lib.hid h6; clear hbn6 hg6 hN10 c0 c1 c2 a0 a1 a2 m0 m1 m2; have m0 := g7.out.c 0 _ rfl; have m1 := g7.out.c 1 _ rfl; have m2 := g7.out.c 2 _ rfl; have k0 := g10.out.c 0 _ rfl; have k1 := g10.out.c 1 _ rfl; have k2 := g10.out.c 2 _ rfl)
      refine (Same_any N1 N2 d1 d2 m _ hm1.out hm2.out).mono ?_
      rintro e wq ⟨rfl, hbn⟩
      have g1 := Lib.hid (g1.out.below hbn)
      have g7 := Lib.hid (g7.out.below hbn)
      have hm1 := Lib.hid (hm1.out.below hbn)
      have hb := Lib.hid (below_step hb.out hbn)
      clear hbn m0 m1 m2 k0 k1 k2
      have m0 := g7.out.c 0 _ rfl
      have m1 := g7.out.c 1 _ rfl
      have m2 := g7.out.c 2 _ rfl
      go_wp2_with (refine wpPrG g1.out (.tmp 3) rfl ?_)
      refine (CheckNotice_any A c p N1 d1 m _ ⟨(hN.out.below hb.out).hols, (hN.out.below hb.out).tab, hm1.out, hnm2⟩).mono ?_
      rintro e wr ⟨he, hbn⟩
      rw [hck.out] at he
      subst he
      have hb := Lib.hid (below_step hb.out hbn)
      clear hbn m0 m1 m2
      go_wp2_with fail
      go_ret
      exact ⟨by first | rfl | done, hb.out⟩
    · have hadd := fun w1 h => Add_no A c p N d n a w1 h hE
      have haddR := fun w1 h => AddR_no A c p N d n a w1 h hC hE
      have hE1 : (Cal.addE p n a != 0) = true := by simpa using hE
      have hEE : (Cal.addE p n a != Cal.addE p n a) = false := by simp
      generalize Cal.addE p n a = E at *
      have hadd := Lib.hid hadd
      have haddR := Lib.hid haddR
      clear hC hE
      obtain ⟨g1, g2, g3, hb⟩ := start3n w A c p N d n a
      have c0 := g2.out.c 0 _ rfl
      have c1 := g2.out.c 1 _ rfl
      have c2 := g2.out.c 2 _ rfl
      have a0 := g3.out.c 0 _ rfl
      have a1 := g3.out.c 1 _ rfl
      have a2 := g3.out.c 2 _ rfl
      go_enter Tryz.func8, Tryz.ntmps8
      go_wp2_with fail
      refine (nawake_any _ (hN.out.tab.below hb.out)).mono ?_
      rintro e wn ⟨rfl, hbn⟩
      have g1 := Lib.hid (g1.out.below hbn)
      have g2 := Lib.hid (g2.out.below hbn)
      have g3 := Lib.hid (g3.out.below hbn)
      have hb := Lib.hid (below_step hb.out hbn)
      clear hbn c0 c1 c2 a0 a1 a2
      have c0 := g2.out.c 0 _ rfl
      have c1 := g2.out.c 1 _ rfl
      have c2 := g2.out.c 2 _ rfl
      have a0 := g3.out.c 0 _ rfl
      have a1 := g3.out.c 1 _ rfl
      have a2 := g3.out.c 2 _ rfl
      go_wp2_with (refine wpPrG g1.out (.tmp 3) rfl ?_)
      refine (Modest_any A c p _ (hN.out.hols.below hb.out)).mono ?_
      rintro e wn ⟨⟨b, rfl⟩, hbn⟩
      have g1 := Lib.hid (g1.out.below hbn)
      have g2 := Lib.hid (g2.out.below hbn)
      have g3 := Lib.hid (g3.out.below hbn)
      have hb := Lib.hid (below_step hb.out hbn)
      clear hbn c0 c1 c2 a0 a1 a2
      have c0 := g2.out.c 0 _ rfl
      have c1 := g2.out.c 1 _ rfl
      have c2 := g2.out.c 2 _ rfl
      have a0 := g3.out.c 0 _ rfl
      have a1 := g3.out.c 1 _ rfl
      have a2 := g3.out.c 2 _ rfl
      cases b
      · go_wp2_with fail
        go_ret
        exact ⟨rfl, hb.out⟩
      go_wp2_with fail
      refine (Brief_any N d n _ hN.out.name hN.out.acts.size).mono ?_
      rintro e wn ⟨⟨b, rfl⟩, hbn⟩
      have g1 := Lib.hid (g1.out.below hbn)
      have g2 := Lib.hid (g2.out.below hbn)
      have g3 := Lib.hid (g3.out.below hbn)
      have hb := Lib.hid (below_step hb.out hbn)
      clear hbn c0 c1 c2 a0 a1 a2
      have c0 := g2.out.c 0 _ rfl
      have c1 := g2.out.c 1 _ rfl
      have c2 := g2.out.c 2 _ rfl
      have a0 := g3.out.c 0 _ rfl
      have a1 := g3.out.c 1 _ rfl
      have a2 := g3.out.c 2 _ rfl
      cases b
      · go_wp2_with fail
        go_ret
        exact ⟨rfl, hb.out⟩
      go_wp2_with (refine wpPrG g1.out (.tmp 3) rfl ?_)
      refine (hadd.out _ (hN.out.below hb.out)).mono ?_
      rintro e wn ⟨rfl, hbn⟩
      have g1 := Lib.hid (g1.out.below hbn)
      have g2 := Lib.hid (g2.out.below hbn)
      have g3 := Lib.hid (g3.out.below hbn)
      have hb := Lib.hid (below_step hb.out hbn)
      clear hbn c0 c1 c2 a0 a1 a2
      have c0 := g2.out.c 0 _ rfl
      have c1 := g2.out.c 1 _ rfl
      have c2 := g2.out.c 2 _ rfl
      have a0 := g3.out.c 0 _ rfl
      have a1 := g3.out.c 1 _ rfl
      have a2 := g3.out.c 2 _ rfl
      have hN7 := Lib.hid (BoxAt.new wn #[.string ⟨#[]⟩, .int .i64 0, .slice none 0 0] 29)
      have hm1 : Hid (Acts wn none []) := Acts.nil _
      go_wp2_with (first | ((refine wpList_store_box rfl 29 (.tmp 7) (.tmp 29) rfl (wn.heap.size) _ [.string ⟨#[]⟩, .int .i64 0, .slice none 0 0] (by rfl) (by rfl) hN7.out rfl ntSize (by kernel_rfl) ?_; intro w5 h5 hg5); have hbn5 := below_of_grownB (below_alloc wn _) hg5 (Nat.le_refl _); have g1 := Lib.hid (g1.out.below hbn5); have g2 := Lib.hid (g2.out.below hbn5); have g3 := Lib.hid (g3.out.below hbn5); have hb := Lib.hid (below_step hb.out hbn5); have hm1 := Lib.hid (hm1.out.below hbn5); have g7 := Lib.hid h5; clear hbn5 hg5 hN7 c0 c1 c2 a0 a1 a2; have c0 := g2.out.c 0 _ rfl; have c1 := g2.out.c 1 _ rfl; have c2 := g2.out.c 2 _ rfl; have a0 := g3.out.c 0 _ rfl; have a1 := g3.out.c 1 _ rfl; have a2 := g3.out.c 2 _ rfl; have m0 := g7.out.c 0 _ rfl; have m1 := g7.out.c 1 _ rfl; have m2 := g7.out.c 2 _ rfl) | (refine wpPrG g1.out (.tmp 3) rfl ?_))
      refine (both_any A c p N d n _ (hN.out.below hb.out)).mono ?_
      rintro e wk ⟨rfl, hbn⟩
      rw [hbo.out]
      have g7 := Lib.hid (g7.out.below hbn)
      have hm1 := Lib.hid (hm1.out.below hbn)
      clear m0 m1 m2
      have g1 := Lib.hid (g1.out.below hbn)
      have g2 := Lib.hid (g2.out.below hbn)
      have g3 := Lib.hid (g3.out.below hbn)
      have hb := Lib.hid (below_step hb.out hbn)
      clear hbn c0 c1 c2 a0 a1 a2
      have c0 := g2.out.c 0 _ rfl
      have c1 := g2.out.c 1 _ rfl
      have c2 := g2.out.c 2 _ rfl
      have a0 := g3.out.c 0 _ rfl
      have a1 := g3.out.c 1 _ rfl
      have a2 := g3.out.c 2 _ rfl
      have m0 := g7.out.c 0 _ rfl; have m1 := g7.out.c 1 _ rfl; have m2 := g7.out.c 2 _ rfl
      go_wp2_with (refine wpPrG g1.out (.tmp 3) rfl ?_)
      refine (haddR.out _ (hN.out.below hb.out)).mono ?_
      rintro e wk ⟨rfl, hbn⟩
      have g7 := Lib.hid (g7.out.below hbn)
      have hm1 := Lib.hid (hm1.out.below hbn)
      clear m0 m1 m2
      have g1 := Lib.hid (g1.out.below hbn)
      have g2 := Lib.hid (g2.out.below hbn)
      have g3 := Lib.hid (g3.out.below hbn)
      have hb := Lib.hid (below_step hb.out hbn)
      clear hbn c0 c1 c2 a0 a1 a2
      have c0 := g2.out.c 0 _ rfl
      have c1 := g2.out.c 1 _ rfl
      have c2 := g2.out.c 2 _ rfl
      have a0 := g3.out.c 0 _ rfl
      have a1 := g3.out.c 1 _ rfl
      have a2 := g3.out.c 2 _ rfl
      have m0 := g7.out.c 0 _ rfl; have m1 := g7.out.c 1 _ rfl; have m2 := g7.out.c 2 _ rfl
      have hN10 := Lib.hid (BoxAt.new wk #[.string ⟨#[]⟩, .int .i64 0, .slice none 0 0] 29)
      have hm2 : Hid (Acts wk none []) := Acts.nil _
      go_wp2_with ((refine wpList_store_box rfl 29 (.tmp 10) (.tmp 49) rfl (wk.heap.size) _ [.string ⟨#[]⟩, .int .i64 0, .slice none 0 0] (by rfl) (by rfl) hN10.out rfl ntSize (by kernel_rfl) ?_; intro w6 h6 hg6); have hbn6 := below_of_grownB (below_alloc wk _) hg6 (Nat.le_refl _); have g1 := Lib.hid (g1.out.below hbn6); have g7 := Lib.hid (g7.out.below hbn6); have hb := Lib.hid (below_step hb.out hbn6); have hm1 := Lib.hid (hm1.out.below hbn6); have hm2 := Lib.hid (hm2.out.below hbn6); have g10 := Lib.hid h6; clear hbn6 hg6 hN10 c0 c1 c2 a0 a1 a2 m0 m1 m2; have m0 := g7.out.c 0 _ rfl; have m1 := g7.out.c 1 _ rfl; have m2 := g7.out.c 2 _ rfl; have k0 := g10.out.c 0 _ rfl; have k1 := g10.out.c 1 _ rfl; have k2 := g10.out.c 2 _ rfl)
      refine (Same_zero _).mono ?_
      rintro e wq ⟨rfl, hbn⟩
      have hb := Lib.hid (below_step hb.out hbn)
      clear hbn m0 m1 m2 k0 k1 k2
      go_wp2_with fail
      go_ret
      exact ⟨by first | rfl | done, hb.out⟩
  · have hE : Cal.addE p n a = C := by unfold Cal.addE; rw [if_neg (by rw [hC]; exact h0), hC]
    have hadd := fun w1 h => Add_no A c p N d n a w1 h (by rw [hE]; exact h0)
    rw [hE] at hadd
    have hadd := Lib.hid hadd
    have hC1 : (C != 0) = true := by simpa using h0
    have hCC : (C == C) = true := by simp
    clear hC h0 hE
    obtain ⟨g1, g2, g3, hb⟩ := start3n w A c p N d n a
    have c0 := g2.out.c 0 _ rfl
    have c1 := g2.out.c 1 _ rfl
    have c2 := g2.out.c 2 _ rfl
    have a0 := g3.out.c 0 _ rfl
    have a1 := g3.out.c 1 _ rfl
    have a2 := g3.out.c 2 _ rfl
    go_enter Tryz.func8, Tryz.ntmps8
    go_wp2_with fail
    refine (nawake_any _ (hN.out.tab.below hb.out)).mono ?_
    rintro e wn ⟨rfl, hbn⟩
    have g1 := Lib.hid (g1.out.below hbn)
    have g2 := Lib.hid (g2.out.below hbn)
    have g3 := Lib.hid (g3.out.below hbn)
    have hb := Lib.hid (below_step hb.out hbn)
    clear hbn c0 c1 c2 a0 a1 a2
    have c0 := g2.out.c 0 _ rfl
    have c1 := g2.out.c 1 _ rfl
    have c2 := g2.out.c 2 _ rfl
    have a0 := g3.out.c 0 _ rfl
    have a1 := g3.out.c 1 _ rfl
    have a2 := g3.out.c 2 _ rfl
    go_wp2_with (refine wpPrG g1.out (.tmp 3) rfl ?_)
    refine (Modest_any A c p _ (hN.out.hols.below hb.out)).mono ?_
    rintro e wn ⟨⟨b, rfl⟩, hbn⟩
    have g1 := Lib.hid (g1.out.below hbn)
    have g2 := Lib.hid (g2.out.below hbn)
    have g3 := Lib.hid (g3.out.below hbn)
    have hb := Lib.hid (below_step hb.out hbn)
    clear hbn c0 c1 c2 a0 a1 a2
    have c0 := g2.out.c 0 _ rfl
    have c1 := g2.out.c 1 _ rfl
    have c2 := g2.out.c 2 _ rfl
    have a0 := g3.out.c 0 _ rfl
    have a1 := g3.out.c 1 _ rfl
    have a2 := g3.out.c 2 _ rfl
    cases b
    · go_wp2_with fail
      go_ret
      exact ⟨rfl, hb.out⟩
    go_wp2_with fail
    refine (Brief_any N d n _ hN.out.name hN.out.acts.size).mono ?_
    rintro e wn ⟨⟨b, rfl⟩, hbn⟩
    have g1 := Lib.hid (g1.out.below hbn)
    have g2 := Lib.hid (g2.out.below hbn)
    have g3 := Lib.hid (g3.out.below hbn)
    have hb := Lib.hid (below_step hb.out hbn)
    clear hbn c0 c1 c2 a0 a1 a2
    have c0 := g2.out.c 0 _ rfl
    have c1 := g2.out.c 1 _ rfl
    have c2 := g2.out.c 2 _ rfl
    have a0 := g3.out.c 0 _ rfl
    have a1 := g3.out.c 1 _ rfl
    have a2 := g3.out.c 2 _ rfl
    cases b
    · go_wp2_with fail
      go_ret
      exact ⟨rfl, hb.out⟩
    go_wp2_with (refine wpPrG g1.out (.tmp 3) rfl ?_)
    refine (hadd.out _ (hN.out.below hb.out)).mono ?_
    rintro e wn ⟨rfl, hbn⟩
    have g1 := Lib.hid (g1.out.below hbn)
    have g2 := Lib.hid (g2.out.below hbn)
    have g3 := Lib.hid (g3.out.below hbn)
    have hb := Lib.hid (below_step hb.out hbn)
    clear hbn c0 c1 c2 a0 a1 a2
    have c0 := g2.out.c 0 _ rfl
    have c1 := g2.out.c 1 _ rfl
    have c2 := g2.out.c 2 _ rfl
    have a0 := g3.out.c 0 _ rfl
    have a1 := g3.out.c 1 _ rfl
    have a2 := g3.out.c 2 _ rfl
    have hN7 := Lib.hid (BoxAt.new wn #[.string ⟨#[]⟩, .int .i64 0, .slice none 0 0] 29)
    have hm1 : Hid (Acts wn none []) := Acts.nil _
    go_wp2_with (first | ((refine wpList_store_box rfl 29 (.tmp 7) (.tmp 29) rfl (wn.heap.size) _ [.string ⟨#[]⟩, .int .i64 0, .slice none 0 0] (by rfl) (by rfl) hN7.out rfl ntSize (by kernel_rfl) ?_; intro w5 h5 hg5); have hbn5 := below_of_grownB (below_alloc wn _) hg5 (Nat.le_refl _); have g1 := Lib.hid (g1.out.below hbn5); have g2 := Lib.hid (g2.out.below hbn5); have g3 := Lib.hid (g3.out.below hbn5); have hb := Lib.hid (below_step hb.out hbn5); have hm1 := Lib.hid (hm1.out.below hbn5); have g7 := Lib.hid h5; clear hbn5 hg5 hN7 c0 c1 c2 a0 a1 a2; have c0 := g2.out.c 0 _ rfl; have c1 := g2.out.c 1 _ rfl; have c2 := g2.out.c 2 _ rfl; have a0 := g3.out.c 0 _ rfl; have a1 := g3.out.c 1 _ rfl; have a2 := g3.out.c 2 _ rfl; have m0 := g7.out.c 0 _ rfl; have m1 := g7.out.c 1 _ rfl; have m2 := g7.out.c 2 _ rfl) | (refine wpPrG g1.out (.tmp 3) rfl ?_))
    refine (both_any A c p N d n _ (hN.out.below hb.out)).mono ?_
    rintro e wk ⟨rfl, hbn⟩
    rw [hbo.out]
    have g7 := Lib.hid (g7.out.below hbn)
    have hm1 := Lib.hid (hm1.out.below hbn)
    clear m0 m1 m2
    have g1 := Lib.hid (g1.out.below hbn)
    have g2 := Lib.hid (g2.out.below hbn)
    have g3 := Lib.hid (g3.out.below hbn)
    have hb := Lib.hid (below_step hb.out hbn)
    clear hbn c0 c1 c2 a0 a1 a2
    have c0 := g2.out.c 0 _ rfl
    have c1 := g2.out.c 1 _ rfl
    have c2 := g2.out.c 2 _ rfl
    have a0 := g3.out.c 0 _ rfl
    have a1 := g3.out.c 1 _ rfl
    have a2 := g3.out.c 2 _ rfl
    have m0 := g7.out.c 0 _ rfl; have m1 := g7.out.c 1 _ rfl; have m2 := g7.out.c 2 _ rfl
    go_wp2_with fail
    refine (Same_zero _).mono ?_
    rintro e wq ⟨rfl, hbn⟩
    have hb := Lib.hid (below_step hb.out hbn)
    clear hbn m0 m1 m2 c0 c1 c2 a0 a1 a2
    go_wp2_with fail
    go_ret
    exact ⟨by first | rfl | done, hb.out⟩
end Go.Proofs.YtconnjkkgaapbaaGreatDoor
