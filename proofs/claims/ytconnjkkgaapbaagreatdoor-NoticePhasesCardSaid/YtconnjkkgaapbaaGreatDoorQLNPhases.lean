/- The walk of a statement. -/
import Derived.Test.YtconnjkkgaapbaaGreatDoorC24
import Derived.Test.YtconnjkkgaapbaaGreatDoorC27
namespace Go.Proofs.YtconnjkkgaapbaaGreatDoor
open Go Go.RowKit
set_option maxRecDepth 100000 in
set_option maxHeartbeats 4000000 in
theorem NoticePhases_any (A : Option Addr) (c : Nat) (p : Proc) (N : Option Addr) (d : Nat) (n : Note) (day : Int) (w : World) (hN : NB w A p N n) :
    Calls Tryz.prog 6 #[.agg #[.int .i64 p.runs.m, .int .i64 p.runs.d, .bool p.runs.k, .int .i64 p.obj.m, .int .i64 p.obj.d, .bool p.obj.k, .int .i64 p.wait.m, .int .i64 p.wait.d, .bool p.wait.k, .int .i64 p.exts, .int .i64 p.longest, .slice A p.hols.length c], .agg #[.string n.name, .int .i64 n.opened, .slice N n.acts.length d], .int .i64 day] w fun e w' => e = .returned (.bool true) ∧ Below w.heap.size w w' := by
  have hN := Lib.hid hN
  by_cases hE : Cal.onE p n day = 0
  · obtain ⟨hv, d0, d1, d2⟩ := Cal.onE_ok hE
    have hbo := Lib.hid hv
    have hat := fun w1 (h : NB w1 A p N n) => At_any A c p N d n day w1 h.hols h.acts hv
    have hpr := fun w1 (h : NB w1 A p N n) => PhaseR_any A c p N d n day w1 h hv
    obtain ⟨s, hs⟩ : ∃ s, Cal.stAt p n day = s := ⟨_, rfl⟩
    have hph : Cal.phaseS p n day = (Cal.phaseR s day, 0) := by
      unfold Cal.phaseS Cal.phaseR
      rw [if_pos hE, hs]
      split <;> rfl
    rw [hs] at hat hpr
    have hK : (Cal.phaseR s day != Cal.phaseR s day) = false := by simp
    have hph := Lib.hid hph
    have hat := Lib.hid hat
    have hpr := Lib.hid hpr
    have hee : decide (day < n.opened) = false := by rw [decide_eq_false_iff_not]; omega
    generalize Cal.phaseR s day = K at *
    by_cases h1 : s.phase = 1
    · have h1b : (s.phase != 1) = false := by simpa using h1
      have hdl : Hid (Cal.dlAtS p n day = (s.deadline, 0)) := by show _ = _; unfold Cal.dlAtS; rw [if_pos hE, hs, if_pos h1]
      have hdd : (s.deadline == s.deadline) = true := by simp
      by_cases hm : s.object < s.deadline
      · have hob : Hid (Cal.objS p n day = (s.object, 0)) := by show _ = _; unfold Cal.objS; rw [if_pos hE, hs, if_pos h1, show min s.object s.deadline = s.object by omega]
        have hoo : (s.object == s.object) = true := by simp
        clear hE hv hs h1
        obtain ⟨g1, g2, hb⟩ := start2 w A c p N d n
        have c0 := g2.out.c 0 _ rfl
        have c1 := g2.out.c 1 _ rfl
        have c2 := g2.out.c 2 _ rfl
        go_enter Tryz.func6, Tryz.ntmps6
        go_wp2_with fail
        refine (nawake_any _ (hN.out.tab.below hb.out)).mono ?_
        rintro e w1 ⟨rfl, hbn⟩
        have g1 := Lib.hid (g1.out.below hbn)
        have g2 := Lib.hid (g2.out.below hbn)
        have hb := Lib.hid (below_step hb.out hbn)
        clear hbn c0 c1 c2
        have c0 := g2.out.c 0 _ rfl
        have c1 := g2.out.c 1 _ rfl
        have c2 := g2.out.c 2 _ rfl
        go_wp2_with (refine wpPr g1.out (.tmp 3) rfl ?_)
        refine (Modest_any A c p _ (hN.out.hols.below hb.out)).mono ?_
        rintro e w2 ⟨⟨b, rfl⟩, hbn⟩
        have g1 := Lib.hid (g1.out.below hbn)
        have g2 := Lib.hid (g2.out.below hbn)
        have hb := Lib.hid (below_step hb.out hbn)
        clear hbn c0 c1 c2
        have c0 := g2.out.c 0 _ rfl
        have c1 := g2.out.c 1 _ rfl
        have c2 := g2.out.c 2 _ rfl
        cases b
        · go_wp2_with fail
          go_ret
          exact ⟨rfl, hb.out⟩
        go_wp2_with fail
        refine (Brief_any N d n _ hN.out.name hN.out.acts.size).mono ?_
        rintro e w3 ⟨⟨b, rfl⟩, hbn⟩
        have g1 := Lib.hid (g1.out.below hbn)
        have g2 := Lib.hid (g2.out.below hbn)
        have hb := Lib.hid (below_step hb.out hbn)
        clear hbn c0 c1 c2
        have c0 := g2.out.c 0 _ rfl
        have c1 := g2.out.c 1 _ rfl
        have c2 := g2.out.c 2 _ rfl
        cases b
        · go_wp2_with fail
          go_ret
          exact ⟨rfl, hb.out⟩
        go_wp2_with (refine wpPr g1.out (.tmp 3) rfl ?_)
        refine (Phase_any A c p N d n day _ (hN.out.below hb.out)).mono ?_
        rintro e w4 ⟨he, hbn⟩
        rw [hph.out] at he
        subst he
        have g1 := Lib.hid (g1.out.below hbn)
        have g2 := Lib.hid (g2.out.below hbn)
        have hb := Lib.hid (below_step hb.out hbn)
        clear hbn c0 c1 c2
        have c0 := g2.out.c 0 _ rfl
        have c1 := g2.out.c 1 _ rfl
        have c2 := g2.out.c 2 _ rfl
        go_wp2_with (refine wpPr g1.out (.tmp 3) rfl ?_)
        refine (DeadlineAt_any A c p N d n day _ (hN.out.below hb.out)).mono ?_
        rintro e w5 ⟨he, hbn⟩
        rw [hdl.out] at he
        subst he
        have g1 := Lib.hid (g1.out.below hbn)
        have g2 := Lib.hid (g2.out.below hbn)
        have hb := Lib.hid (below_step hb.out hbn)
        clear hbn c0 c1 c2
        have c0 := g2.out.c 0 _ rfl
        have c1 := g2.out.c 1 _ rfl
        have c2 := g2.out.c 2 _ rfl
        go_wp2_with (refine wpPr g1.out (.tmp 3) rfl ?_)
        refine (ObjectUntil_any A c p N d n day _ (hN.out.below hb.out)).mono ?_
        rintro e w6 ⟨he, hbn⟩
        rw [hob.out] at he
        subst he
        have g1 := Lib.hid (g1.out.below hbn)
        have g2 := Lib.hid (g2.out.below hbn)
        have hb := Lib.hid (below_step hb.out hbn)
        clear hbn c0 c1 c2
        have c0 := g2.out.c 0 _ rfl
        have c1 := g2.out.c 1 _ rfl
        have c2 := g2.out.c 2 _ rfl
        go_wp2_with (refine wpPr g1.out (.tmp 3) rfl ?_)
        refine (both_any A c p N d n _ (hN.out.below hb.out)).mono ?_
        rintro e w7 ⟨rfl, hbn⟩
        rw [hbo.out]
        have g1 := Lib.hid (g1.out.below hbn)
        have g2 := Lib.hid (g2.out.below hbn)
        have hb := Lib.hid (below_step hb.out hbn)
        clear hbn c0 c1 c2
        have c0 := g2.out.c 0 _ rfl
        have c1 := g2.out.c 1 _ rfl
        have c2 := g2.out.c 2 _ rfl
        go_wp2_with (first | ((first | (go_at_call 86) | (go_at_call 41) | (go_at_call 74) | (go_at_call 28) | (go_at_call 109) | (fail) | (fail)); first | refine rin ?_ | refine rout ?_ | refine rany ?_) | (refine wpPr g1.out (.tmp 3) rfl ?_))
        refine (hat.out _ (hN.out.below hb.out)).mono ?_
        rintro e w8 ⟨rfl, hbn⟩
        have g1 := Lib.hid (g1.out.below hbn)
        have g2 := Lib.hid (g2.out.below hbn)
        have hb := Lib.hid (below_step hb.out hbn)
        clear hbn c0 c1 c2
        have c0 := g2.out.c 0 _ rfl
        have c1 := g2.out.c 1 _ rfl
        have c2 := g2.out.c 2 _ rfl
        have hN14 := Lib.hid (BoxAt.new w8 #[.int .i64 0, .int .i64 0, .int .i64 0, .int .i64 0, .int .i64 0, .int .i64 0] 57)
        go_wp2_with (first
          | (refine wpList_store_box rfl 57 (.tmp 14) (.tmp 94) rfl (w8.heap.size) _ [.int .i64 s.phase, .int .i64 s.deadline, .int .i64 s.object, .int .i64 s.last, .int .i64 s.objected, .int .i64 s.extended] (by rfl) (by rfl) hN14.out rfl rsSize (by kernel_rfl) ?_; intro w9 h14 hg14; have hb89 := below_of_grownB (below_alloc w8 _) hg14 (Nat.le_refl _); have g1 := Lib.hid (g1.out.below hb89); have g2 := Lib.hid (g2.out.below hb89); have hb := Lib.hid (below_step hb.out hb89); have h14 := Lib.hid h14; clear hb89 hg14 c0 c1 c2; have z0 := g1.out.c 0 _ rfl; have z1 := g1.out.c 1 _ rfl; have z2 := g1.out.c 2 _ rfl; have z3 := g1.out.c 3 _ rfl; have z4 := g1.out.c 4 _ rfl; have z5 := g1.out.c 5 _ rfl; have z6 := g1.out.c 6 _ rfl; have z7 := g1.out.c 7 _ rfl; have z8 := g1.out.c 8 _ rfl; have z9 := g1.out.c 9 _ rfl; have z10 := g1.out.c 10 _ rfl; have z11 := g1.out.c 11 _ rfl; have c0 := g2.out.c 0 _ rfl; have c1 := g2.out.c 1 _ rfl; have c2 := g2.out.c 2 _ rfl)
          | (refine wpPr g1.out (.tmp 3) rfl ?_))
        refine (hpr.out _ (hN.out.below hb.out)).mono ?_
        clear z0 z1 z2 z3 z4 z5 z6 z7 z8 z9 z10 z11
        rintro e w10 ⟨rfl, hbn⟩
        have h14' := Lib.hid (h14.out.below hbn)
        have g1 := Lib.hid (g1.out.below hbn)
        have g2 := Lib.hid (g2.out.below hbn)
        have hb := Lib.hid (below_step hb.out hbn)
        clear hbn c0 c1 c2
        have c0 := g2.out.c 0 _ rfl
        have c1 := g2.out.c 1 _ rfl
        have c2 := g2.out.c 2 _ rfl
        have t0 := h14'.out.c 0 _ rfl
        have t1 := h14'.out.c 1 _ rfl
        have t2 := h14'.out.c 2 _ rfl
        go_wp2_with fail
        go_ret
        exact ⟨by first | rfl | exact ret_bool (by simp; omega), hb.out⟩
      · have hob : Hid (Cal.objS p n day = (s.deadline, 0)) := by show _ = _; unfold Cal.objS; rw [if_pos hE, hs, if_pos h1, show min s.object s.deadline = s.deadline by omega]
        have hm' : s.deadline ≤ s.object := by omega
        clear hE hv hs h1 hm
        obtain ⟨g1, g2, hb⟩ := start2 w A c p N d n
        have c0 := g2.out.c 0 _ rfl
        have c1 := g2.out.c 1 _ rfl
        have c2 := g2.out.c 2 _ rfl
        go_enter Tryz.func6, Tryz.ntmps6
        go_wp2_with fail
        refine (nawake_any _ (hN.out.tab.below hb.out)).mono ?_
        rintro e w1 ⟨rfl, hbn⟩
        have g1 := Lib.hid (g1.out.below hbn)
        have g2 := Lib.hid (g2.out.below hbn)
        have hb := Lib.hid (below_step hb.out hbn)
        clear hbn c0 c1 c2
        have c0 := g2.out.c 0 _ rfl
        have c1 := g2.out.c 1 _ rfl
        have c2 := g2.out.c 2 _ rfl
        go_wp2_with (refine wpPr g1.out (.tmp 3) rfl ?_)
        refine (Modest_any A c p _ (hN.out.hols.below hb.out)).mono ?_
        rintro e w2 ⟨⟨b, rfl⟩, hbn⟩
        have g1 := Lib.hid (g1.out.below hbn)
        have g2 := Lib.hid (g2.out.below hbn)
        have hb := Lib.hid (below_step hb.out hbn)
        clear hbn c0 c1 c2
        have c0 := g2.out.c 0 _ rfl
        have c1 := g2.out.c 1 _ rfl
        have c2 := g2.out.c 2 _ rfl
        cases b
        · go_wp2_with fail
          go_ret
          exact ⟨rfl, hb.out⟩
        go_wp2_with fail
        refine (Brief_any N d n _ hN.out.name hN.out.acts.size).mono ?_
        rintro e w3 ⟨⟨b, rfl⟩, hbn⟩
        have g1 := Lib.hid (g1.out.below hbn)
        have g2 := Lib.hid (g2.out.below hbn)
        have hb := Lib.hid (below_step hb.out hbn)
        clear hbn c0 c1 c2
        have c0 := g2.out.c 0 _ rfl
        have c1 := g2.out.c 1 _ rfl
        have c2 := g2.out.c 2 _ rfl
        cases b
        · go_wp2_with fail
          go_ret
          exact ⟨rfl, hb.out⟩
        go_wp2_with (refine wpPr g1.out (.tmp 3) rfl ?_)
        refine (Phase_any A c p N d n day _ (hN.out.below hb.out)).mono ?_
        rintro e w4 ⟨he, hbn⟩
        rw [hph.out] at he
        subst he
        have g1 := Lib.hid (g1.out.below hbn)
        have g2 := Lib.hid (g2.out.below hbn)
        have hb := Lib.hid (below_step hb.out hbn)
        clear hbn c0 c1 c2
        have c0 := g2.out.c 0 _ rfl
        have c1 := g2.out.c 1 _ rfl
        have c2 := g2.out.c 2 _ rfl
        go_wp2_with (refine wpPr g1.out (.tmp 3) rfl ?_)
        refine (DeadlineAt_any A c p N d n day _ (hN.out.below hb.out)).mono ?_
        rintro e w5 ⟨he, hbn⟩
        rw [hdl.out] at he
        subst he
        have g1 := Lib.hid (g1.out.below hbn)
        have g2 := Lib.hid (g2.out.below hbn)
        have hb := Lib.hid (below_step hb.out hbn)
        clear hbn c0 c1 c2
        have c0 := g2.out.c 0 _ rfl
        have c1 := g2.out.c 1 _ rfl
        have c2 := g2.out.c 2 _ rfl
        go_wp2_with (refine wpPr g1.out (.tmp 3) rfl ?_)
        refine (ObjectUntil_any A c p N d n day _ (hN.out.below hb.out)).mono ?_
        rintro e w6 ⟨he, hbn⟩
        rw [hob.out] at he
        subst he
        have g1 := Lib.hid (g1.out.below hbn)
        have g2 := Lib.hid (g2.out.below hbn)
        have hb := Lib.hid (below_step hb.out hbn)
        clear hbn c0 c1 c2
        have c0 := g2.out.c 0 _ rfl
        have c1 := g2.out.c 1 _ rfl
        have c2 := g2.out.c 2 _ rfl
        go_wp2_with (refine wpPr g1.out (.tmp 3) rfl ?_)
        refine (both_any A c p N d n _ (hN.out.below hb.out)).mono ?_
        rintro e w7 ⟨rfl, hbn⟩
        rw [hbo.out]
        have g1 := Lib.hid (g1.out.below hbn)
        have g2 := Lib.hid (g2.out.below hbn)
        have hb := Lib.hid (below_step hb.out hbn)
        clear hbn c0 c1 c2
        have c0 := g2.out.c 0 _ rfl
        have c1 := g2.out.c 1 _ rfl
        have c2 := g2.out.c 2 _ rfl
        go_wp2_with (first | ((first | (go_at_call 86) | (go_at_call 41) | (go_at_call 74) | (go_at_call 28) | (go_at_call 109) | (fail) | (fail)); first | refine rin ?_ | refine rout ?_ | refine rany ?_) | (refine wpPr g1.out (.tmp 3) rfl ?_))
        refine (hat.out _ (hN.out.below hb.out)).mono ?_
        rintro e w8 ⟨rfl, hbn⟩
        have g1 := Lib.hid (g1.out.below hbn)
        have g2 := Lib.hid (g2.out.below hbn)
        have hb := Lib.hid (below_step hb.out hbn)
        clear hbn c0 c1 c2
        have c0 := g2.out.c 0 _ rfl
        have c1 := g2.out.c 1 _ rfl
        have c2 := g2.out.c 2 _ rfl
        have hN14 := Lib.hid (BoxAt.new w8 #[.int .i64 0, .int .i64 0, .int .i64 0, .int .i64 0, .int .i64 0, .int .i64 0] 57)
        go_wp2_with (first
          | (refine wpList_store_box rfl 57 (.tmp 14) (.tmp 94) rfl (w8.heap.size) _ [.int .i64 s.phase, .int .i64 s.deadline, .int .i64 s.object, .int .i64 s.last, .int .i64 s.objected, .int .i64 s.extended] (by rfl) (by rfl) hN14.out rfl rsSize (by kernel_rfl) ?_; intro w9 h14 hg14; have hb89 := below_of_grownB (below_alloc w8 _) hg14 (Nat.le_refl _); have g1 := Lib.hid (g1.out.below hb89); have g2 := Lib.hid (g2.out.below hb89); have hb := Lib.hid (below_step hb.out hb89); have h14 := Lib.hid h14; clear hb89 hg14 c0 c1 c2; have z0 := g1.out.c 0 _ rfl; have z1 := g1.out.c 1 _ rfl; have z2 := g1.out.c 2 _ rfl; have z3 := g1.out.c 3 _ rfl; have z4 := g1.out.c 4 _ rfl; have z5 := g1.out.c 5 _ rfl; have z6 := g1.out.c 6 _ rfl; have z7 := g1.out.c 7 _ rfl; have z8 := g1.out.c 8 _ rfl; have z9 := g1.out.c 9 _ rfl; have z10 := g1.out.c 10 _ rfl; have z11 := g1.out.c 11 _ rfl; have c0 := g2.out.c 0 _ rfl; have c1 := g2.out.c 1 _ rfl; have c2 := g2.out.c 2 _ rfl)
          | (refine wpPr g1.out (.tmp 3) rfl ?_))
        refine (hpr.out _ (hN.out.below hb.out)).mono ?_
        clear z0 z1 z2 z3 z4 z5 z6 z7 z8 z9 z10 z11
        rintro e w10 ⟨rfl, hbn⟩
        have h14' := Lib.hid (h14.out.below hbn)
        have g1 := Lib.hid (g1.out.below hbn)
        have g2 := Lib.hid (g2.out.below hbn)
        have hb := Lib.hid (below_step hb.out hbn)
        clear hbn c0 c1 c2
        have c0 := g2.out.c 0 _ rfl
        have c1 := g2.out.c 1 _ rfl
        have c2 := g2.out.c 2 _ rfl
        have t0 := h14'.out.c 0 _ rfl
        have t1 := h14'.out.c 1 _ rfl
        have t2 := h14'.out.c 2 _ rfl
        go_wp2_with fail
        go_ret
        exact ⟨by first | rfl | exact ret_bool (by simp; omega), hb.out⟩
    · have h1b : (s.phase != 1) = true := by simpa using h1
      have hdl : Hid (Cal.dlAtS p n day = (0, 12)) := by show _ = _; unfold Cal.dlAtS; rw [if_pos hE, hs, if_neg h1]
      have hob : Hid (Cal.objS p n day = (0, 12)) := by show _ = _; unfold Cal.objS; rw [if_pos hE, hs, if_neg h1]
      clear hE hv hs h1
      obtain ⟨g1, g2, hb⟩ := start2 w A c p N d n
      have c0 := g2.out.c 0 _ rfl
      have c1 := g2.out.c 1 _ rfl
      have c2 := g2.out.c 2 _ rfl
      go_enter Tryz.func6, Tryz.ntmps6
      go_wp2_with fail
      refine (nawake_any _ (hN.out.tab.below hb.out)).mono ?_
      rintro e w1 ⟨rfl, hbn⟩
      have g1 := Lib.hid (g1.out.below hbn)
      have g2 := Lib.hid (g2.out.below hbn)
      have hb := Lib.hid (below_step hb.out hbn)
      clear hbn c0 c1 c2
      have c0 := g2.out.c 0 _ rfl
      have c1 := g2.out.c 1 _ rfl
      have c2 := g2.out.c 2 _ rfl
      go_wp2_with (refine wpPr g1.out (.tmp 3) rfl ?_)
      refine (Modest_any A c p _ (hN.out.hols.below hb.out)).mono ?_
      rintro e w2 ⟨⟨b, rfl⟩, hbn⟩
      have g1 := Lib.hid (g1.out.below hbn)
      have g2 := Lib.hid (g2.out.below hbn)
      have hb := Lib.hid (below_step hb.out hbn)
      clear hbn c0 c1 c2
      have c0 := g2.out.c 0 _ rfl
      have c1 := g2.out.c 1 _ rfl
      have c2 := g2.out.c 2 _ rfl
      cases b
      · go_wp2_with fail
        go_ret
        exact ⟨rfl, hb.out⟩
      go_wp2_with fail
      refine (Brief_any N d n _ hN.out.name hN.out.acts.size).mono ?_
      rintro e w3 ⟨⟨b, rfl⟩, hbn⟩
      have g1 := Lib.hid (g1.out.below hbn)
      have g2 := Lib.hid (g2.out.below hbn)
      have hb := Lib.hid (below_step hb.out hbn)
      clear hbn c0 c1 c2
      have c0 := g2.out.c 0 _ rfl
      have c1 := g2.out.c 1 _ rfl
      have c2 := g2.out.c 2 _ rfl
      cases b
      · go_wp2_with fail
        go_ret
        exact ⟨rfl, hb.out⟩
      go_wp2_with (refine wpPr g1.out (.tmp 3) rfl ?_)
      refine (Phase_any A c p N d n day _ (hN.out.below hb.out)).mono ?_
      rintro e w4 ⟨he, hbn⟩
      rw [hph.out] at he
      subst he
      have g1 := Lib.hid (g1.out.below hbn)
      have g2 := Lib.hid (g2.out.below hbn)
      have hb := Lib.hid (below_step hb.out hbn)
      clear hbn c0 c1 c2
      have c0 := g2.out.c 0 _ rfl
      have c1 := g2.out.c 1 _ rfl
      have c2 := g2.out.c 2 _ rfl
      go_wp2_with (refine wpPr g1.out (.tmp 3) rfl ?_)
      refine (DeadlineAt_any A c p N d n day _ (hN.out.below hb.out)).mono ?_
      rintro e w5 ⟨he, hbn⟩
      rw [hdl.out] at he
      subst he
      have g1 := Lib.hid (g1.out.below hbn)
      have g2 := Lib.hid (g2.out.below hbn)
      have hb := Lib.hid (below_step hb.out hbn)
      clear hbn c0 c1 c2
      have c0 := g2.out.c 0 _ rfl
      have c1 := g2.out.c 1 _ rfl
      have c2 := g2.out.c 2 _ rfl
      go_wp2_with (refine wpPr g1.out (.tmp 3) rfl ?_)
      refine (ObjectUntil_any A c p N d n day _ (hN.out.below hb.out)).mono ?_
      rintro e w6 ⟨he, hbn⟩
      rw [hob.out] at he
      subst he
      have g1 := Lib.hid (g1.out.below hbn)
      have g2 := Lib.hid (g2.out.below hbn)
      have hb := Lib.hid (below_step hb.out hbn)
      clear hbn c0 c1 c2
      have c0 := g2.out.c 0 _ rfl
      have c1 := g2.out.c 1 _ rfl
      have c2 := g2.out.c 2 _ rfl
      go_wp2_with (refine wpPr g1.out (.tmp 3) rfl ?_)
      refine (both_any A c p N d n _ (hN.out.below hb.out)).mono ?_
      rintro e w7 ⟨rfl, hbn⟩
      rw [hbo.out]
      have g1 := Lib.hid (g1.out.below hbn)
      have g2 := Lib.hid (g2.out.below hbn)
      have hb := Lib.hid (below_step hb.out hbn)
      clear hbn c0 c1 c2
      have c0 := g2.out.c 0 _ rfl
      have c1 := g2.out.c 1 _ rfl
      have c2 := g2.out.c 2 _ rfl
      go_wp2_with (first | ((first | (go_at_call 86) | (go_at_call 41) | (go_at_call 74) | (go_at_call 28) | (go_at_call 109) | (fail) | (fail)); first | refine rin ?_ | refine rout ?_ | refine rany ?_) | (refine wpPr g1.out (.tmp 3) rfl ?_))
      refine (hat.out _ (hN.out.below hb.out)).mono ?_
      rintro e w8 ⟨rfl, hbn⟩
      have g1 := Lib.hid (g1.out.below hbn)
      have g2 := Lib.hid (g2.out.below hbn)
      have hb := Lib.hid (below_step hb.out hbn)
      clear hbn c0 c1 c2
      have c0 := g2.out.c 0 _ rfl
      have c1 := g2.out.c 1 _ rfl
      have c2 := g2.out.c 2 _ rfl
      have hN14 := Lib.hid (BoxAt.new w8 #[.int .i64 0, .int .i64 0, .int .i64 0, .int .i64 0, .int .i64 0, .int .i64 0] 57)
      go_wp2_with (first
        | (refine wpList_store_box rfl 57 (.tmp 14) (.tmp 94) rfl (w8.heap.size) _ [.int .i64 s.phase, .int .i64 s.deadline, .int .i64 s.object, .int .i64 s.last, .int .i64 s.objected, .int .i64 s.extended] (by rfl) (by rfl) hN14.out rfl rsSize (by kernel_rfl) ?_; intro w9 h14 hg14; have hb89 := below_of_grownB (below_alloc w8 _) hg14 (Nat.le_refl _); have g1 := Lib.hid (g1.out.below hb89); have g2 := Lib.hid (g2.out.below hb89); have hb := Lib.hid (below_step hb.out hb89); have h14 := Lib.hid h14; clear hb89 hg14 c0 c1 c2; have z0 := g1.out.c 0 _ rfl; have z1 := g1.out.c 1 _ rfl; have z2 := g1.out.c 2 _ rfl; have z3 := g1.out.c 3 _ rfl; have z4 := g1.out.c 4 _ rfl; have z5 := g1.out.c 5 _ rfl; have z6 := g1.out.c 6 _ rfl; have z7 := g1.out.c 7 _ rfl; have z8 := g1.out.c 8 _ rfl; have z9 := g1.out.c 9 _ rfl; have z10 := g1.out.c 10 _ rfl; have z11 := g1.out.c 11 _ rfl; have c0 := g2.out.c 0 _ rfl; have c1 := g2.out.c 1 _ rfl; have c2 := g2.out.c 2 _ rfl)
        | (refine wpPr g1.out (.tmp 3) rfl ?_))
      refine (hpr.out _ (hN.out.below hb.out)).mono ?_
      clear z0 z1 z2 z3 z4 z5 z6 z7 z8 z9 z10 z11
      rintro e w10 ⟨rfl, hbn⟩
      have h14' := Lib.hid (h14.out.below hbn)
      have g1 := Lib.hid (g1.out.below hbn)
      have g2 := Lib.hid (g2.out.below hbn)
      have hb := Lib.hid (below_step hb.out hbn)
      clear hbn c0 c1 c2
      have c0 := g2.out.c 0 _ rfl
      have c1 := g2.out.c 1 _ rfl
      have c2 := g2.out.c 2 _ rfl
      have t0 := h14'.out.c 0 _ rfl
      have t1 := h14'.out.c 1 _ rfl
      have t2 := h14'.out.c 2 _ rfl
      go_wp2_with fail
      go_ret
      exact ⟨by first | rfl | exact ret_bool (by simp; omega), hb.out⟩
  · have hph : Cal.phaseS p n day = (0, Cal.onE p n day) := by unfold Cal.phaseS; rw [if_neg hE]
    have hdl : Cal.dlAtS p n day = (0, Cal.onE p n day) := by unfold Cal.dlAtS; rw [if_neg hE]
    have hob : Cal.objS p n day = (0, Cal.onE p n day) := by unfold Cal.objS; rw [if_neg hE]
    obtain ⟨C, hC⟩ : ∃ C, (Cal.checkS p n).2 = C := ⟨_, rfl⟩
    have hbo := Lib.hid hC
    by_cases h0 : C = 0
    · subst h0
      by_cases hd : 0 ≤ day ∧ day ≤ 200000
      · have he : day < n.opened := by
          rcases Int.lt_or_le day n.opened with h | h
          · exact h
          · exact absurd (by unfold Cal.onE; rw [if_pos hC, if_pos hd, if_neg (by omega)]) hE
        have hon : Cal.onE p n day = 22 := by unfold Cal.onE; rw [if_pos hC, if_pos hd, if_pos he]
        rw [hon] at hph hdl hob
        have hph := Lib.hid hph
        have hdl := Lib.hid hdl
        have hob := Lib.hid hob
        obtain ⟨d0, d1⟩ := hd
        clear hE hC hon
        obtain ⟨g1, g2, hb⟩ := start2 w A c p N d n
        have c0 := g2.out.c 0 _ rfl
        have c1 := g2.out.c 1 _ rfl
        have c2 := g2.out.c 2 _ rfl
        go_enter Tryz.func6, Tryz.ntmps6
        go_wp2_with fail
        refine (nawake_any _ (hN.out.tab.below hb.out)).mono ?_
        rintro e w1 ⟨rfl, hbn⟩
        have g1 := Lib.hid (g1.out.below hbn)
        have g2 := Lib.hid (g2.out.below hbn)
        have hb := Lib.hid (below_step hb.out hbn)
        clear hbn c0 c1 c2
        have c0 := g2.out.c 0 _ rfl
        have c1 := g2.out.c 1 _ rfl
        have c2 := g2.out.c 2 _ rfl
        go_wp2_with (refine wpPr g1.out (.tmp 3) rfl ?_)
        refine (Modest_any A c p _ (hN.out.hols.below hb.out)).mono ?_
        rintro e w2 ⟨⟨b, rfl⟩, hbn⟩
        have g1 := Lib.hid (g1.out.below hbn)
        have g2 := Lib.hid (g2.out.below hbn)
        have hb := Lib.hid (below_step hb.out hbn)
        clear hbn c0 c1 c2
        have c0 := g2.out.c 0 _ rfl
        have c1 := g2.out.c 1 _ rfl
        have c2 := g2.out.c 2 _ rfl
        cases b
        · go_wp2_with fail
          go_ret
          exact ⟨rfl, hb.out⟩
        go_wp2_with fail
        refine (Brief_any N d n _ hN.out.name hN.out.acts.size).mono ?_
        rintro e w3 ⟨⟨b, rfl⟩, hbn⟩
        have g1 := Lib.hid (g1.out.below hbn)
        have g2 := Lib.hid (g2.out.below hbn)
        have hb := Lib.hid (below_step hb.out hbn)
        clear hbn c0 c1 c2
        have c0 := g2.out.c 0 _ rfl
        have c1 := g2.out.c 1 _ rfl
        have c2 := g2.out.c 2 _ rfl
        cases b
        · go_wp2_with fail
          go_ret
          exact ⟨rfl, hb.out⟩
        go_wp2_with (refine wpPr g1.out (.tmp 3) rfl ?_)
        refine (Phase_any A c p N d n day _ (hN.out.below hb.out)).mono ?_
        rintro e w4 ⟨he, hbn⟩
        rw [hph.out] at he
        subst he
        have g1 := Lib.hid (g1.out.below hbn)
        have g2 := Lib.hid (g2.out.below hbn)
        have hb := Lib.hid (below_step hb.out hbn)
        clear hbn c0 c1 c2
        have c0 := g2.out.c 0 _ rfl
        have c1 := g2.out.c 1 _ rfl
        have c2 := g2.out.c 2 _ rfl
        go_wp2_with (refine wpPr g1.out (.tmp 3) rfl ?_)
        refine (DeadlineAt_any A c p N d n day _ (hN.out.below hb.out)).mono ?_
        rintro e w5 ⟨he, hbn⟩
        rw [hdl.out] at he
        subst he
        have g1 := Lib.hid (g1.out.below hbn)
        have g2 := Lib.hid (g2.out.below hbn)
        have hb := Lib.hid (below_step hb.out hbn)
        clear hbn c0 c1 c2
        have c0 := g2.out.c 0 _ rfl
        have c1 := g2.out.c 1 _ rfl
        have c2 := g2.out.c 2 _ rfl
        go_wp2_with (refine wpPr g1.out (.tmp 3) rfl ?_)
        refine (ObjectUntil_any A c p N d n day _ (hN.out.below hb.out)).mono ?_
        rintro e w6 ⟨he, hbn⟩
        rw [hob.out] at he
        subst he
        have g1 := Lib.hid (g1.out.below hbn)
        have g2 := Lib.hid (g2.out.below hbn)
        have hb := Lib.hid (below_step hb.out hbn)
        clear hbn c0 c1 c2
        have c0 := g2.out.c 0 _ rfl
        have c1 := g2.out.c 1 _ rfl
        have c2 := g2.out.c 2 _ rfl
        go_wp2_with (refine wpPr g1.out (.tmp 3) rfl ?_)
        refine (both_any A c p N d n _ (hN.out.below hb.out)).mono ?_
        rintro e w7 ⟨rfl, hbn⟩
        rw [hbo.out]
        have g1 := Lib.hid (g1.out.below hbn)
        have g2 := Lib.hid (g2.out.below hbn)
        have hb := Lib.hid (below_step hb.out hbn)
        clear hbn c0 c1 c2
        have c0 := g2.out.c 0 _ rfl
        have c1 := g2.out.c 1 _ rfl
        have c2 := g2.out.c 2 _ rfl
        go_wp2_with (((first | (go_at_call 86) | (go_at_call 41) | (go_at_call 74) | (go_at_call 28) | (go_at_call 109) | (fail) | (fail)); first | refine rin ?_ | refine rout ?_ | refine rany ?_))
        go_ret
        exact ⟨rfl, hb.out⟩
      · have hon : Cal.onE p n day = 2 := by unfold Cal.onE; rw [if_pos hC, if_neg hd]
        rw [hon] at hph hdl hob
        have hph := Lib.hid hph
        have hdl := Lib.hid hdl
        have hob := Lib.hid hob
        have hd' : day < 0 ∨ 200000 < day := by omega
        clear hE hC hon hd
        obtain ⟨g1, g2, hb⟩ := start2 w A c p N d n
        have c0 := g2.out.c 0 _ rfl
        have c1 := g2.out.c 1 _ rfl
        have c2 := g2.out.c 2 _ rfl
        go_enter Tryz.func6, Tryz.ntmps6
        go_wp2_with fail
        refine (nawake_any _ (hN.out.tab.below hb.out)).mono ?_
        rintro e w1 ⟨rfl, hbn⟩
        have g1 := Lib.hid (g1.out.below hbn)
        have g2 := Lib.hid (g2.out.below hbn)
        have hb := Lib.hid (below_step hb.out hbn)
        clear hbn c0 c1 c2
        have c0 := g2.out.c 0 _ rfl
        have c1 := g2.out.c 1 _ rfl
        have c2 := g2.out.c 2 _ rfl
        go_wp2_with (refine wpPr g1.out (.tmp 3) rfl ?_)
        refine (Modest_any A c p _ (hN.out.hols.below hb.out)).mono ?_
        rintro e w2 ⟨⟨b, rfl⟩, hbn⟩
        have g1 := Lib.hid (g1.out.below hbn)
        have g2 := Lib.hid (g2.out.below hbn)
        have hb := Lib.hid (below_step hb.out hbn)
        clear hbn c0 c1 c2
        have c0 := g2.out.c 0 _ rfl
        have c1 := g2.out.c 1 _ rfl
        have c2 := g2.out.c 2 _ rfl
        cases b
        · go_wp2_with fail
          go_ret
          exact ⟨rfl, hb.out⟩
        go_wp2_with fail
        refine (Brief_any N d n _ hN.out.name hN.out.acts.size).mono ?_
        rintro e w3 ⟨⟨b, rfl⟩, hbn⟩
        have g1 := Lib.hid (g1.out.below hbn)
        have g2 := Lib.hid (g2.out.below hbn)
        have hb := Lib.hid (below_step hb.out hbn)
        clear hbn c0 c1 c2
        have c0 := g2.out.c 0 _ rfl
        have c1 := g2.out.c 1 _ rfl
        have c2 := g2.out.c 2 _ rfl
        cases b
        · go_wp2_with fail
          go_ret
          exact ⟨rfl, hb.out⟩
        go_wp2_with (refine wpPr g1.out (.tmp 3) rfl ?_)
        refine (Phase_any A c p N d n day _ (hN.out.below hb.out)).mono ?_
        rintro e w4 ⟨he, hbn⟩
        rw [hph.out] at he
        subst he
        have g1 := Lib.hid (g1.out.below hbn)
        have g2 := Lib.hid (g2.out.below hbn)
        have hb := Lib.hid (below_step hb.out hbn)
        clear hbn c0 c1 c2
        have c0 := g2.out.c 0 _ rfl
        have c1 := g2.out.c 1 _ rfl
        have c2 := g2.out.c 2 _ rfl
        go_wp2_with (refine wpPr g1.out (.tmp 3) rfl ?_)
        refine (DeadlineAt_any A c p N d n day _ (hN.out.below hb.out)).mono ?_
        rintro e w5 ⟨he, hbn⟩
        rw [hdl.out] at he
        subst he
        have g1 := Lib.hid (g1.out.below hbn)
        have g2 := Lib.hid (g2.out.below hbn)
        have hb := Lib.hid (below_step hb.out hbn)
        clear hbn c0 c1 c2
        have c0 := g2.out.c 0 _ rfl
        have c1 := g2.out.c 1 _ rfl
        have c2 := g2.out.c 2 _ rfl
        go_wp2_with (refine wpPr g1.out (.tmp 3) rfl ?_)
        refine (ObjectUntil_any A c p N d n day _ (hN.out.below hb.out)).mono ?_
        rintro e w6 ⟨he, hbn⟩
        rw [hob.out] at he
        subst he
        have g1 := Lib.hid (g1.out.below hbn)
        have g2 := Lib.hid (g2.out.below hbn)
        have hb := Lib.hid (below_step hb.out hbn)
        clear hbn c0 c1 c2
        have c0 := g2.out.c 0 _ rfl
        have c1 := g2.out.c 1 _ rfl
        have c2 := g2.out.c 2 _ rfl
        go_wp2_with (refine wpPr g1.out (.tmp 3) rfl ?_)
        refine (both_any A c p N d n _ (hN.out.below hb.out)).mono ?_
        rintro e w7 ⟨rfl, hbn⟩
        rw [hbo.out]
        have g1 := Lib.hid (g1.out.below hbn)
        have g2 := Lib.hid (g2.out.below hbn)
        have hb := Lib.hid (below_step hb.out hbn)
        clear hbn c0 c1 c2
        have c0 := g2.out.c 0 _ rfl
        have c1 := g2.out.c 1 _ rfl
        have c2 := g2.out.c 2 _ rfl
        go_wp2_with (((first | (go_at_call 86) | (go_at_call 41) | (go_at_call 74) | (go_at_call 28) | (go_at_call 109) | (fail) | (fail)); first | refine rin ?_ | refine rout ?_ | refine rany ?_))
        go_ret
        exact ⟨rfl, hb.out⟩
    · have hon : Cal.onE p n day = C := by unfold Cal.onE; rw [if_neg (by rw [hC]; exact h0), hC]
      rw [hon] at hph hdl hob
      have hph := Lib.hid hph
      have hdl := Lib.hid hdl
      have hob := Lib.hid hob
      have hC0 : (C == 0) = false := by simpa using h0
      have hC1 : (C != 0) = true := by simpa using h0
      have hCC : (C == C) = true := by simp
      clear hE hC hon h0
      obtain ⟨g1, g2, hb⟩ := start2 w A c p N d n
      have c0 := g2.out.c 0 _ rfl
      have c1 := g2.out.c 1 _ rfl
      have c2 := g2.out.c 2 _ rfl
      go_enter Tryz.func6, Tryz.ntmps6
      go_wp2_with fail
      refine (nawake_any _ (hN.out.tab.below hb.out)).mono ?_
      rintro e w1 ⟨rfl, hbn⟩
      have g1 := Lib.hid (g1.out.below hbn)
      have g2 := Lib.hid (g2.out.below hbn)
      have hb := Lib.hid (below_step hb.out hbn)
      clear hbn c0 c1 c2
      have c0 := g2.out.c 0 _ rfl
      have c1 := g2.out.c 1 _ rfl
      have c2 := g2.out.c 2 _ rfl
      go_wp2_with (refine wpPr g1.out (.tmp 3) rfl ?_)
      refine (Modest_any A c p _ (hN.out.hols.below hb.out)).mono ?_
      rintro e w2 ⟨⟨b, rfl⟩, hbn⟩
      have g1 := Lib.hid (g1.out.below hbn)
      have g2 := Lib.hid (g2.out.below hbn)
      have hb := Lib.hid (below_step hb.out hbn)
      clear hbn c0 c1 c2
      have c0 := g2.out.c 0 _ rfl
      have c1 := g2.out.c 1 _ rfl
      have c2 := g2.out.c 2 _ rfl
      cases b
      · go_wp2_with fail
        go_ret
        exact ⟨rfl, hb.out⟩
      go_wp2_with fail
      refine (Brief_any N d n _ hN.out.name hN.out.acts.size).mono ?_
      rintro e w3 ⟨⟨b, rfl⟩, hbn⟩
      have g1 := Lib.hid (g1.out.below hbn)
      have g2 := Lib.hid (g2.out.below hbn)
      have hb := Lib.hid (below_step hb.out hbn)
      clear hbn c0 c1 c2
      have c0 := g2.out.c 0 _ rfl
      have c1 := g2.out.c 1 _ rfl
      have c2 := g2.out.c 2 _ rfl
      cases b
      · go_wp2_with fail
        go_ret
        exact ⟨rfl, hb.out⟩
      go_wp2_with (refine wpPr g1.out (.tmp 3) rfl ?_)
      refine (Phase_any A c p N d n day _ (hN.out.below hb.out)).mono ?_
      rintro e w4 ⟨he, hbn⟩
      rw [hph.out] at he
      subst he
      have g1 := Lib.hid (g1.out.below hbn)
      have g2 := Lib.hid (g2.out.below hbn)
      have hb := Lib.hid (below_step hb.out hbn)
      clear hbn c0 c1 c2
      have c0 := g2.out.c 0 _ rfl
      have c1 := g2.out.c 1 _ rfl
      have c2 := g2.out.c 2 _ rfl
      go_wp2_with (refine wpPr g1.out (.tmp 3) rfl ?_)
      refine (DeadlineAt_any A c p N d n day _ (hN.out.below hb.out)).mono ?_
      rintro e w5 ⟨he, hbn⟩
      rw [hdl.out] at he
      subst he
      have g1 := Lib.hid (g1.out.below hbn)
      have g2 := Lib.hid (g2.out.below hbn)
      have hb := Lib.hid (below_step hb.out hbn)
      clear hbn c0 c1 c2
      have c0 := g2.out.c 0 _ rfl
      have c1 := g2.out.c 1 _ rfl
      have c2 := g2.out.c 2 _ rfl
      go_wp2_with (refine wpPr g1.out (.tmp 3) rfl ?_)
      refine (ObjectUntil_any A c p N d n day _ (hN.out.below hb.out)).mono ?_
      rintro e w6 ⟨he, hbn⟩
      rw [hob.out] at he
      subst he
      have g1 := Lib.hid (g1.out.below hbn)
      have g2 := Lib.hid (g2.out.below hbn)
      have hb := Lib.hid (below_step hb.out hbn)
      clear hbn c0 c1 c2
      have c0 := g2.out.c 0 _ rfl
      have c1 := g2.out.c 1 _ rfl
      have c2 := g2.out.c 2 _ rfl
      go_wp2_with (refine wpPr g1.out (.tmp 3) rfl ?_)
      refine (both_any A c p N d n _ (hN.out.below hb.out)).mono ?_
      rintro e w7 ⟨rfl, hbn⟩
      rw [hbo.out]
      have g1 := Lib.hid (g1.out.below hbn)
      have g2 := Lib.hid (g2.out.below hbn)
      have hb := Lib.hid (below_step hb.out hbn)
      clear hbn c0 c1 c2
      have c0 := g2.out.c 0 _ rfl
      have c1 := g2.out.c 1 _ rfl
      have c2 := g2.out.c 2 _ rfl
      go_wp2_with (((first | (go_at_call 86) | (go_at_call 41) | (go_at_call 74) | (go_at_call 28) | (go_at_call 109) | (fail) | (fail)); first | refine rin ?_ | refine rout ?_ | refine rany ?_))
      go_ret
      exact ⟨rfl, hb.out⟩
end Go.Proofs.YtconnjkkgaapbaaGreatDoor
