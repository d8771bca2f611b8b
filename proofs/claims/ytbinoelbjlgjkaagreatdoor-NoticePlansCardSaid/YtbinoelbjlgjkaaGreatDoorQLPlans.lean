/- The walk of a statement. -/
import Derived.Test.YtbinoelbjlgjkaaGreatDoorC57
import Derived.Test.YtbinoelbjlgjkaaGreatDoorC58
import Derived.Test.YtbinoelbjlgjkaaGreatDoorC36
import Derived.Test.YtbinoelbjlgjkaaGreatDoorC45
namespace Go.Proofs.YtbinoelbjlgjkaaGreatDoor
open Go Go.RowKit
theorem StpsL.arg {w : World} {B : Nat} {v : Value} {out : List Stp} (h : StpsL w B v out) : ∃ A c, v = .slice A out.length c ∧ StopArg w A c out := by
  obtain ⟨A, c, rfl, hr⟩ := OwnL.form h
  rw [List.length_map]
  refine ⟨A, c, rfl, hr, ?_⟩
  have := h.own.2
  rcases this with ⟨h1, h2⟩ | ⟨g, cap, cur, hv, _, _, h3, _⟩
  · simp only [List.length_map] at h1 h2; omega
  · simp only [Value.slice.injEq, List.length_map] at hv; simp only [List.length_map] at h3; omega
set_option maxRecDepth 100000 in
set_option maxHeartbeats 8000000 in
theorem NoticePlans_any (A : Option Addr) (c : Nat) (p : Proc) (O : Option Addr) (d : Nat) (order : List Int) (x y : Int) (w : World) (hl : Hols w A p.hols) (hT : Tab w) (hI : IntArg w O d order) (hs9 : order.length ≤ 9223372036854775807) :
    Calls Tryz.prog 7 #[.agg #[.int .i64 p.runs.m, .int .i64 p.runs.d, .bool p.runs.k, .int .i64 p.obj.m, .int .i64 p.obj.d, .bool p.obj.k, .int .i64 p.wait.m, .int .i64 p.wait.d, .bool p.wait.k, .int .i64 p.exts, .int .i64 p.longest, .slice A p.hols.length c], .slice O order.length d, .agg #[.int .i64 x, .int .i64 y]] w fun e w' => e = .returned (.bool true) ∧ Below w.heap.size w w' := by
  have hl := Lib.hid hl
  have hT := Lib.hid hT
  have hI := Lib.hid hI
  by_cases h12 : 12 < order.length ∧ order.length ≤ 60
  · obtain ⟨h1, h2⟩ := h12
    obtain ⟨g1, g2, hb⟩ := start2o w A c p x y
    have k0 := g2.out.c 0 _ rfl
    have k1 := g2.out.c 1 _ rfl
    go_enter Tryz.func7, Tryz.ntmps7
    go_wp2_with fail
    refine (nawake_any _ (hT.out.below hb.out)).mono ?_
    rintro e wn ⟨rfl, hbn⟩
    have g1 := Lib.hid (g1.out.below hbn)
    have g2 := Lib.hid (g2.out.below hbn)
    have hb := Lib.hid (below_step hb.out hbn)
    clear hbn k0 k1
    have k0 := g2.out.c 0 _ rfl
    have k1 := g2.out.c 1 _ rfl
    go_wp2_with (refine wpPr g1.out (.tmp 3) rfl ?_)
    refine (Modest_any A c p _ (hl.out.below hb.out)).mono ?_
    rintro e wn ⟨⟨b, rfl⟩, hbn⟩
    have g1 := Lib.hid (g1.out.below hbn)
    have g2 := Lib.hid (g2.out.below hbn)
    have hb := Lib.hid (below_step hb.out hbn)
    clear hbn k0 k1
    have k0 := g2.out.c 0 _ rfl
    have k1 := g2.out.c 1 _ rfl
    cases b
    · go_wp2_with fail
      go_ret
      exact ⟨by first | rfl | done, hb.out⟩
    · go_wp2_with fail
      go_ret
      exact ⟨by first | rfl | done, hb.out⟩
  by_cases h70 : 70 < order.length
  · clear h12
    obtain ⟨g1, g2, hb⟩ := start2o w A c p x y
    have k0 := g2.out.c 0 _ rfl
    have k1 := g2.out.c 1 _ rfl
    go_enter Tryz.func7, Tryz.ntmps7
    go_wp2_with fail
    refine (nawake_any _ (hT.out.below hb.out)).mono ?_
    rintro e wn ⟨rfl, hbn⟩
    have g1 := Lib.hid (g1.out.below hbn)
    have g2 := Lib.hid (g2.out.below hbn)
    have hb := Lib.hid (below_step hb.out hbn)
    clear hbn k0 k1
    have k0 := g2.out.c 0 _ rfl
    have k1 := g2.out.c 1 _ rfl
    go_wp2_with (refine wpPr g1.out (.tmp 3) rfl ?_)
    refine (Modest_any A c p _ (hl.out.below hb.out)).mono ?_
    rintro e wn ⟨⟨b, rfl⟩, hbn⟩
    have g1 := Lib.hid (g1.out.below hbn)
    have g2 := Lib.hid (g2.out.below hbn)
    have hb := Lib.hid (below_step hb.out hbn)
    clear hbn k0 k1
    have k0 := g2.out.c 0 _ rfl
    have k1 := g2.out.c 1 _ rfl
    cases b
    · go_wp2_with fail
      go_ret
      exact ⟨by first | rfl | done, hb.out⟩
    · go_wp2_with fail
      go_ret
      exact ⟨by first | rfl | done, hb.out⟩
  have hs : order.length ≤ 1000000 := by omega
  have h12 : order.length ≤ 12 ∨ 60 < order.length := by omega
  by_cases h0 : Cal.procErr p = 0
  · have hp0 := Lib.hid h0
    by_cases h1 : Cal.ordE order x y = 0
    · have hE : Cal.planE p order x y = 0 := by unfold Cal.planE; rw [if_pos h0, h1]
      obtain ⟨yn, rfl⟩ : ∃ yn : Nat, y = yn := ⟨y.toNat, by have := Cal.planE_ok hE; omega⟩
      have h1z := Lib.hid h1
      have hRR := fun w1 h1 h2 => PlanRoundR_any A c p O d order x yn w1 h1 h2 hE
      have hlen : order.length ≤ 12 := by have := (Cal.planE_ok hE).2.1; omega
      clear h12
      cases hpl : Cal.planS p.hols yn x order with
      | none =>
        have hPR : Hid (Cal.planR p order x yn = ([], 2)) := by show _ = _; unfold Cal.planR; rw [if_pos hE, Int.toNat_natCast, hpl]
        rw [hpl] at hRR
        have hRR := Lib.hid hRR
        clear h0 h1 hE hpl
        obtain ⟨g1, g2, hb⟩ := start2o w A c p x (yn : Int)
        have k0 := g2.out.c 0 _ rfl
        have k1 := g2.out.c 1 _ rfl
        go_enter Tryz.func7, Tryz.ntmps7
        go_wp2_with fail
        refine (nawake_any _ (hT.out.below hb.out)).mono ?_
        rintro e wn ⟨rfl, hbn⟩
        have g1 := Lib.hid (g1.out.below hbn)
        have g2 := Lib.hid (g2.out.below hbn)
        have hb := Lib.hid (below_step hb.out hbn)
        clear hbn k0 k1
        have k0 := g2.out.c 0 _ rfl
        have k1 := g2.out.c 1 _ rfl
        go_wp2_with (refine wpPr g1.out (.tmp 3) rfl ?_)
        refine (Modest_any A c p _ (hl.out.below hb.out)).mono ?_
        rintro e wn ⟨⟨b, rfl⟩, hbn⟩
        have g1 := Lib.hid (g1.out.below hbn)
        have g2 := Lib.hid (g2.out.below hbn)
        have hb := Lib.hid (below_step hb.out hbn)
        clear hbn k0 k1
        have k0 := g2.out.c 0 _ rfl
        have k1 := g2.out.c 1 _ rfl
        cases b
        · go_wp2_with fail
          go_ret
          exact ⟨by first | rfl | done, hb.out⟩
        · go_wp2_with (refine wpPr g1.out (.tmp 3) rfl ?_)
          refine (PlanRound_any A c p O d order x (yn : Int) _ (hl.out.below hb.out) (hT.out.below hb.out) (hI.out.below hb.out) hs).mono ?_
          rintro e wn ⟨v, rfl, hv, hbn⟩
          have g1 := Lib.hid (g1.out.below hbn)
          have g2 := Lib.hid (g2.out.below hbn)
          have hb := Lib.hid (below_step hb.out hbn)
          clear hbn k0 k1
          have k0 := g2.out.c 0 _ rfl
          have k1 := g2.out.c 1 _ rfl
          rw [hPR.out] at hv ⊢
          obtain ⟨A4, c4, rfl, ha⟩ := hv.arg
          have hv := Lib.hid ha
          clear ha
          go_wp2_with (refine wpPr g1.out (.tmp 3) rfl ?_)
          refine (CheckProcedureR_any A c p _ (hl.out.below hb.out)).mono ?_
          rintro e wn ⟨rfl, hbn⟩
          have hv := Lib.hid (hv.out.below hbn)
          have g1 := Lib.hid (g1.out.below hbn)
          have g2 := Lib.hid (g2.out.below hbn)
          have hb := Lib.hid (below_step hb.out hbn)
          clear hbn k0 k1
          have k0 := g2.out.c 0 _ rfl
          have k1 := g2.out.c 1 _ rfl
          rw [hp0.out]
          go_wp2_with fail
          refine (OrderErr_any O d order x (yn : Int) _ (hI.out.below hb.out) hs).mono ?_
          rintro e wn ⟨rfl, hbn⟩
          have hv := Lib.hid (hv.out.below hbn)
          have g1 := Lib.hid (g1.out.below hbn)
          have g2 := Lib.hid (g2.out.below hbn)
          have hb := Lib.hid (below_step hb.out hbn)
          clear hbn k0 k1
          have k0 := g2.out.c 0 _ rfl
          have k1 := g2.out.c 1 _ rfl
          rw [h1z.out]
          go_wp2_with (refine wpPr g1.out (.tmp 3) rfl ?_)
          refine (hRR.out _ (hl.out.below hb.out) (hI.out.below hb.out)).mono ?_
          rintro e wn ⟨he, hbn⟩
          obtain rfl := he
          have g1 := Lib.hid (g1.out.below hbn)
          have g2 := Lib.hid (g2.out.below hbn)
          have hb := Lib.hid (below_step hb.out hbn)
          clear hbn k0 k1
          have k0 := g2.out.c 0 _ rfl
          have k1 := g2.out.c 1 _ rfl
          go_wp2_with fail
          go_ret
          exact ⟨by first | rfl | done, hb.out⟩
      | some out =>
        have hPR : Hid (Cal.planR p order x yn = (out, 0)) := by show _ = _; unfold Cal.planR; rw [if_pos hE, Int.toNat_natCast, hpl]
        obtain ⟨hacc, hol⟩ := Cal.plan_accepted hE hpl
        have hacc := Lib.hid hacc
        have ho12 : out.length ≤ 12 := by omega
        rw [hpl] at hRR
        have hRR := Lib.hid hRR
        clear h0 h1 hE hpl hol
        obtain ⟨g1, g2, hb⟩ := start2o w A c p x (yn : Int)
        have k0 := g2.out.c 0 _ rfl
        have k1 := g2.out.c 1 _ rfl
        go_enter Tryz.func7, Tryz.ntmps7
        go_wp2_with fail
        refine (nawake_any _ (hT.out.below hb.out)).mono ?_
        rintro e wn ⟨rfl, hbn⟩
        have g1 := Lib.hid (g1.out.below hbn)
        have g2 := Lib.hid (g2.out.below hbn)
        have hb := Lib.hid (below_step hb.out hbn)
        clear hbn k0 k1
        have k0 := g2.out.c 0 _ rfl
        have k1 := g2.out.c 1 _ rfl
        go_wp2_with (refine wpPr g1.out (.tmp 3) rfl ?_)
        refine (Modest_any A c p _ (hl.out.below hb.out)).mono ?_
        rintro e wn ⟨⟨b, rfl⟩, hbn⟩
        have g1 := Lib.hid (g1.out.below hbn)
        have g2 := Lib.hid (g2.out.below hbn)
        have hb := Lib.hid (below_step hb.out hbn)
        clear hbn k0 k1
        have k0 := g2.out.c 0 _ rfl
        have k1 := g2.out.c 1 _ rfl
        cases b
        · go_wp2_with fail
          go_ret
          exact ⟨by first | rfl | done, hb.out⟩
        · go_wp2_with (refine wpPr g1.out (.tmp 3) rfl ?_)
          refine (PlanRound_any A c p O d order x (yn : Int) _ (hl.out.below hb.out) (hT.out.below hb.out) (hI.out.below hb.out) hs).mono ?_
          rintro e wn ⟨v, rfl, hv, hbn⟩
          have g1 := Lib.hid (g1.out.below hbn)
          have g2 := Lib.hid (g2.out.below hbn)
          have hb := Lib.hid (below_step hb.out hbn)
          clear hbn k0 k1
          have k0 := g2.out.c 0 _ rfl
          have k1 := g2.out.c 1 _ rfl
          rw [hPR.out] at hv ⊢
          obtain ⟨A4, c4, rfl, ha⟩ := hv.arg
          have hv := Lib.hid ha
          clear ha
          go_wp2_with (refine wpPr g1.out (.tmp 3) rfl ?_)
          refine (CheckProcedureR_any A c p _ (hl.out.below hb.out)).mono ?_
          rintro e wn ⟨rfl, hbn⟩
          have hv := Lib.hid (hv.out.below hbn)
          have g1 := Lib.hid (g1.out.below hbn)
          have g2 := Lib.hid (g2.out.below hbn)
          have hb := Lib.hid (below_step hb.out hbn)
          clear hbn k0 k1
          have k0 := g2.out.c 0 _ rfl
          have k1 := g2.out.c 1 _ rfl
          rw [hp0.out]
          go_wp2_with fail
          refine (OrderErr_any O d order x (yn : Int) _ (hI.out.below hb.out) hs).mono ?_
          rintro e wn ⟨rfl, hbn⟩
          have hv := Lib.hid (hv.out.below hbn)
          have g1 := Lib.hid (g1.out.below hbn)
          have g2 := Lib.hid (g2.out.below hbn)
          have hb := Lib.hid (below_step hb.out hbn)
          clear hbn k0 k1
          have k0 := g2.out.c 0 _ rfl
          have k1 := g2.out.c 1 _ rfl
          rw [h1z.out]
          go_wp2_with (refine wpPr g1.out (.tmp 3) rfl ?_)
          refine (hRR.out _ (hl.out.below hb.out) (hI.out.below hb.out)).mono ?_
          rintro e wn ⟨⟨v2, rfl, hv2⟩, hbn⟩
          obtain ⟨A5, c5, rfl, ha⟩ := hv2.arg
          have hv2 := Lib.hid ha
          clear ha
          have hv := Lib.hid (hv.out.below hbn)
          have g1 := Lib.hid (g1.out.below hbn)
          have g2 := Lib.hid (g2.out.below hbn)
          have hb := Lib.hid (below_step hb.out hbn)
          clear hbn k0 k1
          have k0 := g2.out.c 0 _ rfl
          have k1 := g2.out.c 1 _ rfl
          go_wp2_with fail
          refine (SameStops_any A4 A5 c4 c5 out _ hv.out.rows hv2.out.rows (by omega)).mono ?_
          rintro e wn ⟨rfl, hbn⟩
          have hv := Lib.hid (hv.out.below hbn)
          have g1 := Lib.hid (g1.out.below hbn)
          have g2 := Lib.hid (g2.out.below hbn)
          have hb := Lib.hid (below_step hb.out hbn)
          clear hbn k0 k1
          have k0 := g2.out.c 0 _ rfl
          have k1 := g2.out.c 1 _ rfl
          go_wp2_with (refine wpPr g1.out (.tmp 3) rfl ?_)
          refine (CheckRound_any A c p O d order A4 c4 out x (yn : Int) _ (hl.out.below hb.out) (hT.out.below hb.out) (hI.out.below hb.out) hs hv.out (by omega)).mono ?_
          rintro e wn ⟨rfl, hbn⟩
          have hv := Lib.hid (hv.out.below hbn)
          have g1 := Lib.hid (g1.out.below hbn)
          have g2 := Lib.hid (g2.out.below hbn)
          have hb := Lib.hid (below_step hb.out hbn)
          clear hbn k0 k1
          have k0 := g2.out.c 0 _ rfl
          have k1 := g2.out.c 1 _ rfl
          rw [hacc.out]
          by_cases hz : out.length = 0
          · obtain rfl : out = [] := List.eq_nil_of_length_eq_zero hz
            have hld : Cal.lastD x [] = x := rfl
            rw [hld]
            go_wp2_with fail
            go_ret
            exact ⟨by first | rfl | done, hb.out⟩
          · obtain ⟨n, hn⟩ : ∃ n, out.length = n + 1 := ⟨out.length - 1, by omega⟩
            have hnl : n < out.length := by omega
            have hld : Cal.lastD x out = out[n].day := by
              unfold Cal.lastD
              rw [List.getLast?_eq_getElem?, show out.length - 1 = n by omega, List.getElem?_eq_getElem hnl]
            obtain ⟨b, o, rfl, _, e0, e1⟩ := stops_at hv.out.rows hnl
            rw [hld]
            simp only [hn]
            clear hz hv hacc hRR hPR e0
            generalize out[n].day = dl at *
            have hn12 : n ≤ 12 := by omega
            clear hn hnl
            go_wp2_with fail
            go_ret
            exact ⟨by first | rfl | done, hb.out⟩
    · have h1b : (Cal.ordE order x y == 0) = false := by simpa using h1
      have h1c : (Cal.ordE order x y != 0) = true := by simpa using h1
      have hPR : Hid (Cal.planR p order x y = ([], Cal.ordE order x y)) := by
        have hE : Cal.planE p order x y = Cal.ordE order x y := by unfold Cal.planE; rw [if_pos h0]
        show _ = _; unfold Cal.planR; rw [hE, if_neg h1]
      clear h0 h1
      rcases h12 with h12 | h12
      · obtain ⟨g1, g2, hb⟩ := start2o w A c p x y
        have k0 := g2.out.c 0 _ rfl
        have k1 := g2.out.c 1 _ rfl
        go_enter Tryz.func7, Tryz.ntmps7
        go_wp2_with fail
        refine (nawake_any _ (hT.out.below hb.out)).mono ?_
        rintro e wn ⟨rfl, hbn⟩
        have g1 := Lib.hid (g1.out.below hbn)
        have g2 := Lib.hid (g2.out.below hbn)
        have hb := Lib.hid (below_step hb.out hbn)
        clear hbn k0 k1
        have k0 := g2.out.c 0 _ rfl
        have k1 := g2.out.c 1 _ rfl
        go_wp2_with (refine wpPr g1.out (.tmp 3) rfl ?_)
        refine (Modest_any A c p _ (hl.out.below hb.out)).mono ?_
        rintro e wn ⟨⟨b, rfl⟩, hbn⟩
        have g1 := Lib.hid (g1.out.below hbn)
        have g2 := Lib.hid (g2.out.below hbn)
        have hb := Lib.hid (below_step hb.out hbn)
        clear hbn k0 k1
        have k0 := g2.out.c 0 _ rfl
        have k1 := g2.out.c 1 _ rfl
        cases b
        · go_wp2_with fail
          go_ret
          exact ⟨by first | rfl | done, hb.out⟩
        · go_wp2_with (refine wpPr g1.out (.tmp 3) rfl ?_)
          refine (PlanRound_any A c p O d order x y _ (hl.out.below hb.out) (hT.out.below hb.out) (hI.out.below hb.out) hs).mono ?_
          rintro e wn ⟨v, rfl, hv, hbn⟩
          have g1 := Lib.hid (g1.out.below hbn)
          have g2 := Lib.hid (g2.out.below hbn)
          have hb := Lib.hid (below_step hb.out hbn)
          clear hbn k0 k1
          have k0 := g2.out.c 0 _ rfl
          have k1 := g2.out.c 1 _ rfl
          rw [hPR.out] at hv ⊢
          obtain ⟨A4, c4, rfl, ha⟩ := hv.arg
          have hv := Lib.hid ha
          clear ha
          go_wp2_with (refine wpPr g1.out (.tmp 3) rfl ?_)
          refine (CheckProcedureR_any A c p _ (hl.out.below hb.out)).mono ?_
          rintro e wn ⟨rfl, hbn⟩
          have hv := Lib.hid (hv.out.below hbn)
          have g1 := Lib.hid (g1.out.below hbn)
          have g2 := Lib.hid (g2.out.below hbn)
          have hb := Lib.hid (below_step hb.out hbn)
          clear hbn k0 k1
          have k0 := g2.out.c 0 _ rfl
          have k1 := g2.out.c 1 _ rfl
          rw [hp0.out]
          go_wp2_with fail
          refine (OrderErr_any O d order x y _ (hI.out.below hb.out) hs).mono ?_
          rintro e wn ⟨rfl, hbn⟩
          have hv := Lib.hid (hv.out.below hbn)
          have g1 := Lib.hid (g1.out.below hbn)
          have g2 := Lib.hid (g2.out.below hbn)
          have hb := Lib.hid (below_step hb.out hbn)
          clear hbn k0 k1
          have k0 := g2.out.c 0 _ rfl
          have k1 := g2.out.c 1 _ rfl
          go_wp2_with fail
          go_ret
          exact ⟨by first | rfl | done, hb.out⟩
      · obtain ⟨g1, g2, hb⟩ := start2o w A c p x y
        have k0 := g2.out.c 0 _ rfl
        have k1 := g2.out.c 1 _ rfl
        go_enter Tryz.func7, Tryz.ntmps7
        go_wp2_with fail
        refine (nawake_any _ (hT.out.below hb.out)).mono ?_
        rintro e wn ⟨rfl, hbn⟩
        have g1 := Lib.hid (g1.out.below hbn)
        have g2 := Lib.hid (g2.out.below hbn)
        have hb := Lib.hid (below_step hb.out hbn)
        clear hbn k0 k1
        have k0 := g2.out.c 0 _ rfl
        have k1 := g2.out.c 1 _ rfl
        go_wp2_with (refine wpPr g1.out (.tmp 3) rfl ?_)
        refine (Modest_any A c p _ (hl.out.below hb.out)).mono ?_
        rintro e wn ⟨⟨b, rfl⟩, hbn⟩
        have g1 := Lib.hid (g1.out.below hbn)
        have g2 := Lib.hid (g2.out.below hbn)
        have hb := Lib.hid (below_step hb.out hbn)
        clear hbn k0 k1
        have k0 := g2.out.c 0 _ rfl
        have k1 := g2.out.c 1 _ rfl
        cases b
        · go_wp2_with fail
          go_ret
          exact ⟨by first | rfl | done, hb.out⟩
        · go_wp2_with (refine wpPr g1.out (.tmp 3) rfl ?_)
          refine (PlanRound_any A c p O d order x y _ (hl.out.below hb.out) (hT.out.below hb.out) (hI.out.below hb.out) hs).mono ?_
          rintro e wn ⟨v, rfl, hv, hbn⟩
          have g1 := Lib.hid (g1.out.below hbn)
          have g2 := Lib.hid (g2.out.below hbn)
          have hb := Lib.hid (below_step hb.out hbn)
          clear hbn k0 k1
          have k0 := g2.out.c 0 _ rfl
          have k1 := g2.out.c 1 _ rfl
          rw [hPR.out] at hv ⊢
          obtain ⟨A4, c4, rfl, ha⟩ := hv.arg
          have hv := Lib.hid ha
          clear ha
          go_wp2_with (refine wpPr g1.out (.tmp 3) rfl ?_)
          refine (CheckProcedureR_any A c p _ (hl.out.below hb.out)).mono ?_
          rintro e wn ⟨rfl, hbn⟩
          have hv := Lib.hid (hv.out.below hbn)
          have g1 := Lib.hid (g1.out.below hbn)
          have g2 := Lib.hid (g2.out.below hbn)
          have hb := Lib.hid (below_step hb.out hbn)
          clear hbn k0 k1
          have k0 := g2.out.c 0 _ rfl
          have k1 := g2.out.c 1 _ rfl
          rw [hp0.out]
          go_wp2_with fail
          refine (OrderErr_any O d order x y _ (hI.out.below hb.out) hs).mono ?_
          rintro e wn ⟨rfl, hbn⟩
          have hv := Lib.hid (hv.out.below hbn)
          have g1 := Lib.hid (g1.out.below hbn)
          have g2 := Lib.hid (g2.out.below hbn)
          have hb := Lib.hid (below_step hb.out hbn)
          clear hbn k0 k1
          have k0 := g2.out.c 0 _ rfl
          have k1 := g2.out.c 1 _ rfl
          go_wp2_with fail
          go_ret
          exact ⟨by first | rfl | done, hb.out⟩
  · have h0b : (Cal.procErr p == 0) = false := by simpa using h0
    have h0c : (Cal.procErr p != 0) = true := by simpa using h0
    have hPR : Hid (Cal.planR p order x y = ([], Cal.procErr p)) := by
      have hE : Cal.planE p order x y = Cal.procErr p := by unfold Cal.planE; rw [if_neg h0]
      show _ = _; unfold Cal.planR; rw [hE, if_neg h0]
    clear h0
    rcases h12 with h12 | h12
    · obtain ⟨g1, g2, hb⟩ := start2o w A c p x y
      have k0 := g2.out.c 0 _ rfl
      have k1 := g2.out.c 1 _ rfl
      go_enter Tryz.func7, Tryz.ntmps7
      go_wp2_with fail
      refine (nawake_any _ (hT.out.below hb.out)).mono ?_
      rintro e wn ⟨rfl, hbn⟩
      have g1 := Lib.hid (g1.out.below hbn)
      have g2 := Lib.hid (g2.out.below hbn)
      have hb := Lib.hid (below_step hb.out hbn)
      clear hbn k0 k1
      have k0 := g2.out.c 0 _ rfl
      have k1 := g2.out.c 1 _ rfl
      go_wp2_with (refine wpPr g1.out (.tmp 3) rfl ?_)
      refine (Modest_any A c p _ (hl.out.below hb.out)).mono ?_
      rintro e wn ⟨⟨b, rfl⟩, hbn⟩
      have g1 := Lib.hid (g1.out.below hbn)
      have g2 := Lib.hid (g2.out.below hbn)
      have hb := Lib.hid (below_step hb.out hbn)
      clear hbn k0 k1
      have k0 := g2.out.c 0 _ rfl
      have k1 := g2.out.c 1 _ rfl
      cases b
      · go_wp2_with fail
        go_ret
        exact ⟨by first | rfl | done, hb.out⟩
      · go_wp2_with (refine wpPr g1.out (.tmp 3) rfl ?_)
        refine (PlanRound_any A c p O d order x y _ (hl.out.below hb.out) (hT.out.below hb.out) (hI.out.below hb.out) hs).mono ?_
        rintro e wn ⟨v, rfl, hv, hbn⟩
        have g1 := Lib.hid (g1.out.below hbn)
        have g2 := Lib.hid (g2.out.below hbn)
        have hb := Lib.hid (below_step hb.out hbn)
        clear hbn k0 k1
        have k0 := g2.out.c 0 _ rfl
        have k1 := g2.out.c 1 _ rfl
        rw [hPR.out] at hv ⊢
        obtain ⟨A4, c4, rfl, ha⟩ := hv.arg
        have hv := Lib.hid ha
        clear ha
        go_wp2_with (refine wpPr g1.out (.tmp 3) rfl ?_)
        refine (CheckProcedureR_any A c p _ (hl.out.below hb.out)).mono ?_
        rintro e wn ⟨rfl, hbn⟩
        have hv := Lib.hid (hv.out.below hbn)
        have g1 := Lib.hid (g1.out.below hbn)
        have g2 := Lib.hid (g2.out.below hbn)
        have hb := Lib.hid (below_step hb.out hbn)
        clear hbn k0 k1
        have k0 := g2.out.c 0 _ rfl
        have k1 := g2.out.c 1 _ rfl
        go_wp2_with fail
        go_ret
        exact ⟨by first | rfl | done, hb.out⟩
    · obtain ⟨g1, g2, hb⟩ := start2o w A c p x y
      have k0 := g2.out.c 0 _ rfl
      have k1 := g2.out.c 1 _ rfl
      go_enter Tryz.func7, Tryz.ntmps7
      go_wp2_with fail
      refine (nawake_any _ (hT.out.below hb.out)).mono ?_
      rintro e wn ⟨rfl, hbn⟩
      have g1 := Lib.hid (g1.out.below hbn)
      have g2 := Lib.hid (g2.out.below hbn)
      have hb := Lib.hid (below_step hb.out hbn)
      clear hbn k0 k1
      have k0 := g2.out.c 0 _ rfl
      have k1 := g2.out.c 1 _ rfl
      go_wp2_with (refine wpPr g1.out (.tmp 3) rfl ?_)
      refine (Modest_any A c p _ (hl.out.below hb.out)).mono ?_
      rintro e wn ⟨⟨b, rfl⟩, hbn⟩
      have g1 := Lib.hid (g1.out.below hbn)
      have g2 := Lib.hid (g2.out.below hbn)
      have hb := Lib.hid (below_step hb.out hbn)
      clear hbn k0 k1
      have k0 := g2.out.c 0 _ rfl
      have k1 := g2.out.c 1 _ rfl
      cases b
      · go_wp2_with fail
        go_ret
        exact ⟨by first | rfl | done, hb.out⟩
      · go_wp2_with (refine wpPr g1.out (.tmp 3) rfl ?_)
        refine (PlanRound_any A c p O d order x y _ (hl.out.below hb.out) (hT.out.below hb.out) (hI.out.below hb.out) hs).mono ?_
        rintro e wn ⟨v, rfl, hv, hbn⟩
        have g1 := Lib.hid (g1.out.below hbn)
        have g2 := Lib.hid (g2.out.below hbn)
        have hb := Lib.hid (below_step hb.out hbn)
        clear hbn k0 k1
        have k0 := g2.out.c 0 _ rfl
        have k1 := g2.out.c 1 _ rfl
        rw [hPR.out] at hv ⊢
        obtain ⟨A4, c4, rfl, ha⟩ := hv.arg
        have hv := Lib.hid ha
        clear ha
        go_wp2_with (refine wpPr g1.out (.tmp 3) rfl ?_)
        refine (CheckProcedureR_any A c p _ (hl.out.below hb.out)).mono ?_
        rintro e wn ⟨rfl, hbn⟩
        have hv := Lib.hid (hv.out.below hbn)
        have g1 := Lib.hid (g1.out.below hbn)
        have g2 := Lib.hid (g2.out.below hbn)
        have hb := Lib.hid (below_step hb.out hbn)
        clear hbn k0 k1
        have k0 := g2.out.c 0 _ rfl
        have k1 := g2.out.c 1 _ rfl
        go_wp2_with fail
        go_ret
        exact ⟨by first | rfl | done, hb.out⟩
end Go.Proofs.YtbinoelbjlgjkaaGreatDoor
