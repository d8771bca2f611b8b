/- The walk of a statement. -/
import Derived.Test.YtbegbajlagcbdaaGreatDoorC33
import Derived.Test.YtbegbajlagcbdaaGreatDoorC34
import Derived.Test.YtbegbajlagcbdaaGreatDoorQLPlans
namespace Go.Proofs.YtbegbajlagcbdaaGreatDoor
open Go Go.RowKit
theorem start3q (w : World) (A : Option Addr) (c : Nat) (p : Proc) (O : Option Addr) (d : Nat) (order : List Int) (S : Option Addr) (f : Nat) (l : List Stp) (x y : Int) : Hid (BoxAt (((w.alloc (.cells #[.int .i64 p.runs.m, .int .i64 p.runs.d, .bool p.runs.k, .int .i64 p.obj.m, .int .i64 p.obj.d, .bool p.obj.k, .int .i64 p.wait.m, .int .i64 p.wait.d, .bool p.wait.k, .int .i64 p.exts, .int .i64 p.longest, .slice A p.hols.length c] 47)).alloc (.cells #[.slice O order.length d, .slice S l.length f] 59)).alloc (.cells #[.int .i64 x, .int .i64 y] 49)) w.heap.size [.int .i64 p.runs.m, .int .i64 p.runs.d, .bool p.runs.k, .int .i64 p.obj.m, .int .i64 p.obj.d, .bool p.obj.k, .int .i64 p.wait.m, .int .i64 p.wait.d, .bool p.wait.k, .int .i64 p.exts, .int .i64 p.longest, .slice A p.hols.length c]) ∧ Hid (BoxAt (((w.alloc (.cells #[.int .i64 p.runs.m, .int .i64 p.runs.d, .bool p.runs.k, .int .i64 p.obj.m, .int .i64 p.obj.d, .bool p.obj.k, .int .i64 p.wait.m, .int .i64 p.wait.d, .bool p.wait.k, .int .i64 p.exts, .int .i64 p.longest, .slice A p.hols.length c] 47)).alloc (.cells #[.slice O order.length d, .slice S l.length f] 59)).alloc (.cells #[.int .i64 x, .int .i64 y] 49)) (w.heap.size + 1) [.slice O order.length d, .slice S l.length f]) ∧ Hid (BoxAt (((w.alloc (.cells #[.int .i64 p.runs.m, .int .i64 p.runs.d, .bool p.runs.k, .int .i64 p.obj.m, .int .i64 p.obj.d, .bool p.obj.k, .int .i64 p.wait.m, .int .i64 p.wait.d, .bool p.wait.k, .int .i64 p.exts, .int .i64 p.longest, .slice A p.hols.length c] 47)).alloc (.cells #[.slice O order.length d, .slice S l.length f] 59)).alloc (.cells #[.int .i64 x, .int .i64 y] 49)) (w.heap.size + 1 + 1) [.int .i64 x, .int .i64 y]) ∧ Hid (Below w.heap.size w (((w.alloc (.cells #[.int .i64 p.runs.m, .int .i64 p.runs.d, .bool p.runs.k, .int .i64 p.obj.m, .int .i64 p.obj.d, .bool p.obj.k, .int .i64 p.wait.m, .int .i64 p.wait.d, .bool p.wait.k, .int .i64 p.exts, .int .i64 p.longest, .slice A p.hols.length c] 47)).alloc (.cells #[.slice O order.length d, .slice S l.length f] 59)).alloc (.cells #[.int .i64 x, .int .i64 y] 49))) := by
  have h2 := BoxAt.new (w.alloc (.cells #[.int .i64 p.runs.m, .int .i64 p.runs.d, .bool p.runs.k, .int .i64 p.obj.m, .int .i64 p.obj.d, .bool p.obj.k, .int .i64 p.wait.m, .int .i64 p.wait.d, .bool p.wait.k, .int .i64 p.exts, .int .i64 p.longest, .slice A p.hols.length c] 47)) #[.slice O order.length d, .slice S l.length f] 59
  have h3 := BoxAt.new ((w.alloc (.cells #[.int .i64 p.runs.m, .int .i64 p.runs.d, .bool p.runs.k, .int .i64 p.obj.m, .int .i64 p.obj.d, .bool p.obj.k, .int .i64 p.wait.m, .int .i64 p.wait.d, .bool p.wait.k, .int .i64 p.exts, .int .i64 p.longest, .slice A p.hols.length c] 47)).alloc (.cells #[.slice O order.length d, .slice S l.length f] 59)) #[.int .i64 x, .int .i64 y] 49
  simp only [World.size_alloc] at h2 h3
  exact ⟨((BoxAt.new w #[.int .i64 p.runs.m, .int .i64 p.runs.d, .bool p.runs.k, .int .i64 p.obj.m, .int .i64 p.obj.d, .bool p.obj.k, .int .i64 p.wait.m, .int .i64 p.wait.d, .bool p.wait.k, .int .i64 p.exts, .int .i64 p.longest, .slice A p.hols.length c] _).alloc _).alloc _, h2.alloc _, h3, below_step (below_step (below_alloc _ _) (below_alloc _ _)) (below_alloc _ _)⟩
set_option maxRecDepth 100000 in
set_option maxHeartbeats 8000000 in
theorem NoticePlanChecks_any (A : Option Addr) (c : Nat) (p : Proc) (O : Option Addr) (d : Nat) (order : List Int) (S : Option Addr) (f : Nat) (l : List Stp) (x y : Int) (w : World) (hl : Hols w A p.hols) (hT : Tab w) (hI : IntArg w O d order) (hs9 : order.length ≤ 9223372036854775807) (hS : StopArg w S f l) (hl9 : l.length ≤ 9223372036854775807) :
    Calls Tryz.prog 5 #[.agg #[.int .i64 p.runs.m, .int .i64 p.runs.d, .bool p.runs.k, .int .i64 p.obj.m, .int .i64 p.obj.d, .bool p.obj.k, .int .i64 p.wait.m, .int .i64 p.wait.d, .bool p.wait.k, .int .i64 p.exts, .int .i64 p.longest, .slice A p.hols.length c], .agg #[.slice O order.length d, .slice S l.length f], .agg #[.int .i64 x, .int .i64 y]] w fun e w' => e = .returned (.bool true) ∧ Below w.heap.size w w' := by
  have hl := Lib.hid hl
  have hT := Lib.hid hT
  have hI := Lib.hid hI
  have hS := Lib.hid hS
  by_cases h12 : 12 < order.length ∧ order.length ≤ 60
  · obtain ⟨h1, h2⟩ := h12
    obtain ⟨g1, g2, g3, hb⟩ := start3q w A c p O d order S f l x y
    have k0 := g3.out.c 0 _ rfl
    have k1 := g3.out.c 1 _ rfl
    have q0 := g2.out.c 0 _ rfl
    have q1 := g2.out.c 1 _ rfl
    go_enter Tryz.func5, Tryz.ntmps5
    go_wp2_with fail
    refine (nawake_any _ (hT.out.below hb.out)).mono ?_
    rintro e wn ⟨rfl, hbn⟩
    have g1 := Lib.hid (g1.out.below hbn)
    have g2 := Lib.hid (g2.out.below hbn)
    have g3 := Lib.hid (g3.out.below hbn)
    have hb := Lib.hid (below_step hb.out hbn)
    clear hbn k0 k1 q0 q1
    have k0 := g3.out.c 0 _ rfl
    have k1 := g3.out.c 1 _ rfl
    have q0 := g2.out.c 0 _ rfl
    have q1 := g2.out.c 1 _ rfl
    go_wp2_with (refine wpPr g1.out (.tmp 3) rfl ?_)
    refine (Modest_any A c p _ (hl.out.below hb.out)).mono ?_
    rintro e wn ⟨⟨b, rfl⟩, hbn⟩
    have g1 := Lib.hid (g1.out.below hbn)
    have g2 := Lib.hid (g2.out.below hbn)
    have g3 := Lib.hid (g3.out.below hbn)
    have hb := Lib.hid (below_step hb.out hbn)
    clear hbn k0 k1 q0 q1
    have k0 := g3.out.c 0 _ rfl
    have k1 := g3.out.c 1 _ rfl
    have q0 := g2.out.c 0 _ rfl
    have q1 := g2.out.c 1 _ rfl
    cases b
    · go_wp2_with fail
      go_ret
      exact ⟨by first | rfl | done, hb.out⟩
    · go_wp2_with fail
      go_ret
      exact ⟨by first | rfl | done, hb.out⟩
  by_cases h70 : 70 < order.length
  · clear h12
    obtain ⟨g1, g2, g3, hb⟩ := start3q w A c p O d order S f l x y
    have k0 := g3.out.c 0 _ rfl
    have k1 := g3.out.c 1 _ rfl
    have q0 := g2.out.c 0 _ rfl
    have q1 := g2.out.c 1 _ rfl
    go_enter Tryz.func5, Tryz.ntmps5
    go_wp2_with fail
    refine (nawake_any _ (hT.out.below hb.out)).mono ?_
    rintro e wn ⟨rfl, hbn⟩
    have g1 := Lib.hid (g1.out.below hbn)
    have g2 := Lib.hid (g2.out.below hbn)
    have g3 := Lib.hid (g3.out.below hbn)
    have hb := Lib.hid (below_step hb.out hbn)
    clear hbn k0 k1 q0 q1
    have k0 := g3.out.c 0 _ rfl
    have k1 := g3.out.c 1 _ rfl
    have q0 := g2.out.c 0 _ rfl
    have q1 := g2.out.c 1 _ rfl
    go_wp2_with (refine wpPr g1.out (.tmp 3) rfl ?_)
    refine (Modest_any A c p _ (hl.out.below hb.out)).mono ?_
    rintro e wn ⟨⟨b, rfl⟩, hbn⟩
    have g1 := Lib.hid (g1.out.below hbn)
    have g2 := Lib.hid (g2.out.below hbn)
    have g3 := Lib.hid (g3.out.below hbn)
    have hb := Lib.hid (below_step hb.out hbn)
    clear hbn k0 k1 q0 q1
    have k0 := g3.out.c 0 _ rfl
    have k1 := g3.out.c 1 _ rfl
    have q0 := g2.out.c 0 _ rfl
    have q1 := g2.out.c 1 _ rfl
    cases b
    · go_wp2_with fail
      go_ret
      exact ⟨by first | rfl | done, hb.out⟩
    · go_wp2_with fail
      go_ret
      exact ⟨by first | rfl | done, hb.out⟩
  have hs : order.length ≤ 1000000 := by omega
  have h12 : order.length ≤ 12 ∨ 60 < order.length := by omega
  by_cases h14 : 14 < l.length
  · rcases h12 with h12 | h12
    · obtain ⟨g1, g2, g3, hb⟩ := start3q w A c p O d order S f l x y
      have k0 := g3.out.c 0 _ rfl
      have k1 := g3.out.c 1 _ rfl
      have q0 := g2.out.c 0 _ rfl
      have q1 := g2.out.c 1 _ rfl
      go_enter Tryz.func5, Tryz.ntmps5
      go_wp2_with fail
      refine (nawake_any _ (hT.out.below hb.out)).mono ?_
      rintro e wn ⟨rfl, hbn⟩
      have g1 := Lib.hid (g1.out.below hbn)
      have g2 := Lib.hid (g2.out.below hbn)
      have g3 := Lib.hid (g3.out.below hbn)
      have hb := Lib.hid (below_step hb.out hbn)
      clear hbn k0 k1 q0 q1
      have k0 := g3.out.c 0 _ rfl
      have k1 := g3.out.c 1 _ rfl
      have q0 := g2.out.c 0 _ rfl
      have q1 := g2.out.c 1 _ rfl
      go_wp2_with (refine wpPr g1.out (.tmp 3) rfl ?_)
      refine (Modest_any A c p _ (hl.out.below hb.out)).mono ?_
      rintro e wn ⟨⟨b, rfl⟩, hbn⟩
      have g1 := Lib.hid (g1.out.below hbn)
      have g2 := Lib.hid (g2.out.below hbn)
      have g3 := Lib.hid (g3.out.below hbn)
      have hb := Lib.hid (below_step hb.out hbn)
      clear hbn k0 k1 q0 q1
      have k0 := g3.out.c 0 _ rfl
      have k1 := g3.out.c 1 _ rfl
      have q0 := g2.out.c 0 _ rfl
      have q1 := g2.out.c 1 _ rfl
      cases b
      · go_wp2_with fail
        go_ret
        exact ⟨by first | rfl | done, hb.out⟩
      · go_wp2_with fail
        go_ret
        exact ⟨by first | rfl | done, hb.out⟩
    · obtain ⟨g1, g2, g3, hb⟩ := start3q w A c p O d order S f l x y
      have k0 := g3.out.c 0 _ rfl
      have k1 := g3.out.c 1 _ rfl
      have q0 := g2.out.c 0 _ rfl
      have q1 := g2.out.c 1 _ rfl
      go_enter Tryz.func5, Tryz.ntmps5
      go_wp2_with fail
      refine (nawake_any _ (hT.out.below hb.out)).mono ?_
      rintro e wn ⟨rfl, hbn⟩
      have g1 := Lib.hid (g1.out.below hbn)
      have g2 := Lib.hid (g2.out.below hbn)
      have g3 := Lib.hid (g3.out.below hbn)
      have hb := Lib.hid (below_step hb.out hbn)
      clear hbn k0 k1 q0 q1
      have k0 := g3.out.c 0 _ rfl
      have k1 := g3.out.c 1 _ rfl
      have q0 := g2.out.c 0 _ rfl
      have q1 := g2.out.c 1 _ rfl
      go_wp2_with (refine wpPr g1.out (.tmp 3) rfl ?_)
      refine (Modest_any A c p _ (hl.out.below hb.out)).mono ?_
      rintro e wn ⟨⟨b, rfl⟩, hbn⟩
      have g1 := Lib.hid (g1.out.below hbn)
      have g2 := Lib.hid (g2.out.below hbn)
      have g3 := Lib.hid (g3.out.below hbn)
      have hb := Lib.hid (below_step hb.out hbn)
      clear hbn k0 k1 q0 q1
      have k0 := g3.out.c 0 _ rfl
      have k1 := g3.out.c 1 _ rfl
      have q0 := g2.out.c 0 _ rfl
      have q1 := g2.out.c 1 _ rfl
      cases b
      · go_wp2_with fail
        go_ret
        exact ⟨by first | rfl | done, hb.out⟩
      · go_wp2_with fail
        go_ret
        exact ⟨by first | rfl | done, hb.out⟩
  have hsl : l.length ≤ 14 := by omega
  by_cases h0 : Cal.procErr p = 0
  · have hp0 := Lib.hid h0
    by_cases h1 : Cal.ordE order x y = 0
    · have hE : Cal.planE p order x y = 0 := by unfold Cal.planE; rw [if_pos h0, h1]
      obtain ⟨yn, rfl⟩ : ∃ yn : Nat, y = yn := ⟨y.toNat, by have := Cal.planE_ok hE; omega⟩
      have h1z := Lib.hid h1
      have hEz := Lib.hid hE
      have hlen : order.length ≤ 12 := by have := (Cal.planE_ok hE).2.1; omega
      rcases hrs : Cal.rndS p order l x yn with ⟨n, E⟩
      have hPR := Lib.hid hrs
      by_cases hE0 : E = 0
      · subst hE0
        obtain ⟨out, ho1, ho2, ho3⟩ := Cal.plan_least hE hrs
        have hPL : Hid (Cal.planR p order x yn = (out, 0)) := by show _ = _; unfold Cal.planR; rw [if_pos hE, Int.toNat_natCast, ho1]
        have ho12 : out.length ≤ 12 := by omega
        clear h0 h1 h12 hE hrs ho1
        obtain ⟨g1, g2, g3, hb⟩ := start3q w A c p O d order S f l x (yn : Int)
        have k0 := g3.out.c 0 _ rfl
        have k1 := g3.out.c 1 _ rfl
        have q0 := g2.out.c 0 _ rfl
        have q1 := g2.out.c 1 _ rfl
        go_enter Tryz.func5, Tryz.ntmps5
        go_wp2_with fail
        refine (nawake_any _ (hT.out.below hb.out)).mono ?_
        rintro e wn ⟨rfl, hbn⟩
        have g1 := Lib.hid (g1.out.below hbn)
        have g2 := Lib.hid (g2.out.below hbn)
        have g3 := Lib.hid (g3.out.below hbn)
        have hb := Lib.hid (below_step hb.out hbn)
        clear hbn k0 k1 q0 q1
        have k0 := g3.out.c 0 _ rfl
        have k1 := g3.out.c 1 _ rfl
        have q0 := g2.out.c 0 _ rfl
        have q1 := g2.out.c 1 _ rfl
        go_wp2_with (refine wpPr g1.out (.tmp 3) rfl ?_)
        refine (Modest_any A c p _ (hl.out.below hb.out)).mono ?_
        rintro e wn ⟨⟨b, rfl⟩, hbn⟩
        have g1 := Lib.hid (g1.out.below hbn)
        have g2 := Lib.hid (g2.out.below hbn)
        have g3 := Lib.hid (g3.out.below hbn)
        have hb := Lib.hid (below_step hb.out hbn)
        clear hbn k0 k1 q0 q1
        have k0 := g3.out.c 0 _ rfl
        have k1 := g3.out.c 1 _ rfl
        have q0 := g2.out.c 0 _ rfl
        have q1 := g2.out.c 1 _ rfl
        cases b
        · go_wp2_with fail
          go_ret
          exact ⟨by first | rfl | done, hb.out⟩
        · go_wp2_with (refine wpPr g1.out (.tmp 3) rfl ?_)
          refine (CheckRound_any A c p O d order S f l x (yn : Int) _ (hl.out.below hb.out) (hT.out.below hb.out) (hI.out.below hb.out) hs (hS.out.below hb.out) (by omega)).mono ?_
          rintro e wn ⟨rfl, hbn⟩
          have g1 := Lib.hid (g1.out.below hbn)
          have g2 := Lib.hid (g2.out.below hbn)
          have g3 := Lib.hid (g3.out.below hbn)
          have hb := Lib.hid (below_step hb.out hbn)
          clear hbn k0 k1 q0 q1
          have k0 := g3.out.c 0 _ rfl
          have k1 := g3.out.c 1 _ rfl
          have q0 := g2.out.c 0 _ rfl
          have q1 := g2.out.c 1 _ rfl
          rw [hPR.out]
          go_wp2_with (refine wpPr g1.out (.tmp 3) rfl ?_)
          refine (CheckProcedureR_any A c p _ (hl.out.below hb.out)).mono ?_
          rintro e wn ⟨rfl, hbn⟩
          have g1 := Lib.hid (g1.out.below hbn)
          have g2 := Lib.hid (g2.out.below hbn)
          have g3 := Lib.hid (g3.out.below hbn)
          have hb := Lib.hid (below_step hb.out hbn)
          clear hbn k0 k1 q0 q1
          have k0 := g3.out.c 0 _ rfl
          have k1 := g3.out.c 1 _ rfl
          have q0 := g2.out.c 0 _ rfl
          have q1 := g2.out.c 1 _ rfl
          rw [hp0.out]
          go_wp2_with fail
          refine (OrderErr_any O d order x (yn : Int) _ (hI.out.below hb.out) hs).mono ?_
          rintro e wn ⟨rfl, hbn⟩
          have g1 := Lib.hid (g1.out.below hbn)
          have g2 := Lib.hid (g2.out.below hbn)
          have g3 := Lib.hid (g3.out.below hbn)
          have hb := Lib.hid (below_step hb.out hbn)
          clear hbn k0 k1 q0 q1
          have k0 := g3.out.c 0 _ rfl
          have k1 := g3.out.c 1 _ rfl
          have q0 := g2.out.c 0 _ rfl
          have q1 := g2.out.c 1 _ rfl
          rw [h1z.out]
          go_wp2_with (refine wpPr g1.out (.tmp 3) rfl ?_)
          refine (CheckRoundR_any A c p O d order S f l x yn _ (hl.out.below hb.out) (hI.out.below hb.out) (hS.out.below hb.out) (by omega) hEz.out).mono ?_
          rintro e wn ⟨rfl, hbn⟩
          have g1 := Lib.hid (g1.out.below hbn)
          have g2 := Lib.hid (g2.out.below hbn)
          have g3 := Lib.hid (g3.out.below hbn)
          have hb := Lib.hid (below_step hb.out hbn)
          clear hbn k0 k1 q0 q1
          have k0 := g3.out.c 0 _ rfl
          have k1 := g3.out.c 1 _ rfl
          have q0 := g2.out.c 0 _ rfl
          have q1 := g2.out.c 1 _ rfl
          rw [hPR.out]
          go_wp2_with (refine wpPr g1.out (.tmp 3) rfl ?_)
          refine (PlanRound_any A c p O d order x (yn : Int) _ (hl.out.below hb.out) (hT.out.below hb.out) (hI.out.below hb.out) hs).mono ?_
          rintro e wn ⟨v, rfl, hv, hbn⟩
          have g1 := Lib.hid (g1.out.below hbn)
          have g2 := Lib.hid (g2.out.below hbn)
          have g3 := Lib.hid (g3.out.below hbn)
          have hb := Lib.hid (below_step hb.out hbn)
          clear hbn k0 k1 q0 q1
          have k0 := g3.out.c 0 _ rfl
          have k1 := g3.out.c 1 _ rfl
          have q0 := g2.out.c 0 _ rfl
          have q1 := g2.out.c 1 _ rfl
          rw [hPL.out] at hv ⊢
          obtain ⟨A4, c4, rfl, ha⟩ := hv.arg
          have hv := Lib.hid ha
          clear ha
          by_cases hz : out.length = 0
          · obtain rfl : out = [] := List.eq_nil_of_length_eq_zero hz
            simp only [List.length_nil]
            go_wp2_with fail
            go_ret
            exact ⟨by first | rfl | done, hb.out⟩
          · obtain ⟨m, hm⟩ : ∃ m, out.length = m + 1 := ⟨out.length - 1, by omega⟩
            have hnl : m < out.length := by omega
            have hld : Cal.lastD x out = out[m].day := by
              unfold Cal.lastD
              rw [List.getLast?_eq_getElem?, show out.length - 1 = m by omega, List.getElem?_eq_getElem hnl]
            have hle := ho2 (by omega)
            rw [hld] at hle
            obtain ⟨b, o, rfl, _, e0, e1⟩ := stops_at hv.out.rows hnl
            simp only [hm]
            clear hz hv hPL hPR e0 ho2 hld ho3
            generalize out[m].day = dl at *
            have hn12 : m ≤ 12 := by omega
            clear hm hnl ho12
            go_wp2_with fail
            go_ret
            exact ⟨by first | rfl | done, hb.out⟩
      · have hEc : (E != 0) = true := by simpa using hE0
        clear h0 h1 h12 hE hrs hE0
        obtain ⟨g1, g2, g3, hb⟩ := start3q w A c p O d order S f l x (yn : Int)
        have k0 := g3.out.c 0 _ rfl
        have k1 := g3.out.c 1 _ rfl
        have q0 := g2.out.c 0 _ rfl
        have q1 := g2.out.c 1 _ rfl
        go_enter Tryz.func5, Tryz.ntmps5
        go_wp2_with fail
        refine (nawake_any _ (hT.out.below hb.out)).mono ?_
        rintro e wn ⟨rfl, hbn⟩
        have g1 := Lib.hid (g1.out.below hbn)
        have g2 := Lib.hid (g2.out.below hbn)
        have g3 := Lib.hid (g3.out.below hbn)
        have hb := Lib.hid (below_step hb.out hbn)
        clear hbn k0 k1 q0 q1
        have k0 := g3.out.c 0 _ rfl
        have k1 := g3.out.c 1 _ rfl
        have q0 := g2.out.c 0 _ rfl
        have q1 := g2.out.c 1 _ rfl
        go_wp2_with (refine wpPr g1.out (.tmp 3) rfl ?_)
        refine (Modest_any A c p _ (hl.out.below hb.out)).mono ?_
        rintro e wn ⟨⟨b, rfl⟩, hbn⟩
        have g1 := Lib.hid (g1.out.below hbn)
        have g2 := Lib.hid (g2.out.below hbn)
        have g3 := Lib.hid (g3.out.below hbn)
        have hb := Lib.hid (below_step hb.out hbn)
        clear hbn k0 k1 q0 q1
        have k0 := g3.out.c 0 _ rfl
        have k1 := g3.out.c 1 _ rfl
        have q0 := g2.out.c 0 _ rfl
        have q1 := g2.out.c 1 _ rfl
        cases b
        · go_wp2_with fail
          go_ret
          exact ⟨by first | rfl | done, hb.out⟩
        · go_wp2_with (refine wpPr g1.out (.tmp 3) rfl ?_)
          refine (CheckRound_any A c p O d order S f l x (yn : Int) _ (hl.out.below hb.out) (hT.out.below hb.out) (hI.out.below hb.out) hs (hS.out.below hb.out) (by omega)).mono ?_
          rintro e wn ⟨rfl, hbn⟩
          have g1 := Lib.hid (g1.out.below hbn)
          have g2 := Lib.hid (g2.out.below hbn)
          have g3 := Lib.hid (g3.out.below hbn)
          have hb := Lib.hid (below_step hb.out hbn)
          clear hbn k0 k1 q0 q1
          have k0 := g3.out.c 0 _ rfl
          have k1 := g3.out.c 1 _ rfl
          have q0 := g2.out.c 0 _ rfl
          have q1 := g2.out.c 1 _ rfl
          rw [hPR.out]
          go_wp2_with (refine wpPr g1.out (.tmp 3) rfl ?_)
          refine (CheckProcedureR_any A c p _ (hl.out.below hb.out)).mono ?_
          rintro e wn ⟨rfl, hbn⟩
          have g1 := Lib.hid (g1.out.below hbn)
          have g2 := Lib.hid (g2.out.below hbn)
          have g3 := Lib.hid (g3.out.below hbn)
          have hb := Lib.hid (below_step hb.out hbn)
          clear hbn k0 k1 q0 q1
          have k0 := g3.out.c 0 _ rfl
          have k1 := g3.out.c 1 _ rfl
          have q0 := g2.out.c 0 _ rfl
          have q1 := g2.out.c 1 _ rfl
          rw [hp0.out]
          go_wp2_with fail
          refine (OrderErr_any O d order x (yn : Int) _ (hI.out.below hb.out) hs).mono ?_
          rintro e wn ⟨rfl, hbn⟩
          have g1 := Lib.hid (g1.out.below hbn)
          have g2 := Lib.hid (g2.out.below hbn)
          have g3 := Lib.hid (g3.out.below hbn)
          have hb := Lib.hid (below_step hb.out hbn)
          clear hbn k0 k1 q0 q1
          have k0 := g3.out.c 0 _ rfl
          have k1 := g3.out.c 1 _ rfl
          have q0 := g2.out.c 0 _ rfl
          have q1 := g2.out.c 1 _ rfl
          rw [h1z.out]
          go_wp2_with (refine wpPr g1.out (.tmp 3) rfl ?_)
          refine (CheckRoundR_any A c p O d order S f l x yn _ (hl.out.below hb.out) (hI.out.below hb.out) (hS.out.below hb.out) (by omega) hEz.out).mono ?_
          rintro e wn ⟨rfl, hbn⟩
          have g1 := Lib.hid (g1.out.below hbn)
          have g2 := Lib.hid (g2.out.below hbn)
          have g3 := Lib.hid (g3.out.below hbn)
          have hb := Lib.hid (below_step hb.out hbn)
          clear hbn k0 k1 q0 q1
          have k0 := g3.out.c 0 _ rfl
          have k1 := g3.out.c 1 _ rfl
          have q0 := g2.out.c 0 _ rfl
          have q1 := g2.out.c 1 _ rfl
          rw [hPR.out]
          go_wp2_with fail
          go_ret
          exact ⟨by first | rfl | done, hb.out⟩
    · have h1b : (Cal.ordE order x y == 0) = false := by simpa using h1
      have h1c : (Cal.ordE order x y != 0) = true := by simpa using h1
      have hPR : Hid (Cal.rndS p order l x y = (0, Cal.ordE order x y)) := by
        have hE : Cal.planE p order x y = Cal.ordE order x y := by unfold Cal.planE; rw [if_pos h0]
        show _ = _; unfold Cal.rndS; rw [hE, if_neg h1]
      clear h0 h1
      rcases h12 with h12 | h12
      · obtain ⟨g1, g2, g3, hb⟩ := start3q w A c p O d order S f l x y
        have k0 := g3.out.c 0 _ rfl
        have k1 := g3.out.c 1 _ rfl
        have q0 := g2.out.c 0 _ rfl
        have q1 := g2.out.c 1 _ rfl
        go_enter Tryz.func5, Tryz.ntmps5
        go_wp2_with fail
        refine (nawake_any _ (hT.out.below hb.out)).mono ?_
        rintro e wn ⟨rfl, hbn⟩
        have g1 := Lib.hid (g1.out.below hbn)
        have g2 := Lib.hid (g2.out.below hbn)
        have g3 := Lib.hid (g3.out.below hbn)
        have hb := Lib.hid (below_step hb.out hbn)
        clear hbn k0 k1 q0 q1
        have k0 := g3.out.c 0 _ rfl
        have k1 := g3.out.c 1 _ rfl
        have q0 := g2.out.c 0 _ rfl
        have q1 := g2.out.c 1 _ rfl
        go_wp2_with (refine wpPr g1.out (.tmp 3) rfl ?_)
        refine (Modest_any A c p _ (hl.out.below hb.out)).mono ?_
        rintro e wn ⟨⟨b, rfl⟩, hbn⟩
        have g1 := Lib.hid (g1.out.below hbn)
        have g2 := Lib.hid (g2.out.below hbn)
        have g3 := Lib.hid (g3.out.below hbn)
        have hb := Lib.hid (below_step hb.out hbn)
        clear hbn k0 k1 q0 q1
        have k0 := g3.out.c 0 _ rfl
        have k1 := g3.out.c 1 _ rfl
        have q0 := g2.out.c 0 _ rfl
        have q1 := g2.out.c 1 _ rfl
        cases b
        · go_wp2_with fail
          go_ret
          exact ⟨by first | rfl | done, hb.out⟩
        · go_wp2_with (refine wpPr g1.out (.tmp 3) rfl ?_)
          refine (CheckRound_any A c p O d order S f l x y _ (hl.out.below hb.out) (hT.out.below hb.out) (hI.out.below hb.out) hs (hS.out.below hb.out) (by omega)).mono ?_
          rintro e wn ⟨rfl, hbn⟩
          have g1 := Lib.hid (g1.out.below hbn)
          have g2 := Lib.hid (g2.out.below hbn)
          have g3 := Lib.hid (g3.out.below hbn)
          have hb := Lib.hid (below_step hb.out hbn)
          clear hbn k0 k1 q0 q1
          have k0 := g3.out.c 0 _ rfl
          have k1 := g3.out.c 1 _ rfl
          have q0 := g2.out.c 0 _ rfl
          have q1 := g2.out.c 1 _ rfl
          rw [hPR.out]
          go_wp2_with (refine wpPr g1.out (.tmp 3) rfl ?_)
          refine (CheckProcedureR_any A c p _ (hl.out.below hb.out)).mono ?_
          rintro e wn ⟨rfl, hbn⟩
          have g1 := Lib.hid (g1.out.below hbn)
          have g2 := Lib.hid (g2.out.below hbn)
          have g3 := Lib.hid (g3.out.below hbn)
          have hb := Lib.hid (below_step hb.out hbn)
          clear hbn k0 k1 q0 q1
          have k0 := g3.out.c 0 _ rfl
          have k1 := g3.out.c 1 _ rfl
          have q0 := g2.out.c 0 _ rfl
          have q1 := g2.out.c 1 _ rfl
          rw [hp0.out]
          go_wp2_with fail
          refine (OrderErr_any O d order x y _ (hI.out.below hb.out) hs).mono ?_
          rintro e wn ⟨rfl, hbn⟩
          have g1 := Lib.hid (g1.out.below hbn)
          have g2 := Lib.hid (g2.out.below hbn)
          have g3 := Lib.hid (g3.out.below hbn)
          have hb := Lib.hid (below_step hb.out hbn)
          clear hbn k0 k1 q0 q1
          have k0 := g3.out.c 0 _ rfl
          have k1 := g3.out.c 1 _ rfl
          have q0 := g2.out.c 0 _ rfl
          have q1 := g2.out.c 1 _ rfl
          go_wp2_with fail
          go_ret
          exact ⟨by first | rfl | done, hb.out⟩
      · obtain ⟨g1, g2, g3, hb⟩ := start3q w A c p O d order S f l x y
        have k0 := g3.out.c 0 _ rfl
        have k1 := g3.out.c 1 _ rfl
        have q0 := g2.out.c 0 _ rfl
        have q1 := g2.out.c 1 _ rfl
        go_enter Tryz.func5, Tryz.ntmps5
        go_wp2_with fail
        refine (nawake_any _ (hT.out.below hb.out)).mono ?_
        rintro e wn ⟨rfl, hbn⟩
        have g1 := Lib.hid (g1.out.below hbn)
        have g2 := Lib.hid (g2.out.below hbn)
        have g3 := Lib.hid (g3.out.below hbn)
        have hb := Lib.hid (below_step hb.out hbn)
        clear hbn k0 k1 q0 q1
        have k0 := g3.out.c 0 _ rfl
        have k1 := g3.out.c 1 _ rfl
        have q0 := g2.out.c 0 _ rfl
        have q1 := g2.out.c 1 _ rfl
        go_wp2_with (refine wpPr g1.out (.tmp 3) rfl ?_)
        refine (Modest_any A c p _ (hl.out.below hb.out)).mono ?_
        rintro e wn ⟨⟨b, rfl⟩, hbn⟩
        have g1 := Lib.hid (g1.out.below hbn)
        have g2 := Lib.hid (g2.out.below hbn)
        have g3 := Lib.hid (g3.out.below hbn)
        have hb := Lib.hid (below_step hb.out hbn)
        clear hbn k0 k1 q0 q1
        have k0 := g3.out.c 0 _ rfl
        have k1 := g3.out.c 1 _ rfl
        have q0 := g2.out.c 0 _ rfl
        have q1 := g2.out.c 1 _ rfl
        cases b
        · go_wp2_with fail
          go_ret
          exact ⟨by first | rfl | done, hb.out⟩
        · go_wp2_with (refine wpPr g1.out (.tmp 3) rfl ?_)
          refine (CheckRound_any A c p O d order S f l x y _ (hl.out.below hb.out) (hT.out.below hb.out) (hI.out.below hb.out) hs (hS.out.below hb.out) (by omega)).mono ?_
          rintro e wn ⟨rfl, hbn⟩
          have g1 := Lib.hid (g1.out.below hbn)
          have g2 := Lib.hid (g2.out.below hbn)
          have g3 := Lib.hid (g3.out.below hbn)
          have hb := Lib.hid (below_step hb.out hbn)
          clear hbn k0 k1 q0 q1
          have k0 := g3.out.c 0 _ rfl
          have k1 := g3.out.c 1 _ rfl
          have q0 := g2.out.c 0 _ rfl
          have q1 := g2.out.c 1 _ rfl
          rw [hPR.out]
          go_wp2_with (refine wpPr g1.out (.tmp 3) rfl ?_)
          refine (CheckProcedureR_any A c p _ (hl.out.below hb.out)).mono ?_
          rintro e wn ⟨rfl, hbn⟩
          have g1 := Lib.hid (g1.out.below hbn)
          have g2 := Lib.hid (g2.out.below hbn)
          have g3 := Lib.hid (g3.out.below hbn)
          have hb := Lib.hid (below_step hb.out hbn)
          clear hbn k0 k1 q0 q1
          have k0 := g3.out.c 0 _ rfl
          have k1 := g3.out.c 1 _ rfl
          have q0 := g2.out.c 0 _ rfl
          have q1 := g2.out.c 1 _ rfl
          rw [hp0.out]
          go_wp2_with fail
          refine (OrderErr_any O d order x y _ (hI.out.below hb.out) hs).mono ?_
          rintro e wn ⟨rfl, hbn⟩
          have g1 := Lib.hid (g1.out.below hbn)
          have g2 := Lib.hid (g2.out.below hbn)
          have g3 := Lib.hid (g3.out.below hbn)
          have hb := Lib.hid (below_step hb.out hbn)
          clear hbn k0 k1 q0 q1
          have k0 := g3.out.c 0 _ rfl
          have k1 := g3.out.c 1 _ rfl
          have q0 := g2.out.c 0 _ rfl
          have q1 := g2.out.c 1 _ rfl
          go_wp2_with fail
          go_ret
          exact ⟨by first | rfl | done, hb.out⟩
  · have h0b : (Cal.procErr p == 0) = false := by simpa using h0
    have h0c : (Cal.procErr p != 0) = true := by simpa using h0
    have hPR : Hid (Cal.rndS p order l x y = (0, Cal.procErr p)) := by
      have hE : Cal.planE p order x y = Cal.procErr p := by unfold Cal.planE; rw [if_neg h0]
      show _ = _; unfold Cal.rndS; rw [hE, if_neg h0]
    clear h0
    rcases h12 with h12 | h12
    · obtain ⟨g1, g2, g3, hb⟩ := start3q w A c p O d order S f l x y
      have k0 := g3.out.c 0 _ rfl
      have k1 := g3.out.c 1 _ rfl
      have q0 := g2.out.c 0 _ rfl
      have q1 := g2.out.c 1 _ rfl
      go_enter Tryz.func5, Tryz.ntmps5
      go_wp2_with fail
      refine (nawake_any _ (hT.out.below hb.out)).mono ?_
      rintro e wn ⟨rfl, hbn⟩
      have g1 := Lib.hid (g1.out.below hbn)
      have g2 := Lib.hid (g2.out.below hbn)
      have g3 := Lib.hid (g3.out.below hbn)
      have hb := Lib.hid (below_step hb.out hbn)
      clear hbn k0 k1 q0 q1
      have k0 := g3.out.c 0 _ rfl
      have k1 := g3.out.c 1 _ rfl
      have q0 := g2.out.c 0 _ rfl
      have q1 := g2.out.c 1 _ rfl
      go_wp2_with (refine wpPr g1.out (.tmp 3) rfl ?_)
      refine (Modest_any A c p _ (hl.out.below hb.out)).mono ?_
      rintro e wn ⟨⟨b, rfl⟩, hbn⟩
      have g1 := Lib.hid (g1.out.below hbn)
      have g2 := Lib.hid (g2.out.below hbn)
      have g3 := Lib.hid (g3.out.below hbn)
      have hb := Lib.hid (below_step hb.out hbn)
      clear hbn k0 k1 q0 q1
      have k0 := g3.out.c 0 _ rfl
      have k1 := g3.out.c 1 _ rfl
      have q0 := g2.out.c 0 _ rfl
      have q1 := g2.out.c 1 _ rfl
      cases b
      · go_wp2_with fail
        go_ret
        exact ⟨by first | rfl | done, hb.out⟩
      · go_wp2_with (refine wpPr g1.out (.tmp 3) rfl ?_)
        refine (CheckRound_any A c p O d order S f l x y _ (hl.out.below hb.out) (hT.out.below hb.out) (hI.out.below hb.out) hs (hS.out.below hb.out) (by omega)).mono ?_
        rintro e wn ⟨rfl, hbn⟩
        have g1 := Lib.hid (g1.out.below hbn)
        have g2 := Lib.hid (g2.out.below hbn)
        have g3 := Lib.hid (g3.out.below hbn)
        have hb := Lib.hid (below_step hb.out hbn)
        clear hbn k0 k1 q0 q1
        have k0 := g3.out.c 0 _ rfl
        have k1 := g3.out.c 1 _ rfl
        have q0 := g2.out.c 0 _ rfl
        have q1 := g2.out.c 1 _ rfl
        rw [hPR.out]
        go_wp2_with (refine wpPr g1.out (.tmp 3) rfl ?_)
        refine (CheckProcedureR_any A c p _ (hl.out.below hb.out)).mono ?_
        rintro e wn ⟨rfl, hbn⟩
        have g1 := Lib.hid (g1.out.below hbn)
        have g2 := Lib.hid (g2.out.below hbn)
        have g3 := Lib.hid (g3.out.below hbn)
        have hb := Lib.hid (below_step hb.out hbn)
        clear hbn k0 k1 q0 q1
        have k0 := g3.out.c 0 _ rfl
        have k1 := g3.out.c 1 _ rfl
        have q0 := g2.out.c 0 _ rfl
        have q1 := g2.out.c 1 _ rfl
        go_wp2_with fail
        go_ret
        exact ⟨by first | rfl | done, hb.out⟩
    · obtain ⟨g1, g2, g3, hb⟩ := start3q w A c p O d order S f l x y
      have k0 := g3.out.c 0 _ rfl
      have k1 := g3.out.c 1 _ rfl
      have q0 := g2.out.c 0 _ rfl
      have q1 := g2.out.c 1 _ rfl
      go_enter Tryz.func5, Tryz.ntmps5
      go_wp2_with fail
      refine (nawake_any _ (hT.out.below hb.out)).mono ?_
      rintro e wn ⟨rfl, hbn⟩
      have g1 := Lib.hid (g1.out.below hbn)
      have g2 := Lib.hid (g2.out.below hbn)
      have g3 := Lib.hid (g3.out.below hbn)
      have hb := Lib.hid (below_step hb.out hbn)
      clear hbn k0 k1 q0 q1
      have k0 := g3.out.c 0 _ rfl
      have k1 := g3.out.c 1 _ rfl
      have q0 := g2.out.c 0 _ rfl
      have q1 := g2.out.c 1 _ rfl
      go_wp2_with (refine wpPr g1.out (.tmp 3) rfl ?_)
      refine (Modest_any A c p _ (hl.out.below hb.out)).mono ?_
      rintro e wn ⟨⟨b, rfl⟩, hbn⟩
      have g1 := Lib.hid (g1.out.below hbn)
      have g2 := Lib.hid (g2.out.below hbn)
      have g3 := Lib.hid (g3.out.below hbn)
      have hb := Lib.hid (below_step hb.out hbn)
      clear hbn k0 k1 q0 q1
      have k0 := g3.out.c 0 _ rfl
      have k1 := g3.out.c 1 _ rfl
      have q0 := g2.out.c 0 _ rfl
      have q1 := g2.out.c 1 _ rfl
      cases b
      · go_wp2_with fail
        go_ret
        exact ⟨by first | rfl | done, hb.out⟩
      · go_wp2_with (refine wpPr g1.out (.tmp 3) rfl ?_)
        refine (CheckRound_any A c p O d order S f l x y _ (hl.out.below hb.out) (hT.out.below hb.out) (hI.out.below hb.out) hs (hS.out.below hb.out) (by omega)).mono ?_
        rintro e wn ⟨rfl, hbn⟩
        have g1 := Lib.hid (g1.out.below hbn)
        have g2 := Lib.hid (g2.out.below hbn)
        have g3 := Lib.hid (g3.out.below hbn)
        have hb := Lib.hid (below_step hb.out hbn)
        clear hbn k0 k1 q0 q1
        have k0 := g3.out.c 0 _ rfl
        have k1 := g3.out.c 1 _ rfl
        have q0 := g2.out.c 0 _ rfl
        have q1 := g2.out.c 1 _ rfl
        rw [hPR.out]
        go_wp2_with (refine wpPr g1.out (.tmp 3) rfl ?_)
        refine (CheckProcedureR_any A c p _ (hl.out.below hb.out)).mono ?_
        rintro e wn ⟨rfl, hbn⟩
        have g1 := Lib.hid (g1.out.below hbn)
        have g2 := Lib.hid (g2.out.below hbn)
        have g3 := Lib.hid (g3.out.below hbn)
        have hb := Lib.hid (below_step hb.out hbn)
        clear hbn k0 k1 q0 q1
        have k0 := g3.out.c 0 _ rfl
        have k1 := g3.out.c 1 _ rfl
        have q0 := g2.out.c 0 _ rfl
        have q1 := g2.out.c 1 _ rfl
        go_wp2_with fail
        go_ret
        exact ⟨by first | rfl | done, hb.out⟩
end Go.Proofs.YtbegbajlagcbdaaGreatDoor
