/- The walk of a statement. -/
import Derived.Test.YtbegbajlagcbdaaGreatDoorC63
import Derived.Test.YtbegbajlagcbdaaGreatDoorC70
import Derived.Test.YtbegbajlagcbdaaGreatDoorC71
import Derived.Test.YtbegbajlagcbdaaGreatDoorC13
namespace Go.Proofs.YtbegbajlagcbdaaGreatDoor
open Go Go.RowKit
/-- A procedure that is loaded whole, behind a guard that lets it. -/
theorem wpPrD {ops : Array Oper} {rest : List Oper} {op : Oper} {a : Act} {w : World} {Q : Exit → Act → World → Prop} {B c : Nat} {A : Option Addr} {p : Proc} (h : BoxAt w B [.int .i64 p.runs.m, .int .i64 p.runs.d, .bool p.runs.k, .int .i64 p.obj.m, .int .i64 p.obj.d, .bool p.obj.k, .int .i64 p.wait.m, .int .i64 p.wait.d, .bool p.wait.k, .int .i64 p.exts, .int .i64 p.longest, .slice A p.hols.length c]) (x : Operand) (hx : a.eval x = .pointer (some ⟨B, 0, none⟩))
    (k : wpList Tryz.prog ops Q rest (a.put op.dst (.agg #[.int .i64 p.runs.m, .int .i64 p.runs.d, .bool p.runs.k, .int .i64 p.obj.m, .int .i64 p.obj.d, .bool p.obj.k, .int .i64 p.wait.m, .int .i64 p.wait.d, .bool p.wait.k, .int .i64 p.exts, .int .i64 p.longest, .slice A p.hols.length c])) w) (ho : op.op = .load 47 x := by exact rfl) (hw : Region.wanted op (yielded ops a.tmps) = true := by kernel_rfl) : wpList Tryz.prog ops Q (op :: rest) a w :=
  BigFrame.wpList_want hw fun _ hK => wp_load_mid 47 x ho B 0 hx [.int .i64 p.runs.m, .int .i64 p.runs.d, .bool p.runs.k, .int .i64 p.obj.m, .int .i64 p.obj.d, .bool p.obj.k, .int .i64 p.wait.m, .int .i64 p.wait.d, .bool p.wait.k, .int .i64 p.exts, .int .i64 p.longest, .slice A p.hols.length c] _ h.range Tryz.underlying47 rfl prSize (hK _ _ k)
set_option maxRecDepth 100000 in
set_option maxHeartbeats 8000000 in
theorem NoticeDues_any (A : Option Addr) (c : Nat) (p : Proc) (L : Option Addr) (lc : Nat) (l : List NtE) (x y : Int) (w : World) (hl : Hols w A p.hols) (hT : Tab w) (hN : Nts w L lc l) :
    Calls Tryz.prog 4 #[.agg #[.int .i64 p.runs.m, .int .i64 p.runs.d, .bool p.runs.k, .int .i64 p.obj.m, .int .i64 p.obj.d, .bool p.obj.k, .int .i64 p.wait.m, .int .i64 p.wait.d, .bool p.wait.k, .int .i64 p.exts, .int .i64 p.longest, .slice A p.hols.length c], .slice L l.length lc, .agg #[.int .i64 x, .int .i64 y]] w fun e w' => e = .returned (.bool true) ∧ Below w.heap.size w w' := by
  have hl := Lib.hid hl
  have hT := Lib.hid hT
  have hN := Lib.hid hN
  by_cases h0 : Cal.procErr p = 0
  · have hp0 := Lib.hid h0
    by_cases h1 : Cal.ntsE p l = 0
    · have hn0 := Lib.hid h1
      have hEE : Cal.dueE p l x y = if 0 ≤ x ∧ x ≤ 200000 ∧ 0 ≤ y ∧ y ≤ 200000 then (if y < x then 9 else 0) else 2 := by unfold Cal.dueE; rw [if_pos h0, if_pos h1]
      clear h0 h1
      by_cases hx : 0 ≤ x ∧ x ≤ 200000
      · obtain ⟨x0, x1⟩ := hx
        by_cases hy : 0 ≤ y ∧ y ≤ 200000
        · obtain ⟨y0, y1⟩ := hy
          rw [if_pos ⟨x0, x1, y0, y1⟩] at hEE
          by_cases hxy : y < x
          · rw [if_pos hxy] at hEE
            have hE : Hid (Cal.dueE p l x y = 9) := hEE
            have hL : Hid (Cal.dueL p l x y = []) := by show _ = _; unfold Cal.dueL; rw [hEE, if_neg (by decide)]
            clear hEE
            obtain ⟨g1, g2, hb⟩ := start2p w A c p x y
            have k0 := g2.out.c 0 _ rfl
            have k1 := g2.out.c 1 _ rfl
            go_enter Tryz.func4, Tryz.ntmps4
            go_wp2_with fail
            refine (nawake_any _ (hT.out.below hb.out)).mono ?_
            rintro e wn ⟨rfl, hbn⟩
            have g1 := Lib.hid (g1.out.below hbn)
            have g2 := Lib.hid (g2.out.below hbn)
            have hb := Lib.hid (below_step hb.out hbn)
            clear hbn k0 k1
            have k0 := g2.out.c 0 _ rfl
            have k1 := g2.out.c 1 _ rfl
            go_wp2_with (refine wpPr g1.out (.tmp 3) rfl ?_)
            refine (Modest_any A c p _ (hl.out.below hb.out)).mono ?_
            rintro e wn ⟨⟨b, rfl⟩, hbn⟩
            have g1 := Lib.hid (g1.out.below hbn)
            have g2 := Lib.hid (g2.out.below hbn)
            have hb := Lib.hid (below_step hb.out hbn)
            clear hbn k0 k1
            have k0 := g2.out.c 0 _ rfl
            have k1 := g2.out.c 1 _ rfl
            cases b
            · go_wp2_with fail
              go_ret
              exact ⟨by first | rfl | done, hb.out⟩
            go_wp2_with fail
            refine (brief_any L lc l _ (hN.out.below hb.out)).mono ?_
            rintro e wn ⟨⟨b, rfl⟩, hbn⟩
            have g1 := Lib.hid (g1.out.below hbn)
            have g2 := Lib.hid (g2.out.below hbn)
            have hb := Lib.hid (below_step hb.out hbn)
            clear hbn k0 k1
            have k0 := g2.out.c 0 _ rfl
            have k1 := g2.out.c 1 _ rfl
            cases b
            · go_wp2_with fail
              go_ret
              exact ⟨by first | rfl | done, hb.out⟩
            go_wp2_with (refine wpPr g1.out (.tmp 3) rfl ?_)
            refine (Due_any A c p L lc l x y _ (hl.out.below hb.out) (hT.out.below hb.out) (hN.out.below hb.out)).mono ?_
            rintro e wn ⟨v, rfl, hv, hbn⟩
            obtain ⟨A4, c4, rfl, _⟩ := hv.rows
            have hv := Lib.hid hv
            have g1 := Lib.hid (g1.out.below hbn)
            have g2 := Lib.hid (g2.out.below hbn)
            have hb := Lib.hid (below_step hb.out hbn)
            clear hbn k0 k1
            have k0 := g2.out.c 0 _ rfl
            have k1 := g2.out.c 1 _ rfl
            rw [hE.out]
            rw [hL.out] at hv
            rw [hL.out]
            go_wp2_with (refine wpPr g1.out (.tmp 3) rfl ?_)
            refine (CheckProcedureR_any A c p _ (hl.out.below hb.out)).mono ?_
            rintro e wn ⟨rfl, hbn⟩
            have hv := Lib.hid (IntsL.below hv.out hbn)
            have g1 := Lib.hid (g1.out.below hbn)
            have g2 := Lib.hid (g2.out.below hbn)
            have hb := Lib.hid (below_step hb.out hbn)
            clear hbn k0 k1
            have k0 := g2.out.c 0 _ rfl
            have k1 := g2.out.c 1 _ rfl
            rw [hp0.out]
            go_wp2_with (refine wpPr g1.out (.tmp 3) rfl ?_)
            refine (CheckNoticesR_any A c p L lc l _ (hl.out.below hb.out) (hN.out.below hb.out) hp0.out).mono ?_
            rintro e wn ⟨rfl, hbn⟩
            have hv := Lib.hid (IntsL.below hv.out hbn)
            have g1 := Lib.hid (g1.out.below hbn)
            have g2 := Lib.hid (g2.out.below hbn)
            have hb := Lib.hid (below_step hb.out hbn)
            clear hbn k0 k1
            have k0 := g2.out.c 0 _ rfl
            have k1 := g2.out.c 1 _ rfl
            rw [hn0.out]
            go_wp2_with (first | ((first | (go_at_call 134) | (go_at_call 59) | (go_at_call 133) | (go_at_call 14) | (go_at_call 178) | (fail) | (go_at_call 139)); first | refine rin ?_ | refine rout ?_ | refine rany ?_) | fail)
            go_ret
            exact ⟨by first | rfl | done, hb.out⟩
          · rw [if_neg hxy] at hEE
            have hE : Hid (Cal.dueE p l x y = 0) := hEE
            have hL : Hid (Cal.dueL p l x y = Cal.dueO p l x y) := by show _ = _; unfold Cal.dueL; rw [hEE, if_pos rfl]
            have hxy' : x ≤ y := by omega
            clear hEE hxy
            obtain ⟨g1, g2, hb⟩ := start2p w A c p x y
            have k0 := g2.out.c 0 _ rfl
            have k1 := g2.out.c 1 _ rfl
            go_enter Tryz.func4, Tryz.ntmps4
            go_wp2_with fail
            refine (nawake_any _ (hT.out.below hb.out)).mono ?_
            rintro e wn ⟨rfl, hbn⟩
            have g1 := Lib.hid (g1.out.below hbn)
            have g2 := Lib.hid (g2.out.below hbn)
            have hb := Lib.hid (below_step hb.out hbn)
            clear hbn k0 k1
            have k0 := g2.out.c 0 _ rfl
            have k1 := g2.out.c 1 _ rfl
            go_wp2_with (refine wpPr g1.out (.tmp 3) rfl ?_)
            refine (Modest_any A c p _ (hl.out.below hb.out)).mono ?_
            rintro e wn ⟨⟨b, rfl⟩, hbn⟩
            have g1 := Lib.hid (g1.out.below hbn)
            have g2 := Lib.hid (g2.out.below hbn)
            have hb := Lib.hid (below_step hb.out hbn)
            clear hbn k0 k1
            have k0 := g2.out.c 0 _ rfl
            have k1 := g2.out.c 1 _ rfl
            cases b
            · go_wp2_with fail
              go_ret
              exact ⟨by first | rfl | done, hb.out⟩
            go_wp2_with fail
            refine (brief_any L lc l _ (hN.out.below hb.out)).mono ?_
            rintro e wn ⟨⟨b, rfl⟩, hbn⟩
            have g1 := Lib.hid (g1.out.below hbn)
            have g2 := Lib.hid (g2.out.below hbn)
            have hb := Lib.hid (below_step hb.out hbn)
            clear hbn k0 k1
            have k0 := g2.out.c 0 _ rfl
            have k1 := g2.out.c 1 _ rfl
            cases b
            · go_wp2_with fail
              go_ret
              exact ⟨by first | rfl | done, hb.out⟩
            go_wp2_with (refine wpPr g1.out (.tmp 3) rfl ?_)
            refine (Due_any A c p L lc l x y _ (hl.out.below hb.out) (hT.out.below hb.out) (hN.out.below hb.out)).mono ?_
            rintro e wn ⟨v, rfl, hv, hbn⟩
            obtain ⟨A4, c4, rfl, _⟩ := hv.rows
            have hv := Lib.hid hv
            have g1 := Lib.hid (g1.out.below hbn)
            have g2 := Lib.hid (g2.out.below hbn)
            have hb := Lib.hid (below_step hb.out hbn)
            clear hbn k0 k1
            have k0 := g2.out.c 0 _ rfl
            have k1 := g2.out.c 1 _ rfl
            rw [hE.out]
            rw [hL.out] at hv
            rw [hL.out]
            go_wp2_with (refine wpPr g1.out (.tmp 3) rfl ?_)
            refine (CheckProcedureR_any A c p _ (hl.out.below hb.out)).mono ?_
            rintro e wn ⟨rfl, hbn⟩
            have hv := Lib.hid (IntsL.below hv.out hbn)
            have g1 := Lib.hid (g1.out.below hbn)
            have g2 := Lib.hid (g2.out.below hbn)
            have hb := Lib.hid (below_step hb.out hbn)
            clear hbn k0 k1
            have k0 := g2.out.c 0 _ rfl
            have k1 := g2.out.c 1 _ rfl
            rw [hp0.out]
            go_wp2_with (refine wpPr g1.out (.tmp 3) rfl ?_)
            refine (CheckNoticesR_any A c p L lc l _ (hl.out.below hb.out) (hN.out.below hb.out) hp0.out).mono ?_
            rintro e wn ⟨rfl, hbn⟩
            have hv := Lib.hid (IntsL.below hv.out hbn)
            have g1 := Lib.hid (g1.out.below hbn)
            have g2 := Lib.hid (g2.out.below hbn)
            have hb := Lib.hid (below_step hb.out hbn)
            clear hbn k0 k1
            have k0 := g2.out.c 0 _ rfl
            have k1 := g2.out.c 1 _ rfl
            rw [hn0.out]
            go_wp2_with (first | ((first | (go_at_call 134) | (go_at_call 59) | (go_at_call 133) | (go_at_call 14) | (go_at_call 178) | (fail) | (go_at_call 139)); first | refine rin ?_ | refine rout ?_ | refine rany ?_) | (refine wpPrD g1.out (.tmp 3) rfl ?_))
            refine (DueR_any A c p L lc l x y _ (hl.out.below hb.out) (hN.out.below hb.out) hn0.out).mono ?_
            rintro e wn ⟨u, rfl, hu, hbn⟩
            have hv := Lib.hid (IntsL.below hv.out hbn)
            have g1 := Lib.hid (g1.out.below hbn)
            have g2 := Lib.hid (g2.out.below hbn)
            have hb := Lib.hid (below_step hb.out hbn)
            clear hbn k0 k1
            have k0 := g2.out.c 0 _ rfl
            have k1 := g2.out.c 1 _ rfl
            have hsz : (Cal.dueO p l x y).length ≤ 1000000 := by
              unfold Cal.dueO
              rw [List.length_map]
              have h := Cal.dueI_length (Cal.dueK p l) (Cal.duesB p l x y) l.length
              have := Cal.ntsE_len hn0.out
              omega
            go_wp2_with fail
            refine (Ints_any _ _ _ _ _ _ (hv.out.slice hsz) (hu.slice hsz)).mono ?_
            rintro e wn ⟨rfl, hbn⟩
            clear hu
            have g1 := Lib.hid (g1.out.below hbn)
            have g2 := Lib.hid (g2.out.below hbn)
            have hb := Lib.hid (below_step hb.out hbn)
            clear hbn k0 k1
            have k0 := g2.out.c 0 _ rfl
            have k1 := g2.out.c 1 _ rfl
            go_wp2_with (first | ((first | (go_at_call 134) | (go_at_call 59) | (go_at_call 133) | (go_at_call 14) | (go_at_call 178) | (fail) | (go_at_call 139)); first | refine rin ?_ | refine rout ?_ | refine rany ?_) | fail)
            go_ret
            exact ⟨by first | rfl | done, hb.out⟩
        · have hE' : Cal.dueE p l x y = 2 := by rw [hEE, if_neg (fun h => hy ⟨h.2.2.1, h.2.2.2⟩)]
          have hE : Hid (Cal.dueE p l x y = 2) := hE'
          have hL : Hid (Cal.dueL p l x y = []) := by show _ = _; unfold Cal.dueL; rw [hE', if_neg (by decide)]
          have hy' : y < 0 ∨ 200000 < y := by omega
          clear hEE hE' hy
          obtain ⟨g1, g2, hb⟩ := start2p w A c p x y
          have k0 := g2.out.c 0 _ rfl
          have k1 := g2.out.c 1 _ rfl
          go_enter Tryz.func4, Tryz.ntmps4
          go_wp2_with fail
          refine (nawake_any _ (hT.out.below hb.out)).mono ?_
          rintro e wn ⟨rfl, hbn⟩
          have g1 := Lib.hid (g1.out.below hbn)
          have g2 := Lib.hid (g2.out.below hbn)
          have hb := Lib.hid (below_step hb.out hbn)
          clear hbn k0 k1
          have k0 := g2.out.c 0 _ rfl
          have k1 := g2.out.c 1 _ rfl
          go_wp2_with (refine wpPr g1.out (.tmp 3) rfl ?_)
          refine (Modest_any A c p _ (hl.out.below hb.out)).mono ?_
          rintro e wn ⟨⟨b, rfl⟩, hbn⟩
          have g1 := Lib.hid (g1.out.below hbn)
          have g2 := Lib.hid (g2.out.below hbn)
          have hb := Lib.hid (below_step hb.out hbn)
          clear hbn k0 k1
          have k0 := g2.out.c 0 _ rfl
          have k1 := g2.out.c 1 _ rfl
          cases b
          · go_wp2_with fail
            go_ret
            exact ⟨by first | rfl | done, hb.out⟩
          go_wp2_with fail
          refine (brief_any L lc l _ (hN.out.below hb.out)).mono ?_
          rintro e wn ⟨⟨b, rfl⟩, hbn⟩
          have g1 := Lib.hid (g1.out.below hbn)
          have g2 := Lib.hid (g2.out.below hbn)
          have hb := Lib.hid (below_step hb.out hbn)
          clear hbn k0 k1
          have k0 := g2.out.c 0 _ rfl
          have k1 := g2.out.c 1 _ rfl
          cases b
          · go_wp2_with fail
            go_ret
            exact ⟨by first | rfl | done, hb.out⟩
          go_wp2_with (refine wpPr g1.out (.tmp 3) rfl ?_)
          refine (Due_any A c p L lc l x y _ (hl.out.below hb.out) (hT.out.below hb.out) (hN.out.below hb.out)).mono ?_
          rintro e wn ⟨v, rfl, hv, hbn⟩
          obtain ⟨A4, c4, rfl, _⟩ := hv.rows
          have hv := Lib.hid hv
          have g1 := Lib.hid (g1.out.below hbn)
          have g2 := Lib.hid (g2.out.below hbn)
          have hb := Lib.hid (below_step hb.out hbn)
          clear hbn k0 k1
          have k0 := g2.out.c 0 _ rfl
          have k1 := g2.out.c 1 _ rfl
          rw [hE.out]
          rw [hL.out] at hv
          rw [hL.out]
          go_wp2_with (refine wpPr g1.out (.tmp 3) rfl ?_)
          refine (CheckProcedureR_any A c p _ (hl.out.below hb.out)).mono ?_
          rintro e wn ⟨rfl, hbn⟩
          have hv := Lib.hid (IntsL.below hv.out hbn)
          have g1 := Lib.hid (g1.out.below hbn)
          have g2 := Lib.hid (g2.out.below hbn)
          have hb := Lib.hid (below_step hb.out hbn)
          clear hbn k0 k1
          have k0 := g2.out.c 0 _ rfl
          have k1 := g2.out.c 1 _ rfl
          rw [hp0.out]
          go_wp2_with (refine wpPr g1.out (.tmp 3) rfl ?_)
          refine (CheckNoticesR_any A c p L lc l _ (hl.out.below hb.out) (hN.out.below hb.out) hp0.out).mono ?_
          rintro e wn ⟨rfl, hbn⟩
          have hv := Lib.hid (IntsL.below hv.out hbn)
          have g1 := Lib.hid (g1.out.below hbn)
          have g2 := Lib.hid (g2.out.below hbn)
          have hb := Lib.hid (below_step hb.out hbn)
          clear hbn k0 k1
          have k0 := g2.out.c 0 _ rfl
          have k1 := g2.out.c 1 _ rfl
          rw [hn0.out]
          go_wp2_with (first | ((first | (go_at_call 134) | (go_at_call 59) | (go_at_call 133) | (go_at_call 14) | (go_at_call 178) | (fail) | (go_at_call 139)); first | refine rin ?_ | refine rout ?_ | refine rany ?_) | fail)
          go_ret
          exact ⟨by first | rfl | done, hb.out⟩
      · have hE' : Cal.dueE p l x y = 2 := by rw [hEE, if_neg (fun h => hx ⟨h.1, h.2.1⟩)]
        have hE : Hid (Cal.dueE p l x y = 2) := hE'
        have hL : Hid (Cal.dueL p l x y = []) := by show _ = _; unfold Cal.dueL; rw [hE', if_neg (by decide)]
        have hx' : x < 0 ∨ 200000 < x := by omega
        clear hEE hE' hx
        obtain ⟨g1, g2, hb⟩ := start2p w A c p x y
        have k0 := g2.out.c 0 _ rfl
        have k1 := g2.out.c 1 _ rfl
        go_enter Tryz.func4, Tryz.ntmps4
        go_wp2_with fail
        refine (nawake_any _ (hT.out.below hb.out)).mono ?_
        rintro e wn ⟨rfl, hbn⟩
        have g1 := Lib.hid (g1.out.below hbn)
        have g2 := Lib.hid (g2.out.below hbn)
        have hb := Lib.hid (below_step hb.out hbn)
        clear hbn k0 k1
        have k0 := g2.out.c 0 _ rfl
        have k1 := g2.out.c 1 _ rfl
        go_wp2_with (refine wpPr g1.out (.tmp 3) rfl ?_)
        refine (Modest_any A c p _ (hl.out.below hb.out)).mono ?_
        rintro e wn ⟨⟨b, rfl⟩, hbn⟩
        have g1 := Lib.hid (g1.out.below hbn)
        have g2 := Lib.hid (g2.out.below hbn)
        have hb := Lib.hid (below_step hb.out hbn)
        clear hbn k0 k1
        have k0 := g2.out.c 0 _ rfl
        have k1 := g2.out.c 1 _ rfl
        cases b
        · go_wp2_with fail
          go_ret
          exact ⟨by first | rfl | done, hb.out⟩
        go_wp2_with fail
        refine (brief_any L lc l _ (hN.out.below hb.out)).mono ?_
        rintro e wn ⟨⟨b, rfl⟩, hbn⟩
        have g1 := Lib.hid (g1.out.below hbn)
        have g2 := Lib.hid (g2.out.below hbn)
        have hb := Lib.hid (below_step hb.out hbn)
        clear hbn k0 k1
        have k0 := g2.out.c 0 _ rfl
        have k1 := g2.out.c 1 _ rfl
        cases b
        · go_wp2_with fail
          go_ret
          exact ⟨by first | rfl | done, hb.out⟩
        go_wp2_with (refine wpPr g1.out (.tmp 3) rfl ?_)
        refine (Due_any A c p L lc l x y _ (hl.out.below hb.out) (hT.out.below hb.out) (hN.out.below hb.out)).mono ?_
        rintro e wn ⟨v, rfl, hv, hbn⟩
        obtain ⟨A4, c4, rfl, _⟩ := hv.rows
        have hv := Lib.hid hv
        have g1 := Lib.hid (g1.out.below hbn)
        have g2 := Lib.hid (g2.out.below hbn)
        have hb := Lib.hid (below_step hb.out hbn)
        clear hbn k0 k1
        have k0 := g2.out.c 0 _ rfl
        have k1 := g2.out.c 1 _ rfl
        rw [hE.out]
        rw [hL.out] at hv
        rw [hL.out]
        go_wp2_with (refine wpPr g1.out (.tmp 3) rfl ?_)
        refine (CheckProcedureR_any A c p _ (hl.out.below hb.out)).mono ?_
        rintro e wn ⟨rfl, hbn⟩
        have hv := Lib.hid (IntsL.below hv.out hbn)
        have g1 := Lib.hid (g1.out.below hbn)
        have g2 := Lib.hid (g2.out.below hbn)
        have hb := Lib.hid (below_step hb.out hbn)
        clear hbn k0 k1
        have k0 := g2.out.c 0 _ rfl
        have k1 := g2.out.c 1 _ rfl
        rw [hp0.out]
        go_wp2_with (refine wpPr g1.out (.tmp 3) rfl ?_)
        refine (CheckNoticesR_any A c p L lc l _ (hl.out.below hb.out) (hN.out.below hb.out) hp0.out).mono ?_
        rintro e wn ⟨rfl, hbn⟩
        have hv := Lib.hid (IntsL.below hv.out hbn)
        have g1 := Lib.hid (g1.out.below hbn)
        have g2 := Lib.hid (g2.out.below hbn)
        have hb := Lib.hid (below_step hb.out hbn)
        clear hbn k0 k1
        have k0 := g2.out.c 0 _ rfl
        have k1 := g2.out.c 1 _ rfl
        rw [hn0.out]
        go_wp2_with (first | ((first | (go_at_call 134) | (go_at_call 59) | (go_at_call 133) | (go_at_call 14) | (go_at_call 178) | (fail) | (go_at_call 139)); first | refine rin ?_ | refine rout ?_ | refine rany ?_) | fail)
        go_ret
        exact ⟨by first | rfl | done, hb.out⟩
    · have hE' : Cal.dueE p l x y = Cal.ntsE p l := by unfold Cal.dueE; rw [if_pos h0, if_neg h1]
      have hE : Hid (Cal.dueE p l x y = Cal.ntsE p l) := hE'
      have hL : Hid (Cal.dueL p l x y = []) := by show _ = _; unfold Cal.dueL; rw [hE', if_neg h1]
      have h1b : (Cal.ntsE p l == 0) = false := by simpa using h1
      have h1c : (Cal.ntsE p l != 0) = true := by simpa using h1
      clear h0 h1 hE'
      obtain ⟨g1, g2, hb⟩ := start2p w A c p x y
      have k0 := g2.out.c 0 _ rfl
      have k1 := g2.out.c 1 _ rfl
      go_enter Tryz.func4, Tryz.ntmps4
      go_wp2_with fail
      refine (nawake_any _ (hT.out.below hb.out)).mono ?_
      rintro e wn ⟨rfl, hbn⟩
      have g1 := Lib.hid (g1.out.below hbn)
      have g2 := Lib.hid (g2.out.below hbn)
      have hb := Lib.hid (below_step hb.out hbn)
      clear hbn k0 k1
      have k0 := g2.out.c 0 _ rfl
      have k1 := g2.out.c 1 _ rfl
      go_wp2_with (refine wpPr g1.out (.tmp 3) rfl ?_)
      refine (Modest_any A c p _ (hl.out.below hb.out)).mono ?_
      rintro e wn ⟨⟨b, rfl⟩, hbn⟩
      have g1 := Lib.hid (g1.out.below hbn)
      have g2 := Lib.hid (g2.out.below hbn)
      have hb := Lib.hid (below_step hb.out hbn)
      clear hbn k0 k1
      have k0 := g2.out.c 0 _ rfl
      have k1 := g2.out.c 1 _ rfl
      cases b
      · go_wp2_with fail
        go_ret
        exact ⟨by first | rfl | done, hb.out⟩
      go_wp2_with fail
      refine (brief_any L lc l _ (hN.out.below hb.out)).mono ?_
      rintro e wn ⟨⟨b, rfl⟩, hbn⟩
      have g1 := Lib.hid (g1.out.below hbn)
      have g2 := Lib.hid (g2.out.below hbn)
      have hb := Lib.hid (below_step hb.out hbn)
      clear hbn k0 k1
      have k0 := g2.out.c 0 _ rfl
      have k1 := g2.out.c 1 _ rfl
      cases b
      · go_wp2_with fail
        go_ret
        exact ⟨by first | rfl | done, hb.out⟩
      go_wp2_with (refine wpPr g1.out (.tmp 3) rfl ?_)
      refine (Due_any A c p L lc l x y _ (hl.out.below hb.out) (hT.out.below hb.out) (hN.out.below hb.out)).mono ?_
      rintro e wn ⟨v, rfl, hv, hbn⟩
      obtain ⟨A4, c4, rfl, _⟩ := hv.rows
      have hv := Lib.hid hv
      have g1 := Lib.hid (g1.out.below hbn)
      have g2 := Lib.hid (g2.out.below hbn)
      have hb := Lib.hid (below_step hb.out hbn)
      clear hbn k0 k1
      have k0 := g2.out.c 0 _ rfl
      have k1 := g2.out.c 1 _ rfl
      rw [hE.out]
      rw [hL.out] at hv
      rw [hL.out]
      go_wp2_with (refine wpPr g1.out (.tmp 3) rfl ?_)
      refine (CheckProcedureR_any A c p _ (hl.out.below hb.out)).mono ?_
      rintro e wn ⟨rfl, hbn⟩
      have hv := Lib.hid (IntsL.below hv.out hbn)
      have g1 := Lib.hid (g1.out.below hbn)
      have g2 := Lib.hid (g2.out.below hbn)
      have hb := Lib.hid (below_step hb.out hbn)
      clear hbn k0 k1
      have k0 := g2.out.c 0 _ rfl
      have k1 := g2.out.c 1 _ rfl
      rw [hp0.out]
      go_wp2_with (refine wpPr g1.out (.tmp 3) rfl ?_)
      refine (CheckNoticesR_any A c p L lc l _ (hl.out.below hb.out) (hN.out.below hb.out) hp0.out).mono ?_
      rintro e wn ⟨rfl, hbn⟩
      have hv := Lib.hid (IntsL.below hv.out hbn)
      have g1 := Lib.hid (g1.out.below hbn)
      have g2 := Lib.hid (g2.out.below hbn)
      have hb := Lib.hid (below_step hb.out hbn)
      clear hbn k0 k1
      have k0 := g2.out.c 0 _ rfl
      have k1 := g2.out.c 1 _ rfl
      go_wp2_with (first | ((first | (go_at_call 134) | (go_at_call 59) | (go_at_call 133) | (go_at_call 14) | (go_at_call 178) | (fail) | (go_at_call 139)); first | refine rin ?_ | refine rout ?_ | refine rany ?_) | fail)
      go_ret
      exact ⟨by first | rfl | done, hb.out⟩
  · have hE' : Cal.dueE p l x y = Cal.procErr p := by unfold Cal.dueE; rw [if_neg h0]
    have hE : Hid (Cal.dueE p l x y = Cal.procErr p) := hE'
    have hL : Hid (Cal.dueL p l x y = []) := by show _ = _; unfold Cal.dueL; rw [hE', if_neg h0]
    have h0b : (Cal.procErr p == 0) = false := by simpa using h0
    have h0c : (Cal.procErr p != 0) = true := by simpa using h0
    clear h0 hE'
    obtain ⟨g1, g2, hb⟩ := start2p w A c p x y
    have k0 := g2.out.c 0 _ rfl
    have k1 := g2.out.c 1 _ rfl
    go_enter Tryz.func4, Tryz.ntmps4
    go_wp2_with fail
    refine (nawake_any _ (hT.out.below hb.out)).mono ?_
    rintro e wn ⟨rfl, hbn⟩
    have g1 := Lib.hid (g1.out.below hbn)
    have g2 := Lib.hid (g2.out.below hbn)
    have hb := Lib.hid (below_step hb.out hbn)
    clear hbn k0 k1
    have k0 := g2.out.c 0 _ rfl
    have k1 := g2.out.c 1 _ rfl
    go_wp2_with (refine wpPr g1.out (.tmp 3) rfl ?_)
    refine (Modest_any A c p _ (hl.out.below hb.out)).mono ?_
    rintro e wn ⟨⟨b, rfl⟩, hbn⟩
    have g1 := Lib.hid (g1.out.below hbn)
    have g2 := Lib.hid (g2.out.below hbn)
    have hb := Lib.hid (below_step hb.out hbn)
    clear hbn k0 k1
    have k0 := g2.out.c 0 _ rfl
    have k1 := g2.out.c 1 _ rfl
    cases b
    · go_wp2_with fail
      go_ret
      exact ⟨by first | rfl | done, hb.out⟩
    go_wp2_with fail
    refine (brief_any L lc l _ (hN.out.below hb.out)).mono ?_
    rintro e wn ⟨⟨b, rfl⟩, hbn⟩
    have g1 := Lib.hid (g1.out.below hbn)
    have g2 := Lib.hid (g2.out.below hbn)
    have hb := Lib.hid (below_step hb.out hbn)
    clear hbn k0 k1
    have k0 := g2.out.c 0 _ rfl
    have k1 := g2.out.c 1 _ rfl
    cases b
    · go_wp2_with fail
      go_ret
      exact ⟨by first | rfl | done, hb.out⟩
    go_wp2_with (refine wpPr g1.out (.tmp 3) rfl ?_)
    refine (Due_any A c p L lc l x y _ (hl.out.below hb.out) (hT.out.below hb.out) (hN.out.below hb.out)).mono ?_
    rintro e wn ⟨v, rfl, hv, hbn⟩
    obtain ⟨A4, c4, rfl, _⟩ := hv.rows
    have hv := Lib.hid hv
    have g1 := Lib.hid (g1.out.below hbn)
    have g2 := Lib.hid (g2.out.below hbn)
    have hb := Lib.hid (below_step hb.out hbn)
    clear hbn k0 k1
    have k0 := g2.out.c 0 _ rfl
    have k1 := g2.out.c 1 _ rfl
    rw [hE.out]
    rw [hL.out] at hv
    rw [hL.out]
    go_wp2_with (refine wpPr g1.out (.tmp 3) rfl ?_)
    refine (CheckProcedureR_any A c p _ (hl.out.below hb.out)).mono ?_
    rintro e wn ⟨rfl, hbn⟩
    have hv := Lib.hid (IntsL.below hv.out hbn)
    have g1 := Lib.hid (g1.out.below hbn)
    have g2 := Lib.hid (g2.out.below hbn)
    have hb := Lib.hid (below_step hb.out hbn)
    clear hbn k0 k1
    have k0 := g2.out.c 0 _ rfl
    have k1 := g2.out.c 1 _ rfl
    go_wp2_with (first | ((first | (go_at_call 134) | (go_at_call 59) | (go_at_call 133) | (go_at_call 14) | (go_at_call 178) | (fail) | (go_at_call 139)); first | refine rin ?_ | refine rout ?_ | refine rany ?_) | fail)
    go_ret
    exact ⟨by first | rfl | done, hb.out⟩
end Go.Proofs.YtbegbajlagcbdaaGreatDoor
