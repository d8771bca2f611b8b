/- Chapter 8 and what it rests on: definitions and walks, part 20. -/
import Derived.Test.YtbegbajlagcbdaaGreatDoorC19
import Derived.Deep.RegionHeld3
namespace Go.Proofs.YtbegbajlagcbdaaGreatDoor
open Go Go.RowKit
theorem Cal.mayErr_case {p : Proc} {s : NSt} {a : NAct} (hf : Cal.formErr p a = 0) (hl : ¬ a.day < s.last) (hac : Cal.accB s.phase a.kind = true) : Cal.mayErr p s a = if s.phase = 1 ∧ s.deadline < a.day then 21 else if a.kind = 3 ∧ min s.object s.deadline < a.day then 21 else if a.kind = 6 ∧ p.exts ≤ s.extended then 16 else 0 := by
  unfold Cal.mayErr; rw [if_pos hf, if_neg hl, if_pos hac]
set_option maxRecDepth 100000 in
set_option maxHeartbeats 4000000 in
theorem may_any (A : Option Addr) (c : Nat) (p : Proc) (s : NSt) (a : NAct) (w : World) :
    Calls Tryz.prog 228 #[.agg #[.int .i64 p.runs.m, .int .i64 p.runs.d, .bool p.runs.k, .int .i64 p.obj.m, .int .i64 p.obj.d, .bool p.obj.k, .int .i64 p.wait.m, .int .i64 p.wait.d, .bool p.wait.k, .int .i64 p.exts, .int .i64 p.longest, .slice A p.hols.length c, .int .i64 s.phase, .int .i64 s.last, .int .i64 s.deadline, .int .i64 s.object, .int .i64 s.objected, .int .i64 s.extended], .agg #[.int .i64 a.day, .int .i64 a.kind, .int .i64 a.days]] w fun e w' => e = .returned (.int .i64 (Cal.mayErr p s a)) ∧ Below w.heap.size w w' := by
  have hsn := Lib.hid ((StAt.new w A c p s 134).below (below_alloc _ (.cells #[.int .i64 a.day, .int .i64 a.kind, .int .i64 a.days] 109)))
  have han : Hid (ActAt ((w.alloc (.cells #[.int .i64 p.runs.m, .int .i64 p.runs.d, .bool p.runs.k, .int .i64 p.obj.m, .int .i64 p.obj.d, .bool p.obj.k, .int .i64 p.wait.m, .int .i64 p.wait.d, .bool p.wait.k, .int .i64 p.exts, .int .i64 p.longest, .slice A p.hols.length c, .int .i64 s.phase, .int .i64 s.last, .int .i64 s.deadline, .int .i64 s.object, .int .i64 s.objected, .int .i64 s.extended] 134)).alloc (.cells #[.int .i64 a.day, .int .i64 a.kind, .int .i64 a.days] 109)) (w.heap.size + 1) a) := by
    have h := ActAt.new (w.alloc (.cells #[.int .i64 p.runs.m, .int .i64 p.runs.d, .bool p.runs.k, .int .i64 p.obj.m, .int .i64 p.obj.d, .bool p.obj.k, .int .i64 p.wait.m, .int .i64 p.wait.d, .bool p.wait.k, .int .i64 p.exts, .int .i64 p.longest, .slice A p.hols.length c, .int .i64 s.phase, .int .i64 s.last, .int .i64 s.deadline, .int .i64 s.object, .int .i64 s.objected, .int .i64 s.extended] 134)) a 109
    simp only [World.size_alloc] at h
    exact h
  obtain ⟨F, hF⟩ : ∃ F, Cal.formErr p a = F := ⟨_, rfl⟩
  by_cases hf : Cal.formErr p a = 0
  · rw [hf] at hF
    subst hF
    have hF := Lib.hid hf
    by_cases hl : a.day < s.last
    · have hfin : Hid (Cal.mayErr p s a = 9) := by show _ = _; unfold Cal.mayErr; rw [if_pos hf, if_pos hl]
      clear hf
      go_enter Tryz.func228, Tryz.ntmps228
      go_wp2_with (refine wpList_load_mid rfl 134 (.tmp 2) rfl w.heap.size 0 rfl [.int .i64 p.runs.m, .int .i64 p.runs.d, .bool p.runs.k, .int .i64 p.obj.m, .int .i64 p.obj.d, .bool p.obj.k, .int .i64 p.wait.m, .int .i64 p.wait.d, .bool p.wait.k, .int .i64 p.exts, .int .i64 p.longest, .slice A p.hols.length c, .int .i64 s.phase, .int .i64 s.last, .int .i64 s.deadline, .int .i64 s.object, .int .i64 s.objected, .int .i64 s.extended] _ hsn.out.range Tryz.underlying134 rfl stSize ?_)
      refine (formed_any A c p s a _).mono ?_
      rintro e w1 ⟨rfl, hb1⟩
      rw [hF.out]
      have hs1 := Lib.hid (hsn.out.below hb1)
      have ha1 := Lib.hid (han.out.below hb1)
      have hbw := Lib.hid (below_step (below_step (below_alloc w _) (below_alloc _ _)) hb1)
      clear hb1
      have a0 := ha1.out.c0
      have a1 := ha1.out.c1
      have s13 := hs1.out.c13
      go_wp2_with fail
      go_ret
      exact ⟨ret_int hfin.out.symm, hbw.out⟩
    · have hl' : s.last ≤ a.day := by omega
      cases hac : Cal.accB s.phase a.kind
      · have hacc := Lib.hid hac
        have hfin : Hid (Cal.mayErr p s a = 28) := by show _ = _; unfold Cal.mayErr; rw [if_pos hf, if_neg hl, if_neg (by rw [hac]; simp)]
        clear hf hac hl
        go_enter Tryz.func228, Tryz.ntmps228
        go_wp2_with (refine wpList_load_mid rfl 134 (.tmp 2) rfl w.heap.size 0 rfl [.int .i64 p.runs.m, .int .i64 p.runs.d, .bool p.runs.k, .int .i64 p.obj.m, .int .i64 p.obj.d, .bool p.obj.k, .int .i64 p.wait.m, .int .i64 p.wait.d, .bool p.wait.k, .int .i64 p.exts, .int .i64 p.longest, .slice A p.hols.length c, .int .i64 s.phase, .int .i64 s.last, .int .i64 s.deadline, .int .i64 s.object, .int .i64 s.objected, .int .i64 s.extended] _ hsn.out.range Tryz.underlying134 rfl stSize ?_)
        refine (formed_any A c p s a _).mono ?_
        rintro e w1 ⟨rfl, hb1⟩
        rw [hF.out]
        have hs1 := Lib.hid (hsn.out.below hb1)
        have ha1 := Lib.hid (han.out.below hb1)
        have hbw := Lib.hid (below_step (below_step (below_alloc w _) (below_alloc _ _)) hb1)
        clear hb1
        have a0 := ha1.out.c0
        have a1 := ha1.out.c1
        have s13 := hs1.out.c13
        go_wp2_with (refine wpList_load_mid rfl 134 (.tmp 2) rfl w.heap.size 0 rfl [.int .i64 p.runs.m, .int .i64 p.runs.d, .bool p.runs.k, .int .i64 p.obj.m, .int .i64 p.obj.d, .bool p.obj.k, .int .i64 p.wait.m, .int .i64 p.wait.d, .bool p.wait.k, .int .i64 p.exts, .int .i64 p.longest, .slice A p.hols.length c, .int .i64 s.phase, .int .i64 s.last, .int .i64 s.deadline, .int .i64 s.object, .int .i64 s.objected, .int .i64 s.extended] _ hs1.out.range Tryz.underlying134 rfl stSize ?_)
        refine (accepts_any A c p s a.kind _).mono ?_
        rintro e w2 ⟨rfl, hb2⟩
        rw [hacc.out]
        have hs2 := Lib.hid (hs1.out.below hb2)
        have ha2 := Lib.hid (ha1.out.below hb2)
        have hbw2 := Lib.hid (below_step hbw.out hb2)
        clear hb2 s13 a0 a1
        have a0 := ha2.out.c0
        have a1 := ha2.out.c1
        have s12 := hs2.out.c12
        have s14 := hs2.out.c14
        go_wp2_with fail
        go_ret
        exact ⟨ret_int hfin.out.symm, hbw2.out⟩
      · have hacc := Lib.hid hac
        have hC := Cal.mayErr_case hf hl hac
        by_cases h1 : s.phase = 1
        · have h1b : (s.phase == 1) = true := by simpa using h1
          by_cases hd : s.deadline < a.day
          · have hfin : Hid (Cal.mayErr p s a = 21) := by show _ = _; rw [hC, if_pos ⟨h1, hd⟩]
            clear hf hac hl hC h1
            go_enter Tryz.func228, Tryz.ntmps228
            go_wp2_with (refine wpList_load_mid rfl 134 (.tmp 2) rfl w.heap.size 0 rfl [.int .i64 p.runs.m, .int .i64 p.runs.d, .bool p.runs.k, .int .i64 p.obj.m, .int .i64 p.obj.d, .bool p.obj.k, .int .i64 p.wait.m, .int .i64 p.wait.d, .bool p.wait.k, .int .i64 p.exts, .int .i64 p.longest, .slice A p.hols.length c, .int .i64 s.phase, .int .i64 s.last, .int .i64 s.deadline, .int .i64 s.object, .int .i64 s.objected, .int .i64 s.extended] _ hsn.out.range Tryz.underlying134 rfl stSize ?_)
            refine (formed_any A c p s a _).mono ?_
            rintro e w1 ⟨rfl, hb1⟩
            rw [hF.out]
            have hs1 := Lib.hid (hsn.out.below hb1)
            have ha1 := Lib.hid (han.out.below hb1)
            have hbw := Lib.hid (below_step (below_step (below_alloc w _) (below_alloc _ _)) hb1)
            clear hb1
            have a0 := ha1.out.c0
            have a1 := ha1.out.c1
            have s13 := hs1.out.c13
            go_wp2_with (refine wpList_load_mid rfl 134 (.tmp 2) rfl w.heap.size 0 rfl [.int .i64 p.runs.m, .int .i64 p.runs.d, .bool p.runs.k, .int .i64 p.obj.m, .int .i64 p.obj.d, .bool p.obj.k, .int .i64 p.wait.m, .int .i64 p.wait.d, .bool p.wait.k, .int .i64 p.exts, .int .i64 p.longest, .slice A p.hols.length c, .int .i64 s.phase, .int .i64 s.last, .int .i64 s.deadline, .int .i64 s.object, .int .i64 s.objected, .int .i64 s.extended] _ hs1.out.range Tryz.underlying134 rfl stSize ?_)
            refine (accepts_any A c p s a.kind _).mono ?_
            rintro e w2 ⟨rfl, hb2⟩
            rw [hacc.out]
            have hs2 := Lib.hid (hs1.out.below hb2)
            have ha2 := Lib.hid (ha1.out.below hb2)
            have hbw2 := Lib.hid (below_step hbw.out hb2)
            clear hb2 s13 a0 a1
            have a0 := ha2.out.c0
            have a1 := ha2.out.c1
            have s12 := hs2.out.c12
            have s14 := hs2.out.c14
            go_wp2_with fail
            go_ret
            exact ⟨ret_int hfin.out.symm, hbw2.out⟩
          · have hd' : a.day ≤ s.deadline := by omega
            rw [if_neg (fun h => hd h.2)] at hC
            by_cases h3 : a.kind = 3
            · have h3b : (a.kind == 3) = true := by simpa using h3
              have h6b : (a.kind == 6) = false := by rw [h3]; rfl
              by_cases hm : min s.object s.deadline < a.day
              · have hfin : Hid (Cal.mayErr p s a = 21) := by show _ = _; rw [hC, if_pos ⟨h3, hm⟩]
                clear hf hac hl hC hd h3 h1
                go_enter Tryz.func228, Tryz.ntmps228
                go_wp2_with (refine wpList_load_mid rfl 134 (.tmp 2) rfl w.heap.size 0 rfl [.int .i64 p.runs.m, .int .i64 p.runs.d, .bool p.runs.k, .int .i64 p.obj.m, .int .i64 p.obj.d, .bool p.obj.k, .int .i64 p.wait.m, .int .i64 p.wait.d, .bool p.wait.k, .int .i64 p.exts, .int .i64 p.longest, .slice A p.hols.length c, .int .i64 s.phase, .int .i64 s.last, .int .i64 s.deadline, .int .i64 s.object, .int .i64 s.objected, .int .i64 s.extended] _ hsn.out.range Tryz.underlying134 rfl stSize ?_)
                refine (formed_any A c p s a _).mono ?_
                rintro e w1 ⟨rfl, hb1⟩
                rw [hF.out]
                have hs1 := Lib.hid (hsn.out.below hb1)
                have ha1 := Lib.hid (han.out.below hb1)
                have hbw := Lib.hid (below_step (below_step (below_alloc w _) (below_alloc _ _)) hb1)
                clear hb1
                have a0 := ha1.out.c0
                have a1 := ha1.out.c1
                have s13 := hs1.out.c13
                go_wp2_with (refine wpList_load_mid rfl 134 (.tmp 2) rfl w.heap.size 0 rfl [.int .i64 p.runs.m, .int .i64 p.runs.d, .bool p.runs.k, .int .i64 p.obj.m, .int .i64 p.obj.d, .bool p.obj.k, .int .i64 p.wait.m, .int .i64 p.wait.d, .bool p.wait.k, .int .i64 p.exts, .int .i64 p.longest, .slice A p.hols.length c, .int .i64 s.phase, .int .i64 s.last, .int .i64 s.deadline, .int .i64 s.object, .int .i64 s.objected, .int .i64 s.extended] _ hs1.out.range Tryz.underlying134 rfl stSize ?_)
                refine (accepts_any A c p s a.kind _).mono ?_
                rintro e w2 ⟨rfl, hb2⟩
                rw [hacc.out]
                have hs2 := Lib.hid (hs1.out.below hb2)
                have ha2 := Lib.hid (ha1.out.below hb2)
                have hbw2 := Lib.hid (below_step hbw.out hb2)
                clear hb2 s13 a0 a1
                have a0 := ha2.out.c0
                have a1 := ha2.out.c1
                have s12 := hs2.out.c12
                have s14 := hs2.out.c14
                go_wp2_with fail
                have hk2 : StAt w2.drew w.heap.size A c p s ∧ w2.drew.cell? ⟨w.heap.size + 1, 0, none⟩ = some (.int .i64 a.day) ∧ w2.drew.cell? ⟨w.heap.size + 1, 1, none⟩ = some (.int .i64 a.kind) := ⟨⟨hs2.out.range, hs2.out.lt⟩, a0, a1⟩
                refine wp_region_held_drew (S := (fun w' => StAt w' w.heap.size A c p s ∧ w'.cell? ⟨w.heap.size + 1, 0, none⟩ = some (.int .i64 a.day) ∧ w'.cell? ⟨w.heap.size + 1, 1, none⟩ = some (.int .i64 a.kind))) (by kernel_rfl) hk2 (fun hHeld => ?_)
                (refine tkH 0 (v := ?_) ?_ ?_; rotate_left; focus (intro w' hSw; (try dsimp only at hSw); go_simp; (try with_reducible rfl)); (try simp only [Act.put, List.setIfInBounds_toArray, List.set_cons_zero, List.set_cons_succ]))
                (refine tkH 1 (v := ?_) ?_ ?_; rotate_left; focus (intro w' hSw; (try dsimp only at hSw); go_simp; (try with_reducible rfl)); (try simp only [Act.put, List.setIfInBounds_toArray, List.set_cons_zero, List.set_cons_succ]))
                (refine tkH 2 (v := ?_) ?_ ?_; rotate_left; focus (intro w' hSw; (try dsimp only at hSw); go_simp; (try with_reducible rfl)); (try simp only [Act.put, List.setIfInBounds_toArray, List.set_cons_zero, List.set_cons_succ]))
                (refine tkH 3 (v := ?_) ?_ ?_; rotate_left; focus (intro w' hSw; (try dsimp only at hSw); go_simp; (try with_reducible rfl)); (try simp only [Act.put, List.setIfInBounds_toArray, List.set_cons_zero, List.set_cons_succ]))
                (refine tkH 4 (v := ?_) ?_ ?_; rotate_left; focus (intro w' hSw; (try dsimp only at hSw); go_simp; (try with_reducible rfl)); (try simp only [Act.put, List.setIfInBounds_toArray, List.set_cons_zero, List.set_cons_succ]))
                (refine tkH 5 (v := ?_) ?_ ?_; rotate_left; focus (intro w' hSw; (try dsimp only at hSw); go_simp; (try with_reducible rfl)); (try simp only [Act.put, List.setIfInBounds_toArray, List.set_cons_zero, List.set_cons_succ]))
                (refine wpAnyH_take (i := 6) (v := _) rfl (by kernel_rfl) (by decide +kernel) (by decide +kernel) (fun _ _ _ h => h) (yieldsIf_load_mid (by kernel_rfl) 134 _ rfl w.heap.size 0 (by kernel_rfl) [.int .i64 p.runs.m, .int .i64 p.runs.d, .bool p.runs.k, .int .i64 p.obj.m, .int .i64 p.obj.d, .bool p.obj.k, .int .i64 p.wait.m, .int .i64 p.wait.d, .bool p.wait.k, .int .i64 p.exts, .int .i64 p.longest, .slice A p.hols.length c, .int .i64 s.phase, .int .i64 s.last, .int .i64 s.deadline, .int .i64 s.object, .int .i64 s.objected, .int .i64 s.extended] _ (fun _ h => h.1.range) Tryz.underlying134 rfl stSize) (by assumption) ?_; (try simp only [Act.put, List.setIfInBounds_toArray]); (try simp only [List.set_cons_zero, List.set_cons_succ]))
                (refine wpAnyH_ready (rs := [7]) (by decide +kernel) (by simp) ?_; refine AllReadyH.cons rfl (fun K hK => ?_) AllReadyH.nil; rw [if_pos (by kernel_rfl)]; go_simp)
                refine (until_any A c p s _).mono ?_
                rintro e w3 ⟨rfl, hb3⟩
                have hb23 := Lib.hid (below_of_drewN (n := 1) hb3)
                have hs3 := Lib.hid (hs2.out.below hb23.out)
                have ha3 := Lib.hid (ha2.out.below hb23.out)
                have hbw3 := Lib.hid (below_step hbw2.out hb23.out)
                clear hb3
                go_simp
                (refine hK.out _ _ ⟨hs3.out, ha3.out.c0, ha3.out.c1⟩ (fun hHeld => ?_); clear hK K; (try simp only [Act.put, List.setIfInBounds_toArray]); (try simp only [List.set_cons_zero, List.set_cons_succ]))
                (refine tkH 8 (v := ?_) ?_ ?_; rotate_left; focus (intro w' hSw; (try dsimp only at hSw); go_simp; (try with_reducible rfl)); (try simp only [Act.put, List.setIfInBounds_toArray, List.set_cons_zero, List.set_cons_succ]))
                (refine tkH 9 (v := ?_) ?_ ?_; rotate_left; focus (intro w' hSw; (try dsimp only at hSw); go_simp; (try with_reducible rfl)); (try simp only [Act.put, List.setIfInBounds_toArray, List.set_cons_zero, List.set_cons_succ]))
                (refine tkH 10 (v := ?_) ?_ ?_; rotate_left; focus (intro w' hSw; (try dsimp only at hSw); go_simp; (try with_reducible rfl)); (try simp only [Act.put, List.setIfInBounds_toArray, List.set_cons_zero, List.set_cons_succ]))
                refine wpAnyH_done (by kernel_rfl) ?_ _
                have s17 := hs3.out.c17
                have s9 := hs3.out.c9
                have a1' := ha3.out.c1
                clear hHeld hk2
                go_wp2_with fail
                go_ret
                exact ⟨ret_int hfin.out.symm, hbw3.out⟩
              · have hfin : Hid (Cal.mayErr p s a = 0) := by show _ = _; rw [hC, if_neg (fun h => hm h.2), if_neg (fun h => by omega)]
                have hm' : a.day ≤ min s.object s.deadline := by omega
                clear hf hac hl hC hd h3 h1 hm
                go_enter Tryz.func228, Tryz.ntmps228
                go_wp2_with (refine wpList_load_mid rfl 134 (.tmp 2) rfl w.heap.size 0 rfl [.int .i64 p.runs.m, .int .i64 p.runs.d, .bool p.runs.k, .int .i64 p.obj.m, .int .i64 p.obj.d, .bool p.obj.k, .int .i64 p.wait.m, .int .i64 p.wait.d, .bool p.wait.k, .int .i64 p.exts, .int .i64 p.longest, .slice A p.hols.length c, .int .i64 s.phase, .int .i64 s.last, .int .i64 s.deadline, .int .i64 s.object, .int .i64 s.objected, .int .i64 s.extended] _ hsn.out.range Tryz.underlying134 rfl stSize ?_)
                refine (formed_any A c p s a _).mono ?_
                rintro e w1 ⟨rfl, hb1⟩
                rw [hF.out]
                have hs1 := Lib.hid (hsn.out.below hb1)
                have ha1 := Lib.hid (han.out.below hb1)
                have hbw := Lib.hid (below_step (below_step (below_alloc w _) (below_alloc _ _)) hb1)
                clear hb1
                have a0 := ha1.out.c0
                have a1 := ha1.out.c1
                have s13 := hs1.out.c13
                go_wp2_with (refine wpList_load_mid rfl 134 (.tmp 2) rfl w.heap.size 0 rfl [.int .i64 p.runs.m, .int .i64 p.runs.d, .bool p.runs.k, .int .i64 p.obj.m, .int .i64 p.obj.d, .bool p.obj.k, .int .i64 p.wait.m, .int .i64 p.wait.d, .bool p.wait.k, .int .i64 p.exts, .int .i64 p.longest, .slice A p.hols.length c, .int .i64 s.phase, .int .i64 s.last, .int .i64 s.deadline, .int .i64 s.object, .int .i64 s.objected, .int .i64 s.extended] _ hs1.out.range Tryz.underlying134 rfl stSize ?_)
                refine (accepts_any A c p s a.kind _).mono ?_
                rintro e w2 ⟨rfl, hb2⟩
                rw [hacc.out]
                have hs2 := Lib.hid (hs1.out.below hb2)
                have ha2 := Lib.hid (ha1.out.below hb2)
                have hbw2 := Lib.hid (below_step hbw.out hb2)
                clear hb2 s13 a0 a1
                have a0 := ha2.out.c0
                have a1 := ha2.out.c1
                have s12 := hs2.out.c12
                have s14 := hs2.out.c14
                go_wp2_with fail
                have hk2 : StAt w2.drew w.heap.size A c p s ∧ w2.drew.cell? ⟨w.heap.size + 1, 0, none⟩ = some (.int .i64 a.day) ∧ w2.drew.cell? ⟨w.heap.size + 1, 1, none⟩ = some (.int .i64 a.kind) := ⟨⟨hs2.out.range, hs2.out.lt⟩, a0, a1⟩
                refine wp_region_held_drew (S := (fun w' => StAt w' w.heap.size A c p s ∧ w'.cell? ⟨w.heap.size + 1, 0, none⟩ = some (.int .i64 a.day) ∧ w'.cell? ⟨w.heap.size + 1, 1, none⟩ = some (.int .i64 a.kind))) (by kernel_rfl) hk2 (fun hHeld => ?_)
                (refine tkH 0 (v := ?_) ?_ ?_; rotate_left; focus (intro w' hSw; (try dsimp only at hSw); go_simp; (try with_reducible rfl)); (try simp only [Act.put, List.setIfInBounds_toArray, List.set_cons_zero, List.set_cons_succ]))
                (refine tkH 1 (v := ?_) ?_ ?_; rotate_left; focus (intro w' hSw; (try dsimp only at hSw); go_simp; (try with_reducible rfl)); (try simp only [Act.put, List.setIfInBounds_toArray, List.set_cons_zero, List.set_cons_succ]))
                (refine tkH 2 (v := ?_) ?_ ?_; rotate_left; focus (intro w' hSw; (try dsimp only at hSw); go_simp; (try with_reducible rfl)); (try simp only [Act.put, List.setIfInBounds_toArray, List.set_cons_zero, List.set_cons_succ]))
                (refine tkH 3 (v := ?_) ?_ ?_; rotate_left; focus (intro w' hSw; (try dsimp only at hSw); go_simp; (try with_reducible rfl)); (try simp only [Act.put, List.setIfInBounds_toArray, List.set_cons_zero, List.set_cons_succ]))
                (refine tkH 4 (v := ?_) ?_ ?_; rotate_left; focus (intro w' hSw; (try dsimp only at hSw); go_simp; (try with_reducible rfl)); (try simp only [Act.put, List.setIfInBounds_toArray, List.set_cons_zero, List.set_cons_succ]))
                (refine tkH 5 (v := ?_) ?_ ?_; rotate_left; focus (intro w' hSw; (try dsimp only at hSw); go_simp; (try with_reducible rfl)); (try simp only [Act.put, List.setIfInBounds_toArray, List.set_cons_zero, List.set_cons_succ]))
                (refine wpAnyH_take (i := 6) (v := _) rfl (by kernel_rfl) (by decide +kernel) (by decide +kernel) (fun _ _ _ h => h) (yieldsIf_load_mid (by kernel_rfl) 134 _ rfl w.heap.size 0 (by kernel_rfl) [.int .i64 p.runs.m, .int .i64 p.runs.d, .bool p.runs.k, .int .i64 p.obj.m, .int .i64 p.obj.d, .bool p.obj.k, .int .i64 p.wait.m, .int .i64 p.wait.d, .bool p.wait.k, .int .i64 p.exts, .int .i64 p.longest, .slice A p.hols.length c, .int .i64 s.phase, .int .i64 s.last, .int .i64 s.deadline, .int .i64 s.object, .int .i64 s.objected, .int .i64 s.extended] _ (fun _ h => h.1.range) Tryz.underlying134 rfl stSize) (by assumption) ?_; (try simp only [Act.put, List.setIfInBounds_toArray]); (try simp only [List.set_cons_zero, List.set_cons_succ]))
                (refine wpAnyH_ready (rs := [7]) (by decide +kernel) (by simp) ?_; refine AllReadyH.cons rfl (fun K hK => ?_) AllReadyH.nil; rw [if_pos (by kernel_rfl)]; go_simp)
                refine (until_any A c p s _).mono ?_
                rintro e w3 ⟨rfl, hb3⟩
                have hb23 := Lib.hid (below_of_drewN (n := 1) hb3)
                have hs3 := Lib.hid (hs2.out.below hb23.out)
                have ha3 := Lib.hid (ha2.out.below hb23.out)
                have hbw3 := Lib.hid (below_step hbw2.out hb23.out)
                clear hb3
                go_simp
                (refine hK.out _ _ ⟨hs3.out, ha3.out.c0, ha3.out.c1⟩ (fun hHeld => ?_); clear hK K; (try simp only [Act.put, List.setIfInBounds_toArray]); (try simp only [List.set_cons_zero, List.set_cons_succ]))
                (refine tkH 8 (v := ?_) ?_ ?_; rotate_left; focus (intro w' hSw; (try dsimp only at hSw); go_simp; (try with_reducible rfl)); (try simp only [Act.put, List.setIfInBounds_toArray, List.set_cons_zero, List.set_cons_succ]))
                (refine tkH 9 (v := ?_) ?_ ?_; rotate_left; focus (intro w' hSw; (try dsimp only at hSw); go_simp; (try with_reducible rfl)); (try simp only [Act.put, List.setIfInBounds_toArray, List.set_cons_zero, List.set_cons_succ]))
                (refine tkH 10 (v := ?_) ?_ ?_; rotate_left; focus (intro w' hSw; (try dsimp only at hSw); go_simp; (try with_reducible rfl)); (try simp only [Act.put, List.setIfInBounds_toArray, List.set_cons_zero, List.set_cons_succ]))
                refine wpAnyH_done (by kernel_rfl) ?_ _
                have s17 := hs3.out.c17
                have s9 := hs3.out.c9
                have a1' := ha3.out.c1
                clear hHeld hk2
                go_wp2_with fail
                go_ret
                exact ⟨ret_int hfin.out.symm, hbw3.out⟩
            · have h3' : (a.kind == 3) = false := by simpa using h3
              rw [if_neg (fun h => h3 h.1)] at hC
              by_cases h6 : a.kind = 6
              · have h6b : (a.kind == 6) = true := by simpa using h6
                by_cases hx : p.exts ≤ s.extended
                · have hfin : Hid (Cal.mayErr p s a = 16) := by show _ = _; rw [hC, if_pos ⟨h6, hx⟩]
                  clear hf hac hl hC hd h3 h1 h6
                  go_enter Tryz.func228, Tryz.ntmps228
                  go_wp2_with (refine wpList_load_mid rfl 134 (.tmp 2) rfl w.heap.size 0 rfl [.int .i64 p.runs.m, .int .i64 p.runs.d, .bool p.runs.k, .int .i64 p.obj.m, .int .i64 p.obj.d, .bool p.obj.k, .int .i64 p.wait.m, .int .i64 p.wait.d, .bool p.wait.k, .int .i64 p.exts, .int .i64 p.longest, .slice A p.hols.length c, .int .i64 s.phase, .int .i64 s.last, .int .i64 s.deadline, .int .i64 s.object, .int .i64 s.objected, .int .i64 s.extended] _ hsn.out.range Tryz.underlying134 rfl stSize ?_)
                  refine (formed_any A c p s a _).mono ?_
                  rintro e w1 ⟨rfl, hb1⟩
                  rw [hF.out]
                  have hs1 := Lib.hid (hsn.out.below hb1)
                  have ha1 := Lib.hid (han.out.below hb1)
                  have hbw := Lib.hid (below_step (below_step (below_alloc w _) (below_alloc _ _)) hb1)
                  clear hb1
                  have a0 := ha1.out.c0
                  have a1 := ha1.out.c1
                  have s13 := hs1.out.c13
                  go_wp2_with (refine wpList_load_mid rfl 134 (.tmp 2) rfl w.heap.size 0 rfl [.int .i64 p.runs.m, .int .i64 p.runs.d, .bool p.runs.k, .int .i64 p.obj.m, .int .i64 p.obj.d, .bool p.obj.k, .int .i64 p.wait.m, .int .i64 p.wait.d, .bool p.wait.k, .int .i64 p.exts, .int .i64 p.longest, .slice A p.hols.length c, .int .i64 s.phase, .int .i64 s.last, .int .i64 s.deadline, .int .i64 s.object, .int .i64 s.objected, .int .i64 s.extended] _ hs1.out.range Tryz.underlying134 rfl stSize ?_)
                  refine (accepts_any A c p s a.kind _).mono ?_
                  rintro e w2 ⟨rfl, hb2⟩
                  rw [hacc.out]
                  have hs2 := Lib.hid (hs1.out.below hb2)
                  have ha2 := Lib.hid (ha1.out.below hb2)
                  have hbw2 := Lib.hid (below_step hbw.out hb2)
                  clear hb2 s13 a0 a1
                  have a0 := ha2.out.c0
                  have a1 := ha2.out.c1
                  have s12 := hs2.out.c12
                  have s14 := hs2.out.c14
                  have s9 := hs2.out.c9
                  have s17 := hs2.out.c17
                  go_wp2_with fail
                  go_quiet (fail)
                  have hbw3 := Lib.hid (below_drewN hbw2.out nq)
                  go_wp2_with fail
                  go_ret
                  exact ⟨ret_int hfin.out.symm, hbw3.out⟩
                · have hfin : Hid (Cal.mayErr p s a = 0) := by show _ = _; rw [hC, if_neg (fun h => hx h.2)]
                  have hx' : s.extended < p.exts := by omega
                  clear hf hac hl hC hd h3 hx h1 h6
                  go_enter Tryz.func228, Tryz.ntmps228
                  go_wp2_with (refine wpList_load_mid rfl 134 (.tmp 2) rfl w.heap.size 0 rfl [.int .i64 p.runs.m, .int .i64 p.runs.d, .bool p.runs.k, .int .i64 p.obj.m, .int .i64 p.obj.d, .bool p.obj.k, .int .i64 p.wait.m, .int .i64 p.wait.d, .bool p.wait.k, .int .i64 p.exts, .int .i64 p.longest, .slice A p.hols.length c, .int .i64 s.phase, .int .i64 s.last, .int .i64 s.deadline, .int .i64 s.object, .int .i64 s.objected, .int .i64 s.extended] _ hsn.out.range Tryz.underlying134 rfl stSize ?_)
                  refine (formed_any A c p s a _).mono ?_
                  rintro e w1 ⟨rfl, hb1⟩
                  rw [hF.out]
                  have hs1 := Lib.hid (hsn.out.below hb1)
                  have ha1 := Lib.hid (han.out.below hb1)
                  have hbw := Lib.hid (below_step (below_step (below_alloc w _) (below_alloc _ _)) hb1)
                  clear hb1
                  have a0 := ha1.out.c0
                  have a1 := ha1.out.c1
                  have s13 := hs1.out.c13
                  go_wp2_with (refine wpList_load_mid rfl 134 (.tmp 2) rfl w.heap.size 0 rfl [.int .i64 p.runs.m, .int .i64 p.runs.d, .bool p.runs.k, .int .i64 p.obj.m, .int .i64 p.obj.d, .bool p.obj.k, .int .i64 p.wait.m, .int .i64 p.wait.d, .bool p.wait.k, .int .i64 p.exts, .int .i64 p.longest, .slice A p.hols.length c, .int .i64 s.phase, .int .i64 s.last, .int .i64 s.deadline, .int .i64 s.object, .int .i64 s.objected, .int .i64 s.extended] _ hs1.out.range Tryz.underlying134 rfl stSize ?_)
                  refine (accepts_any A c p s a.kind _).mono ?_
                  rintro e w2 ⟨rfl, hb2⟩
                  rw [hacc.out]
                  have hs2 := Lib.hid (hs1.out.below hb2)
                  have ha2 := Lib.hid (ha1.out.below hb2)
                  have hbw2 := Lib.hid (below_step hbw.out hb2)
                  clear hb2 s13 a0 a1
                  have a0 := ha2.out.c0
                  have a1 := ha2.out.c1
                  have s12 := hs2.out.c12
                  have s14 := hs2.out.c14
                  have s9 := hs2.out.c9
                  have s17 := hs2.out.c17
                  go_wp2_with fail
                  go_quiet (fail)
                  have hbw3 := Lib.hid (below_drewN hbw2.out nq)
                  go_wp2_with fail
                  go_ret
                  exact ⟨ret_int hfin.out.symm, hbw3.out⟩
              · have h6' : (a.kind == 6) = false := by simpa using h6
                have hfin : Hid (Cal.mayErr p s a = 0) := by show _ = _; rw [hC, if_neg (fun h => h6 h.1)]
                clear hf hac hl hC hd h3 h6 h1
                go_enter Tryz.func228, Tryz.ntmps228
                go_wp2_with (refine wpList_load_mid rfl 134 (.tmp 2) rfl w.heap.size 0 rfl [.int .i64 p.runs.m, .int .i64 p.runs.d, .bool p.runs.k, .int .i64 p.obj.m, .int .i64 p.obj.d, .bool p.obj.k, .int .i64 p.wait.m, .int .i64 p.wait.d, .bool p.wait.k, .int .i64 p.exts, .int .i64 p.longest, .slice A p.hols.length c, .int .i64 s.phase, .int .i64 s.last, .int .i64 s.deadline, .int .i64 s.object, .int .i64 s.objected, .int .i64 s.extended] _ hsn.out.range Tryz.underlying134 rfl stSize ?_)
                refine (formed_any A c p s a _).mono ?_
                rintro e w1 ⟨rfl, hb1⟩
                rw [hF.out]
                have hs1 := Lib.hid (hsn.out.below hb1)
                have ha1 := Lib.hid (han.out.below hb1)
                have hbw := Lib.hid (below_step (below_step (below_alloc w _) (below_alloc _ _)) hb1)
                clear hb1
                have a0 := ha1.out.c0
                have a1 := ha1.out.c1
                have s13 := hs1.out.c13
                go_wp2_with (refine wpList_load_mid rfl 134 (.tmp 2) rfl w.heap.size 0 rfl [.int .i64 p.runs.m, .int .i64 p.runs.d, .bool p.runs.k, .int .i64 p.obj.m, .int .i64 p.obj.d, .bool p.obj.k, .int .i64 p.wait.m, .int .i64 p.wait.d, .bool p.wait.k, .int .i64 p.exts, .int .i64 p.longest, .slice A p.hols.length c, .int .i64 s.phase, .int .i64 s.last, .int .i64 s.deadline, .int .i64 s.object, .int .i64 s.objected, .int .i64 s.extended] _ hs1.out.range Tryz.underlying134 rfl stSize ?_)
                refine (accepts_any A c p s a.kind _).mono ?_
                rintro e w2 ⟨rfl, hb2⟩
                rw [hacc.out]
                have hs2 := Lib.hid (hs1.out.below hb2)
                have ha2 := Lib.hid (ha1.out.below hb2)
                have hbw2 := Lib.hid (below_step hbw.out hb2)
                clear hb2 s13 a0 a1
                have a0 := ha2.out.c0
                have a1 := ha2.out.c1
                have s12 := hs2.out.c12
                have s14 := hs2.out.c14
                have s9 := hs2.out.c9
                have s17 := hs2.out.c17
                go_wp2_with fail
                go_quiet (fail)
                have hbw3 := Lib.hid (below_drewN hbw2.out nq)
                go_wp2_with fail
                go_ret
                exact ⟨ret_int hfin.out.symm, hbw3.out⟩
        · have h1' : (s.phase == 1) = false := by simpa using h1
          rw [if_neg (fun h => h1 h.1)] at hC
          by_cases h3 : a.kind = 3
          · exfalso
            rw [h3] at hac
            unfold Cal.accB at hac
            simp at hac
            exact h1 hac
          · have h3' : (a.kind == 3) = false := by simpa using h3
            rw [if_neg (fun h => h3 h.1)] at hC
            by_cases h6 : a.kind = 6
            · exfalso
              rw [h6] at hac
              unfold Cal.accB at hac
              simp at hac
              exact h1 hac
            · have h6' : (a.kind == 6) = false := by simpa using h6
              have hfin : Hid (Cal.mayErr p s a = 0) := by show _ = _; rw [hC, if_neg (fun h => h6 h.1)]
              clear hf hac hl hC h1 h3 h6
              go_enter Tryz.func228, Tryz.ntmps228
              go_wp2_with (refine wpList_load_mid rfl 134 (.tmp 2) rfl w.heap.size 0 rfl [.int .i64 p.runs.m, .int .i64 p.runs.d, .bool p.runs.k, .int .i64 p.obj.m, .int .i64 p.obj.d, .bool p.obj.k, .int .i64 p.wait.m, .int .i64 p.wait.d, .bool p.wait.k, .int .i64 p.exts, .int .i64 p.longest, .slice A p.hols.length c, .int .i64 s.phase, .int .i64 s.last, .int .i64 s.deadline, .int .i64 s.object, .int .i64 s.objected, .int .i64 s.extended] _ hsn.out.range Tryz.underlying134 rfl stSize ?_)
              refine (formed_any A c p s a _).mono ?_
              rintro e w1 ⟨rfl, hb1⟩
              rw [hF.out]
              have hs1 := Lib.hid (hsn.out.below hb1)
              have ha1 := Lib.hid (han.out.below hb1)
              have hbw := Lib.hid (below_step (below_step (below_alloc w _) (below_alloc _ _)) hb1)
              clear hb1
              have a0 := ha1.out.c0
              have a1 := ha1.out.c1
              have s13 := hs1.out.c13
              go_wp2_with (refine wpList_load_mid rfl 134 (.tmp 2) rfl w.heap.size 0 rfl [.int .i64 p.runs.m, .int .i64 p.runs.d, .bool p.runs.k, .int .i64 p.obj.m, .int .i64 p.obj.d, .bool p.obj.k, .int .i64 p.wait.m, .int .i64 p.wait.d, .bool p.wait.k, .int .i64 p.exts, .int .i64 p.longest, .slice A p.hols.length c, .int .i64 s.phase, .int .i64 s.last, .int .i64 s.deadline, .int .i64 s.object, .int .i64 s.objected, .int .i64 s.extended] _ hs1.out.range Tryz.underlying134 rfl stSize ?_)
              refine (accepts_any A c p s a.kind _).mono ?_
              rintro e w2 ⟨rfl, hb2⟩
              rw [hacc.out]
              have hs2 := Lib.hid (hs1.out.below hb2)
              have ha2 := Lib.hid (ha1.out.below hb2)
              have hbw2 := Lib.hid (below_step hbw.out hb2)
              clear hb2 s13 a0 a1
              have a0 := ha2.out.c0
              have a1 := ha2.out.c1
              have s12 := hs2.out.c12
              have s14 := hs2.out.c14
              have s9 := hs2.out.c9
              have s17 := hs2.out.c17
              go_wp2_with fail
              go_quiet (fail)
              have hbw3 := Lib.hid (below_drewN hbw2.out nq)
              go_wp2_with fail
              go_ret
              exact ⟨ret_int hfin.out.symm, hbw3.out⟩
  · have hf1 : (F != 0) = true := by rw [← hF]; simpa using hf
    have hfin : Hid (Cal.mayErr p s a = F) := by show _ = _; unfold Cal.mayErr; rw [if_neg hf, hF]
    have hF := Lib.hid hF
    clear hf
    go_enter Tryz.func228, Tryz.ntmps228
    go_wp2_with (refine wpList_load_mid rfl 134 (.tmp 2) rfl w.heap.size 0 rfl [.int .i64 p.runs.m, .int .i64 p.runs.d, .bool p.runs.k, .int .i64 p.obj.m, .int .i64 p.obj.d, .bool p.obj.k, .int .i64 p.wait.m, .int .i64 p.wait.d, .bool p.wait.k, .int .i64 p.exts, .int .i64 p.longest, .slice A p.hols.length c, .int .i64 s.phase, .int .i64 s.last, .int .i64 s.deadline, .int .i64 s.object, .int .i64 s.objected, .int .i64 s.extended] _ hsn.out.range Tryz.underlying134 rfl stSize ?_)
    refine (formed_any A c p s a _).mono ?_
    rintro e w1 ⟨rfl, hb1⟩
    rw [hF.out]
    have hs1 := Lib.hid (hsn.out.below hb1)
    have ha1 := Lib.hid (han.out.below hb1)
    have hbw := Lib.hid (below_step (below_step (below_alloc w _) (below_alloc _ _)) hb1)
    clear hb1
    have a0 := ha1.out.c0
    have a1 := ha1.out.c1
    have s13 := hs1.out.c13
    go_wp2_with fail
    go_ret
    exact ⟨ret_int hfin.out.symm, hbw.out⟩
end Go.Proofs.YtbegbajlagcbdaaGreatDoor
