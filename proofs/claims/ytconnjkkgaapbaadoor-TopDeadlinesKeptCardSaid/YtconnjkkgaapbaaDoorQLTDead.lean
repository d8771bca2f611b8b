/- The walk of a statement. -/
import Derived.Test.YtconnjkkgaapbaaDoorC22
import Derived.Test.YtconnjkkgaapbaaDoorC23
namespace Go.Proofs.YtconnjkkgaapbaaDoor
open Go Go.RowKit
/-- What a procedure hangs on in memory. -/
structure PB (w : World) (A : Option Addr) (p : Proc) : Prop where
  hols : Hols w A p.hols
  tab : Tab w
theorem PB.below {w w' : World} {A : Option Addr} {p : Proc} (h : PB w A p) (hb : Below w.heap.size w w') : PB w' A p := ⟨h.hols.below hb, h.tab.below hb⟩
theorem PB.nb {w : World} {A N : Option Addr} {p : Proc} {n : Note} (h : PB w A p) (ha : Acts w N n.acts) (hn : n.name.size ≤ maxLen) : NB w A p N n := ⟨h.hols, h.tab, ha, hn⟩
def servNote : Note := ⟨nName, 0, [⟨0, 0, 0⟩]⟩
theorem dl_served : Cal.dlAtS monthP servNote 0 = (33, 0) := by decide +kernel
theorem rule_served : Cal.dlS [] 0 1 0 false = (33, 0) := by decide +kernel
set_option maxRecDepth 100000 in
set_option maxHeartbeats 4000000 in
theorem served_any (w : World) (hT : Tab w) : Calls Tryd.prog 11 #[] w fun e w' => e = .returned (.bool true) ∧ Below w.heap.size w w' := by
  have hT := Lib.hid hT
  have hdl := fun w1 A (h : NB w1 none monthP A servNote) => DeadlineAt_any none 0 monthP A 1 servNote 0 w1 h
  rw [dl_served] at hdl
  have hdl := Lib.hid hdl
  have hrd := fun w1 (h : Tab w1) => Deadline_any none 0 [] 0 1 0 false w1 (Hols.nil _ _) h
  unfold DlPost at hrd
  rw [rule_served] at hrd
  have hrd := Lib.hid hrd
  go_enter Tryd.func11, Tryd.ntmps11
  go_wp2_with fail
  have ha3 := Lib.hid (acts_new w [⟨0, 0, 0⟩] (by decide) 51)
  have hb3 := Lib.hid (below_alloc w (.cells #[.int .i64 0, .int .i64 0, .int .i64 0] 51))
  refine (Opened_any (some ⟨w.heap.size, 0, none⟩) 1 1 _).mono ?_
  rintro e w4 ⟨rfl, hb4⟩
  have ha4 := Lib.hid (ha3.out.below hb4)
  have hb4 := Lib.hid (below_step hb3.out hb4)
  generalize some (⟨w.heap.size, 0, none⟩ : Addr) = A at *
  have hN := Lib.hid (BoxAt.new w4 #[.string ⟨#[]⟩, .int .i64 0, .slice none 0 0] 47)
  go_wp2_with ((refine wpList_store_box rfl 47 (.tmp 1) (.tmp 8) rfl (w4.heap.size) _ [.string ⟨#[110]⟩, .int .i64 0, .slice A 1 1] (by rfl) (by rfl) hN.out rfl ntSize (by kernel_rfl) ?_; intro w5 h5 hg5))
  have hb45 := below_of_grownB (below_alloc w4 _) hg5 (Nat.le_refl _)
  have hb5 := Lib.hid (below_step hb4.out hb45)
  have ha5 := Lib.hid (ha4.out.below hb45)
  have h5 := Lib.hid h5
  clear hb45 hg5 hN
  generalize w4.heap.size = B at *
  refine wp_region_held_drew (S := (fun w' => w'.cell? ⟨B, 0, none⟩ = some (.string ⟨#[110]⟩) ∧ w'.cell? ⟨B, 1, none⟩ = some (.int .i64 0) ∧ w'.cell? ⟨B, 2, none⟩ = some (.slice A 1 1))) (by kernel_rfl) ⟨h5.out.c 0 _ rfl, h5.out.c 1 _ rfl, h5.out.c 2 _ rfl⟩ (fun hHeld => ?_)
  (refine tkH 1 (v := ?_) ?_ ?_; rotate_left; focus (intro w' hSw; (try dsimp only at hSw); go_simp; (try with_reducible rfl)); (try simp only [Act.put, List.setIfInBounds_toArray, List.set_cons_zero, List.set_cons_succ]))
  (refine wpAnyH_ready (rs := [0]) (by decide +kernel) (by simp) ?_; refine AllReadyH.cons rfl (fun K hK => ?_) AllReadyH.nil; rw [if_pos (by kernel_rfl)]; go_simp)
  refine (Month_any _).mono ?_
  rintro e w6 ⟨rfl, hb6⟩
  have hb56 := below_of_drewN (n := 1) hb6
  have h6 := Lib.hid (h5.out.below hb56)
  have ha6 := Lib.hid (ha5.out.below hb56)
  have hb6 := Lib.hid (below_step hb5.out hb56)
  clear hb56
  go_simp
  (refine hK.out _ _ ⟨h6.out.c 0 _ rfl, h6.out.c 1 _ rfl, h6.out.c 2 _ rfl⟩ (fun hHeld => ?_); clear hK K; (try simp only [Act.put, List.setIfInBounds_toArray]); (try simp only [List.set_cons_zero, List.set_cons_succ]))
  (refine wpAnyH_ready (rs := [2]) (by decide +kernel) (by simp) ?_; refine AllReadyH.cons rfl (fun K hK => ?_) AllReadyH.nil; rw [if_pos (by kernel_rfl)]; go_simp)
  refine (hdl.out _ A ⟨Hols.nil _ _, hT.out.below hb6.out, ha6.out, by decide⟩).mono ?_
  rintro e w7 ⟨rfl, hb7⟩
  have h7 := Lib.hid (h6.out.below hb7)
  have hb7 := Lib.hid (below_step hb6.out hb7)
  go_simp
  (refine hK.out _ _ ⟨h7.out.c 0 _ rfl, h7.out.c 1 _ rfl, h7.out.c 2 _ rfl⟩ (fun hHeld => ?_); clear hK K; (try simp only [Act.put, List.setIfInBounds_toArray]); (try simp only [List.set_cons_zero, List.set_cons_succ]))
  (refine tkH 3 (v := ?_) ?_ ?_; rotate_left; focus (intro w' hSw; (try dsimp only at hSw); go_simp; (try with_reducible rfl)); (try simp only [Act.put, List.setIfInBounds_toArray, List.set_cons_zero, List.set_cons_succ]))
  (refine tkH 4 (v := ?_) ?_ ?_; rotate_left; focus (intro w' hSw; (try dsimp only at hSw); go_simp; (try with_reducible rfl)); (try simp only [Act.put, List.setIfInBounds_toArray, List.set_cons_zero, List.set_cons_succ]))
  (refine tkH 5 (v := ?_) ?_ ?_; rotate_left; focus (intro w' hSw; (try dsimp only at hSw); go_simp; (try with_reducible rfl)); (try simp only [Act.put, List.setIfInBounds_toArray, List.set_cons_zero, List.set_cons_succ]))
  (refine tkH 6 (v := ?_) ?_ ?_; rotate_left; focus (intro w' hSw; (try dsimp only at hSw); go_simp; (try with_reducible rfl)); (try simp only [Act.put, List.setIfInBounds_toArray, List.set_cons_zero, List.set_cons_succ]))
  (refine tkH 7 (v := ?_) ?_ ?_; rotate_left; focus (intro w' hSw; (try dsimp only at hSw); go_simp; (try with_reducible rfl)); (try simp only [Act.put, List.setIfInBounds_toArray, List.set_cons_zero, List.set_cons_succ]))
  refine wpAnyH_done (by kernel_rfl) ?_ _
  clear hHeld h5 h6 ha5 ha6
  go_wp2_with fail
  refine (hrd.out _ (hT.out.below hb7.out)).mono ?_
  rintro e w8 ⟨rfl, hb8⟩
  have hb8 := Lib.hid (below_step hb7.out hb8)
  go_wp2_with fail
  go_ret
  exact ⟨rfl, hb8.out⟩
theorem acts_grown {w w' : World} {N : Option Addr} {l : List NAct} {B : Nat} (h : Acts w N l) (hg : w.grownBy w' (some B)) (hB : ∀ ad, N = some ad → ad.block ≠ B) : Acts w' N l := by
  refine ⟨fun k r hr => ?_, h.size⟩
  obtain ⟨b, o, hA, hlt, hc⟩ := h.rows k r hr
  refine ⟨b, o, hA, Nat.lt_of_lt_of_le hlt hg.size, fun j v hv => ?_⟩
  exact (World.cell?_of_block (a := ⟨b, _, none⟩) (hg.block b hlt (by have := hB _ hA; simpa using this))).trans (hc j v hv)
set_option maxRecDepth 100000 in
set_option maxHeartbeats 8000000 in
theorem dead_no (A : Option Addr) (c : Nat) (p : Proc) (day wait F G D O : Int) (w : World) (hN : PB w A p) (hPz : Hid (Cal.procErr p = 0)) (d0 : 0 ≤ day) (d1 : day ≤ 200000) (t0 : 0 ≤ wait) (t1 : wait ≤ 30)
    (hadd : Hid (∀ w1, PB w1 A p → Calls Tryd.prog 15 #[.agg #[.int .i64 p.runs.m, .int .i64 p.runs.d, .bool p.runs.k, .int .i64 p.obj.m, .int .i64 p.obj.d, .bool p.obj.k, .int .i64 p.wait.m, .int .i64 p.wait.d, .bool p.wait.k, .int .i64 p.exts, .int .i64 p.longest, .slice A p.hols.length c], .agg #[.string ⟨#[110]⟩, .int .i64 day, .slice none 0 0], .agg #[.int .i64 day, .int .i64 0, .int .i64 0]] w1 (AddBad w1 2)))
    (hr : Hid (∀ w1, PB w1 A p → Calls Tryd.prog 16 #[.slice A p.hols.length c, .int .i64 day, .agg #[.int .i64 p.runs.m, .int .i64 p.runs.d, .bool p.runs.k]] w1 fun e w' => e = .returned (.tuple #[.int .i64 D, .int .i64 F]) ∧ Below w1.heap.size w1 w'))
    (ho : Hid (∀ w1, PB w1 A p → Calls Tryd.prog 16 #[.slice A p.hols.length c, .int .i64 day, .agg #[.int .i64 p.obj.m, .int .i64 p.obj.d, .bool p.obj.k]] w1 fun e w' => e = .returned (.tuple #[.int .i64 O, .int .i64 G]) ∧ Below w1.heap.size w1 w'))
    (hFG : (F != 0) = true ∨ ((F != 0) = false ∧ (G != 0) = true)) :
    Calls Tryd.prog 4 #[.agg #[.int .i64 p.runs.m, .int .i64 p.runs.d, .bool p.runs.k, .int .i64 p.obj.m, .int .i64 p.obj.d, .bool p.obj.k, .int .i64 p.wait.m, .int .i64 p.wait.d, .bool p.wait.k, .int .i64 p.exts, .int .i64 p.longest, .slice A p.hols.length c], .int .i64 day, .int .i64 wait] w fun e w' => e = .returned (.bool true) ∧ Below w.heap.size w w' := by
  have hN := Lib.hid hN
  rcases hFG with f1 | ⟨f1, f2⟩
  all_goals
    have g1 := Lib.hid (BoxAt.new w #[.int .i64 p.runs.m, .int .i64 p.runs.d, .bool p.runs.k, .int .i64 p.obj.m, .int .i64 p.obj.d, .bool p.obj.k, .int .i64 p.wait.m, .int .i64 p.wait.d, .bool p.wait.k, .int .i64 p.exts, .int .i64 p.longest, .slice A p.hols.length c] 41)
    have hb := Lib.hid (below_alloc w (.cells #[.int .i64 p.runs.m, .int .i64 p.runs.d, .bool p.runs.k, .int .i64 p.obj.m, .int .i64 p.obj.d, .bool p.obj.k, .int .i64 p.wait.m, .int .i64 p.wait.d, .bool p.wait.k, .int .i64 p.exts, .int .i64 p.longest, .slice A p.hols.length c] 41))
    go_enter Tryd.func4, Tryd.ntmps4
    go_wp2_with fail
    refine (served_any _ (hN.out.tab.below hb.out)).mono ?_
    rintro e w1 ⟨rfl, hbn⟩
    have g1 := Lib.hid (g1.out.below hbn)
    have hb := Lib.hid (below_step hb.out hbn)
    clear hbn
    go_wp2_with (refine wpPrG g1.out (.tmp 3) rfl ?_)
    refine (Modest_any A c p _ (hN.out.hols.below hb.out)).mono ?_
    rintro e w2 ⟨⟨b, rfl⟩, hbn⟩
    have g1 := Lib.hid (g1.out.below hbn)
    have hb := Lib.hid (below_step hb.out hbn)
    clear hbn
    cases b
    · go_wp2_with fail
      go_ret
      exact ⟨by first | rfl | done, hb.out⟩
    go_wp2_with (refine wpPrG g1.out (.tmp 3) rfl ?_)
    refine (CheckProcedureR_any A c p _ (hN.out.hols.below hb.out)).mono ?_
    rintro e w3 ⟨rfl, hbn⟩
    rw [hPz.out]
    have g1 := Lib.hid (g1.out.below hbn)
    have hb := Lib.hid (below_step hb.out hbn)
    clear hbn
    have hN7 := Lib.hid (BoxAt.new w3 #[.string ⟨#[]⟩, .int .i64 0, .slice none 0 0] 47)
    have hB7 := g1.out.lt
    go_wp2_with (first | ((first | (go_at_call 64) | (go_at_call 14) | (go_at_call 39) | (go_at_call 30) | (fail) | (fail) | (fail)); first | refine rin ?_ | refine rout ?_ | refine rany ?_) | ((refine wpList_store_box rfl 47 (.tmp 7) (.tmp 48) rfl (w3.heap.size) _ [.string ⟨#[110]⟩, .int .i64 day, .slice none 0 0] (by rfl) (by rfl) hN7.out rfl ntSize (by kernel_rfl) ?_; intro w4 h4 hg4); have hbn := below_of_grownB (below_alloc w3 _) hg4 (Nat.le_refl _); have g1 := Lib.hid (g1.out.below hbn); have hb := Lib.hid (below_step hb.out hbn); have g7 := Lib.hid h4; clear hbn hg4 hN7; have y0 := g7.out.c 0 _ rfl; have y1 := g7.out.c 1 _ rfl; have y2 := g7.out.c 2 _ rfl) | (refine wpPrG g1.out (.tmp 3) rfl ?_))
    generalize w3.heap.size = B7 at *
    refine (hadd.out _ (hN.out.below hb.out)).mono ?_
    rintro e w5 ⟨rfl, hbn⟩
    have g7 := Lib.hid (g7.out.below hbn)
    have g1 := Lib.hid (g1.out.below hbn)
    have hb := Lib.hid (below_step hb.out hbn)
    clear hbn y0 y1 y2
    have y0 := g7.out.c 0 _ rfl
    have y1 := g7.out.c 1 _ rfl
    have y2 := g7.out.c 2 _ rfl
    go_wp2_with ((refine wpList_store_box rfl 47 (.tmp 7) (.tmp 55) rfl (B7) _ [.string ⟨#[]⟩, .int .i64 0, .slice none 0 0] (by rfl) (by rfl) g7.out rfl ntSize (by kernel_rfl) ?_; intro w4 h4 hg4); have g1 := Lib.hid (g1.out.grown hg4 (by simp; omega)); have hb := Lib.hid (below_of_grownB hb.out hg4 (by omega)); have g7 := Lib.hid h4; have z0 := g1.out.c 0 _ rfl; have z1 := g1.out.c 1 _ rfl; have z2 := g1.out.c 2 _ rfl; have z3 := g1.out.c 3 _ rfl; have z4 := g1.out.c 4 _ rfl; have z5 := g1.out.c 5 _ rfl; have z6 := g1.out.c 6 _ rfl; have z7 := g1.out.c 7 _ rfl; have z8 := g1.out.c 8 _ rfl; have z11 := g1.out.c 11 _ rfl)
    refine (hr.out _ (hN.out.below hb.out)).mono ?_
    rintro e w6 ⟨rfl, hbn⟩
    clear z0 z1 z2 z3 z4 z5 z6 z7 z8 z11
    clear y0 y1 y2
    have g1 := Lib.hid (g1.out.below hbn)
    have hb := Lib.hid (below_step hb.out hbn)
    clear hbn
    have z0 := g1.out.c 0 _ rfl
    have z1 := g1.out.c 1 _ rfl
    have z2 := g1.out.c 2 _ rfl
    have z3 := g1.out.c 3 _ rfl
    have z4 := g1.out.c 4 _ rfl
    have z5 := g1.out.c 5 _ rfl
    have z6 := g1.out.c 6 _ rfl
    have z7 := g1.out.c 7 _ rfl
    have z8 := g1.out.c 8 _ rfl
    have z11 := g1.out.c 11 _ rfl
    go_wp2_with fail
    refine (ho.out _ (hN.out.below hb.out)).mono ?_
    rintro e w7 ⟨rfl, hbn⟩
    clear z0 z1 z2 z3 z4 z5 z6 z7 z8 z11
    have g1 := Lib.hid (g1.out.below hbn)
    have hb := Lib.hid (below_step hb.out hbn)
    clear hbn
    go_wp2_with fail
    go_ret
    exact ⟨by first | rfl | done, hb.out⟩
set_option maxRecDepth 100000 in
set_option maxHeartbeats 8000000 in
theorem dead_top (A : Option Addr) (c : Nat) (p : Proc) (day wait D O o : Int) (n : Note) (w : World) (hN : PB w A p) (hPz : Hid (Cal.procErr p = 0)) (d0 : 0 ≤ day) (d1 : day ≤ 200000) (t0 : 0 ≤ wait) (t1 : wait ≤ 30) (hnm : n.name.size ≤ maxLen)
    (hadd : Hid (∀ w1, PB w1 A p → Calls Tryd.prog 15 #[.agg #[.int .i64 p.runs.m, .int .i64 p.runs.d, .bool p.runs.k, .int .i64 p.obj.m, .int .i64 p.obj.d, .bool p.obj.k, .int .i64 p.wait.m, .int .i64 p.wait.d, .bool p.wait.k, .int .i64 p.exts, .int .i64 p.longest, .slice A p.hols.length c], .agg #[.string ⟨#[110]⟩, .int .i64 day, .slice none 0 0], .agg #[.int .i64 day, .int .i64 0, .int .i64 0]] w1 (MorePost w1 n)))
    (hr : Hid (∀ w1, PB w1 A p → Calls Tryd.prog 16 #[.slice A p.hols.length c, .int .i64 day, .agg #[.int .i64 p.runs.m, .int .i64 p.runs.d, .bool p.runs.k]] w1 fun e w' => e = .returned (.tuple #[.int .i64 D, .int .i64 0]) ∧ Below w1.heap.size w1 w'))
    (ho : Hid (∀ w1, PB w1 A p → Calls Tryd.prog 16 #[.slice A p.hols.length c, .int .i64 day, .agg #[.int .i64 p.obj.m, .int .i64 p.obj.d, .bool p.obj.k]] w1 fun e w' => e = .returned (.tuple #[.int .i64 O, .int .i64 0]) ∧ Below w1.heap.size w1 w'))
    (hdl : Hid (Cal.dlAtS p n day = (D, 0))) (hob : Hid (Cal.objS p n day = (o, 0))) (hmn : (O < D ∧ o = O) ∨ (D ≤ O ∧ o = D)) (hbig : 200000 ≤ o) :
    Calls Tryd.prog 4 #[.agg #[.int .i64 p.runs.m, .int .i64 p.runs.d, .bool p.runs.k, .int .i64 p.obj.m, .int .i64 p.obj.d, .bool p.obj.k, .int .i64 p.wait.m, .int .i64 p.wait.d, .bool p.wait.k, .int .i64 p.exts, .int .i64 p.longest, .slice A p.hols.length c], .int .i64 day, .int .i64 wait] w fun e w' => e = .returned (.bool true) ∧ Below w.heap.size w w' := by
  have hN := Lib.hid hN
  have hxD : (D != D) = false := by simp
  have hxo : (o != o) = false := by simp
  rcases hmn with ⟨q, rfl⟩ | ⟨q, rfl⟩
  all_goals
    have g1 := Lib.hid (BoxAt.new w #[.int .i64 p.runs.m, .int .i64 p.runs.d, .bool p.runs.k, .int .i64 p.obj.m, .int .i64 p.obj.d, .bool p.obj.k, .int .i64 p.wait.m, .int .i64 p.wait.d, .bool p.wait.k, .int .i64 p.exts, .int .i64 p.longest, .slice A p.hols.length c] 41)
    have hb := Lib.hid (below_alloc w (.cells #[.int .i64 p.runs.m, .int .i64 p.runs.d, .bool p.runs.k, .int .i64 p.obj.m, .int .i64 p.obj.d, .bool p.obj.k, .int .i64 p.wait.m, .int .i64 p.wait.d, .bool p.wait.k, .int .i64 p.exts, .int .i64 p.longest, .slice A p.hols.length c] 41))
    go_enter Tryd.func4, Tryd.ntmps4
    go_wp2_with fail
    refine (served_any _ (hN.out.tab.below hb.out)).mono ?_
    rintro e w1 ⟨rfl, hbn⟩
    have g1 := Lib.hid (g1.out.below hbn)
    have hb := Lib.hid (below_step hb.out hbn)
    clear hbn
    go_wp2_with (refine wpPrG g1.out (.tmp 3) rfl ?_)
    refine (Modest_any A c p _ (hN.out.hols.below hb.out)).mono ?_
    rintro e w2 ⟨⟨b, rfl⟩, hbn⟩
    have g1 := Lib.hid (g1.out.below hbn)
    have hb := Lib.hid (below_step hb.out hbn)
    clear hbn
    cases b
    · go_wp2_with fail
      go_ret
      exact ⟨by first | rfl | done, hb.out⟩
    go_wp2_with (refine wpPrG g1.out (.tmp 3) rfl ?_)
    refine (CheckProcedureR_any A c p _ (hN.out.hols.below hb.out)).mono ?_
    rintro e w3 ⟨rfl, hbn⟩
    rw [hPz.out]
    have g1 := Lib.hid (g1.out.below hbn)
    have hb := Lib.hid (below_step hb.out hbn)
    clear hbn
    have hN7 := Lib.hid (BoxAt.new w3 #[.string ⟨#[]⟩, .int .i64 0, .slice none 0 0] 47)
    have hB7 := g1.out.lt
    go_wp2_with (first | ((first | (go_at_call 64) | (go_at_call 14) | (go_at_call 39) | (go_at_call 30) | (fail) | (fail) | (fail)); first | refine rin ?_ | refine rout ?_ | refine rany ?_) | ((refine wpList_store_box rfl 47 (.tmp 7) (.tmp 48) rfl (w3.heap.size) _ [.string ⟨#[110]⟩, .int .i64 day, .slice none 0 0] (by rfl) (by rfl) hN7.out rfl ntSize (by kernel_rfl) ?_; intro w4 h4 hg4); have hbn := below_of_grownB (below_alloc w3 _) hg4 (Nat.le_refl _); have g1 := Lib.hid (g1.out.below hbn); have hb := Lib.hid (below_step hb.out hbn); have g7 := Lib.hid h4; clear hbn hg4 hN7; have y0 := g7.out.c 0 _ rfl; have y1 := g7.out.c 1 _ rfl; have y2 := g7.out.c 2 _ rfl) | (refine wpPrG g1.out (.tmp 3) rfl ?_))
    generalize w3.heap.size = B7 at *
    have hB7z := g7.out.lt
    refine (hadd.out _ (hN.out.below hb.out)).mono ?_
    rintro e w5 ⟨N, d, rfl, hm0, hbn, hB0⟩
    have g7 := Lib.hid (g7.out.below hbn)
    have g1 := Lib.hid (g1.out.below hbn)
    have hb := Lib.hid (below_step hb.out hbn)
    clear hbn y0 y1 y2
    have y0 := g7.out.c 0 _ rfl
    have y1 := g7.out.c 1 _ rfl
    have y2 := g7.out.c 2 _ rfl
    go_wp2_with ((refine wpList_store_box rfl 47 (.tmp 7) (.tmp 55) rfl (B7) _ [.string n.name, .int .i64 n.opened, .slice N n.acts.length d] (by rfl) (by rfl) g7.out rfl ntSize (by kernel_rfl) ?_; intro w4 h4 hg4); have g1 := Lib.hid (g1.out.grown hg4 (by simp; omega)); have hb := Lib.hid (below_of_grownB hb.out hg4 (by omega)); have z0 := g1.out.c 0 _ rfl; have z1 := g1.out.c 1 _ rfl; have z2 := g1.out.c 2 _ rfl; have z3 := g1.out.c 3 _ rfl; have z4 := g1.out.c 4 _ rfl; have z5 := g1.out.c 5 _ rfl; have z6 := g1.out.c 6 _ rfl; have z7 := g1.out.c 7 _ rfl; have z8 := g1.out.c 8 _ rfl; have z11 := g1.out.c 11 _ rfl)
    have hm : Hid (Acts w4 N n.acts) := acts_grown hm0 hg4 (fun ad h => by have := hB0 ad h; have := hB7z; omega)
    clear y0 y1 y2 hg4 hm0 g7
    have g7 := Lib.hid h4
    clear h4
    refine (hr.out _ (hN.out.below hb.out)).mono ?_
    rintro e w6 ⟨rfl, hbn⟩
    clear z0 z1 z2 z3 z4 z5 z6 z7 z8 z11
    have g7 := Lib.hid (g7.out.below hbn)
    have hm := Lib.hid (hm.out.below hbn)
    have g1 := Lib.hid (g1.out.below hbn)
    have hb := Lib.hid (below_step hb.out hbn)
    clear hbn
    have z0 := g1.out.c 0 _ rfl
    have z1 := g1.out.c 1 _ rfl
    have z2 := g1.out.c 2 _ rfl
    have z3 := g1.out.c 3 _ rfl
    have z4 := g1.out.c 4 _ rfl
    have z5 := g1.out.c 5 _ rfl
    have z6 := g1.out.c 6 _ rfl
    have z7 := g1.out.c 7 _ rfl
    have z8 := g1.out.c 8 _ rfl
    have z11 := g1.out.c 11 _ rfl
    go_wp2_with fail
    refine (ho.out _ (hN.out.below hb.out)).mono ?_
    rintro e w7 ⟨rfl, hbn⟩
    clear z0 z1 z2 z3 z4 z5 z6 z7 z8 z11
    have g7 := Lib.hid (g7.out.below hbn)
    have hm := Lib.hid (hm.out.below hbn)
    have g1 := Lib.hid (g1.out.below hbn)
    have hb := Lib.hid (below_step hb.out hbn)
    clear hbn
    have y0 := g7.out.c 0 _ rfl
    have y1 := g7.out.c 1 _ rfl
    have y2 := g7.out.c 2 _ rfl
    go_wp2_with (refine wpPrG g1.out (.tmp 3) rfl ?_)
    refine (DeadlineAt_any A c p N d n day _ ((hN.out.below hb.out).nb hm.out hnm)).mono ?_
    rintro e wk ⟨he, hbn⟩
    rw [hdl.out] at he
    subst he
    clear y0 y1 y2
    have g7 := Lib.hid (g7.out.below hbn)
    have hm := Lib.hid (hm.out.below hbn)
    have g1 := Lib.hid (g1.out.below hbn)
    have hb := Lib.hid (below_step hb.out hbn)
    clear hbn
    have y0 := g7.out.c 0 _ rfl
    have y1 := g7.out.c 1 _ rfl
    have y2 := g7.out.c 2 _ rfl
    go_wp2_with (refine wpPrG g1.out (.tmp 3) rfl ?_)
    refine (ObjectUntil_any A c p N d n day _ ((hN.out.below hb.out).nb hm.out hnm)).mono ?_
    rintro e wk ⟨he, hbn⟩
    rw [hob.out] at he
    subst he
    clear y0 y1 y2
    have g7 := Lib.hid (g7.out.below hbn)
    have hm := Lib.hid (hm.out.below hbn)
    have g1 := Lib.hid (g1.out.below hbn)
    have hb := Lib.hid (below_step hb.out hbn)
    clear hbn
    have y0 := g7.out.c 0 _ rfl
    have y1 := g7.out.c 1 _ rfl
    have y2 := g7.out.c 2 _ rfl
    go_wp2_with fail
    go_ret
    exact ⟨by first | rfl | done, hb.out⟩
set_option maxRecDepth 100000 in
set_option maxHeartbeats 8000000 in
theorem dead_go (A : Option Addr) (c : Nat) (p : Proc) (day wait D O o x m l q : Int) (n m2 : Note) (w : World) (hN : PB w A p) (hPz : Hid (Cal.procErr p = 0)) (d0 : 0 ≤ day) (d1 : day ≤ 200000) (t0 : 0 ≤ wait) (t1 : wait ≤ 30) (hnm : n.name.size ≤ maxLen)
    (hadd : Hid (∀ w1, PB w1 A p → Calls Tryd.prog 15 #[.agg #[.int .i64 p.runs.m, .int .i64 p.runs.d, .bool p.runs.k, .int .i64 p.obj.m, .int .i64 p.obj.d, .bool p.obj.k, .int .i64 p.wait.m, .int .i64 p.wait.d, .bool p.wait.k, .int .i64 p.exts, .int .i64 p.longest, .slice A p.hols.length c], .agg #[.string ⟨#[110]⟩, .int .i64 day, .slice none 0 0], .agg #[.int .i64 day, .int .i64 0, .int .i64 0]] w1 (MorePost w1 n)))
    (hr : Hid (∀ w1, PB w1 A p → Calls Tryd.prog 16 #[.slice A p.hols.length c, .int .i64 day, .agg #[.int .i64 p.runs.m, .int .i64 p.runs.d, .bool p.runs.k]] w1 fun e w' => e = .returned (.tuple #[.int .i64 D, .int .i64 0]) ∧ Below w1.heap.size w1 w'))
    (ho : Hid (∀ w1, PB w1 A p → Calls Tryd.prog 16 #[.slice A p.hols.length c, .int .i64 day, .agg #[.int .i64 p.obj.m, .int .i64 p.obj.d, .bool p.obj.k]] w1 fun e w' => e = .returned (.tuple #[.int .i64 O, .int .i64 0]) ∧ Below w1.heap.size w1 w'))
    (hdl : Hid (Cal.dlAtS p n day = (D, 0))) (hob : Hid (Cal.objS p n day = (o, 0))) (hmn : (O < D ∧ o = O) ∨ (D ≤ O ∧ o = D)) (o0 : 0 ≤ o) (hsm : o < 200000)
    (ha1 : Hid (∀ w1 (N : Option Addr) (d : Nat), NB w1 A p N n → Calls Tryd.prog 15 #[.agg #[.int .i64 p.runs.m, .int .i64 p.runs.d, .bool p.runs.k, .int .i64 p.obj.m, .int .i64 p.obj.d, .bool p.obj.k, .int .i64 p.wait.m, .int .i64 p.wait.d, .bool p.wait.k, .int .i64 p.exts, .int .i64 p.longest, .slice A p.hols.length c], .agg #[.string n.name, .int .i64 n.opened, .slice N n.acts.length d], .agg #[.int .i64 o, .int .i64 3, .int .i64 0]] w1 (MorePost w1 m2)))
    (ha2 : Hid (∀ w1 (N : Option Addr) (d : Nat), NB w1 A p N n → Calls Tryd.prog 15 #[.agg #[.int .i64 p.runs.m, .int .i64 p.runs.d, .bool p.runs.k, .int .i64 p.obj.m, .int .i64 p.obj.d, .bool p.obj.k, .int .i64 p.wait.m, .int .i64 p.wait.d, .bool p.wait.k, .int .i64 p.exts, .int .i64 p.longest, .slice A p.hols.length c], .agg #[.string n.name, .int .i64 n.opened, .slice N n.acts.length d], .agg #[.int .i64 (o + 1), .int .i64 3, .int .i64 0]] w1 (AddBad w1 21)))
    (hex : Hid (Cal.expS p n = (x, m)))
    (hwt : Hid (∀ w1, PB w1 A p → Calls Tryd.prog 16 #[.slice A p.hols.length c, .int .i64 D, .agg #[.int .i64 p.wait.m, .int .i64 p.wait.d, .bool p.wait.k]] w1 fun e w' => e = .returned (.tuple #[.int .i64 l, .int .i64 q]) ∧ Below w1.heap.size w1 w'))
    (hm : (m = 2 ∧ ((q != 0) = true ∨ ((q != 0) = false ∧ 200000 ≤ l))) ∨ (m = 0 ∧ q = 0 ∧ x = l + 1 ∧ 0 ≤ l ∧ l < 200000 ∧ Hid (Cal.isWorkB p.hols l = true ∧ Cal.isWorkE p.hols l = 0))) :
    Calls Tryd.prog 4 #[.agg #[.int .i64 p.runs.m, .int .i64 p.runs.d, .bool p.runs.k, .int .i64 p.obj.m, .int .i64 p.obj.d, .bool p.obj.k, .int .i64 p.wait.m, .int .i64 p.wait.d, .bool p.wait.k, .int .i64 p.exts, .int .i64 p.longest, .slice A p.hols.length c], .int .i64 day, .int .i64 wait] w fun e w' => e = .returned (.bool true) ∧ Below w.heap.size w w' := by
  have hN := Lib.hid hN
  have hxD : (D != D) = false := by simp
  have hxo : (o != o) = false := by simp
  rcases hm with ⟨rfl, q1 | ⟨q1, q2⟩⟩ | ⟨rfl, rfl, rfl, l0, l1, hwk⟩
  case inr =>
    rcases hmn with ⟨q, rfl⟩ | ⟨q, rfl⟩
    all_goals
      have g1 := Lib.hid (BoxAt.new w #[.int .i64 p.runs.m, .int .i64 p.runs.d, .bool p.runs.k, .int .i64 p.obj.m, .int .i64 p.obj.d, .bool p.obj.k, .int .i64 p.wait.m, .int .i64 p.wait.d, .bool p.wait.k, .int .i64 p.exts, .int .i64 p.longest, .slice A p.hols.length c] 41)
      have hb := Lib.hid (below_alloc w (.cells #[.int .i64 p.runs.m, .int .i64 p.runs.d, .bool p.runs.k, .int .i64 p.obj.m, .int .i64 p.obj.d, .bool p.obj.k, .int .i64 p.wait.m, .int .i64 p.wait.d, .bool p.wait.k, .int .i64 p.exts, .int .i64 p.longest, .slice A p.hols.length c] 41))
      go_enter Tryd.func4, Tryd.ntmps4
      go_wp2_with fail
      refine (served_any _ (hN.out.tab.below hb.out)).mono ?_
      rintro e w1 ⟨rfl, hbn⟩
      have g1 := Lib.hid (g1.out.below hbn)
      have hb := Lib.hid (below_step hb.out hbn)
      clear hbn
      go_wp2_with (refine wpPrG g1.out (.tmp 3) rfl ?_)
      refine (Modest_any A c p _ (hN.out.hols.below hb.out)).mono ?_
      rintro e w2 ⟨⟨b, rfl⟩, hbn⟩
      have g1 := Lib.hid (g1.out.below hbn)
      have hb := Lib.hid (below_step hb.out hbn)
      clear hbn
      cases b
      · go_wp2_with fail
        go_ret
        exact ⟨by first | rfl | done, hb.out⟩
      go_wp2_with (refine wpPrG g1.out (.tmp 3) rfl ?_)
      refine (CheckProcedureR_any A c p _ (hN.out.hols.below hb.out)).mono ?_
      rintro e w3 ⟨rfl, hbn⟩
      rw [hPz.out]
      have g1 := Lib.hid (g1.out.below hbn)
      have hb := Lib.hid (below_step hb.out hbn)
      clear hbn
      have hN7 := Lib.hid (BoxAt.new w3 #[.string ⟨#[]⟩, .int .i64 0, .slice none 0 0] 47)
      have hB7 := g1.out.lt
      go_wp2_with (first | ((first | (go_at_call 64) | (go_at_call 14) | (go_at_call 39) | (go_at_call 30) | (fail) | (fail) | (fail)); first | refine rin ?_ | refine rout ?_ | refine rany ?_) | ((refine wpList_store_box rfl 47 (.tmp 7) (.tmp 48) rfl (w3.heap.size) _ [.string ⟨#[110]⟩, .int .i64 day, .slice none 0 0] (by rfl) (by rfl) hN7.out rfl ntSize (by kernel_rfl) ?_; intro w4 h4 hg4); have hbn := below_of_grownB (below_alloc w3 _) hg4 (Nat.le_refl _); have g1 := Lib.hid (g1.out.below hbn); have hb := Lib.hid (below_step hb.out hbn); have g7 := Lib.hid h4; clear hbn hg4 hN7; have y0 := g7.out.c 0 _ rfl; have y1 := g7.out.c 1 _ rfl; have y2 := g7.out.c 2 _ rfl) | (refine wpPrG g1.out (.tmp 3) rfl ?_))
      generalize w3.heap.size = B7 at *
      have hB7z := g7.out.lt
      refine (hadd.out _ (hN.out.below hb.out)).mono ?_
      rintro e w5 ⟨N, d, rfl, hm0, hbn, hB0⟩
      have g7 := Lib.hid (g7.out.below hbn)
      have g1 := Lib.hid (g1.out.below hbn)
      have hb := Lib.hid (below_step hb.out hbn)
      clear hbn y0 y1 y2
      have y0 := g7.out.c 0 _ rfl
      have y1 := g7.out.c 1 _ rfl
      have y2 := g7.out.c 2 _ rfl
      go_wp2_with ((refine wpList_store_box rfl 47 (.tmp 7) (.tmp 55) rfl (B7) _ [.string n.name, .int .i64 n.opened, .slice N n.acts.length d] (by rfl) (by rfl) g7.out rfl ntSize (by kernel_rfl) ?_; intro w4 h4 hg4); have g1 := Lib.hid (g1.out.grown hg4 (by simp; omega)); have hb := Lib.hid (below_of_grownB hb.out hg4 (by omega)); have z0 := g1.out.c 0 _ rfl; have z1 := g1.out.c 1 _ rfl; have z2 := g1.out.c 2 _ rfl; have z3 := g1.out.c 3 _ rfl; have z4 := g1.out.c 4 _ rfl; have z5 := g1.out.c 5 _ rfl; have z6 := g1.out.c 6 _ rfl; have z7 := g1.out.c 7 _ rfl; have z8 := g1.out.c 8 _ rfl; have z11 := g1.out.c 11 _ rfl)
      have hm : Hid (Acts w4 N n.acts) := acts_grown hm0 hg4 (fun ad h => by have := hB0 ad h; have := hB7z; omega)
      clear y0 y1 y2 hg4 hm0 g7
      have g7 := Lib.hid h4
      clear h4
      refine (hr.out _ (hN.out.below hb.out)).mono ?_
      rintro e w6 ⟨rfl, hbn⟩
      clear z0 z1 z2 z3 z4 z5 z6 z7 z8 z11
      have g7 := Lib.hid (g7.out.below hbn)
      have hm := Lib.hid (hm.out.below hbn)
      have g1 := Lib.hid (g1.out.below hbn)
      have hb := Lib.hid (below_step hb.out hbn)
      clear hbn
      have z0 := g1.out.c 0 _ rfl
      have z1 := g1.out.c 1 _ rfl
      have z2 := g1.out.c 2 _ rfl
      have z3 := g1.out.c 3 _ rfl
      have z4 := g1.out.c 4 _ rfl
      have z5 := g1.out.c 5 _ rfl
      have z6 := g1.out.c 6 _ rfl
      have z7 := g1.out.c 7 _ rfl
      have z8 := g1.out.c 8 _ rfl
      have z11 := g1.out.c 11 _ rfl
      go_wp2_with fail
      refine (ho.out _ (hN.out.below hb.out)).mono ?_
      rintro e w7 ⟨rfl, hbn⟩
      clear z0 z1 z2 z3 z4 z5 z6 z7 z8 z11
      have g7 := Lib.hid (g7.out.below hbn)
      have hm := Lib.hid (hm.out.below hbn)
      have g1 := Lib.hid (g1.out.below hbn)
      have hb := Lib.hid (below_step hb.out hbn)
      clear hbn
      have y0 := g7.out.c 0 _ rfl
      have y1 := g7.out.c 1 _ rfl
      have y2 := g7.out.c 2 _ rfl
      go_wp2_with (refine wpPrG g1.out (.tmp 3) rfl ?_)
      refine (DeadlineAt_any A c p N d n day _ ((hN.out.below hb.out).nb hm.out hnm)).mono ?_
      rintro e wk ⟨he, hbn⟩
      rw [hdl.out] at he
      subst he
      clear y0 y1 y2
      have g7 := Lib.hid (g7.out.below hbn)
      have hm := Lib.hid (hm.out.below hbn)
      have g1 := Lib.hid (g1.out.below hbn)
      have hb := Lib.hid (below_step hb.out hbn)
      clear hbn
      have y0 := g7.out.c 0 _ rfl
      have y1 := g7.out.c 1 _ rfl
      have y2 := g7.out.c 2 _ rfl
      go_wp2_with (refine wpPrG g1.out (.tmp 3) rfl ?_)
      refine (ObjectUntil_any A c p N d n day _ ((hN.out.below hb.out).nb hm.out hnm)).mono ?_
      rintro e wk ⟨he, hbn⟩
      rw [hob.out] at he
      subst he
      clear y0 y1 y2
      have g7 := Lib.hid (g7.out.below hbn)
      have hm := Lib.hid (hm.out.below hbn)
      have g1 := Lib.hid (g1.out.below hbn)
      have hb := Lib.hid (below_step hb.out hbn)
      clear hbn
      have y0 := g7.out.c 0 _ rfl
      have y1 := g7.out.c 1 _ rfl
      have y2 := g7.out.c 2 _ rfl
      go_wp2_with (refine wpPrG g1.out (.tmp 3) rfl ?_)
      refine (ha1.out _ N d ((hN.out.below hb.out).nb hm.out hnm)).mono ?_
      rintro e wn ⟨N2, d2, rfl, hm2, hbn, _⟩
      clear hm2
      clear y0 y1 y2
      have g7 := Lib.hid (g7.out.below hbn)
      have hm := Lib.hid (hm.out.below hbn)
      have g1 := Lib.hid (g1.out.below hbn)
      have hb := Lib.hid (below_step hb.out hbn)
      clear hbn
      have y0 := g7.out.c 0 _ rfl
      have y1 := g7.out.c 1 _ rfl
      have y2 := g7.out.c 2 _ rfl
      have hN9 := Lib.hid (BoxAt.new wn #[.string ⟨#[]⟩, .int .i64 0, .slice none 0 0] 47)
      go_wp2_with (first | ((refine wpList_store_box rfl 47 (.tmp 17) (.tmp 135) rfl (wn.heap.size) _ [.string m2.name, .int .i64 m2.opened, .slice N2 m2.acts.length d2] (by rfl) (by rfl) hN9.out rfl ntSize (by kernel_rfl) ?_; intro w9 h9 hg9); have hbn := below_of_grownB (below_alloc wn _) hg9 (Nat.le_refl _); have g7 := Lib.hid (g7.out.below hbn); have hm := Lib.hid (hm.out.below hbn); have g1 := Lib.hid (g1.out.below hbn); have hb := Lib.hid (below_step hb.out hbn); clear hbn hg9 hN9 h9 y0 y1 y2; have y0 := g7.out.c 0 _ rfl; have y1 := g7.out.c 1 _ rfl; have y2 := g7.out.c 2 _ rfl) | (refine wpPrG g1.out (.tmp 3) rfl ?_))
      refine (ha2.out _ N d ((hN.out.below hb.out).nb hm.out hnm)).mono ?_
      rintro e wn ⟨rfl, hbn⟩
      clear y0 y1 y2
      have g7 := Lib.hid (g7.out.below hbn)
      have hm := Lib.hid (hm.out.below hbn)
      have g1 := Lib.hid (g1.out.below hbn)
      have hb := Lib.hid (below_step hb.out hbn)
      clear hbn
      have y0 := g7.out.c 0 _ rfl
      have y1 := g7.out.c 1 _ rfl
      have y2 := g7.out.c 2 _ rfl
      have hN9 := Lib.hid (BoxAt.new wn #[.string ⟨#[]⟩, .int .i64 0, .slice none 0 0] 47)
      go_wp2_with (first | ((refine wpList_store_box rfl 47 (.tmp 19) (.tmp 144) rfl (wn.heap.size) _ [.string ⟨#[]⟩, .int .i64 0, .slice none 0 0] (by rfl) (by rfl) hN9.out rfl ntSize (by kernel_rfl) ?_; intro w9 h9 hg9); have hbn := below_of_grownB (below_alloc wn _) hg9 (Nat.le_refl _); have g7 := Lib.hid (g7.out.below hbn); have hm := Lib.hid (hm.out.below hbn); have g1 := Lib.hid (g1.out.below hbn); have hb := Lib.hid (below_step hb.out hbn); clear hbn hg9 hN9 h9 y0 y1 y2; have y0 := g7.out.c 0 _ rfl; have y1 := g7.out.c 1 _ rfl; have y2 := g7.out.c 2 _ rfl) | (refine wpPrG g1.out (.tmp 3) rfl ?_))
      refine (ExpiresAt_any A c p N d n _ ((hN.out.below hb.out).nb hm.out hnm)).mono ?_
      rintro e wk ⟨he, hbn⟩
      rw [hex.out] at he
      subst he
      clear y0 y1 y2
      have g7 := Lib.hid (g7.out.below hbn)
      have hm := Lib.hid (hm.out.below hbn)
      have g1 := Lib.hid (g1.out.below hbn)
      have hb := Lib.hid (below_step hb.out hbn)
      clear hbn
      have z0 := g1.out.c 0 _ rfl
      have z1 := g1.out.c 1 _ rfl
      have z2 := g1.out.c 2 _ rfl
      have z3 := g1.out.c 3 _ rfl
      have z4 := g1.out.c 4 _ rfl
      have z5 := g1.out.c 5 _ rfl
      have z6 := g1.out.c 6 _ rfl
      have z7 := g1.out.c 7 _ rfl
      have z8 := g1.out.c 8 _ rfl
      have z11 := g1.out.c 11 _ rfl
      go_wp2_with fail
      refine (hwt.out _ (hN.out.below hb.out)).mono ?_
      rintro e w7 ⟨rfl, hbn⟩
      clear z0 z1 z2 z3 z4 z5 z6 z7 z8 z11
      have g7 := Lib.hid (g7.out.below hbn)
      have hm := Lib.hid (hm.out.below hbn)
      have g1 := Lib.hid (g1.out.below hbn)
      have hb := Lib.hid (below_step hb.out hbn)
      clear hbn
      have z11 := g1.out.c 11 _ rfl
      go_wp2_with fail
      refine (IsWorking_any A c p.hols _ _ (hN.out.below hb.out).hols (hN.out.below hb.out).tab).mono ?_
      rintro e wz ⟨he, hbn⟩
      rw [hwk.out.1, hwk.out.2] at he
      subst he
      clear z11
      have g7 := Lib.hid (g7.out.below hbn)
      have hm := Lib.hid (hm.out.below hbn)
      have g1 := Lib.hid (g1.out.below hbn)
      have hb := Lib.hid (below_step hb.out hbn)
      clear hbn
      go_wp2_with fail
      go_ret
      exact ⟨by first | rfl | done, hb.out⟩
  all_goals
    rcases hmn with ⟨q, rfl⟩ | ⟨q, rfl⟩
    all_goals
      have g1 := Lib.hid (BoxAt.new w #[.int .i64 p.runs.m, .int .i64 p.runs.d, .bool p.runs.k, .int .i64 p.obj.m, .int .i64 p.obj.d, .bool p.obj.k, .int .i64 p.wait.m, .int .i64 p.wait.d, .bool p.wait.k, .int .i64 p.exts, .int .i64 p.longest, .slice A p.hols.length c] 41)
      have hb := Lib.hid (below_alloc w (.cells #[.int .i64 p.runs.m, .int .i64 p.runs.d, .bool p.runs.k, .int .i64 p.obj.m, .int .i64 p.obj.d, .bool p.obj.k, .int .i64 p.wait.m, .int .i64 p.wait.d, .bool p.wait.k, .int .i64 p.exts, .int .i64 p.longest, .slice A p.hols.length c] 41))
      go_enter Tryd.func4, Tryd.ntmps4
      go_wp2_with fail
      refine (served_any _ (hN.out.tab.below hb.out)).mono ?_
      rintro e w1 ⟨rfl, hbn⟩
      have g1 := Lib.hid (g1.out.below hbn)
      have hb := Lib.hid (below_step hb.out hbn)
      clear hbn
      go_wp2_with (refine wpPrG g1.out (.tmp 3) rfl ?_)
      refine (Modest_any A c p _ (hN.out.hols.below hb.out)).mono ?_
      rintro e w2 ⟨⟨b, rfl⟩, hbn⟩
      have g1 := Lib.hid (g1.out.below hbn)
      have hb := Lib.hid (below_step hb.out hbn)
      clear hbn
      cases b
      · go_wp2_with fail
        go_ret
        exact ⟨by first | rfl | done, hb.out⟩
      go_wp2_with (refine wpPrG g1.out (.tmp 3) rfl ?_)
      refine (CheckProcedureR_any A c p _ (hN.out.hols.below hb.out)).mono ?_
      rintro e w3 ⟨rfl, hbn⟩
      rw [hPz.out]
      have g1 := Lib.hid (g1.out.below hbn)
      have hb := Lib.hid (below_step hb.out hbn)
      clear hbn
      have hN7 := Lib.hid (BoxAt.new w3 #[.string ⟨#[]⟩, .int .i64 0, .slice none 0 0] 47)
      have hB7 := g1.out.lt
      go_wp2_with (first | ((first | (go_at_call 64) | (go_at_call 14) | (go_at_call 39) | (go_at_call 30) | (fail) | (fail) | (fail)); first | refine rin ?_ | refine rout ?_ | refine rany ?_) | ((refine wpList_store_box rfl 47 (.tmp 7) (.tmp 48) rfl (w3.heap.size) _ [.string ⟨#[110]⟩, .int .i64 day, .slice none 0 0] (by rfl) (by rfl) hN7.out rfl ntSize (by kernel_rfl) ?_; intro w4 h4 hg4); have hbn := below_of_grownB (below_alloc w3 _) hg4 (Nat.le_refl _); have g1 := Lib.hid (g1.out.below hbn); have hb := Lib.hid (below_step hb.out hbn); have g7 := Lib.hid h4; clear hbn hg4 hN7; have y0 := g7.out.c 0 _ rfl; have y1 := g7.out.c 1 _ rfl; have y2 := g7.out.c 2 _ rfl) | (refine wpPrG g1.out (.tmp 3) rfl ?_))
      generalize w3.heap.size = B7 at *
      have hB7z := g7.out.lt
      refine (hadd.out _ (hN.out.below hb.out)).mono ?_
      rintro e w5 ⟨N, d, rfl, hm0, hbn, hB0⟩
      have g7 := Lib.hid (g7.out.below hbn)
      have g1 := Lib.hid (g1.out.below hbn)
      have hb := Lib.hid (below_step hb.out hbn)
      clear hbn y0 y1 y2
      have y0 := g7.out.c 0 _ rfl
      have y1 := g7.out.c 1 _ rfl
      have y2 := g7.out.c 2 _ rfl
      go_wp2_with ((refine wpList_store_box rfl 47 (.tmp 7) (.tmp 55) rfl (B7) _ [.string n.name, .int .i64 n.opened, .slice N n.acts.length d] (by rfl) (by rfl) g7.out rfl ntSize (by kernel_rfl) ?_; intro w4 h4 hg4); have g1 := Lib.hid (g1.out.grown hg4 (by simp; omega)); have hb := Lib.hid (below_of_grownB hb.out hg4 (by omega)); have z0 := g1.out.c 0 _ rfl; have z1 := g1.out.c 1 _ rfl; have z2 := g1.out.c 2 _ rfl; have z3 := g1.out.c 3 _ rfl; have z4 := g1.out.c 4 _ rfl; have z5 := g1.out.c 5 _ rfl; have z6 := g1.out.c 6 _ rfl; have z7 := g1.out.c 7 _ rfl; have z8 := g1.out.c 8 _ rfl; have z11 := g1.out.c 11 _ rfl)
      have hm : Hid (Acts w4 N n.acts) := acts_grown hm0 hg4 (fun ad h => by have := hB0 ad h; have := hB7z; omega)
      clear y0 y1 y2 hg4 hm0 g7
      have g7 := Lib.hid h4
      clear h4
      refine (hr.out _ (hN.out.below hb.out)).mono ?_
      rintro e w6 ⟨rfl, hbn⟩
      clear z0 z1 z2 z3 z4 z5 z6 z7 z8 z11
      have g7 := Lib.hid (g7.out.below hbn)
      have hm := Lib.hid (hm.out.below hbn)
      have g1 := Lib.hid (g1.out.below hbn)
      have hb := Lib.hid (below_step hb.out hbn)
      clear hbn
      have z0 := g1.out.c 0 _ rfl
      have z1 := g1.out.c 1 _ rfl
      have z2 := g1.out.c 2 _ rfl
      have z3 := g1.out.c 3 _ rfl
      have z4 := g1.out.c 4 _ rfl
      have z5 := g1.out.c 5 _ rfl
      have z6 := g1.out.c 6 _ rfl
      have z7 := g1.out.c 7 _ rfl
      have z8 := g1.out.c 8 _ rfl
      have z11 := g1.out.c 11 _ rfl
      go_wp2_with fail
      refine (ho.out _ (hN.out.below hb.out)).mono ?_
      rintro e w7 ⟨rfl, hbn⟩
      clear z0 z1 z2 z3 z4 z5 z6 z7 z8 z11
      have g7 := Lib.hid (g7.out.below hbn)
      have hm := Lib.hid (hm.out.below hbn)
      have g1 := Lib.hid (g1.out.below hbn)
      have hb := Lib.hid (below_step hb.out hbn)
      clear hbn
      have y0 := g7.out.c 0 _ rfl
      have y1 := g7.out.c 1 _ rfl
      have y2 := g7.out.c 2 _ rfl
      go_wp2_with (refine wpPrG g1.out (.tmp 3) rfl ?_)
      refine (DeadlineAt_any A c p N d n day _ ((hN.out.below hb.out).nb hm.out hnm)).mono ?_
      rintro e wk ⟨he, hbn⟩
      rw [hdl.out] at he
      subst he
      clear y0 y1 y2
      have g7 := Lib.hid (g7.out.below hbn)
      have hm := Lib.hid (hm.out.below hbn)
      have g1 := Lib.hid (g1.out.below hbn)
      have hb := Lib.hid (below_step hb.out hbn)
      clear hbn
      have y0 := g7.out.c 0 _ rfl
      have y1 := g7.out.c 1 _ rfl
      have y2 := g7.out.c 2 _ rfl
      go_wp2_with (refine wpPrG g1.out (.tmp 3) rfl ?_)
      refine (ObjectUntil_any A c p N d n day _ ((hN.out.below hb.out).nb hm.out hnm)).mono ?_
      rintro e wk ⟨he, hbn⟩
      rw [hob.out] at he
      subst he
      clear y0 y1 y2
      have g7 := Lib.hid (g7.out.below hbn)
      have hm := Lib.hid (hm.out.below hbn)
      have g1 := Lib.hid (g1.out.below hbn)
      have hb := Lib.hid (below_step hb.out hbn)
      clear hbn
      have y0 := g7.out.c 0 _ rfl
      have y1 := g7.out.c 1 _ rfl
      have y2 := g7.out.c 2 _ rfl
      go_wp2_with (refine wpPrG g1.out (.tmp 3) rfl ?_)
      refine (ha1.out _ N d ((hN.out.below hb.out).nb hm.out hnm)).mono ?_
      rintro e wn ⟨N2, d2, rfl, hm2, hbn, _⟩
      clear hm2
      clear y0 y1 y2
      have g7 := Lib.hid (g7.out.below hbn)
      have hm := Lib.hid (hm.out.below hbn)
      have g1 := Lib.hid (g1.out.below hbn)
      have hb := Lib.hid (below_step hb.out hbn)
      clear hbn
      have y0 := g7.out.c 0 _ rfl
      have y1 := g7.out.c 1 _ rfl
      have y2 := g7.out.c 2 _ rfl
      have hN9 := Lib.hid (BoxAt.new wn #[.string ⟨#[]⟩, .int .i64 0, .slice none 0 0] 47)
      go_wp2_with (first | ((refine wpList_store_box rfl 47 (.tmp 17) (.tmp 135) rfl (wn.heap.size) _ [.string m2.name, .int .i64 m2.opened, .slice N2 m2.acts.length d2] (by rfl) (by rfl) hN9.out rfl ntSize (by kernel_rfl) ?_; intro w9 h9 hg9); have hbn := below_of_grownB (below_alloc wn _) hg9 (Nat.le_refl _); have g7 := Lib.hid (g7.out.below hbn); have hm := Lib.hid (hm.out.below hbn); have g1 := Lib.hid (g1.out.below hbn); have hb := Lib.hid (below_step hb.out hbn); clear hbn hg9 hN9 h9 y0 y1 y2; have y0 := g7.out.c 0 _ rfl; have y1 := g7.out.c 1 _ rfl; have y2 := g7.out.c 2 _ rfl) | (refine wpPrG g1.out (.tmp 3) rfl ?_))
      refine (ha2.out _ N d ((hN.out.below hb.out).nb hm.out hnm)).mono ?_
      rintro e wn ⟨rfl, hbn⟩
      clear y0 y1 y2
      have g7 := Lib.hid (g7.out.below hbn)
      have hm := Lib.hid (hm.out.below hbn)
      have g1 := Lib.hid (g1.out.below hbn)
      have hb := Lib.hid (below_step hb.out hbn)
      clear hbn
      have y0 := g7.out.c 0 _ rfl
      have y1 := g7.out.c 1 _ rfl
      have y2 := g7.out.c 2 _ rfl
      have hN9 := Lib.hid (BoxAt.new wn #[.string ⟨#[]⟩, .int .i64 0, .slice none 0 0] 47)
      go_wp2_with (first | ((refine wpList_store_box rfl 47 (.tmp 19) (.tmp 144) rfl (wn.heap.size) _ [.string ⟨#[]⟩, .int .i64 0, .slice none 0 0] (by rfl) (by rfl) hN9.out rfl ntSize (by kernel_rfl) ?_; intro w9 h9 hg9); have hbn := below_of_grownB (below_alloc wn _) hg9 (Nat.le_refl _); have g7 := Lib.hid (g7.out.below hbn); have hm := Lib.hid (hm.out.below hbn); have g1 := Lib.hid (g1.out.below hbn); have hb := Lib.hid (below_step hb.out hbn); clear hbn hg9 hN9 h9 y0 y1 y2; have y0 := g7.out.c 0 _ rfl; have y1 := g7.out.c 1 _ rfl; have y2 := g7.out.c 2 _ rfl) | (refine wpPrG g1.out (.tmp 3) rfl ?_))
      refine (ExpiresAt_any A c p N d n _ ((hN.out.below hb.out).nb hm.out hnm)).mono ?_
      rintro e wk ⟨he, hbn⟩
      rw [hex.out] at he
      subst he
      clear y0 y1 y2
      have g7 := Lib.hid (g7.out.below hbn)
      have hm := Lib.hid (hm.out.below hbn)
      have g1 := Lib.hid (g1.out.below hbn)
      have hb := Lib.hid (below_step hb.out hbn)
      clear hbn
      have z0 := g1.out.c 0 _ rfl
      have z1 := g1.out.c 1 _ rfl
      have z2 := g1.out.c 2 _ rfl
      have z3 := g1.out.c 3 _ rfl
      have z4 := g1.out.c 4 _ rfl
      have z5 := g1.out.c 5 _ rfl
      have z6 := g1.out.c 6 _ rfl
      have z7 := g1.out.c 7 _ rfl
      have z8 := g1.out.c 8 _ rfl
      have z11 := g1.out.c 11 _ rfl
      go_wp2_with fail
      refine (hwt.out _ (hN.out.below hb.out)).mono ?_
      rintro e w7 ⟨rfl, hbn⟩
      clear z0 z1 z2 z3 z4 z5 z6 z7 z8 z11
      have g7 := Lib.hid (g7.out.below hbn)
      have hm := Lib.hid (hm.out.below hbn)
      have g1 := Lib.hid (g1.out.below hbn)
      have hb := Lib.hid (below_step hb.out hbn)
      clear hbn
      go_wp2_with fail
      go_ret
      exact ⟨by first | rfl | done, hb.out⟩
set_option maxRecDepth 100000 in
set_option maxHeartbeats 8000000 in
theorem TopDeadlinesKept_any (A : Option Addr) (c : Nat) (p : Proc) (day wait : Int) (w : World) (hN : PB w A p) :
    Calls Tryd.prog 4 #[.agg #[.int .i64 p.runs.m, .int .i64 p.runs.d, .bool p.runs.k, .int .i64 p.obj.m, .int .i64 p.obj.d, .bool p.obj.k, .int .i64 p.wait.m, .int .i64 p.wait.d, .bool p.wait.k, .int .i64 p.exts, .int .i64 p.longest, .slice A p.hols.length c], .int .i64 day, .int .i64 wait] w fun e w' => e = .returned (.bool true) ∧ Below w.heap.size w w' := by
  obtain ⟨P, hP⟩ : ∃ P, Cal.procErr p = P := ⟨_, rfl⟩
  have hPz := Lib.hid hP
  by_cases h0 : P = 0
  · subst h0
    by_cases hd : 0 ≤ day ∧ day ≤ 200000
    · by_cases ht : 0 ≤ wait ∧ wait ≤ 30
      · obtain ⟨d0, d1⟩ := hd
        obtain ⟨t0, t1⟩ := ht
        have hbare : ∀ w1, PB w1 A p → NB w1 A p none (bareNote day) := fun w1 h => h.nb (Acts.nil w1) (show nName.size ≤ maxLen by decide)
        have hdr := fun w1 (h : PB w1 A p) => Deadline_any A c p.hols day p.runs.m p.runs.d p.runs.k w1 h.hols h.tab
        have hdo := fun w1 (h : PB w1 A p) => Deadline_any A c p.hols day p.obj.m p.obj.d p.obj.k w1 h.hols h.tab
        unfold DlPost at hdr hdo
        by_cases hok : (Cal.dlS p.hols day p.runs.m p.runs.d p.runs.k).2 = 0 ∧ (Cal.dlS p.hols day p.obj.m p.obj.d p.obj.k).2 = 0
        · have hD := Cal.dead hP d0 d1 hok.1 hok.2
          have hadd0 : Cal.addE p (bareNote day) (servAct day) = 0 := by rw [Cal.bare_add hP d0 d1, if_pos hok]
          have hadd := fun w1 (h : PB w1 A p) => Add_more A c p none 0 (bareNote day) (servAct day) w1 (hbare w1 h) hadd0
          rw [hok.1] at hdr
          rw [hok.2] at hdo
          generalize (Cal.dlS p.hols day p.runs.m p.runs.d p.runs.k).1 = D at *
          generalize (Cal.dlS p.hols day p.obj.m p.obj.d p.obj.k).1 = O at *
          have hnm : ((bareNote day).more (servAct day)).name.size ≤ maxLen := (show nName.size ≤ maxLen by decide)
          generalize (bareNote day).more (servAct day) = n at *
          have hmn : (O < D ∧ min O D = O) ∨ (D ≤ O ∧ min O D = D) := by omega
          have ho0 : 0 ≤ min O D := by have := hD.d0; have := hD.o0; omega
          by_cases hbig : 200000 ≤ min O D
          · exact dead_top A c p day wait D O _ n w hN hPz d0 d1 t0 t1 hnm hadd hdr hdo hD.dl hD.obj hmn hbig
          · have hsm : min O D < 200000 := by omega
            have hdw := fun w1 (h : PB w1 A p) => Deadline_any A c p.hols D p.wait.m p.wait.d p.wait.k w1 h.hols h.tab
            unfold DlPost at hdw
            have hlate := hD.late hsm
            refine dead_go A c p day wait D O _ (Cal.expS p n).1 (Cal.expS p n).2 (Cal.dlS p.hols D p.wait.m p.wait.d p.wait.k).1 (Cal.dlS p.hols D p.wait.m p.wait.d p.wait.k).2 n (n.more ⟨min O D, 3, 0⟩) w hN hPz d0 d1 t0 t1 hnm hadd hdr hdo hD.dl hD.obj hmn ho0 hsm
              (fun w1 N d h => Add_more A c p N d n ⟨min O D, 3, 0⟩ w1 h (hD.onDay hsm)) (fun w1 N d h => ?_) rfl hdw ?_
            · have := Add_no A c p N d n ⟨min O D + 1, 3, 0⟩ w1 h (by rw [hlate]; decide)
              rw [hlate] at this
              exact this
            · have he := hD.exp
              have hb := Cal.dlS_day p.hols D p.wait.m p.wait.d p.wait.k
              by_cases hq : (Cal.dlS p.hols D p.wait.m p.wait.d p.wait.k).2 = 0
              · by_cases hl : (Cal.dlS p.hols D p.wait.m p.wait.d p.wait.k).1 < 200000
                · rw [if_pos ⟨hq, hl⟩] at he
                  rw [he]
                  exact .inr ⟨rfl, hq, rfl, hb.1, hl, hD.works hq⟩
                · rw [if_neg (fun h => hl h.2)] at he
                  rw [he]
                  exact .inl ⟨rfl, .inr ⟨by rw [hq]; rfl, by omega⟩⟩
              · rw [if_neg (fun h => hq h.1)] at he
                rw [he]
                exact .inl ⟨rfl, .inl (bne_iff_ne.2 hq)⟩
        · have hadd2 : Cal.addE p (bareNote day) (servAct day) = 2 := by rw [Cal.bare_add hP d0 d1, if_neg hok]
          have hadd := fun w1 (h : PB w1 A p) => Add_no A c p none 0 (bareNote day) (servAct day) w1 (hbare w1 h) (by rw [hadd2]; decide)
          rw [hadd2] at hadd
          refine dead_no A c p day wait _ _ _ _ w hN hPz d0 d1 t0 t1 hadd hdr hdo ?_
          by_cases h1 : (Cal.dlS p.hols day p.runs.m p.runs.d p.runs.k).2 = 0
          · exact .inr ⟨by rw [h1]; rfl, bne_iff_ne.2 (fun h2 => hok ⟨h1, h2⟩)⟩
          · exact .inl (bne_iff_ne.2 h1)
      · have ht' : wait < 0 ∨ 30 < wait := by omega
        obtain ⟨d0, d1⟩ := hd
        have hN := Lib.hid hN
        clear hP ht
        have g1 := Lib.hid (BoxAt.new w #[.int .i64 p.runs.m, .int .i64 p.runs.d, .bool p.runs.k, .int .i64 p.obj.m, .int .i64 p.obj.d, .bool p.obj.k, .int .i64 p.wait.m, .int .i64 p.wait.d, .bool p.wait.k, .int .i64 p.exts, .int .i64 p.longest, .slice A p.hols.length c] 41)
        have hb := Lib.hid (below_alloc w (.cells #[.int .i64 p.runs.m, .int .i64 p.runs.d, .bool p.runs.k, .int .i64 p.obj.m, .int .i64 p.obj.d, .bool p.obj.k, .int .i64 p.wait.m, .int .i64 p.wait.d, .bool p.wait.k, .int .i64 p.exts, .int .i64 p.longest, .slice A p.hols.length c] 41))
        go_enter Tryd.func4, Tryd.ntmps4
        go_wp2_with fail
        refine (served_any _ (hN.out.tab.below hb.out)).mono ?_
        rintro e w1 ⟨rfl, hbn⟩
        have g1 := Lib.hid (g1.out.below hbn)
        have hb := Lib.hid (below_step hb.out hbn)
        clear hbn
        go_wp2_with (refine wpPrG g1.out (.tmp 3) rfl ?_)
        refine (Modest_any A c p _ (hN.out.hols.below hb.out)).mono ?_
        rintro e w2 ⟨⟨b, rfl⟩, hbn⟩
        have g1 := Lib.hid (g1.out.below hbn)
        have hb := Lib.hid (below_step hb.out hbn)
        clear hbn
        cases b
        · go_wp2_with fail
          go_ret
          exact ⟨by first | rfl | done, hb.out⟩
        go_wp2_with (refine wpPrG g1.out (.tmp 3) rfl ?_)
        refine (CheckProcedureR_any A c p _ (hN.out.hols.below hb.out)).mono ?_
        rintro e w3 ⟨rfl, hbn⟩
        rw [hPz.out]
        have g1 := Lib.hid (g1.out.below hbn)
        have hb := Lib.hid (below_step hb.out hbn)
        clear hbn
        go_wp2_with (((first | (go_at_call 64) | (go_at_call 14) | (go_at_call 39) | (go_at_call 30) | (fail) | (fail) | (fail)); first | refine rin ?_ | refine rout ?_ | refine rany ?_))
        go_ret
        exact ⟨by first | rfl | done, hb.out⟩
    · have hd' : day < 0 ∨ 200000 < day := by omega
      have hN := Lib.hid hN
      clear hP hd
      have g1 := Lib.hid (BoxAt.new w #[.int .i64 p.runs.m, .int .i64 p.runs.d, .bool p.runs.k, .int .i64 p.obj.m, .int .i64 p.obj.d, .bool p.obj.k, .int .i64 p.wait.m, .int .i64 p.wait.d, .bool p.wait.k, .int .i64 p.exts, .int .i64 p.longest, .slice A p.hols.length c] 41)
      have hb := Lib.hid (below_alloc w (.cells #[.int .i64 p.runs.m, .int .i64 p.runs.d, .bool p.runs.k, .int .i64 p.obj.m, .int .i64 p.obj.d, .bool p.obj.k, .int .i64 p.wait.m, .int .i64 p.wait.d, .bool p.wait.k, .int .i64 p.exts, .int .i64 p.longest, .slice A p.hols.length c] 41))
      go_enter Tryd.func4, Tryd.ntmps4
      go_wp2_with fail
      refine (served_any _ (hN.out.tab.below hb.out)).mono ?_
      rintro e w1 ⟨rfl, hbn⟩
      have g1 := Lib.hid (g1.out.below hbn)
      have hb := Lib.hid (below_step hb.out hbn)
      clear hbn
      go_wp2_with (refine wpPrG g1.out (.tmp 3) rfl ?_)
      refine (Modest_any A c p _ (hN.out.hols.below hb.out)).mono ?_
      rintro e w2 ⟨⟨b, rfl⟩, hbn⟩
      have g1 := Lib.hid (g1.out.below hbn)
      have hb := Lib.hid (below_step hb.out hbn)
      clear hbn
      cases b
      · go_wp2_with fail
        go_ret
        exact ⟨by first | rfl | done, hb.out⟩
      go_wp2_with (refine wpPrG g1.out (.tmp 3) rfl ?_)
      refine (CheckProcedureR_any A c p _ (hN.out.hols.below hb.out)).mono ?_
      rintro e w3 ⟨rfl, hbn⟩
      rw [hPz.out]
      have g1 := Lib.hid (g1.out.below hbn)
      have hb := Lib.hid (below_step hb.out hbn)
      clear hbn
      go_wp2_with (((first | (go_at_call 64) | (go_at_call 14) | (go_at_call 39) | (go_at_call 30) | (fail) | (fail) | (fail)); first | refine rin ?_ | refine rout ?_ | refine rany ?_))
      go_ret
      exact ⟨by first | rfl | done, hb.out⟩
  · have hP1 : (P != 0) = true := by simpa using h0
    have hN := Lib.hid hN
    clear hP h0
    have g1 := Lib.hid (BoxAt.new w #[.int .i64 p.runs.m, .int .i64 p.runs.d, .bool p.runs.k, .int .i64 p.obj.m, .int .i64 p.obj.d, .bool p.obj.k, .int .i64 p.wait.m, .int .i64 p.wait.d, .bool p.wait.k, .int .i64 p.exts, .int .i64 p.longest, .slice A p.hols.length c] 41)
    have hb := Lib.hid (below_alloc w (.cells #[.int .i64 p.runs.m, .int .i64 p.runs.d, .bool p.runs.k, .int .i64 p.obj.m, .int .i64 p.obj.d, .bool p.obj.k, .int .i64 p.wait.m, .int .i64 p.wait.d, .bool p.wait.k, .int .i64 p.exts, .int .i64 p.longest, .slice A p.hols.length c] 41))
    go_enter Tryd.func4, Tryd.ntmps4
    go_wp2_with fail
    refine (served_any _ (hN.out.tab.below hb.out)).mono ?_
    rintro e w1 ⟨rfl, hbn⟩
    have g1 := Lib.hid (g1.out.below hbn)
    have hb := Lib.hid (below_step hb.out hbn)
    clear hbn
    go_wp2_with (refine wpPrG g1.out (.tmp 3) rfl ?_)
    refine (Modest_any A c p _ (hN.out.hols.below hb.out)).mono ?_
    rintro e w2 ⟨⟨b, rfl⟩, hbn⟩
    have g1 := Lib.hid (g1.out.below hbn)
    have hb := Lib.hid (below_step hb.out hbn)
    clear hbn
    cases b
    · go_wp2_with fail
      go_ret
      exact ⟨by first | rfl | done, hb.out⟩
    go_wp2_with (refine wpPrG g1.out (.tmp 3) rfl ?_)
    refine (CheckProcedureR_any A c p _ (hN.out.hols.below hb.out)).mono ?_
    rintro e w3 ⟨rfl, hbn⟩
    rw [hPz.out]
    have g1 := Lib.hid (g1.out.below hbn)
    have hb := Lib.hid (below_step hb.out hbn)
    clear hbn
    go_wp2_with fail
    go_ret
    exact ⟨by first | rfl | done, hb.out⟩
end Go.Proofs.YtconnjkkgaapbaaDoor
