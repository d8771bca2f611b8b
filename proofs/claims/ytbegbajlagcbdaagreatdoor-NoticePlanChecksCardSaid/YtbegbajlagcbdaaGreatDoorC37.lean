/- Chapter 8 and what it rests on: definitions and walks, part 37. -/
import Derived.Test.YtbegbajlagcbdaaGreatDoorC28
import Derived.Test.YtbegbajlagcbdaaGreatDoorC36
import Derived.Test.YtbegbajlagcbdaaGreatDoorC34
namespace Go.Proofs.YtbegbajlagcbdaaGreatDoor
open Go Go.RowKit
def monthP : Proc := ⟨⟨1, 0, false⟩, ⟨0, 10, false⟩, ⟨0, 0, false⟩, 1, 30, []⟩
def nName : ByteArray := ⟨#[110]⟩
def awakeActs : List NAct := [⟨0, 0, 0⟩, ⟨12, 3, 0⟩, ⟨20, 4, 0⟩, ⟨41, 6, 4⟩]
def awakeNote : Note := ⟨nName, 0, awakeActs⟩
def scaleG : Grad := ⟨50, 100, 200, 300, 200, 100, 60, 24, 12, 0⟩
theorem grade_awake : Cal.gradeOfS scaleG ⟨0, 0, 120, 350⟩ = (2, 0) := by decide +kernel
theorem dl_awake : Cal.dlAtS monthP awakeNote 41 = (47, 0) := by decide +kernel
theorem earl_awake : Cal.earlS monthP 40 100 awakeNote = (100, 0) := by decide +kernel
theorem Month_any (w : World) : Calls Tryz.prog 51 #[] w fun e w' => e = .returned (.agg #[.int .i64 1, .int .i64 0, .bool false, .int .i64 0, .int .i64 10, .bool false, .int .i64 0, .int .i64 0, .bool false, .int .i64 1, .int .i64 30, .slice none 0 0]) ∧ Below w.heap.size w w' := by
  have h1 := Lib.hid (BoxAt.new w #[.int .i64 0, .int .i64 0, .bool false, .int .i64 0, .int .i64 0, .bool false, .int .i64 0, .int .i64 0, .bool false, .int .i64 0, .int .i64 0, .slice none 0 0] 47)
  go_enter Tryz.func51, Tryz.ntmps51
  go_wp2_with (refine wpList_store_box rfl 47 (.tmp 0) (.tmp 3) rfl (w.heap.size) _ [.int .i64 1, .int .i64 0, .bool false, .int .i64 0, .int .i64 10, .bool false, .int .i64 0, .int .i64 0, .bool false, .int .i64 1, .int .i64 30, .slice none 0 0] (by rfl) (by rfl) h1.out rfl prSize (by kernel_rfl) ?_; intro w2 h2 hg2)
  (try simp only [Exit.inBlock, Exit.then])
  refine bodyPost_ret (results_mid1 rfl _ _ (w.heap.size) [.int .i64 1, .int .i64 0, .bool false, .int .i64 0, .int .i64 10, .bool false, .int .i64 0, .int .i64 0, .bool false, .int .i64 1, .int .i64 30, .slice none 0 0] _ rfl h2.range Tryz.underlying47 rfl prSize) rfl ⟨rfl, below_of_grownB (below_alloc w _) hg2 (Nat.le_refl _)⟩
theorem Scale_any (w : World) : Calls Tryz.prog 48 #[] w fun e w' => e = .returned (.agg #[.int .i64 50, .int .i64 100, .int .i64 200, .int .i64 300, .int .i64 200, .int .i64 100, .int .i64 60, .int .i64 24, .int .i64 12, .int .i64 0]) ∧ Below w.heap.size w w' := by
  have h1 := Lib.hid (BoxAt.new w #[.int .i64 0, .int .i64 0, .int .i64 0, .int .i64 0, .int .i64 0, .int .i64 0, .int .i64 0, .int .i64 0, .int .i64 0, .int .i64 0] 25)
  go_enter Tryz.func48, Tryz.ntmps48
  go_wp2_with (refine wpList_store_box rfl 25 (.tmp 0) (.tmp 4) rfl (w.heap.size) _ [.int .i64 50, .int .i64 100, .int .i64 200, .int .i64 300, .int .i64 200, .int .i64 100, .int .i64 60, .int .i64 24, .int .i64 12, .int .i64 0] (by rfl) (by rfl) h1.out rfl grSize (by kernel_rfl) ?_; intro w2 h2 hg2)
  (try simp only [Exit.inBlock, Exit.then])
  refine bodyPost_ret (results_mid1 rfl _ _ (w.heap.size) [.int .i64 50, .int .i64 100, .int .i64 200, .int .i64 300, .int .i64 200, .int .i64 100, .int .i64 60, .int .i64 24, .int .i64 12, .int .i64 0] _ rfl h2.range Tryz.underlying25 rfl grSize) rfl ⟨rfl, below_of_grownB (below_alloc w _) hg2 (Nat.le_refl _)⟩
theorem Opened_any (A : Option Addr) (k c : Nat) (w : World) : Calls Tryz.prog 49 #[.slice A k c] w fun e w' => e = .returned (.agg #[.string ⟨#[110]⟩, .int .i64 0, .slice A k c]) ∧ Below w.heap.size w w' := by
  have h1 := Lib.hid (BoxAt.new w #[.string ⟨#[]⟩, .int .i64 0, .slice none 0 0] 93)
  go_enter Tryz.func49, Tryz.ntmps49
  go_wp2_with (refine wpList_store_box rfl 93 (.tmp 2) (.tmp 4) rfl (w.heap.size) _ [.string ⟨#[110]⟩, .int .i64 0, .slice A k c] (by rfl) (by rfl) h1.out rfl ntSize (by kernel_rfl) ?_; intro w2 h2 hg2)
  (try simp only [Exit.inBlock, Exit.then])
  refine bodyPost_ret (results_mid1 rfl _ _ (w.heap.size) [.string ⟨#[110]⟩, .int .i64 0, .slice A k c] _ rfl h2.range Tryz.underlying93 rfl ntSize) rfl ⟨rfl, below_of_grownB (below_alloc w _) hg2 (Nat.le_refl _)⟩
theorem acts_new (w : World) (l : List NAct) (hl : l.length ≤ 1000000) (t : TypeId) : Acts (w.alloc (.cells (l.map NAct.cells).flatten.toArray t)) (some ⟨w.heap.size, 0, none⟩) l :=
  ⟨fun k r hr => ⟨w.heap.size, 0, rfl, by simp, fun j v hv => by rw [cell_alloc_at, Nat.zero_add]; simpa using flat_get (actCells_wid l) hr hv⟩, by omega⟩
def awakeCells : Array Value := #[.int .i64 0, .int .i64 0, .int .i64 0, .int .i64 12, .int .i64 3, .int .i64 0, .int .i64 20, .int .i64 4, .int .i64 0, .int .i64 41, .int .i64 6, .int .i64 4]
theorem NB.awake {w : World} {A : Option Addr} (hT : Tab w) (ha : Acts w A awakeActs) : NB w none monthP A awakeNote := ⟨Hols.nil _ _, hT, ha, by decide⟩
set_option maxRecDepth 100000 in
set_option maxHeartbeats 4000000 in
theorem nawake_any (w : World) (hT : Tab w) : Calls Tryz.prog 9 #[] w fun e w' => e = .returned (.bool true) ∧ Below w.heap.size w w' := by
  have hT := Lib.hid hT
  have hgr := fun w1 => GradeOf_any scaleG ⟨0, 0, 120, 350⟩ w1
  rw [grade_awake] at hgr
  have hgr := Lib.hid hgr
  have hdl := fun w1 A (h : NB w1 none monthP A awakeNote) => DeadlineAt_any none 0 monthP A 4 awakeNote 41 w1 h
  rw [dl_awake] at hdl
  have hdl := Lib.hid hdl
  have her := fun w1 A (h : NB w1 none monthP A awakeNote) => Earliest_any none 0 monthP 40 100 A 4 awakeNote w1 h
  rw [earl_awake] at her
  have her := Lib.hid her
  go_enter Tryz.func9, Tryz.ntmps9
  go_wp2_with fail
  refine (Scale_any _).mono ?_
  rintro e w1 ⟨rfl, hb1⟩
  have hb1 := Lib.hid hb1
  go_wp2_with fail
  refine (hgr.out _).mono ?_
  rintro e w2 ⟨rfl, hb2⟩
  have hb2 := Lib.hid (below_step hb1.out hb2)
  go_wp2_with fail
  have ha3 := Lib.hid (acts_new w2 awakeActs (by decide) 109)
  have hb3 := Lib.hid (below_step hb2.out (below_alloc w2 (.cells awakeCells 109)))
  refine (Opened_any (some ⟨w2.heap.size, 0, none⟩) 4 4 _).mono ?_
  rintro e w4 ⟨rfl, hb4⟩
  have ha4 := Lib.hid (ha3.out.below hb4)
  have hb4 := Lib.hid (below_step hb3.out hb4)
  generalize some (⟨w2.heap.size, 0, none⟩ : Addr) = A at *
  have hN := Lib.hid (BoxAt.new w4 #[.string ⟨#[]⟩, .int .i64 0, .slice none 0 0] 93)
  go_wp2_with ((refine wpList_store_box rfl 93 (.tmp 3) (.tmp 19) rfl (w4.heap.size) _ [.string ⟨#[110]⟩, .int .i64 0, .slice A 4 4] (by rfl) (by rfl) hN.out rfl ntSize (by kernel_rfl) ?_; intro w5 h5 hg5))
  have hb45 := below_of_grownB (below_alloc w4 _) hg5 (Nat.le_refl _)
  have hb5 := Lib.hid (below_step hb4.out hb45)
  have ha5 := Lib.hid (ha4.out.below hb45)
  have h5 := Lib.hid h5
  clear hb45 hg5 hN
  generalize w4.heap.size = B at *
  refine wp_region_held_drew (S := (fun w' => w'.cell? ⟨B, 0, none⟩ = some (.string ⟨#[110]⟩) ∧ w'.cell? ⟨B, 1, none⟩ = some (.int .i64 0) ∧ w'.cell? ⟨B, 2, none⟩ = some (.slice A 4 4))) (by kernel_rfl) ⟨h5.out.c 0 _ rfl, h5.out.c 1 _ rfl, h5.out.c 2 _ rfl⟩ (fun hHeld => ?_)
  (refine tkH 1 (v := ?_) ?_ ?_; rotate_left; focus (intro w' hSw; (try dsimp only at hSw); go_simp; (try with_reducible rfl)); (try simp only [Act.put, List.setIfInBounds_toArray, List.set_cons_zero, List.set_cons_succ]))
  (refine wpAnyH_ready (rs := [0]) (by decide +kernel) (by simp) ?_; refine AllReadyH.cons rfl (fun K hK => ?_) AllReadyH.nil; rw [if_pos (by kernel_rfl)]; go_simp)
  refine (Month_any _).mono ?_
  rintro e w6 ⟨rfl, hb6⟩
  have hb56 := below_of_drewN (n := 1) hb6
  have h6 := Lib.hid (h5.out.below hb56)
  have ha6 := Lib.hid (ha5.out.below hb56)
  have hb6 := Lib.hid (below_step hb5.out hb56)
  clear hb56
  go_simp
  (refine hK.out _ _ ⟨h6.out.c 0 _ rfl, h6.out.c 1 _ rfl, h6.out.c 2 _ rfl⟩ (fun hHeld => ?_); clear hK K; (try simp only [Act.put, List.setIfInBounds_toArray]); (try simp only [List.set_cons_zero, List.set_cons_succ]))
  (refine wpAnyH_ready (rs := [2]) (by decide +kernel) (by simp) ?_; refine AllReadyH.cons rfl (fun K hK => ?_) AllReadyH.nil; rw [if_pos (by kernel_rfl)]; go_simp)
  refine (hdl.out _ A (NB.awake (hT.out.below hb6.out) ha6.out)).mono ?_
  rintro e w7 ⟨rfl, hb7⟩
  have h7 := Lib.hid (h6.out.below hb7)
  have ha7 := Lib.hid (ha6.out.below hb7)
  have hb7 := Lib.hid (below_step hb6.out hb7)
  go_simp
  (refine hK.out _ _ ⟨h7.out.c 0 _ rfl, h7.out.c 1 _ rfl, h7.out.c 2 _ rfl⟩ (fun hHeld => ?_); clear hK K; (try simp only [Act.put, List.setIfInBounds_toArray]); (try simp only [List.set_cons_zero, List.set_cons_succ]))
  (refine tkH 3 (v := ?_) ?_ ?_; rotate_left; focus (intro w' hSw; (try dsimp only at hSw); go_simp; (try with_reducible rfl)); (try simp only [Act.put, List.setIfInBounds_toArray, List.set_cons_zero, List.set_cons_succ]))
  (refine tkH 4 (v := ?_) ?_ ?_; rotate_left; focus (intro w' hSw; (try dsimp only at hSw); go_simp; (try with_reducible rfl)); (try simp only [Act.put, List.setIfInBounds_toArray, List.set_cons_zero, List.set_cons_succ]))
  (refine tkH 5 (v := ?_) ?_ ?_; rotate_left; focus (intro w' hSw; (try dsimp only at hSw); go_simp; (try with_reducible rfl)); (try simp only [Act.put, List.setIfInBounds_toArray, List.set_cons_zero, List.set_cons_succ]))
  (refine tkH 6 (v := ?_) ?_ ?_; rotate_left; focus (intro w' hSw; (try dsimp only at hSw); go_simp; (try with_reducible rfl)); (try simp only [Act.put, List.setIfInBounds_toArray, List.set_cons_zero, List.set_cons_succ]))
  (refine tkH 7 (v := ?_) ?_ ?_; rotate_left; focus (intro w' hSw; (try dsimp only at hSw); go_simp; (try with_reducible rfl)); (try simp only [Act.put, List.setIfInBounds_toArray, List.set_cons_zero, List.set_cons_succ]))
  refine wpAnyH_done (by kernel_rfl) ?_ _
  clear hHeld h5 h6 ha5 ha6
  go_wp2_with fail
  refine wp_region_held_drew (S := (fun w' => w'.cell? ⟨B, 0, none⟩ = some (.string ⟨#[110]⟩) ∧ w'.cell? ⟨B, 1, none⟩ = some (.int .i64 0) ∧ w'.cell? ⟨B, 2, none⟩ = some (.slice A 4 4))) (by kernel_rfl) ⟨h7.out.c 0 _ rfl, h7.out.c 1 _ rfl, h7.out.c 2 _ rfl⟩ (fun hHeld => ?_)
  (refine tkH 1 (v := ?_) ?_ ?_; rotate_left; focus (intro w' hSw; (try dsimp only at hSw); go_simp; (try with_reducible rfl)); (try simp only [Act.put, List.setIfInBounds_toArray, List.set_cons_zero, List.set_cons_succ]))
  (refine tkH 2 (v := ?_) ?_ ?_; rotate_left; focus (intro w' hSw; (try dsimp only at hSw); go_simp; (try with_reducible rfl)); (try simp only [Act.put, List.setIfInBounds_toArray, List.set_cons_zero, List.set_cons_succ]))
  (refine wpAnyH_ready (rs := [0]) (by decide +kernel) (by simp) ?_; refine AllReadyH.cons rfl (fun K hK => ?_) AllReadyH.nil; rw [if_pos (by kernel_rfl)]; go_simp)
  refine (Month_any _).mono ?_
  rintro e w8 ⟨rfl, hb8⟩
  have hb78 := below_of_drewN (n := 1) hb8
  have h8 := Lib.hid (h7.out.below hb78)
  have ha8 := Lib.hid (ha7.out.below hb78)
  have hb8 := Lib.hid (below_step hb7.out hb78)
  clear hb78
  go_simp
  (refine hK.out _ _ ⟨h8.out.c 0 _ rfl, h8.out.c 1 _ rfl, h8.out.c 2 _ rfl⟩ (fun hHeld => ?_); clear hK K; (try simp only [Act.put, List.setIfInBounds_toArray]); (try simp only [List.set_cons_zero, List.set_cons_succ]))
  (refine wpAnyH_ready (rs := [3]) (by decide +kernel) (by simp) ?_; refine AllReadyH.cons rfl (fun K hK => ?_) AllReadyH.nil; rw [if_pos (by kernel_rfl)]; go_simp)
  refine (her.out _ A (NB.awake (hT.out.below hb8.out) ha8.out)).mono ?_
  rintro e w9 ⟨rfl, hb9⟩
  have h9 := Lib.hid (h8.out.below hb9)
  have hb9 := Lib.hid (below_step hb8.out hb9)
  go_simp
  (refine hK.out _ _ ⟨h9.out.c 0 _ rfl, h9.out.c 1 _ rfl, h9.out.c 2 _ rfl⟩ (fun hHeld => ?_); clear hK K; (try simp only [Act.put, List.setIfInBounds_toArray]); (try simp only [List.set_cons_zero, List.set_cons_succ]))
  (refine tkH 4 (v := ?_) ?_ ?_; rotate_left; focus (intro w' hSw; (try dsimp only at hSw); go_simp; (try with_reducible rfl)); (try simp only [Act.put, List.setIfInBounds_toArray, List.set_cons_zero, List.set_cons_succ]))
  (refine tkH 5 (v := ?_) ?_ ?_; rotate_left; focus (intro w' hSw; (try dsimp only at hSw); go_simp; (try with_reducible rfl)); (try simp only [Act.put, List.setIfInBounds_toArray, List.set_cons_zero, List.set_cons_succ]))
  (refine tkH 6 (v := ?_) ?_ ?_; rotate_left; focus (intro w' hSw; (try dsimp only at hSw); go_simp; (try with_reducible rfl)); (try simp only [Act.put, List.setIfInBounds_toArray, List.set_cons_zero, List.set_cons_succ]))
  (refine tkH 7 (v := ?_) ?_ ?_; rotate_left; focus (intro w' hSw; (try dsimp only at hSw); go_simp; (try with_reducible rfl)); (try simp only [Act.put, List.setIfInBounds_toArray, List.set_cons_zero, List.set_cons_succ]))
  (refine tkH 8 (v := ?_) ?_ ?_; rotate_left; focus (intro w' hSw; (try dsimp only at hSw); go_simp; (try with_reducible rfl)); (try simp only [Act.put, List.setIfInBounds_toArray, List.set_cons_zero, List.set_cons_succ]))
  refine wpAnyH_done (by kernel_rfl) ?_ _
  clear hHeld
  go_wp2_with fail
  go_ret
  exact ⟨rfl, hb9.out⟩
end Go.Proofs.YtbegbajlagcbdaaGreatDoor
namespace Go.Proofs.YtbegbajlagcbdaaGreatDoor
open Go Go.RowKit
theorem acc_none {ph k : Int} (h0 : (ph == 0) = false) (h1 : (ph == 1) = false) (h2 : (ph == 2) = false) (h3 : (ph == 3) = false) : Cal.accI ph k = -1 := by
  have e0 : ph ≠ 0 := by simpa using h0
  have e1 : ph ≠ 1 := by simpa using h1
  have e2 : ph ≠ 2 := by simpa using h2
  have e3 : ph ≠ 3 := by simpa using h3
  have hn : ¬ (1 ≤ ph ∧ ph ≤ 3) := by omega
  unfold Cal.accI
  simp [e0, e1, e2, e3, hn]
set_option maxRecDepth 100000 in
set_option maxHeartbeats 4000000 in
theorem accepted_any (ph k : Int) (k0 : 0 ≤ k) (k1 : k ≤ 7) (w : World) : Calls Tryz.prog 192 #[.int .i64 ph, .int .i64 k] w fun e w' => e = .returned (.int .i64 (Cal.accI ph k)) ∧ w = w' := by
  by_cases hp : ph = 0 ∨ ph = 1 ∨ ph = 2 ∨ ph = 3
  · rcases hp with rfl | rfl | rfl | rfl
    all_goals
      rcases Cal.kinds k0 k1 with rfl | rfl | rfl | rfl | rfl | rfl | rfl | rfl
      all_goals
        clear k0 k1
        go_enter Tryz.func192, Tryz.ntmps192
        go_wp2_with (((first | (go_at_call 134) | (go_at_call 59) | (go_at_call 133) | (go_at_call 14) | (go_at_call 178) | (fail) | (go_at_call 139)); first | refine rin ?_ | refine rout ?_ | refine rany ?_))
        go_ret
        exact ⟨by first | rfl | decide, rfl⟩
  · have h0 : (ph == 0) = false := by simp; omega
    have h1 : (ph == 1) = false := by simp; omega
    have h2 : (ph == 2) = false := by simp; omega
    have h3 : (ph == 3) = false := by simp; omega
    have hfin := Lib.hid (acc_none (k := k) h0 h1 h2 h3)
    have hr : ph < 1 ∨ 3 < ph := by omega
    clear hp k0 k1
    go_enter Tryz.func192, Tryz.ntmps192
    go_wp2_with (((first | (go_at_call 134) | (go_at_call 59) | (go_at_call 133) | (go_at_call 14) | (go_at_call 178) | (fail) | (go_at_call 139)); first | refine rin ?_ | refine rout ?_ | refine rany ?_))
    go_ret
    exact ⟨ret_int hfin.out.symm, rfl⟩
set_option maxRecDepth 100000 in
set_option maxHeartbeats 4000000 in
theorem late_any (s : NSt) (a : NAct) (w : World) : Calls Tryz.prog 193 #[.agg #[.int .i64 s.phase, .int .i64 s.deadline, .int .i64 s.object, .int .i64 s.last, .int .i64 s.objected, .int .i64 s.extended], .agg #[.int .i64 a.day, .int .i64 a.kind, .int .i64 a.days]] w fun e w' => e = .returned (.bool (Cal.lateB s a)) ∧ Below w.heap.size w w' := by
  by_cases h1 : a.kind = 1 ∨ a.kind = 6 ∨ a.kind = 7
  · have hL : Cal.lateB s a = decide (s.phase = 1 ∧ s.deadline < a.day) := if_pos h1
    by_cases hp : s.phase = 1
    · have hpb : (s.phase == 1) = true := by simpa using hp
      have hfin : Hid (Cal.lateB s a = decide (s.deadline < a.day)) := by show _ = _; rw [hL]; simp [hp]
      clear hp hL
      rcases h1 with h1 | h1 | h1
      · have k1 : (a.kind == 1) = true := by simpa using h1
        clear h1
        go_enter Tryz.func193, Tryz.ntmps193
        go_wp2_with fail
        go_ret
        exact ⟨ret_bool hfin.out.symm, by exact blw⟩
      · have k1 : (a.kind == 1) = false := by rw [h1]; rfl
        have k6 : (a.kind == 6) = true := by simpa using h1
        clear h1
        go_enter Tryz.func193, Tryz.ntmps193
        go_wp2_with fail
        go_ret
        exact ⟨ret_bool hfin.out.symm, by exact blw⟩
      · have k1 : (a.kind == 1) = false := by rw [h1]; rfl
        have k6 : (a.kind == 6) = false := by rw [h1]; rfl
        have k7 : (a.kind == 7) = true := by simpa using h1
        clear h1
        go_enter Tryz.func193, Tryz.ntmps193
        go_wp2_with fail
        go_ret
        exact ⟨ret_bool hfin.out.symm, by exact blw⟩
    · have hpb : (s.phase == 1) = false := by simpa using hp
      have hfin : Hid (Cal.lateB s a = false) := by show _ = _; rw [hL]; simp [hp]
      clear hp hL
      rcases h1 with h1 | h1 | h1
      · have k1 : (a.kind == 1) = true := by simpa using h1
        clear h1
        go_enter Tryz.func193, Tryz.ntmps193
        go_wp2_with fail
        go_ret
        exact ⟨ret_bool hfin.out.symm, by exact blw⟩
      · have k1 : (a.kind == 1) = false := by rw [h1]; rfl
        have k6 : (a.kind == 6) = true := by simpa using h1
        clear h1
        go_enter Tryz.func193, Tryz.ntmps193
        go_wp2_with fail
        go_ret
        exact ⟨ret_bool hfin.out.symm, by exact blw⟩
      · have k1 : (a.kind == 1) = false := by rw [h1]; rfl
        have k6 : (a.kind == 6) = false := by rw [h1]; rfl
        have k7 : (a.kind == 7) = true := by simpa using h1
        clear h1
        go_enter Tryz.func193, Tryz.ntmps193
        go_wp2_with fail
        go_ret
        exact ⟨ret_bool hfin.out.symm, by exact blw⟩
  · have k1 : (a.kind == 1) = false := by simp; omega
    have k6 : (a.kind == 6) = false := by simp; omega
    have k7 : (a.kind == 7) = false := by simp; omega
    by_cases h3 : a.kind = 3
    · have hL : Cal.lateB s a = decide (s.deadline < a.day ∨ s.object < a.day) := by unfold Cal.lateB; rw [if_neg h1, if_pos h3]
      have k3 : (a.kind == 3) = true := by simpa using h3
      by_cases hd : s.deadline < a.day
      · have hfin : Hid (Cal.lateB s a = true) := by show _ = _; rw [hL]; simp [hd]
        clear h1 h3 hL
        go_enter Tryz.func193, Tryz.ntmps193
        go_wp2_with fail
        go_ret
        exact ⟨ret_bool hfin.out.symm, by exact blw⟩
      · have hd' : decide (s.deadline < a.day) = false := by simpa using hd
        have hfin : Hid (Cal.lateB s a = decide (s.object < a.day)) := by show _ = _; rw [hL]; simp [hd]
        clear h1 h3 hL hd
        go_enter Tryz.func193, Tryz.ntmps193
        go_wp2_with fail
        go_ret
        exact ⟨ret_bool hfin.out.symm, by exact blw⟩
    · have hfin : Hid (Cal.lateB s a = false) := by show _ = _; unfold Cal.lateB; rw [if_neg h1, if_neg h3]
      have k3 : (a.kind == 3) = false := by simpa using h3
      clear h1 h3
      go_enter Tryz.func193, Tryz.ntmps193
      go_wp2_with fail
      go_ret
      exact ⟨ret_bool hfin.out.symm, by exact blw⟩
/-- A deadline that is moved. -/
def Cal.movedS (p : Proc) (x : Int) : Option Int := if 0 ≤ x ∧ x ≤ 200000 then Cal.addW p.hols x 0 else none
set_option maxRecDepth 100000 in
set_option maxHeartbeats 4000000 in
theorem moved_any (A : Option Addr) (c : Nat) (p : Proc) (hok : Cal.HolsOk p.hols) (x y : Int) (hlo : -1000000 ≤ x + y) (hhi : x + y ≤ 1000000) (w : World) (hl : Hols w A p.hols) :
    Calls Tryz.prog 195 #[.agg #[.int .i64 p.runs.m, .int .i64 p.runs.d, .bool p.runs.k, .int .i64 p.obj.m, .int .i64 p.obj.d, .bool p.obj.k, .int .i64 p.wait.m, .int .i64 p.wait.d, .bool p.wait.k, .int .i64 p.exts, .int .i64 p.longest, .slice A p.hols.length c], .int .i64 x, .int .i64 y] w fun e w' => e = .returned (Cal.addV (Cal.movedS p (x + y))) ∧ Below w.heap.size w w' := by
  have hl := Lib.hid hl
  have hwr : IntKind.i64.wrap (x + y) = x + y := IntWalk.i64_in _ (by omega)
  have h1 := Lib.hid (BoxAt.new w #[.int .i64 p.runs.m, .int .i64 p.runs.d, .bool p.runs.k, .int .i64 p.obj.m, .int .i64 p.obj.d, .bool p.obj.k, .int .i64 p.wait.m, .int .i64 p.wait.d, .bool p.wait.k, .int .i64 p.exts, .int .i64 p.longest, .slice A p.hols.length c] 47)
  have hb := Lib.hid (below_alloc w (.cells #[.int .i64 p.runs.m, .int .i64 p.runs.d, .bool p.runs.k, .int .i64 p.obj.m, .int .i64 p.obj.d, .bool p.obj.k, .int .i64 p.wait.m, .int .i64 p.wait.d, .bool p.wait.k, .int .i64 p.exts, .int .i64 p.longest, .slice A p.hols.length c] 47))
  have c11 := h1.out.c 11 _ rfl
  by_cases hd : 0 ≤ x + y ∧ x + y ≤ 200000
  · have hAR := fun w1 hl => AddWorkingR_any A c p.hols hok (x + y) 0 (by omega) (by omega) hd.1 hd.2 w1 hl
    have hM : Hid (Cal.movedS p (x + y) = Cal.addW p.hols (x + y) 0) := if_pos hd
    unfold AddRPost at hAR
    obtain ⟨d0, d1⟩ := hd
    cases hr : Cal.addW p.hols (x + y) 0 with
    | none =>
      rw [hr] at hAR
      have hfin : Hid (Cal.movedS p (x + y) = none) := by show _ = _; rw [hM.out, hr]
      rw [hfin.out]
      unfold Cal.addV at hAR ⊢
      have hAR := Lib.hid hAR
      clear hr
      go_enter Tryz.func195, Tryz.ntmps195
      go_wp2_with (((first | (go_at_call 134) | (go_at_call 59) | (go_at_call 133) | (go_at_call 14) | (go_at_call 178) | (fail) | (go_at_call 139)); first | refine rin ?_ | refine rout ?_ | refine rany ?_))
      refine (hAR.out _ (hl.out.below hb.out)).mono ?_
      rintro e w2 ⟨rfl, hb2⟩
      have hb2 := Lib.hid (below_step hb.out hb2)
      go_wp2_with fail
      go_ret2
      exact ⟨rfl, hb2.out⟩
    | some q =>
      rw [hr] at hAR
      have hfin : Hid (Cal.movedS p (x + y) = some q) := by show _ = _; rw [hM.out, hr]
      rw [hfin.out]
      unfold Cal.addV at hAR ⊢
      have hAR := Lib.hid hAR
      clear hr
      go_enter Tryz.func195, Tryz.ntmps195
      go_wp2_with (((first | (go_at_call 134) | (go_at_call 59) | (go_at_call 133) | (go_at_call 14) | (go_at_call 178) | (fail) | (go_at_call 139)); first | refine rin ?_ | refine rout ?_ | refine rany ?_))
      refine (hAR.out _ (hl.out.below hb.out)).mono ?_
      rintro e w2 ⟨rfl, hb2⟩
      have hb2 := Lib.hid (below_step hb.out hb2)
      go_wp2_with fail
      go_ret2
      exact ⟨rfl, hb2.out⟩
  · have hfin : Hid (Cal.movedS p (x + y) = none) := if_neg hd
    have hd' : x + y < 0 ∨ 200000 < x + y := by omega
    clear hd
    rw [hfin.out]
    unfold Cal.addV
    go_enter Tryz.func195, Tryz.ntmps195
    go_wp2_with (((first | (go_at_call 134) | (go_at_call 59) | (go_at_call 133) | (go_at_call 14) | (go_at_call 178) | (fail) | (go_at_call 139)); first | refine rin ?_ | refine rout ?_ | refine rany ?_))
    go_ret2
    exact ⟨rfl, hb.out⟩
end Go.Proofs.YtbegbajlagcbdaaGreatDoor
