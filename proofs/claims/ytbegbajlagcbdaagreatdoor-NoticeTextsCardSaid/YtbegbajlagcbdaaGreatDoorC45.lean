/- Chapter 8 and what it rests on: definitions and walks, part 45. -/
import Derived.Test.YtbegbajlagcbdaaGreatDoorC42
import Derived.Test.YtbegbajlagcbdaaGreatDoorC44
namespace Go.Proofs.YtbegbajlagcbdaaGreatDoor
open Go Go.RowKit
def monthP : Proc := ⟨⟨1, 0, false⟩, ⟨0, 10, false⟩, ⟨0, 0, false⟩, 1, 30, []⟩
def nName : ByteArray := ⟨#[110]⟩
def awakeActs : List NAct := [⟨0, 0, 0⟩, ⟨12, 3, 0⟩, ⟨20, 4, 0⟩, ⟨41, 6, 4⟩]
def awakeNote : Note := ⟨nName, 0, awakeActs⟩
def scaleG : Grad := ⟨50, 100, 200, 300, 200, 100, 60, 24, 12, 0⟩
theorem grade_awake : Cal.gradeOfS scaleG ⟨0, 0, 120, 350⟩ = (2, 0) := by decide +kernel
theorem dl_awake : Cal.dlAtS monthP awakeNote 41 = (47, 0) := by decide +kernel
theorem earl_awake : Cal.earlS monthP 40 100 awakeNote = (100, 0) := by decide +kernel
theorem Month_any (w : World) : Calls Tryz.prog 51 #[] w fun e w' => e = .returned (.agg #[.int .i64 1, .int .i64 0, .bool false, .int .i64 0, .int .i64 10, .bool false, .int .i64 0, .int .i64 0, .bool false, .int .i64 1, .int .i64 30, .slice none 0 0]) ∧ Below w.heap.size w w' := by
  have h1 := Lib.hid (BoxAt.new w #[.int .i64 0, .int .i64 0, .bool false, .int .i64 0, .int .i64 0, .bool false, .int .i64 0, .int .i64 0, .bool false, .int .i64 0, .int .i64 0, .slice none 0 0] 47)
  go_enter Tryz.func51, Tryz.ntmps51
  go_wp2_with (refine wpList_store_box rfl 47 (.tmp 0) (.tmp 3) rfl (w.heap.size) _ [.int .i64 1, .int .i64 0, .bool false, .int .i64 0, .int .i64 10, .bool false, .int .i64 0, .int .i64 0, .bool false, .int .i64 1, .int .i64 30, .slice none 0 0] (by rfl) (by rfl) h1.out rfl prSize (by kernel_rfl) ?_; intro w2 h2 hg2)
  (try simp only [Exit.inBlock, Exit.then])
  refine bodyPost_ret (results_mid1 rfl _ _ (w.heap.size) [.int .i64 1, .int .i64 0, .bool false, .int .i64 0, .int .i64 10, .bool false, .int .i64 0, .int .i64 0, .bool false, .int .i64 1, .int .i64 30, .slice none 0 0] _ rfl h2.range Tryz.underlying47 rfl prSize) rfl ⟨rfl, below_of_grownB (below_alloc w _) hg2 (Nat.le_refl _)⟩
theorem Scale_any (w : World) : Calls Tryz.prog 48 #[] w fun e w' => e = .returned (.agg #[.int .i64 50, .int .i64 100, .int .i64 200, .int .i64 300, .int .i64 200, .int .i64 100, .int .i64 60, .int .i64 24, .int .i64 12, .int .i64 0]) ∧ Below w.heap.size w w' := by
  have h1 := Lib.hid (BoxAt.new w #[.int .i64 0, .int .i64 0, .int .i64 0, .int .i64 0, .int .i64 0, .int .i64 0, .int .i64 0, .int .i64 0, .int .i64 0, .int .i64 0] 25)
  go_enter Tryz.func48, Tryz.ntmps48
  go_wp2_with (refine wpList_store_box rfl 25 (.tmp 0) (.tmp 4) rfl (w.heap.size) _ [.int .i64 50, .int .i64 100, .int .i64 200, .int .i64 300, .int .i64 200, .int .i64 100, .int .i64 60, .int .i64 24, .int .i64 12, .int .i64 0] (by rfl) (by rfl) h1.out rfl grSize (by kernel_rfl) ?_; intro w2 h2 hg2)
  (try simp only [Exit.inBlock, Exit.then])
  refine bodyPost_ret (results_mid1 rfl _ _ (w.heap.size) [.int .i64 50, .int .i64 100, .int .i64 200, .int .i64 300, .int .i64 200, .int .i64 100, .int .i64 60, .int .i64 24, .int .i64 12, .int .i64 0] _ rfl h2.range Tryz.underlying25 rfl grSize) rfl ⟨rfl, below_of_grownB (below_alloc w _) hg2 (Nat.le_refl _)⟩
theorem Opened_any (A : Option Addr) (k c : Nat) (w : World) : Calls Tryz.prog 49 #[.slice A k c] w fun e w' => e = .returned (.agg #[.string ⟨#[110]⟩, .int .i64 0, .slice A k c]) ∧ Below w.heap.size w w' := by
  have h1 := Lib.hid (BoxAt.new w #[.string ⟨#[]⟩, .int .i64 0, .slice none 0 0] 93)
  go_enter Tryz.func49, Tryz.ntmps49
  go_wp2_with (refine wpList_store_box rfl 93 (.tmp 2) (.tmp 4) rfl (w.heap.size) _ [.string ⟨#[110]⟩, .int .i64 0, .slice A k c] (by rfl) (by rfl) h1.out rfl ntSize (by kernel_rfl) ?_; intro w2 h2 hg2)
  (try simp only [Exit.inBlock, Exit.then])
  refine bodyPost_ret (results_mid1 rfl _ _ (w.heap.size) [.string ⟨#[110]⟩, .int .i64 0, .slice A k c] _ rfl h2.range Tryz.underlying93 rfl ntSize) rfl ⟨rfl, below_of_grownB (below_alloc w _) hg2 (Nat.le_refl _)⟩
theorem acts_new (w : World) (l : List NAct) (hl : l.length ≤ 1000000) (t : TypeId) : Acts (w.alloc (.cells (l.map NAct.cells).flatten.toArray t)) (some ⟨w.heap.size, 0, none⟩) l :=
  ⟨fun k r hr => ⟨w.heap.size, 0, rfl, by simp, fun j v hv => by rw [cell_alloc_at, Nat.zero_add]; simpa using flat_get (actCellsA_wid l) hr hv⟩, by omega⟩
def awakeCells : Array Value := #[.int .i64 0, .int .i64 0, .int .i64 0, .int .i64 12, .int .i64 3, .int .i64 0, .int .i64 20, .int .i64 4, .int .i64 0, .int .i64 41, .int .i64 6, .int .i64 4]
theorem NB.awake {w : World} {A : Option Addr} (hT : Tab w) (ha : Acts w A awakeActs) : NB w none monthP A awakeNote := ⟨Hols.nil _ _, hT, ha, by decide⟩
set_option maxRecDepth 100000 in
set_option maxHeartbeats 4000000 in
theorem nawake_any (w : World) (hT : Tab w) : Calls Tryz.prog 9 #[] w fun e w' => e = .returned (.bool true) ∧ Below w.heap.size w w' := by
  have hT := Lib.hid hT
  have hgr := fun w1 => GradeOf_any scaleG ⟨0, 0, 120, 350⟩ w1
  rw [grade_awake] at hgr
  have hgr := Lib.hid hgr
  have hdl := fun w1 A (h : NB w1 none monthP A awakeNote) => DeadlineAt_any none 0 monthP A 4 awakeNote 41 w1 h
  rw [dl_awake] at hdl
  have hdl := Lib.hid hdl
  have her := fun w1 A (h : NB w1 none monthP A awakeNote) => Earliest_any none 0 monthP 40 100 A 4 awakeNote w1 h
  rw [earl_awake] at her
  have her := Lib.hid her
  go_enter Tryz.func9, Tryz.ntmps9
  go_wp2_with fail
  refine (Scale_any _).mono ?_
  rintro e w1 ⟨rfl, hb1⟩
  have hb1 := Lib.hid hb1
  go_wp2_with fail
  refine (hgr.out _).mono ?_
  rintro e w2 ⟨rfl, hb2⟩
  have hb2 := Lib.hid (below_step hb1.out hb2)
  go_wp2_with fail
  have ha3 := Lib.hid (acts_new w2 awakeActs (by decide) 109)
  have hb3 := Lib.hid (below_step hb2.out (below_alloc w2 (.cells awakeCells 109)))
  refine (Opened_any (some ⟨w2.heap.size, 0, none⟩) 4 4 _).mono ?_
  rintro e w4 ⟨rfl, hb4⟩
  have ha4 := Lib.hid (ha3.out.below hb4)
  have hb4 := Lib.hid (below_step hb3.out hb4)
  generalize some (⟨w2.heap.size, 0, none⟩ : Addr) = A at *
  have hN := Lib.hid (BoxAt.new w4 #[.string ⟨#[]⟩, .int .i64 0, .slice none 0 0] 93)
  go_wp2_with ((refine wpList_store_box rfl 93 (.tmp 3) (.tmp 19) rfl (w4.heap.size) _ [.string ⟨#[110]⟩, .int .i64 0, .slice A 4 4] (by rfl) (by rfl) hN.out rfl ntSize (by kernel_rfl) ?_; intro w5 h5 hg5))
  have hb45 := below_of_grownB (below_alloc w4 _) hg5 (Nat.le_refl _)
  have hb5 := Lib.hid (below_step hb4.out hb45)
  have ha5 := Lib.hid (ha4.out.below hb45)
  have h5 := Lib.hid h5
  clear hb45 hg5 hN
  generalize w4.heap.size = B at *
  refine wp_region_held_drew (S := (fun w' => w'.cell? ⟨B, 0, none⟩ = some (.string ⟨#[110]⟩) ∧ w'.cell? ⟨B, 1, none⟩ = some (.int .i64 0) ∧ w'.cell? ⟨B, 2, none⟩ = some (.slice A 4 4))) (by kernel_rfl) ⟨h5.out.c 0 _ rfl, h5.out.c 1 _ rfl, h5.out.c 2 _ rfl⟩ (fun hHeld => ?_)
  (refine tkH 1 (v := ?_) ?_ ?_; rotate_left; focus (intro w' hSw; (try dsimp only at hSw); go_simp; (try with_reducible rfl)); (try simp only [Act.put, List.setIfInBounds_toArray, List.set_cons_zero, List.set_cons_succ]))
  (refine wpAnyH_ready (rs := [0]) (by decide +kernel) (by simp) ?_; refine AllReadyH.cons rfl (fun K hK => ?_) AllReadyH.nil; rw [if_pos (by kernel_rfl)]; go_simp)
  refine (Month_any _).mono ?_
  rintro e w6 ⟨rfl, hb6⟩
  have hb56 := below_of_drewN (n := 1) hb6
  have h6 := Lib.hid (h5.out.below hb56)
  have ha6 := Lib.hid (ha5.out.below hb56)
  have hb6 := Lib.hid (below_step hb5.out hb56)
  clear hb56
  go_simp
  (refine hK.out _ _ ⟨h6.out.c 0 _ rfl, h6.out.c 1 _ rfl, h6.out.c 2 _ rfl⟩ (fun hHeld => ?_); clear hK K; (try simp only [Act.put, List.setIfInBounds_toArray]); (try simp only [List.set_cons_zero, List.set_cons_succ]))
  (refine wpAnyH_ready (rs := [2]) (by decide +kernel) (by simp) ?_; refine AllReadyH.cons rfl (fun K hK => ?_) AllReadyH.nil; rw [if_pos (by kernel_rfl)]; go_simp)
  refine (hdl.out _ A (NB.awake (hT.out.below hb6.out) ha6.out)).mono ?_
  rintro e w7 ⟨rfl, hb7⟩
  have h7 := Lib.hid (h6.out.below hb7)
  have ha7 := Lib.hid (ha6.out.below hb7)
  have hb7 := Lib.hid (below_step hb6.out hb7)
  go_simp
  (refine hK.out _ _ ⟨h7.out.c 0 _ rfl, h7.out.c 1 _ rfl, h7.out.c 2 _ rfl⟩ (fun hHeld => ?_); clear hK K; (try simp only [Act.put, List.setIfInBounds_toArray]); (try simp only [List.set_cons_zero, List.set_cons_succ]))
  (refine tkH 3 (v := ?_) ?_ ?_; rotate_left; focus (intro w' hSw; (try dsimp only at hSw); go_simp; (try with_reducible rfl)); (try simp only [Act.put, List.setIfInBounds_toArray, List.set_cons_zero, List.set_cons_succ]))
  (refine tkH 4 (v := ?_) ?_ ?_; rotate_left; focus (intro w' hSw; (try dsimp only at hSw); go_simp; (try with_reducible rfl)); (try simp only [Act.put, List.setIfInBounds_toArray, List.set_cons_zero, List.set_cons_succ]))
  (refine tkH 5 (v := ?_) ?_ ?_; rotate_left; focus (intro w' hSw; (try dsimp only at hSw); go_simp; (try with_reducible rfl)); (try simp only [Act.put, List.setIfInBounds_toArray, List.set_cons_zero, List.set_cons_succ]))
  (refine tkH 6 (v := ?_) ?_ ?_; rotate_left; focus (intro w' hSw; (try dsimp only at hSw); go_simp; (try with_reducible rfl)); (try simp only [Act.put, List.setIfInBounds_toArray, List.set_cons_zero, List.set_cons_succ]))
  (refine tkH 7 (v := ?_) ?_ ?_; rotate_left; focus (intro w' hSw; (try dsimp only at hSw); go_simp; (try with_reducible rfl)); (try simp only [Act.put, List.setIfInBounds_toArray, List.set_cons_zero, List.set_cons_succ]))
  refine wpAnyH_done (by kernel_rfl) ?_ _
  clear hHeld h5 h6 ha5 ha6
  go_wp2_with fail
  refine wp_region_held_drew (S := (fun w' => w'.cell? ⟨B, 0, none⟩ = some (.string ⟨#[110]⟩) ∧ w'.cell? ⟨B, 1, none⟩ = some (.int .i64 0) ∧ w'.cell? ⟨B, 2, none⟩ = some (.slice A 4 4))) (by kernel_rfl) ⟨h7.out.c 0 _ rfl, h7.out.c 1 _ rfl, h7.out.c 2 _ rfl⟩ (fun hHeld => ?_)
  (refine tkH 1 (v := ?_) ?_ ?_; rotate_left; focus (intro w' hSw; (try dsimp only at hSw); go_simp; (try with_reducible rfl)); (try simp only [Act.put, List.setIfInBounds_toArray, List.set_cons_zero, List.set_cons_succ]))
  (refine tkH 2 (v := ?_) ?_ ?_; rotate_left; focus (intro w' hSw; (try dsimp only at hSw); go_simp; (try with_reducible rfl)); (try simp only [Act.put, List.setIfInBounds_toArray, List.set_cons_zero, List.set_cons_succ]))
  (refine wpAnyH_ready (rs := [0]) (by decide +kernel) (by simp) ?_; refine AllReadyH.cons rfl (fun K hK => ?_) AllReadyH.nil; rw [if_pos (by kernel_rfl)]; go_simp)
  refine (Month_any _).mono ?_
  rintro e w8 ⟨rfl, hb8⟩
  have hb78 := below_of_drewN (n := 1) hb8
  have h8 := Lib.hid (h7.out.below hb78)
  have ha8 := Lib.hid (ha7.out.below hb78)
  have hb8 := Lib.hid (below_step hb7.out hb78)
  clear hb78
  go_simp
  (refine hK.out _ _ ⟨h8.out.c 0 _ rfl, h8.out.c 1 _ rfl, h8.out.c 2 _ rfl⟩ (fun hHeld => ?_); clear hK K; (try simp only [Act.put, List.setIfInBounds_toArray]); (try simp only [List.set_cons_zero, List.set_cons_succ]))
  (refine wpAnyH_ready (rs := [3]) (by decide +kernel) (by simp) ?_; refine AllReadyH.cons rfl (fun K hK => ?_) AllReadyH.nil; rw [if_pos (by kernel_rfl)]; go_simp)
  refine (her.out _ A (NB.awake (hT.out.below hb8.out) ha8.out)).mono ?_
  rintro e w9 ⟨rfl, hb9⟩
  have h9 := Lib.hid (h8.out.below hb9)
  have hb9 := Lib.hid (below_step hb8.out hb9)
  go_simp
  (refine hK.out _ _ ⟨h9.out.c 0 _ rfl, h9.out.c 1 _ rfl, h9.out.c 2 _ rfl⟩ (fun hHeld => ?_); clear hK K; (try simp only [Act.put, List.setIfInBounds_toArray]); (try simp only [List.set_cons_zero, List.set_cons_succ]))
  (refine tkH 4 (v := ?_) ?_ ?_; rotate_left; focus (intro w' hSw; (try dsimp only at hSw); go_simp; (try with_reducible rfl)); (try simp only [Act.put, List.setIfInBounds_toArray, List.set_cons_zero, List.set_cons_succ]))
  (refine tkH 5 (v := ?_) ?_ ?_; rotate_left; focus (intro w' hSw; (try dsimp only at hSw); go_simp; (try with_reducible rfl)); (try simp only [Act.put, List.setIfInBounds_toArray, List.set_cons_zero, List.set_cons_succ]))
  (refine tkH 6 (v := ?_) ?_ ?_; rotate_left; focus (intro w' hSw; (try dsimp only at hSw); go_simp; (try with_reducible rfl)); (try simp only [Act.put, List.setIfInBounds_toArray, List.set_cons_zero, List.set_cons_succ]))
  (refine tkH 7 (v := ?_) ?_ ?_; rotate_left; focus (intro w' hSw; (try dsimp only at hSw); go_simp; (try with_reducible rfl)); (try simp only [Act.put, List.setIfInBounds_toArray, List.set_cons_zero, List.set_cons_succ]))
  (refine tkH 8 (v := ?_) ?_ ?_; rotate_left; focus (intro w' hSw; (try dsimp only at hSw); go_simp; (try with_reducible rfl)); (try simp only [Act.put, List.setIfInBounds_toArray, List.set_cons_zero, List.set_cons_succ]))
  refine wpAnyH_done (by kernel_rfl) ?_ _
  clear hHeld
  go_wp2_with fail
  go_ret
  exact ⟨rfl, hb9.out⟩
end Go.Proofs.YtbegbajlagcbdaaGreatDoor
