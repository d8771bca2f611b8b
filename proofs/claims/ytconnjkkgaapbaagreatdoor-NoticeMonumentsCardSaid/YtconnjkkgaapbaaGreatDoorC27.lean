/- Chapter 8 and what it rests on: definitions and walks, part 27. -/
import Derived.Test.YtconnjkkgaapbaaGreatDoorC26
import Derived.Test.YtconnjkkgaapbaaGreatDoorC05
namespace Go.Proofs.YtconnjkkgaapbaaGreatDoor
open Go Go.RowKit
/-- The first day on which nothing blocks, and the error. -/
def Cal.earlS (p : Proc) (right rest : Int) (n : Note) : Int × Int :=
  if Cal.waitsE p right rest n = 0 then (if right < 0 ∨ rest < 0 ∨ Cal.thirdS p n < 0 then (0, 12) else (max (max right rest) (Cal.thirdS p n), 0)) else (0, Cal.waitsE p right rest n)
theorem min3_lt (x y z : Int) : ((if z < (if y < x then y else x) then z else (if y < x then y else x)) < 0) ↔ (x < 0 ∨ y < 0 ∨ z < 0) := by
  split <;> split at * <;> omega
set_option maxRecDepth 100000 in
set_option maxHeartbeats 4000000 in
theorem earl_walk (A : Option Addr) (c : Nat) (p : Proc) (right rest z E : Int) (x y : Int) (N : Option Addr) (d : Nat) (n : Note) (w : World) (r : Int × Int) (hN : NB w A p N n)
    (hr : (E ≠ 0 ∧ r = (0, E)) ∨ (E = 0 ∧ (x < 0 ∨ y < 0 ∨ z < 0) ∧ r = (0, 12)) ∨ (E = 0 ∧ ¬ (x < 0 ∨ y < 0 ∨ z < 0) ∧ r = (max (max x y) z, 0)))
    (hw : Hid (∀ w1, NB w1 A p N n → Calls Tryz.prog 70 #[.agg #[.int .i64 p.runs.m, .int .i64 p.runs.d, .bool p.runs.k, .int .i64 p.obj.m, .int .i64 p.obj.d, .bool p.obj.k, .int .i64 p.wait.m, .int .i64 p.wait.d, .bool p.wait.k, .int .i64 p.exts, .int .i64 p.longest, .slice A p.hols.length c], .agg #[.int .i64 right, .int .i64 rest, .string n.name, .int .i64 n.opened, .slice N n.acts.length d]] w1 (TriPost w1 x y z E))) :
    Calls Tryz.prog 24 #[.agg #[.int .i64 p.runs.m, .int .i64 p.runs.d, .bool p.runs.k, .int .i64 p.obj.m, .int .i64 p.obj.d, .bool p.obj.k, .int .i64 p.wait.m, .int .i64 p.wait.d, .bool p.wait.k, .int .i64 p.exts, .int .i64 p.longest, .slice A p.hols.length c], .agg #[.int .i64 right, .int .i64 rest, .string n.name, .int .i64 n.opened, .slice N n.acts.length d]] w (IEPost w r) := by
  have hN := Lib.hid hN
  rcases hr with ⟨hE, hr⟩ | ⟨rfl, hneg, hr⟩ | ⟨rfl, hneg, hr⟩
  · have hfin := Lib.hid hr
    have hE1 : (E != 0) = true := by simpa using hE
    clear hr hE
    obtain ⟨h1, h2, hb⟩ := start2r w A c p right rest N d n
    have r0 := h2.out.c 0 _ rfl
    have r1 := h2.out.c 1 _ rfl
    have r2 := h2.out.c 2 _ rfl
    have r3 := h2.out.c 3 _ rfl
    have r4 := h2.out.c 4 _ rfl
    go_enter Tryz.func24, Tryz.ntmps24
    go_wp2_with (refine wpPr h1.out (.tmp 2) rfl ?_)
    clear r0 r1 r2 r3 r4
    refine (hw.out _ (hN.out.below hb.out)).mono ?_
    rintro e w1 ⟨he, hb1⟩
    subst he
    have hbw := Lib.hid (below_step hb.out hb1)
    have hN6 := Lib.hid (BoxAt.new w1 #[.int .i64 0, .int .i64 0, .int .i64 0] 74)
    clear hb1 h1 h2 hb
    go_wp2_with ((refine wpList_store_box rfl 74 (.tmp 6) (.tmp 12) rfl (w1.heap.size) _ [.int .i64 x, .int .i64 y, .int .i64 z] (by rfl) (by rfl) hN6.out rfl triSize (by kernel_rfl) ?_; intro w2 h6 hg6); have hb2 := Lib.hid (below_step hbw.out (below_of_grownB (below_alloc w1 _) hg6 (Nat.le_refl _))); have c0 := h6.c 0 _ rfl; have c1 := h6.c 1 _ rfl; have c2 := h6.c 2 _ rfl)
    go_ret2
    exact ⟨by rw [hfin.out]; first | done | rfl, hb2.out⟩
  · have hfin := Lib.hid hr
    have hm : decide ((if z < (if y < x then y else x) then z else (if y < x then y else x)) < 0) = true := by simpa only [decide_eq_true_eq] using (min3_lt x y z).2 hneg
    clear hr hneg
    obtain ⟨h1, h2, hb⟩ := start2r w A c p right rest N d n
    have r0 := h2.out.c 0 _ rfl
    have r1 := h2.out.c 1 _ rfl
    have r2 := h2.out.c 2 _ rfl
    have r3 := h2.out.c 3 _ rfl
    have r4 := h2.out.c 4 _ rfl
    go_enter Tryz.func24, Tryz.ntmps24
    go_wp2_with (refine wpPr h1.out (.tmp 2) rfl ?_)
    clear r0 r1 r2 r3 r4
    refine (hw.out _ (hN.out.below hb.out)).mono ?_
    rintro e w1 ⟨he, hb1⟩
    subst he
    have hbw := Lib.hid (below_step hb.out hb1)
    have hN6 := Lib.hid (BoxAt.new w1 #[.int .i64 0, .int .i64 0, .int .i64 0] 74)
    clear hb1 h1 h2 hb
    go_wp2_with ((refine wpList_store_box rfl 74 (.tmp 6) (.tmp 12) rfl (w1.heap.size) _ [.int .i64 x, .int .i64 y, .int .i64 z] (by rfl) (by rfl) hN6.out rfl triSize (by kernel_rfl) ?_; intro w2 h6 hg6); have hb2 := Lib.hid (below_step hbw.out (below_of_grownB (below_alloc w1 _) hg6 (Nat.le_refl _))); have c0 := h6.c 0 _ rfl; have c1 := h6.c 1 _ rfl; have c2 := h6.c 2 _ rfl)
    all_goals
      go_ret2
      exact ⟨by rw [hfin.out]; first | done | rfl, hb2.out⟩
  · have hfin := Lib.hid hr
    have hm : decide ((if z < (if y < x then y else x) then z else (if y < x then y else x)) < 0) = false := by simpa only [decide_eq_false_iff_not] using (fun h => hneg ((min3_lt x y z).1 h))
    clear hr hneg
    obtain ⟨h1, h2, hb⟩ := start2r w A c p right rest N d n
    have r0 := h2.out.c 0 _ rfl
    have r1 := h2.out.c 1 _ rfl
    have r2 := h2.out.c 2 _ rfl
    have r3 := h2.out.c 3 _ rfl
    have r4 := h2.out.c 4 _ rfl
    go_enter Tryz.func24, Tryz.ntmps24
    go_wp2_with (refine wpPr h1.out (.tmp 2) rfl ?_)
    clear r0 r1 r2 r3 r4
    refine (hw.out _ (hN.out.below hb.out)).mono ?_
    rintro e w1 ⟨he, hb1⟩
    subst he
    have hbw := Lib.hid (below_step hb.out hb1)
    have hN6 := Lib.hid (BoxAt.new w1 #[.int .i64 0, .int .i64 0, .int .i64 0] 74)
    clear hb1 h1 h2 hb
    go_wp2_with ((refine wpList_store_box rfl 74 (.tmp 6) (.tmp 12) rfl (w1.heap.size) _ [.int .i64 x, .int .i64 y, .int .i64 z] (by rfl) (by rfl) hN6.out rfl triSize (by kernel_rfl) ?_; intro w2 h6 hg6); have hb2 := Lib.hid (below_step hbw.out (below_of_grownB (below_alloc w1 _) hg6 (Nat.le_refl _))); have c0 := h6.c 0 _ rfl; have c1 := h6.c 1 _ rfl; have c2 := h6.c 2 _ rfl)
    all_goals
      go_ret2
      exact ⟨by rw [hfin.out]; exact ret_int2 (by first | omega | (simp only []; omega)) rfl, hb2.out⟩
theorem Earliest_any (A : Option Addr) (c : Nat) (p : Proc) (right rest : Int) (N : Option Addr) (d : Nat) (n : Note) (w : World) (hN : NB w A p N n) :
    Calls Tryz.prog 24 #[.agg #[.int .i64 p.runs.m, .int .i64 p.runs.d, .bool p.runs.k, .int .i64 p.obj.m, .int .i64 p.obj.d, .bool p.obj.k, .int .i64 p.wait.m, .int .i64 p.wait.d, .bool p.wait.k, .int .i64 p.exts, .int .i64 p.longest, .slice A p.hols.length c], .agg #[.int .i64 right, .int .i64 rest, .string n.name, .int .i64 n.opened, .slice N n.acts.length d]] w (IEPost w (Cal.earlS p right rest n)) := by
  by_cases hE : Cal.waitsE p right rest n = 0
  · refine earl_walk A c p right rest (Cal.thirdS p n) 0 right rest N d n w _ hN ?_ (fun w1 h => waits_ok A c p right rest N d n w1 h hE)
    unfold Cal.earlS
    rw [if_pos hE]
    by_cases h : right < 0 ∨ rest < 0 ∨ Cal.thirdS p n < 0
    · exact .inr (.inl ⟨rfl, h, if_pos h⟩)
    · exact .inr (.inr ⟨rfl, h, if_neg h⟩)
  · refine earl_walk A c p right rest 0 _ 0 0 N d n w _ hN (.inl ⟨hE, ?_⟩) (fun w1 h => waits_bad A c p right rest N d n w1 h hE)
    unfold Cal.earlS
    rw [if_neg hE]
theorem ntSize : (Tryz.prog.info? 29).map (·.size) = some 3 := by kernel_rfl
theorem elemAct : Elem Tryz.prog 27 64 3 24 := Elem.mk' Tryz.underlying27 (z := .agg #[.int .i64 0, .int .i64 0, .int .i64 0]) (by kernel_rfl) rfl (by decide)
theorem actCells_wid (l : List NAct) : ∀ r ∈ l.map NAct.cells, r.length = 3 := fun r hr => by obtain ⟨n, _, rfl⟩ := List.mem_map.1 hr; rfl
theorem actCells_one (l : List NAct) : ∀ r ∈ l.map NAct.cells, ∀ u ∈ r, u.oneCell' = true := fun r hr u hu => by
  obtain ⟨n, _, rfl⟩ := List.mem_map.1 hr
  simp only [NAct.cells, List.mem_cons, List.not_mem_nil, or_false] at hu
  rcases hu with rfl | rfl | rfl <;> rfl
end Go.Proofs.YtconnjkkgaapbaaGreatDoor
namespace Go.Proofs.YtconnjkkgaapbaaGreatDoor
open Go Go.RowKit
def monthP : Proc := ⟨⟨1, 0, false⟩, ⟨0, 10, false⟩, ⟨0, 0, false⟩, 1, 30, []⟩
def nName : ByteArray := ⟨#[110]⟩
def awakeActs : List NAct := [⟨0, 0, 0⟩, ⟨12, 3, 0⟩, ⟨20, 4, 0⟩, ⟨41, 6, 4⟩]
def awakeNote : Note := ⟨nName, 0, awakeActs⟩
def scaleG : Grad := ⟨50, 100, 200, 300, 200, 100, 60, 24, 12, 0⟩
theorem grade_awake : Cal.gradeOfS scaleG ⟨0, 0, 120, 350⟩ = (2, 0) := by decide +kernel
theorem dl_awake : Cal.dlAtS monthP awakeNote 41 = (47, 0) := by decide +kernel
theorem earl_awake : Cal.earlS monthP 40 100 awakeNote = (100, 0) := by decide +kernel
theorem Month_any (w : World) : Calls Tryz.prog 54 #[] w fun e w' => e = .returned (.agg #[.int .i64 1, .int .i64 0, .bool false, .int .i64 0, .int .i64 10, .bool false, .int .i64 0, .int .i64 0, .bool false, .int .i64 1, .int .i64 30, .slice none 0 0]) ∧ Below w.heap.size w w' := by
  have h1 := Lib.hid (BoxAt.new w #[.int .i64 0, .int .i64 0, .bool false, .int .i64 0, .int .i64 0, .bool false, .int .i64 0, .int .i64 0, .bool false, .int .i64 0, .int .i64 0, .slice none 0 0] 26)
  go_enter Tryz.func54, Tryz.ntmps54
  go_wp2_with (refine wpList_store_box rfl 26 (.tmp 0) (.tmp 3) rfl (w.heap.size) _ [.int .i64 1, .int .i64 0, .bool false, .int .i64 0, .int .i64 10, .bool false, .int .i64 0, .int .i64 0, .bool false, .int .i64 1, .int .i64 30, .slice none 0 0] (by rfl) (by rfl) h1.out rfl prSize (by kernel_rfl) ?_; intro w2 h2 hg2)
  (try simp only [Exit.inBlock, Exit.then])
  refine bodyPost_ret (results_mid1 rfl _ _ (w.heap.size) [.int .i64 1, .int .i64 0, .bool false, .int .i64 0, .int .i64 10, .bool false, .int .i64 0, .int .i64 0, .bool false, .int .i64 1, .int .i64 30, .slice none 0 0] _ rfl h2.range Tryz.underlying26 rfl prSize) rfl ⟨rfl, below_of_grownB (below_alloc w _) hg2 (Nat.le_refl _)⟩
theorem Scale_any (w : World) : Calls Tryz.prog 52 #[] w fun e w' => e = .returned (.agg #[.int .i64 50, .int .i64 100, .int .i64 200, .int .i64 300, .int .i64 200, .int .i64 100, .int .i64 60, .int .i64 24, .int .i64 12, .int .i64 0]) ∧ Below w.heap.size w w' := by
  have h1 := Lib.hid (BoxAt.new w #[.int .i64 0, .int .i64 0, .int .i64 0, .int .i64 0, .int .i64 0, .int .i64 0, .int .i64 0, .int .i64 0, .int .i64 0, .int .i64 0] 77)
  go_enter Tryz.func52, Tryz.ntmps52
  go_wp2_with (refine wpList_store_box rfl 77 (.tmp 0) (.tmp 4) rfl (w.heap.size) _ [.int .i64 50, .int .i64 100, .int .i64 200, .int .i64 300, .int .i64 200, .int .i64 100, .int .i64 60, .int .i64 24, .int .i64 12, .int .i64 0] (by rfl) (by rfl) h1.out rfl grSize (by kernel_rfl) ?_; intro w2 h2 hg2)
  (try simp only [Exit.inBlock, Exit.then])
  refine bodyPost_ret (results_mid1 rfl _ _ (w.heap.size) [.int .i64 50, .int .i64 100, .int .i64 200, .int .i64 300, .int .i64 200, .int .i64 100, .int .i64 60, .int .i64 24, .int .i64 12, .int .i64 0] _ rfl h2.range Tryz.underlying77 rfl grSize) rfl ⟨rfl, below_of_grownB (below_alloc w _) hg2 (Nat.le_refl _)⟩
theorem Opened_any (A : Option Addr) (k c : Nat) (w : World) : Calls Tryz.prog 53 #[.slice A k c] w fun e w' => e = .returned (.agg #[.string ⟨#[110]⟩, .int .i64 0, .slice A k c]) ∧ Below w.heap.size w w' := by
  have h1 := Lib.hid (BoxAt.new w #[.string ⟨#[]⟩, .int .i64 0, .slice none 0 0] 29)
  go_enter Tryz.func53, Tryz.ntmps53
  go_wp2_with (refine wpList_store_box rfl 29 (.tmp 2) (.tmp 4) rfl (w.heap.size) _ [.string ⟨#[110]⟩, .int .i64 0, .slice A k c] (by rfl) (by rfl) h1.out rfl ntSize (by kernel_rfl) ?_; intro w2 h2 hg2)
  (try simp only [Exit.inBlock, Exit.then])
  refine bodyPost_ret (results_mid1 rfl _ _ (w.heap.size) [.string ⟨#[110]⟩, .int .i64 0, .slice A k c] _ rfl h2.range Tryz.underlying29 rfl ntSize) rfl ⟨rfl, below_of_grownB (below_alloc w _) hg2 (Nat.le_refl _)⟩
theorem acts_new (w : World) (l : List NAct) (hl : l.length ≤ 1000000) (t : TypeId) : Acts (w.alloc (.cells (l.map NAct.cells).flatten.toArray t)) (some ⟨w.heap.size, 0, none⟩) l :=
  ⟨fun k r hr => ⟨w.heap.size, 0, rfl, by simp, fun j v hv => by rw [cell_alloc_at, Nat.zero_add]; simpa using flat_get (actCells_wid l) hr hv⟩, by omega⟩
def awakeCells : Array Value := #[.int .i64 0, .int .i64 0, .int .i64 0, .int .i64 12, .int .i64 3, .int .i64 0, .int .i64 20, .int .i64 4, .int .i64 0, .int .i64 41, .int .i64 6, .int .i64 4]
theorem NB.awake {w : World} {A : Option Addr} (hT : Tab w) (ha : Acts w A awakeActs) : NB w none monthP A awakeNote := ⟨Hols.nil _ _, hT, ha, by decide⟩
set_option maxRecDepth 100000 in
set_option maxHeartbeats 4000000 in
theorem nawake_any (w : World) (hT : Tab w) : Calls Tryz.prog 13 #[] w fun e w' => e = .returned (.bool true) ∧ Below w.heap.size w w' := by
  have hT := Lib.hid hT
  have hgr := fun w1 => GradeOf_any scaleG ⟨0, 0, 120, 350⟩ w1
  rw [grade_awake] at hgr
  have hgr := Lib.hid hgr
  have hdl := fun w1 A (h : NB w1 none monthP A awakeNote) => DeadlineAt_any none 0 monthP A 4 awakeNote 41 w1 h
  rw [dl_awake] at hdl
  have hdl := Lib.hid hdl
  have her := fun w1 A (h : NB w1 none monthP A awakeNote) => Earliest_any none 0 monthP 40 100 A 4 awakeNote w1 h
  rw [earl_awake] at her
  have her := Lib.hid her
  go_enter Tryz.func13, Tryz.ntmps13
  go_wp2_with fail
  refine (Scale_any _).mono ?_
  rintro e w1 ⟨rfl, hb1⟩
  have hb1 := Lib.hid hb1
  go_wp2_with fail
  refine (hgr.out _).mono ?_
  rintro e w2 ⟨rfl, hb2⟩
  have hb2 := Lib.hid (below_step hb1.out hb2)
  go_wp2_with fail
  have ha3 := Lib.hid (acts_new w2 awakeActs (by decide) 64)
  have hb3 := Lib.hid (below_step hb2.out (below_alloc w2 (.cells awakeCells 64)))
  refine (Opened_any (some ⟨w2.heap.size, 0, none⟩) 4 4 _).mono ?_
  rintro e w4 ⟨rfl, hb4⟩
  have ha4 := Lib.hid (ha3.out.below hb4)
  have hb4 := Lib.hid (below_step hb3.out hb4)
  generalize some (⟨w2.heap.size, 0, none⟩ : Addr) = A at *
  have hN := Lib.hid (BoxAt.new w4 #[.string ⟨#[]⟩, .int .i64 0, .slice none 0 0] 29)
  go_wp2_with ((refine wpList_store_box rfl 29 (.tmp 3) (.tmp 19) rfl (w4.heap.size) _ [.string ⟨#[110]⟩, .int .i64 0, .slice A 4 4] (by rfl) (by rfl) hN.out rfl ntSize (by kernel_rfl) ?_; intro w5 h5 hg5))
  have hb45 := below_of_grownB (below_alloc w4 _) hg5 (Nat.le_refl _)
  have hb5 := Lib.hid (below_step hb4.out hb45)
  have ha5 := Lib.hid (ha4.out.below hb45)
  have h5 := Lib.hid h5
  clear hb45 hg5 hN
  generalize w4.heap.size = B at *
  refine wp_region_held_drew (S := (fun w' => w'.cell? ⟨B, 0, none⟩ = some (.string ⟨#[110]⟩) ∧ w'.cell? ⟨B, 1, none⟩ = some (.int .i64 0) ∧ w'.cell? ⟨B, 2, none⟩ = some (.slice A 4 4))) (by kernel_rfl) ⟨h5.out.c 0 _ rfl, h5.out.c 1 _ rfl, h5.out.c 2 _ rfl⟩ (fun hHeld => ?_)
  (refine tkH 1 (v := ?_) ?_ ?_; rotate_left; focus (intro w' hSw; (try dsimp only at hSw); go_simp; (try with_reducible rfl)); (try simp only [Act.put, List.setIfInBounds_toArray, List.set_cons_zero, List.set_cons_succ]))
  (refine wpAnyH_ready (rs := [0]) (by decide +kernel) (by simp) ?_; refine AllReadyH.cons rfl (fun K hK => ?_) AllReadyH.nil; rw [if_pos (by kernel_rfl)]; go_simp)
  refine (Month_any _).mono ?_
  rintro e w6 ⟨rfl, hb6⟩
  have hb56 := below_of_drewN (n := 1) hb6
  have h6 := Lib.hid (h5.out.below hb56)
  have ha6 := Lib.hid (ha5.out.below hb56)
  have hb6 := Lib.hid (below_step hb5.out hb56)
  clear hb56
  go_simp
  (refine hK.out _ _ ⟨h6.out.c 0 _ rfl, h6.out.c 1 _ rfl, h6.out.c 2 _ rfl⟩ (fun hHeld => ?_); clear hK K; (try simp only [Act.put, List.setIfInBounds_toArray]); (try simp only [List.set_cons_zero, List.set_cons_succ]))
  (refine wpAnyH_ready (rs := [2]) (by decide +kernel) (by simp) ?_; refine AllReadyH.cons rfl (fun K hK => ?_) AllReadyH.nil; rw [if_pos (by kernel_rfl)]; go_simp)
  refine (hdl.out _ A (NB.awake (hT.out.below hb6.out) ha6.out)).mono ?_
  rintro e w7 ⟨rfl, hb7⟩
  have h7 := Lib.hid (h6.out.below hb7)
  have ha7 := Lib.hid (ha6.out.below hb7)
  have hb7 := Lib.hid (below_step hb6.out hb7)
  go_simp
  (refine hK.out _ _ ⟨h7.out.c 0 _ rfl, h7.out.c 1 _ rfl, h7.out.c 2 _ rfl⟩ (fun hHeld => ?_); clear hK K; (try simp only [Act.put, List.setIfInBounds_toArray]); (try simp only [List.set_cons_zero, List.set_cons_succ]))
  (refine tkH 3 (v := ?_) ?_ ?_; rotate_left; focus (intro w' hSw; (try dsimp only at hSw); go_simp; (try with_reducible rfl)); (try simp only [Act.put, List.setIfInBounds_toArray, List.set_cons_zero, List.set_cons_succ]))
  (refine tkH 4 (v := ?_) ?_ ?_; rotate_left; focus (intro w' hSw; (try dsimp only at hSw); go_simp; (try with_reducible rfl)); (try simp only [Act.put, List.setIfInBounds_toArray, List.set_cons_zero, List.set_cons_succ]))
  (refine tkH 5 (v := ?_) ?_ ?_; rotate_left; focus (intro w' hSw; (try dsimp only at hSw); go_simp; (try with_reducible rfl)); (try simp only [Act.put, List.setIfInBounds_toArray, List.set_cons_zero, List.set_cons_succ]))
  (refine tkH 6 (v := ?_) ?_ ?_; rotate_left; focus (intro w' hSw; (try dsimp only at hSw); go_simp; (try with_reducible rfl)); (try simp only [Act.put, List.setIfInBounds_toArray, List.set_cons_zero, List.set_cons_succ]))
  (refine tkH 7 (v := ?_) ?_ ?_; rotate_left; focus (intro w' hSw; (try dsimp only at hSw); go_simp; (try with_reducible rfl)); (try simp only [Act.put, List.setIfInBounds_toArray, List.set_cons_zero, List.set_cons_succ]))
  refine wpAnyH_done (by kernel_rfl) ?_ _
  clear hHeld h5 h6 ha5 ha6
  go_wp2_with fail
  refine wp_region_held_drew (S := (fun w' => w'.cell? ⟨B, 0, none⟩ = some (.string ⟨#[110]⟩) ∧ w'.cell? ⟨B, 1, none⟩ = some (.int .i64 0) ∧ w'.cell? ⟨B, 2, none⟩ = some (.slice A 4 4))) (by kernel_rfl) ⟨h7.out.c 0 _ rfl, h7.out.c 1 _ rfl, h7.out.c 2 _ rfl⟩ (fun hHeld => ?_)
  (refine tkH 1 (v := ?_) ?_ ?_; rotate_left; focus (intro w' hSw; (try dsimp only at hSw); go_simp; (try with_reducible rfl)); (try simp only [Act.put, List.setIfInBounds_toArray, List.set_cons_zero, List.set_cons_succ]))
  (refine tkH 2 (v := ?_) ?_ ?_; rotate_left; focus (intro w' hSw; (try dsimp only at hSw); go_simp; (try with_reducible rfl)); (try simp only [Act.put, List.setIfInBounds_toArray, List.set_cons_zero, List.set_cons_succ]))
  (refine wpAnyH_ready (rs := [0]) (by decide +kernel) (by simp) ?_; refine AllReadyH.cons rfl (fun K hK => ?_) AllReadyH.nil; rw [if_pos (by kernel_rfl)]; go_simp)
  refine (Month_any _).mono ?_
  rintro e w8 ⟨rfl, hb8⟩
  have hb78 := below_of_drewN (n := 1) hb8
  have h8 := Lib.hid (h7.out.below hb78)
  have ha8 := Lib.hid (ha7.out.below hb78)
  have hb8 := Lib.hid (below_step hb7.out hb78)
  clear hb78
  go_simp
  (refine hK.out _ _ ⟨h8.out.c 0 _ rfl, h8.out.c 1 _ rfl, h8.out.c 2 _ rfl⟩ (fun hHeld => ?_); clear hK K; (try simp only [Act.put, List.setIfInBounds_toArray]); (try simp only [List.set_cons_zero, List.set_cons_succ]))
  (refine wpAnyH_ready (rs := [3]) (by decide +kernel) (by simp) ?_; refine AllReadyH.cons rfl (fun K hK => ?_) AllReadyH.nil; rw [if_pos (by kernel_rfl)]; go_simp)
  refine (her.out _ A (NB.awake (hT.out.below hb8.out) ha8.out)).mono ?_
  rintro e w9 ⟨rfl, hb9⟩
  have h9 := Lib.hid (h8.out.below hb9)
  have hb9 := Lib.hid (below_step hb8.out hb9)
  go_simp
  (refine hK.out _ _ ⟨h9.out.c 0 _ rfl, h9.out.c 1 _ rfl, h9.out.c 2 _ rfl⟩ (fun hHeld => ?_); clear hK K; (try simp only [Act.put, List.setIfInBounds_toArray]); (try simp only [List.set_cons_zero, List.set_cons_succ]))
  (refine tkH 4 (v := ?_) ?_ ?_; rotate_left; focus (intro w' hSw; (try dsimp only at hSw); go_simp; (try with_reducible rfl)); (try simp only [Act.put, List.setIfInBounds_toArray, List.set_cons_zero, List.set_cons_succ]))
  (refine tkH 5 (v := ?_) ?_ ?_; rotate_left; focus (intro w' hSw; (try dsimp only at hSw); go_simp; (try with_reducible rfl)); (try simp only [Act.put, List.setIfInBounds_toArray, List.set_cons_zero, List.set_cons_succ]))
  (refine tkH 6 (v := ?_) ?_ ?_; rotate_left; focus (intro w' hSw; (try dsimp only at hSw); go_simp; (try with_reducible rfl)); (try simp only [Act.put, List.setIfInBounds_toArray, List.set_cons_zero, List.set_cons_succ]))
  (refine tkH 7 (v := ?_) ?_ ?_; rotate_left; focus (intro w' hSw; (try dsimp only at hSw); go_simp; (try with_reducible rfl)); (try simp only [Act.put, List.setIfInBounds_toArray, List.set_cons_zero, List.set_cons_succ]))
  (refine tkH 8 (v := ?_) ?_ ?_; rotate_left; focus (intro w' hSw; (try dsimp only at hSw); go_simp; (try with_reducible rfl)); (try simp only [Act.put, List.setIfInBounds_toArray, List.set_cons_zero, List.set_cons_succ]))
  refine wpAnyH_done (by kernel_rfl) ?_ _
  clear hHeld
  go_wp2_with fail
  go_ret
  exact ⟨rfl, hb9.out⟩
end Go.Proofs.YtconnjkkgaapbaaGreatDoor
