/- The walks: Age, both. -/
import Derived.Test.YtoigamkldccnkaaDoorCalAge
namespace Go.Proofs.YtoigamkldccnkaaDoor
open Go Go.RowKit
def Cal.ageAgg (a b m : Int) : Value := .agg #[.int .i64 (m / 12), .int .i64 (m % 12), .int .i64 (b - (Cal.laterS a m).1)]
theorem Age_no (a b : Int) (h : a < 0 ∨ 200000 < a ∨ b < 0 ∨ 200000 < b) (w : World) :
    Calls Tryd.prog 58 #[.int .i64 a, .int .i64 b] w fun e w' => e = .returned (.tuple #[.agg #[.int .i64 0, .int .i64 0, .int .i64 0], .int .i64 2]) ∧ Below w.heap.size w w' := by
  by_cases ha : a < 0 ∨ 200000 < a
  · clear h
    go_enter Tryd.func58, Tryd.ntmps58
    go_wp2_with (first | (go_at_call 78; first | (refine (calls_in (within_any _ _ _ _) ?_ ?_).mono ?_; omega; omega; rintro e w' ⟨rfl, rfl⟩) | (refine (calls_out (within_any _ _ _ _) ?_).mono ?_; omega; rintro e w' ⟨rfl, rfl⟩) | (refine (within_any _ _ _ _).mono ?_; rintro e w' ⟨rfl, rfl⟩)) | (go_at_call 29; first | (refine (calls_in (Within_any _ _ _ _) ?_ ?_).mono ?_; omega; omega; rintro e w' ⟨rfl, rfl⟩) | (refine (calls_out (Within_any _ _ _ _) ?_).mono ?_; omega; rintro e w' ⟨rfl, rfl⟩) | (refine (Within_any _ _ _ _).mono ?_; rintro e w' ⟨rfl, rfl⟩)) | (go_at_call 75; first | (refine (calls_in (isDay_any _ _) ?_ ?_).mono ?_; omega; omega; rintro e w' ⟨rfl, rfl⟩) | (refine (calls_out (isDay_any _ _) ?_).mono ?_; omega; rintro e w' ⟨rfl, rfl⟩) | (refine (isDay_any _ _).mono ?_; rintro e w' ⟨rfl, rfl⟩)) | (go_at_call 32; first | (refine (calls_in (IsDay_any _ _) ?_ ?_).mono ?_; omega; omega; rintro e w' ⟨rfl, rfl⟩) | (refine (calls_out (IsDay_any _ _) ?_).mono ?_; omega; rintro e w' ⟨rfl, rfl⟩) | (refine (IsDay_any _ _).mono ?_; rintro e w' ⟨rfl, rfl⟩)) | (go_at_call 46; first | (refine (calls_in (IsYear_any _ _) ?_ ?_).mono ?_; omega; omega; rintro e w' ⟨rfl, rfl⟩) | (refine (calls_out (IsYear_any _ _) ?_).mono ?_; omega; rintro e w' ⟨rfl, rfl⟩) | (refine (IsYear_any _ _).mono ?_; rintro e w' ⟨rfl, rfl⟩)) | (go_at_call 25; first | (refine (calls_in (IsFull_any _ _) ?_ ?_).mono ?_; omega; omega; rintro e w' ⟨rfl, rfl⟩) | (refine (calls_out (IsFull_any _ _) ?_).mono ?_; omega; rintro e w' ⟨rfl, rfl⟩) | (refine (IsFull_any _ _).mono ?_; rintro e w' ⟨rfl, rfl⟩)) | (go_at_call 69; first | (refine (calls_in (isFull_any _ _) ?_ ?_).mono ?_; omega; omega; rintro e w' ⟨rfl, rfl⟩) | (refine (calls_out (isFull_any _ _) ?_).mono ?_; omega; rintro e w' ⟨rfl, rfl⟩) | (refine (isFull_any _ _).mono ?_; rintro e w' ⟨rfl, rfl⟩)))
    refine bodyPost_ret (v := .tuple #[.agg #[.int .i64 0, .int .i64 0, .int .i64 0], .int .i64 2]) (by simp [results, Tryd.results58, go_sem]) rfl ⟨rfl, ?_⟩
    (repeat (first | assumption | exact Below.refl _ _ | exact below_alloc _ _ | refine below_drewN ?_ _ | refine Below.drew ?_ | (refine Below.setCell ?_ ?_ _; rotate_left; focus (first | omega | (simp; done) | (simp; omega))) | (refine Below.alloc ?_ ?_ _; rotate_left; focus (first | omega | (simp; done) | (simp; omega)))))
  · have ha0 : 0 ≤ a := by omega
    have ha1 : a ≤ 200000 := by omega
    have hb : b < 0 ∨ 200000 < b := by omega
    clear h ha
    go_enter Tryd.func58, Tryd.ntmps58
    go_wp2_with (first | (go_at_call 78; first | (refine (calls_in (within_any _ _ _ _) ?_ ?_).mono ?_; omega; omega; rintro e w' ⟨rfl, rfl⟩) | (refine (calls_out (within_any _ _ _ _) ?_).mono ?_; omega; rintro e w' ⟨rfl, rfl⟩) | (refine (within_any _ _ _ _).mono ?_; rintro e w' ⟨rfl, rfl⟩)) | (go_at_call 29; first | (refine (calls_in (Within_any _ _ _ _) ?_ ?_).mono ?_; omega; omega; rintro e w' ⟨rfl, rfl⟩) | (refine (calls_out (Within_any _ _ _ _) ?_).mono ?_; omega; rintro e w' ⟨rfl, rfl⟩) | (refine (Within_any _ _ _ _).mono ?_; rintro e w' ⟨rfl, rfl⟩)) | (go_at_call 75; first | (refine (calls_in (isDay_any _ _) ?_ ?_).mono ?_; omega; omega; rintro e w' ⟨rfl, rfl⟩) | (refine (calls_out (isDay_any _ _) ?_).mono ?_; omega; rintro e w' ⟨rfl, rfl⟩) | (refine (isDay_any _ _).mono ?_; rintro e w' ⟨rfl, rfl⟩)) | (go_at_call 32; first | (refine (calls_in (IsDay_any _ _) ?_ ?_).mono ?_; omega; omega; rintro e w' ⟨rfl, rfl⟩) | (refine (calls_out (IsDay_any _ _) ?_).mono ?_; omega; rintro e w' ⟨rfl, rfl⟩) | (refine (IsDay_any _ _).mono ?_; rintro e w' ⟨rfl, rfl⟩)) | (go_at_call 46; first | (refine (calls_in (IsYear_any _ _) ?_ ?_).mono ?_; omega; omega; rintro e w' ⟨rfl, rfl⟩) | (refine (calls_out (IsYear_any _ _) ?_).mono ?_; omega; rintro e w' ⟨rfl, rfl⟩) | (refine (IsYear_any _ _).mono ?_; rintro e w' ⟨rfl, rfl⟩)) | (go_at_call 25; first | (refine (calls_in (IsFull_any _ _) ?_ ?_).mono ?_; omega; omega; rintro e w' ⟨rfl, rfl⟩) | (refine (calls_out (IsFull_any _ _) ?_).mono ?_; omega; rintro e w' ⟨rfl, rfl⟩) | (refine (IsFull_any _ _).mono ?_; rintro e w' ⟨rfl, rfl⟩)) | (go_at_call 69; first | (refine (calls_in (isFull_any _ _) ?_ ?_).mono ?_; omega; omega; rintro e w' ⟨rfl, rfl⟩) | (refine (calls_out (isFull_any _ _) ?_).mono ?_; omega; rintro e w' ⟨rfl, rfl⟩) | (refine (isFull_any _ _).mono ?_; rintro e w' ⟨rfl, rfl⟩)))
    refine bodyPost_ret (v := .tuple #[.agg #[.int .i64 0, .int .i64 0, .int .i64 0], .int .i64 2]) (by simp [results, Tryd.results58, go_sem]) rfl ⟨rfl, ?_⟩
    (repeat (first | assumption | exact Below.refl _ _ | exact below_alloc _ _ | refine below_drewN ?_ _ | refine Below.drew ?_ | (refine Below.setCell ?_ ?_ _; rotate_left; focus (first | omega | (simp; done) | (simp; omega))) | (refine Below.alloc ?_ ?_ _; rotate_left; focus (first | omega | (simp; done) | (simp; omega)))))
theorem Age_order (a b : Int) (h0 : 0 ≤ a) (h1 : a ≤ 200000) (h2 : 0 ≤ b) (h3 : b ≤ 200000) (h : b < a) (w : World) :
    Calls Tryd.prog 58 #[.int .i64 a, .int .i64 b] w fun e w' => e = .returned (.tuple #[.agg #[.int .i64 0, .int .i64 0, .int .i64 0], .int .i64 9]) ∧ Below w.heap.size w w' := by
  go_enter Tryd.func58, Tryd.ntmps58
  go_wp2_with (first | (go_at_call 78; first | (refine (calls_in (within_any _ _ _ _) ?_ ?_).mono ?_; omega; omega; rintro e w' ⟨rfl, rfl⟩) | (refine (calls_out (within_any _ _ _ _) ?_).mono ?_; omega; rintro e w' ⟨rfl, rfl⟩) | (refine (within_any _ _ _ _).mono ?_; rintro e w' ⟨rfl, rfl⟩)) | (go_at_call 29; first | (refine (calls_in (Within_any _ _ _ _) ?_ ?_).mono ?_; omega; omega; rintro e w' ⟨rfl, rfl⟩) | (refine (calls_out (Within_any _ _ _ _) ?_).mono ?_; omega; rintro e w' ⟨rfl, rfl⟩) | (refine (Within_any _ _ _ _).mono ?_; rintro e w' ⟨rfl, rfl⟩)) | (go_at_call 75; first | (refine (calls_in (isDay_any _ _) ?_ ?_).mono ?_; omega; omega; rintro e w' ⟨rfl, rfl⟩) | (refine (calls_out (isDay_any _ _) ?_).mono ?_; omega; rintro e w' ⟨rfl, rfl⟩) | (refine (isDay_any _ _).mono ?_; rintro e w' ⟨rfl, rfl⟩)) | (go_at_call 32; first | (refine (calls_in (IsDay_any _ _) ?_ ?_).mono ?_; omega; omega; rintro e w' ⟨rfl, rfl⟩) | (refine (calls_out (IsDay_any _ _) ?_).mono ?_; omega; rintro e w' ⟨rfl, rfl⟩) | (refine (IsDay_any _ _).mono ?_; rintro e w' ⟨rfl, rfl⟩)) | (go_at_call 46; first | (refine (calls_in (IsYear_any _ _) ?_ ?_).mono ?_; omega; omega; rintro e w' ⟨rfl, rfl⟩) | (refine (calls_out (IsYear_any _ _) ?_).mono ?_; omega; rintro e w' ⟨rfl, rfl⟩) | (refine (IsYear_any _ _).mono ?_; rintro e w' ⟨rfl, rfl⟩)) | (go_at_call 25; first | (refine (calls_in (IsFull_any _ _) ?_ ?_).mono ?_; omega; omega; rintro e w' ⟨rfl, rfl⟩) | (refine (calls_out (IsFull_any _ _) ?_).mono ?_; omega; rintro e w' ⟨rfl, rfl⟩) | (refine (IsFull_any _ _).mono ?_; rintro e w' ⟨rfl, rfl⟩)) | (go_at_call 69; first | (refine (calls_in (isFull_any _ _) ?_ ?_).mono ?_; omega; omega; rintro e w' ⟨rfl, rfl⟩) | (refine (calls_out (isFull_any _ _) ?_).mono ?_; omega; rintro e w' ⟨rfl, rfl⟩) | (refine (isFull_any _ _).mono ?_; rintro e w' ⟨rfl, rfl⟩)))
  refine bodyPost_ret (v := .tuple #[.agg #[.int .i64 0, .int .i64 0, .int .i64 0], .int .i64 9]) (by simp [results, Tryd.results58, go_sem]) rfl ⟨rfl, ?_⟩
  (repeat (first | assumption | exact Below.refl _ _ | exact below_alloc _ _ | refine below_drewN ?_ _ | refine Below.drew ?_ | (refine Below.setCell ?_ ?_ _; rotate_left; focus (first | omega | (simp; done) | (simp; omega))) | (refine Below.alloc ?_ ?_ _; rotate_left; focus (first | omega | (simp; done) | (simp; omega)))))
theorem Cal.months_idx (a b : Int) : 12 * (Cal.dY b - Cal.dY a) + Cal.dM b - Cal.dM a = Cal.idx b - Cal.idx a := by unfold Cal.idx; omega
def Cal.AgePost (w : World) (a b : Int) (e : Ending) (w' : World) : Prop := e = .returned (.tuple #[Cal.ageAgg a b (Cal.ageM a b), .int .i64 0]) ∧ Below w.heap.size w w'
set_option maxRecDepth 100000 in
set_option maxHeartbeats 2000000 in
theorem Age_any (a b : Int) (h0 : 0 ≤ a) (h : a ≤ b) (h1 : b ≤ 200000) (w : World) (hT : Tab w) :
    Calls Tryd.prog 58 #[.int .i64 a, .int .i64 b] w (Cal.AgePost w a b) := by
  have hda := fun w1 (h : Below w.heap.size w w1) => dateOf_any a h0 (by omega) w1 (hT.below h)
  have hdb := fun w1 (h : Below w.heap.size w w1) => dateOf_any b (by omega) h1 w1 (hT.below h)
  have hidx := Cal.months_idx a b
  have hi0 := Cal.idx_mono h0 h h1
  have ya := Cal.dY_bd a h0 (by omega)
  have yb := Cal.dY_bd b (by omega) h1
  have ma := Cal.date_spec a h0 (by omega)
  have mb := Cal.date_spec b (by omega) (by omega)
  obtain ⟨ma1, ma2, -, -, -⟩ := ma
  obtain ⟨mb1, mb2, -, -, -⟩ := mb
  have hl0 := fun w1 (h : Below w.heap.size w w1) => later_any a (12 * (Cal.dY b - Cal.dY a) + Cal.dM b - Cal.dM a) h0 (by omega) (by omega) (by omega) w1 (hT.below h)
  have hl1 := fun w1 (h : Below w.heap.size w w1) => later_any a (12 * (Cal.dY b - Cal.dY a) + Cal.dM b - Cal.dM a - 1) h0 (by omega) (by omega) (by omega) w1 (hT.below h)
  have hage : Cal.ageM a b = if Cal.Good a b (12 * (Cal.dY b - Cal.dY a) + Cal.dM b - Cal.dM a) then (12 * (Cal.dY b - Cal.dY a) + Cal.dM b - Cal.dM a) else (12 * (Cal.dY b - Cal.dY a) + Cal.dM b - Cal.dM a) - 1 := by rw [hidx]; rfl
  have hgood := Cal.age_good h0 h h1
  have hnn := Cal.age_nonneg h0 h h1
  have hnl := Cal.age_le h0 h h1
  clear hidx hi0
  have hda := Lib.hid hda
  have hdb := Lib.hid hdb
  generalize hM : 12 * (Cal.dY b - Cal.dY a) + Cal.dM b - Cal.dM a = M at hl0 hl1 hage
  have hMz := Lib.hid hM
  clear hM
  rcases hq0 : Cal.laterS a M with ⟨x0, k0⟩
  rw [hq0] at hl0
  rcases hq1 : Cal.laterS a (M - 1) with ⟨x1, k1⟩
  rw [hq1] at hl1
  have hx0 := Cal.laterS_nonneg h0 (show a ≤ 200000 by omega) M
  have hx1 := Cal.laterS_nonneg h0 (show a ≤ 200000 by omega) (M - 1)
  rw [hq0] at hx0
  rw [hq1] at hx1
  simp only at hx0 hx1
  by_cases hg : Cal.Good a b M
  · rw [if_pos hg] at hage
    rw [hage] at hnn hnl
    obtain ⟨g1, g2⟩ := hg
    rw [hq0] at g1 g2
    simp only at g1 g2 hl0
    subst g1
    have hfin : Hid (Cal.ageAgg a b (Cal.ageM a b) = .agg #[.int .i64 (M / 12), .int .i64 (M % 12), .int .i64 (b - x0)]) := by show _ = _; unfold Cal.ageAgg; rw [hage, hq0]
    have hl0 := Lib.hid hl0
    clear hage hq0 hq1 hl1 hgood
    go_enter Tryd.func58, Tryd.ntmps58
    go_wp2_with (first | (go_at_call 78; first | (refine (calls_in (within_any _ _ _ _) ?_ ?_).mono ?_; omega; omega; rintro e w' ⟨rfl, rfl⟩) | (refine (calls_out (within_any _ _ _ _) ?_).mono ?_; omega; rintro e w' ⟨rfl, rfl⟩) | (refine (within_any _ _ _ _).mono ?_; rintro e w' ⟨rfl, rfl⟩)) | (go_at_call 29; first | (refine (calls_in (Within_any _ _ _ _) ?_ ?_).mono ?_; omega; omega; rintro e w' ⟨rfl, rfl⟩) | (refine (calls_out (Within_any _ _ _ _) ?_).mono ?_; omega; rintro e w' ⟨rfl, rfl⟩) | (refine (Within_any _ _ _ _).mono ?_; rintro e w' ⟨rfl, rfl⟩)) | (go_at_call 75; first | (refine (calls_in (isDay_any _ _) ?_ ?_).mono ?_; omega; omega; rintro e w' ⟨rfl, rfl⟩) | (refine (calls_out (isDay_any _ _) ?_).mono ?_; omega; rintro e w' ⟨rfl, rfl⟩) | (refine (isDay_any _ _).mono ?_; rintro e w' ⟨rfl, rfl⟩)) | (go_at_call 32; first | (refine (calls_in (IsDay_any _ _) ?_ ?_).mono ?_; omega; omega; rintro e w' ⟨rfl, rfl⟩) | (refine (calls_out (IsDay_any _ _) ?_).mono ?_; omega; rintro e w' ⟨rfl, rfl⟩) | (refine (IsDay_any _ _).mono ?_; rintro e w' ⟨rfl, rfl⟩)) | (go_at_call 46; first | (refine (calls_in (IsYear_any _ _) ?_ ?_).mono ?_; omega; omega; rintro e w' ⟨rfl, rfl⟩) | (refine (calls_out (IsYear_any _ _) ?_).mono ?_; omega; rintro e w' ⟨rfl, rfl⟩) | (refine (IsYear_any _ _).mono ?_; rintro e w' ⟨rfl, rfl⟩)) | (go_at_call 25; first | (refine (calls_in (IsFull_any _ _) ?_ ?_).mono ?_; omega; omega; rintro e w' ⟨rfl, rfl⟩) | (refine (calls_out (IsFull_any _ _) ?_).mono ?_; omega; rintro e w' ⟨rfl, rfl⟩) | (refine (IsFull_any _ _).mono ?_; rintro e w' ⟨rfl, rfl⟩)) | (go_at_call 69; first | (refine (calls_in (isFull_any _ _) ?_ ?_).mono ?_; omega; omega; rintro e w' ⟨rfl, rfl⟩) | (refine (calls_out (isFull_any _ _) ?_).mono ?_; omega; rintro e w' ⟨rfl, rfl⟩) | (refine (isFull_any _ _).mono ?_; rintro e w' ⟨rfl, rfl⟩)))
    refine (hda.out _ (by (repeat (first | assumption | exact Below.refl _ _ | exact below_alloc _ _ | refine below_drewN ?_ _ | refine Below.drew ?_ | (refine Below.setCell ?_ ?_ _; rotate_left; focus (first | omega | (simp; done) | (simp; omega))) | (refine Below.alloc ?_ ?_ _; rotate_left; focus (first | omega | (simp; done) | (simp; omega))))))).mono ?_
    rintro e w1 ⟨rfl, hb1⟩
    have hbw1 := Lib.hid hb1
    have hb1' := below_step (below_alloc w _) hb1
    have hbs1 := hb1'.size
    go_wp2_with fail
    refine (hdb.out _ hb1').mono ?_
    rintro e w2 ⟨rfl, hb2⟩
    have hbw2 := Lib.hid (below_step hbw1.out hb2)
    have hb2' := below_step hb1' hb2
    have hbs2 := hb2'.size
    clear hb1 hb1' hb2
    go_wp2_with fail
    rw [hMz.out]
    refine (hl0.out _ (by (repeat (first | assumption | exact Below.refl _ _ | exact below_alloc _ _ | refine below_drewN ?_ _ | refine Below.drew ?_ | (refine Below.setCell ?_ ?_ _; rotate_left; focus (first | omega | (simp; done) | (simp; omega))) | (refine Below.alloc ?_ ?_ _; rotate_left; focus (first | omega | (simp; done) | (simp; omega))))))).mono ?_
    rintro e w3 ⟨rfl, hb3⟩
    have hbw3 := Lib.hid (below_step (below_step (below_step hbw2.out (below_alloc _ _)) (below_alloc _ _)) hb3)
    clear hb3 hb2'
    go_wp2_with fail
    go_loopw [8, 9, 10] (fun m t k wr => m = .int .i64 M ∧ t = .int .i64 x0 ∧ k = .bool true ∧ Hid (Below (w.alloc (.cells #[.int .i64 0, .int .i64 0, .int .i64 0] 55)).heap.size (w.alloc (.cells #[.int .i64 0, .int .i64 0, .int .i64 0] 55)) wr)) (fun _ _ _ _ => 0)
    case atStart => exact ⟨rfl, rfl, rfl, hbw3⟩
    case round =>
      obtain ⟨rfl, rfl, rfl, hbr⟩ := hrel
      clear hbw3 hbw2 hbw1
      obtain ⟨hc, hf⟩ := bcell hbr.out
      go_wp2_with fail
      refine bodyPost_ret (v := .tuple #[.agg #[.int .i64 (M / 12), .int .i64 (M % 12), .int .i64 (b - x0)], .int .i64 0]) (by simp [results, Tryd.results58, go_sem, hc]) rfl ⟨by rw [hfin.out], ?_⟩
      have hbs := (below_step (below_alloc w _) hbr.out).size
      have hbq := below_step (below_alloc w _) hbr.out
      (repeat (first | assumption | exact Below.refl _ _ | exact below_alloc _ _ | refine below_drewN ?_ _ | refine Below.drew ?_ | (refine Below.setCell ?_ ?_ _; rotate_left; focus (first | omega | (simp; done) | (simp; omega))) | (refine Below.alloc ?_ ?_ _; rotate_left; focus (first | omega | (simp; done) | (simp; omega)))))
  · rw [if_neg hg] at hage
    rw [hage] at hnn hnl hgood
    obtain ⟨g1, g2⟩ := hgood
    rw [hq1] at g1 g2
    simp only at g1 g2 hl0 hl1
    subst g1
    have hfin : Hid (Cal.ageAgg a b (Cal.ageM a b) = .agg #[.int .i64 ((M - 1) / 12), .int .i64 ((M - 1) % 12), .int .i64 (b - x1)]) := by show _ = _; unfold Cal.ageAgg; rw [hage, hq1]
    have hl0 := Lib.hid hl0
    have hl1 := Lib.hid hl1
    have hng : k0 = false ∨ b < x0 := by
      cases k0
      · exact .inl rfl
      · right; apply Classical.byContradiction; intro hn; apply hg; unfold Cal.Good; rw [hq0]; exact ⟨rfl, by simp only; omega⟩
    clear hage hq0 hq1 hg
    have hmain : k0 = false ∨ (k0 = true ∧ b < x0) := by
      cases k0
      · exact .inl rfl
      · rcases hng with h | h
        · cases h
        · exact .inr ⟨rfl, h⟩
    clear hng
    rcases hmain with rfl | ⟨rfl, hbx⟩
    all_goals
      go_enter Tryd.func58, Tryd.ntmps58
      go_wp2_with (first | (go_at_call 78; first | (refine (calls_in (within_any _ _ _ _) ?_ ?_).mono ?_; omega; omega; rintro e w' ⟨rfl, rfl⟩) | (refine (calls_out (within_any _ _ _ _) ?_).mono ?_; omega; rintro e w' ⟨rfl, rfl⟩) | (refine (within_any _ _ _ _).mono ?_; rintro e w' ⟨rfl, rfl⟩)) | (go_at_call 29; first | (refine (calls_in (Within_any _ _ _ _) ?_ ?_).mono ?_; omega; omega; rintro e w' ⟨rfl, rfl⟩) | (refine (calls_out (Within_any _ _ _ _) ?_).mono ?_; omega; rintro e w' ⟨rfl, rfl⟩) | (refine (Within_any _ _ _ _).mono ?_; rintro e w' ⟨rfl, rfl⟩)) | (go_at_call 75; first | (refine (calls_in (isDay_any _ _) ?_ ?_).mono ?_; omega; omega; rintro e w' ⟨rfl, rfl⟩) | (refine (calls_out (isDay_any _ _) ?_).mono ?_; omega; rintro e w' ⟨rfl, rfl⟩) | (refine (isDay_any _ _).mono ?_; rintro e w' ⟨rfl, rfl⟩)) | (go_at_call 32; first | (refine (calls_in (IsDay_any _ _) ?_ ?_).mono ?_; omega; omega; rintro e w' ⟨rfl, rfl⟩) | (refine (calls_out (IsDay_any _ _) ?_).mono ?_; omega; rintro e w' ⟨rfl, rfl⟩) | (refine (IsDay_any _ _).mono ?_; rintro e w' ⟨rfl, rfl⟩)) | (go_at_call 46; first | (refine (calls_in (IsYear_any _ _) ?_ ?_).mono ?_; omega; omega; rintro e w' ⟨rfl, rfl⟩) | (refine (calls_out (IsYear_any _ _) ?_).mono ?_; omega; rintro e w' ⟨rfl, rfl⟩) | (refine (IsYear_any _ _).mono ?_; rintro e w' ⟨rfl, rfl⟩)) | (go_at_call 25; first | (refine (calls_in (IsFull_any _ _) ?_ ?_).mono ?_; omega; omega; rintro e w' ⟨rfl, rfl⟩) | (refine (calls_out (IsFull_any _ _) ?_).mono ?_; omega; rintro e w' ⟨rfl, rfl⟩) | (refine (IsFull_any _ _).mono ?_; rintro e w' ⟨rfl, rfl⟩)) | (go_at_call 69; first | (refine (calls_in (isFull_any _ _) ?_ ?_).mono ?_; omega; omega; rintro e w' ⟨rfl, rfl⟩) | (refine (calls_out (isFull_any _ _) ?_).mono ?_; omega; rintro e w' ⟨rfl, rfl⟩) | (refine (isFull_any _ _).mono ?_; rintro e w' ⟨rfl, rfl⟩)))
      refine (hda.out _ (by (repeat (first | assumption | exact Below.refl _ _ | exact below_alloc _ _ | refine below_drewN ?_ _ | refine Below.drew ?_ | (refine Below.setCell ?_ ?_ _; rotate_left; focus (first | omega | (simp; done) | (simp; omega))) | (refine Below.alloc ?_ ?_ _; rotate_left; focus (first | omega | (simp; done) | (simp; omega))))))).mono ?_
      rintro e w1 ⟨rfl, hb1⟩
      have hbw1 := Lib.hid hb1
      have hb1' := below_step (below_alloc w _) hb1
      have hbs1 := hb1'.size
      go_wp2_with fail
      refine (hdb.out _ hb1').mono ?_
      rintro e w2 ⟨rfl, hb2⟩
      have hbw2 := Lib.hid (below_step hbw1.out hb2)
      have hb2' := below_step hb1' hb2
      have hbs2 := hb2'.size
      clear hb1 hb1' hb2
      go_wp2_with fail
      rw [hMz.out]
      refine (hl0.out _ (by (repeat (first | assumption | exact Below.refl _ _ | exact below_alloc _ _ | refine below_drewN ?_ _ | refine Below.drew ?_ | (refine Below.setCell ?_ ?_ _; rotate_left; focus (first | omega | (simp; done) | (simp; omega))) | (refine Below.alloc ?_ ?_ _; rotate_left; focus (first | omega | (simp; done) | (simp; omega))))))).mono ?_
      rintro e w3 ⟨rfl, hb3⟩
      have hbw3 := Lib.hid (below_step (below_step (below_step hbw2.out (below_alloc _ _)) (below_alloc _ _)) hb3)
      clear hb3 hb2'
      go_wp2_with fail
      go_loopw [8, 9, 10] (fun m t k wr => ((m = .int .i64 M ∧ t = .int .i64 x0 ∧ k = _) ∨ (m = .int .i64 (M - 1) ∧ t = .int .i64 x1 ∧ k = .bool true)) ∧ Hid (Below (w.alloc (.cells #[.int .i64 0, .int .i64 0, .int .i64 0] 55)).heap.size (w.alloc (.cells #[.int .i64 0, .int .i64 0, .int .i64 0] 55)) wr)) (fun m _ _ _ => (intOf m - (M - 1)).toNat)
      case atStart => exact ⟨.inl ⟨rfl, rfl, rfl⟩, hbw3⟩
      case round =>
        obtain ⟨⟨rfl, rfl, rfl⟩ | ⟨rfl, rfl, rfl⟩, hbr⟩ := hrel
        · clear hbw3 hbw2 hbw1
          have hbq := below_step (below_alloc w _) hbr.out
          go_wp2_with fail
          refine (hl1.out _ hbq).mono ?_
          rintro e w4 ⟨rfl, hb4⟩
          have hbw4 := Lib.hid (below_step hbr.out hb4)
          clear hb4 hbq
          go_wp2_with fail
          go_roundw
          case rel => exact ⟨.inr ⟨rfl, rfl, rfl⟩, hbw4⟩
          case measure => simp [intOf]; omega
        · clear hbw3 hbw2 hbw1
          obtain ⟨hc, hf⟩ := bcell hbr.out
          go_wp2_with fail
          refine bodyPost_ret (v := .tuple #[.agg #[.int .i64 ((M - 1) / 12), .int .i64 ((M - 1) % 12), .int .i64 (b - x1)], .int .i64 0]) (by simp [results, Tryd.results58, go_sem, hc]) rfl ⟨by rw [hfin.out], ?_⟩
          have hbs := (below_step (below_alloc w _) hbr.out).size
          have hbq := below_step (below_alloc w _) hbr.out
          (repeat (first | assumption | exact Below.refl _ _ | exact below_alloc _ _ | refine below_drewN ?_ _ | refine Below.drew ?_ | (refine Below.setCell ?_ ?_ _; rotate_left; focus (first | omega | (simp; done) | (simp; omega))) | (refine Below.alloc ?_ ?_ _; rotate_left; focus (first | omega | (simp; done) | (simp; omega)))))

def Cal.AgePostR (w : World) (a b : Int) (e : Ending) (w' : World) : Prop := e = .returned (Cal.ageAgg a b (Cal.ageM a b)) ∧ Below w.heap.size w w'
set_option maxRecDepth 100000 in
set_option maxHeartbeats 2000000 in
theorem AgeR_any (a b : Int) (h0 : 0 ≤ a) (h : a ≤ b) (h1 : b ≤ 200000) (w : World) :
    Calls Tryd.prog 59 #[.int .i64 a, .int .i64 b] w (Cal.AgePostR w a b) := by
  have hl := Lib.hid (fun m (h2 : 0 ≤ m) (h3 : m ≤ 6600) w1 => AddMonthsR_any a (m + 1) h0 (by omega) (by omega) (by omega) w1)
  have hz := Cal.good_zero h0 h h1
  obtain ⟨M, hM⟩ : ∃ M, Hid (Cal.ageM a b = M) := ⟨_, rfl⟩
  have hlt := Lib.hid (fun m (h2 : 0 ≤ m) (h3 : m < M) => Cal.age_lt h0 h h1 h2 (by rw [hM.out]; exact h3))
  have hnx := Cal.age_next h0 h h1
  have hnn := Cal.age_nonneg h0 h h1
  have hnl := Cal.age_le h0 h h1
  have hgd := (Cal.age_good h0 h h1).2
  rw [hM.out] at hnx hnn hnl hgd
  have hnx := Lib.hid hnx
  have hgd := Lib.hid hgd
  have hge := Lib.hid (fun m => Cal.laterS_nonneg h0 (show a ≤ 200000 by omega) m)
  have hst : Hid (a = (Cal.laterS a 0).1) := by show _ = _; rw [hz]
  clear hz
  go_enter Tryd.func59, Tryd.ntmps59
  go_wp2_with fail
  go_loopw [5, 6] (fun m t wr => ∃ q : Int, m = .int .i64 q ∧ 0 ≤ q ∧ q ≤ M ∧ ∃ x, t = .int .i64 x ∧ Hid (x = (Cal.laterS a q).1) ∧ Hid (Below (w.alloc (.cells #[.int .i64 0, .int .i64 0, .int .i64 0] 55)).heap.size (w.alloc (.cells #[.int .i64 0, .int .i64 0, .int .i64 0] 55)) wr)) (fun m _ _ => (M - intOf m).toNat)
  case atStart => exact ⟨0, rfl, by omega, hnn, a, rfl, hst, Below.refl _ _⟩
  case round =>
    obtain ⟨q, rfl, q0, q1, x, rfl, hx, hbr⟩ := hrel
    have hc := hl.out q q0 (by omega) wr
    have hx0 : 0 ≤ x := by rw [hx.out]; exact hge.out q
    by_cases hq : q < M
    · have hg := hlt.out q q0 hq
      obtain ⟨g1, g2⟩ := hg
      rcases hqq : Cal.laterS a (q + 1) with ⟨y, k⟩
      rw [hqq] at hc g1 g2
      simp only at g1 g2 hc
      subst g1
      have hc := Lib.hid hc
      have hqz : Hid (y = (Cal.laterS a (q + 1)).1) := by show _ = _; rw [hqq]
      clear hqq
      go_wp2_with fail
      refine hc.out.mono ?_
      clear hc
      rintro e w1 ⟨rfl, hb1⟩
      have hbw := Lib.hid (below_step hbr.out hb1)
      clear hb1
      go_wp2_with fail
      go_roundw
      case rel => exact ⟨q + 1, rfl, by omega, by omega, y, rfl, hqz, hbw⟩
      case measure => simp [intOf]; omega
    · obtain rfl : q = M := by omega
      have hg := hnx.out
      unfold Cal.Good at hg
      rcases hqq : Cal.laterS a (q + 1) with ⟨y, k⟩
      rw [hqq] at hc hg
      simp only at hc hg
      have hxb : x ≤ b := by rw [hx.out]; exact hgd.out
      have hmain : k = false ∨ (k = true ∧ b < y) := by
        cases k
        · exact .inl rfl
        · exact .inr ⟨rfl, by apply Classical.byContradiction; intro hn; exact hg ⟨rfl, by omega⟩⟩
      have hfin2 : Hid (Cal.ageAgg a b (Cal.ageM a b) = .agg #[.int .i64 (q / 12), .int .i64 (q % 12), .int .i64 (b - x)]) := by show _ = _; rw [hx.out, hM.out]; rfl
      clear hqq hg
      have hc := Lib.hid hc
      rcases hmain with rfl | ⟨rfl, hby⟩
      all_goals
        go_wp2_with fail
        refine hc.out.mono ?_
        clear hc
        rintro e w1 ⟨rfl, hb1⟩
        have hbw := Lib.hid (below_step hbr.out hb1)
        clear hb1
        obtain ⟨hc1, hf1⟩ := bcell hbw.out
        go_wp2_with fail
        refine bodyPost_ret (v := .agg #[.int .i64 (q / 12), .int .i64 (q % 12), .int .i64 (b - x)]) (by simp [results, Tryd.results59, go_sem, hc1]) rfl ⟨?_, ?_⟩
        · rw [hfin2.out]
        · have hbs := (below_step (below_alloc w _) hbw.out).size
          have hbq := below_step (below_alloc w _) hbw.out
          (repeat (first | assumption | exact Below.refl _ _ | exact below_alloc _ _ | refine below_drewN ?_ _ | refine Below.drew ?_ | (refine Below.setCell ?_ ?_ _; rotate_left; focus (first | omega | (simp; done) | (simp; omega))) | (refine Below.alloc ?_ ?_ _; rotate_left; focus (first | omega | (simp; done) | (simp; omega)))))
end Go.Proofs.YtoigamkldccnkaaDoor
