/- Chapter 8 and what it rests on: definitions and walks, part 22. -/
import Derived.Test.YtbinoelbjlgjkaaDoorC21
import Derived.Deep.RegionHeld3
import Derived.Test.YtbinoelbjlgjkaaDoorC09
namespace Go.Proofs.YtbinoelbjlgjkaaDoor
open Go Go.RowKit
/-- A boxed provision. -/
structure ProvAt (w : World) (B : Nat) (p : Prov) : Prop where
  c0 : w.cell? ⟨B, 0, none⟩ = some (.string p.name)
  c1 : w.cell? ⟨B, 1, none⟩ = some (.int .i64 p.value)
  c2 : w.cell? ⟨B, 2, none⟩ = some (.int .i64 p.fr)
  c3 : w.cell? ⟨B, 3, none⟩ = some (.int .i64 p.en)
  c4 : w.cell? ⟨B, 4, none⟩ = some (.bool p.repeal)
  lt : B < w.heap.size
theorem ProvAt.below {w w' : World} {B : Nat} {p : Prov} (h : ProvAt w B p) (hb : Below w.heap.size w w') : ProvAt w' B p :=
  ⟨(hb.cell (p := ⟨B, 0, none⟩) h.lt).trans h.c0, (hb.cell (p := ⟨B, 1, none⟩) h.lt).trans h.c1, (hb.cell (p := ⟨B, 2, none⟩) h.lt).trans h.c2, (hb.cell (p := ⟨B, 3, none⟩) h.lt).trans h.c3, (hb.cell (p := ⟨B, 4, none⟩) h.lt).trans h.c4, Nat.lt_of_lt_of_le h.lt hb.size⟩
theorem ProvAt.all {w : World} {B : Nat} {p : Prov} (h : ProvAt w B p) : w.cell? ⟨B, 0, none⟩ = some (.string p.name) ∧ w.cell? ⟨B, 1, none⟩ = some (.int .i64 p.value) ∧ w.cell? ⟨B, 2, none⟩ = some (.int .i64 p.fr) ∧ w.cell? ⟨B, 3, none⟩ = some (.int .i64 p.en) ∧ w.cell? ⟨B, 4, none⟩ = some (.bool p.repeal) := ⟨h.c0, h.c1, h.c2, h.c3, h.c4⟩
theorem ProvAt.new (w : World) (p : Prov) (t : TypeId) : ProvAt (w.alloc (.cells #[.string p.name, .int .i64 p.value, .int .i64 p.fr, .int .i64 p.en, .bool p.repeal] t)) w.heap.size p := ⟨by simp, by simp, by simp, by simp, by simp, by simp⟩
def Cal.nextErr (l : List Prov) (p : Prov) : Int :=
  if Cal.provsErr l = 0 then (if Cal.provsErr (l ++ [p]) = 0 then (if p.repeal = true ∧ (Cal.valOf l p.name p.fr p.en).2 = false then 6 else 0) else Cal.provsErr (l ++ [p])) else Cal.provsErr l
def Cal.nextL (l : List Prov) (p : Prov) : List Prov := if Cal.nextErr l p = 0 then l ++ [p] else []
def NextPost (w : World) (l : List Prov) (p : Prov) (e : Ending) (w' : World) : Prop :=
  ∃ A c, e = .returned (.tuple #[.slice A (Cal.nextL l p).length c, .int .i64 (Cal.nextErr l p)]) ∧ Provs w' A (Cal.nextL l p) ∧ Below w.heap.size w w'
theorem Cal.provsErr_le {l : List Prov} (h : Cal.provsErr l = 0) : l.length ≤ 200 := by
  unfold Cal.provsErr at h; split at h <;> omega
theorem nextPost_err {w w' : World} {l : List Prov} {p : Prov} {r : Int} (h : Cal.nextErr l p = r) (hr : r ≠ 0) (hb : Below w.heap.size w w') : NextPost w l p (.returned (.tuple #[.slice none 0 0, .int .i64 r])) w' := by
  have hL : Cal.nextL l p = [] := by unfold Cal.nextL; rw [if_neg (by rw [h]; exact hr)]
  exact ⟨none, 0, by rw [hL, h]; rfl, by rw [hL]; exact ⟨RowsAt.nil _ _ _, by simp, fun k p h => by simp at h⟩, hb⟩
theorem names_snoc {l : List Prov} {p : Prov} (h : ∀ (k : Nat) q, l[k]? = some q → q.name.size ≤ maxLen) (hp : p.name.size ≤ maxLen) : ∀ (k : Nat) q, (l ++ [p])[k]? = some q → q.name.size ≤ maxLen := fun k q hq => by
  rw [List.getElem?_append] at hq
  split at hq
  · exact h k q hq
  · have : q = p := by
      have := List.mem_of_getElem? hq
      simpa using this
    rw [this]; exact hp
theorem field_dec1 (v : Int) (b : Bool) (w : World) : (Instr.field 52 (.agg #[.int .i64 v, .bool b]) 1).run Tryd.prog w = .ok (.bool b) w := by kernel_rfl
set_option maxRecDepth 100000 in
set_option maxHeartbeats 2000000 in
theorem Next_any (A : Option Addr) (c : Nat) (l : List Prov) (p : Prov) (w : World) (hl : Provs w A l) (hp : p.name.size ≤ maxLen) :
    Calls Tryd.prog 7 #[.slice A l.length c, .agg #[.string p.name, .int .i64 p.value, .int .i64 p.fr, .int .i64 p.en, .bool p.repeal]] w (NextPost w l p) := by
  have hnew := Lib.hid (ProvAt.new w p 24)
  have hl' := Lib.hid (fun w1 (h : Below w.heap.size w w1) => hl.below h)
  have hba := Lib.hid (below_alloc w (.cells #[.string p.name, .int .i64 p.value, .int .i64 p.fr, .int .i64 p.en, .bool p.repeal] 24))
  have hnm := Lib.hid (names_snoc hl.names hp)
  clear hl
  by_cases h0 : Cal.provsErr l = 0
  · have h0z := Lib.hid h0
    have h1 : (Cal.provsErr l != 0) = false := by simpa using h0
    have hs := Cal.provsErr_le h0
    clear h0
    obtain ⟨l2, hl2⟩ : ∃ l2, Hid (l2 = l ++ [p]) := ⟨_, rfl⟩
    by_cases h2 : Cal.provsErr l2 = 0
    · have h2z := Lib.hid h2
      have h3 : (Cal.provsErr l2 != 0) = false := by simpa using h2
      clear h2
      rcases (Bool.eq_false_or_eq_true p.repeal).symm with hr | hr
      · have hrz := Lib.hid hr
        have hE : Hid (Cal.nextErr l p = 0) := by show _ = _; unfold Cal.nextErr; rw [← hl2.out]; rw [if_pos h0z.out, if_pos h2z.out, if_neg (by rw [hr]; simp)]
        have hL : Hid (Cal.nextL l p = l2) := by show _ = _; unfold Cal.nextL; rw [← hl2.out]; rw [if_pos hE.out]
        clear hr
        go_enter Tryd.func7, Tryd.ntmps7
        go_wp2_with (go_at_call 14; refine (CheckProvisions_any _ _ l _ (hl'.out _ hba.out)).mono ?_; rintro e w1 ⟨rfl, hb1⟩)
        have hx1 := hnew.out.below hb1
        have hbw := Lib.hid (below_step hba.out hb1)
        clear hb1
        go_region_held3 (fun w' => w'.cell? ⟨w.heap.size, 0, none⟩ = some (.string p.name) ∧ w'.cell? ⟨w.heap.size, 1, none⟩ = some (.int .i64 p.value) ∧ w'.cell? ⟨w.heap.size, 2, none⟩ = some (.int .i64 p.fr) ∧ w'.cell? ⟨w.heap.size, 3, none⟩ = some (.int .i64 p.en) ∧ w'.cell? ⟨w.heap.size, 4, none⟩ = some (.bool p.repeal)) (first | exact hx1.all | exact hx2.all | exact hx3.all | exact (hx2.below (below_alloc _ _)).all | exact (hx1.below (below_alloc _ _)).all | fail) (first
          | (go_at_call 15; refine (Clone_any A c l _ (hl'.out _ (by have hbw' := hbw.out; have hbs := hbw'.size; exact blw)) (by omega)).mono ?_; rintro e w2 ⟨v, rfl, hown, hb2⟩; first | (have hx2 := hx1.below (below_of_drewN (n := 1) hb2)) | (have hx2 := hx1.below (below_step (below_alloc _ _) (below_of_drewN (n := 1) hb2))))
          | (refine step_append_rows elemProv (by rfl) _ _ (by rfl) (by rfl) (by rfl) (hown.below (below_alloc _ _)) (rowsAt_new _ p.cells _) rfl (provCells_wid [p]) (provCells_one [p]) (by simp; omega) (by decide) (by have := hb2.size; simp at this ⊢; omega) ?_; intro v' w3 hown3 hg3 hob3; have hb13 : Below w1.heap.size w1 w3 := ((below_of_drewN (n := 1) hb2).alloc hb2.size _).trans (grown_below hg3 (fun g e => (hown.lt g e).1) (by have := hb2.size; simp at this ⊢; omega)); have hx3 := hx1.below hb13)
          | (refine step_append_rows elemProv (by rfl) _ _ (by rfl) (by rfl) (by rfl) hown ((rowsAt_new _ p.cells _).below (below_of_drewN (n := 1) hb2)) rfl (provCells_wid [p]) (provCells_one [p]) (by simp; omega) (by decide) (by have := hb2.size; simp at this ⊢; omega) ?_; intro v' w3 hown3 hg3 hob3; have hb13 : Below w1.heap.size w1 w3 := (below_step (below_alloc _ _) (below_of_drewN (n := 1) hb2)).trans (grown_below hg3 (fun g e => by have := (hown.lt g e).1; simp at this; omega) (by have := hb2.size; simp at this; omega)); have hx3 := hx1.below hb13)
          | fail)
        all_goals
          have hbw3 := Lib.hid (below_step hbw.out hb13)
          obtain ⟨A3, k3, rfl, hl3⟩ := OwnL.provs (l := l2) (by rw [hl2.out, List.map_append]; exact hown3) (by rw [hl2.out]; simp; omega) (by rw [hl2.out]; exact hnm.out)
          have hx3' := Lib.hid hx3
          have hl3' := Lib.hid hl3
          clear hx1 hx2 hx3 hl3 hown hown3 hb2 hb13 hg3 hob3
          go_wp2_with fail
          refine (CheckProvisions_any _ _ l2 _ hl3'.out).mono ?_
          rintro e w4 ⟨rfl, hb4⟩
          have hbw4 := Lib.hid (below_step hbw3.out hb4)
          have hl4 := Lib.hid (hl3'.out.below hb4)
          have hx4 := Lib.hid (hx3'.out.below hb4)
          clear hb4
          have x0 := hx4.out.c0
          have x2 := hx4.out.c2
          have x3 := hx4.out.c3
          have x4 := hx4.out.c4
          rw [hrz.out] at x4
          go_wp2
          go_ret2
          exact ⟨A3, k3, by rw [hE.out, hL.out]; rfl, by rw [hL.out]; exact hl4.out, hbw4.out⟩
      · have hrz := Lib.hid hr
        have hval := fun w1 (h : Below w.heap.size w w1) => valueOf_any A c l p.name p.fr p.en w1 (hl'.out w1 h)
        have hfld := fun v b w => field_dec1 v b w
        rcases hvq : Cal.valOf l p.name p.fr p.en with ⟨vv, vb⟩
        simp only [hvq] at hval
        cases vb
        · have hE : Hid (Cal.nextErr l p = 6) := by show _ = _; unfold Cal.nextErr; rw [← hl2.out]; rw [if_pos h0z.out, if_pos h2z.out, if_pos ⟨hr, by rw [hvq]⟩]
          have hval := Lib.hid hval
          clear hr hvq
          go_enter Tryd.func7, Tryd.ntmps7
          go_wp2_with (go_at_call 14; refine (CheckProvisions_any _ _ l _ (hl'.out _ hba.out)).mono ?_; rintro e w1 ⟨rfl, hb1⟩)
          have hx1 := hnew.out.below hb1
          have hbw := Lib.hid (below_step hba.out hb1)
          clear hb1
          go_region_held3 (fun w' => w'.cell? ⟨w.heap.size, 0, none⟩ = some (.string p.name) ∧ w'.cell? ⟨w.heap.size, 1, none⟩ = some (.int .i64 p.value) ∧ w'.cell? ⟨w.heap.size, 2, none⟩ = some (.int .i64 p.fr) ∧ w'.cell? ⟨w.heap.size, 3, none⟩ = some (.int .i64 p.en) ∧ w'.cell? ⟨w.heap.size, 4, none⟩ = some (.bool p.repeal)) (first | exact hx1.all | exact hx2.all | exact hx3.all | exact (hx2.below (below_alloc _ _)).all | exact (hx1.below (below_alloc _ _)).all | fail) (first
            | (go_at_call 15; refine (Clone_any A c l _ (hl'.out _ (by have hbw' := hbw.out; have hbs := hbw'.size; exact blw)) (by omega)).mono ?_; rintro e w2 ⟨v, rfl, hown, hb2⟩; first | (have hx2 := hx1.below (below_of_drewN (n := 1) hb2)) | (have hx2 := hx1.below (below_step (below_alloc _ _) (below_of_drewN (n := 1) hb2))))
            | (refine step_append_rows elemProv (by rfl) _ _ (by rfl) (by rfl) (by rfl) (hown.below (below_alloc _ _)) (rowsAt_new _ p.cells _) rfl (provCells_wid [p]) (provCells_one [p]) (by simp; omega) (by decide) (by have := hb2.size; simp at this ⊢; omega) ?_; intro v' w3 hown3 hg3 hob3; have hb13 : Below w1.heap.size w1 w3 := ((below_of_drewN (n := 1) hb2).alloc hb2.size _).trans (grown_below hg3 (fun g e => (hown.lt g e).1) (by have := hb2.size; simp at this ⊢; omega)); have hx3 := hx1.below hb13)
            | (refine step_append_rows elemProv (by rfl) _ _ (by rfl) (by rfl) (by rfl) hown ((rowsAt_new _ p.cells _).below (below_of_drewN (n := 1) hb2)) rfl (provCells_wid [p]) (provCells_one [p]) (by simp; omega) (by decide) (by have := hb2.size; simp at this ⊢; omega) ?_; intro v' w3 hown3 hg3 hob3; have hb13 : Below w1.heap.size w1 w3 := (below_step (below_alloc _ _) (below_of_drewN (n := 1) hb2)).trans (grown_below hg3 (fun g e => by have := (hown.lt g e).1; simp at this; omega) (by have := hb2.size; simp at this; omega)); have hx3 := hx1.below hb13)
            | fail)
          all_goals
            have hbw3 := Lib.hid (below_step hbw.out hb13)
            obtain ⟨A3, k3, rfl, hl3⟩ := OwnL.provs (l := l2) (by rw [hl2.out, List.map_append]; exact hown3) (by rw [hl2.out]; simp; omega) (by rw [hl2.out]; exact hnm.out)
            have hx3' := Lib.hid hx3
            have hl3' := Lib.hid hl3
            clear hx1 hx2 hx3 hl3 hown hown3 hb2 hb13 hg3 hob3
            go_wp2_with fail
            refine (CheckProvisions_any _ _ l2 _ hl3'.out).mono ?_
            rintro e w4 ⟨rfl, hb4⟩
            have hbw4 := Lib.hid (below_step hbw3.out hb4)
            have hl4 := Lib.hid (hl3'.out.below hb4)
            have hx4 := Lib.hid (hx3'.out.below hb4)
            clear hb4
            have x0 := hx4.out.c0
            have x2 := hx4.out.c2
            have x3 := hx4.out.c3
            have x4 := hx4.out.c4
            rw [hrz.out] at x4
            go_wp2_with (go_at_call 16; refine (hval.out _ hbw4.out).mono ?_; rintro e w5 ⟨rfl, hb5⟩)
            go_ret2
            exact nextPost_err hE.out (by decide) (below_step hbw4.out hb5)
        · have hE : Hid (Cal.nextErr l p = 0) := by show _ = _; unfold Cal.nextErr; rw [← hl2.out]; rw [if_pos h0z.out, if_pos h2z.out, if_neg (by rw [hvq]; simp)]
          have hL : Hid (Cal.nextL l p = l2) := by show _ = _; unfold Cal.nextL; rw [← hl2.out]; rw [if_pos hE.out]
          have hval := Lib.hid hval
          clear hr hvq
          go_enter Tryd.func7, Tryd.ntmps7
          go_wp2_with (go_at_call 14; refine (CheckProvisions_any _ _ l _ (hl'.out _ hba.out)).mono ?_; rintro e w1 ⟨rfl, hb1⟩)
          have hx1 := hnew.out.below hb1
          have hbw := Lib.hid (below_step hba.out hb1)
          clear hb1
          go_region_held3 (fun w' => w'.cell? ⟨w.heap.size, 0, none⟩ = some (.string p.name) ∧ w'.cell? ⟨w.heap.size, 1, none⟩ = some (.int .i64 p.value) ∧ w'.cell? ⟨w.heap.size, 2, none⟩ = some (.int .i64 p.fr) ∧ w'.cell? ⟨w.heap.size, 3, none⟩ = some (.int .i64 p.en) ∧ w'.cell? ⟨w.heap.size, 4, none⟩ = some (.bool p.repeal)) (first | exact hx1.all | exact hx2.all | exact hx3.all | exact (hx2.below (below_alloc _ _)).all | exact (hx1.below (below_alloc _ _)).all | fail) (first
            | (go_at_call 15; refine (Clone_any A c l _ (hl'.out _ (by have hbw' := hbw.out; have hbs := hbw'.size; exact blw)) (by omega)).mono ?_; rintro e w2 ⟨v, rfl, hown, hb2⟩; first | (have hx2 := hx1.below (below_of_drewN (n := 1) hb2)) | (have hx2 := hx1.below (below_step (below_alloc _ _) (below_of_drewN (n := 1) hb2))))
            | (refine step_append_rows elemProv (by rfl) _ _ (by rfl) (by rfl) (by rfl) (hown.below (below_alloc _ _)) (rowsAt_new _ p.cells _) rfl (provCells_wid [p]) (provCells_one [p]) (by simp; omega) (by decide) (by have := hb2.size; simp at this ⊢; omega) ?_; intro v' w3 hown3 hg3 hob3; have hb13 : Below w1.heap.size w1 w3 := ((below_of_drewN (n := 1) hb2).alloc hb2.size _).trans (grown_below hg3 (fun g e => (hown.lt g e).1) (by have := hb2.size; simp at this ⊢; omega)); have hx3 := hx1.below hb13)
            | (refine step_append_rows elemProv (by rfl) _ _ (by rfl) (by rfl) (by rfl) hown ((rowsAt_new _ p.cells _).below (below_of_drewN (n := 1) hb2)) rfl (provCells_wid [p]) (provCells_one [p]) (by simp; omega) (by decide) (by have := hb2.size; simp at this ⊢; omega) ?_; intro v' w3 hown3 hg3 hob3; have hb13 : Below w1.heap.size w1 w3 := (below_step (below_alloc _ _) (below_of_drewN (n := 1) hb2)).trans (grown_below hg3 (fun g e => by have := (hown.lt g e).1; simp at this; omega) (by have := hb2.size; simp at this; omega)); have hx3 := hx1.below hb13)
            | fail)
          all_goals
            have hbw3 := Lib.hid (below_step hbw.out hb13)
            obtain ⟨A3, k3, rfl, hl3⟩ := OwnL.provs (l := l2) (by rw [hl2.out, List.map_append]; exact hown3) (by rw [hl2.out]; simp; omega) (by rw [hl2.out]; exact hnm.out)
            have hx3' := Lib.hid hx3
            have hl3' := Lib.hid hl3
            clear hx1 hx2 hx3 hl3 hown hown3 hb2 hb13 hg3 hob3
            go_wp2_with fail
            refine (CheckProvisions_any _ _ l2 _ hl3'.out).mono ?_
            rintro e w4 ⟨rfl, hb4⟩
            have hbw4 := Lib.hid (below_step hbw3.out hb4)
            have hl4 := Lib.hid (hl3'.out.below hb4)
            have hx4 := Lib.hid (hx3'.out.below hb4)
            clear hb4
            have x0 := hx4.out.c0
            have x2 := hx4.out.c2
            have x3 := hx4.out.c3
            have x4 := hx4.out.c4
            rw [hrz.out] at x4
            go_wp2_with (go_at_call 16; refine (hval.out _ hbw4.out).mono ?_; rintro e w5 ⟨rfl, hb5⟩)
            go_ret2
            exact ⟨A3, k3, by rw [hE.out, hL.out]; rfl, by rw [hL.out]; exact hl4.out.below hb5, below_step hbw4.out hb5⟩
    · have h2z := Lib.hid h2
      have h3 : (Cal.provsErr l2 != 0) = true := by simpa using h2
      have hE : Hid (Cal.nextErr l p = Cal.provsErr l2) := by show _ = _; unfold Cal.nextErr; rw [← hl2.out]; rw [if_pos h0z.out, if_neg h2]
      clear h2
      go_enter Tryd.func7, Tryd.ntmps7
      go_wp2_with (go_at_call 14; refine (CheckProvisions_any _ _ l _ (hl'.out _ hba.out)).mono ?_; rintro e w1 ⟨rfl, hb1⟩)
      have hx1 := hnew.out.below hb1
      have hbw := Lib.hid (below_step hba.out hb1)
      clear hb1
      go_region_held3 (fun w' => w'.cell? ⟨w.heap.size, 0, none⟩ = some (.string p.name) ∧ w'.cell? ⟨w.heap.size, 1, none⟩ = some (.int .i64 p.value) ∧ w'.cell? ⟨w.heap.size, 2, none⟩ = some (.int .i64 p.fr) ∧ w'.cell? ⟨w.heap.size, 3, none⟩ = some (.int .i64 p.en) ∧ w'.cell? ⟨w.heap.size, 4, none⟩ = some (.bool p.repeal)) (first | exact hx1.all | exact hx2.all | exact hx3.all | exact (hx2.below (below_alloc _ _)).all | exact (hx1.below (below_alloc _ _)).all | fail) (first
        | (go_at_call 15; refine (Clone_any A c l _ (hl'.out _ (by have hbw' := hbw.out; have hbs := hbw'.size; exact blw)) (by omega)).mono ?_; rintro e w2 ⟨v, rfl, hown, hb2⟩; first | (have hx2 := hx1.below (below_of_drewN (n := 1) hb2)) | (have hx2 := hx1.below (below_step (below_alloc _ _) (below_of_drewN (n := 1) hb2))))
        | (refine step_append_rows elemProv (by rfl) _ _ (by rfl) (by rfl) (by rfl) (hown.below (below_alloc _ _)) (rowsAt_new _ p.cells _) rfl (provCells_wid [p]) (provCells_one [p]) (by simp; omega) (by decide) (by have := hb2.size; simp at this ⊢; omega) ?_; intro v' w3 hown3 hg3 hob3; have hb13 : Below w1.heap.size w1 w3 := ((below_of_drewN (n := 1) hb2).alloc hb2.size _).trans (grown_below hg3 (fun g e => (hown.lt g e).1) (by have := hb2.size; simp at this ⊢; omega)); have hx3 := hx1.below hb13)
        | (refine step_append_rows elemProv (by rfl) _ _ (by rfl) (by rfl) (by rfl) hown ((rowsAt_new _ p.cells _).below (below_of_drewN (n := 1) hb2)) rfl (provCells_wid [p]) (provCells_one [p]) (by simp; omega) (by decide) (by have := hb2.size; simp at this ⊢; omega) ?_; intro v' w3 hown3 hg3 hob3; have hb13 : Below w1.heap.size w1 w3 := (below_step (below_alloc _ _) (below_of_drewN (n := 1) hb2)).trans (grown_below hg3 (fun g e => by have := (hown.lt g e).1; simp at this; omega) (by have := hb2.size; simp at this; omega)); have hx3 := hx1.below hb13)
        | fail)
      all_goals
        have hbw3 := Lib.hid (below_step hbw.out hb13)
        obtain ⟨A3, k3, rfl, hl3⟩ := OwnL.provs (l := l2) (by rw [hl2.out, List.map_append]; exact hown3) (by rw [hl2.out]; simp; omega) (by rw [hl2.out]; exact hnm.out)
        have hx3' := Lib.hid hx3
        have hl3' := Lib.hid hl3
        clear hx1 hx2 hx3 hl3 hown hown3 hb2 hb13 hg3 hob3
        go_wp2_with fail
        refine (CheckProvisions_any _ _ l2 _ hl3'.out).mono ?_
        rintro e w4 ⟨rfl, hb4⟩
        have hbw4 := Lib.hid (below_step hbw3.out hb4)
        have hl4 := Lib.hid (hl3'.out.below hb4)
        have hx4 := Lib.hid (hx3'.out.below hb4)
        clear hb4
        have x0 := hx4.out.c0
        have x2 := hx4.out.c2
        have x3 := hx4.out.c3
        have x4 := hx4.out.c4
        go_wp2
        go_ret2
        exact nextPost_err hE.out h2z.out hbw4.out
  · have h0z := Lib.hid h0
    have h1 : (Cal.provsErr l != 0) = true := by simpa using h0
    have hfin : Hid (Cal.nextErr l p = Cal.provsErr l) := by show _ = _; unfold Cal.nextErr; rw [if_neg h0z.out]
    clear h0
    go_enter Tryd.func7, Tryd.ntmps7
    go_wp2_with (go_at_call 14; refine (CheckProvisions_any _ _ l _ (hl'.out _ hba.out)).mono ?_; rintro e w1 ⟨rfl, hb1⟩)
    go_ret2
    exact nextPost_err hfin.out h0z.out (below_step hba.out hb1)

theorem RowsAt.far {w w' : World} {row : Option Nat} {A : Option Addr} {m : Nat} {rows : List (List Value)} (h : RowsAt w A m rows) (hg : w.grownBy w' row) (hne : ∀ a, A = some a → some a.block ≠ row) : RowsAt w' A m rows := fun k r hr => by
  obtain ⟨b, o, hA, hlt, hc⟩ := h k r hr
  exact ⟨b, o, hA, Nat.lt_of_lt_of_le hlt hg.size, fun j v hv => hg.cell (hc j v hv) (show some b ≠ row from hne ⟨b, o, none⟩ hA)⟩
end Go.Proofs.YtbinoelbjlgjkaaDoor
namespace Go.Proofs.YtbinoelbjlgjkaaDoor
open Go Go.RowKit
theorem more_lt {l : List Prov} {p : Prov} {k : Nat} (h : k < l.length) : (l ++ [p])[k]? = l[k]? := by rw [List.getElem?_append_left h]
theorem more_last (l : List Prov) (p : Prov) : (l ++ [p])[l.length]? = some p := by simp
theorem Cal.frAt_more {l : List Prov} {p : Prov} {k : Nat} (h : k < l.length) : Cal.frAt (l ++ [p]) k = Cal.frAt l k := by unfold Cal.frAt; rw [more_lt h]
theorem Cal.takes_more {l : List Prov} {p q : Prov} {name : ByteArray} {holds known best : Int} (h : best < l.length) : Cal.takes (l ++ [p]) name holds known q best = Cal.takes l name holds known q best := by
  unfold Cal.takes
  by_cases hb : best < 0
  · simp [hb]
  · rw [Cal.frAt_more (by omega)]
theorem Cal.srcTo_more {l : List Prov} {p : Prov} {name : ByteArray} {holds known : Int} : ∀ k : Nat, k ≤ l.length → Cal.srcTo (l ++ [p]) name holds known k = Cal.srcTo l name holds known k
  | 0, _ => rfl
  | k + 1, h => by
    unfold Cal.srcTo
    rw [Cal.srcTo_more k (by omega), more_lt (by omega)]
    have := Cal.srcTo_lt l name holds known k
    rw [List.getElem?_eq_getElem (by omega)]
    simp only
    rw [Cal.takes_more (by omega)]
theorem Cal.src_more {l : List Prov} {p : Prov} {name : ByteArray} {holds known : Int} (h : known < p.en) : Cal.src (l ++ [p]) name holds known = Cal.src l name holds known := by
  unfold Cal.src
  rw [List.length_append, List.length_singleton]
  conv => lhs; unfold Cal.srcTo
  rw [more_last]
  simp only
  rw [if_neg, Cal.srcTo_more _ (Nat.le_refl _)]
  unfold Cal.takes
  simp only [Bool.and_eq_true, decide_eq_true_eq]
  omega
theorem Cal.valOf_more {l : List Prov} {p : Prov} {name : ByteArray} {holds known : Int} (h : known < p.en) : Cal.valOf (l ++ [p]) name holds known = Cal.valOf l name holds known := by
  unfold Cal.valOf
  rw [Cal.src_more h]
  have := Cal.srcTo_lt l name holds known l.length
  by_cases h0 : Cal.src l name holds known < 0
  · rw [if_pos h0, if_pos h0]
  · rw [if_neg h0, if_neg h0, more_lt (by unfold Cal.src at *; omega)]
theorem Cal.nextErr_ok {l : List Prov} {p : Prov} (h : Cal.nextErr l p = 0) : Cal.provsErr l = 0 ∧ Cal.provsErr (l ++ [p]) = 0 ∧ Cal.nextL l p = l ++ [p] := by
  have hL : Cal.nextL l p = l ++ [p] := by unfold Cal.nextL; rw [if_pos h]
  unfold Cal.nextErr at h
  split at h
  · rename_i h0
    split at h
    · rename_i h1; exact ⟨h0, h1, hL⟩
    · rename_i h1; exact absurd h h1
  · rename_i h0; exact absurd h h0
theorem Cal.atErr_next {l : List Prov} {p : Prov} (h : Cal.nextErr l p = 0) (ns : List Int) : Cal.atErr (l ++ [p]) ns = Cal.atErr l ns := by
  obtain ⟨h0, h1, _⟩ := Cal.nextErr_ok h
  unfold Cal.atErr
  rw [if_pos h0, if_pos h1]
theorem Cal.valueS_next {l : List Prov} {p : Prov} {name : ByteArray} {holds known : Int} (hE : Cal.nextErr l p = 0) (h : known < p.en) : Cal.valueS (l ++ [p]) name holds known = Cal.valueS l name holds known := by
  unfold Cal.valueS
  rw [Cal.atErr_next hE, Cal.src_more h, Cal.valOf_more h]
end Go.Proofs.YtbinoelbjlgjkaaDoor
namespace Go.Proofs.YtbinoelbjlgjkaaDoor
open Go Go.RowKit
def feeName : ByteArray := ⟨#[102, 101, 101]⟩
def feeList : List Prov := [⟨feeName, 100, 10, 5, false⟩, ⟨feeName, 120, 20, 15, false⟩, ⟨feeName, 110, 20, 25, false⟩, ⟨feeName, 0, 30, 28, true⟩]
def feeCells : Array Value := #[.string ⟨#[102, 101, 101]⟩, .int .i64 100, .int .i64 10, .int .i64 5, .bool false, .string ⟨#[102, 101, 101]⟩, .int .i64 120, .int .i64 20, .int .i64 15, .bool false, .string ⟨#[102, 101, 101]⟩, .int .i64 110, .int .i64 20, .int .i64 25, .bool false, .string ⟨#[102, 101, 101]⟩, .int .i64 0, .int .i64 30, .int .i64 28, .bool true]
theorem dayOf_awake : Cal.dayOfS 1804 2 29 = (1519, 0) := by decide +kernel
theorem easter_awake : Cal.easter 1800 = 102 := by decide +kernel
theorem addWorking_awake : Cal.addWorkingS [] 0 3 = (5, 0) := by decide +kernel
theorem value_awake : Cal.valueS feeList feeName 25 20 = (120, 0) := by decide +kernel
theorem holsErr_nil : Cal.holsErr [] = 0 := by decide +kernel
theorem feeRows : ∀ (k : Nat) r, (feeList.map Prov.cells)[k]? = some r → ∀ (j : Nat) v, r[j]? = some v → feeCells[0 + (k * 5 + j)]? = some v := by
  intro k r hr j v hv
  match k, hr with
  | 0, hr => simp only [feeList, List.map_cons, List.getElem?_cons_zero, Option.some.injEq] at hr; subst hr; match j, hv with
    | 0, hv => exact hv
    | 1, hv => exact hv
    | 2, hv => exact hv
    | 3, hv => exact hv
    | 4, hv => exact hv
  | 1, hr => simp only [feeList, List.map_cons, List.getElem?_cons_succ, List.getElem?_cons_zero, Option.some.injEq] at hr; subst hr; match j, hv with
    | 0, hv => exact hv
    | 1, hv => exact hv
    | 2, hv => exact hv
    | 3, hv => exact hv
    | 4, hv => exact hv
  | 2, hr => simp only [feeList, List.map_cons, List.getElem?_cons_succ, List.getElem?_cons_zero, Option.some.injEq] at hr; subst hr; match j, hv with
    | 0, hv => exact hv
    | 1, hv => exact hv
    | 2, hv => exact hv
    | 3, hv => exact hv
    | 4, hv => exact hv
  | 3, hr => simp only [feeList, List.map_cons, List.getElem?_cons_succ, List.getElem?_cons_zero, Option.some.injEq] at hr; subst hr; match j, hv with
    | 0, hv => exact hv
    | 1, hv => exact hv
    | 2, hv => exact hv
    | 3, hv => exact hv
    | 4, hv => exact hv
theorem feeProvs (w : World) (t : TypeId) : Provs (w.alloc (.cells feeCells t)) (some ⟨w.heap.size, 0, none⟩) feeList :=
  ⟨fun k r hr => ⟨w.heap.size, 0, rfl, by simp, fun j v hv => by rw [cell_alloc_at]; exact feeRows k r hr j v hv⟩, by decide, fun k p hp => by
    have : p ∈ feeList := List.mem_of_getElem? hp
    simp only [feeList, List.mem_cons, List.not_mem_nil, or_false] at this
    rcases this with rfl | rfl | rfl | rfl <;> exact (by decide : feeName.size ≤ maxLen)⟩
end Go.Proofs.YtbinoelbjlgjkaaDoor
