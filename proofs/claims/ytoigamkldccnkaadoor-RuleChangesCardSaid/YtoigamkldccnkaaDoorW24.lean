/- The walks: valueOf (rule), Has (reference), Clone at provisions. -/
import Derived.Test.YtoigamkldccnkaaDoorW17
import Derived.Test.YtoigamkldccnkaaDoorOwn
namespace Go.Proofs.YtoigamkldccnkaaDoor
open Go Go.RowKit
theorem Cal.valOf_no {l : List Prov} {name : ByteArray} {holds known : Int} (h : Cal.src l name holds known < 0) : Cal.valOf l name holds known = (0, false) := by unfold Cal.valOf; rw [if_pos h]
set_option maxHeartbeats 1000000 in
theorem valueOf_any (A : Option Addr) (c : Nat) (l : List Prov) (name : ByteArray) (holds known : Int) (w : World) (hl : Provs w A l) :
    Calls Tryd.prog 91 #[.slice A l.length c, .string name, .int .i64 holds, .int .i64 known] w fun e w' => e = .returned (.agg #[.int .i64 (Cal.valOf l name holds known).1, .bool (Cal.valOf l name holds known).2]) ∧ Below w.heap.size w w' := by
  have hl' := Lib.hid (fun w1 (h : Below w.heap.size w w1) => hl.below h)
  have hba := Lib.hid (below_alloc w (.cells #[.int .i64 0, .bool false] 113))
  clear hl
  by_cases h2 : Cal.src l name holds known < 0
  · have hfin : Hid (Cal.valOf l name holds known = (0, false)) := Cal.valOf_no h2
    go_enter Tryd.func91, Tryd.ntmps91
    go_wp2_with (go_at_call 66; refine (source_any _ _ l _ _ _ _ (hl'.out _ hba.out)).mono ?_; rintro e w1 ⟨rfl, hb1⟩; obtain ⟨hc1, hf1⟩ := bcell hb1)
    refine bodyPost_ret (v := .agg #[.int .i64 (0), .bool false]) (by simp [results, Tryd.results91, go_sem, hc1]) rfl ⟨by rw [hfin.out], ?_⟩
    have hbw := below_step (below_alloc w _) hb1
    have hbs := hbw.size
    (repeat (first | assumption | exact Below.refl _ _ | exact below_alloc _ _ | refine below_drewN ?_ _ | refine Below.drew ?_ | (refine Below.setCell ?_ ?_ _; rotate_left; focus (first | omega | (simp; done) | (simp; omega))) | (refine Below.alloc ?_ ?_ _; rotate_left; focus (first | omega | (simp; done) | (simp; omega)))))
  · obtain ⟨q, p, hq, hp⟩ := Cal.src_form h2
    have hv := Cal.valOf_some hq hp
    obtain ⟨b, o, rfl, hbl, c0, c1, c2, c3, c4⟩ := (hl'.out _ (Below.refl _ w)).at_ hp
    have hqs : q < l.length := (List.getElem?_eq_some_iff.1 hp).1
    have hsz := (hl'.out _ (Below.refl _ w)).size
    clear hp c0 c2 c3
    cases hr : p.repeal
    · have hfin : Hid (Cal.valOf l name holds known = (p.value, true)) := by show _ = _; rw [hv, hr]; simp
      rw [hr] at c4
      clear hv h2 hr
      go_enter Tryd.func91, Tryd.ntmps91
      go_wp2_with (go_at_call 66; refine (source_any _ _ l _ _ _ _ (hl'.out _ hba.out)).mono ?_; rintro e w1 ⟨rfl, hb1⟩; obtain ⟨hc1, hf1⟩ := bcell hb1)
      refine bodyPost_ret (v := .agg #[.int .i64 (p.value), .bool true]) (by simp [results, Tryd.results91, go_sem, hc1]) rfl ⟨by rw [hfin.out], ?_⟩
      have hbw := below_step (below_alloc w _) hb1
      have hbs := hbw.size
      (repeat (first | assumption | exact Below.refl _ _ | exact below_alloc _ _ | refine below_drewN ?_ _ | refine Below.drew ?_ | (refine Below.setCell ?_ ?_ _; rotate_left; focus (first | omega | (simp; done) | (simp; omega))) | (refine Below.alloc ?_ ?_ _; rotate_left; focus (first | omega | (simp; done) | (simp; omega)))))
    · have hfin : Hid (Cal.valOf l name holds known = (0, false)) := by show _ = _; rw [hv, hr]; simp
      rw [hr] at c4
      clear hv h2 hr
      go_enter Tryd.func91, Tryd.ntmps91
      go_wp2_with (go_at_call 66; refine (source_any _ _ l _ _ _ _ (hl'.out _ hba.out)).mono ?_; rintro e w1 ⟨rfl, hb1⟩; obtain ⟨hc1, hf1⟩ := bcell hb1)
      refine bodyPost_ret (v := .agg #[.int .i64 (0), .bool false]) (by simp [results, Tryd.results91, go_sem, hc1]) rfl ⟨by rw [hfin.out], ?_⟩
      have hbw := below_step (below_alloc w _) hb1
      have hbs := hbw.size
      (repeat (first | assumption | exact Below.refl _ _ | exact below_alloc _ _ | refine below_drewN ?_ _ | refine Below.drew ?_ | (refine Below.setCell ?_ ?_ _; rotate_left; focus (first | omega | (simp; done) | (simp; omega))) | (refine Below.alloc ?_ ?_ _; rotate_left; focus (first | omega | (simp; done) | (simp; omega)))))
set_option maxHeartbeats 1000000 in
theorem Has_any (A : Option Addr) (c : Nat) (l : List Prov) (name : ByteArray) (holds known : Int) (w : World) (hl : Provs w A l) :
    Calls Tryd.prog 92 #[.slice A l.length c, .string name, .agg #[.int .i64 holds, .int .i64 known]] w fun e w' => e = .returned (.tuple #[.int .i64 (Cal.valOf l name holds known).1, .bool (Cal.valOf l name holds known).2]) ∧ Below w.heap.size w w' := by
  have hl' := Lib.hid (fun w1 (h : Below w.heap.size w w1) => hl.below h)
  have hba := Lib.hid (below_alloc w (.cells #[.int .i64 holds, .int .i64 known] 23))
  clear hl
  by_cases h2 : Cal.src l name holds known < 0
  · have hfin : Hid (Cal.valOf l name holds known = (0, false)) := Cal.valOf_no h2
    go_enter Tryd.func92, Tryd.ntmps92
    go_wp2_with (go_at_call 20; refine (SourceR_any _ _ l _ _ _ _ (hl'.out _ hba.out)).mono ?_; rintro e w1 ⟨rfl, hb1⟩; obtain ⟨hc1, hf1⟩ := bcell hb1)
    go_ret2
    exact ⟨by rw [hfin.out]; rfl, below_step hba.out hb1⟩
  · obtain ⟨q, p, hq, hp⟩ := Cal.src_form h2
    have hv := Cal.valOf_some hq hp
    obtain ⟨b, o, rfl, hbl, c0, c1, c2, c3, c4⟩ := (hl'.out _ (Below.refl _ w)).at_ hp
    have hqs : q < l.length := (List.getElem?_eq_some_iff.1 hp).1
    have hsz := (hl'.out _ (Below.refl _ w)).size
    clear hp c0 c2 c3
    cases hr : p.repeal
    · have hfin : Hid (Cal.valOf l name holds known = (p.value, true)) := by show _ = _; rw [hv, hr]; simp
      rw [hr] at c4
      clear hv h2 hr
      go_enter Tryd.func92, Tryd.ntmps92
      go_wp2_with (go_at_call 20; refine (SourceR_any _ _ l _ _ _ _ (hl'.out _ hba.out)).mono ?_; rintro e w1 ⟨rfl, hb1⟩; obtain ⟨hc1, hf1⟩ := bcell hb1)
      go_ret2
      exact ⟨by rw [hfin.out]; rfl, below_step hba.out hb1⟩
    · have hfin : Hid (Cal.valOf l name holds known = (0, false)) := by show _ = _; rw [hv, hr]; simp
      rw [hr] at c4
      clear hv h2 hr
      go_enter Tryd.func92, Tryd.ntmps92
      go_wp2_with (go_at_call 20; refine (SourceR_any _ _ l _ _ _ _ (hl'.out _ hba.out)).mono ?_; rintro e w1 ⟨rfl, hb1⟩; obtain ⟨hc1, hf1⟩ := bcell hb1)
      go_ret2
      exact ⟨by rw [hfin.out]; rfl, below_step hba.out hb1⟩
theorem elemProv : Elem Tryd.prog 22 32 5 48 := Elem.mk' Tryd.underlying22 (z := .agg #[.string ⟨#[]⟩, .int .i64 0, .int .i64 0, .int .i64 0, .bool false]) (by kernel_rfl) rfl (by decide)
theorem provCells_wid (l : List Prov) : ∀ r ∈ l.map Prov.cells, r.length = 5 := fun r hr => by obtain ⟨p, _, rfl⟩ := List.mem_map.1 hr; rfl
theorem provCells_one (l : List Prov) : ∀ r ∈ l.map Prov.cells, ∀ u ∈ r, u.oneCell' = true := fun r hr u hu => by
  obtain ⟨p, _, rfl⟩ := List.mem_map.1 hr
  simp only [Prov.cells, List.mem_cons, List.not_mem_nil, or_false] at hu
  rcases hu with rfl | rfl | rfl | rfl | rfl <;> rfl
theorem OwnL.provs {w : World} {B : Nat} {E : TypeId} {v : Value} {l : List Prov} (h : OwnL w B E 5 v (l.map Prov.cells)) (hs : l.length ≤ 1000000) (hn : ∀ (k : Nat) p, l[k]? = some p → p.name.size ≤ maxLen) : ∃ A c, v = .slice A l.length c ∧ Provs w A l := by
  obtain ⟨A, c, hv, hr⟩ := h.form
  exact ⟨A, c, by rw [hv, List.length_map], hr, by omega, hn⟩
def ClonePost (w : World) (l : List Prov) (e : Ending) (w' : World) : Prop := ∃ v, e = .returned v ∧ OwnL w' w.heap.size 32 5 v (l.map Prov.cells) ∧ Below w.heap.size w w'
theorem Clone_any (A : Option Addr) (c : Nat) (l : List Prov) (w : World) (hl : Provs w A l) (hs : l.length ≤ 1000000) :
    Calls Tryd.prog 90 #[.slice A l.length c] w (ClonePost w l) := by
  cases A with
  | none =>
    have h0 : l = [] := by
      cases l with
      | nil => rfl
      | cons q r => obtain ⟨b, o, hA, _⟩ := hl.rows 0 q.cells rfl; cases hA
    subst h0
    have hnil := fun w => Lib.run_eql_slice_nil (P := Tryd.prog) w 22 32 none 0 c 0 0 Tryd.underlying22
    go_enter Tryd.func90, Tryd.ntmps90
    go_wp2
    go_ret
    exact ⟨_, rfl, OwnL.nil _ _ _ _, Below.refl _ _⟩
  | some a =>
    have hnil := fun w => Lib.run_eql_slice_nil (P := Tryd.prog) w 22 32 (some a) l.length c 0 0 Tryd.underlying22
    have hl' := Lib.hid (fun w1 (h : Below w.heap.size w w1) => hl.below h)
    have hw := Lib.hid (provCells_wid l)
    have h1 := Lib.hid (provCells_one l)
    clear hl
    go_enter Tryd.func90, Tryd.ntmps90
    go_wp2_with (at_builtin; refine wpList_append_rows elemProv rfl _ _ rfl rfl rfl (OwnL.made w w.heap.size _ 5 (Nat.le_refl _)) (hl'.out _ (below_alloc _ _)).rows (List.length_map ..).symm hw.out h1.out (by simp; omega) (by decide) (by simp) ?_; intro v' w1 hown hg _)
    go_ret
    exact ⟨_, rfl, by simpa using hown, (below_alloc _ _).trans (grown_below hg (fun g e => by cases e; exact Nat.le_refl _) (by simp))⟩
end Go.Proofs.YtoigamkldccnkaaDoor
