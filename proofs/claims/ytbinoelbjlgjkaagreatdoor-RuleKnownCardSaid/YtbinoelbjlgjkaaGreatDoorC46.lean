/- Chapter 8 and what it rests on: definitions and walks, part 46. -/
import Derived.Lib.SlicesCompact
import Derived.Test.YtbinoelbjlgjkaaGreatDoorC06
import Derived.Test.YtbinoelbjlgjkaaGreatDoorC05
import Derived.Test.YtbinoelbjlgjkaaGreatDoorC07
import Derived.Laws.OwnMore
import Derived.Test.YtbinoelbjlgjkaaGreatDoorC14
import Derived.Test.YtbinoelbjlgjkaaGreatDoorC08
import Derived.Test.YtbinoelbjlgjkaaGreatDoorQLSources
namespace Go.Proofs.YtbinoelbjlgjkaaGreatDoor.Cal
open Go.Lib
abbrev Txt := List UInt8
theorem txt_lt_of {a b : Txt} (h1 : a ≤ b) (h2 : a ≠ b) : a < b := by
  rcases Classical.em (a < b) with h | h
  · exact h
  · exact absurd (List.le_antisymm h1 (List.not_lt.1 h)) h2
theorem txt_up_ext : ∀ {xs ys : List Txt}, xs.Pairwise (· < ·) → ys.Pairwise (· < ·) → (∀ d, d ∈ xs ↔ d ∈ ys) → xs = ys
  | [], [], _, _, _ => rfl
  | [], y :: ys, _, _, h => absurd ((h y).2 (List.mem_cons_self ..)) (by simp)
  | x :: xs, [], _, _, h => absurd ((h x).1 (List.mem_cons_self ..)) (by simp)
  | x :: xs, y :: ys, hx, hy, h => by
    rw [List.pairwise_cons] at hx hy
    have e : x = y := by
      rcases List.mem_cons.1 ((h x).1 (List.mem_cons_self ..)) with he | hm
      · exact he
      · rcases List.mem_cons.1 ((h y).2 (List.mem_cons_self ..)) with he | hm2
        · exact he.symm
        · exact absurd (List.lt_trans (hx.1 y hm2) (hy.1 x hm)) (List.lt_irrefl _)
    subst e
    congr 1
    refine txt_up_ext hx.2 hy.2 fun d => ⟨fun hd => ?_, fun hd => ?_⟩
    · rcases List.mem_cons.1 ((h d).1 (List.mem_cons_of_mem _ hd)) with he | hm
      · have := hx.1 d hd; rw [he] at this; exact absurd this (List.lt_irrefl _)
      · exact hm
    · rcases List.mem_cons.1 ((h d).2 (List.mem_cons_of_mem _ hd)) with he | hm
      · have := hy.1 d hd; rw [he] at this; exact absurd this (List.lt_irrefl _)
      · exact hm
theorem txt_compact_spec (d : Array Txt) (hs : ∀ i j, i ≤ j → j < d.size → d[i]! ≤ d[j]!) : ∀ m, m ≤ d.size →
    (compactUpTo d m).Pairwise (· < ·) ∧ ∀ x, x ∈ compactUpTo d m ↔ ∃ j, j < m ∧ d[j]! = x
  | 0, _ => ⟨List.Pairwise.nil, fun x => ⟨fun h => by simp [compactUpTo] at h, fun ⟨j, hj, _⟩ => by omega⟩⟩
  | m + 1, hm => by
    obtain ⟨ih1, ih2⟩ := txt_compact_spec d hs m (by omega)
    rw [compactUpTo_succ]
    by_cases hk : keeps d m = true
    · rw [if_pos hk]
      refine ⟨?_, fun x => ?_⟩
      · rw [List.pairwise_append]
        refine ⟨ih1, List.pairwise_singleton .., fun a ha b hb => ?_⟩
        obtain ⟨j, hj, rfl⟩ := (ih2 a).1 ha
        simp only [List.mem_singleton] at hb
        subst hb
        have hm0 : m ≠ 0 := by omega
        have hne : d[m]! ≠ d[m - 1]! := by simpa [keeps, hm0] using hk
        have h1 := hs j (m - 1) (by omega) (by omega)
        have h2 := txt_lt_of (hs (m - 1) m (by omega) (by omega)) (Ne.symm hne)
        exact List.lt_of_le_of_lt h1 h2
      · rw [List.mem_append, ih2, List.mem_singleton]
        constructor
        · rintro (⟨j, hj, rfl⟩ | rfl)
          · exact ⟨j, by omega, rfl⟩
          · exact ⟨m, by omega, rfl⟩
        · rintro ⟨j, hj, rfl⟩
          by_cases he : j = m
          · right; rw [he]
          · exact .inl ⟨j, by omega, rfl⟩
    · rw [if_neg hk, List.append_nil]
      refine ⟨ih1, fun x => ?_⟩
      rw [ih2]
      constructor
      · rintro ⟨j, hj, rfl⟩; exact ⟨j, by omega, rfl⟩
      · rintro ⟨j, hj, rfl⟩
        by_cases he : j = m
        · subst he
          have hk' : ¬ (j = 0 ∨ d[j]! ≠ d[j - 1]!) := by simpa [keeps] using hk
          refine ⟨j - 1, by omega, ?_⟩
          have : ¬ d[j]! ≠ d[j - 1]! := fun h => hk' (.inr h)
          exact (Classical.not_not.1 this).symm
        · exact ⟨j, by omega, rfl⟩
/-- The texts of a list, ascending, each once. -/
def tups (zs : List Txt) : List Txt := compact (zs.mergeSort fun x y => decide (x ≤ y))
theorem txt_sort_up (zs : List Txt) : (zs.mergeSort fun x y => decide (x ≤ y)).Pairwise (· ≤ ·) := by
  have := List.pairwise_mergeSort (le := fun x y : Txt => decide (x ≤ y)) (fun a b c => by simp only [decide_eq_true_eq]; exact List.le_trans) (fun a b => by simp only [Bool.or_eq_true, decide_eq_true_eq]; exact List.le_total a b) zs
  exact this.imp fun h => by simpa using h
theorem tups_spec (zs : List Txt) : (tups zs).Pairwise (· < ·) ∧ ∀ d, d ∈ tups zs ↔ d ∈ zs := by
  have hp := txt_sort_up zs
  have hsize : (zs.mergeSort fun x y => decide (x ≤ y)).toArray.size = (zs.mergeSort fun x y => decide (x ≤ y)).length := by simp
  obtain ⟨h1, h2⟩ := txt_compact_spec (zs.mergeSort fun x y => decide (x ≤ y)).toArray (fun i j hij hj => by
    rcases Nat.lt_or_eq_of_le hij with hlt | rfl
    · have := List.pairwise_iff_getElem.1 hp i j (by omega) (by omega) hlt
      rw [getElem!_pos _ i (by omega), getElem!_pos _ j (by omega)]
      simpa using this
    · exact List.le_refl _) _ (Nat.le_of_eq hsize.symm)
  refine ⟨h1, fun d => ?_⟩
  unfold tups compact
  rw [h2]
  constructor
  · rintro ⟨j, hj, rfl⟩
    rw [getElem!_pos _ j (by omega)]
    have : (zs.mergeSort fun x y => decide (x ≤ y)).toArray[j]'(by omega) ∈ (zs.mergeSort fun x y => decide (x ≤ y)) := by simp
    exact List.mem_mergeSort.1 this
  · intro hd
    obtain ⟨j, hj, he⟩ := List.getElem_of_mem (List.mem_mergeSort.2 hd)
    refine ⟨j, hj, ?_⟩
    rw [getElem!_pos _ j (by simpa using hj)]
    simpa using he
theorem tups_eq {zs ys : List Txt} (h : ys.Pairwise (· < ·)) (hm : ∀ d, d ∈ ys ↔ d ∈ zs) : tups zs = ys :=
  txt_up_ext (tups_spec zs).1 h fun d => by rw [(tups_spec zs).2, hm]
theorem tups_nil : tups [] = [] := tups_eq List.Pairwise.nil fun _ => Iff.rfl
theorem tups_length (zs : List Txt) : (tups zs).length ≤ zs.length := by
  have h : (zs.mergeSort fun x y => decide (x ≤ y)).length = zs.length := List.length_mergeSort zs
  unfold tups compact compactUpTo
  rw [List.length_map]
  exact Nat.le_trans (List.length_filter_le _ _) (by rw [List.length_range]; omega)
/-- One more text, at its place. -/
theorem tins_up {xs : List Txt} {d : Txt} {q : Nat} (h : xs.Pairwise (· < ·)) (hd : d ∉ xs) (hq : q ≤ xs.length) (h1 : ∀ (j : Nat) z, q ≤ j → xs[j]? = some z → d < z) (h2 : ∀ z, 0 < q → xs[q - 1]? = some z → z ≤ d) : (xs.take q ++ [d] ++ xs.drop q).Pairwise (· < ·) := by
  have hlow : ∀ a ∈ xs.take q, a < d := fun a ha => by
    obtain ⟨i, hi, rfl⟩ := List.getElem_of_mem ha
    rw [List.length_take] at hi
    rw [List.getElem_take]
    have hq1 : q - 1 < xs.length := by omega
    have e2 := h2 _ (by omega) (List.getElem?_eq_getElem hq1)
    have hne : xs[q - 1] ≠ d := fun e => hd (e ▸ List.getElem_mem hq1)
    have e3 := txt_lt_of e2 hne
    rcases Nat.lt_or_eq_of_le (show i ≤ q - 1 by omega) with hlt | he
    · exact List.lt_trans (List.pairwise_iff_getElem.1 h i (q - 1) (by omega) hq1 hlt) e3
    · subst he; exact e3
  have hhigh : ∀ b ∈ xs.drop q, d < b := fun b hb => by
    obtain ⟨i, hi, rfl⟩ := List.getElem_of_mem hb
    rw [List.length_drop] at hi
    rw [List.getElem_drop]
    exact h1 (q + i) _ (by omega) (List.getElem?_eq_getElem (by omega))
  rw [List.pairwise_append, List.pairwise_append]
  refine ⟨⟨h.sublist (List.take_sublist _ _), List.pairwise_singleton .., fun a ha b hb => ?_⟩, h.sublist (List.drop_sublist _ _), fun a ha b hb => ?_⟩
  · rw [List.mem_singleton] at hb; subst hb; exact hlow a ha
  · rcases List.mem_append.1 ha with ha | ha
    · exact List.lt_trans (hlow a ha) (hhigh b hb)
    · rw [List.mem_singleton] at ha; subst ha; exact hhigh b hb
theorem tins_mem {xs : List Txt} {d x : Txt} {q : Nat} : x ∈ xs.take q ++ [d] ++ xs.drop q ↔ x = d ∨ x ∈ xs := by
  conv => rhs; rw [← List.take_append_drop q xs]
  simp only [List.mem_append, List.mem_singleton]
  constructor
  · rintro ((h | h) | h)
    · exact .inr (.inl h)
    · exact .inl h
    · exact .inr (.inr h)
  · rintro (h | h | h)
    · exact .inl (.inr h)
    · exact .inl (.inl h)
    · exact .inr h
end Go.Proofs.YtbinoelbjlgjkaaGreatDoor.Cal
namespace Go.Proofs.YtbinoelbjlgjkaaGreatDoor
open Go Go.RowKit Go.Sort
/-- Texts as rows of one cell. -/
def txtRows (zs : List Cal.Txt) : List (List Value) := zs.map fun n => [encStr n]
/-- A slice of the call's own that reads as texts. -/
def TextsL (w : World) (B : Nat) (v : Value) (zs : List Cal.Txt) : Prop := OwnL w B 9 1 v (txtRows zs)
theorem txtRows_length (zs : List Cal.Txt) : (txtRows zs).length = zs.length := by unfold txtRows; simp
theorem txtRows_wid (zs : List Cal.Txt) : ∀ r ∈ txtRows zs, r.length = 1 := fun r hr => by obtain ⟨n, _, rfl⟩ := List.mem_map.1 hr; rfl
theorem txtRows_one (zs : List Cal.Txt) : ∀ r ∈ txtRows zs, ∀ u ∈ r, u.oneCell' = true := fun r hr u hu => by
  obtain ⟨n, _, rfl⟩ := List.mem_map.1 hr
  simp only [List.mem_singleton] at hu; subst hu; rfl
theorem txtRows_flat (zs : List Cal.Txt) : (txtRows zs).flatten = zs.map encStr := by
  induction zs with
  | nil => rfl
  | cons z zs ih => unfold txtRows at ih ⊢; rw [List.map_cons, List.flatten_cons, ih]; rfl
theorem elemTxt : Elem Tryz.prog 41 9 1 16 := Elem.mk' Tryz.underlying41 (z := .string ⟨#[]⟩) (by kernel_rfl) rfl (by decide)
theorem TextsL.own {w : World} {B : Nat} {v : Value} {zs : List Cal.Txt} (h : TextsL w B v zs) : w.ownsRow B 9 1 v zs.length (zs.map encStr) := by
  have := OwnL.own h
  rwa [txtRows_length, txtRows_flat] at this
theorem TextsL.of {w : World} {B : Nat} {v : Value} {zs : List Cal.Txt} (h : w.ownsRow B 9 1 v zs.length (zs.map encStr)) : TextsL w B v zs :=
  ⟨by rw [txtRows_length, txtRows_flat]; exact h, txtRows_wid zs, txtRows_one zs⟩
theorem TextsL.rows {w : World} {B : Nat} {v : Value} {zs : List Cal.Txt} (h : TextsL w B v zs) : ∃ A c, v = .slice A zs.length c ∧ RowsAt w A 1 (txtRows zs) := by
  obtain ⟨A, c, hv, hr⟩ := OwnL.form h
  exact ⟨A, c, by rw [hv, txtRows_length], hr⟩
theorem TextsL.block {w : World} {B g c : Nat} {zs : List Cal.Txt} {A : Option Addr} (h : TextsL w B (.slice A zs.length c) zs) (hA : A = some ⟨g, 0, none⟩) :
    ∃ cur, w.heap[g]? = some (.cells cur 9 (0, 0)) ∧ B ≤ g ∧ zs.length ≤ c ∧ c ≤ maxLen ∧ cur.size = c ∧ cur.toList.take zs.length = zs.map encStr := by
  subst hA
  rcases h.own.2 with ⟨h1, _⟩ | ⟨g', cap, cur, hv, hb, hg, h1, h2, h3, h4⟩
  · cases h1
  · simp only [Value.slice.injEq, Option.some.injEq, Addr.mk.injEq, and_true, true_and] at hv
    obtain ⟨rfl, rfl⟩ := hv
    exact ⟨cur, hg, hb, h1, h2, by omega, by rwa [Nat.mul_one] at h4⟩
theorem putCells_takeT {cur : Array Value} {ys : List Cal.Txt} (h : ys.length ≤ cur.size) : (putCells encStr 0 ys.toArray cur).toList.take ys.length = ys.map encStr ∧ (putCells encStr 0 ys.toArray cur).size = cur.size := by
  refine ⟨?_, by simp [putCells]⟩
  apply List.ext_getElem
  · simp [putCells]; omega
  · intro i h1 h2
    have hi : i < ys.length := by simpa using h2
    simp [putCells, hi]
theorem heap_putRow_sameT {w : World} {g : Nat} {cur : Array Value} {e : TypeId} {fr : Nat × Nat} {d : Array Cal.Txt} (h : w.heap[g]? = some (.cells cur e fr)) : (putRow encStr w g 0 d).heap[g]? = some (.cells (putCells encStr 0 d cur) e fr) := by
  simp [putRow, mapBlock, Array.getElem?_modify, h, onCells]
theorem heap_putRow_otherT {w : World} {g : Nat} {d : Array Cal.Txt} {k : Nat} (h : k ≠ g) : (putRow encStr w g 0 d).heap[k]? = w.heap[k]? := by
  simp [putRow, mapBlock, Array.getElem?_modify, Ne.symm h]
theorem TextsL.put {w : World} {B g c : Nat} {zs ys : List Cal.Txt} (h : TextsL w B (.slice (some ⟨g, 0, none⟩) zs.length c) zs) (hl : ys.length = zs.length) :
    TextsL (putRow encStr w g 0 ys.toArray) B (.slice (some ⟨g, 0, none⟩) ys.length c) ys ∧ w.grownBy (putRow encStr w g 0 ys.toArray) (some g) := by
  obtain ⟨cur, hg, hb, h1, h2, h3, h4⟩ := h.block rfl
  obtain ⟨t1, t2⟩ := putCells_takeT (cur := cur) (ys := ys) (by omega)
  refine ⟨TextsL.of ⟨by simp, .inr ⟨g, c, _, rfl, hb, heap_putRow_sameT hg, by omega, h2, by rw [t2, h3]; simp, by rw [Nat.mul_one]; exact t1⟩⟩, rfl, rfl, rfl, by simp, fun k _ hk => heap_putRow_otherT (fun e => hk (by rw [e]))⟩
theorem TextsL.cut {w : World} {B g c : Nat} {xs ys : List Cal.Txt} (h : TextsL w B (.slice (some ⟨g, 0, none⟩) (xs ++ ys).length c) (xs ++ ys)) : TextsL w B (.slice (some ⟨g, 0, none⟩) xs.length c) xs := by
  obtain ⟨cur, hg, hb, h1, h2, h3, h4⟩ := h.block rfl
  rw [List.length_append] at h1
  refine TextsL.of ⟨by simp, .inr ⟨g, c, cur, rfl, hb, hg, by omega, h2, by rw [h3]; simp, ?_⟩⟩
  rw [Nat.mul_one]
  have := congrArg (List.take xs.length) h4
  rw [List.take_take, List.map_append, List.length_append, Nat.min_eq_left (by omega), List.take_left' (by simp)] at this
  exact this
theorem TextsL.holds {w : World} {B g c : Nat} {zs : List Cal.Txt} (h : TextsL w B (.slice (some ⟨g, 0, none⟩) zs.length c) zs) : Holds encStr w g 0 zs.toArray := fun j hj => by
  obtain ⟨cur, hg, hb, h1, h2, h3, h4⟩ := h.block rfl
  have hj' : j < zs.length := by simpa using hj
  constructor
  · rw [cell_of_row w g (0 + j) cur _ (0, 0) hg, Nat.zero_add]
    have := congrArg (·[j]?) h4
    simp only [List.getElem?_take, hj', if_true, List.getElem?_map] at this
    rw [Array.getElem?_toList] at this
    rw [this]
    simp [hj']
  · exact h.own.frozenAt (0 + j)
theorem TextsL.less {w : World} {B B' : Nat} {v : Value} {zs : List Cal.Txt} (h : TextsL w B v zs) (hB : B' ≤ B) : TextsL w B' v zs := OwnL.less h hB
theorem TextsL.below {w w' : World} {B : Nat} {v : Value} {zs : List Cal.Txt} (h : TextsL w B v zs) (hb : Below w.heap.size w w') : TextsL w' B v zs := OwnL.below h hb
def SortPostT (w : World) (B : Nat) (v : Value) (zs : List Cal.Txt) (e : Ending) (w' : World) : Prop := e = .returned (.tuple #[]) ∧ TextsL w' B v (zs.mergeSort fun x y => decide (x ≤ y)) ∧ w.grownBy w' v.ownBlock
theorem SortT_own (w : World) (B : Nat) (v : Value) (zs : List Cal.Txt) (h : TextsL w B v zs) (hs : zs.length ≤ 1000000) :
    Calls Tryz.prog 137 #[v] w (SortPostT w B v zs) := by
  obtain ⟨A, c, rfl, hr⟩ := h.rows
  by_cases hne : zs = []
  · subst hne
    refine (Tryz.slices_Sort_string_none A c w).mono fun e w' ⟨he, hw⟩ => ?_
    subst hw
    exact ⟨he, by simpa using h, World.grownBy.refl _ _⟩
  · rcases h.own.2 with ⟨_, h0⟩ | ⟨g, cap, cur, hv, hb, hg, h1, h2, h3, h4⟩
    · exact absurd (List.eq_nil_of_length_eq_zero h0) hne
    · simp only [Value.slice.injEq, true_and] at hv
      obtain ⟨rfl, rfl⟩ := hv
      have hl : (zs.mergeSort fun x y => decide (x ≤ y)).length = zs.length := List.length_mergeSort zs
      refine (Tryz.slices_Sort_string g 0 c zs w h.holds (Array.getElem?_eq_some_iff.1 hg).1 (by omega)).mono fun e w' ⟨he, n, os, hw⟩ => ?_
      subst hw
      have hA : TextsL (Sort.ahead w n) B (.slice (some ⟨g, 0, none⟩) zs.length c) zs := h.below ⟨rfl, rfl, rfl, Nat.le_refl _, fun _ _ => rfl⟩
      obtain ⟨p1, p2⟩ := hA.put hl
      have p3 := p1.below (grow_below _ os)
      rw [hl] at p3
      refine ⟨he, p3, ⟨p2.os, p2.tape, p2.output, Nat.le_trans p2.size (grow_below _ os).size, fun k hk hne => ((grow_below _ os).block k (Nat.lt_of_lt_of_le hk p2.size)).trans (p2.block k hk hne)⟩⟩
def CompactPostT (w : World) (B : Nat) (v : Value) (zs : List Cal.Txt) (e : Ending) (w' : World) : Prop := ∃ v', e = .returned v' ∧ TextsL w' B v' (Lib.compact zs) ∧ w.grownBy w' v.ownBlock ∧ v'.ownBlock = v.ownBlock
theorem CompactT_own (w : World) (B : Nat) (v : Value) (zs : List Cal.Txt) (h : TextsL w B v zs) (hs : zs.length ≤ 1000000) :
    Calls Tryz.prog 138 #[v] w (CompactPostT w B v zs) := by
  obtain ⟨A, c, rfl, hr⟩ := h.rows
  by_cases hne : zs = []
  · subst hne
    refine (Tryz.slices_Compact_string_empty A c w).mono fun e w' ⟨he, hw⟩ => ?_
    subst hw
    exact ⟨_, he, h, World.grownBy.refl _ _, rfl⟩
  · rcases h.own.2 with ⟨_, h0⟩ | ⟨g, cap, cur, hv, hb, hg, h1, h2, h3, h4⟩
    · exact absurd (List.eq_nil_of_length_eq_zero h0) hne
    · simp only [Value.slice.injEq, true_and] at hv
      obtain ⟨rfl, rfl⟩ := hv
      refine (Tryz.slices_Compact_string g 0 c zs w h.holds (by omega) h1).mono fun e w' ⟨he, n, hw⟩ => ?_
      subst hw
      have hA : TextsL (Sort.ahead w n) B (.slice (some ⟨g, 0, none⟩) zs.length c) zs := h.below ⟨rfl, rfl, rfl, Nat.le_refl _, fun _ _ => rfl⟩
      have hcl := Lib.compact_length_le zs
      have hl : (Lib.compact zs ++ List.replicate (zs.length - (Lib.compact zs).length) []).length = zs.length := by simp; omega
      obtain ⟨p1, p2⟩ := hA.put hl
      exact ⟨_, he, p1.cut, ⟨p2.os, p2.tape, p2.output, p2.size, p2.block⟩, rfl⟩
end Go.Proofs.YtbinoelbjlgjkaaGreatDoor
namespace Go.Proofs.YtbinoelbjlgjkaaGreatDoor
open Go Go.RowKit
theorem encStr_of (b : ByteArray) : encStr b.data.toList = .string b := by simp [encStr]
def Cal.hasV (l : List Prov) (holds known : Int) (p : Prov) : Bool := (Cal.valOf l p.name holds known).2
/-- The names of entries that have a value, of the first k ones. -/
def Cal.nms (l : List Prov) (holds known : Int) (k : Nat) : List Cal.Txt := ((l.take k).filter (Cal.hasV l holds known)).map fun p => p.name.data.toList
/-- The names that have a value, ascending, each once. -/
def Cal.namesL (l : List Prov) (holds known : Int) : List Cal.Txt := Cal.tups (Cal.nms l holds known l.length)
theorem Cal.nms_snoc {l : List Prov} {k : Nat} (hlt : k < l.length) (holds known : Int) : Cal.nms l holds known (k + 1) = Cal.nms l holds known k ++ if (Cal.valOf l l[k].name holds known).2 = true then [l[k].name.data.toList] else [] := by
  unfold Cal.nms
  rw [List.take_succ_eq_append_getElem hlt, List.filter_append, List.map_append]
  congr 1
  by_cases h : Cal.hasV l holds known l[k] = true
  · have h' := h; unfold Cal.hasV at h'; simp [h, h']
  · have h' := h; unfold Cal.hasV at h'; simp [h, h']
theorem Cal.nms_length (l : List Prov) (holds known : Int) (k : Nat) : (Cal.nms l holds known k).length ≤ k := by
  unfold Cal.nms; rw [List.length_map]; exact Nat.le_trans (List.length_filter_le _ _) (by rw [List.length_take]; omega)
theorem Cal.namesL_length (l : List Prov) (holds known : Int) : (Cal.namesL l holds known).length ≤ l.length := Nat.le_trans (Cal.tups_length _) (Cal.nms_length _ _ _ _)
def NmPost (w : World) (zs : List Cal.Txt) (e : Ending) (w' : World) : Prop := ∃ v, e = .returned v ∧ TextsL w' w.heap.size v zs ∧ Below w.heap.size w w'
set_option maxRecDepth 100000 in
set_option maxHeartbeats 4000000 in
theorem names_any (A : Option Addr) (c : Nat) (l : List Prov) (holds known : Int) (hlen : l.length ≤ 1000) (w : World) (hl : Provs w A l) :
    Calls Tryz.prog 73 #[.slice A l.length c, .agg #[.int .i64 holds, .int .i64 known]] w (NmPost w (Cal.namesL l holds known)) := by
  have hl' := Lib.hid (fun w1 (h : Below w.heap.size w w1) => hl.below h)
  have hval := Lib.hid (fun nm w1 (h : Below w.heap.size w w1) => valueOf_any A c l nm holds known w1 (hl.below h))
  have hat0 := Lib.hid (AtCells.new w holds known 25)
  have hba := Lib.hid (below_alloc w (.cells #[.int .i64 holds, .int .i64 known] 25))
  have hst : Hid (TextsL (w.alloc (.cells #[.int .i64 holds, .int .i64 known] 25)) (w.heap.size + 1) (.slice none 0 0) (Cal.nms l holds known 0)) := OwnL.nil _ _ _ _
  have hfld := fun v b w => field_dec1 v b w
  clear hl
  go_enter Tryz.func73, Tryz.ntmps73
  go_wp2_with fail
  go_loopw [5, 10] (fun o i wr => ∃ k : Nat, k ≤ l.length ∧ i = .int .i64 k ∧ Hid (TextsL wr (w.heap.size + 1) o (Cal.nms l holds known k)) ∧ Hid (AtCells wr w.heap.size holds known) ∧ Hid (Below w.heap.size w wr)) (fun _ i _ => l.length - (intOf i).toNat)
  case atStart => exact ⟨0, Nat.zero_le _, rfl, hst, hat0, hba⟩
  case round =>
    obtain ⟨k, hk, rfl, hown, hat, hb⟩ := hrel
    clear hst hat0 hba
    have hbs := hat.out.lt
    by_cases hlt : k < l.length
    · have hk' : l[k]? = some l[k] := List.getElem?_eq_getElem hlt
      have hsn := Lib.hid (Cal.nms_snoc hlt holds known)
      have hln := Cal.nms_length l holds known k
      obtain ⟨b, o, rfl, hbl, c0, c1, c2, c3, c4⟩ := (hl'.out _ hb.out).at_ hk'
      clear hk'
      generalize l[k] = p at *
      have k0 := hat.out.c0
      have k1 := hat.out.c1
      have hv0 := hval.out p.name
      rcases hvq : Cal.valOf l p.name holds known with ⟨vv, vb⟩
      simp only [hvq] at hv0
      have hsn2 := hsn.out
      rw [hvq] at hsn2
      have hsn := Lib.hid hsn2
      clear hsn2 hvq
      have hv0 := Lib.hid hv0
      have hx := Lib.hid (ProvAt.new wr p 24)
      have hb1 := below_alloc wr (.cells #[.string p.name, .int .i64 p.value, .int .i64 p.fr, .int .i64 p.en, .bool p.repeal] 24)
      have hbw := Lib.hid (below_step hb.out hb1)
      have hat1 := Lib.hid (hat.out.below hb1)
      have hown1 := Lib.hid (hown.out.below hb1)
      clear hb1 hown
      go_wp2_with fail
      refine (hv0.out _ hbw.out).mono ?_
      rintro e w4 ⟨rfl, hb4⟩
      have hx4 := Lib.hid (hx.out.below hb4)
      have hat4 := Lib.hid (hat1.out.below hb4)
      have hown4 := Lib.hid (hown1.out.below hb4)
      have hbw4 := Lib.hid (below_step hbw.out hb4)
      clear hb4 hx hat1 hown1 hbw k0 k1 c0 c1 c2 c3 c4 hv0
      have hbs4 := hat4.out.lt
      cases vb
      · have hnx : Hid (Cal.nms l holds known (k + 1) = Cal.nms l holds known k) := by show _ = _; rw [hsn.out]; simp
        go_wp2_with fail
        go_roundw
        case rel => exact ⟨k + 1, by omega, by go_num, by rw [hnx.out]; exact hown4, hat4, hbw4⟩
        case measure => simp [intOf]; omega
      · have hnx : Hid (Cal.nms l holds known (k + 1) = Cal.nms l holds known k ++ [p.name.data.toList]) := by show _ = _; rw [hsn.out]; simp
        have x0 := hx4.out.c0
        have hsrc : Hid (RowsAt (w4.alloc (.cells #[.string p.name] 9)) (some ⟨w4.heap.size, 0, none⟩) 1 (txtRows [p.name.data.toList])) := by
          have h := rowsAt_new w4 [.string p.name] 9
          unfold txtRows
          rw [List.map_singleton, encStr_of]
          exact h
        generalize Cal.nms l holds known k = zs at *
        have hb5 := below_alloc w4 (.cells #[.string p.name] 9)
        have hown5 := Lib.hid (hown4.out.below hb5)
        clear hb5
        go_wp2_with (at_builtin; go_must (refine wpList_append_rows elemTxt rfl _ _ rfl rfl rfl hown5.out hsrc.out rfl (txtRows_wid [p.name.data.toList]) (txtRows_one [p.name.data.toList]) (by simp only [txtRows_length, List.length_singleton]; omega) (by decide) (by (try simp); omega) ?_); intro v' w5 hown6 hg6 _)
        have hb6 : Below (w.heap.size + 1) w4 w5 := ((Below.refl _ _).alloc (by omega) _).trans (grown_below hg6 (fun g e => (OwnL.lt hown5.out g e).1) (by simp; omega))
        have hb7 := Lib.hid (hbw4.out.trans (hb6.mono (Nat.le_succ _)))
        have hat7 : Hid (AtCells w5 w.heap.size holds known) := ⟨(hb6.cell (p := ⟨w.heap.size, 0, none⟩) (Nat.lt_succ_self _)).trans hat4.out.c0, (hb6.cell (p := ⟨w.heap.size, 1, none⟩) (Nat.lt_succ_self _)).trans hat4.out.c1, Nat.lt_of_lt_of_le hat4.out.lt hb6.size⟩
        have hown7 : Hid (TextsL w5 (w.heap.size + 1) v' (zs ++ [p.name.data.toList])) := by show OwnL _ _ _ _ _ _; unfold txtRows; rw [List.map_append]; exact hown6
        clear hb6 hown6 hg6 hown5 hsrc hown4 hat4 x0
        go_wp2_with fail
        go_roundw
        case rel => exact ⟨k + 1, by omega, by go_num, by rw [hnx.out]; exact hown7, hat7, hb7⟩
        case measure => simp [intOf]; omega
    · obtain rfl : k = l.length := by omega
      have hln := Cal.nms_length l holds known l.length
      have hN : Hid (Cal.tups (Cal.nms l holds known l.length) = Cal.namesL l holds known) := rfl
      generalize Cal.nms l holds known l.length = zs at *
      go_wp2_with fail
      refine (SortT_own _ (w.heap.size + 1) _ _ hown.out (by omega)).mono ?_
      rintro e w2 ⟨rfl, hs2, hg2⟩
      have hb2 := Lib.hid (hb.out.trans (grown_below hg2 (fun g e => Nat.le_trans (Nat.le_succ _) (OwnL.lt hown.out g e).1) hb.out.size))
      have hlm : (zs.mergeSort fun x y => decide (x ≤ y)).length = zs.length := List.length_mergeSort _
      have hs2 := Lib.hid hs2
      clear hg2 hown
      go_wp2_with fail
      refine (CompactT_own _ (w.heap.size + 1) _ _ hs2.out (by rw [hlm]; omega)).mono ?_
      rintro e w3 ⟨v3, rfl, hs3, hg3, _⟩
      have hb3 := hb2.out.trans (grown_below hg3 (fun g e => Nat.le_trans (Nat.le_succ _) (OwnL.lt hs2.out g e).1) hb2.out.size)
      go_wp2_with fail
      go_ret
      exact ⟨v3, rfl, by rw [← hN.out]; exact OwnL.less hs3 (Nat.le_succ _), hb3⟩
def Cal.namesR (l : List Prov) (holds known : Int) : List Cal.Txt := if Cal.atErr l [holds, known] = 0 then Cal.namesL l holds known else []
def NamesPost (w : World) (l : List Prov) (holds known : Int) (e : Ending) (w' : World) : Prop :=
  ∃ v, e = .returned (.tuple #[v, .int .i64 (Cal.atErr l [holds, known])]) ∧ TextsL w' w.heap.size v (Cal.namesR l holds known) ∧ Below w.heap.size w w'
set_option maxHeartbeats 1000000 in
theorem Names_any (A : Option Addr) (c : Nat) (l : List Prov) (holds known : Int) (w : World) (hl : Provs w A l) :
    Calls Tryz.prog 20 #[.slice A l.length c, .agg #[.int .i64 holds, .int .i64 known]] w (NamesPost w l holds known) := by
  have hat := Lib.hid (atRows w 25 holds known)
  have hat0 := Lib.hid (AtCells.new w holds known 25)
  have hl' := Lib.hid (fun w1 (h : Below w.heap.size w w1) => hl.below h)
  have hba := Lib.hid (below_alloc w (.cells #[.int .i64 holds, .int .i64 known] 25))
  clear hl
  by_cases h0 : Cal.atErr l [holds, known] = 0
  · have h0z := Lib.hid h0
    have h1 : (Cal.atErr l [holds, known] != 0) = false := by simpa using h0
    have hlen := Cal.atErr_len h0
    have hR : Hid (Cal.namesR l holds known = Cal.namesL l holds known) := by show _ = _; unfold Cal.namesR; rw [if_pos h0]
    clear h0
    go_enter Tryz.func20, Tryz.ntmps20
    go_wp2_with fail
    refine (checkAt_any _ _ l _ 2 [holds, known] _ (hl'.out _ hba.out) hat.out (by simp)).mono ?_
    rintro e w1 ⟨rfl, hb1⟩
    have hat1 := Lib.hid (hat0.out.below hb1)
    have hbw := Lib.hid (below_step hba.out hb1)
    have k0 := hat1.out.c0
    have k1 := hat1.out.c1
    clear hb1
    go_wp2_with fail
    refine (names_any A c l holds known (by omega) _ (hl'.out _ hbw.out)).mono ?_
    rintro e w2 ⟨v, rfl, hs, hb2⟩
    have hs := Lib.hid (OwnL.less hs hbw.out.size)
    have hb2 := Lib.hid (below_step hbw.out hb2)
    go_wp2_with fail
    go_ret2
    exact ⟨v, by rw [h0z.out]; rfl, by rw [hR.out]; exact hs.out, hb2.out⟩
  · have hR : Hid (Cal.namesR l holds known = []) := by show _ = _; unfold Cal.namesR; rw [if_neg h0]
    have h1 : (Cal.atErr l [holds, known] != 0) = true := by simpa using h0
    clear h0
    go_enter Tryz.func20, Tryz.ntmps20
    go_wp2_with fail
    refine (checkAt_any _ _ l _ 2 [holds, known] _ (hl'.out _ hba.out) hat.out (by simp)).mono ?_
    rintro e w1 ⟨rfl, hb1⟩
    have hbw := Lib.hid (below_step hba.out hb1)
    clear hb1
    go_wp2_with fail
    go_ret2
    exact ⟨_, rfl, by rw [hR.out]; exact OwnL.nil _ _ _ _, hbw.out⟩
end Go.Proofs.YtbinoelbjlgjkaaGreatDoor
