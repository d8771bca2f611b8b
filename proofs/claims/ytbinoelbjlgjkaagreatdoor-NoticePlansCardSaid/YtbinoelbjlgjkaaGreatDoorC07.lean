/- Chapter 8 and what it rests on: definitions and walks, part 07. -/
import Derived.Lib.SlicesCompact
import Derived.Test.YtbinoelbjlgjkaaGreatDoorC06
import Derived.Test.YtbinoelbjlgjkaaGreatDoorC05
import Derived.Laws.OwnMore
namespace Go.Proofs.YtbinoelbjlgjkaaGreatDoor.Cal
open Go.Lib
theorem up_ext : ∀ {xs ys : List Int}, xs.Pairwise (· < ·) → ys.Pairwise (· < ·) → (∀ d, d ∈ xs ↔ d ∈ ys) → xs = ys
  | [], [], _, _, _ => rfl
  | [], y :: ys, _, _, h => absurd ((h y).2 (List.mem_cons_self ..)) (by simp)
  | x :: xs, [], _, _, h => absurd ((h x).1 (List.mem_cons_self ..)) (by simp)
  | x :: xs, y :: ys, hx, hy, h => by
    rw [List.pairwise_cons] at hx hy
    have e : x = y := by
      rcases Int.lt_trichotomy x y with hlt | he | hgt
      · exfalso
        rcases List.mem_cons.1 ((h x).1 (List.mem_cons_self ..)) with he | hm
        · omega
        · have := hy.1 x hm; omega
      · exact he
      · exfalso
        rcases List.mem_cons.1 ((h y).2 (List.mem_cons_self ..)) with he | hm
        · omega
        · have := hx.1 y hm; omega
    subst e
    congr 1
    refine up_ext hx.2 hy.2 fun d => ⟨fun hd => ?_, fun hd => ?_⟩
    · rcases List.mem_cons.1 ((h d).1 (List.mem_cons_of_mem _ hd)) with he | hm
      · have := hx.1 d hd; omega
      · exact hm
    · rcases List.mem_cons.1 ((h d).2 (List.mem_cons_of_mem _ hd)) with he | hm
      · have := hy.1 d hd; omega
      · exact hm
theorem compactUpTo_spec (d : Array Int) (hs : ∀ i j, i ≤ j → j < d.size → d[i]! ≤ d[j]!) : ∀ m, m ≤ d.size →
    (compactUpTo d m).Pairwise (· < ·) ∧ ∀ x, x ∈ compactUpTo d m ↔ ∃ j, j < m ∧ d[j]! = x
  | 0, _ => ⟨List.Pairwise.nil, fun x => ⟨fun h => by simp [compactUpTo] at h, fun ⟨j, hj, _⟩ => by omega⟩⟩
  | m + 1, hm => by
    obtain ⟨ih1, ih2⟩ := compactUpTo_spec d hs m (by omega)
    rw [compactUpTo_succ]
    by_cases hk : keeps d m = true
    · rw [if_pos hk]
      refine ⟨?_, fun x => ?_⟩
      · rw [List.pairwise_append]
        refine ⟨ih1, List.pairwise_singleton .., fun a ha b hb => ?_⟩
        obtain ⟨j, hj, rfl⟩ := (ih2 a).1 ha
        simp only [List.mem_singleton] at hb
        subst hb
        have hm0 : m ≠ 0 := by omega
        have hne : d[m]! ≠ d[m - 1]! := by simpa [keeps, hm0] using hk
        have h1 := hs j (m - 1) (by omega) (by omega)
        have h2 := hs (m - 1) m (by omega) (by omega)
        omega
      · rw [List.mem_append, ih2, List.mem_singleton]
        constructor
        · rintro (⟨j, hj, rfl⟩ | rfl)
          · exact ⟨j, by omega, rfl⟩
          · exact ⟨m, by omega, rfl⟩
        · rintro ⟨j, hj, rfl⟩
          by_cases he : j = m
          · right; rw [he]
          · exact .inl ⟨j, by omega, rfl⟩
    · rw [if_neg hk, List.append_nil]
      refine ⟨ih1, fun x => ?_⟩
      rw [ih2]
      constructor
      · rintro ⟨j, hj, rfl⟩; exact ⟨j, by omega, rfl⟩
      · rintro ⟨j, hj, rfl⟩
        by_cases he : j = m
        · subst he
          have hk' : ¬ (j = 0 ∨ d[j]! ≠ d[j - 1]!) := by simpa [keeps] using hk
          refine ⟨j - 1, by omega, ?_⟩
          have : ¬ d[j]! ≠ d[j - 1]! := fun h => hk' (.inr h)
          exact (Classical.not_not.1 this).symm
        · exact ⟨j, by omega, rfl⟩
/-- The numbers of a list, ascending, each once. -/
def ups (zs : List Int) : List Int := compact (zs.mergeSort fun x y => decide (x ≤ y))
theorem sort_up (zs : List Int) : (zs.mergeSort fun x y => decide (x ≤ y)).Pairwise (· ≤ ·) := by
  have := List.pairwise_mergeSort (le := fun x y : Int => decide (x ≤ y)) (fun a b c => by simp; omega) (fun a b => by simp; omega) zs
  exact this.imp fun h => by simpa using h
theorem ups_spec (zs : List Int) : (ups zs).Pairwise (· < ·) ∧ ∀ d, d ∈ ups zs ↔ d ∈ zs := by
  have hp := sort_up zs
  have hsize : (zs.mergeSort fun x y => decide (x ≤ y)).toArray.size = (zs.mergeSort fun x y => decide (x ≤ y)).length := by simp
  obtain ⟨h1, h2⟩ := compactUpTo_spec (zs.mergeSort fun x y => decide (x ≤ y)).toArray (fun i j hij hj => by
    rcases Nat.lt_or_eq_of_le hij with hlt | rfl
    · have := List.pairwise_iff_getElem.1 hp i j (by omega) (by omega) hlt
      rw [getElem!_pos _ i (by omega), getElem!_pos _ j (by omega)]
      simpa using this
    · exact Int.le_refl _) _ (Nat.le_of_eq hsize.symm)
  refine ⟨h1, fun d => ?_⟩
  unfold ups compact
  rw [h2]
  constructor
  · rintro ⟨j, hj, rfl⟩
    rw [getElem!_pos _ j (by omega)]
    have : (zs.mergeSort fun x y => decide (x ≤ y)).toArray[j]'(by omega) ∈ (zs.mergeSort fun x y => decide (x ≤ y)) := by simp
    exact List.mem_mergeSort.1 this
  · intro hd
    obtain ⟨j, hj, he⟩ := List.getElem_of_mem (List.mem_mergeSort.2 hd)
    refine ⟨j, hj, ?_⟩
    rw [getElem!_pos _ j (by simpa using hj)]
    simpa using he
theorem ups_eq {zs ys : List Int} (h : ys.Pairwise (· < ·)) (hm : ∀ d, d ∈ ys ↔ d ∈ zs) : ups zs = ys :=
  up_ext (ups_spec zs).1 h fun d => by rw [(ups_spec zs).2, hm]
theorem ups_nil : ups [] = [] := ups_eq List.Pairwise.nil fun _ => Iff.rfl
theorem ups_length (zs : List Int) : (ups zs).length ≤ zs.length := by
  have h : (zs.mergeSort fun x y => decide (x ≤ y)).length = zs.length := List.length_mergeSort zs
  unfold ups compact compactUpTo
  rw [List.length_map]
  exact Nat.le_trans (List.length_filter_le _ _) (by rw [List.length_range]; omega)
end Go.Proofs.YtbinoelbjlgjkaaGreatDoor.Cal
namespace Go.Proofs.YtbinoelbjlgjkaaGreatDoor
open Go Go.RowKit Go.Sort
/-- A slice of the call's own that reads as numbers. -/
def IntsL (w : World) (B : Nat) (v : Value) (zs : List Int) : Prop := OwnL w B 3 1 v (intRows zs)
theorem intRows_length (zs : List Int) : (intRows zs).length = zs.length := by unfold intRows; simp
theorem intRows_wid (zs : List Int) : ∀ r ∈ intRows zs, r.length = 1 := fun r hr => by obtain ⟨n, _, rfl⟩ := List.mem_map.1 hr; rfl
theorem intRows_one (zs : List Int) : ∀ r ∈ intRows zs, ∀ u ∈ r, u.oneCell' = true := fun r hr u hu => by
  obtain ⟨n, _, rfl⟩ := List.mem_map.1 hr
  simp only [List.mem_singleton] at hu; subst hu; rfl
theorem intRows_flat (zs : List Int) : (intRows zs).flatten = zs.map (Value.int .i64) := by
  induction zs with
  | nil => rfl
  | cons z zs ih => unfold intRows at ih ⊢; rw [List.map_cons, List.flatten_cons, ih]; rfl
theorem elemInt : Elem Tryz.prog 57 3 1 8 := Elem.mk' Tryz.underlying57 (z := .int .i64 0) (by kernel_rfl) rfl (by decide)
theorem IntsL.own {w : World} {B : Nat} {v : Value} {zs : List Int} (h : IntsL w B v zs) : w.ownsRow B 3 1 v zs.length (zs.map (Value.int .i64)) := by
  have := OwnL.own h
  rwa [intRows_length, intRows_flat] at this
theorem IntsL.of {w : World} {B : Nat} {v : Value} {zs : List Int} (h : w.ownsRow B 3 1 v zs.length (zs.map (Value.int .i64))) : IntsL w B v zs :=
  ⟨by rw [intRows_length, intRows_flat]; exact h, intRows_wid zs, intRows_one zs⟩
theorem IntsL.rows {w : World} {B : Nat} {v : Value} {zs : List Int} (h : IntsL w B v zs) : ∃ A c, v = .slice A zs.length c ∧ RowsAt w A 1 (intRows zs) := by
  obtain ⟨A, c, hv, hr⟩ := OwnL.form h
  exact ⟨A, c, by rw [hv, intRows_length], hr⟩
theorem IntsL.block {w : World} {B g c : Nat} {zs : List Int} {A : Option Addr} (h : IntsL w B (.slice A zs.length c) zs) (hA : A = some ⟨g, 0, none⟩) :
    ∃ cur, w.heap[g]? = some (.cells cur 3 (0, 0)) ∧ B ≤ g ∧ zs.length ≤ c ∧ c ≤ maxLen ∧ cur.size = c ∧ cur.toList.take zs.length = zs.map (Value.int .i64) := by
  subst hA
  rcases h.own.2 with ⟨h1, _⟩ | ⟨g', cap, cur, hv, hb, hg, h1, h2, h3, h4⟩
  · cases h1
  · simp only [Value.slice.injEq, Option.some.injEq, Addr.mk.injEq, and_true, true_and] at hv
    obtain ⟨rfl, rfl⟩ := hv
    exact ⟨cur, hg, hb, h1, h2, by omega, by rwa [Nat.mul_one] at h4⟩
theorem putCells_take {cur : Array Value} {ys : List Int} (h : ys.length ≤ cur.size) : (putCells (Value.int .i64) 0 ys.toArray cur).toList.take ys.length = ys.map (Value.int .i64) ∧ (putCells (Value.int .i64) 0 ys.toArray cur).size = cur.size := by
  refine ⟨?_, by simp [putCells]⟩
  apply List.ext_getElem
  · simp [putCells]; omega
  · intro i h1 h2
    have hi : i < ys.length := by simpa using h2
    simp [putCells, hi]
theorem heap_putRow_same {w : World} {g : Nat} {cur : Array Value} {e : TypeId} {fr : Nat × Nat} {d : Array Int} (h : w.heap[g]? = some (.cells cur e fr)) : (putRow (Value.int .i64) w g 0 d).heap[g]? = some (.cells (putCells (Value.int .i64) 0 d cur) e fr) := by
  simp [putRow, mapBlock, Array.getElem?_modify, h, onCells]
theorem heap_putRow_other {w : World} {g : Nat} {d : Array Int} {k : Nat} (h : k ≠ g) : (putRow (Value.int .i64) w g 0 d).heap[k]? = w.heap[k]? := by
  simp [putRow, mapBlock, Array.getElem?_modify, Ne.symm h]
theorem IntsL.put {w : World} {B g c : Nat} {zs ys : List Int} (h : IntsL w B (.slice (some ⟨g, 0, none⟩) zs.length c) zs) (hl : ys.length = zs.length) :
    IntsL (putRow (Value.int .i64) w g 0 ys.toArray) B (.slice (some ⟨g, 0, none⟩) ys.length c) ys ∧ w.grownBy (putRow (Value.int .i64) w g 0 ys.toArray) (some g) := by
  obtain ⟨cur, hg, hb, h1, h2, h3, h4⟩ := h.block rfl
  obtain ⟨t1, t2⟩ := putCells_take (cur := cur) (ys := ys) (by omega)
  refine ⟨IntsL.of ⟨by simp, .inr ⟨g, c, _, rfl, hb, heap_putRow_same hg, by omega, h2, by rw [t2, h3]; simp, by rw [Nat.mul_one]; exact t1⟩⟩, rfl, rfl, rfl, by simp, fun k _ hk => heap_putRow_other (fun e => hk (by rw [e]))⟩
theorem IntsL.cut {w : World} {B g c : Nat} {xs ys : List Int} (h : IntsL w B (.slice (some ⟨g, 0, none⟩) (xs ++ ys).length c) (xs ++ ys)) : IntsL w B (.slice (some ⟨g, 0, none⟩) xs.length c) xs := by
  obtain ⟨cur, hg, hb, h1, h2, h3, h4⟩ := h.block rfl
  rw [List.length_append] at h1
  refine IntsL.of ⟨by simp, .inr ⟨g, c, cur, rfl, hb, hg, by omega, h2, by rw [h3]; simp, ?_⟩⟩
  rw [Nat.mul_one]
  have := congrArg (List.take xs.length) h4
  rw [List.take_take, List.map_append, List.length_append, Nat.min_eq_left (by omega), List.take_left' (by simp)] at this
  exact this
theorem IntsL.holds {w : World} {B g c : Nat} {zs : List Int} (h : IntsL w B (.slice (some ⟨g, 0, none⟩) zs.length c) zs) : Holds (Value.int .i64) w g 0 zs.toArray := fun j hj => by
  obtain ⟨cur, hg, hb, h1, h2, h3, h4⟩ := h.block rfl
  have hj' : j < zs.length := by simpa using hj
  constructor
  · rw [cell_of_row w g (0 + j) cur _ (0, 0) hg, Nat.zero_add]
    have := congrArg (·[j]?) h4
    simp only [List.getElem?_take, hj', if_true, List.getElem?_map] at this
    rw [Array.getElem?_toList] at this
    rw [this]
    simp [hj']
  · exact h.own.frozenAt (0 + j)
theorem IntsL.less {w : World} {B B' : Nat} {v : Value} {zs : List Int} (h : IntsL w B v zs) (hB : B' ≤ B) : IntsL w B' v zs := OwnL.less h hB
theorem IntsL.below {w w' : World} {B : Nat} {v : Value} {zs : List Int} (h : IntsL w B v zs) (hb : Below w.heap.size w w') : IntsL w' B v zs := OwnL.below h hb
theorem grow_below (w : World) (os : Array Obj) : Below w.heap.size w (grow w os) := ⟨rfl, rfl, rfl, by simp, fun k hk => by simp [grow, Array.getElem?_append_left hk]⟩
def SortPost (w : World) (B : Nat) (v : Value) (zs : List Int) (e : Ending) (w' : World) : Prop := e = .returned (.tuple #[]) ∧ IntsL w' B v (zs.mergeSort fun x y => decide (x ≤ y)) ∧ w.grownBy w' v.ownBlock
theorem Sort_own (w : World) (B : Nat) (v : Value) (zs : List Int) (h : IntsL w B v zs) (hs : zs.length ≤ 1000000) :
    Calls Tryz.prog 71 #[v] w (SortPost w B v zs) := by
  obtain ⟨A, c, rfl, hr⟩ := h.rows
  by_cases hne : zs = []
  · subst hne
    refine (Tryz.slices_Sort_int_none A c w).mono fun e w' ⟨he, hw⟩ => ?_
    subst hw
    exact ⟨he, by simpa using h, World.grownBy.refl _ _⟩
  · rcases h.own.2 with ⟨_, h0⟩ | ⟨g, cap, cur, hv, hb, hg, h1, h2, h3, h4⟩
    · exact absurd (List.eq_nil_of_length_eq_zero h0) hne
    · simp only [Value.slice.injEq, true_and] at hv
      obtain ⟨rfl, rfl⟩ := hv
      have hl : (zs.mergeSort fun x y => decide (x ≤ y)).length = zs.length := List.length_mergeSort zs
      refine (Tryz.slices_Sort_int g 0 c zs w h.holds (Array.getElem?_eq_some_iff.1 hg).1 (by omega)).mono fun e w' ⟨he, n, os, hw⟩ => ?_
      subst hw
      have hA : IntsL (Sort.ahead w n) B (.slice (some ⟨g, 0, none⟩) zs.length c) zs := h.below ⟨rfl, rfl, rfl, Nat.le_refl _, fun _ _ => rfl⟩
      obtain ⟨p1, p2⟩ := hA.put hl
      have p3 := p1.below (grow_below _ os)
      rw [hl] at p3
      refine ⟨he, p3, ⟨p2.os, p2.tape, p2.output, Nat.le_trans p2.size (grow_below _ os).size, fun k hk hne => ((grow_below _ os).block k (Nat.lt_of_lt_of_le hk p2.size)).trans (p2.block k hk hne)⟩⟩
def CompactPost (w : World) (B : Nat) (v : Value) (zs : List Int) (e : Ending) (w' : World) : Prop := ∃ v', e = .returned v' ∧ IntsL w' B v' (Lib.compact zs) ∧ w.grownBy w' v.ownBlock ∧ v'.ownBlock = v.ownBlock
theorem Compact_own (w : World) (B : Nat) (v : Value) (zs : List Int) (h : IntsL w B v zs) (hs : zs.length ≤ 1000000) :
    Calls Tryz.prog 72 #[v] w (CompactPost w B v zs) := by
  obtain ⟨A, c, rfl, hr⟩ := h.rows
  by_cases hne : zs = []
  · subst hne
    refine (Tryz.slices_Compact_int_empty A c w).mono fun e w' ⟨he, hw⟩ => ?_
    subst hw
    exact ⟨_, he, h, World.grownBy.refl _ _, rfl⟩
  · rcases h.own.2 with ⟨_, h0⟩ | ⟨g, cap, cur, hv, hb, hg, h1, h2, h3, h4⟩
    · exact absurd (List.eq_nil_of_length_eq_zero h0) hne
    · simp only [Value.slice.injEq, true_and] at hv
      obtain ⟨rfl, rfl⟩ := hv
      refine (Tryz.slices_Compact_int g 0 c zs w h.holds (by omega) h1).mono fun e w' ⟨he, n, hw⟩ => ?_
      subst hw
      have hA : IntsL (Sort.ahead w n) B (.slice (some ⟨g, 0, none⟩) zs.length c) zs := h.below ⟨rfl, rfl, rfl, Nat.le_refl _, fun _ _ => rfl⟩
      have hcl := Lib.compact_length_le zs
      have hl : (Lib.compact zs ++ List.replicate (zs.length - (Lib.compact zs).length) 0).length = zs.length := by simp; omega
      obtain ⟨p1, p2⟩ := hA.put hl
      exact ⟨_, he, p1.cut, ⟨p2.os, p2.tape, p2.output, p2.size, p2.block⟩, rfl⟩
end Go.Proofs.YtbinoelbjlgjkaaGreatDoor
