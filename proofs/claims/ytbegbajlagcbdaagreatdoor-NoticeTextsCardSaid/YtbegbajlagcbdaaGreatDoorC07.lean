/- Chapter 8 and what it rests on: definitions and walks, part 07. -/
import Derived.Lib.SlicesCompact
import Derived.Test.YtbegbajlagcbdaaGreatDoorC02
import Derived.Test.YtbegbajlagcbdaaGreatDoorC06
import Derived.Laws.OwnMore
import Derived.Lib.ItoaLen
import Derived.Laws.BytesString
namespace Go.Proofs.YtbegbajlagcbdaaGreatDoor.Cal
open Go.Lib
theorem up_ext : ∀ {xs ys : List Int}, xs.Pairwise (· < ·) → ys.Pairwise (· < ·) → (∀ d, d ∈ xs ↔ d ∈ ys) → xs = ys
  | [], [], _, _, _ => rfl
  | [], y :: ys, _, _, h => absurd ((h y).2 (List.mem_cons_self ..)) (by simp)
  | x :: xs, [], _, _, h => absurd ((h x).1 (List.mem_cons_self ..)) (by simp)
  | x :: xs, y :: ys, hx, hy, h => by
    rw [List.pairwise_cons] at hx hy
    have e : x = y := by
      rcases Int.lt_trichotomy x y with hlt | he | hgt
      · exfalso
        rcases List.mem_cons.1 ((h x).1 (List.mem_cons_self ..)) with he | hm
        · omega
        · have := hy.1 x hm; omega
      · exact he
      · exfalso
        rcases List.mem_cons.1 ((h y).2 (List.mem_cons_self ..)) with he | hm
        · omega
        · have := hx.1 y hm; omega
    subst e
    congr 1
    refine up_ext hx.2 hy.2 fun d => ⟨fun hd => ?_, fun hd => ?_⟩
    · rcases List.mem_cons.1 ((h d).1 (List.mem_cons_of_mem _ hd)) with he | hm
      · have := hx.1 d hd; omega
      · exact hm
    · rcases List.mem_cons.1 ((h d).2 (List.mem_cons_of_mem _ hd)) with he | hm
      · have := hy.1 d hd; omega
      · exact hm
theorem compactUpTo_spec (d : Array Int) (hs : ∀ i j, i ≤ j → j < d.size → d[i]! ≤ d[j]!) : ∀ m, m ≤ d.size →
    (compactUpTo d m).Pairwise (· < ·) ∧ ∀ x, x ∈ compactUpTo d m ↔ ∃ j, j < m ∧ d[j]! = x
  | 0, _ => ⟨List.Pairwise.nil, fun x => ⟨fun h => by simp [compactUpTo] at h, fun ⟨j, hj, _⟩ => by omega⟩⟩
  | m + 1, hm => by
    obtain ⟨ih1, ih2⟩ := compactUpTo_spec d hs m (by omega)
    rw [compactUpTo_succ]
    by_cases hk : keeps d m = true
    · rw [if_pos hk]
      refine ⟨?_, fun x => ?_⟩
      · rw [List.pairwise_append]
        refine ⟨ih1, List.pairwise_singleton .., fun a ha b hb => ?_⟩
        obtain ⟨j, hj, rfl⟩ := (ih2 a).1 ha
        simp only [List.mem_singleton] at hb
        subst hb
        have hm0 : m ≠ 0 := by omega
        have hne : d[m]! ≠ d[m - 1]! := by simpa [keeps, hm0] using hk
        have h1 := hs j (m - 1) (by omega) (by omega)
        have h2 := hs (m - 1) m (by omega) (by omega)
        omega
      · rw [List.mem_append, ih2, List.mem_singleton]
        constructor
        · rintro (⟨j, hj, rfl⟩ | rfl)
          · exact ⟨j, by omega, rfl⟩
          · exact ⟨m, by omega, rfl⟩
        · rintro ⟨j, hj, rfl⟩
          by_cases he : j = m
          · right; rw [he]
          · exact .inl ⟨j, by omega, rfl⟩
    · rw [if_neg hk, List.append_nil]
      refine ⟨ih1, fun x => ?_⟩
      rw [ih2]
      constructor
      · rintro ⟨j, hj, rfl⟩; exact ⟨j, by omega, rfl⟩
      · rintro ⟨j, hj, rfl⟩
        by_cases he : j = m
        · subst he
          have hk' : ¬ (j = 0 ∨ d[j]! ≠ d[j - 1]!) := by simpa [keeps] using hk
          refine ⟨j - 1, by omega, ?_⟩
          have : ¬ d[j]! ≠ d[j - 1]! := fun h => hk' (.inr h)
          exact (Classical.not_not.1 this).symm
        · exact ⟨j, by omega, rfl⟩
/-- The numbers of a list, ascending, each once. -/
def ups (zs : List Int) : List Int := compact (zs.mergeSort fun x y => decide (x ≤ y))
theorem sort_up (zs : List Int) : (zs.mergeSort fun x y => decide (x ≤ y)).Pairwise (· ≤ ·) := by
  have := List.pairwise_mergeSort (le := fun x y : Int => decide (x ≤ y)) (fun a b c => by simp; omega) (fun a b => by simp; omega) zs
  exact this.imp fun h => by simpa using h
theorem ups_spec (zs : List Int) : (ups zs).Pairwise (· < ·) ∧ ∀ d, d ∈ ups zs ↔ d ∈ zs := by
  have hp := sort_up zs
  have hsize : (zs.mergeSort fun x y => decide (x ≤ y)).toArray.size = (zs.mergeSort fun x y => decide (x ≤ y)).length := by simp
  obtain ⟨h1, h2⟩ := compactUpTo_spec (zs.mergeSort fun x y => decide (x ≤ y)).toArray (fun i j hij hj => by
    rcases Nat.lt_or_eq_of_le hij with hlt | rfl
    · have := List.pairwise_iff_getElem.1 hp i j (by omega) (by omega) hlt
      rw [getElem!_pos _ i (by omega), getElem!_pos _ j (by omega)]
      simpa using this
    · exact Int.le_refl _) _ (Nat.le_of_eq hsize.symm)
  refine ⟨h1, fun d => ?_⟩
  unfold ups compact
  rw [h2]
  constructor
  · rintro ⟨j, hj, rfl⟩
    rw [getElem!_pos _ j (by omega)]
    have : (zs.mergeSort fun x y => decide (x ≤ y)).toArray[j]'(by omega) ∈ (zs.mergeSort fun x y => decide (x ≤ y)) := by simp
    exact List.mem_mergeSort.1 this
  · intro hd
    obtain ⟨j, hj, he⟩ := List.getElem_of_mem (List.mem_mergeSort.2 hd)
    refine ⟨j, hj, ?_⟩
    rw [getElem!_pos _ j (by simpa using hj)]
    simpa using he
theorem ups_eq {zs ys : List Int} (h : ys.Pairwise (· < ·)) (hm : ∀ d, d ∈ ys ↔ d ∈ zs) : ups zs = ys :=
  up_ext (ups_spec zs).1 h fun d => by rw [(ups_spec zs).2, hm]
theorem ups_nil : ups [] = [] := ups_eq List.Pairwise.nil fun _ => Iff.rfl
theorem ups_length (zs : List Int) : (ups zs).length ≤ zs.length := by
  have h : (zs.mergeSort fun x y => decide (x ≤ y)).length = zs.length := List.length_mergeSort zs
  unfold ups compact compactUpTo
  rw [List.length_map]
  exact Nat.le_trans (List.length_filter_le _ _) (by rw [List.length_range]; omega)
end Go.Proofs.YtbegbajlagcbdaaGreatDoor.Cal
namespace Go.Proofs.YtbegbajlagcbdaaGreatDoor
open Go Go.RowKit Go.Sort
/-- A slice of the call's own that reads as numbers. -/
def IntsL (w : World) (B : Nat) (v : Value) (zs : List Int) : Prop := OwnL w B 3 1 v (intRows zs)
theorem intRows_length (zs : List Int) : (intRows zs).length = zs.length := by unfold intRows; simp
theorem intRows_wid (zs : List Int) : ∀ r ∈ intRows zs, r.length = 1 := fun r hr => by obtain ⟨n, _, rfl⟩ := List.mem_map.1 hr; rfl
theorem intRows_one (zs : List Int) : ∀ r ∈ intRows zs, ∀ u ∈ r, u.oneCell' = true := fun r hr u hu => by
  obtain ⟨n, _, rfl⟩ := List.mem_map.1 hr
  simp only [List.mem_singleton] at hu; subst hu; rfl
theorem intRows_flat (zs : List Int) : (intRows zs).flatten = zs.map (Value.int .i64) := by
  induction zs with
  | nil => rfl
  | cons z zs ih => unfold intRows at ih ⊢; rw [List.map_cons, List.flatten_cons, ih]; rfl
theorem elemInt : Elem Tryz.prog 32 3 1 8 := Elem.mk' Tryz.underlying32 (z := .int .i64 0) (by kernel_rfl) rfl (by decide)
theorem IntsL.own {w : World} {B : Nat} {v : Value} {zs : List Int} (h : IntsL w B v zs) : w.ownsRow B 3 1 v zs.length (zs.map (Value.int .i64)) := by
  have := OwnL.own h
  rwa [intRows_length, intRows_flat] at this
theorem IntsL.of {w : World} {B : Nat} {v : Value} {zs : List Int} (h : w.ownsRow B 3 1 v zs.length (zs.map (Value.int .i64))) : IntsL w B v zs :=
  ⟨by rw [intRows_length, intRows_flat]; exact h, intRows_wid zs, intRows_one zs⟩
theorem IntsL.rows {w : World} {B : Nat} {v : Value} {zs : List Int} (h : IntsL w B v zs) : ∃ A c, v = .slice A zs.length c ∧ RowsAt w A 1 (intRows zs) := by
  obtain ⟨A, c, hv, hr⟩ := OwnL.form h
  exact ⟨A, c, by rw [hv, intRows_length], hr⟩
theorem IntsL.block {w : World} {B g c : Nat} {zs : List Int} {A : Option Addr} (h : IntsL w B (.slice A zs.length c) zs) (hA : A = some ⟨g, 0, none⟩) :
    ∃ cur, w.heap[g]? = some (.cells cur 3 (0, 0)) ∧ B ≤ g ∧ zs.length ≤ c ∧ c ≤ maxLen ∧ cur.size = c ∧ cur.toList.take zs.length = zs.map (Value.int .i64) := by
  subst hA
  rcases h.own.2 with ⟨h1, _⟩ | ⟨g', cap, cur, hv, hb, hg, h1, h2, h3, h4⟩
  · cases h1
  · simp only [Value.slice.injEq, Option.some.injEq, Addr.mk.injEq, and_true, true_and] at hv
    obtain ⟨rfl, rfl⟩ := hv
    exact ⟨cur, hg, hb, h1, h2, by omega, by rwa [Nat.mul_one] at h4⟩
theorem putCells_take {cur : Array Value} {ys : List Int} (h : ys.length ≤ cur.size) : (putCells (Value.int .i64) 0 ys.toArray cur).toList.take ys.length = ys.map (Value.int .i64) ∧ (putCells (Value.int .i64) 0 ys.toArray cur).size = cur.size := by
  refine ⟨?_, by simp [putCells]⟩
  apply List.ext_getElem
  · simp [putCells]; omega
  · intro i h1 h2
    have hi : i < ys.length := by simpa using h2
    simp [putCells, hi]
theorem heap_putRow_same {w : World} {g : Nat} {cur : Array Value} {e : TypeId} {fr : Nat × Nat} {d : Array Int} (h : w.heap[g]? = some (.cells cur e fr)) : (putRow (Value.int .i64) w g 0 d).heap[g]? = some (.cells (putCells (Value.int .i64) 0 d cur) e fr) := by
  simp [putRow, mapBlock, Array.getElem?_modify, h, onCells]
theorem heap_putRow_other {w : World} {g : Nat} {d : Array Int} {k : Nat} (h : k ≠ g) : (putRow (Value.int .i64) w g 0 d).heap[k]? = w.heap[k]? := by
  simp [putRow, mapBlock, Array.getElem?_modify, Ne.symm h]
theorem IntsL.put {w : World} {B g c : Nat} {zs ys : List Int} (h : IntsL w B (.slice (some ⟨g, 0, none⟩) zs.length c) zs) (hl : ys.length = zs.length) :
    IntsL (putRow (Value.int .i64) w g 0 ys.toArray) B (.slice (some ⟨g, 0, none⟩) ys.length c) ys ∧ w.grownBy (putRow (Value.int .i64) w g 0 ys.toArray) (some g) := by
  obtain ⟨cur, hg, hb, h1, h2, h3, h4⟩ := h.block rfl
  obtain ⟨t1, t2⟩ := putCells_take (cur := cur) (ys := ys) (by omega)
  refine ⟨IntsL.of ⟨by simp, .inr ⟨g, c, _, rfl, hb, heap_putRow_same hg, by omega, h2, by rw [t2, h3]; simp, by rw [Nat.mul_one]; exact t1⟩⟩, rfl, rfl, rfl, by simp, fun k _ hk => heap_putRow_other (fun e => hk (by rw [e]))⟩
theorem IntsL.cut {w : World} {B g c : Nat} {xs ys : List Int} (h : IntsL w B (.slice (some ⟨g, 0, none⟩) (xs ++ ys).length c) (xs ++ ys)) : IntsL w B (.slice (some ⟨g, 0, none⟩) xs.length c) xs := by
  obtain ⟨cur, hg, hb, h1, h2, h3, h4⟩ := h.block rfl
  rw [List.length_append] at h1
  refine IntsL.of ⟨by simp, .inr ⟨g, c, cur, rfl, hb, hg, by omega, h2, by rw [h3]; simp, ?_⟩⟩
  rw [Nat.mul_one]
  have := congrArg (List.take xs.length) h4
  rw [List.take_take, List.map_append, List.length_append, Nat.min_eq_left (by omega), List.take_left' (by simp)] at this
  exact this
theorem IntsL.holds {w : World} {B g c : Nat} {zs : List Int} (h : IntsL w B (.slice (some ⟨g, 0, none⟩) zs.length c) zs) : Holds (Value.int .i64) w g 0 zs.toArray := fun j hj => by
  obtain ⟨cur, hg, hb, h1, h2, h3, h4⟩ := h.block rfl
  have hj' : j < zs.length := by simpa using hj
  constructor
  · rw [cell_of_row w g (0 + j) cur _ (0, 0) hg, Nat.zero_add]
    have := congrArg (·[j]?) h4
    simp only [List.getElem?_take, hj', if_true, List.getElem?_map] at this
    rw [Array.getElem?_toList] at this
    rw [this]
    simp [hj']
  · exact h.own.frozenAt (0 + j)
theorem IntsL.less {w : World} {B B' : Nat} {v : Value} {zs : List Int} (h : IntsL w B v zs) (hB : B' ≤ B) : IntsL w B' v zs := OwnL.less h hB
theorem IntsL.below {w w' : World} {B : Nat} {v : Value} {zs : List Int} (h : IntsL w B v zs) (hb : Below w.heap.size w w') : IntsL w' B v zs := OwnL.below h hb
theorem grow_below (w : World) (os : Array Obj) : Below w.heap.size w (grow w os) := ⟨rfl, rfl, rfl, by simp, fun k hk => by simp [grow, Array.getElem?_append_left hk]⟩
def SortPost (w : World) (B : Nat) (v : Value) (zs : List Int) (e : Ending) (w' : World) : Prop := e = .returned (.tuple #[]) ∧ IntsL w' B v (zs.mergeSort fun x y => decide (x ≤ y)) ∧ w.grownBy w' v.ownBlock
theorem Sort_own (w : World) (B : Nat) (v : Value) (zs : List Int) (h : IntsL w B v zs) (hs : zs.length ≤ 1000000) :
    Calls Tryz.prog 197 #[v] w (SortPost w B v zs) := by
  obtain ⟨A, c, rfl, hr⟩ := h.rows
  by_cases hne : zs = []
  · subst hne
    refine (Tryz.slices_Sort_int_none A c w).mono fun e w' ⟨he, hw⟩ => ?_
    subst hw
    exact ⟨he, by simpa using h, World.grownBy.refl _ _⟩
  · rcases h.own.2 with ⟨_, h0⟩ | ⟨g, cap, cur, hv, hb, hg, h1, h2, h3, h4⟩
    · exact absurd (List.eq_nil_of_length_eq_zero h0) hne
    · simp only [Value.slice.injEq, true_and] at hv
      obtain ⟨rfl, rfl⟩ := hv
      have hl : (zs.mergeSort fun x y => decide (x ≤ y)).length = zs.length := List.length_mergeSort zs
      refine (Tryz.slices_Sort_int g 0 c zs w h.holds (Array.getElem?_eq_some_iff.1 hg).1 (by omega)).mono fun e w' ⟨he, n, os, hw⟩ => ?_
      subst hw
      have hA : IntsL (Sort.ahead w n) B (.slice (some ⟨g, 0, none⟩) zs.length c) zs := h.below ⟨rfl, rfl, rfl, Nat.le_refl _, fun _ _ => rfl⟩
      obtain ⟨p1, p2⟩ := hA.put hl
      have p3 := p1.below (grow_below _ os)
      rw [hl] at p3
      refine ⟨he, p3, ⟨p2.os, p2.tape, p2.output, Nat.le_trans p2.size (grow_below _ os).size, fun k hk hne => ((grow_below _ os).block k (Nat.lt_of_lt_of_le hk p2.size)).trans (p2.block k hk hne)⟩⟩
def CompactPost (w : World) (B : Nat) (v : Value) (zs : List Int) (e : Ending) (w' : World) : Prop := ∃ v', e = .returned v' ∧ IntsL w' B v' (Lib.compact zs) ∧ w.grownBy w' v.ownBlock ∧ v'.ownBlock = v.ownBlock
theorem Compact_own (w : World) (B : Nat) (v : Value) (zs : List Int) (h : IntsL w B v zs) (hs : zs.length ≤ 1000000) :
    Calls Tryz.prog 125 #[v] w (CompactPost w B v zs) := by
  obtain ⟨A, c, rfl, hr⟩ := h.rows
  by_cases hne : zs = []
  · subst hne
    refine (Tryz.slices_Compact_int_empty A c w).mono fun e w' ⟨he, hw⟩ => ?_
    subst hw
    exact ⟨_, he, h, World.grownBy.refl _ _, rfl⟩
  · rcases h.own.2 with ⟨_, h0⟩ | ⟨g, cap, cur, hv, hb, hg, h1, h2, h3, h4⟩
    · exact absurd (List.eq_nil_of_length_eq_zero h0) hne
    · simp only [Value.slice.injEq, true_and] at hv
      obtain ⟨rfl, rfl⟩ := hv
      refine (Tryz.slices_Compact_int g 0 c zs w h.holds (by omega) h1).mono fun e w' ⟨he, n, hw⟩ => ?_
      subst hw
      have hA : IntsL (Sort.ahead w n) B (.slice (some ⟨g, 0, none⟩) zs.length c) zs := h.below ⟨rfl, rfl, rfl, Nat.le_refl _, fun _ _ => rfl⟩
      have hcl := Lib.compact_length_le zs
      have hl : (Lib.compact zs ++ List.replicate (zs.length - (Lib.compact zs).length) 0).length = zs.length := by simp; omega
      obtain ⟨p1, p2⟩ := hA.put hl
      exact ⟨_, he, p1.cut, ⟨p2.os, p2.tape, p2.output, p2.size, p2.block⟩, rfl⟩
end Go.Proofs.YtbegbajlagcbdaaGreatDoor
namespace Go.Proofs.YtbegbajlagcbdaaGreatDoor
open Go Go.RowKit Go.Sort
/-- Texts as rows of one cell. -/
def txtRows (zs : List Cal.Txt) : List (List Value) := zs.map fun n => [encStr n]
/-- A slice of the call's own that reads as texts. -/
def TextsL (w : World) (B : Nat) (v : Value) (zs : List Cal.Txt) : Prop := OwnL w B 9 1 v (txtRows zs)
theorem txtRows_length (zs : List Cal.Txt) : (txtRows zs).length = zs.length := by unfold txtRows; simp
theorem txtRows_wid (zs : List Cal.Txt) : ∀ r ∈ txtRows zs, r.length = 1 := fun r hr => by obtain ⟨n, _, rfl⟩ := List.mem_map.1 hr; rfl
theorem txtRows_one (zs : List Cal.Txt) : ∀ r ∈ txtRows zs, ∀ u ∈ r, u.oneCell' = true := fun r hr u hu => by
  obtain ⟨n, _, rfl⟩ := List.mem_map.1 hr
  simp only [List.mem_singleton] at hu; subst hu; rfl
theorem txtRows_flat (zs : List Cal.Txt) : (txtRows zs).flatten = zs.map encStr := by
  induction zs with
  | nil => rfl
  | cons z zs ih => unfold txtRows at ih ⊢; rw [List.map_cons, List.flatten_cons, ih]; rfl
theorem elemTxt : Elem Tryz.prog 165 9 1 16 := Elem.mk' Tryz.underlying165 (z := .string ⟨#[]⟩) (by kernel_rfl) rfl (by decide)
theorem TextsL.own {w : World} {B : Nat} {v : Value} {zs : List Cal.Txt} (h : TextsL w B v zs) : w.ownsRow B 9 1 v zs.length (zs.map encStr) := by
  have := OwnL.own h
  rwa [txtRows_length, txtRows_flat] at this
theorem TextsL.of {w : World} {B : Nat} {v : Value} {zs : List Cal.Txt} (h : w.ownsRow B 9 1 v zs.length (zs.map encStr)) : TextsL w B v zs :=
  ⟨by rw [txtRows_length, txtRows_flat]; exact h, txtRows_wid zs, txtRows_one zs⟩
theorem TextsL.rows {w : World} {B : Nat} {v : Value} {zs : List Cal.Txt} (h : TextsL w B v zs) : ∃ A c, v = .slice A zs.length c ∧ RowsAt w A 1 (txtRows zs) := by
  obtain ⟨A, c, hv, hr⟩ := OwnL.form h
  exact ⟨A, c, by rw [hv, txtRows_length], hr⟩
theorem TextsL.block {w : World} {B g c : Nat} {zs : List Cal.Txt} {A : Option Addr} (h : TextsL w B (.slice A zs.length c) zs) (hA : A = some ⟨g, 0, none⟩) :
    ∃ cur, w.heap[g]? = some (.cells cur 9 (0, 0)) ∧ B ≤ g ∧ zs.length ≤ c ∧ c ≤ maxLen ∧ cur.size = c ∧ cur.toList.take zs.length = zs.map encStr := by
  subst hA
  rcases h.own.2 with ⟨h1, _⟩ | ⟨g', cap, cur, hv, hb, hg, h1, h2, h3, h4⟩
  · cases h1
  · simp only [Value.slice.injEq, Option.some.injEq, Addr.mk.injEq, and_true, true_and] at hv
    obtain ⟨rfl, rfl⟩ := hv
    exact ⟨cur, hg, hb, h1, h2, by omega, by rwa [Nat.mul_one] at h4⟩
theorem putCells_takeT {cur : Array Value} {ys : List Cal.Txt} (h : ys.length ≤ cur.size) : (putCells encStr 0 ys.toArray cur).toList.take ys.length = ys.map encStr ∧ (putCells encStr 0 ys.toArray cur).size = cur.size := by
  refine ⟨?_, by simp [putCells]⟩
  apply List.ext_getElem
  · simp [putCells]; omega
  · intro i h1 h2
    have hi : i < ys.length := by simpa using h2
    simp [putCells, hi]
theorem heap_putRow_sameT {w : World} {g : Nat} {cur : Array Value} {e : TypeId} {fr : Nat × Nat} {d : Array Cal.Txt} (h : w.heap[g]? = some (.cells cur e fr)) : (putRow encStr w g 0 d).heap[g]? = some (.cells (putCells encStr 0 d cur) e fr) := by
  simp [putRow, mapBlock, Array.getElem?_modify, h, onCells]
theorem heap_putRow_otherT {w : World} {g : Nat} {d : Array Cal.Txt} {k : Nat} (h : k ≠ g) : (putRow encStr w g 0 d).heap[k]? = w.heap[k]? := by
  simp [putRow, mapBlock, Array.getElem?_modify, Ne.symm h]
theorem TextsL.put {w : World} {B g c : Nat} {zs ys : List Cal.Txt} (h : TextsL w B (.slice (some ⟨g, 0, none⟩) zs.length c) zs) (hl : ys.length = zs.length) :
    TextsL (putRow encStr w g 0 ys.toArray) B (.slice (some ⟨g, 0, none⟩) ys.length c) ys ∧ w.grownBy (putRow encStr w g 0 ys.toArray) (some g) := by
  obtain ⟨cur, hg, hb, h1, h2, h3, h4⟩ := h.block rfl
  obtain ⟨t1, t2⟩ := putCells_takeT (cur := cur) (ys := ys) (by omega)
  refine ⟨TextsL.of ⟨by simp, .inr ⟨g, c, _, rfl, hb, heap_putRow_sameT hg, by omega, h2, by rw [t2, h3]; simp, by rw [Nat.mul_one]; exact t1⟩⟩, rfl, rfl, rfl, by simp, fun k _ hk => heap_putRow_otherT (fun e => hk (by rw [e]))⟩
theorem TextsL.cut {w : World} {B g c : Nat} {xs ys : List Cal.Txt} (h : TextsL w B (.slice (some ⟨g, 0, none⟩) (xs ++ ys).length c) (xs ++ ys)) : TextsL w B (.slice (some ⟨g, 0, none⟩) xs.length c) xs := by
  obtain ⟨cur, hg, hb, h1, h2, h3, h4⟩ := h.block rfl
  rw [List.length_append] at h1
  refine TextsL.of ⟨by simp, .inr ⟨g, c, cur, rfl, hb, hg, by omega, h2, by rw [h3]; simp, ?_⟩⟩
  rw [Nat.mul_one]
  have := congrArg (List.take xs.length) h4
  rw [List.take_take, List.map_append, List.length_append, Nat.min_eq_left (by omega), List.take_left' (by simp)] at this
  exact this
theorem TextsL.holds {w : World} {B g c : Nat} {zs : List Cal.Txt} (h : TextsL w B (.slice (some ⟨g, 0, none⟩) zs.length c) zs) : Holds encStr w g 0 zs.toArray := fun j hj => by
  obtain ⟨cur, hg, hb, h1, h2, h3, h4⟩ := h.block rfl
  have hj' : j < zs.length := by simpa using hj
  constructor
  · rw [cell_of_row w g (0 + j) cur _ (0, 0) hg, Nat.zero_add]
    have := congrArg (·[j]?) h4
    simp only [List.getElem?_take, hj', if_true, List.getElem?_map] at this
    rw [Array.getElem?_toList] at this
    rw [this]
    simp [hj']
  · exact h.own.frozenAt (0 + j)
theorem TextsL.less {w : World} {B B' : Nat} {v : Value} {zs : List Cal.Txt} (h : TextsL w B v zs) (hB : B' ≤ B) : TextsL w B' v zs := OwnL.less h hB
theorem TextsL.below {w w' : World} {B : Nat} {v : Value} {zs : List Cal.Txt} (h : TextsL w B v zs) (hb : Below w.heap.size w w') : TextsL w' B v zs := OwnL.below h hb
def SortPostT (w : World) (B : Nat) (v : Value) (zs : List Cal.Txt) (e : Ending) (w' : World) : Prop := e = .returned (.tuple #[]) ∧ TextsL w' B v (zs.mergeSort fun x y => decide (x ≤ y)) ∧ w.grownBy w' v.ownBlock
def CompactPostT (w : World) (B : Nat) (v : Value) (zs : List Cal.Txt) (e : Ending) (w' : World) : Prop := ∃ v', e = .returned v' ∧ TextsL w' B v' (Lib.compact zs) ∧ w.grownBy w' v.ownBlock ∧ v'.ownBlock = v.ownBlock
end Go.Proofs.YtbegbajlagcbdaaGreatDoor
namespace Go.Proofs.YtbegbajlagcbdaaGreatDoor
open Go Go.RowKit
def Cal.rest (u : Nat) : List UInt8 := if u = 0 then [] else Lib.decDigits u
theorem Cal.dec_step (u : Nat) : Lib.decDigits u = Cal.rest (u / 10) ++ [UInt8.ofNat (48 + u % 10)] := by
  rw [Lib.decDigits]
  split
  · rename_i h
    rw [show u / 10 = 0 by omega, show u % 10 = u by omega]
    rfl
  · rename_i h
    unfold Cal.rest
    rw [if_neg (by omega)]
/-- What the loop of Decimal keeps: the number's digits, those that are left ahead of those that are written. -/
def DecI (U u : Nat) (s : ByteArray) : Prop := (s.data.toList = [] ∧ u = U) ∨ (s.data.toList ≠ [] ∧ Cal.rest u ++ s.data.toList = Lib.decDigits U)
theorem DecI.step {U u : Nat} {s t : ByteArray} (h : DecI U u s) (hc : s.data.toList = [] ∨ u ≠ 0) (ht : t.data.toList = UInt8.ofNat (48 + u % 10) :: s.data.toList) : DecI U (u / 10) t := by
  refine .inr ⟨by rw [ht]; simp, ?_⟩
  rcases h with ⟨h1, rfl⟩ | ⟨h1, h2⟩
  · rw [ht, h1, Cal.dec_step u]
  · have hu : u ≠ 0 := hc.elim (fun h => absurd h h1) id
    rw [ht, ← h2]
    unfold Cal.rest
    rw [if_neg hu, Cal.dec_step u]
    unfold Cal.rest
    simp
theorem DecI.toDone {U u : Nat} {s : ByteArray} (h : DecI U u s) (hu : u = 0) (hc : s.data.toList ≠ []) : s.data.toList = Lib.decDigits U := by
  subst hu
  rcases h with ⟨h1, _⟩ | ⟨_, h2⟩
  · exact absurd h1 hc
  · unfold Cal.rest at h2; simpa using h2
theorem DecI.done {U : Nat} {s : ByteArray} (h : DecI U 0 s) (hc : s.data.toList ≠ []) : s.data.toList = Lib.decDigits U := by
  rcases h with ⟨h1, _⟩ | ⟨_, h2⟩
  · exact absurd h1 hc
  · unfold Cal.rest at h2; simpa using h2
theorem AbsD_pos (n : Int) (h : 0 ≤ n) (h2 : n ≤ 9) (w : World) : Calls Tryz.prog 149 #[.int .i64 n] w fun e w' => e = .returned (.int .i64 n) ∧ w = w' := by
  by_cases h0 : n = 0
  · subst h0
    go_enter Tryz.func149, Tryz.ntmps149
    go_wp2
    go_ret
    exact ⟨ret_int (by omega), rfl⟩
  · have h1 : 1 ≤ n := by omega
    clear h0
    go_enter Tryz.func149, Tryz.ntmps149
    go_wp2
    go_ret
    exact ⟨ret_int (by omega), rfl⟩
theorem AbsD_neg (n : Int) (h : n < 0) (h2 : -9 ≤ n) (w : World) : Calls Tryz.prog 149 #[.int .i64 n] w fun e w' => e = .returned (.int .i64 (-n)) ∧ w = w' := by
  go_enter Tryz.func149, Tryz.ntmps149
  go_wp2
  go_ret
  exact ⟨ret_int (by omega), rfl⟩
theorem AbsD_opp (d : Int) (h : 0 ≤ d) (h2 : d ≤ 9) (w : World) : Calls Tryz.prog 149 #[.int .i64 (-d)] w fun e w' => e = .returned (.int .i64 d) ∧ w = w' := by
  by_cases h0 : d = 0
  · subst h0; exact AbsD_pos 0 (by omega) (by omega) w
  · have := AbsD_neg (-d) (by omega) (by omega) w
    rwa [Int.neg_neg] at this
/-- A slice of one byte as a text. -/
theorem run_byte1 (w : World) (x : Int) : (convert 169 9 (.slice (some ⟨w.heap.size, 0, none⟩) 1 1)).run Tryz.prog (w.alloc (.cells #[.int .u8 x] 5)) = .ok (.string ⟨#[UInt8.ofNat x.toNat]⟩) (w.alloc (.cells #[.int .u8 x] 5)) := by
  rw [run_convert_bytes_string _ _ _ 5 _ _ _ Tryz.underlying169 Tryz.underlying5 Tryz.underlying9]
  rw [run_bytesToString (ns := [x])]
  · rfl
  · exact run_loadCells_list _ _ [.int .u8 x] (fun j v hv => by
      match j, hv with
      | 0, hv => simp at hv; subst hv; simp [Addr.add])
theorem DecI.size {U u : Nat} {s : ByteArray} (h : DecI U u s) (hU : (U : Int) ≤ 9223372036854775808) : s.size ≤ 40 := by
  have hl : (Lib.decDigits U).length ≤ 40 := by
    by_cases h0 : U = 0
    · subst h0; rw [Lib.decDigits_one (by omega)]; simp
    · have := Lib.itoa_length_le (-(U : Int)) (by omega) (by omega)
      rw [Lib.itoa_neg U (by omega)] at this
      simp at this
      omega
  have e : s.size = s.data.toList.length := by rw [Array.length_toList]; rfl
  rcases h with ⟨h1, _⟩ | ⟨_, h2⟩
  · rw [e, h1]; simp
  · have := congrArg List.length h2
    rw [List.length_append] at this
    omega
theorem nil_of {t : ByteArray} (h : (t.toList == []) = true) : t.data.toList = [] := by rw [ByteArray.toList_eq] at h; simpa using h
theorem size_nil {t : ByteArray} (h : t.data.toList = []) : t.size = 0 := by
  have e : t.size = t.data.toList.length := by rw [Array.length_toList]; rfl
  rw [e, h]; rfl
theorem ne_of {t : ByteArray} (h : (t.toList == []) = false) : t.data.toList ≠ [] := by rw [ByteArray.toList_eq] at h; simpa using h
theorem str_of {t : ByteArray} {l : List UInt8} (h : t.data.toList = l) : Value.string t = .string ⟨l.toArray⟩ := by rw [← h]
def decM (s m : Value) : Nat := 2 * (intOf m).natAbs + (match s with | .string t => if t.size = 0 then 1 else 0 | _ => 0)
theorem decM_pos {s s' m m' : Value} (h : (intOf m').natAbs < (intOf m).natAbs) : decM s' m' < decM s m := by
  unfold decM
  have : ∀ v : Value, (match v with | .string t => if t.size = 0 then 1 else 0 | _ => 0) ≤ 1 := fun v => by split <;> (try split) <;> omega
  have h1 := this s'
  omega
theorem decM_zero {t t' : ByteArray} {m m' : Value} (h : (intOf m').natAbs ≤ (intOf m).natAbs) (h1 : t.size = 0) (h2 : t'.size ≠ 0) : decM (.string t') m' < decM (.string t) m := by
  show 2 * _ + (if t'.size = 0 then 1 else 0) < 2 * _ + (if t.size = 0 then 1 else 0)
  rw [if_pos h1, if_neg h2]; omega
set_option maxRecDepth 100000 in
set_option maxHeartbeats 1000000 in
theorem Decimal_pos (n : Int) (h0 : 0 ≤ n) (h1 : n ≤ 9223372036854775807) (w : World) :
    Calls Tryz.prog 89 #[.int .i64 n] w fun e w' => e = .returned (.string ⟨(Lib.itoa n).toArray⟩) ∧ Below w.heap.size w w' := by
  obtain ⟨U, rfl⟩ : ∃ U : Nat, n = U := ⟨n.toNat, by omega⟩
  have hI0 : Hid (DecI U U ⟨#[]⟩) := .inl ⟨rfl, rfl⟩
  go_enter Tryz.func89, Tryz.ntmps89
  go_wp2_with fail
  go_loopw [3, 4] (fun s m wr => ∃ (t : ByteArray) (u : Nat), s = .string t ∧ m = .int .i64 u ∧ u ≤ U ∧ Hid (DecI U u t) ∧ Hid (Below w.heap.size w wr)) (fun s m _ => decM s m)
  case atStart => exact ⟨_, U, rfl, rfl, Nat.le_refl _, hI0, Below.refl _ _⟩
  case round =>
    obtain ⟨t, u, rfl, rfl, hu, hI, hb⟩ := hrel
    clear hI0
    have hd0 : 0 ≤ (u : Int) % 10 := by omega
    have hd9 : (u : Int) % 10 ≤ 9 := by omega
    cases ht : t.toList == []
    · by_cases hu0 : u = 0
      · have hfin : Hid (t.data.toList = Lib.decDigits U) := hI.out.toDone hu0 (ne_of ht)
        have hne : ((u : Int) != 0) = false := by simp; omega
        go_wp2_with fail
        go_ret
        exact ⟨by rw [str_of hfin.out, Lib.itoa_nonneg]; rfl, hb.out⟩
      · have hne : ((u : Int) != 0) = true := by simp; omega
        have hts := hI.out.size (by omega)
        have hcv := run_byte1 wr (48 + (u : Int) % 10)
        have hst : Hid (∀ x : ByteArray, x.data.toList = UInt8.ofNat (48 + u % 10) :: t.data.toList → DecI U (u / 10) x) := Lib.hid fun x hx => hI.out.step (by first | exact .inl (nil_of ht) | exact .inr hu0) hx
        go_wp2_with fail
        refine (AbsD_pos _ hd0 hd9 _).mono ?_
        rintro e w1 ⟨rfl, rfl⟩
        go_wp2_with fail
        go_roundw
        case rel => exact ⟨_, u / 10, rfl, by go_num, by omega, hst.out _ (by simp), hb.out.alloc hb.out.size _⟩
        case measure => first | exact decM_pos (by simp [intOf]; omega) | exact decM_zero (by simp [intOf]; omega) (size_nil (nil_of ht)) (by rw [ByteArray.size_append]; show 1 + _ ≠ 0; omega)
    · have hts := hI.out.size (by omega)
      have hcv := run_byte1 wr (48 + (u : Int) % 10)
      have hst : Hid (∀ x : ByteArray, x.data.toList = UInt8.ofNat (48 + u % 10) :: t.data.toList → DecI U (u / 10) x) := Lib.hid fun x hx => hI.out.step (by first | exact .inl (nil_of ht) | exact .inr hu0) hx
      go_wp2_with fail
      refine (AbsD_pos _ hd0 hd9 _).mono ?_
      rintro e w1 ⟨rfl, rfl⟩
      go_wp2_with fail
      go_roundw
      case rel => exact ⟨_, u / 10, rfl, by go_num, by omega, hst.out _ (by simp), hb.out.alloc hb.out.size _⟩
      case measure => first | exact decM_pos (by simp [intOf]; omega) | exact decM_zero (by simp [intOf]; omega) (size_nil (nil_of ht)) (by rw [ByteArray.size_append]; show 1 + _ ≠ 0; omega)
set_option maxRecDepth 100000 in
set_option maxHeartbeats 1000000 in
theorem Decimal_neg (n : Int) (h0 : n < 0) (h1 : -9223372036854775808 ≤ n) (w : World) :
    Calls Tryz.prog 89 #[.int .i64 n] w fun e w' => e = .returned (.string ⟨(Lib.itoa n).toArray⟩) ∧ Below w.heap.size w w' := by
  obtain ⟨U, rfl⟩ : ∃ U : Nat, n = -(U : Int) := ⟨n.natAbs, by omega⟩
  have hI0 : Hid (DecI U U ⟨#[]⟩) := .inl ⟨rfl, rfl⟩
  go_enter Tryz.func89, Tryz.ntmps89
  go_wp2_with fail
  go_loopw [3, 4] (fun s m wr => ∃ (t : ByteArray) (u : Nat), s = .string t ∧ m = .int .i64 (-(u : Int)) ∧ u ≤ U ∧ Hid (DecI U u t) ∧ Hid (Below w.heap.size w wr)) (fun s m _ => decM s m)
  case atStart => exact ⟨_, U, rfl, rfl, Nat.le_refl _, hI0, Below.refl _ _⟩
  case round =>
    obtain ⟨t, u, rfl, rfl, hu, hI, hb⟩ := hrel
    clear hI0
    have hd0 : 0 ≤ (u : Int) % 10 := by omega
    have hd9 : (u : Int) % 10 ≤ 9 := by omega
    cases ht : t.toList == []
    · by_cases hu0 : u = 0
      · have hts := hI.out.size (by omega)
        have hfin : Hid (t.data.toList = Lib.decDigits U) := hI.out.toDone hu0 (ne_of ht)
        have hne : ((-(u : Int)) != 0) = false := by simp; omega
        go_wp2_with fail
        go_ret
        exact ⟨by show Ending.returned (Value.string (⟨#[45]⟩ ++ t)) = _; rw [str_of (l := 45 :: Lib.decDigits U) (by simp [hfin.out]), Lib.itoa_neg U (by omega)], hb.out⟩
      · have hne : ((-(u : Int)) != 0) = true := by simp; omega
        have hts := hI.out.size (by omega)
        have hcv := run_byte1 wr (48 + (u : Int) % 10)
        have hst : Hid (∀ x : ByteArray, x.data.toList = UInt8.ofNat (48 + u % 10) :: t.data.toList → DecI U (u / 10) x) := Lib.hid fun x hx => hI.out.step (by first | exact .inl (nil_of ht) | exact .inr hu0) hx
        go_wp2_with fail
        refine (AbsD_opp _ hd0 hd9 _).mono ?_
        rintro e w1 ⟨rfl, rfl⟩
        go_wp2_with fail
        go_roundw
        case rel => exact ⟨_, u / 10, rfl, by go_num, by omega, hst.out _ (by simp), hb.out.alloc hb.out.size _⟩
        case measure => first | exact decM_pos (by simp [intOf]; omega) | exact decM_zero (by simp [intOf]; omega) (size_nil (nil_of ht)) (by rw [ByteArray.size_append]; show 1 + _ ≠ 0; omega)
    · have hts := hI.out.size (by omega)
      have hcv := run_byte1 wr (48 + (u : Int) % 10)
      have hst : Hid (∀ x : ByteArray, x.data.toList = UInt8.ofNat (48 + u % 10) :: t.data.toList → DecI U (u / 10) x) := Lib.hid fun x hx => hI.out.step (by first | exact .inl (nil_of ht) | exact .inr hu0) hx
      go_wp2_with fail
      refine (AbsD_opp _ hd0 hd9 _).mono ?_
      rintro e w1 ⟨rfl, rfl⟩
      go_wp2_with fail
      go_roundw
      case rel => exact ⟨_, u / 10, rfl, by go_num, by omega, hst.out _ (by simp), hb.out.alloc hb.out.size _⟩
      case measure => first | exact decM_pos (by simp [intOf]; omega) | exact decM_zero (by simp [intOf]; omega) (size_nil (nil_of ht)) (by rw [ByteArray.size_append]; show 1 + _ ≠ 0; omega)
/-- Decimal writes a number as strconv.Itoa does. -/
theorem Decimal_any (n : Int) (h0 : -9223372036854775808 ≤ n) (h1 : n ≤ 9223372036854775807) (w : World) :
    Calls Tryz.prog 89 #[.int .i64 n] w fun e w' => e = .returned (.string ⟨(Lib.itoa n).toArray⟩) ∧ Below w.heap.size w w' := by
  by_cases h : 0 ≤ n
  · exact Decimal_pos n h h1 w
  · exact Decimal_neg n (by omega) h0 w
end Go.Proofs.YtbegbajlagcbdaaGreatDoor
