/- Plain lists of numbers: sorted, each once; sorting and compacting. No program in sight. -/
import Derived.Lib.SlicesCompact
namespace Go.Proofs.YtoigamkldccnkaaDoor.Cal
open Go.Lib
theorem up_ext : ∀ {xs ys : List Int}, xs.Pairwise (· < ·) → ys.Pairwise (· < ·) → (∀ d, d ∈ xs ↔ d ∈ ys) → xs = ys
  | [], [], _, _, _ => rfl
  | [], y :: ys, _, _, h => absurd ((h y).2 (List.mem_cons_self ..)) (by simp)
  | x :: xs, [], _, _, h => absurd ((h x).1 (List.mem_cons_self ..)) (by simp)
  | x :: xs, y :: ys, hx, hy, h => by
    rw [List.pairwise_cons] at hx hy
    have e : x = y := by
      rcases Int.lt_trichotomy x y with hlt | he | hgt
      · exfalso
        rcases List.mem_cons.1 ((h x).1 (List.mem_cons_self ..)) with he | hm
        · omega
        · have := hy.1 x hm; omega
      · exact he
      · exfalso
        rcases List.mem_cons.1 ((h y).2 (List.mem_cons_self ..)) with he | hm
        · omega
        · have := hx.1 y hm; omega
    subst e
    congr 1
    refine up_ext hx.2 hy.2 fun d => ⟨fun hd => ?_, fun hd => ?_⟩
    · rcases List.mem_cons.1 ((h d).1 (List.mem_cons_of_mem _ hd)) with he | hm
      · have := hx.1 d hd; omega
      · exact hm
    · rcases List.mem_cons.1 ((h d).2 (List.mem_cons_of_mem _ hd)) with he | hm
      · have := hy.1 d hd; omega
      · exact hm
theorem compactUpTo_spec (d : Array Int) (hs : ∀ i j, i ≤ j → j < d.size → d[i]! ≤ d[j]!) : ∀ m, m ≤ d.size →
    (compactUpTo d m).Pairwise (· < ·) ∧ ∀ x, x ∈ compactUpTo d m ↔ ∃ j, j < m ∧ d[j]! = x
  | 0, _ => ⟨List.Pairwise.nil, fun x => ⟨fun h => by simp [compactUpTo] at h, fun ⟨j, hj, _⟩ => by omega⟩⟩
  | m + 1, hm => by
    obtain ⟨ih1, ih2⟩ := compactUpTo_spec d hs m (by omega)
    rw [compactUpTo_succ]
    by_cases hk : keeps d m = true
    · rw [if_pos hk]
      refine ⟨?_, fun x => ?_⟩
      · rw [List.pairwise_append]
        refine ⟨ih1, List.pairwise_singleton .., fun a ha b hb => ?_⟩
        obtain ⟨j, hj, rfl⟩ := (ih2 a).1 ha
        simp only [List.mem_singleton] at hb
        subst hb
        have hm0 : m ≠ 0 := by omega
        have hne : d[m]! ≠ d[m - 1]! := by simpa [keeps, hm0] using hk
        have h1 := hs j (m - 1) (by omega) (by omega)
        have h2 := hs (m - 1) m (by omega) (by omega)
        omega
      · rw [List.mem_append, ih2, List.mem_singleton]
        constructor
        · rintro (⟨j, hj, rfl⟩ | rfl)
          · exact ⟨j, by omega, rfl⟩
          · exact ⟨m, by omega, rfl⟩
        · rintro ⟨j, hj, rfl⟩
          by_cases he : j = m
          · right; rw [he]
          · exact .inl ⟨j, by omega, rfl⟩
    · rw [if_neg hk, List.append_nil]
      refine ⟨ih1, fun x => ?_⟩
      rw [ih2]
      constructor
      · rintro ⟨j, hj, rfl⟩; exact ⟨j, by omega, rfl⟩
      · rintro ⟨j, hj, rfl⟩
        by_cases he : j = m
        · subst he
          have hk' : ¬ (j = 0 ∨ d[j]! ≠ d[j - 1]!) := by simpa [keeps] using hk
          refine ⟨j - 1, by omega, ?_⟩
          have : ¬ d[j]! ≠ d[j - 1]! := fun h => hk' (.inr h)
          exact (Classical.not_not.1 this).symm
        · exact ⟨j, by omega, rfl⟩
/-- The numbers of a list, ascending, each once. -/
def ups (zs : List Int) : List Int := compact (zs.mergeSort fun x y => decide (x ≤ y))
theorem sort_up (zs : List Int) : (zs.mergeSort fun x y => decide (x ≤ y)).Pairwise (· ≤ ·) := by
  have := List.pairwise_mergeSort (le := fun x y : Int => decide (x ≤ y)) (fun a b c => by simp; omega) (fun a b => by simp; omega) zs
  exact this.imp fun h => by simpa using h
theorem ups_spec (zs : List Int) : (ups zs).Pairwise (· < ·) ∧ ∀ d, d ∈ ups zs ↔ d ∈ zs := by
  have hp := sort_up zs
  have hsize : (zs.mergeSort fun x y => decide (x ≤ y)).toArray.size = (zs.mergeSort fun x y => decide (x ≤ y)).length := by simp
  obtain ⟨h1, h2⟩ := compactUpTo_spec (zs.mergeSort fun x y => decide (x ≤ y)).toArray (fun i j hij hj => by
    rcases Nat.lt_or_eq_of_le hij with hlt | rfl
    · have := List.pairwise_iff_getElem.1 hp i j (by omega) (by omega) hlt
      rw [getElem!_pos _ i (by omega), getElem!_pos _ j (by omega)]
      simpa using this
    · exact Int.le_refl _) _ (Nat.le_of_eq hsize.symm)
  refine ⟨h1, fun d => ?_⟩
  unfold ups compact
  rw [h2]
  constructor
  · rintro ⟨j, hj, rfl⟩
    rw [getElem!_pos _ j (by omega)]
    have : (zs.mergeSort fun x y => decide (x ≤ y)).toArray[j]'(by omega) ∈ (zs.mergeSort fun x y => decide (x ≤ y)) := by simp
    exact List.mem_mergeSort.1 this
  · intro hd
    obtain ⟨j, hj, he⟩ := List.getElem_of_mem (List.mem_mergeSort.2 hd)
    refine ⟨j, hj, ?_⟩
    rw [getElem!_pos _ j (by simpa using hj)]
    simpa using he
theorem ups_eq {zs ys : List Int} (h : ys.Pairwise (· < ·)) (hm : ∀ d, d ∈ ys ↔ d ∈ zs) : ups zs = ys :=
  up_ext (ups_spec zs).1 h fun d => by rw [(ups_spec zs).2, hm]
theorem ups_nil : ups [] = [] := ups_eq List.Pairwise.nil fun _ => Iff.rfl
theorem ups_length (zs : List Int) : (ups zs).length ≤ zs.length := by
  have h : (zs.mergeSort fun x y => decide (x ≤ y)).length = zs.length := List.length_mergeSort zs
  unfold ups compact compactUpTo
  rw [List.length_map]
  exact Nat.le_trans (List.length_filter_le _ _) (by rw [List.length_range]; omega)
end Go.Proofs.YtoigamkldccnkaaDoor.Cal
