/- Chapter 8 and what it rests on: definitions and walks, part 05. -/
import Derived.Test.YtbinoelbjlgjkaaDoorC02
import Derived.Lib.SlicesCompact
import Derived.Test.YtbinoelbjlgjkaaDoorC04
import Derived.Test.YtbinoelbjlgjkaaDoorC01
namespace Go.Proofs.YtbinoelbjlgjkaaDoor.Cal
def idx (day : Int) : Int := 12 * dY day + dM day - 1
def mfirst (t : Int) : Int := first (t / 12) (t % 12 + 1)
def mval (d t : Int) : Int := mfirst t + min d (mlen (t / 12) (t % 12 + 1)) - 1
theorem mfirst_succ (t : Int) : mfirst (t + 1) = mfirst t + mlen (t / 12) (t % 12 + 1) := by
  unfold mfirst
  by_cases h : t % 12 = 11
  · have e1 : (t + 1) / 12 = t / 12 + 1 := by omega
    have e2 : (t + 1) % 12 + 1 = 1 := by omega
    have e3 : t % 12 + 1 = 12 := by omega
    rw [e1, e2, e3, first_1, ← first_13]
    exact first_succ (t / 12) 12 (by omega) (by omega)
  · have e1 : (t + 1) / 12 = t / 12 := by omega
    have e2 : (t + 1) % 12 + 1 = t % 12 + 1 + 1 := by omega
    rw [e1, e2]
    exact first_succ (t / 12) (t % 12 + 1) (by omega) (by omega)
theorem mfirst_add (t : Int) (n : Nat) : mfirst t ≤ mfirst (t + n) := by
  induction n with
  | zero => simp
  | succ n ih =>
    have h := mfirst_succ (t + n)
    have := mlen_bd ((t + n) / 12) ((t + n) % 12 + 1)
    rw [show t + ((n + 1 : Nat) : Int) = t + n + 1 by omega]
    omega
theorem mfirst_mono {t u : Int} (h : t ≤ u) : mfirst t ≤ mfirst u := by
  have := mfirst_add t (u - t).toNat
  rwa [show t + ((u - t).toNat : Int) = u by omega] at this
theorem mval_lo {d t : Int} (h : 1 ≤ d) : mfirst t ≤ mval d t := by
  have := mlen_bd (t / 12) (t % 12 + 1)
  unfold mval; omega
theorem mval_hi (d t : Int) : mval d t < mfirst (t + 1) := by
  rw [mfirst_succ]; unfold mval; omega
theorem mval_mono {d t u : Int} (hd : 1 ≤ d) (h : t ≤ u) : mval d t ≤ mval d u := by
  rcases Int.lt_or_eq_of_le h with h | rfl
  · have := mval_hi d t
    have := mfirst_mono (t := t + 1) (u := u) (by omega)
    have := mval_lo (d := d) (t := u) hd
    omega
  · exact Int.le_refl _
section
variable {day : Int} (h0 : 0 ≤ day) (h1 : day ≤ 200000)
include h0 h1
theorem idx_div : idx day / 12 = dY day ∧ idx day % 12 + 1 = dM day := by
  obtain ⟨m1, m2, _, _, _⟩ := date_spec day h0 (by omega)
  unfold idx; omega
theorem mfirst_idx : mfirst (idx day) ≤ day ∧ day < mfirst (idx day + 1) := by
  obtain ⟨m1, m2, d1, d2, hd⟩ := date_spec day h0 (by omega)
  obtain ⟨e1, e2⟩ := idx_div h0 h1
  rw [mfirst_succ]; unfold mfirst; rw [e1, e2]; omega
theorem mval_idx : mval (dD day) (idx day) = day := by
  obtain ⟨m1, m2, d1, d2, hd⟩ := date_spec day h0 (by omega)
  obtain ⟨e1, e2⟩ := idx_div h0 h1
  unfold mval mfirst; rw [e1, e2]; omega
theorem dD_pos : 1 ≤ dD day := (date_spec day h0 (by omega)).d1
theorem idx_bd : 21600 ≤ idx day ∧ idx day ≤ 28175 := by
  obtain ⟨m1, m2, _, _, _⟩ := date_spec day h0 (by omega)
  have := dY_bd day h0 h1
  unfold idx; omega
end
theorem laterT_idx (day m : Int) : laterT day m = idx day + m := by unfold laterT idx; omega
theorem laterS_eq (day m : Int) : laterS day m = if 1800 ≤ (idx day + m) / 12 ∧ (idx day + m) / 12 ≤ 2347 then (mval (dD day) (idx day + m), decide (mval (dD day) (idx day + m) ≤ 200000)) else (0, false) := by
  unfold laterS; rw [laterT_idx]; rfl
theorem laterS_in {day m : Int} (ha : 21600 ≤ idx day + m) (hb : idx day + m ≤ 28175) : laterS day m = (mval (dD day) (idx day + m), decide (mval (dD day) (idx day + m) ≤ 200000)) := by
  rw [laterS_eq, if_pos (by omega)]
theorem laterS_nonneg {day : Int} (h0 : 0 ≤ day) (h1 : day ≤ 200000) (m : Int) : 0 ≤ (laterS day m).1 := by
  rw [laterS_eq]
  split
  · rename_i hy
    have := mval_lo (t := idx day + m) (dD_pos h0 h1)
    have hf := first_bd ((idx day + m) / 12) ((idx day + m) % 12 + 1) hy.1 (by omega)
    unfold mfirst at this
    simp only; omega
  · exact Int.le_refl _
theorem idx_mono {a b : Int} (h0 : 0 ≤ a) (h : a ≤ b) (h1 : b ≤ 200000) : idx a ≤ idx b := by
  apply Classical.byContradiction
  intro hn
  have := (mfirst_idx h0 (by omega)).1
  have := (mfirst_idx (day := b) (by omega) h1).2
  have := mfirst_mono (t := idx b + 1) (u := idx a) (by omega)
  omega
def Good (a b m : Int) : Prop := (laterS a m).2 = true ∧ (laterS a m).1 ≤ b
instance (a b m : Int) : Decidable (Good a b m) := inferInstanceAs (Decidable (_ ∧ _))
/-- So many whole months from a day to another one. -/
def ageM (a b : Int) : Int := if Good a b (idx b - idx a) then idx b - idx a else idx b - idx a - 1
section
variable {a b : Int} (h0 : 0 ≤ a) (h : a ≤ b) (h1 : b ≤ 200000)
include h0 h h1
theorem good_in {m : Int} (hm : 0 ≤ m) (hi : idx a + m ≤ idx b) (hv : mval (dD a) (idx a + m) ≤ b) : Good a b m := by
  have ha := idx_bd h0 (show a ≤ 200000 by omega)
  have hb := idx_bd (show 0 ≤ b by omega) h1
  unfold Good
  rw [laterS_in (by omega) (by omega)]
  exact ⟨by simp; omega, hv⟩
theorem good_zero : laterS a 0 = (a, true) := by
  have ha := idx_bd h0 (show a ≤ 200000 by omega)
  rw [laterS_in (by omega) (by omega), Int.add_zero, mval_idx h0 (by omega)]
  simp; omega
theorem good_less {m : Int} (hm : 0 ≤ m) (hi : idx a + m < idx b) : Good a b m := by
  refine good_in h0 h h1 hm (by omega) ?_
  have := mval_hi (dD a) (idx a + m)
  have := mfirst_mono (t := idx a + m + 1) (u := idx b) (by omega)
  have := (mfirst_idx (show 0 ≤ b by omega) h1).1
  omega
theorem age_nonneg : 0 ≤ ageM a b := by
  have hi := idx_mono h0 h h1
  unfold ageM
  split
  · omega
  · rename_i hn
    by_cases he : idx b - idx a = 0
    · exfalso; apply hn; rw [he]
      unfold Good; rw [good_zero h0 h h1]; exact ⟨rfl, h⟩
    · omega
theorem age_good : Good a b (ageM a b) := by
  have h2 := age_nonneg h0 h h1
  by_cases hg : Good a b (idx b - idx a)
  · unfold ageM; rw [if_pos hg]; exact hg
  · have e : ageM a b = idx b - idx a - 1 := by unfold ageM; rw [if_neg hg]
    rw [e] at h2 ⊢
    exact good_less h0 h h1 h2 (by omega)
theorem age_next : ¬ Good a b (ageM a b + 1) := by
  have ha := idx_bd h0 (show a ≤ 200000 by omega)
  have hb := idx_bd (show 0 ≤ b by omega) h1
  by_cases hg : Good a b (idx b - idx a)
  · have e : ageM a b = idx b - idx a := by unfold ageM; rw [if_pos hg]
    rw [e]
    rintro ⟨g1, g2⟩
    rw [laterS_eq] at g1 g2
    rw [show idx a + (idx b - idx a + 1) = idx b + 1 by omega] at g1 g2
    by_cases hy : 1800 ≤ (idx b + 1) / 12 ∧ (idx b + 1) / 12 ≤ 2347
    · rw [if_pos hy] at g2
      have := mval_lo (t := idx b + 1) (dD_pos h0 (show a ≤ 200000 by omega))
      have := (mfirst_idx (show 0 ≤ b by omega) h1).2
      simp only at g2; omega
    · rw [if_neg hy] at g1; simp at g1
  · have e : ageM a b = idx b - idx a - 1 := by unfold ageM; rw [if_neg hg]
    rw [e, show idx b - idx a - 1 + 1 = idx b - idx a by omega]; exact hg
theorem age_lt {m : Int} (hm : 0 ≤ m) (hlt : m < ageM a b) : Good a b (m + 1) := by
  have hg := age_good h0 h h1
  have hle : ageM a b ≤ idx b - idx a := by unfold ageM; split <;> omega
  have ha := idx_bd h0 (show a ≤ 200000 by omega)
  have hb := idx_bd (show 0 ≤ b by omega) h1
  refine good_in h0 h h1 (by omega) (by omega) ?_
  obtain ⟨_, g2⟩ := hg
  rw [laterS_in (by omega) (by omega)] at g2
  have := mval_mono (t := idx a + (m + 1)) (u := idx a + ageM a b) (dD_pos h0 (show a ≤ 200000 by omega)) (by omega)
  simp only at g2; omega
theorem age_le : ageM a b ≤ 6600 := by
  have ha := idx_bd h0 (show a ≤ 200000 by omega)
  have hb := idx_bd (show 0 ≤ b by omega) h1
  unfold ageM; split <;> omega
end
end Go.Proofs.YtbinoelbjlgjkaaDoor.Cal
namespace Go.Proofs.YtbinoelbjlgjkaaDoor.Cal
open Go.Lib
theorem up_ext : ∀ {xs ys : List Int}, xs.Pairwise (· < ·) → ys.Pairwise (· < ·) → (∀ d, d ∈ xs ↔ d ∈ ys) → xs = ys
  | [], [], _, _, _ => rfl
  | [], y :: ys, _, _, h => absurd ((h y).2 (List.mem_cons_self ..)) (by simp)
  | x :: xs, [], _, _, h => absurd ((h x).1 (List.mem_cons_self ..)) (by simp)
  | x :: xs, y :: ys, hx, hy, h => by
    rw [List.pairwise_cons] at hx hy
    have e : x = y := by
      rcases Int.lt_trichotomy x y with hlt | he | hgt
      · exfalso
        rcases List.mem_cons.1 ((h x).1 (List.mem_cons_self ..)) with he | hm
        · omega
        · have := hy.1 x hm; omega
      · exact he
      · exfalso
        rcases List.mem_cons.1 ((h y).2 (List.mem_cons_self ..)) with he | hm
        · omega
        · have := hx.1 y hm; omega
    subst e
    congr 1
    refine up_ext hx.2 hy.2 fun d => ⟨fun hd => ?_, fun hd => ?_⟩
    · rcases List.mem_cons.1 ((h d).1 (List.mem_cons_of_mem _ hd)) with he | hm
      · have := hx.1 d hd; omega
      · exact hm
    · rcases List.mem_cons.1 ((h d).2 (List.mem_cons_of_mem _ hd)) with he | hm
      · have := hy.1 d hd; omega
      · exact hm
theorem compactUpTo_spec (d : Array Int) (hs : ∀ i j, i ≤ j → j < d.size → d[i]! ≤ d[j]!) : ∀ m, m ≤ d.size →
    (compactUpTo d m).Pairwise (· < ·) ∧ ∀ x, x ∈ compactUpTo d m ↔ ∃ j, j < m ∧ d[j]! = x
  | 0, _ => ⟨List.Pairwise.nil, fun x => ⟨fun h => by simp [compactUpTo] at h, fun ⟨j, hj, _⟩ => by omega⟩⟩
  | m + 1, hm => by
    obtain ⟨ih1, ih2⟩ := compactUpTo_spec d hs m (by omega)
    rw [compactUpTo_succ]
    by_cases hk : keeps d m = true
    · rw [if_pos hk]
      refine ⟨?_, fun x => ?_⟩
      · rw [List.pairwise_append]
        refine ⟨ih1, List.pairwise_singleton .., fun a ha b hb => ?_⟩
        obtain ⟨j, hj, rfl⟩ := (ih2 a).1 ha
        simp only [List.mem_singleton] at hb
        subst hb
        have hm0 : m ≠ 0 := by omega
        have hne : d[m]! ≠ d[m - 1]! := by simpa [keeps, hm0] using hk
        have h1 := hs j (m - 1) (by omega) (by omega)
        have h2 := hs (m - 1) m (by omega) (by omega)
        omega
      · rw [List.mem_append, ih2, List.mem_singleton]
        constructor
        · rintro (⟨j, hj, rfl⟩ | rfl)
          · exact ⟨j, by omega, rfl⟩
          · exact ⟨m, by omega, rfl⟩
        · rintro ⟨j, hj, rfl⟩
          by_cases he : j = m
          · right; rw [he]
          · exact .inl ⟨j, by omega, rfl⟩
    · rw [if_neg hk, List.append_nil]
      refine ⟨ih1, fun x => ?_⟩
      rw [ih2]
      constructor
      · rintro ⟨j, hj, rfl⟩; exact ⟨j, by omega, rfl⟩
      · rintro ⟨j, hj, rfl⟩
        by_cases he : j = m
        · subst he
          have hk' : ¬ (j = 0 ∨ d[j]! ≠ d[j - 1]!) := by simpa [keeps] using hk
          refine ⟨j - 1, by omega, ?_⟩
          have : ¬ d[j]! ≠ d[j - 1]! := fun h => hk' (.inr h)
          exact (Classical.not_not.1 this).symm
        · exact ⟨j, by omega, rfl⟩
/-- The numbers of a list, ascending, each once. -/
def ups (zs : List Int) : List Int := compact (zs.mergeSort fun x y => decide (x ≤ y))
theorem sort_up (zs : List Int) : (zs.mergeSort fun x y => decide (x ≤ y)).Pairwise (· ≤ ·) := by
  have := List.pairwise_mergeSort (le := fun x y : Int => decide (x ≤ y)) (fun a b c => by simp; omega) (fun a b => by simp; omega) zs
  exact this.imp fun h => by simpa using h
theorem ups_spec (zs : List Int) : (ups zs).Pairwise (· < ·) ∧ ∀ d, d ∈ ups zs ↔ d ∈ zs := by
  have hp := sort_up zs
  have hsize : (zs.mergeSort fun x y => decide (x ≤ y)).toArray.size = (zs.mergeSort fun x y => decide (x ≤ y)).length := by simp
  obtain ⟨h1, h2⟩ := compactUpTo_spec (zs.mergeSort fun x y => decide (x ≤ y)).toArray (fun i j hij hj => by
    rcases Nat.lt_or_eq_of_le hij with hlt | rfl
    · have := List.pairwise_iff_getElem.1 hp i j (by omega) (by omega) hlt
      rw [getElem!_pos _ i (by omega), getElem!_pos _ j (by omega)]
      simpa using this
    · exact Int.le_refl _) _ (Nat.le_of_eq hsize.symm)
  refine ⟨h1, fun d => ?_⟩
  unfold ups compact
  rw [h2]
  constructor
  · rintro ⟨j, hj, rfl⟩
    rw [getElem!_pos _ j (by omega)]
    have : (zs.mergeSort fun x y => decide (x ≤ y)).toArray[j]'(by omega) ∈ (zs.mergeSort fun x y => decide (x ≤ y)) := by simp
    exact List.mem_mergeSort.1 this
  · intro hd
    obtain ⟨j, hj, he⟩ := List.getElem_of_mem (List.mem_mergeSort.2 hd)
    refine ⟨j, hj, ?_⟩
    rw [getElem!_pos _ j (by simpa using hj)]
    simpa using he
theorem ups_eq {zs ys : List Int} (h : ys.Pairwise (· < ·)) (hm : ∀ d, d ∈ ys ↔ d ∈ zs) : ups zs = ys :=
  up_ext (ups_spec zs).1 h fun d => by rw [(ups_spec zs).2, hm]
theorem ups_nil : ups [] = [] := ups_eq List.Pairwise.nil fun _ => Iff.rfl
theorem ups_length (zs : List Int) : (ups zs).length ≤ zs.length := by
  have h : (zs.mergeSort fun x y => decide (x ≤ y)).length = zs.length := List.length_mergeSort zs
  unfold ups compact compactUpTo
  rw [List.length_map]
  exact Nat.le_trans (List.length_filter_le _ _) (by rw [List.length_range]; omega)
end Go.Proofs.YtbinoelbjlgjkaaDoor.Cal
namespace Go.Proofs.YtbinoelbjlgjkaaDoor.Cal
/-- Is a day a holiday? -/
def isB (h : Hol) (d : Int) : Bool :=
  if h.kind = 0 then decide (dM d = h.month ∧ dD d = h.day)
  else if h.kind = 1 then decide (d = easter (dY d) + h.day)
  else decide (dM d = h.month ∧ (d + 2) % 7 = h.weekday ∧ (if h.day < 0 then mlen (dY d) (dM d) < dD d + 7 else (dD d - 1) / 7 = h.day - 1))
def anyB (l : List Hol) (d : Int) : Bool := l.any fun h => isB h d
/-- What is known of a holiday that is right. -/
theorem hol_cases {h : Hol} (hh : holErrOf h = 0) :
    (h.kind = 0 ∧ 1 ≤ h.month ∧ h.month ≤ 12 ∧ 1 ≤ h.day ∧ h.day ≤ 31) ∨ (h.kind = 1 ∧ -80 ≤ h.day ∧ h.day ≤ 240) ∨
    (h.kind = 2 ∧ 1 ≤ h.month ∧ h.month ≤ 12 ∧ ((1 ≤ h.day ∧ h.day ≤ 4) ∨ h.day = -1) ∧ 0 ≤ h.weekday ∧ h.weekday ≤ 6) := by
  unfold holErrOf holErr at hh
  have := mlen_bd 1804 h.month
  by_cases h0 : h.kind = 0
  · rw [if_pos h0] at hh
    split at hh
    · left; omega
    · omega
  · rw [if_neg h0] at hh
    by_cases h1 : h.kind = 1
    · rw [if_pos h1] at hh
      split at hh
      · right; left; omega
      · omega
    · rw [if_neg h1] at hh
      by_cases h2 : h.kind = 2
      · rw [if_pos h2] at hh
        split at hh
        · split at hh
          · right; right; omega
          · omega
        · omega
      · rw [if_neg h2] at hh; omega
theorem easter_in (y : Int) : beg y + 80 ≤ easter y ∧ easter y ≤ beg y + 116 + lp y := by
  have hb := eN_bd y
  have hl := lp_ge y
  unfold easter
  have h : eN y / 31 = 3 ∨ eN y / 31 = 4 := by omega
  rcases h with h | h <;> rw [h] <;> simp [first, cum] <;> omega
section
variable {h : Hol} {d : Int} (hh : holErrOf h = 0) (h0 : 0 ≤ d) (h1 : d ≤ 200000)
include hh h0 h1
theorem isB_iff : isB h d = true ↔ onS h (dY d) = some d := by
  have hd := date_spec d h0 (by omega)
  have hy := dY_bd d h0 h1
  rcases hol_cases hh with ⟨hk, m1, m2, d1, d2⟩ | ⟨hk, d1, d2⟩ | ⟨hk, m1, m2, hdd, w1, w2⟩
  · unfold isB onS
    rw [if_pos hk, if_pos hk]
    simp only [decide_eq_true_eq]
    constructor
    · rintro ⟨e1, e2⟩
      have a := hd.d2; have b := hd.day
      rw [e1, e2] at a b
      rw [if_pos a, b]
    · intro e
      split at e
      · rename_i hle
        simp only [Option.some.injEq] at e
        have := (hd.unique ⟨m1, m2, d1, hle, e⟩)
        exact ⟨this.2.1, this.2.2⟩
      · cases e
  · unfold isB onS
    rw [if_neg (by omega), if_pos hk, if_neg (by omega), if_pos hk]
    simp only [decide_eq_true_eq, Option.some.injEq]
    omega
  · unfold isB onS
    have n0 : ¬ h.kind = 0 := by omega
    have n1 : ¬ h.kind = 1 := by omega
    rw [if_neg n0, if_neg n1, if_neg n0, if_neg n1]
    simp only [decide_eq_true_eq]
    have hml := mlen_bd (dY d) h.month
    have e1 := hd.d1; have e2 := hd.d2; have e3 := hd.day
    have huniq : ∀ k, 1 ≤ k → k ≤ mlen (dY d) h.month → first (dY d) h.month + k - 1 = d → dM d = h.month ∧ dD d = k := fun k a b c => by
      have := hd.unique ⟨m1, m2, a, b, c⟩
      exact ⟨this.2.1, this.2.2⟩
    generalize hF : first (dY d) h.month = F at *
    generalize hM : mlen (dY d) h.month = M at *
    rcases hdd with ⟨a1, a2⟩ | a1
    · rw [if_neg (by omega), if_pos (by omega)]
      simp only [Option.some.injEq]
      constructor
      · rintro ⟨b1, b2, b3⟩
        rw [b1, hM] at e2; rw [b1, hF] at e3
        omega
      · intro e
        obtain ⟨b1, b2⟩ := huniq (d - F + 1) (by omega) (by omega) (by omega)
        refine ⟨b1, ?_, ?_⟩
        · omega
        · rw [b2]; omega
    · rw [if_pos (by omega), if_neg (by omega)]
      simp only [Option.some.injEq]
      constructor
      · rintro ⟨b1, b2, b3⟩
        rw [b1, hM] at e2 b3; rw [b1, hF] at e3
        omega
      · intro e
        obtain ⟨b1, b2⟩ := huniq (d - F + 1) (by omega) (by omega) (by omega)
        refine ⟨b1, ?_, ?_⟩
        · omega
        · rw [b1, hM, b2]; omega
end
theorem onS_in {h : Hol} (hh : holErrOf h = 0) {y d : Int} (e : onS h y = some d) : beg y ≤ d ∧ d < beg (y + 1) := by
  have hs := beg_succ y
  have hl := lp_ge y
  rcases hol_cases hh with ⟨hk, m1, m2, d1, d2⟩ | ⟨hk, d1, d2⟩ | ⟨hk, m1, m2, hdd, w1, w2⟩
  · unfold onS at e
    rw [if_pos hk] at e
    split at e
    · simp only [Option.some.injEq] at e
      have := first_lo y h.month
      have := first_hi y h.month m1 m2
      omega
    · cases e
  · unfold onS at e
    rw [if_neg (by omega), if_pos hk] at e
    simp only [Option.some.injEq] at e
    have := easter_in y
    omega
  · unfold onS at e
    rw [if_neg (by omega), if_neg (by omega)] at e
    have := first_lo y h.month
    have := first_hi y h.month m1 m2
    have := mlen_bd y h.month
    rcases hdd with ⟨a1, a2⟩ | a1
    · rw [if_pos (by omega)] at e
      simp only [Option.some.injEq] at e
      omega
    · rw [if_neg (by omega)] at e
      simp only [Option.some.injEq] at e
      omega
def HolsOk (l : List Hol) : Prop := ∀ h ∈ l, holErrOf h = 0
theorem holsErrFrom_ok : ∀ {l seen : List Hol}, holsErrFrom seen l = 0 → HolsOk l
  | [], _, _ => fun h hm => by simp at hm
  | q :: l, seen, he => by
    rw [holsErrFrom_cons] at he
    split at he
    · split at he
      · omega
      · split at he
        · rename_i _ _ hq
          intro h hm
          rcases List.mem_cons.1 hm with rfl | hm
          · exact hq
          · exact holsErrFrom_ok he h hm
        · rename_i hq; exact absurd he hq
    · omega
theorem holsErr_ok {l : List Hol} (h : holsErr l = 0) : HolsOk l ∧ l.length ≤ 40 := by
  unfold holsErr at h
  split at h
  · omega
  · exact ⟨holsErrFrom_ok h, by omega⟩
theorem anyB_iff {l : List Hol} (hl : HolsOk l) {d : Int} (h0 : 0 ≤ d) (h1 : d ≤ 200000) : anyB l d = true ↔ d ∈ hols l (dY d) := by
  unfold anyB hols
  rw [List.any_eq_true, List.mem_filterMap]
  constructor
  · rintro ⟨h, hm, hb⟩; exact ⟨h, hm, (isB_iff (hl h hm) h0 h1).1 hb⟩
  · rintro ⟨h, hm, hb⟩; exact ⟨h, hm, (isB_iff (hl h hm) h0 h1).2 hb⟩
theorem hols_in {l : List Hol} (hl : HolsOk l) {y d : Int} (hd : d ∈ hols l y) : beg y ≤ d ∧ d < beg (y + 1) := by
  unfold hols at hd
  obtain ⟨h, hm, e⟩ := List.mem_filterMap.1 hd
  exact onS_in (hl h hm) e
theorem beg_2347 : beg 2347 = 199787 := by decide
theorem beg_top {y : Int} (h1 : 1800 ≤ y) (h2 : y ≤ 2346) : 0 ≤ beg y ∧ beg (y + 1) ≤ 199787 := by
  have a := beg_mono h1
  have b := beg_mono (a := y + 1) (b := 2347) (by omega)
  rw [beg_1800] at a
  have e : beg 2347 = 199787 := by decide
  rw [e] at b
  exact ⟨a, b⟩
theorem dY_of {y d : Int} (h1 : 1800 ≤ y) (h2 : y ≤ 2346) (a : beg y ≤ d) (b : d < beg (y + 1)) : dY d = y := by
  have ht := beg_top h1 h2
  have hd := date_spec d (by omega) (by omega)
  exact year_unique hd.lo hd.hi a b
/-- Is a day a working day? -/
def workB (l : List Hol) (d : Int) : Bool := decide ((d + 2) % 7 < 5) && !anyB l d
theorem workB_eq {l : List Hol} (hl : HolsOk l) {d : Int} (h0 : 0 ≤ d) (h1 : d ≤ 200000) : worksB l d = workB l d := by
  unfold worksB workB
  have e : (hols l (dY d)).contains d = anyB l d := by
    rw [Bool.eq_iff_iff, anyB_iff hl h0 h1]; simp
  rw [e]
  congr 1
  rw [Bool.eq_iff_iff]; simp; omega
end Go.Proofs.YtbinoelbjlgjkaaDoor.Cal
namespace Go.Proofs.YtbinoelbjlgjkaaDoor
open Go Go.RowKit
/-- The error of a provision by itself. -/
def Cal.provErr (nm : ByteArray) (value fr en : Int) (repeal : Bool) : Int :=
  if nameB nm = true then (if -1000000000 ≤ value ∧ value ≤ 1000000000 ∧ 0 ≤ fr ∧ fr ≤ 200000 ∧ 0 ≤ en ∧ en ≤ 200000 then (if repeal = true ∧ value ≠ 0 then 3 else 0) else 2) else 4
set_option maxHeartbeats 4000000 in
theorem checkProvision_any (nm : ByteArray) (value fr en : Int) (repeal : Bool) (w : World) (hs : nm.size ≤ maxLen) :
    Calls Tryd.prog 27 #[.agg #[.string nm, .int .i64 value, .int .i64 fr, .int .i64 en, .bool repeal]] w fun e w' => e = .returned (.int .i64 (Cal.provErr nm value fr en repeal)) ∧ Below w.heap.size w w' := by
  cases hn : nameB nm
  · go_enter Tryd.func27, Tryd.ntmps27
    go_wp2_with (first | (go_at_call 20; first | refine rin ?_ | refine rout ?_ | refine rany ?_) | (go_at_call 19; first | refine rin ?_ | refine rout ?_ | refine rany ?_) | (go_at_call 31; refine (isName_any _ _ hs).mono ?_; rintro e w' ⟨rfl, rfl⟩))
    go_ret
    exact ⟨ret_int (by unfold Cal.provErr; repeat' split
                       all_goals first | rfl | omega | simp_all), by exact blw⟩
  · by_cases hva : -1000000000 ≤ value
    · by_cases hvb : value ≤ 1000000000
      · by_cases hfa : 0 ≤ fr
        · by_cases hfb : fr ≤ 200000
          · by_cases hia : 0 ≤ en
            · by_cases hib : en ≤ 200000
              · cases repeal
                · go_enter Tryd.func27, Tryd.ntmps27
                  go_wp2_with (first | (go_at_call 20; first | refine rin ?_ | refine rout ?_ | refine rany ?_) | (go_at_call 19; first | refine rin ?_ | refine rout ?_ | refine rany ?_) | (go_at_call 31; refine (isName_any _ _ hs).mono ?_; rintro e w' ⟨rfl, rfl⟩))
                  go_ret
                  exact ⟨ret_int (by unfold Cal.provErr; repeat' split
                                     all_goals first | rfl | omega | simp_all), by exact blw⟩
                · by_cases hz : value = 0
                  · subst hz
                    go_enter Tryd.func27, Tryd.ntmps27
                    go_wp2_with (first | (go_at_call 20; first | refine rin ?_ | refine rout ?_ | refine rany ?_) | (go_at_call 19; first | refine rin ?_ | refine rout ?_ | refine rany ?_) | (go_at_call 31; refine (isName_any _ _ hs).mono ?_; rintro e w' ⟨rfl, rfl⟩))
                    go_ret
                    exact ⟨ret_int (by unfold Cal.provErr; repeat' split
                                       all_goals first | rfl | omega | simp_all), by exact blw⟩
                  · have hze : (value == 0) = false := by simpa using hz
                    have hzn : (value != 0) = true := by simpa using hz
                    go_enter Tryd.func27, Tryd.ntmps27
                    go_wp2_with (first | (go_at_call 20; first | refine rin ?_ | refine rout ?_ | refine rany ?_) | (go_at_call 19; first | refine rin ?_ | refine rout ?_ | refine rany ?_) | (go_at_call 31; refine (isName_any _ _ hs).mono ?_; rintro e w' ⟨rfl, rfl⟩))
                    go_ret
                    exact ⟨ret_int (by unfold Cal.provErr; repeat' split
                                       all_goals first | rfl | omega | simp_all), by exact blw⟩
              · go_enter Tryd.func27, Tryd.ntmps27
                go_wp2_with (first | (go_at_call 20; first | refine rin ?_ | refine rout ?_ | refine rany ?_) | (go_at_call 19; first | refine rin ?_ | refine rout ?_ | refine rany ?_) | (go_at_call 31; refine (isName_any _ _ hs).mono ?_; rintro e w' ⟨rfl, rfl⟩))
                go_ret
                exact ⟨ret_int (by unfold Cal.provErr; repeat' split
                                   all_goals first | rfl | omega | simp_all), by exact blw⟩
            · go_enter Tryd.func27, Tryd.ntmps27
              go_wp2_with (first | (go_at_call 20; first | refine rin ?_ | refine rout ?_ | refine rany ?_) | (go_at_call 19; first | refine rin ?_ | refine rout ?_ | refine rany ?_) | (go_at_call 31; refine (isName_any _ _ hs).mono ?_; rintro e w' ⟨rfl, rfl⟩))
              go_ret
              exact ⟨ret_int (by unfold Cal.provErr; repeat' split
                                 all_goals first | rfl | omega | simp_all), by exact blw⟩
          · go_enter Tryd.func27, Tryd.ntmps27
            go_wp2_with (first | (go_at_call 20; first | refine rin ?_ | refine rout ?_ | refine rany ?_) | (go_at_call 19; first | refine rin ?_ | refine rout ?_ | refine rany ?_) | (go_at_call 31; refine (isName_any _ _ hs).mono ?_; rintro e w' ⟨rfl, rfl⟩))
            go_ret
            exact ⟨ret_int (by unfold Cal.provErr; repeat' split
                               all_goals first | rfl | omega | simp_all), by exact blw⟩
        · go_enter Tryd.func27, Tryd.ntmps27
          go_wp2_with (first | (go_at_call 20; first | refine rin ?_ | refine rout ?_ | refine rany ?_) | (go_at_call 19; first | refine rin ?_ | refine rout ?_ | refine rany ?_) | (go_at_call 31; refine (isName_any _ _ hs).mono ?_; rintro e w' ⟨rfl, rfl⟩))
          go_ret
          exact ⟨ret_int (by unfold Cal.provErr; repeat' split
                             all_goals first | rfl | omega | simp_all), by exact blw⟩
      · go_enter Tryd.func27, Tryd.ntmps27
        go_wp2_with (first | (go_at_call 20; first | refine rin ?_ | refine rout ?_ | refine rany ?_) | (go_at_call 19; first | refine rin ?_ | refine rout ?_ | refine rany ?_) | (go_at_call 31; refine (isName_any _ _ hs).mono ?_; rintro e w' ⟨rfl, rfl⟩))
        go_ret
        exact ⟨ret_int (by unfold Cal.provErr; repeat' split
                           all_goals first | rfl | omega | simp_all), by exact blw⟩
    · go_enter Tryd.func27, Tryd.ntmps27
      go_wp2_with (first | (go_at_call 20; first | refine rin ?_ | refine rout ?_ | refine rany ?_) | (go_at_call 19; first | refine rin ?_ | refine rout ?_ | refine rany ?_) | (go_at_call 31; refine (isName_any _ _ hs).mono ?_; rintro e w' ⟨rfl, rfl⟩))
      go_ret
      exact ⟨ret_int (by unfold Cal.provErr; repeat' split
                         all_goals first | rfl | omega | simp_all), by exact blw⟩
end Go.Proofs.YtbinoelbjlgjkaaDoor
namespace Go.Proofs.YtbinoelbjlgjkaaDoor
open Go Go.RowKit
/-- The error of provisions, from the entry on, the one before entered on day e0. -/
def Cal.provErrOf (p : Prov) : Int := Cal.provErr p.name p.value p.fr p.en p.repeal
def Cal.provsErrFrom (e0 : Int) : List Prov → Int
  | [] => 0
  | p :: r => if Cal.provErrOf p = 0 then (if p.en < e0 then 9 else Cal.provsErrFrom p.en r) else Cal.provErrOf p
theorem Cal.provsErrFrom_cons (e0 : Int) (p : Prov) (r : List Prov) : Cal.provsErrFrom e0 (p :: r) = if Cal.provErrOf p = 0 then (if p.en < e0 then 9 else Cal.provsErrFrom p.en r) else Cal.provErrOf p := rfl
def Cal.provsErr (l : List Prov) : Int := if 200 < l.length then 8 else Cal.provsErrFrom 0 l
theorem CheckProvisions_any (A : Option Addr) (c : Nat) (l : List Prov) (w : World) (hl : Provs w A l) :
    Calls Tryd.prog 14 #[.slice A l.length c] w fun e w' => e = .returned (.int .i64 (Cal.provsErr l)) ∧ Below w.heap.size w w' := by
  have hsz := hl.size
  by_cases hbig : 200 < l.length
  · have hfin : Hid (Cal.provsErr l = 8) := by show _ = _; unfold Cal.provsErr; rw [if_pos hbig]
    go_enter Tryd.func14, Tryd.ntmps14
    go_wp2
    go_ret
    exact ⟨ret_int hfin.out.symm, Below.refl _ _⟩
  · have hfin : Hid (Cal.provsErr l = Cal.provsErrFrom 0 l) := by show _ = _; unfold Cal.provsErr; rw [if_neg hbig]
    have hl' := Lib.hid hl
    clear hl
    go_enter Tryd.func14, Tryd.ntmps14
    go_wp2
    go_loopw [3, 12] (fun en i wr => ∃ (k : Nat) (e0 : Int), k ≤ l.length ∧ i = .int .i64 k ∧ en = .int .i64 e0 ∧ Hid (Cal.provsErr l = Cal.provsErrFrom e0 (l.drop k)) ∧ Below w.heap.size w wr) (fun _ i _ => l.length - (intOf i).toNat)
    case atStart => exact ⟨0, 0, Nat.zero_le _, rfl, rfl, hfin, Below.refl _ _⟩
    case round =>
      obtain ⟨k, e0, hk, rfl, rfl, hinv, hb⟩ := hrel
      clear hfin
      by_cases hlt : k < l.length
      · have hk' : l[k]? = some l[k] := List.getElem?_eq_getElem hlt
        have hd := Lib.hid (List.drop_eq_getElem_cons hlt)
        have hnm := hl'.out.names k _ hk'
        obtain ⟨b, o, rfl, hbl, c0, c1, c2, c3, c4⟩ := (hl'.out.below hb).at_ hk'
        clear hk'
        generalize l[k] = p at *
        have hbs := hb.size
        by_cases hp0 : Cal.provErrOf p = 0
        · have hpz := Lib.hid hp0
          have hp1 : (Cal.provErr p.name p.value p.fr p.en p.repeal != 0) = false := by simpa [Cal.provErrOf] using hp0
          clear hp0
          by_cases hlt2 : p.en < e0
          · have hfin : Hid (Cal.provsErr l = 9) := by show _ = _; rw [hinv.out, hd.out, Cal.provsErrFrom_cons, if_pos hpz.out, if_pos hlt2]
            go_wp2_with (go_at_call 27; refine (checkProvision_any _ _ _ _ _ _ hnm).mono ?_; rintro e w1 ⟨rfl, hb1⟩; obtain ⟨hc1, hf1⟩ := bcell hb1)
            go_ret
            exact ⟨ret_int hfin.out.symm, below_step (hb.alloc hbs _) hb1⟩
          · have hnx : Hid (Cal.provsErr l = Cal.provsErrFrom p.en (l.drop (k + 1))) := by show _ = _; rw [hinv.out, hd.out, Cal.provsErrFrom_cons, if_pos hpz.out, if_neg hlt2]
            go_wp2_with (go_at_call 27; refine (checkProvision_any _ _ _ _ _ _ hnm).mono ?_; rintro e w1 ⟨rfl, hb1⟩; obtain ⟨hc1, hf1⟩ := bcell hb1)
            go_roundw
            case rel => exact ⟨k + 1, p.en, by omega, by go_num, rfl, hnx, below_step (hb.alloc hbs _) hb1⟩
            case measure => simp [intOf]; omega
        · have hp1 : (Cal.provErr p.name p.value p.fr p.en p.repeal != 0) = true := by simpa [Cal.provErrOf] using hp0
          have hfin : Hid (Cal.provsErr l = Cal.provErr p.name p.value p.fr p.en p.repeal) := by show _ = _; rw [hinv.out, hd.out, Cal.provsErrFrom_cons, if_neg hp0]; rfl
          clear hp0
          go_wp2_with (go_at_call 27; refine (checkProvision_any _ _ _ _ _ _ hnm).mono ?_; rintro e w1 ⟨rfl, hb1⟩; obtain ⟨hc1, hf1⟩ := bcell hb1)
          go_ret
          exact ⟨ret_int hfin.out.symm, below_step (hb.alloc hbs _) hb1⟩
      · obtain rfl : k = l.length := by omega
        have hfin : Hid (Cal.provsErr l = 0) := by show _ = _; rw [hinv.out, List.drop_length]; rfl
        clear hinv
        go_wp2
        go_ret
        exact ⟨ret_int hfin.out.symm, hb⟩
end Go.Proofs.YtbinoelbjlgjkaaDoor
namespace Go.Proofs.YtbinoelbjlgjkaaDoor
open Go Go.RowKit
def Cal.frAt (l : List Prov) (i : Nat) : Int := match l[i]? with | some q => q.fr | none => 0
theorem Cal.frAt_eq {l : List Prov} {i : Nat} {q : Prov} (h : l[i]? = some q) : Cal.frAt l i = q.fr := by unfold Cal.frAt; rw [h]
def Cal.takes (l : List Prov) (name : ByteArray) (holds known : Int) (p : Prov) (best : Int) : Bool :=
  (p.name.toList == name.toList) && (decide (p.en ≤ known) && (decide (p.fr ≤ holds) && (decide (best < 0) || decide (Cal.frAt l best.toNat ≤ p.fr))))
/-- The entry that decides, of the first k ones, or -1. -/
def Cal.srcTo (l : List Prov) (name : ByteArray) (holds known : Int) : Nat → Int
  | 0 => -1
  | k + 1 => match l[k]? with
    | none => Cal.srcTo l name holds known k
    | some p => if Cal.takes l name holds known p (Cal.srcTo l name holds known k) = true then (k : Int) else Cal.srcTo l name holds known k
theorem Cal.srcTo_set {l : List Prov} {name : ByteArray} {holds known : Int} {k : Nat} {p : Prov} {best : Int} (hb : best = Cal.srcTo l name holds known k) (hk : l[k]? = some p) (h : Cal.takes l name holds known p best = true) :
    (k : Int) = Cal.srcTo l name holds known (k + 1) := by
  conv => rhs; unfold Cal.srcTo
  rw [hk, ← hb]; exact (if_pos h).symm
theorem Cal.srcTo_keep {l : List Prov} {name : ByteArray} {holds known : Int} {k : Nat} {p : Prov} {best : Int} (hb : best = Cal.srcTo l name holds known k) (hk : l[k]? = some p) (h : Cal.takes l name holds known p best = false) :
    best = Cal.srcTo l name holds known (k + 1) := by
  conv => rhs; unfold Cal.srcTo
  rw [hk, ← hb]; exact (if_neg (by rw [h]; simp)).symm
theorem Cal.srcTo_lt (l : List Prov) (name : ByteArray) (holds known : Int) (k : Nat) : -1 ≤ Cal.srcTo l name holds known k ∧ Cal.srcTo l name holds known k < k := by
  induction k with
  | zero => simp [Cal.srcTo]
  | succ k ih =>
    unfold Cal.srcTo
    split
    · omega
    · split <;> omega
def Cal.src (l : List Prov) (name : ByteArray) (holds known : Int) : Int := Cal.srcTo l name holds known l.length
set_option maxHeartbeats 2000000 in
theorem source_any (A : Option Addr) (c : Nat) (l : List Prov) (name : ByteArray) (holds known : Int) (w : World) (hl : Provs w A l) :
    Calls Tryd.prog 26 #[.slice A l.length c, .string name, .int .i64 holds, .int .i64 known] w fun e w' => e = .returned (.int .i64 (Cal.src l name holds known)) ∧ Below w.heap.size w w' := by
  have hsz := hl.size
  have hl' := Lib.hid hl
  clear hl
  have h0 : Hid ((-1 : Int) = Cal.srcTo l name holds known 0) := rfl
  go_enter Tryd.func26, Tryd.ntmps26
  go_wp2
  go_loopw [9, 14] (fun bs i wr => ∃ (k : Nat) (best : Int), k ≤ l.length ∧ i = .int .i64 k ∧ bs = .int .i64 best ∧ -1 ≤ best ∧ best < k ∧ Hid (best = Cal.srcTo l name holds known k) ∧ Below w.heap.size w wr) (fun _ i _ => l.length - (intOf i).toNat)
  case atStart => exact ⟨0, -1, Nat.zero_le _, rfl, rfl, by omega, by omega, h0, Below.refl _ _⟩
  case round =>
    obtain ⟨k, best, hk, rfl, rfl, hb1, hb2, hbest, hb⟩ := hrel
    clear h0
    have hbs := hb.size
    by_cases hlt : k < l.length
    · have hk' : l[k]? = some l[k] := List.getElem?_eq_getElem hlt
      have hat := Lib.hid (fun (q : Nat) p (h : l[q]? = some p) => (hl'.out.below hb).at_ h)
      obtain ⟨b, o, rfl, hbl, c0, c1, c2, c3, c4⟩ := (hl'.out.below hb).at_ hk'
      generalize l[k] = p at *
      cases h1 : p.name.toList == name.toList
      · have hst : Hid (best = Cal.srcTo l name holds known (k + 1)) := Cal.srcTo_keep hbest.out hk' (by unfold Cal.takes; simp [h1])
        clear hk'
        go_wp2_with fail
        go_quiet (fail)
        go_wp2_with fail
        go_roundw
        case rel => exact ⟨k + 1, best, by omega, by go_num, rfl, by omega, by omega, hst, below_drewN (hb.alloc hbs _) _⟩
        case measure => simp [intOf]; omega
      · by_cases h2 : p.en ≤ known
        · by_cases h3 : p.fr ≤ holds
          · by_cases h4 : best < 0
            · have hst : Hid ((k : Int) = Cal.srcTo l name holds known (k + 1)) := Cal.srcTo_set hbest.out hk' (by unfold Cal.takes; simp [h1, h2, h3, h4])
              clear hk'
              go_wp2_with fail
              go_quiet (fail)
              go_wp2_with fail
              go_roundw
              case rel => exact ⟨k + 1, k, by omega, by go_num, rfl, by omega, by omega, hst, below_drewN (hb.alloc hbs _) _⟩
              case measure => simp [intOf]; omega
            · obtain ⟨q, rfl⟩ := Int.eq_ofNat_of_zero_le (show 0 ≤ best by omega)
              have hq' : l[q]? = some l[q] := List.getElem?_eq_getElem (by omega)
              obtain ⟨b', o', hA', hbl', d0, d1, d2, d3, d4⟩ := hat.out q _ hq'
              have hfr := Lib.hid (Cal.frAt_eq hq')
              generalize l[q] = pq at *
              clear hq'
              simp only [Option.some.injEq, Addr.mk.injEq, and_true] at hA'
              obtain ⟨rfl, rfl⟩ := hA'
              clear d0 d1 d3 d4
              have h4' : decide ((q : Int) < 0) = false := by simp
              by_cases h5 : pq.fr ≤ p.fr
              · have hst : Hid ((k : Int) = Cal.srcTo l name holds known (k + 1)) := Cal.srcTo_set hbest.out hk' (by unfold Cal.takes; simp [h1, h2, h3, hfr.out, h5])
                clear hk'
                go_wp2_with fail
                go_quiet (fail)
                go_wp2_with fail
                go_roundw
                case rel => exact ⟨k + 1, k, by omega, by go_num, rfl, by omega, by omega, hst, below_drewN (hb.alloc hbs _) _⟩
                case measure => simp [intOf]; omega
              · have hst : Hid ((q : Int) = Cal.srcTo l name holds known (k + 1)) := Cal.srcTo_keep hbest.out hk' (by unfold Cal.takes; simp [h1, h2, h3, hfr.out, h5])
                clear hk'
                go_wp2_with fail
                go_quiet (fail)
                go_wp2_with fail
                go_roundw
                case rel => exact ⟨k + 1, q, by omega, by go_num, rfl, by omega, by omega, hst, below_drewN (hb.alloc hbs _) _⟩
                case measure => simp [intOf]; omega
          · have h3' : decide (p.fr ≤ holds) = false := by simpa using h3
            have hst : Hid (best = Cal.srcTo l name holds known (k + 1)) := Cal.srcTo_keep hbest.out hk' (by unfold Cal.takes; simp [h1, h2, h3])
            clear hk'
            go_wp2_with fail
            go_quiet (fail)
            go_wp2_with fail
            go_roundw
            case rel => exact ⟨k + 1, best, by omega, by go_num, rfl, by omega, by omega, hst, below_drewN (hb.alloc hbs _) _⟩
            case measure => simp [intOf]; omega
        · have h2' : decide (p.en ≤ known) = false := by simpa using h2
          have hst : Hid (best = Cal.srcTo l name holds known (k + 1)) := Cal.srcTo_keep hbest.out hk' (by unfold Cal.takes; simp [h1, h2])
          clear hk'
          go_wp2_with fail
          go_quiet (fail)
          go_wp2_with fail
          go_roundw
          case rel => exact ⟨k + 1, best, by omega, by go_num, rfl, by omega, by omega, hst, below_drewN (hb.alloc hbs _) _⟩
          case measure => simp [intOf]; omega
    · obtain rfl : k = l.length := by omega
      go_wp2
      go_ret
      exact ⟨ret_int hbest.out, hb⟩
end Go.Proofs.YtbinoelbjlgjkaaDoor
namespace Go.Proofs.YtbinoelbjlgjkaaDoor
open Go Go.RowKit
end Go.Proofs.YtbinoelbjlgjkaaDoor
namespace Go.Proofs.YtbinoelbjlgjkaaDoor
open Go Go.RowKit
theorem Cal.provErr_en {p : Prov} (h : Cal.provErrOf p = 0) : 0 ≤ p.en := by
  unfold Cal.provErrOf Cal.provErr at h
  split at h
  · split at h
    · omega
    · omega
  · omega
def PrevEn (l : List Prov) (k : Nat) (e0 : Int) : Prop := (k = 0 ∧ e0 = 0) ∨ (0 < k ∧ ∃ q, l[k - 1]? = some q ∧ q.en = e0)
end Go.Proofs.YtbinoelbjlgjkaaDoor
