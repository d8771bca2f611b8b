/- Chapter 8 and what it rests on: definitions and walks, part 26. -/
import Derived.Test.YtbegbajlagcbdaaGreatDoorC25
import Derived.Test.YtbegbajlagcbdaaGreatDoorC15
import Derived.Test.YtbegbajlagcbdaaGreatDoorC14
import Derived.Test.YtbegbajlagcbdaaGreatDoorC24
import Derived.Test.YtbegbajlagcbdaaGreatDoorC17
import Derived.ChangeSlices
namespace Go.Proofs.YtbegbajlagcbdaaGreatDoor.Cal
/-- How many of k days from a on are so. -/
def num (p : Int → Bool) (a : Int) : Nat → Nat
  | 0 => 0
  | k + 1 => num p a k + (p (a + k)).toNat
theorem num_split {p q r : Int → Bool} {a : Int} : ∀ k : Nat, (∀ d, a ≤ d → d < a + k → p d = true → q d = true ∨ r d = true) → num p a k ≤ num q a k + num r a k
  | 0, _ => Nat.le_refl _
  | k + 1, h => by
    have ih := num_split k fun d h1 h2 => h d h1 (by omega)
    have := h (a + k) (by omega) (by omega)
    unfold num
    cases hp : p (a + k)
    · simp; omega
    · rcases this hp with hq | hr
      · rw [hq]; simp; omega
      · rw [hr]; simp; omega
theorem num_eq (a v : Int) : ∀ k : Nat, num (fun d => decide (d = v)) a k ≤ 1 ∧ (a + k ≤ v → num (fun d => decide (d = v)) a k = 0)
  | 0 => ⟨by simp [num], fun _ => rfl⟩
  | k + 1 => by
    obtain ⟨h1, h2⟩ := num_eq a v k
    unfold num
    by_cases he : a + k = v
    · rw [h2 (by omega)]
      refine ⟨by simp [he], fun h => by omega⟩
    · have : decide (a + (k : Int) = v) = false := by simpa using he
      simp only [this]
      exact ⟨by simpa using h1, fun h => by simpa using h2 (by omega)⟩
/-- A holiday that is right falls on at most two of the days. -/
theorem num_isB {h : Hol} (hh : holErrOf h = 0) {a : Int} {k : Nat} (hk : k ≤ 365) (a0 : 0 ≤ a) (a1 : a + k ≤ 200001) : num (isB h) a k ≤ 2 := by
  have hy : ∀ d, a ≤ d → d < a + k → dY d = dY a ∨ dY d = dY a + 1 := fun d h1 h2 => by
    have s := date_spec a a0 (by omega)
    have t := date_spec d (by omega) (by omega)
    have l1 := s.lo; have l2 := s.hi; have t1 := t.lo; have t2 := t.hi
    have b1 := beg_succ (dY a); have b2 := beg_succ (dY a + 1)
    have g1 := lp_ge (dY a); have g2 := lp_ge (dY a + 1)
    rcases Int.lt_trichotomy (dY d) (dY a) with h | h | h
    · exfalso
      have := beg_mono (a := dY d + 1) (b := dY a) (by omega)
      omega
    · exact .inl h
    · right
      apply Classical.byContradiction; intro hn
      have := beg_mono (a := dY a + 1 + 1) (b := dY d) (by omega)
      omega
  have hs := num_split (p := isB h) (q := fun d => decide (d = (onS h (dY a)).getD (-1))) (r := fun d => decide (d = (onS h (dY a + 1)).getD (-1))) (a := a) k fun d h1 h2 hb => by
    have := (isB_iff hh (by omega) (by omega)).1 hb
    rcases hy d h1 h2 with e | e
    · left; rw [e] at this; rw [this]; simp
    · right; rw [e] at this; rw [this]; simp
  have n1 := (num_eq a ((onS h (dY a)).getD (-1)) k).1
  have n2 := (num_eq a ((onS h (dY a + 1)).getD (-1)) k).1
  omega
theorem num_anyB {a : Int} {k : Nat} (hk : k ≤ 365) (a0 : 0 ≤ a) (a1 : a + k ≤ 200001) : ∀ {l : List Hol}, HolsOk l → num (anyB l) a k ≤ 2 * l.length
  | [], _ => by
    have : ∀ k, num (anyB []) a k = 0 := fun k => by
      induction k with
      | zero => rfl
      | succ k ih => unfold num; rw [ih]; simp [anyB]
    rw [this]; simp
  | h :: l, hl => by
    have ih := num_anyB hk a0 a1 (l := l) fun q hq => hl q (List.mem_cons_of_mem _ hq)
    have hi := num_isB (hl h (List.mem_cons_self ..)) hk a0 a1
    have hs := num_split (p := anyB (h :: l)) (q := isB h) (r := anyB l) (a := a) k fun d _ _ hb => by
      unfold anyB at hb ⊢
      rw [List.any_cons, Bool.or_eq_true] at hb
      exact hb
    rw [List.length_cons]; omega
theorem num_week (a : Int) : ∀ k : Nat, 5 * k ≤ num (fun d => decide ((d + 2) % 7 < 5)) a (7 * k)
  | 0 => by simp
  | k + 1 => by
    have ih := num_week a k
    rw [show 7 * (k + 1) = 7 * k + 1 + 1 + 1 + 1 + 1 + 1 + 1 by omega]
    simp only [num]
    have hc : (a + (7 * k : Nat)) % 7 = 0 ∨ (a + (7 * k : Nat)) % 7 = 1 ∨ (a + (7 * k : Nat)) % 7 = 2 ∨ (a + (7 * k : Nat)) % 7 = 3 ∨ (a + (7 * k : Nat)) % 7 = 4 ∨ (a + (7 * k : Nat)) % 7 = 5 ∨ (a + (7 * k : Nat)) % 7 = 6 := by omega
    generalize hb : a + ((7 * k : Nat) : Int) = b at hc
    have e1 : a + ((7 * k + 1 : Nat) : Int) = b + 1 := by omega
    have e2 : a + ((7 * k + 1 + 1 : Nat) : Int) = b + 2 := by omega
    have e3 : a + ((7 * k + 1 + 1 + 1 : Nat) : Int) = b + 3 := by omega
    have e4 : a + ((7 * k + 1 + 1 + 1 + 1 : Nat) : Int) = b + 4 := by omega
    have e5 : a + ((7 * k + 1 + 1 + 1 + 1 + 1 : Nat) : Int) = b + 5 := by omega
    have e6 : a + ((7 * k + 1 + 1 + 1 + 1 + 1 + 1 : Nat) : Int) = b + 6 := by omega
    rw [e1, e2, e3, e4, e5, e6]
    have ht : ∀ x : Int, (x + 2) % 7 < 5 → (decide ((x + 2) % 7 < 5)).toNat = 1 := fun x h => by simp [h]
    rcases hc with h | h | h | h | h | h | h
    · rw [ht b (by omega), ht (b + 1) (by omega), ht (b + 2) (by omega), ht (b + 5) (by omega), ht (b + 6) (by omega)]; omega
    · rw [ht b (by omega), ht (b + 1) (by omega), ht (b + 4) (by omega), ht (b + 5) (by omega), ht (b + 6) (by omega)]; omega
    · rw [ht b (by omega), ht (b + 3) (by omega), ht (b + 4) (by omega), ht (b + 5) (by omega), ht (b + 6) (by omega)]; omega
    · rw [ht (b + 2) (by omega), ht (b + 3) (by omega), ht (b + 4) (by omega), ht (b + 5) (by omega), ht (b + 6) (by omega)]; omega
    · rw [ht (b + 1) (by omega), ht (b + 2) (by omega), ht (b + 3) (by omega), ht (b + 4) (by omega), ht (b + 5) (by omega)]; omega
    · rw [ht b (by omega), ht (b + 1) (by omega), ht (b + 2) (by omega), ht (b + 3) (by omega), ht (b + 4) (by omega)]; omega
    · rw [ht b (by omega), ht (b + 1) (by omega), ht (b + 2) (by omega), ht (b + 3) (by omega), ht (b + 6) (by omega)]; omega
theorem cnt_num (l : List Hol) (a : Int) : ∀ k : Nat, cnt l a k = (num (workB l) a k : Int)
  | 0 => rfl
  | k + 1 => by
    unfold cnt num
    rw [cnt_num l a k]
    cases workB l (a + k) <;> simp
/-- In 27 weeks there are 95 working days at least, where there are at most 20 holidays. -/
theorem many {l : List Hol} (hl : HolsOk l) (hn : l.length ≤ 20) {a : Int} (a0 : 0 ≤ a) (a1 : a + 189 ≤ 200001) : 95 ≤ betw l a (a + 189) := by
  have hw : 5 * 27 ≤ num (fun d => decide ((d + 2) % 7 < 5)) a 189 := num_week a 27
  have ha := num_anyB (a := a) (k := 189) (by omega) a0 (by omega) hl
  have hs := num_split (p := fun d => decide ((d + 2) % 7 < 5)) (q := workB l) (r := anyB l) (a := a) 189 fun d _ _ hb => by
    unfold workB
    cases hq : anyB l d
    · left; have hb' : decide ((d + 2) % 7 < 5) = true := hb
      rw [hb']; rfl
    · exact .inr rfl
  unfold betw
  rw [show (a + 189 - a).toNat = 189 by omega, cnt_num]
  omega
/-- What addFrom finds, going on: the day behind so many working days. -/
theorem addFrom_iff {l : List Hol} (hl : HolsOk l) : ∀ (k : Nat) (d left : Int), 0 ≤ d → d + k ≤ 200001 → 0 ≤ left → left < betw l d (d + k) →
    ∃ x, addFrom l 1 (stepsLeft 1 d) d left = some x ∧ d ≤ x ∧ x < d + k ∧ workB l x = true ∧ betw l d x = left
  | 0, d, left, _, _, h1, h2 => by rw [show d + ((0 : Nat) : Int) = d by simp, betw_self] at h2; omega
  | k + 1, d, left, d0, d1, h1, h2 => by
    have hd : isDayP d := ⟨d0, by omega⟩
    have hwe := workB_eq hl d0 (show d ≤ 200000 by omega)
    have hsum : betw l d (d + ((k + 1 : Nat) : Int)) = betw l d (d + 1) + betw l (d + 1) (d + ((k + 1 : Nat) : Int)) := by
      have := betw_add (l := l) (a := d) (b := d + 1) (by omega) k
      rw [show d + 1 + (k : Int) = d + ((k + 1 : Nat) : Int) by omega] at this
      exact this
    have hone : betw l d (d + 1) = if workB l d = true then 1 else 0 := by rw [betw_succ (Int.le_refl _), betw_self]; omega
    have hfrom : ∀ x, d + 1 ≤ x → betw l d x = betw l d (d + 1) + betw l (d + 1) x := fun x hx => by
      have := betw_add (l := l) (a := d) (b := d + 1) (by omega) (x - (d + 1)).toNat
      rwa [show d + 1 + ((x - (d + 1)).toNat : Int) = x by omega] at this
    rw [show d + ((k + 1 : Nat) : Int) = d + 1 + k by omega] at h2 hsum
    cases hw : workB l d
    · rw [hw] at hone hwe
      simp only [Bool.false_eq_true, if_false] at hone
      obtain ⟨x, e1, e2, e3, e4, e5⟩ := addFrom_iff hl k (d + 1) left (by omega) (by omega) h1 (by omega)
      refine ⟨x, ?_, by omega, by omega, e4, by rw [hfrom x e2]; omega⟩
      rw [addFrom_skip (.inl rfl) hd hwe]; exact e1
    · rw [hw] at hone hwe
      simp only [if_true] at hone
      by_cases h0 : left = 0
      · subst h0
        exact ⟨d, addFrom_hit (.inl rfl) hd hwe, by omega, by omega, hw, betw_self l d⟩
      · obtain ⟨x, e1, e2, e3, e4, e5⟩ := addFrom_iff hl k (d + 1) (left - 1) (by omega) (by omega) (by omega) (by omega)
        refine ⟨x, ?_, by omega, by omega, e4, by rw [hfrom x e2]; omega⟩
        rw [addFrom_next (.inl rfl) hd hwe h0]; exact e1
theorem betw_trans {l : List Hol} {a b c : Int} (h : a ≤ b) (h2 : b ≤ c) : betw l a c = betw l a b + betw l b c := by
  have := betw_add (l := l) h (c - b).toNat
  rwa [show b + ((c - b).toNat : Int) = c by omega] at this
theorem betw_strict {l : List Hol} {a x y : Int} (h : a ≤ x) (h2 : x < y) (hw : workB l x = true) : betw l a x + 1 ≤ betw l a y := by
  have e1 := betw_trans (l := l) (a := a) (b := x + 1) (c := y) (by omega) (by omega)
  have e2 := betw_succ (l := l) h
  have := (betw_bd (l := l) (show x + 1 ≤ y by omega)).1
  rw [hw] at e2
  simp only [if_true] at e2
  omega
/-- AddWorking by at least one. -/
theorem addW_pos {l : List Hol} (hl : HolsOk l) (hn : l.length ≤ 20) {d n : Int} (d0 : 0 ≤ d) (d1 : d + 190 ≤ 200001) (n1 : 1 ≤ n) (n2 : n ≤ 90) :
    ∃ x, addW l d n = some x ∧ d + 1 ≤ x ∧ x < d + 190 ∧ workB l x = true ∧ betw l (d + 1) x = n - 1 := by
  have hm := many hl hn (a := d + 1) (by omega) (by omega)
  obtain ⟨x, e1, e2, e3, e4, e5⟩ := addFrom_iff hl 189 (d + 1) (n - 1) (by omega) (by omega) (by omega) (by rw [show d + 1 + ((189 : Nat) : Int) = d + 1 + 189 by omega]; omega)
  refine ⟨x, ?_, e2, by omega, e4, e5⟩
  unfold addW; rw [if_neg (by omega), if_neg (by omega)]; exact e1
theorem addW_zero {l : List Hol} (hl : HolsOk l) (hn : l.length ≤ 20) {d : Int} (d0 : 0 ≤ d) (d1 : d + 190 ≤ 200001) :
    ∃ x, addW l d 0 = some x ∧ d ≤ x ∧ x < d + 190 ∧ workB l x = true ∧ betw l d x = 0 := by
  have hm := many hl hn (a := d) (by omega) (by omega)
  obtain ⟨x, e1, e2, e3, e4, e5⟩ := addFrom_iff hl 189 d 0 (by omega) (by omega) (by omega) (by rw [show d + ((189 : Nat) : Int) = d + 189 by omega]; omega)
  refine ⟨x, ?_, e2, by omega, e4, e5⟩
  unfold addW; rw [if_pos rfl]; exact e1
/-- From a later day on the same count comes no earlier. -/
theorem find_mono {l : List Hol} {a b x y n : Int} (h : a ≤ b) (hy : b ≤ y) (wy : workB l y = true) (ex : betw l a x = n) (ey : betw l b y = n) : x ≤ y := by
  apply Classical.byContradiction; intro hn
  have h1 := betw_strict (l := l) hy (show y < x by omega) wy
  have h2 := betw_trans (l := l) h (show b ≤ x by omega)
  have h3 := (betw_bd (l := l) h).1
  omega
theorem addW_mono {l : List Hol} (hl : HolsOk l) (hn : l.length ≤ 20) {a b n : Int} (h : a ≤ b) (a0 : 0 ≤ a) (b1 : b + 190 ≤ 200001) (n0 : 0 ≤ n) (n2 : n ≤ 90) :
    ∃ x y, addW l a n = some x ∧ addW l b n = some y ∧ x ≤ y := by
  by_cases hz : n = 0
  · subst hz
    obtain ⟨x, e1, e2, e3, e4, e5⟩ := addW_zero hl hn a0 (show a + 190 ≤ 200001 by omega)
    obtain ⟨y, f1, f2, f3, f4, f5⟩ := addW_zero hl hn (show 0 ≤ b by omega) b1
    exact ⟨x, y, e1, f1, find_mono h f2 f4 e5 f5⟩
  · obtain ⟨x, e1, e2, e3, e4, e5⟩ := addW_pos hl hn a0 (show a + 190 ≤ 200001 by omega) (show 1 ≤ n by omega) n2
    obtain ⟨y, f1, f2, f3, f4, f5⟩ := addW_pos hl hn (show 0 ≤ b by omega) b1 (show 1 ≤ n by omega) n2
    exact ⟨x, y, e1, f1, find_mono (show a + 1 ≤ b + 1 by omega) f2 f4 e5 f5⟩
/-- By a number and then by another one: by both. -/
theorem addW_both {l : List Hol} (hl : HolsOk l) (hn : l.length ≤ 20) {d n m : Int} (d0 : 0 ≤ d) (d1 : d ≤ 196000) (n1 : 1 ≤ n) (n2 : n ≤ 40) (m1 : 1 ≤ m) (m2 : m ≤ 40) :
    ∃ x y, addW l d n = some x ∧ addW l x m = some y ∧ addW l d (n + m) = some y ∧ d + 1 ≤ x ∧ x < d + 190 ∧ betw l (d + 1) x = n - 1 ∧ workB l x = true := by
  obtain ⟨x, e1, e2, e3, e4, e5⟩ := addW_pos hl hn d0 (by omega) n1 (show n ≤ 90 by omega)
  obtain ⟨y, f1, f2, f3, f4, f5⟩ := addW_pos hl hn (show 0 ≤ x by omega) (by omega) m1 (show m ≤ 90 by omega)
  obtain ⟨z, g1, g2, g3, g4, g5⟩ := addW_pos hl hn d0 (by omega) (show 1 ≤ n + m by omega) (show n + m ≤ 90 by omega)
  have h1 := betw_trans (l := l) e2 (show x ≤ y by omega)
  have h2 := betw_trans (l := l) (show x ≤ x + 1 by omega) f2
  have h3 : betw l x (x + 1) = 1 := by rw [betw_succ (Int.le_refl _), betw_self, e4]; simp
  have hyz : y = z := by
    rcases Int.lt_trichotomy y z with h | h | h
    · have := betw_strict (l := l) (a := d + 1) (show d + 1 ≤ y by omega) h f4; omega
    · exact h
    · have := betw_strict (l := l) (a := d + 1) g2 h g4; omega
  subst hyz
  exact ⟨x, y, e1, f1, g1, e2, e3, e5, e4⟩
/-- So many months on from a day and from the next one. -/
theorem later_next {d m : Int} (d0 : 0 ≤ d) (d1 : d ≤ 196000) (m0 : 0 ≤ m) (m1 : m ≤ 60) :
    (laterS d m).2 = true ∧ (laterS (d + 1) m).2 = true ∧ (laterS d m).1 ≤ (laterS (d + 1) m).1 ∧ 0 ≤ (laterS d m).1 ∧ (laterS (d + 1) m).1 ≤ 198000 := by
  have htop : ∀ e, 0 ≤ e → e ≤ 196001 → mval (dD e) (idx e + m) ≤ e + 1891 := fun e e0 e1 => by
    have hi := mfirst_idx e0 (show e ≤ 200000 by omega)
    have hstep : ∀ n : Nat, mfirst (idx e + n) ≤ mfirst (idx e) + 31 * n := fun n => by
      induction n with
      | zero => simp
      | succ n ih =>
        have hs := mfirst_succ (idx e + n)
        have := mlen_bd ((idx e + n) / 12) ((idx e + n) % 12 + 1)
        rw [show idx e + ((n + 1 : Nat) : Int) = idx e + n + 1 by omega]
        omega
    have hv := mval_hi (dD e) (idx e + m)
    have := hstep (m + 1).toNat
    rw [show idx e + (((m + 1).toNat : Nat) : Int) = idx e + m + 1 by omega] at this
    omega
  have hyear : ∀ e, 0 ≤ e → e ≤ 196001 → 21600 ≤ idx e + m ∧ idx e + m ≤ 28175 := fun e e0 e1 => by
    have hb := idx_bd e0 (show e ≤ 200000 by omega)
    refine ⟨by omega, ?_⟩
    apply Classical.byContradiction; intro hn
    have hv := mval_lo (d := dD e) (t := idx e + m) (dD_pos e0 (show e ≤ 200000 by omega))
    have := mfirst_mono (t := 28176) (u := idx e + m) (by omega)
    have h2 : mfirst 28176 = 200152 := by decide +kernel
    have := htop e e0 e1
    omega
  obtain ⟨a1, a2⟩ := hyear d d0 (by omega)
  obtain ⟨b1, b2⟩ := hyear (d + 1) (by omega) (by omega)
  have t1 := htop d d0 (by omega)
  have t2 := htop (d + 1) (by omega) (by omega)
  rw [laterS_in a1 a2, laterS_in b1 b2]
  have hlo : 0 ≤ mval (dD d) (idx d + m) := by
    have := laterS_nonneg d0 (show d ≤ 200000 by omega) m
    rwa [laterS_in a1 a2] at this
  refine ⟨by simp; omega, by simp; omega, ?_, hlo, by simp only; omega⟩
  simp only
  have hmono := idx_mono d0 (show d ≤ d + 1 by omega) (show d + 1 ≤ 200000 by omega)
  rcases Int.lt_or_eq_of_le hmono with hlt | heq
  · have := mval_hi (dD d) (idx d + m)
    have := mfirst_mono (t := idx d + m + 1) (u := idx (d + 1) + m) (by omega)
    have := mval_lo (d := dD (d + 1)) (t := idx (d + 1) + m) (dD_pos (show 0 ≤ d + 1 by omega) (show d + 1 ≤ 200000 by omega))
    omega
  · have s1 := mval_idx d0 (show d ≤ 200000 by omega)
    have s2 := mval_idx (show 0 ≤ d + 1 by omega) (show d + 1 ≤ 200000 by omega)
    have dd : dD d ≤ dD (d + 1) := by
      have e1 := idx_div d0 (show d ≤ 200000 by omega)
      have e2 := idx_div (show 0 ≤ d + 1 by omega) (show d + 1 ≤ 200000 by omega)
      unfold dD
      rw [← e1.1, ← e2.1, ← e1.2, ← e2.2, heq]; omega
    rw [← heq]
    unfold mval; omega
theorem dl_next {l : List Hol} (hl : HolsOk l) (hn : l.length ≤ 20) {day m d : Int} {k : Bool} (d0 : 0 ≤ day) (d1 : day ≤ 196000) (m0 : 0 ≤ m) (m1 : m ≤ 60) (q0 : 0 ≤ d) (q1 : d ≤ 60) :
    ∃ x y, dlFrom l day m d k = some x ∧ dlFrom l (day + 1) m d k = some y ∧ x ≤ y := by
  obtain ⟨h1, h2, h3, h4, h5⟩ := later_next d0 d1 m0 m1
  unfold dlFrom
  rw [if_pos h1, if_pos h2]
  cases k
  · simp only [Bool.false_eq_true, if_false]
    rw [if_pos (by omega), if_pos (by omega)]
    exact addW_mono hl hn (by omega) (by omega) (by omega) (by omega) (by omega)
  · simp only [if_true]
    exact addW_mono hl hn h3 h4 (by omega) q0 (by omega)
end Go.Proofs.YtbegbajlagcbdaaGreatDoor.Cal
namespace Go.Proofs.YtbegbajlagcbdaaGreatDoor
open Go Go.RowKit
structure Stp where
  mon : Int
  day : Int
def Stp.cells (s : Stp) : List Value := [.int .i64 s.mon, .int .i64 s.day]
/-- The error of an order, the first day and how many are visited on a day. -/
def Cal.ordE (order : List Int) (x y : Int) : Int := if 60 < order.length then 8 else if order.Nodup then (if 0 ≤ x ∧ x ≤ 200000 ∧ 1 ≤ y ∧ y ≤ 60 then 0 else 2) else 5
theorem Cal.ups_len_iff (zs : List Int) : (Cal.ups zs).length < zs.length ↔ ¬ zs.Nodup := by
  have hp : (zs.mergeSort fun x y => decide (x ≤ y)).Perm zs := List.mergeSort_perm zs _
  have hl : (zs.mergeSort fun x y => decide (x ≤ y)).length = zs.length := List.length_mergeSort zs
  have hs := Cal.sort_up zs
  have hu := (Cal.ups_spec zs).1
  unfold Cal.ups at hu ⊢
  rw [← hp.nodup_iff]
  generalize (zs.mergeSort fun x y => decide (x ≤ y)) = s at *
  rw [← hl]
  constructor
  · intro h hn
    have hall : ∀ j, j < s.length → Lib.keeps s.toArray j = true := fun j hj => by
      unfold Lib.keeps
      rw [decide_eq_true_iff]
      by_cases h0 : j = 0
      · exact .inl h0
      · right
        rw [getElem!_pos _ j (by simpa using hj), getElem!_pos _ (j - 1) (by simp; omega)]
        intro e
        have e' : s[j] = s[j - 1] := by simpa using e
        have := (List.nodup_iff_pairwise_ne.1 hn)
        have := List.pairwise_iff_getElem.1 this (j - 1) j (by omega) hj (by omega)
        exact this e'.symm
    rw [Lib.compact_all s hall] at h
    omega
  · intro hn
    rcases Nat.lt_or_ge (Lib.compact s).length s.length with h | h
    · exact h
    · exfalso
      have hall : ∀ j, j < s.length → Lib.keeps s.toArray j = true := by
        have h1 : (Lib.compact s).length = s.length := Nat.le_antisymm (by
          unfold Lib.compact Lib.compactUpTo
          rw [List.length_map]
          exact Nat.le_trans (List.length_filter_le _ _) (by rw [List.length_range]; omega)) h
        unfold Lib.compact Lib.compactUpTo at h1
        rw [List.length_map] at h1
        have h2 : ((List.range s.length).filter (Lib.keeps s.toArray)).length = (List.range s.length).length := by rw [h1, List.length_range]
        have h3 := List.length_filter_eq_length_iff.1 h2
        exact fun j hj => h3 j (List.mem_range.2 hj)
      rw [Lib.compact_all s hall] at hu
      exact hn (List.nodup_iff_pairwise_ne.2 (hu.imp fun h => by omega))
/-- The day of the next stop: a new working day at each y-th one. -/
def Cal.nextD (l : List Hol) (y k : Nat) (day : Int) : Option Int := if k % y = 0 then Cal.addW l (if 0 < k then day + 1 else day) 0 else some day
/-- The stops of the first k ones of an order, and the day of the last one. -/
def Cal.planTo (l : List Hol) (y : Nat) (x : Int) (order : List Int) : Nat → Option (List Stp × Int)
  | 0 => some ([], x)
  | k + 1 => match Cal.planTo l y x order k with
    | none => none
    | some (out, day) => match order[k]? with
      | none => some (out, day)
      | some o => match Cal.nextD l y k day with
        | none => none
        | some n => some (out ++ [⟨o, n⟩], n)
theorem Cal.planTo_step {l : List Hol} {y k : Nat} {x day n : Int} {order : List Int} {out : List Stp} (h : Cal.planTo l y x order k = some (out, day)) (hk : k < order.length) (hn : Cal.nextD l y k day = some n) : Cal.planTo l y x order (k + 1) = some (out ++ [⟨order[k], n⟩], n) := by
  unfold Cal.planTo
  rw [h]
  simp only
  rw [List.getElem?_eq_getElem hk]
  simp only
  rw [hn]
theorem Cal.planTo_fail {l : List Hol} {y k : Nat} {x day : Int} {order : List Int} {out : List Stp} (h : Cal.planTo l y x order k = some (out, day)) (hk : k < order.length) (hn : Cal.nextD l y k day = none) : Cal.planTo l y x order (k + 1) = none := by
  unfold Cal.planTo
  rw [h]
  simp only
  rw [List.getElem?_eq_getElem hk]
  simp only
  rw [hn]
theorem Cal.planTo_none {l : List Hol} {y k : Nat} {x : Int} {order : List Int} (h : Cal.planTo l y x order k = none) : ∀ j, k ≤ j → Cal.planTo l y x order j = none
  | 0, hj => by obtain rfl : k = 0 := by omega
                exact h
  | j + 1, hj => by
    rcases Nat.lt_or_eq_of_le hj with h1 | h1
    · unfold Cal.planTo
      rw [Cal.planTo_none h j (by omega)]
    · rw [← h1]; exact h
def Cal.planS (l : List Hol) (y : Nat) (x : Int) (order : List Int) : Option (List Stp) := (Cal.planTo l y x order order.length).map (·.1)
theorem Cal.planTo_len {l : List Hol} {y : Nat} {x : Int} {order : List Int} : ∀ {k : Nat} {out : List Stp} {day : Int}, k ≤ order.length → Cal.planTo l y x order k = some (out, day) → out.length = k
  | 0, out, day, _, h => by unfold Cal.planTo at h; cases h; rfl
  | k + 1, out, day, hk, h => by
    unfold Cal.planTo at h
    cases hq : Cal.planTo l y x order k with
    | none => rw [hq] at h; cases h
    | some r =>
      obtain ⟨o1, d1⟩ := r
      rw [hq] at h
      simp only at h
      rw [List.getElem?_eq_getElem (by omega)] at h
      simp only at h
      have ih := Cal.planTo_len (k := k) (by omega) hq
      cases hn : Cal.nextD l y k d1 with
      | none => rw [hn] at h; cases h
      | some n => rw [hn] at h; cases h; simp [ih]
/-- AddWorking by one is AddWorking of the next day by none. -/
theorem Cal.addW_one (l : List Hol) (day : Int) : Cal.addW l day 1 = Cal.addW l (day + 1) 0 := by
  unfold Cal.addW
  rw [if_neg (by omega), if_neg (by omega), if_pos rfl]
  rfl
theorem Cal.addW_far {l : List Hol} {day : Int} (h : 200000 < day) : Cal.addW l day 0 = none := by
  unfold Cal.addW
  rw [if_pos rfl]
  exact Cal.addFrom_no (by unfold isDayP; omega)
/-- Within a chunk the day stays. -/
theorem Cal.planTo_chunk {l : List Hol} {y a : Nat} {x day n : Int} {order : List Int} {out : List Stp} (hy : 0 < y) (h : Cal.planTo l y x order (a * y) = some (out, day)) (hk : a * y < order.length) (hn : Cal.nextD l y (a * y) day = some n) :
    ∀ j, j < y → a * y + j < order.length → Cal.planTo l y x order (a * y + j + 1) = some (out ++ ((order.drop (a * y)).take (j + 1)).map (fun o => ⟨o, n⟩), n)
  | 0, _, _ => by
    rw [Nat.add_zero, Cal.planTo_step h hk hn]
    congr 2
    rw [List.drop_eq_getElem_cons hk]
    rfl
  | j + 1, hj, hlt => by
    have ih := Cal.planTo_chunk hy h hk hn j (by omega) (by omega)
    have hm : (a * y + j + 1) % y = j + 1 := by
      rw [show a * y + j + 1 = j + 1 + y * a by rw [Nat.mul_comm]; omega, Nat.add_mul_mod_self_left]
      exact Nat.mod_eq_of_lt hj
    have hd : Cal.nextD l y (a * y + j + 1) n = some n := by unfold Cal.nextD; rw [hm, if_neg (by omega)]
    rw [show a * y + (j + 1) + 1 = a * y + j + 1 + 1 by omega, Cal.planTo_step ih (by omega) hd]
    congr 2
    have e : (order.drop (a * y)).take (j + 1 + 1) = (order.drop (a * y)).take (j + 1) ++ [order[a * y + j + 1]] := by
      rw [List.take_succ_eq_append_getElem (by rw [List.length_drop]; omega)]
      congr 2
      rw [List.getElem_drop]
      congr 1
    rw [e, List.map_append, List.append_assoc]
    rfl
end Go.Proofs.YtbegbajlagcbdaaGreatDoor
namespace Go.Proofs.YtbegbajlagcbdaaGreatDoor
open Go Go.RowKit
/-- A slice of numbers that came in. -/
structure IntArg (w : World) (A : Option Addr) (c : Nat) (zs : List Int) : Prop where
  rows : RowsAt w A 1 (intRows zs)
  cap : zs.length ≤ c
theorem IntArg.below {w w' : World} {A : Option Addr} {c : Nat} {zs : List Int} (h : IntArg w A c zs) (hb : Below w.heap.size w w') : IntArg w' A c zs := ⟨h.rows.below hb, h.cap⟩
theorem ints_at {w : World} {A : Option Addr} {zs : List Int} (h : RowsAt w A 1 (intRows zs)) {k : Nat} (hk : k < zs.length) : ∃ b o, A = some ⟨b, o, none⟩ ∧ b < w.heap.size ∧ w.cell? ⟨b, o + k, none⟩ = some (.int .i64 zs[k]) := by
  obtain ⟨b, o, hA, hb, hc⟩ := h k [.int .i64 zs[k]] (by simp [intRows, List.getElem?_eq_getElem hk])
  have := hc 0 _ rfl
  simp only [Nat.mul_one, Nat.add_zero] at this
  exact ⟨b, o, hA, hb, this⟩
def missI (zs : List Int) (d : Int) (k : Nat) : Prop := ∀ (j : Nat) z, j < k → zs[j]? = some z → z ≠ d
theorem HasI_any (A : Option Addr) (c : Nat) (zs : List Int) (d : Int) (w : World) (h : RowsAt w A 1 (intRows zs)) (hs : zs.length ≤ 1000000) :
    Calls Tryz.prog 17 #[.slice A zs.length c, .int .i64 d] w fun e w' => e = .returned (.bool (decide (d ∈ zs))) ∧ w = w' := by
  have h' := Lib.hid h
  have h0 : Hid (missI zs d 0) := fun j z h _ => by omega
  clear h
  go_enter Tryz.func17, Tryz.ntmps17
  go_wp2
  go_loop [5] (fun i => ∃ k : Nat, k ≤ zs.length ∧ i = .int .i64 k ∧ Hid (missI zs d k)) (fun i => zs.length - (intOf i).toNat)
  case atStart => exact ⟨0, Nat.zero_le _, rfl, h0⟩
  case round =>
    obtain ⟨k, hk, rfl, hm⟩ := hrel
    clear h0
    by_cases hlt : k < zs.length
    · obtain ⟨b, o, rfl, _, e1⟩ := ints_at h'.out hlt
      have hzk := Lib.hid (List.getElem?_eq_getElem hlt)
      have hmem := Lib.hid (List.getElem_mem hlt)
      generalize zs[k] = z at *
      by_cases hz : z = d
      · have hfin : Hid (decide (d ∈ zs) = true) := by show _ = _; rw [decide_eq_true_iff, ← hz]; exact hmem.out
        subst hz
        go_wp2
        go_ret
        exact ⟨ret_bool hfin.out.symm, rfl⟩
      · have hz' : (z == d) = false := by simpa using hz
        have hnx : Hid (missI zs d (k + 1)) := fun j y hj hy => by
          rcases Nat.lt_or_ge j k with h | h
          · exact hm.out j y h hy
          · obtain rfl : j = k := by omega
            rw [hzk.out] at hy; cases hy; exact hz
        clear hz
        go_wp2
        go_round
        case rel => exact ⟨k + 1, by omega, by go_num, hnx⟩
        case measure => simp [intOf]; omega
    · obtain rfl : k = zs.length := by omega
      have hfin : Hid (decide (d ∈ zs) = false) := by
        show _ = _
        rw [decide_eq_false_iff_not]
        intro hc
        obtain ⟨j, hj, he⟩ := List.getElem_of_mem hc
        exact hm.out j _ hj (List.getElem?_eq_getElem hj) he
      go_wp2
      go_ret
      exact ⟨ret_bool hfin.out.symm, rfl⟩
/-! The head of a slice. -/
theorem RowsAt.headR {w : World} {A : Option Addr} {m : Nat} {rows : List (List Value)} (h : RowsAt w A m rows) (k : Nat) : RowsAt w A m (rows.take k) := fun j r hr => by
  refine h j r ?_
  rw [List.getElem?_take] at hr
  split at hr
  · exact hr
  · cases hr
theorem cut_head {t : TypeId} {m : Nat} (hu : Tryz.prog.underlying t = some (.slice (Tryz.prog.elem t))) (hz : ∀ w, (sizeOf (Tryz.prog.elem t)).run Tryz.prog w = .ok m w) {w : World} {A : Option Addr} {n c : Nat} {rows : List (List Value)} (hn : n = rows.length) (hr : RowsAt w A m rows) (hc : n ≤ c) {k : Nat} (hk : k ≤ n) :
    ∃ A1 c1, (∀ w', (Instr.slice t (.slice A n c) none (some (.int .i64 k)) none).run Tryz.prog w' = .ok (.slice A1 k c1) w') ∧ RowsAt w A1 m (rows.take k) := by
  have hr1 := hr.headR k
  refine ⟨if c = 0 then A else A.map (·.add (0 * m)), c - 0, fun w' => ?_, ?_⟩
  · rw [run_slice_h w' t A n c hu .i64 k (by omega) (by omega), hz]
    simp [Result.andThen, sliced]
  · split
    · exact hr1
    · intro j r hj
      obtain ⟨b, o, hA, hb, hcell⟩ := hr1 j r hj
      exact ⟨b, o, by rw [hA, Option.map_some, Nat.zero_mul]; rfl, hb, hcell⟩
theorem sizeInt1 (w : World) : (sizeOf (Tryz.prog.elem 32)).run Tryz.prog w = .ok 1 w := by kernel_rfl
theorem undInts1 : Tryz.prog.underlying 32 = some (.slice (Tryz.prog.elem 32)) := by kernel_rfl
theorem IntArg.head {w : World} {A : Option Addr} {c : Nat} {zs : List Int} (h : IntArg w A c zs) {k : Nat} (hk : k ≤ zs.length) :
    ∃ A1 c1, (∀ w', (Instr.slice 32 (.slice A zs.length c) none (some (.int .i64 k)) none).run Tryz.prog w' = .ok (.slice A1 k c1) w') ∧ RowsAt w A1 1 (intRows (zs.take k)) := by
  obtain ⟨A1, c1, h1, h2⟩ := cut_head undInts1 sizeInt1 (intRows_length zs).symm h.rows h.cap hk
  exact ⟨A1, c1, h1, by unfold intRows at h2 ⊢; rw [List.map_take]; exact h2⟩
/-- A boxed pair. -/
def XY (w : World) (B : Nat) (x y : Int) : Prop := BoxAt w B [.int .i64 x, .int .i64 y]
set_option maxRecDepth 100000 in
set_option maxHeartbeats 4000000 in
theorem OrderErr_any (A : Option Addr) (c : Nat) (order : List Int) (x y : Int) (w : World) (hI : IntArg w A c order) (hs : order.length ≤ 1000000) :
    Calls Tryz.prog 25 #[.slice A order.length c, .agg #[.int .i64 x, .int .i64 y]] w fun e w' => e = .returned (.int .i64 (Cal.ordE order x y)) ∧ Below w.heap.size w w' := by
  have g1 := Lib.hid (BoxAt.new w #[.int .i64 x, .int .i64 y] 49)
  have hb := Lib.hid (below_alloc w (.cells #[.int .i64 x, .int .i64 y] 49))
  by_cases h60 : 60 < order.length
  · have hfin : Hid (Cal.ordE order x y = 8) := by show _ = _; unfold Cal.ordE; rw [if_pos h60]
    go_enter Tryz.func25, Tryz.ntmps25
    go_wp2_with fail
    go_ret
    exact ⟨by rw [hfin.out]; rfl, hb.out⟩
  · have hI := Lib.hid (hI.below hb.out)
    have hn0 : Hid ((order.take 0).Nodup) := by show List.Nodup _; simp
    have k0 := g1.out.c 0 _ rfl
    have k1 := g1.out.c 1 _ rfl
    go_enter Tryz.func25, Tryz.ntmps25
    go_wp2_with fail
    go_loopw [5] (fun i wr => ∃ (k n : Nat), k ≤ order.length ∧ i = .int .i64 k ∧ Hid ((order.take k).Nodup) ∧ wr = (w.alloc (.cells #[.int .i64 x, .int .i64 y] 49)).drewN n) (fun i _ => order.length - (intOf i).toNat)
    case atStart => exact ⟨0, 0, Nat.zero_le _, rfl, hn0, rfl⟩
    case round =>
      obtain ⟨k, n, hk, rfl, hnd, rfl⟩ := hrel
      clear hn0
      by_cases hlt : k < order.length
      · obtain ⟨b, o, rfl, _, e1⟩ := ints_at hI.out.rows hlt
        obtain ⟨A1, c1, hrun, hr1⟩ := hI.out.head (k := k) (by omega)
        have hst := Lib.hid (List.take_succ_eq_append_getElem hlt)
        have hlen : (order.take k).length = k := by rw [List.length_take]; omega
        have hhas := fun w2 (hw : RowsAt w2 A1 1 (intRows (order.take k))) => HasI_any A1 c1 (order.take k) order[k] w2 hw (by omega)
        rw [hlen] at hhas
        have hmem : order[k] ∈ order.take k → ¬ order.Nodup := fun h hn => by
          obtain ⟨j, hj, he⟩ := List.getElem_of_mem h
          rw [List.length_take] at hj
          rw [List.getElem_take] at he
          exact List.pairwise_iff_getElem.1 (List.nodup_iff_pairwise_ne.1 hn) j k (by omega) hlt (by omega) he
        clear hlen
        generalize order[k] = z at *
        by_cases hz : z ∈ order.take k
        · have hfin : Hid (Cal.ordE order x y = 5) := by show _ = _; unfold Cal.ordE; rw [if_neg h60, if_neg (hmem hz)]
          rw [decide_eq_true hz] at hhas
          have hhas := Lib.hid hhas
          have hr1 := Lib.hid hr1
          clear hz hmem
          go_wp2_with fail
          go_quiet ((go_at_call 17; exact quiet_add_left (hhas.out _ hr1.out)))
          go_wp2_with fail
          go_ret
          exact ⟨by rw [hfin.out]; rfl, below_drewN (below_drewN hb.out _) _⟩
        · have hnx : Hid ((order.take (k + 1)).Nodup) := by
            show List.Nodup _
            rw [hst.out, List.nodup_append]
            exact ⟨hnd.out, by simp, fun a ha b hb e => by rw [List.mem_singleton] at hb; subst hb; subst e; exact hz ha⟩
          rw [decide_eq_false hz] at hhas
          have hhas := Lib.hid hhas
          have hr1 := Lib.hid hr1
          clear hz hmem
          go_wp2_with fail
          go_quiet ((go_at_call 17; exact quiet_add_left (hhas.out _ hr1.out)))
          go_wp2_with fail
          go_roundw
          case rel => exact ⟨k + 1, _, by omega, by go_num, hnx, rfl⟩
          case measure => simp [intOf]; omega
      · obtain rfl : k = order.length := by omega
        have hnd := Lib.hid (show order.Nodup by have := hnd.out; rwa [List.take_length] at this)
        have hE : Hid (Cal.ordE order x y = if 0 ≤ x ∧ x ≤ 200000 ∧ 1 ≤ y ∧ y ≤ 60 then 0 else 2) := by show _ = _; unfold Cal.ordE; rw [if_neg h60, if_pos hnd.out]
        by_cases hx : 0 ≤ x ∧ x ≤ 200000
        · by_cases hy : 1 ≤ y ∧ y ≤ 60
          · have hfin : Hid (Cal.ordE order x y = 0) := by show _ = _; rw [hE.out, if_pos ⟨hx.1, hx.2, hy.1, hy.2⟩]
            obtain ⟨x0, x1⟩ := hx
            obtain ⟨y0, y1⟩ := hy
            go_wp2_with (((first | (go_at_call 134) | (go_at_call 59) | (go_at_call 133) | (go_at_call 14) | (go_at_call 178) | (fail) | (go_at_call 139)); first | refine rin ?_ | refine rout ?_ | refine rany ?_))
            go_ret
            exact ⟨by rw [hfin.out]; rfl, below_drewN hb.out _⟩
          · have hfin : Hid (Cal.ordE order x y = 2) := by show _ = _; rw [hE.out, if_neg (fun h => hy ⟨h.2.2.1, h.2.2.2⟩)]
            have hy' : y < 1 ∨ 60 < y := by omega
            obtain ⟨x0, x1⟩ := hx
            clear hy
            go_wp2_with (((first | (go_at_call 134) | (go_at_call 59) | (go_at_call 133) | (go_at_call 14) | (go_at_call 178) | (fail) | (go_at_call 139)); first | refine rin ?_ | refine rout ?_ | refine rany ?_))
            go_ret
            exact ⟨by rw [hfin.out]; rfl, below_drewN hb.out _⟩
        · have hfin : Hid (Cal.ordE order x y = 2) := by show _ = _; rw [hE.out, if_neg (fun h => hx ⟨h.1, h.2.1⟩)]
          have hx' : x < 0 ∨ 200000 < x := by omega
          clear hx
          go_wp2_with (((first | (go_at_call 134) | (go_at_call 59) | (go_at_call 133) | (go_at_call 14) | (go_at_call 178) | (fail) | (go_at_call 139)); first | refine rin ?_ | refine rout ?_ | refine rany ?_))
          go_ret
          exact ⟨by rw [hfin.out]; rfl, below_drewN hb.out _⟩
end Go.Proofs.YtbegbajlagcbdaaGreatDoor
namespace Go.Proofs.YtbegbajlagcbdaaGreatDoor
open Go Go.RowKit Go.ChangeShapes Go.WideShapes Go.Deep
section
variable {H : Type} {enc : TypeId × Value → H} {w : World} {spare : Nat → Bool} {held : Bool} {r : Reach} {b0 : Nat} {v : Value} {d : DataW H} {ps : List MemPlace}
theorem and_tt6 {a b : Bool} (h1 : a = true) (h2 : b = true) : (a && b) = true := by rw [h1, h2]; rfl
theorem cellsInt1 : Tryz.prog.cellsOf 3 = 1 := by kernel_rfl
set_option maxRecDepth 100000 in
theorem ints_of_open (hval : Value.okWide Tryz.prog w r b0 32 v) (h : DataW.Trod enc Tryz.prog w 0 spare held 32 v d ps) :
    ∃ (O : Option Addr) (zs : List Int) (c : Nat), v = .slice O zs.length c ∧ IntArg w O c zs ∧ zs.length ≤ 9223372036854775807 := by
  obtain ⟨A, len, cap, rfl⟩ := okWide_slice Tryz.underlying32 hval
  obtain ⟨fuel, hf⟩ := h
  rcases Go.ChangeShapes.open_ints Tryz.underlying32 Tryz.underlying3 cellsInt1 hf with ⟨hcs, _⟩ | ⟨a, len', cap', zs, hcs, _, hlc, hcm, hzl, _, hcell, _⟩
  · have he : A = none ∧ len = 0 ∧ cap = 0 := by simpa [Value.cells] using hcs
    obtain ⟨rfl, rfl, rfl⟩ := he
    exact ⟨none, [], 0, rfl, ⟨fun k r hr => (by simp [intRows] at hr), Nat.zero_le _⟩, by simp⟩
  · have he : A = some a ∧ len = len' ∧ cap = cap' := by simpa [Value.cells] using hcs
    obtain ⟨rfl, rfl, rfl⟩ := he
    have hle : len ≤ zs.length := by rw [hzl]; split <;> omega
    have hlen : (zs.take len).length = len := by rw [List.length_take]; omega
    refine ⟨some a, zs.take len, cap, by rw [hlen], ⟨fun k row hr => ?_, by rw [hlen]; exact hlc⟩, by rw [hlen]; unfold maxLen at hcm; omega⟩
    have hk : k < len := by
      have := (List.getElem?_eq_some_iff.1 hr).1
      unfold intRows at this
      rw [List.length_map, hlen] at this
      exact this
    have hrow : row = [.int .i64 (zs.getD k 0)] := by
      unfold intRows at hr
      rw [List.getElem?_map, List.getElem?_take, if_pos hk, List.getElem?_eq_getElem (by omega)] at hr
      have := (Option.some.inj hr).symm
      rw [this]
      simp [List.getD, List.getElem?_eq_getElem (show k < zs.length by omega)]
    have h0 := hcell 0 (by omega)
    have ha : a = ⟨a.block, a.off, none⟩ := addr_plain h0 ⟨_, h0⟩
    refine ⟨a.block, a.off, by rw [← ha], ?_, fun j v hv => ?_⟩
    · obtain ⟨o, ho, _⟩ := cells_of_cell h0
      have := (Array.getElem?_eq_some_iff.1 ho).1
      simpa [Addr.add] using this
    · subst hrow
      match j, hv with
      | 0, hv =>
        cases hv
        have h1 := hcell k (by omega)
        rw [ha, Go.WideShapes.add_plain] at h1
        simpa using h1
      | j + 1, hv => simp at hv
end
end Go.Proofs.YtbegbajlagcbdaaGreatDoor
