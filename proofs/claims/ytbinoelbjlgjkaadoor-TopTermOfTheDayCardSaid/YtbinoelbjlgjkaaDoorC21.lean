/- Chapter 8 and what it rests on: definitions and walks, part 21. -/
import Derived.Test.YtbinoelbjlgjkaaDoorC20
import Derived.Test.YtbinoelbjlgjkaaDoorC10
import Derived.Test.YtbinoelbjlgjkaaDoorC06
namespace Go.Proofs.YtbinoelbjlgjkaaDoor.Cal
/-- How many of k days from a on are so. -/
def num (p : Int → Bool) (a : Int) : Nat → Nat
  | 0 => 0
  | k + 1 => num p a k + (p (a + k)).toNat
theorem num_split {p q r : Int → Bool} {a : Int} : ∀ k : Nat, (∀ d, a ≤ d → d < a + k → p d = true → q d = true ∨ r d = true) → num p a k ≤ num q a k + num r a k
  | 0, _ => Nat.le_refl _
  | k + 1, h => by
    have ih := num_split k fun d h1 h2 => h d h1 (by omega)
    have := h (a + k) (by omega) (by omega)
    unfold num
    cases hp : p (a + k)
    · simp; omega
    · rcases this hp with hq | hr
      · rw [hq]; simp; omega
      · rw [hr]; simp; omega
theorem num_eq (a v : Int) : ∀ k : Nat, num (fun d => decide (d = v)) a k ≤ 1 ∧ (a + k ≤ v → num (fun d => decide (d = v)) a k = 0)
  | 0 => ⟨by simp [num], fun _ => rfl⟩
  | k + 1 => by
    obtain ⟨h1, h2⟩ := num_eq a v k
    unfold num
    by_cases he : a + k = v
    · rw [h2 (by omega)]
      refine ⟨by simp [he], fun h => by omega⟩
    · have : decide (a + (k : Int) = v) = false := by simpa using he
      simp only [this]
      exact ⟨by simpa using h1, fun h => by simpa using h2 (by omega)⟩
/-- A holiday that is right falls on at most two of the days. -/
theorem num_isB {h : Hol} (hh : holErrOf h = 0) {a : Int} {k : Nat} (hk : k ≤ 365) (a0 : 0 ≤ a) (a1 : a + k ≤ 200001) : num (isB h) a k ≤ 2 := by
  have hy : ∀ d, a ≤ d → d < a + k → dY d = dY a ∨ dY d = dY a + 1 := fun d h1 h2 => by
    have s := date_spec a a0 (by omega)
    have t := date_spec d (by omega) (by omega)
    have l1 := s.lo; have l2 := s.hi; have t1 := t.lo; have t2 := t.hi
    have b1 := beg_succ (dY a); have b2 := beg_succ (dY a + 1)
    have g1 := lp_ge (dY a); have g2 := lp_ge (dY a + 1)
    rcases Int.lt_trichotomy (dY d) (dY a) with h | h | h
    · exfalso
      have := beg_mono (a := dY d + 1) (b := dY a) (by omega)
      omega
    · exact .inl h
    · right
      apply Classical.byContradiction; intro hn
      have := beg_mono (a := dY a + 1 + 1) (b := dY d) (by omega)
      omega
  have hs := num_split (p := isB h) (q := fun d => decide (d = (onS h (dY a)).getD (-1))) (r := fun d => decide (d = (onS h (dY a + 1)).getD (-1))) (a := a) k fun d h1 h2 hb => by
    have := (isB_iff hh (by omega) (by omega)).1 hb
    rcases hy d h1 h2 with e | e
    · left; rw [e] at this; rw [this]; simp
    · right; rw [e] at this; rw [this]; simp
  have n1 := (num_eq a ((onS h (dY a)).getD (-1)) k).1
  have n2 := (num_eq a ((onS h (dY a + 1)).getD (-1)) k).1
  omega
theorem num_anyB {a : Int} {k : Nat} (hk : k ≤ 365) (a0 : 0 ≤ a) (a1 : a + k ≤ 200001) : ∀ {l : List Hol}, HolsOk l → num (anyB l) a k ≤ 2 * l.length
  | [], _ => by
    have : ∀ k, num (anyB []) a k = 0 := fun k => by
      induction k with
      | zero => rfl
      | succ k ih => unfold num; rw [ih]; simp [anyB]
    rw [this]; simp
  | h :: l, hl => by
    have ih := num_anyB hk a0 a1 (l := l) fun q hq => hl q (List.mem_cons_of_mem _ hq)
    have hi := num_isB (hl h (List.mem_cons_self ..)) hk a0 a1
    have hs := num_split (p := anyB (h :: l)) (q := isB h) (r := anyB l) (a := a) k fun d _ _ hb => by
      unfold anyB at hb ⊢
      rw [List.any_cons, Bool.or_eq_true] at hb
      exact hb
    rw [List.length_cons]; omega
theorem num_week (a : Int) : ∀ k : Nat, 5 * k ≤ num (fun d => decide ((d + 2) % 7 < 5)) a (7 * k)
  | 0 => by simp
  | k + 1 => by
    have ih := num_week a k
    rw [show 7 * (k + 1) = 7 * k + 1 + 1 + 1 + 1 + 1 + 1 + 1 by omega]
    simp only [num]
    have hc : (a + (7 * k : Nat)) % 7 = 0 ∨ (a + (7 * k : Nat)) % 7 = 1 ∨ (a + (7 * k : Nat)) % 7 = 2 ∨ (a + (7 * k : Nat)) % 7 = 3 ∨ (a + (7 * k : Nat)) % 7 = 4 ∨ (a + (7 * k : Nat)) % 7 = 5 ∨ (a + (7 * k : Nat)) % 7 = 6 := by omega
    generalize hb : a + ((7 * k : Nat) : Int) = b at hc
    have e1 : a + ((7 * k + 1 : Nat) : Int) = b + 1 := by omega
    have e2 : a + ((7 * k + 1 + 1 : Nat) : Int) = b + 2 := by omega
    have e3 : a + ((7 * k + 1 + 1 + 1 : Nat) : Int) = b + 3 := by omega
    have e4 : a + ((7 * k + 1 + 1 + 1 + 1 : Nat) : Int) = b + 4 := by omega
    have e5 : a + ((7 * k + 1 + 1 + 1 + 1 + 1 : Nat) : Int) = b + 5 := by omega
    have e6 : a + ((7 * k + 1 + 1 + 1 + 1 + 1 + 1 : Nat) : Int) = b + 6 := by omega
    rw [e1, e2, e3, e4, e5, e6]
    have ht : ∀ x : Int, (x + 2) % 7 < 5 → (decide ((x + 2) % 7 < 5)).toNat = 1 := fun x h => by simp [h]
    rcases hc with h | h | h | h | h | h | h
    · rw [ht b (by omega), ht (b + 1) (by omega), ht (b + 2) (by omega), ht (b + 5) (by omega), ht (b + 6) (by omega)]; omega
    · rw [ht b (by omega), ht (b + 1) (by omega), ht (b + 4) (by omega), ht (b + 5) (by omega), ht (b + 6) (by omega)]; omega
    · rw [ht b (by omega), ht (b + 3) (by omega), ht (b + 4) (by omega), ht (b + 5) (by omega), ht (b + 6) (by omega)]; omega
    · rw [ht (b + 2) (by omega), ht (b + 3) (by omega), ht (b + 4) (by omega), ht (b + 5) (by omega), ht (b + 6) (by omega)]; omega
    · rw [ht (b + 1) (by omega), ht (b + 2) (by omega), ht (b + 3) (by omega), ht (b + 4) (by omega), ht (b + 5) (by omega)]; omega
    · rw [ht b (by omega), ht (b + 1) (by omega), ht (b + 2) (by omega), ht (b + 3) (by omega), ht (b + 4) (by omega)]; omega
    · rw [ht b (by omega), ht (b + 1) (by omega), ht (b + 2) (by omega), ht (b + 3) (by omega), ht (b + 6) (by omega)]; omega
theorem cnt_num (l : List Hol) (a : Int) : ∀ k : Nat, cnt l a k = (num (workB l) a k : Int)
  | 0 => rfl
  | k + 1 => by
    unfold cnt num
    rw [cnt_num l a k]
    cases workB l (a + k) <;> simp
/-- In 27 weeks there are 95 working days at least, where there are at most 20 holidays. -/
theorem many {l : List Hol} (hl : HolsOk l) (hn : l.length ≤ 20) {a : Int} (a0 : 0 ≤ a) (a1 : a + 189 ≤ 200001) : 95 ≤ betw l a (a + 189) := by
  have hw : 5 * 27 ≤ num (fun d => decide ((d + 2) % 7 < 5)) a 189 := num_week a 27
  have ha := num_anyB (a := a) (k := 189) (by omega) a0 (by omega) hl
  have hs := num_split (p := fun d => decide ((d + 2) % 7 < 5)) (q := workB l) (r := anyB l) (a := a) 189 fun d _ _ hb => by
    unfold workB
    cases hq : anyB l d
    · left; have hb' : decide ((d + 2) % 7 < 5) = true := hb
      rw [hb']; rfl
    · exact .inr rfl
  unfold betw
  rw [show (a + 189 - a).toNat = 189 by omega, cnt_num]
  omega
/-- What addFrom finds, going on: the day behind so many working days. -/
theorem addFrom_iff {l : List Hol} (hl : HolsOk l) : ∀ (k : Nat) (d left : Int), 0 ≤ d → d + k ≤ 200001 → 0 ≤ left → left < betw l d (d + k) →
    ∃ x, addFrom l 1 (stepsLeft 1 d) d left = some x ∧ d ≤ x ∧ x < d + k ∧ workB l x = true ∧ betw l d x = left
  | 0, d, left, _, _, h1, h2 => by rw [show d + ((0 : Nat) : Int) = d by simp, betw_self] at h2; omega
  | k + 1, d, left, d0, d1, h1, h2 => by
    have hd : isDayP d := ⟨d0, by omega⟩
    have hwe := workB_eq hl d0 (show d ≤ 200000 by omega)
    have hsum : betw l d (d + ((k + 1 : Nat) : Int)) = betw l d (d + 1) + betw l (d + 1) (d + ((k + 1 : Nat) : Int)) := by
      have := betw_add (l := l) (a := d) (b := d + 1) (by omega) k
      rw [show d + 1 + (k : Int) = d + ((k + 1 : Nat) : Int) by omega] at this
      exact this
    have hone : betw l d (d + 1) = if workB l d = true then 1 else 0 := by rw [betw_succ (Int.le_refl _), betw_self]; omega
    have hfrom : ∀ x, d + 1 ≤ x → betw l d x = betw l d (d + 1) + betw l (d + 1) x := fun x hx => by
      have := betw_add (l := l) (a := d) (b := d + 1) (by omega) (x - (d + 1)).toNat
      rwa [show d + 1 + ((x - (d + 1)).toNat : Int) = x by omega] at this
    rw [show d + ((k + 1 : Nat) : Int) = d + 1 + k by omega] at h2 hsum
    cases hw : workB l d
    · rw [hw] at hone hwe
      simp only [Bool.false_eq_true, if_false] at hone
      obtain ⟨x, e1, e2, e3, e4, e5⟩ := addFrom_iff hl k (d + 1) left (by omega) (by omega) h1 (by omega)
      refine ⟨x, ?_, by omega, by omega, e4, by rw [hfrom x e2]; omega⟩
      rw [addFrom_skip (.inl rfl) hd hwe]; exact e1
    · rw [hw] at hone hwe
      simp only [if_true] at hone
      by_cases h0 : left = 0
      · subst h0
        exact ⟨d, addFrom_hit (.inl rfl) hd hwe, by omega, by omega, hw, betw_self l d⟩
      · obtain ⟨x, e1, e2, e3, e4, e5⟩ := addFrom_iff hl k (d + 1) (left - 1) (by omega) (by omega) (by omega) (by omega)
        refine ⟨x, ?_, by omega, by omega, e4, by rw [hfrom x e2]; omega⟩
        rw [addFrom_next (.inl rfl) hd hwe h0]; exact e1
theorem betw_trans {l : List Hol} {a b c : Int} (h : a ≤ b) (h2 : b ≤ c) : betw l a c = betw l a b + betw l b c := by
  have := betw_add (l := l) h (c - b).toNat
  rwa [show b + ((c - b).toNat : Int) = c by omega] at this
theorem betw_strict {l : List Hol} {a x y : Int} (h : a ≤ x) (h2 : x < y) (hw : workB l x = true) : betw l a x + 1 ≤ betw l a y := by
  have e1 := betw_trans (l := l) (a := a) (b := x + 1) (c := y) (by omega) (by omega)
  have e2 := betw_succ (l := l) h
  have := (betw_bd (l := l) (show x + 1 ≤ y by omega)).1
  rw [hw] at e2
  simp only [if_true] at e2
  omega
/-- AddWorking by at least one. -/
theorem addW_pos {l : List Hol} (hl : HolsOk l) (hn : l.length ≤ 20) {d n : Int} (d0 : 0 ≤ d) (d1 : d + 190 ≤ 200001) (n1 : 1 ≤ n) (n2 : n ≤ 90) :
    ∃ x, addW l d n = some x ∧ d + 1 ≤ x ∧ x < d + 190 ∧ workB l x = true ∧ betw l (d + 1) x = n - 1 := by
  have hm := many hl hn (a := d + 1) (by omega) (by omega)
  obtain ⟨x, e1, e2, e3, e4, e5⟩ := addFrom_iff hl 189 (d + 1) (n - 1) (by omega) (by omega) (by omega) (by rw [show d + 1 + ((189 : Nat) : Int) = d + 1 + 189 by omega]; omega)
  refine ⟨x, ?_, e2, by omega, e4, e5⟩
  unfold addW; rw [if_neg (by omega), if_neg (by omega)]; exact e1
theorem addW_zero {l : List Hol} (hl : HolsOk l) (hn : l.length ≤ 20) {d : Int} (d0 : 0 ≤ d) (d1 : d + 190 ≤ 200001) :
    ∃ x, addW l d 0 = some x ∧ d ≤ x ∧ x < d + 190 ∧ workB l x = true ∧ betw l d x = 0 := by
  have hm := many hl hn (a := d) (by omega) (by omega)
  obtain ⟨x, e1, e2, e3, e4, e5⟩ := addFrom_iff hl 189 d 0 (by omega) (by omega) (by omega) (by rw [show d + ((189 : Nat) : Int) = d + 189 by omega]; omega)
  refine ⟨x, ?_, e2, by omega, e4, e5⟩
  unfold addW; rw [if_pos rfl]; exact e1
/-- From a later day on the same count comes no earlier. -/
theorem find_mono {l : List Hol} {a b x y n : Int} (h : a ≤ b) (hy : b ≤ y) (wy : workB l y = true) (ex : betw l a x = n) (ey : betw l b y = n) : x ≤ y := by
  apply Classical.byContradiction; intro hn
  have h1 := betw_strict (l := l) hy (show y < x by omega) wy
  have h2 := betw_trans (l := l) h (show b ≤ x by omega)
  have h3 := (betw_bd (l := l) h).1
  omega
theorem addW_mono {l : List Hol} (hl : HolsOk l) (hn : l.length ≤ 20) {a b n : Int} (h : a ≤ b) (a0 : 0 ≤ a) (b1 : b + 190 ≤ 200001) (n0 : 0 ≤ n) (n2 : n ≤ 90) :
    ∃ x y, addW l a n = some x ∧ addW l b n = some y ∧ x ≤ y := by
  by_cases hz : n = 0
  · subst hz
    obtain ⟨x, e1, e2, e3, e4, e5⟩ := addW_zero hl hn a0 (show a + 190 ≤ 200001 by omega)
    obtain ⟨y, f1, f2, f3, f4, f5⟩ := addW_zero hl hn (show 0 ≤ b by omega) b1
    exact ⟨x, y, e1, f1, find_mono h f2 f4 e5 f5⟩
  · obtain ⟨x, e1, e2, e3, e4, e5⟩ := addW_pos hl hn a0 (show a + 190 ≤ 200001 by omega) (show 1 ≤ n by omega) n2
    obtain ⟨y, f1, f2, f3, f4, f5⟩ := addW_pos hl hn (show 0 ≤ b by omega) b1 (show 1 ≤ n by omega) n2
    exact ⟨x, y, e1, f1, find_mono (show a + 1 ≤ b + 1 by omega) f2 f4 e5 f5⟩
/-- By a number and then by another one: by both. -/
theorem addW_both {l : List Hol} (hl : HolsOk l) (hn : l.length ≤ 20) {d n m : Int} (d0 : 0 ≤ d) (d1 : d ≤ 196000) (n1 : 1 ≤ n) (n2 : n ≤ 40) (m1 : 1 ≤ m) (m2 : m ≤ 40) :
    ∃ x y, addW l d n = some x ∧ addW l x m = some y ∧ addW l d (n + m) = some y ∧ d + 1 ≤ x ∧ x < d + 190 ∧ betw l (d + 1) x = n - 1 ∧ workB l x = true := by
  obtain ⟨x, e1, e2, e3, e4, e5⟩ := addW_pos hl hn d0 (by omega) n1 (show n ≤ 90 by omega)
  obtain ⟨y, f1, f2, f3, f4, f5⟩ := addW_pos hl hn (show 0 ≤ x by omega) (by omega) m1 (show m ≤ 90 by omega)
  obtain ⟨z, g1, g2, g3, g4, g5⟩ := addW_pos hl hn d0 (by omega) (show 1 ≤ n + m by omega) (show n + m ≤ 90 by omega)
  have h1 := betw_trans (l := l) e2 (show x ≤ y by omega)
  have h2 := betw_trans (l := l) (show x ≤ x + 1 by omega) f2
  have h3 : betw l x (x + 1) = 1 := by rw [betw_succ (Int.le_refl _), betw_self, e4]; simp
  have hyz : y = z := by
    rcases Int.lt_trichotomy y z with h | h | h
    · have := betw_strict (l := l) (a := d + 1) (show d + 1 ≤ y by omega) h f4; omega
    · exact h
    · have := betw_strict (l := l) (a := d + 1) g2 h g4; omega
  subst hyz
  exact ⟨x, y, e1, f1, g1, e2, e3, e5, e4⟩
/-- So many months on from a day and from the next one. -/
theorem later_next {d m : Int} (d0 : 0 ≤ d) (d1 : d ≤ 196000) (m0 : 0 ≤ m) (m1 : m ≤ 60) :
    (laterS d m).2 = true ∧ (laterS (d + 1) m).2 = true ∧ (laterS d m).1 ≤ (laterS (d + 1) m).1 ∧ 0 ≤ (laterS d m).1 ∧ (laterS (d + 1) m).1 ≤ 198000 := by
  have htop : ∀ e, 0 ≤ e → e ≤ 196001 → mval (dD e) (idx e + m) ≤ e + 1891 := fun e e0 e1 => by
    have hi := mfirst_idx e0 (show e ≤ 200000 by omega)
    have hstep : ∀ n : Nat, mfirst (idx e + n) ≤ mfirst (idx e) + 31 * n := fun n => by
      induction n with
      | zero => simp
      | succ n ih =>
        have hs := mfirst_succ (idx e + n)
        have := mlen_bd ((idx e + n) / 12) ((idx e + n) % 12 + 1)
        rw [show idx e + ((n + 1 : Nat) : Int) = idx e + n + 1 by omega]
        omega
    have hv := mval_hi (dD e) (idx e + m)
    have := hstep (m + 1).toNat
    rw [show idx e + (((m + 1).toNat : Nat) : Int) = idx e + m + 1 by omega] at this
    omega
  have hyear : ∀ e, 0 ≤ e → e ≤ 196001 → 21600 ≤ idx e + m ∧ idx e + m ≤ 28175 := fun e e0 e1 => by
    have hb := idx_bd e0 (show e ≤ 200000 by omega)
    refine ⟨by omega, ?_⟩
    apply Classical.byContradiction; intro hn
    have hv := mval_lo (d := dD e) (t := idx e + m) (dD_pos e0 (show e ≤ 200000 by omega))
    have := mfirst_mono (t := 28176) (u := idx e + m) (by omega)
    have h2 : mfirst 28176 = 200152 := by decide +kernel
    have := htop e e0 e1
    omega
  obtain ⟨a1, a2⟩ := hyear d d0 (by omega)
  obtain ⟨b1, b2⟩ := hyear (d + 1) (by omega) (by omega)
  have t1 := htop d d0 (by omega)
  have t2 := htop (d + 1) (by omega) (by omega)
  rw [laterS_in a1 a2, laterS_in b1 b2]
  have hlo : 0 ≤ mval (dD d) (idx d + m) := by
    have := laterS_nonneg d0 (show d ≤ 200000 by omega) m
    rwa [laterS_in a1 a2] at this
  refine ⟨by simp; omega, by simp; omega, ?_, hlo, by simp only; omega⟩
  simp only
  have hmono := idx_mono d0 (show d ≤ d + 1 by omega) (show d + 1 ≤ 200000 by omega)
  rcases Int.lt_or_eq_of_le hmono with hlt | heq
  · have := mval_hi (dD d) (idx d + m)
    have := mfirst_mono (t := idx d + m + 1) (u := idx (d + 1) + m) (by omega)
    have := mval_lo (d := dD (d + 1)) (t := idx (d + 1) + m) (dD_pos (show 0 ≤ d + 1 by omega) (show d + 1 ≤ 200000 by omega))
    omega
  · have s1 := mval_idx d0 (show d ≤ 200000 by omega)
    have s2 := mval_idx (show 0 ≤ d + 1 by omega) (show d + 1 ≤ 200000 by omega)
    have dd : dD d ≤ dD (d + 1) := by
      have e1 := idx_div d0 (show d ≤ 200000 by omega)
      have e2 := idx_div (show 0 ≤ d + 1 by omega) (show d + 1 ≤ 200000 by omega)
      unfold dD
      rw [← e1.1, ← e2.1, ← e1.2, ← e2.2, heq]; omega
    rw [← heq]
    unfold mval; omega
theorem dl_next {l : List Hol} (hl : HolsOk l) (hn : l.length ≤ 20) {day m d : Int} {k : Bool} (d0 : 0 ≤ day) (d1 : day ≤ 196000) (m0 : 0 ≤ m) (m1 : m ≤ 60) (q0 : 0 ≤ d) (q1 : d ≤ 60) :
    ∃ x y, dlFrom l day m d k = some x ∧ dlFrom l (day + 1) m d k = some y ∧ x ≤ y := by
  obtain ⟨h1, h2, h3, h4, h5⟩ := later_next d0 d1 m0 m1
  unfold dlFrom
  rw [if_pos h1, if_pos h2]
  cases k
  · simp only [Bool.false_eq_true, if_false]
    rw [if_pos (by omega), if_pos (by omega)]
    exact addW_mono hl hn (by omega) (by omega) (by omega) (by omega) (by omega)
  · simp only [if_true]
    exact addW_mono hl hn h3 h4 (by omega) q0 (by omega)
end Go.Proofs.YtbinoelbjlgjkaaDoor.Cal
namespace Go.Proofs.YtbinoelbjlgjkaaDoor
open Go Go.RowKit
theorem Cal.laterS_zero {day : Int} (d0 : 0 ≤ day) (d1 : day ≤ 200000) : Cal.laterS day 0 = (day, true) := by
  have hd := Cal.date_spec day d0 (by omega)
  have hy := Cal.dY_bd day d0 d1
  have h1 := hd.m1; have h2 := hd.m2; have h3 := hd.d2; have h4 := hd.day
  have e1 : Cal.laterT day 0 / 12 = Cal.dY day := by unfold Cal.laterT; omega
  have e2 : Cal.laterT day 0 % 12 + 1 = Cal.dM day := by unfold Cal.laterT; omega
  unfold Cal.laterS
  rw [e1, e2, if_pos (by omega), Int.min_eq_left h3, h4]
  simp [d1]
/-- A procedure that runs for some days, and nothing else. -/
def termP (term : Int) : Proc := ⟨⟨0, term, false⟩, ⟨0, 0, false⟩, ⟨0, 0, false⟩, 0, 0, []⟩
/-- A notice that was opened on day 0 and served on a day. -/
def termN (day : Int) : Note := ⟨nName, 0, [⟨day, 0, 0⟩]⟩
theorem Cal.addW_term {x : Int} (x0 : 0 ≤ x) (x1 : x ≤ 199000) : ∃ D, Cal.addW [] x 0 = some D ∧ 0 ≤ D ∧ D ≤ 200000 := by
  obtain ⟨D, h, h1, h2, _⟩ := Cal.addW_zero (l := []) (fun h hh => by cases hh) (by simp) x0 (by omega)
  exact ⟨D, h, by omega, by omega⟩
theorem Cal.dlS_term {day t : Int} (d0 : 0 ≤ day) (d1 : day ≤ 196000) (t0 : 0 ≤ t) (t1 : t ≤ 2000) : ∃ D, Cal.dlS [] day 0 t false = (D, 0) ∧ Cal.addWorkingS [] (day + t) 0 = (D, 0) := by
  obtain ⟨D, h, _, _⟩ := Cal.addW_term (x := day + t) (by omega) (by omega)
  have hh : Cal.holsErr [] = 0 := by decide
  refine ⟨D, ?_, ?_⟩
  · have hf : Cal.dlFrom [] day 0 t false = some D := by
      unfold Cal.dlFrom
      rw [Cal.laterS_zero d0 (by omega), if_pos rfl, if_neg (by simp), if_pos (by show day + t ≤ 200000; omega)]
      exact h
    unfold Cal.dlS
    rw [if_pos hh, if_pos ⟨d0, by omega⟩, if_pos (by unfold Cal.perE; rw [if_pos ⟨by omega, by omega, t0, by rw [if_neg (by simp)]; omega⟩]), hf]
  · unfold Cal.addWorkingS
    rw [if_pos hh, if_pos ⟨by omega, by omega, by omega, by omega⟩, h]
theorem termP_ok {t : Int} (t0 : 0 ≤ t) (t1 : t ≤ 2000) : Cal.procErr (termP t) = 0 := by
  have h1 : (termP t).runs.err = 0 := show Cal.perE 0 t false = 0 by unfold Cal.perE; rw [if_pos ⟨by omega, by omega, t0, by rw [if_neg (by simp)]; omega⟩]
  unfold Cal.procErr
  rw [if_pos h1]
  rfl
/-- The deadline of such a notice is the working day from the term's last day on. -/
theorem Cal.term_dl {day t : Int} (d0 : 0 ≤ day) (d1 : day ≤ 196000) (t0 : 0 ≤ t) (t1 : t ≤ 2000) : ∃ D, Cal.dlAtS (termP t) (termN day) day = (D, 0) ∧ Cal.addWorkingS [] (day + t) 0 = (D, 0) := by
  obtain ⟨D, h1, h2⟩ := Cal.dlS_term d0 d1 t0 t1
  obtain ⟨O, h3, _⟩ := Cal.dlS_term (t := 0) d0 d1 (by omega) (by omega)
  refine ⟨D, ?_, h2⟩
  have hp := termP_ok t0 t1
  have hact : Cal.actS (termP t) (Cal.openSt 0) ⟨day, 0, 0⟩ = (⟨1, day, D, O, 0, 0⟩, 0) := by
    have hf : Cal.formErr (termP t) ⟨day, 0, 0⟩ = 0 := by
      unfold Cal.formErr
      simp only
      rw [if_pos ⟨d0, by omega⟩, if_pos ⟨by omega, by omega⟩, if_neg (by omega), if_pos trivial]
    have hm : Cal.mayErr (termP t) (Cal.openSt 0) ⟨day, 0, 0⟩ = 0 := by
      unfold Cal.mayErr
      rw [if_pos hf, if_neg (by simp [Cal.openSt]; omega), if_pos (by simp [Cal.accB, Cal.openSt]), if_neg (by simp [Cal.openSt]), if_neg (by simp), if_neg (by simp)]
    unfold Cal.actS
    rw [if_pos hm]
    unfold Cal.doneS
    rw [if_pos (.inl rfl)]
    show ((⟨1, day, (Cal.dlS [] day 0 t false).1, (Cal.dlS [] day 0 0 false).1, 0, 0⟩ : NSt), if (Cal.dlS [] day 0 t false).2 = 0 ∧ (Cal.dlS [] day 0 0 false).2 = 0 then (0 : Int) else 2) = _
    rw [h1, h3]; rfl
  have hc : Cal.checkS (termP t) (termN day) = (0, 0) := by
    unfold Cal.checkS
    rw [if_pos hp]
    unfold Cal.noteS termN
    rw [nName_ok, if_pos rfl, if_pos (show 0 ≤ (0 : Int) ∧ (0 : Int) ≤ 200000 by omega), if_pos (by simp)]
    simp only [Cal.runS, hact]
    rfl
  have hc2 : (Cal.checkS (termP t) (termN day)).2 = 0 := by rw [hc]
  have ho : Cal.onE (termP t) (termN day) day = 0 := by
    unfold Cal.onE; rw [if_pos hc2, if_pos ⟨d0, by omega⟩, if_neg (by show ¬ day < 0; omega)]
  have hst : Cal.stAt (termP t) (termN day) day = ⟨1, day, D, O, 0, 0⟩ := by
    show Cal.atS (termP t) day [⟨day, 0, 0⟩] (Cal.openSt 0) = _
    unfold Cal.atS
    rw [if_pos (Int.le_refl _), hact]
    rfl
  unfold Cal.dlAtS
  rw [if_pos ho, hst, if_pos rfl]
end Go.Proofs.YtbinoelbjlgjkaaDoor
namespace Go.Proofs.YtbinoelbjlgjkaaDoor
open Go Go.RowKit
theorem Cal.src_form {l : List Prov} {name : ByteArray} {holds known : Int} (h : ¬ Cal.src l name holds known < 0) : ∃ (q : Nat) (p : Prov), Cal.src l name holds known = q ∧ l[q]? = some p := by
  have := Cal.srcTo_lt l name holds known l.length
  obtain ⟨q, hq⟩ := Int.eq_ofNat_of_zero_le (show 0 ≤ Cal.src l name holds known by omega)
  have hlt : q < l.length := by unfold Cal.src at hq; omega
  exact ⟨q, l[q], hq, List.getElem?_eq_getElem hlt⟩
/-- What holds: a value, or none. -/
def Cal.valOf (l : List Prov) (name : ByteArray) (holds known : Int) : Int × Bool :=
  if Cal.src l name holds known < 0 then (0, false) else match l[(Cal.src l name holds known).toNat]? with | some p => if p.repeal = true then (0, false) else (p.value, true) | none => (0, false)
theorem Cal.valOf_some {l : List Prov} {name : ByteArray} {holds known : Int} {q : Nat} {p : Prov} (h : Cal.src l name holds known = q) (hp : l[q]? = some p) : Cal.valOf l name holds known = if p.repeal = true then (0, false) else (p.value, true) := by
  unfold Cal.valOf; rw [h, if_neg (by omega)]; simp [hp]
/-- The number of the entry that decides, and the error. -/
def Cal.sourceS (l : List Prov) (name : ByteArray) (holds known : Int) : Int × Int :=
  if Cal.atErr l [holds, known] = 0 then (if Cal.src l name holds known < 0 then (0, 6) else (Cal.src l name holds known, 0)) else (0, Cal.atErr l [holds, known])
/-- The value, and the error. -/
def Cal.valueS (l : List Prov) (name : ByteArray) (holds known : Int) : Int × Int :=
  if Cal.atErr l [holds, known] = 0 then (if Cal.src l name holds known < 0 then (0, 6) else if (Cal.valOf l name holds known).2 = true then ((Cal.valOf l name holds known).1, 0) else (0, 12)) else (0, Cal.atErr l [holds, known])
theorem atRows (w : World) (t : TypeId) (holds known : Int) : RowsAt (w.alloc (.cells #[.int .i64 holds, .int .i64 known] t)) (some ⟨w.heap.size, 0, none⟩) 1 (intRows [holds, known]) := fun k r hr => by
  refine ⟨w.heap.size, 0, rfl, by simp, fun j v hv => ?_⟩
  match k, hr with
  | 0, hr => simp [intRows] at hr; subst hr; match j, hv with | 0, hv => simp at hv; subst hv; simp
  | 1, hr => simp [intRows] at hr; subst hr; match j, hv with | 0, hv => simp at hv; subst hv; simp
theorem Source_any (A : Option Addr) (c : Nat) (l : List Prov) (name : ByteArray) (holds known : Int) (w : World) (hl : Provs w A l) :
    Calls Tryd.prog 13 #[.slice A l.length c, .string name, .agg #[.int .i64 holds, .int .i64 known]] w fun e w' => e = .returned (.tuple #[.int .i64 (Cal.sourceS l name holds known).1, .int .i64 (Cal.sourceS l name holds known).2]) ∧ Below w.heap.size w w' := by
  have hat := Lib.hid (atRows w 27 holds known)
  have hl' := Lib.hid (fun w1 (h : Below w.heap.size w w1) => hl.below h)
  have hba := Lib.hid (below_alloc w (.cells #[.int .i64 holds, .int .i64 known] 27))
  clear hl
  by_cases h0 : Cal.atErr l [holds, known] = 0
  · have h0z := Lib.hid h0
    have h1 : (Cal.atErr l [holds, known] != 0) = false := by simpa using h0
    clear h0
    by_cases h2 : Cal.src l name holds known < 0
    · have hfin : Hid (Cal.sourceS l name holds known = (0, 6)) := by show _ = _; unfold Cal.sourceS; rw [if_pos h0z.out, if_pos h2]
      go_enter Tryd.func13, Tryd.ntmps13
      go_wp2_with (first | (go_at_call 25; refine (checkAt_any _ _ l _ 2 [holds, known] _ (hl'.out _ hba.out) hat.out (by simp)).mono ?_; rintro e w1 ⟨rfl, hb1⟩; obtain ⟨hc1, hf1⟩ := bcell hb1) | (go_at_call 26; refine (source_any _ _ l _ _ _ _ (hl'.out _ (below_step hba.out hb1))).mono ?_; rintro e w2 ⟨rfl, hb2⟩))
      go_ret2
      exact ⟨by rw [hfin.out]; rfl, below_step (below_step hba.out hb1) hb2⟩
    · have hfin : Hid (Cal.sourceS l name holds known = (Cal.src l name holds known, 0)) := by show _ = _; unfold Cal.sourceS; rw [if_pos h0z.out, if_neg h2]
      go_enter Tryd.func13, Tryd.ntmps13
      go_wp2_with (first | (go_at_call 25; refine (checkAt_any _ _ l _ 2 [holds, known] _ (hl'.out _ hba.out) hat.out (by simp)).mono ?_; rintro e w1 ⟨rfl, hb1⟩; obtain ⟨hc1, hf1⟩ := bcell hb1) | (go_at_call 26; refine (source_any _ _ l _ _ _ _ (hl'.out _ (below_step hba.out hb1))).mono ?_; rintro e w2 ⟨rfl, hb2⟩))
      go_ret2
      exact ⟨by rw [hfin.out]; rfl, below_step (below_step hba.out hb1) hb2⟩
  · have h0z := Lib.hid h0
    have h1 : (Cal.atErr l [holds, known] != 0) = true := by simpa using h0
    clear h0
    have hfin : Hid (Cal.sourceS l name holds known = (0, Cal.atErr l [holds, known])) := by show _ = _; unfold Cal.sourceS; rw [if_neg h0z.out]
    go_enter Tryd.func13, Tryd.ntmps13
    go_wp2_with (first | (go_at_call 25; refine (checkAt_any _ _ l _ 2 [holds, known] _ (hl'.out _ hba.out) hat.out (by simp)).mono ?_; rintro e w1 ⟨rfl, hb1⟩; obtain ⟨hc1, hf1⟩ := bcell hb1))
    go_ret2
    exact ⟨by rw [hfin.out]; rfl, below_step hba.out hb1⟩
theorem Value_any (A : Option Addr) (c : Nat) (l : List Prov) (name : ByteArray) (holds known : Int) (w : World) (hl : Provs w A l) :
    Calls Tryd.prog 6 #[.slice A l.length c, .string name, .agg #[.int .i64 holds, .int .i64 known]] w fun e w' => e = .returned (.tuple #[.int .i64 (Cal.valueS l name holds known).1, .int .i64 (Cal.valueS l name holds known).2]) ∧ Below w.heap.size w w' := by
  have hl' := Lib.hid (fun w1 (h : Below w.heap.size w w1) => hl.below h)
  have hba := Lib.hid (below_alloc w (.cells #[.int .i64 holds, .int .i64 known] 27))
  clear hl
  by_cases h0 : Cal.atErr l [holds, known] = 0
  · have h0z := Lib.hid h0
    clear h0
    by_cases h2 : Cal.src l name holds known < 0
    · have hfin : Hid (Cal.valueS l name holds known = (0, 6)) := by show _ = _; unfold Cal.valueS; rw [if_pos h0z.out, if_pos h2]
      have hs : Cal.sourceS l name holds known = (0, 6) := by unfold Cal.sourceS; rw [if_pos h0z.out, if_pos h2]
      clear h2
      go_enter Tryd.func6, Tryd.ntmps6
      go_wp2_with (go_at_call 13; refine (Source_any _ _ l _ _ _ _ (hl'.out _ hba.out)).mono ?_; rintro e w1 ⟨rfl, hb1⟩; obtain ⟨hc1, hf1⟩ := bcell hb1)
      go_ret2
      exact ⟨by rw [hfin.out]; rfl, below_step hba.out hb1⟩
    · obtain ⟨q, p, hq, hp⟩ := Cal.src_form h2
      have hv := Cal.valOf_some hq hp
      have hs : Cal.sourceS l name holds known = ((q : Int), 0) := by unfold Cal.sourceS; rw [if_pos h0z.out, if_neg h2, hq]
      obtain ⟨b, o, rfl, hbl, c0, c1, c2, c3, c4⟩ := (hl'.out _ (Below.refl _ w)).at_ hp
      have hqs : q < l.length := (List.getElem?_eq_some_iff.1 hp).1
      have hsz := (hl'.out _ (Below.refl _ w)).size
      clear hp c0 c2 c3
      cases hr : p.repeal
      · have hfin : Hid (Cal.valueS l name holds known = (p.value, 0)) := by show _ = _; unfold Cal.valueS; rw [if_pos h0z.out, if_neg h2, hv, hr]; simp
        rw [hr] at c4
        clear hv hq h2 hr
        go_enter Tryd.func6, Tryd.ntmps6
        go_wp2_with (go_at_call 13; refine (Source_any _ _ l _ _ _ _ (hl'.out _ hba.out)).mono ?_; rintro e w1 ⟨rfl, hb1⟩; obtain ⟨hc1, hf1⟩ := bcell hb1)
        go_ret2
        exact ⟨by rw [hfin.out]; rfl, below_step hba.out hb1⟩
      · have hfin : Hid (Cal.valueS l name holds known = (0, 12)) := by show _ = _; unfold Cal.valueS; rw [if_pos h0z.out, if_neg h2, hv, hr]; simp
        rw [hr] at c4
        clear hv hq h2 hr
        go_enter Tryd.func6, Tryd.ntmps6
        go_wp2_with (go_at_call 13; refine (Source_any _ _ l _ _ _ _ (hl'.out _ hba.out)).mono ?_; rintro e w1 ⟨rfl, hb1⟩; obtain ⟨hc1, hf1⟩ := bcell hb1)
        go_ret2
        exact ⟨by rw [hfin.out]; rfl, below_step hba.out hb1⟩
  · have h0z := Lib.hid h0
    have h1 : (Cal.atErr l [holds, known] != 0) = true := by simpa using h0
    have hfin : Hid (Cal.valueS l name holds known = (0, Cal.atErr l [holds, known])) := by show _ = _; unfold Cal.valueS; rw [if_neg h0z.out]
    have hs : Cal.sourceS l name holds known = (0, Cal.atErr l [holds, known]) := by unfold Cal.sourceS; rw [if_neg h0z.out]
    clear h0
    go_enter Tryd.func6, Tryd.ntmps6
    go_wp2_with (go_at_call 13; refine (Source_any _ _ l _ _ _ _ (hl'.out _ hba.out)).mono ?_; rintro e w1 ⟨rfl, hb1⟩; obtain ⟨hc1, hf1⟩ := bcell hb1)
    go_ret2
    exact ⟨by rw [hfin.out]; rfl, below_step hba.out hb1⟩
end Go.Proofs.YtbinoelbjlgjkaaDoor
namespace Go.Proofs.YtbinoelbjlgjkaaDoor
open Go Go.RowKit
theorem Cal.valOf_no {l : List Prov} {name : ByteArray} {holds known : Int} (h : Cal.src l name holds known < 0) : Cal.valOf l name holds known = (0, false) := by unfold Cal.valOf; rw [if_pos h]
set_option maxHeartbeats 1000000 in
theorem valueOf_any (A : Option Addr) (c : Nat) (l : List Prov) (name : ByteArray) (holds known : Int) (w : World) (hl : Provs w A l) :
    Calls Tryd.prog 16 #[.slice A l.length c, .string name, .int .i64 holds, .int .i64 known] w fun e w' => e = .returned (.agg #[.int .i64 (Cal.valOf l name holds known).1, .bool (Cal.valOf l name holds known).2]) ∧ Below w.heap.size w w' := by
  have hl' := Lib.hid (fun w1 (h : Below w.heap.size w w1) => hl.below h)
  have hba := Lib.hid (below_alloc w (.cells #[.int .i64 0, .bool false] 52))
  clear hl
  by_cases h2 : Cal.src l name holds known < 0
  · have hfin : Hid (Cal.valOf l name holds known = (0, false)) := Cal.valOf_no h2
    go_enter Tryd.func16, Tryd.ntmps16
    go_wp2_with (go_at_call 26; refine (source_any _ _ l _ _ _ _ (hl'.out _ hba.out)).mono ?_; rintro e w1 ⟨rfl, hb1⟩; obtain ⟨hc1, hf1⟩ := bcell hb1)
    refine bodyPost_ret (v := .agg #[.int .i64 (0), .bool false]) (by simp [results, Tryd.results16, go_sem, hc1]) rfl ⟨by rw [hfin.out], ?_⟩
    have hbw := below_step (below_alloc w _) hb1
    have hbs := hbw.size
    exact blw
  · obtain ⟨q, p, hq, hp⟩ := Cal.src_form h2
    have hv := Cal.valOf_some hq hp
    obtain ⟨b, o, rfl, hbl, c0, c1, c2, c3, c4⟩ := (hl'.out _ (Below.refl _ w)).at_ hp
    have hqs : q < l.length := (List.getElem?_eq_some_iff.1 hp).1
    have hsz := (hl'.out _ (Below.refl _ w)).size
    clear hp c0 c2 c3
    cases hr : p.repeal
    · have hfin : Hid (Cal.valOf l name holds known = (p.value, true)) := by show _ = _; rw [hv, hr]; simp
      rw [hr] at c4
      clear hv h2 hr
      go_enter Tryd.func16, Tryd.ntmps16
      go_wp2_with (go_at_call 26; refine (source_any _ _ l _ _ _ _ (hl'.out _ hba.out)).mono ?_; rintro e w1 ⟨rfl, hb1⟩; obtain ⟨hc1, hf1⟩ := bcell hb1)
      refine bodyPost_ret (v := .agg #[.int .i64 (p.value), .bool true]) (by simp [results, Tryd.results16, go_sem, hc1]) rfl ⟨by rw [hfin.out], ?_⟩
      have hbw := below_step (below_alloc w _) hb1
      have hbs := hbw.size
      exact blw
    · have hfin : Hid (Cal.valOf l name holds known = (0, false)) := by show _ = _; rw [hv, hr]; simp
      rw [hr] at c4
      clear hv h2 hr
      go_enter Tryd.func16, Tryd.ntmps16
      go_wp2_with (go_at_call 26; refine (source_any _ _ l _ _ _ _ (hl'.out _ hba.out)).mono ?_; rintro e w1 ⟨rfl, hb1⟩; obtain ⟨hc1, hf1⟩ := bcell hb1)
      refine bodyPost_ret (v := .agg #[.int .i64 (0), .bool false]) (by simp [results, Tryd.results16, go_sem, hc1]) rfl ⟨by rw [hfin.out], ?_⟩
      have hbw := below_step (below_alloc w _) hb1
      have hbs := hbw.size
      exact blw
theorem elemProv : Elem Tryd.prog 22 24 5 48 := Elem.mk' Tryd.underlying22 (z := .agg #[.string ⟨#[]⟩, .int .i64 0, .int .i64 0, .int .i64 0, .bool false]) (by kernel_rfl) rfl (by decide)
theorem provCells_wid (l : List Prov) : ∀ r ∈ l.map Prov.cells, r.length = 5 := fun r hr => by obtain ⟨p, _, rfl⟩ := List.mem_map.1 hr; rfl
theorem provCells_one (l : List Prov) : ∀ r ∈ l.map Prov.cells, ∀ u ∈ r, u.oneCell' = true := fun r hr u hu => by
  obtain ⟨p, _, rfl⟩ := List.mem_map.1 hr
  simp only [Prov.cells, List.mem_cons, List.not_mem_nil, or_false] at hu
  rcases hu with rfl | rfl | rfl | rfl | rfl <;> rfl
theorem OwnL.provs {w : World} {B : Nat} {E : TypeId} {v : Value} {l : List Prov} (h : OwnL w B E 5 v (l.map Prov.cells)) (hs : l.length ≤ 1000000) (hn : ∀ (k : Nat) p, l[k]? = some p → p.name.size ≤ maxLen) : ∃ A c, v = .slice A l.length c ∧ Provs w A l := by
  obtain ⟨A, c, hv, hr⟩ := h.form
  exact ⟨A, c, by rw [hv, List.length_map], hr, by omega, hn⟩
def ClonePost (w : World) (l : List Prov) (e : Ending) (w' : World) : Prop := ∃ v, e = .returned v ∧ OwnL w' w.heap.size 24 5 v (l.map Prov.cells) ∧ Below w.heap.size w w'
theorem Clone_any (A : Option Addr) (c : Nat) (l : List Prov) (w : World) (hl : Provs w A l) (hs : l.length ≤ 1000000) :
    Calls Tryd.prog 15 #[.slice A l.length c] w (ClonePost w l) := by
  cases A with
  | none =>
    have h0 : l = [] := by
      cases l with
      | nil => rfl
      | cons q r => obtain ⟨b, o, hA, _⟩ := hl.rows 0 q.cells rfl; cases hA
    subst h0
    have hnil := fun w => Lib.run_eql_slice_nil (P := Tryd.prog) w 22 24 none 0 c 0 0 Tryd.underlying22
    go_enter Tryd.func15, Tryd.ntmps15
    go_wp2
    go_ret
    exact ⟨_, rfl, OwnL.nil _ _ _ _, Below.refl _ _⟩
  | some a =>
    have hnil := fun w => Lib.run_eql_slice_nil (P := Tryd.prog) w 22 24 (some a) l.length c 0 0 Tryd.underlying22
    have hl' := Lib.hid (fun w1 (h : Below w.heap.size w w1) => hl.below h)
    have hw := Lib.hid (provCells_wid l)
    have h1 := Lib.hid (provCells_one l)
    clear hl
    go_enter Tryd.func15, Tryd.ntmps15
    go_wp2_with (at_builtin; refine wpList_append_rows elemProv rfl _ _ rfl rfl rfl (OwnL.made w w.heap.size _ 5 (Nat.le_refl _)) (hl'.out _ (below_alloc _ _)).rows (List.length_map ..).symm hw.out h1.out (by simp; omega) (by decide) (by simp) ?_; intro v' w1 hown hg _)
    go_ret
    exact ⟨_, rfl, by simpa using hown, (below_alloc _ _).trans (grown_below hg (fun g e => by cases e; exact Nat.le_refl _) (by simp))⟩
end Go.Proofs.YtbinoelbjlgjkaaDoor
