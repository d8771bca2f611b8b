/- Chapter 8 and what it rests on: definitions and walks, part 16. -/
import Derived.Test.YtbinoelbjlgjkaaGreatDoorC03
import Derived.Test.YtbinoelbjlgjkaaGreatDoorC11
import Derived.Test.YtbinoelbjlgjkaaGreatDoorC07
import Derived.Test.YtbinoelbjlgjkaaGreatDoorC14
namespace Go.Proofs.YtbinoelbjlgjkaaGreatDoor.Cal
def idx (day : Int) : Int := 12 * dY day + dM day - 1
def mfirst (t : Int) : Int := first (t / 12) (t % 12 + 1)
def mval (d t : Int) : Int := mfirst t + min d (mlen (t / 12) (t % 12 + 1)) - 1
theorem mfirst_succ (t : Int) : mfirst (t + 1) = mfirst t + mlen (t / 12) (t % 12 + 1) := by
  unfold mfirst
  by_cases h : t % 12 = 11
  · have e1 : (t + 1) / 12 = t / 12 + 1 := by omega
    have e2 : (t + 1) % 12 + 1 = 1 := by omega
    have e3 : t % 12 + 1 = 12 := by omega
    rw [e1, e2, e3, first_1, ← first_13]
    exact first_succ (t / 12) 12 (by omega) (by omega)
  · have e1 : (t + 1) / 12 = t / 12 := by omega
    have e2 : (t + 1) % 12 + 1 = t % 12 + 1 + 1 := by omega
    rw [e1, e2]
    exact first_succ (t / 12) (t % 12 + 1) (by omega) (by omega)
theorem mfirst_add (t : Int) (n : Nat) : mfirst t ≤ mfirst (t + n) := by
  induction n with
  | zero => simp
  | succ n ih =>
    have h := mfirst_succ (t + n)
    have := mlen_bd ((t + n) / 12) ((t + n) % 12 + 1)
    rw [show t + ((n + 1 : Nat) : Int) = t + n + 1 by omega]
    omega
theorem mfirst_mono {t u : Int} (h : t ≤ u) : mfirst t ≤ mfirst u := by
  have := mfirst_add t (u - t).toNat
  rwa [show t + ((u - t).toNat : Int) = u by omega] at this
theorem mval_lo {d t : Int} (h : 1 ≤ d) : mfirst t ≤ mval d t := by
  have := mlen_bd (t / 12) (t % 12 + 1)
  unfold mval; omega
theorem mval_hi (d t : Int) : mval d t < mfirst (t + 1) := by
  rw [mfirst_succ]; unfold mval; omega
theorem mval_mono {d t u : Int} (hd : 1 ≤ d) (h : t ≤ u) : mval d t ≤ mval d u := by
  rcases Int.lt_or_eq_of_le h with h | rfl
  · have := mval_hi d t
    have := mfirst_mono (t := t + 1) (u := u) (by omega)
    have := mval_lo (d := d) (t := u) hd
    omega
  · exact Int.le_refl _
section
variable {day : Int} (h0 : 0 ≤ day) (h1 : day ≤ 200000)
include h0 h1
theorem idx_div : idx day / 12 = dY day ∧ idx day % 12 + 1 = dM day := by
  obtain ⟨m1, m2, _, _, _⟩ := date_spec day h0 (by omega)
  unfold idx; omega
theorem mfirst_idx : mfirst (idx day) ≤ day ∧ day < mfirst (idx day + 1) := by
  obtain ⟨m1, m2, d1, d2, hd⟩ := date_spec day h0 (by omega)
  obtain ⟨e1, e2⟩ := idx_div h0 h1
  rw [mfirst_succ]; unfold mfirst; rw [e1, e2]; omega
theorem mval_idx : mval (dD day) (idx day) = day := by
  obtain ⟨m1, m2, d1, d2, hd⟩ := date_spec day h0 (by omega)
  obtain ⟨e1, e2⟩ := idx_div h0 h1
  unfold mval mfirst; rw [e1, e2]; omega
theorem dD_pos : 1 ≤ dD day := (date_spec day h0 (by omega)).d1
theorem idx_bd : 21600 ≤ idx day ∧ idx day ≤ 28175 := by
  obtain ⟨m1, m2, _, _, _⟩ := date_spec day h0 (by omega)
  have := dY_bd day h0 h1
  unfold idx; omega
end
theorem laterT_idx (day m : Int) : laterT day m = idx day + m := by unfold laterT idx; omega
theorem laterS_eq (day m : Int) : laterS day m = if 1800 ≤ (idx day + m) / 12 ∧ (idx day + m) / 12 ≤ 2347 then (mval (dD day) (idx day + m), decide (mval (dD day) (idx day + m) ≤ 200000)) else (0, false) := by
  unfold laterS; rw [laterT_idx]; rfl
theorem laterS_in {day m : Int} (ha : 21600 ≤ idx day + m) (hb : idx day + m ≤ 28175) : laterS day m = (mval (dD day) (idx day + m), decide (mval (dD day) (idx day + m) ≤ 200000)) := by
  rw [laterS_eq, if_pos (by omega)]
theorem laterS_nonneg {day : Int} (h0 : 0 ≤ day) (h1 : day ≤ 200000) (m : Int) : 0 ≤ (laterS day m).1 := by
  rw [laterS_eq]
  split
  · rename_i hy
    have := mval_lo (t := idx day + m) (dD_pos h0 h1)
    have hf := first_bd ((idx day + m) / 12) ((idx day + m) % 12 + 1) hy.1 (by omega)
    unfold mfirst at this
    simp only; omega
  · exact Int.le_refl _
theorem idx_mono {a b : Int} (h0 : 0 ≤ a) (h : a ≤ b) (h1 : b ≤ 200000) : idx a ≤ idx b := by
  apply Classical.byContradiction
  intro hn
  have := (mfirst_idx h0 (by omega)).1
  have := (mfirst_idx (day := b) (by omega) h1).2
  have := mfirst_mono (t := idx b + 1) (u := idx a) (by omega)
  omega
def Good (a b m : Int) : Prop := (laterS a m).2 = true ∧ (laterS a m).1 ≤ b
instance (a b m : Int) : Decidable (Good a b m) := inferInstanceAs (Decidable (_ ∧ _))
/-- So many whole months from a day to another one. -/
def ageM (a b : Int) : Int := if Good a b (idx b - idx a) then idx b - idx a else idx b - idx a - 1
section
variable {a b : Int} (h0 : 0 ≤ a) (h : a ≤ b) (h1 : b ≤ 200000)
include h0 h h1
theorem good_in {m : Int} (hm : 0 ≤ m) (hi : idx a + m ≤ idx b) (hv : mval (dD a) (idx a + m) ≤ b) : Good a b m := by
  have ha := idx_bd h0 (show a ≤ 200000 by omega)
  have hb := idx_bd (show 0 ≤ b by omega) h1
  unfold Good
  rw [laterS_in (by omega) (by omega)]
  exact ⟨by simp; omega, hv⟩
theorem good_zero : laterS a 0 = (a, true) := by
  have ha := idx_bd h0 (show a ≤ 200000 by omega)
  rw [laterS_in (by omega) (by omega), Int.add_zero, mval_idx h0 (by omega)]
  simp; omega
theorem good_less {m : Int} (hm : 0 ≤ m) (hi : idx a + m < idx b) : Good a b m := by
  refine good_in h0 h h1 hm (by omega) ?_
  have := mval_hi (dD a) (idx a + m)
  have := mfirst_mono (t := idx a + m + 1) (u := idx b) (by omega)
  have := (mfirst_idx (show 0 ≤ b by omega) h1).1
  omega
theorem age_nonneg : 0 ≤ ageM a b := by
  have hi := idx_mono h0 h h1
  unfold ageM
  split
  · omega
  · rename_i hn
    by_cases he : idx b - idx a = 0
    · exfalso; apply hn; rw [he]
      unfold Good; rw [good_zero h0 h h1]; exact ⟨rfl, h⟩
    · omega
theorem age_good : Good a b (ageM a b) := by
  have h2 := age_nonneg h0 h h1
  by_cases hg : Good a b (idx b - idx a)
  · unfold ageM; rw [if_pos hg]; exact hg
  · have e : ageM a b = idx b - idx a - 1 := by unfold ageM; rw [if_neg hg]
    rw [e] at h2 ⊢
    exact good_less h0 h h1 h2 (by omega)
theorem age_next : ¬ Good a b (ageM a b + 1) := by
  have ha := idx_bd h0 (show a ≤ 200000 by omega)
  have hb := idx_bd (show 0 ≤ b by omega) h1
  by_cases hg : Good a b (idx b - idx a)
  · have e : ageM a b = idx b - idx a := by unfold ageM; rw [if_pos hg]
    rw [e]
    rintro ⟨g1, g2⟩
    rw [laterS_eq] at g1 g2
    rw [show idx a + (idx b - idx a + 1) = idx b + 1 by omega] at g1 g2
    by_cases hy : 1800 ≤ (idx b + 1) / 12 ∧ (idx b + 1) / 12 ≤ 2347
    · rw [if_pos hy] at g2
      have := mval_lo (t := idx b + 1) (dD_pos h0 (show a ≤ 200000 by omega))
      have := (mfirst_idx (show 0 ≤ b by omega) h1).2
      simp only at g2; omega
    · rw [if_neg hy] at g1; simp at g1
  · have e : ageM a b = idx b - idx a - 1 := by unfold ageM; rw [if_neg hg]
    rw [e, show idx b - idx a - 1 + 1 = idx b - idx a by omega]; exact hg
theorem age_lt {m : Int} (hm : 0 ≤ m) (hlt : m < ageM a b) : Good a b (m + 1) := by
  have hg := age_good h0 h h1
  have hle : ageM a b ≤ idx b - idx a := by unfold ageM; split <;> omega
  have ha := idx_bd h0 (show a ≤ 200000 by omega)
  have hb := idx_bd (show 0 ≤ b by omega) h1
  refine good_in h0 h h1 (by omega) (by omega) ?_
  obtain ⟨_, g2⟩ := hg
  rw [laterS_in (by omega) (by omega)] at g2
  have := mval_mono (t := idx a + (m + 1)) (u := idx a + ageM a b) (dD_pos h0 (show a ≤ 200000 by omega)) (by omega)
  simp only at g2; omega
theorem age_le : ageM a b ≤ 6600 := by
  have ha := idx_bd h0 (show a ≤ 200000 by omega)
  have hb := idx_bd (show 0 ≤ b by omega) h1
  unfold ageM; split <;> omega
end
end Go.Proofs.YtbinoelbjlgjkaaGreatDoor.Cal
namespace Go.Proofs.YtbinoelbjlgjkaaGreatDoor.Cal
/-- Is a day a holiday? -/
def isB (h : Hol) (d : Int) : Bool :=
  if h.kind = 0 then decide (dM d = h.month ∧ dD d = h.day)
  else if h.kind = 1 then decide (d = easter (dY d) + h.day)
  else decide (dM d = h.month ∧ (d + 2) % 7 = h.weekday ∧ (if h.day < 0 then mlen (dY d) (dM d) < dD d + 7 else (dD d - 1) / 7 = h.day - 1))
def anyB (l : List Hol) (d : Int) : Bool := l.any fun h => isB h d
/-- What is known of a holiday that is right. -/
theorem hol_cases {h : Hol} (hh : holErrOf h = 0) :
    (h.kind = 0 ∧ 1 ≤ h.month ∧ h.month ≤ 12 ∧ 1 ≤ h.day ∧ h.day ≤ 31) ∨ (h.kind = 1 ∧ -80 ≤ h.day ∧ h.day ≤ 240) ∨
    (h.kind = 2 ∧ 1 ≤ h.month ∧ h.month ≤ 12 ∧ ((1 ≤ h.day ∧ h.day ≤ 4) ∨ h.day = -1) ∧ 0 ≤ h.weekday ∧ h.weekday ≤ 6) := by
  unfold holErrOf holErr at hh
  have := mlen_bd 1804 h.month
  by_cases h0 : h.kind = 0
  · rw [if_pos h0] at hh
    split at hh
    · left; omega
    · omega
  · rw [if_neg h0] at hh
    by_cases h1 : h.kind = 1
    · rw [if_pos h1] at hh
      split at hh
      · right; left; omega
      · omega
    · rw [if_neg h1] at hh
      by_cases h2 : h.kind = 2
      · rw [if_pos h2] at hh
        split at hh
        · split at hh
          · right; right; omega
          · omega
        · omega
      · rw [if_neg h2] at hh; omega
theorem easter_in (y : Int) : beg y + 80 ≤ easter y ∧ easter y ≤ beg y + 116 + lp y := by
  have hb := eN_bd y
  have hl := lp_ge y
  unfold easter
  have h : eN y / 31 = 3 ∨ eN y / 31 = 4 := by omega
  rcases h with h | h <;> rw [h] <;> simp [first, cum] <;> omega
section
variable {h : Hol} {d : Int} (hh : holErrOf h = 0) (h0 : 0 ≤ d) (h1 : d ≤ 200000)
include hh h0 h1
theorem isB_iff : isB h d = true ↔ onS h (dY d) = some d := by
  have hd := date_spec d h0 (by omega)
  have hy := dY_bd d h0 h1
  rcases hol_cases hh with ⟨hk, m1, m2, d1, d2⟩ | ⟨hk, d1, d2⟩ | ⟨hk, m1, m2, hdd, w1, w2⟩
  · unfold isB onS
    rw [if_pos hk, if_pos hk]
    simp only [decide_eq_true_eq]
    constructor
    · rintro ⟨e1, e2⟩
      have a := hd.d2; have b := hd.day
      rw [e1, e2] at a b
      rw [if_pos a, b]
    · intro e
      split at e
      · rename_i hle
        simp only [Option.some.injEq] at e
        have := (hd.unique ⟨m1, m2, d1, hle, e⟩)
        exact ⟨this.2.1, this.2.2⟩
      · cases e
  · unfold isB onS
    rw [if_neg (by omega), if_pos hk, if_neg (by omega), if_pos hk]
    simp only [decide_eq_true_eq, Option.some.injEq]
    omega
  · unfold isB onS
    have n0 : ¬ h.kind = 0 := by omega
    have n1 : ¬ h.kind = 1 := by omega
    rw [if_neg n0, if_neg n1, if_neg n0, if_neg n1]
    simp only [decide_eq_true_eq]
    have hml := mlen_bd (dY d) h.month
    have e1 := hd.d1; have e2 := hd.d2; have e3 := hd.day
    have huniq : ∀ k, 1 ≤ k → k ≤ mlen (dY d) h.month → first (dY d) h.month + k - 1 = d → dM d = h.month ∧ dD d = k := fun k a b c => by
      have := hd.unique ⟨m1, m2, a, b, c⟩
      exact ⟨this.2.1, this.2.2⟩
    generalize hF : first (dY d) h.month = F at *
    generalize hM : mlen (dY d) h.month = M at *
    rcases hdd with ⟨a1, a2⟩ | a1
    · rw [if_neg (by omega), if_pos (by omega)]
      simp only [Option.some.injEq]
      constructor
      · rintro ⟨b1, b2, b3⟩
        rw [b1, hM] at e2; rw [b1, hF] at e3
        omega
      · intro e
        obtain ⟨b1, b2⟩ := huniq (d - F + 1) (by omega) (by omega) (by omega)
        refine ⟨b1, ?_, ?_⟩
        · omega
        · rw [b2]; omega
    · rw [if_pos (by omega), if_neg (by omega)]
      simp only [Option.some.injEq]
      constructor
      · rintro ⟨b1, b2, b3⟩
        rw [b1, hM] at e2 b3; rw [b1, hF] at e3
        omega
      · intro e
        obtain ⟨b1, b2⟩ := huniq (d - F + 1) (by omega) (by omega) (by omega)
        refine ⟨b1, ?_, ?_⟩
        · omega
        · rw [b1, hM, b2]; omega
end
theorem onS_in {h : Hol} (hh : holErrOf h = 0) {y d : Int} (e : onS h y = some d) : beg y ≤ d ∧ d < beg (y + 1) := by
  have hs := beg_succ y
  have hl := lp_ge y
  rcases hol_cases hh with ⟨hk, m1, m2, d1, d2⟩ | ⟨hk, d1, d2⟩ | ⟨hk, m1, m2, hdd, w1, w2⟩
  · unfold onS at e
    rw [if_pos hk] at e
    split at e
    · simp only [Option.some.injEq] at e
      have := first_lo y h.month
      have := first_hi y h.month m1 m2
      omega
    · cases e
  · unfold onS at e
    rw [if_neg (by omega), if_pos hk] at e
    simp only [Option.some.injEq] at e
    have := easter_in y
    omega
  · unfold onS at e
    rw [if_neg (by omega), if_neg (by omega)] at e
    have := first_lo y h.month
    have := first_hi y h.month m1 m2
    have := mlen_bd y h.month
    rcases hdd with ⟨a1, a2⟩ | a1
    · rw [if_pos (by omega)] at e
      simp only [Option.some.injEq] at e
      omega
    · rw [if_neg (by omega)] at e
      simp only [Option.some.injEq] at e
      omega
def HolsOk (l : List Hol) : Prop := ∀ h ∈ l, holErrOf h = 0
theorem holsErrFrom_ok : ∀ {l seen : List Hol}, holsErrFrom seen l = 0 → HolsOk l
  | [], _, _ => fun h hm => by simp at hm
  | q :: l, seen, he => by
    rw [holsErrFrom_cons] at he
    split at he
    · split at he
      · omega
      · split at he
        · rename_i _ _ hq
          intro h hm
          rcases List.mem_cons.1 hm with rfl | hm
          · exact hq
          · exact holsErrFrom_ok he h hm
        · rename_i hq; exact absurd he hq
    · omega
theorem holsErr_ok {l : List Hol} (h : holsErr l = 0) : HolsOk l ∧ l.length ≤ 40 := by
  unfold holsErr at h
  split at h
  · omega
  · exact ⟨holsErrFrom_ok h, by omega⟩
theorem anyB_iff {l : List Hol} (hl : HolsOk l) {d : Int} (h0 : 0 ≤ d) (h1 : d ≤ 200000) : anyB l d = true ↔ d ∈ hols l (dY d) := by
  unfold anyB hols
  rw [List.any_eq_true, List.mem_filterMap]
  constructor
  · rintro ⟨h, hm, hb⟩; exact ⟨h, hm, (isB_iff (hl h hm) h0 h1).1 hb⟩
  · rintro ⟨h, hm, hb⟩; exact ⟨h, hm, (isB_iff (hl h hm) h0 h1).2 hb⟩
theorem hols_in {l : List Hol} (hl : HolsOk l) {y d : Int} (hd : d ∈ hols l y) : beg y ≤ d ∧ d < beg (y + 1) := by
  unfold hols at hd
  obtain ⟨h, hm, e⟩ := List.mem_filterMap.1 hd
  exact onS_in (hl h hm) e
theorem beg_2347 : beg 2347 = 199787 := by decide
theorem beg_top {y : Int} (h1 : 1800 ≤ y) (h2 : y ≤ 2346) : 0 ≤ beg y ∧ beg (y + 1) ≤ 199787 := by
  have a := beg_mono h1
  have b := beg_mono (a := y + 1) (b := 2347) (by omega)
  rw [beg_1800] at a
  have e : beg 2347 = 199787 := by decide
  rw [e] at b
  exact ⟨a, b⟩
theorem dY_of {y d : Int} (h1 : 1800 ≤ y) (h2 : y ≤ 2346) (a : beg y ≤ d) (b : d < beg (y + 1)) : dY d = y := by
  have ht := beg_top h1 h2
  have hd := date_spec d (by omega) (by omega)
  exact year_unique hd.lo hd.hi a b
/-- Is a day a working day? -/
def workB (l : List Hol) (d : Int) : Bool := decide ((d + 2) % 7 < 5) && !anyB l d
theorem workB_eq {l : List Hol} (hl : HolsOk l) {d : Int} (h0 : 0 ≤ d) (h1 : d ≤ 200000) : worksB l d = workB l d := by
  unfold worksB workB
  have e : (hols l (dY d)).contains d = anyB l d := by
    rw [Bool.eq_iff_iff, anyB_iff hl h0 h1]; simp
  rw [e]
  congr 1
  rw [Bool.eq_iff_iff]; simp; omega
end Go.Proofs.YtbinoelbjlgjkaaGreatDoor.Cal
namespace Go.Proofs.YtbinoelbjlgjkaaGreatDoor
open Go Go.RowKit
set_option maxHeartbeats 1000000 in
theorem on_0 (nm : ByteArray) (month day wd y : Int) (m1 : 1 ≤ month) (m2 : month ≤ 12) (d1 : 1 ≤ day) (d2 : day ≤ 31) (y1 : 1800 ≤ y) (y2 : y ≤ 2347) (w : World) (hT : Tab w) :
    Calls Tryz.prog 313 #[.agg #[.string nm, .int .i64 0, .int .i64 month, .int .i64 day, .int .i64 wd], .int .i64 y] w fun e w' => e = .returned (.tuple #[.int .i64 (Cal.first y month + day - 1), .bool (decide (day ≤ Cal.mlen y month))]) ∧ Below w.heap.size w w' := by
  have hT' := Lib.hid (fun o n => (hT.alloc o).drewN n); clear hT
  have hfb := Cal.first_bd y month y1 (by omega)
  have hmb := Cal.mlen_bd y month
  go_enter Tryz.func313, Tryz.ntmps313
  go_wp2_with fail
  go_quiet (first | (go_at_call 124; exact quiet_left (length_any _ _ (by omega) m1 m2 _ (hT'.out _ _))) | (go_at_call 125; exact quiet_left (dayOf_any _ _ _ (by omega) (by omega) m1 m2 (by omega) (by omega) _ (hT'.out _ _))))
  go_wp2
  go_ret2
  exact ⟨ret_ib (by omega) rfl, below_drewN (below_alloc _ _) _⟩
set_option maxHeartbeats 1000000 in
theorem on_1 (nm : ByteArray) (month day wd y : Int) (d1 : -80 ≤ day) (d2 : day ≤ 240) (y1 : 1800 ≤ y) (y2 : y ≤ 2347) (w : World) (hT : Tab w) :
    Calls Tryz.prog 313 #[.agg #[.string nm, .int .i64 1, .int .i64 month, .int .i64 day, .int .i64 wd], .int .i64 y] w fun e w' => e = .returned (.tuple #[.int .i64 (Cal.easter y + day), .bool true]) ∧ Below w.heap.size w w' := by
  have hT' := Lib.hid (fun o n => (hT.alloc o).drewN n); clear hT
  have he := Cal.easter_in y
  have hb1 := Cal.beg_mono y1
  have hb2 := Cal.beg_mono y2
  rw [Cal.beg_1800] at hb1
  rw [Cal.beg_2347] at hb2
  have hl := Cal.lp_le y
  go_enter Tryz.func313, Tryz.ntmps313
  go_wp2_with fail
  go_quiet (first | (go_at_call 128; exact quiet_left (easter_any _ (by omega) (by omega) _ (hT'.out _ _))))
  go_wp2
  go_ret2
  exact ⟨rfl, below_drewN (below_alloc _ _) _⟩
set_option maxHeartbeats 2000000 in
theorem on_2 (nm : ByteArray) (month day wd y : Int) (m1 : 1 ≤ month) (m2 : month ≤ 12) (d1 : 1 ≤ day) (d2 : day ≤ 4) (w1 : 0 ≤ wd) (w2 : wd ≤ 6) (y1 : 1800 ≤ y) (y2 : y ≤ 2347) (w : World) (hT : Tab w) :
    Calls Tryz.prog 313 #[.agg #[.string nm, .int .i64 2, .int .i64 month, .int .i64 day, .int .i64 wd], .int .i64 y] w fun e w' => e = .returned (.tuple #[.int .i64 ((Cal.first y month + (wd - (Cal.first y month + 2) % 7 + 7) % 7) + 7 * (day - 1)), .bool true]) ∧ Below w.heap.size w w' := by
  have hT' := Lib.hid (fun o n => (hT.alloc o).drewN n); clear hT
  have hfb := Cal.first_bd y month y1 (by omega)
  have hmb := Cal.mlen_bd y month
  go_enter Tryz.func313, Tryz.ntmps313
  go_wp2_with (first | (go_at_call 125; refine (dayOf_any _ _ _ (by omega) (by omega) m1 m2 (by omega) (by omega) _ (hT'.out _ 0)).mono ?_; rintro e w' ⟨rfl, rfl⟩))
  go_quiet (first | (go_at_call 286; exact quiet_left (weekday_any _ (by omega) (by omega) _)))
  go_wp2
  go_ret2
  exact ⟨ret_ib (by omega) rfl, below_drewN (below_alloc _ _) _⟩
set_option maxHeartbeats 2000000 in
theorem on_3 (nm : ByteArray) (month wd y : Int) (m1 : 1 ≤ month) (m2 : month ≤ 12) (w1 : 0 ≤ wd) (w2 : wd ≤ 6) (y1 : 1800 ≤ y) (y2 : y ≤ 2347) (w : World) (hT : Tab w) :
    Calls Tryz.prog 313 #[.agg #[.string nm, .int .i64 2, .int .i64 month, .int .i64 (-1), .int .i64 wd], .int .i64 y] w fun e w' => e = .returned (.tuple #[.int .i64 (Cal.first y month + Cal.mlen y month - 1 - (Cal.first y month + Cal.mlen y month - 1 - (Cal.first y month + (wd - (Cal.first y month + 2) % 7 + 7) % 7)) % 7), .bool true]) ∧ Below w.heap.size w w' := by
  have hT' := Lib.hid (fun o n => (hT.alloc o).drewN n); clear hT
  have hfb := Cal.first_bd y month y1 (by omega)
  have hmb := Cal.mlen_bd y month
  go_enter Tryz.func313, Tryz.ntmps313
  go_wp2_with (first | (go_at_call 125; refine (dayOf_any _ _ _ (by omega) (by omega) m1 m2 (by omega) (by omega) _ (hT'.out _ 0)).mono ?_; rintro e w' ⟨rfl, rfl⟩))
  go_quiet (first | (go_at_call 286; exact quiet_left (weekday_any _ (by omega) (by omega) _)))
  go_wp2_with fail
  go_quiet (first | (go_at_call 124; exact quiet_add_left (length_any _ _ (by omega) m1 m2 _ (hT'.out _ _))) | (go_at_call 125; exact quiet_add_left (dayOf_any _ _ _ (by omega) (by omega) m1 m2 (by omega) (by omega) _ (hT'.out _ _))))
  go_wp2
  go_ret2
  exact ⟨ret_ib (by omega) rfl, below_drewN (below_alloc _ _) _⟩
def OnPost (w : World) (p : Hol) (y : Int) (e : Ending) (w' : World) : Prop := ∃ (D : Int) (b : Bool), e = .returned (.tuple #[.int .i64 D, .bool b]) ∧ Cal.onS p y = (if b = true then some D else none) ∧ Below w.heap.size w w'
theorem on_any (p : Hol) (hp : Cal.holErrOf p = 0) (y : Int) (y1 : 1800 ≤ y) (y2 : y ≤ 2347) (w : World) (hT : Tab w) :
    Calls Tryz.prog 313 #[.agg #[.string p.name, .int .i64 p.kind, .int .i64 p.month, .int .i64 p.day, .int .i64 p.weekday], .int .i64 y] w (OnPost w p y) := by
  have hc := Cal.hol_cases hp
  clear hp
  obtain ⟨nm, kind, month, day, wd⟩ := p
  simp only at hc ⊢
  rcases hc with ⟨rfl, m1, m2, d1, d2⟩ | ⟨rfl, d1, d2⟩ | ⟨rfl, m1, m2, ⟨d1, d2⟩ | rfl, w1, w2⟩
  · exact (on_0 nm month day wd y m1 m2 d1 d2 y1 y2 w hT).mono fun e w' ⟨he, hb⟩ => ⟨_, _, he, by unfold Cal.onS; simp, hb⟩
  · exact (on_1 nm month day wd y d1 d2 y1 y2 w hT).mono fun e w' ⟨he, hb⟩ => ⟨_, _, he, by unfold Cal.onS; simp, hb⟩
  · exact (on_2 nm month day wd y m1 m2 d1 d2 w1 w2 y1 y2 w hT).mono fun e w' ⟨he, hb⟩ => ⟨_, _, he, by unfold Cal.onS; simp only; rw [if_neg (by decide), if_neg (by decide), if_pos (by omega)]; rfl, hb⟩
  · exact (on_3 nm month wd y m1 m2 w1 w2 y1 y2 w hT).mono fun e w' ⟨he, hb⟩ => ⟨_, _, he, by unfold Cal.onS; simp only; rw [if_neg (by decide), if_neg (by decide), if_neg (by decide)]; rfl, hb⟩
theorem Cal.hols_snoc {l : List Hol} {k : Nat} (hlt : k < l.length) (y : Int) : Cal.hols (l.take (k + 1)) y = Cal.hols (l.take k) y ++ (match Cal.onS l[k] y with | some d => [d] | none => []) := by
  unfold Cal.hols
  rw [List.take_succ_eq_append_getElem hlt, List.filterMap_append]
  congr 1
  cases h : Cal.onS l[k] y <;> simp [h]
theorem Cal.hols_length (l : List Hol) (y : Int) : (Cal.hols l y).length ≤ l.length := List.length_filterMap_le _ _
theorem IntsL.slice {w : World} {B : Nat} {v : Value} {zs : List Int} (h : IntsL w B v zs) (hs : zs.length ≤ 1000000) : SliceOf w B v zs := by
  obtain ⟨A, c, rfl, _⟩ := h.rows
  refine ⟨A, c, rfl, hs, fun hne => ?_⟩
  rcases h.own.2 with ⟨_, h0⟩ | ⟨g, cap, cur, hv, hb, hg, h1, h2, h3, h4⟩
  · exact absurd (List.eq_nil_of_length_eq_zero h0) hne
  · simp only [Value.slice.injEq, true_and] at hv
    obtain ⟨rfl, rfl⟩ := hv
    refine ⟨g, cur, _, rfl, hb, hg, fun j x hx => ?_⟩
    have hj : j < zs.length := (List.getElem?_eq_some_iff.1 hx).1
    have := congrArg (·[j]?) h4
    simp only [List.getElem?_take, Nat.mul_one, hj, if_true, List.getElem?_map, hx] at this
    rw [Array.getElem?_toList] at this
    exact this
theorem IntsL.grown {w w' : World} {B : Nat} {v : Value} {zs : List Int} (h : IntsL w B v zs) (hg : w.grownBy w' v.ownBlock) (hs : B ≤ w.heap.size) : Below B w w' :=
  grown_below hg (fun g e => (OwnL.lt h g e).1) hs
theorem Tab.hid {w : World} (h : Tab w) : ∀ w', Below w.heap.size w w' → Tab w' := fun _ hb => h.below hb
set_option maxRecDepth 100000 in
set_option maxHeartbeats 2000000 in
theorem holidaysOf_any (A : Option Addr) (c : Nat) (l : List Hol) (hok : Cal.HolsOk l) (hlen : l.length ≤ 1000) : HolCalls A c l := by
  intro y w y1 y2 hl hT
  have hT' := Lib.hid hT.hid
  have hl' := Lib.hid hl
  have hsz := hl.size
  have h0 : Hid (IntsL w w.heap.size (.slice none 0 0) (Cal.hols (l.take 0) y)) := OwnL.nil _ _ _ _
  clear hl hT
  go_enter Tryz.func288, Tryz.ntmps288
  go_wp2
  go_loopw [5, 12] (fun o i wr => ∃ k : Nat, k ≤ l.length ∧ i = .int .i64 k ∧ Hid (IntsL wr w.heap.size o (Cal.hols (l.take k) y)) ∧ Hid (Below w.heap.size w wr)) (fun _ i _ => l.length - (intOf i).toNat)
  case atStart => exact ⟨0, Nat.zero_le _, rfl, h0, Below.refl _ _⟩
  case round =>
    obtain ⟨k, hk, rfl, hown, hb⟩ := hrel
    clear h0
    by_cases hlt : k < l.length
    · have hk' : l[k]? = some l[k] := List.getElem?_eq_getElem hlt
      have hsn := Lib.hid (Cal.hols_snoc hlt y)
      have hp := hok _ (List.getElem_mem hlt)
      have hln := Cal.hols_length (l.take k) y
      rw [List.length_take] at hln
      obtain ⟨b, o, rfl, hbl, c0, c1, c2, c3, c4⟩ := (hl'.out.below hb.out).at_ hk'
      clear hk'
      generalize l[k] = p at *
      have hbs := hb.out.size
      go_wp2_with fail
      refine (on_any p hp y y1 y2 _ (hT'.out _ (hb.out.alloc hbs _))).mono ?_
      rintro e w1 ⟨D, bb, rfl, hon, hb1⟩
      have hbw1 := Lib.hid (below_step (hb.out.alloc hbs _) hb1)
      have hb1' := below_step (below_alloc _ _) hb1
      have hown1 := Lib.hid (hown.out.below hb1')
      clear hb1 hb1' hown
      cases bb
      · have hnx : Hid (Cal.hols (l.take (k + 1)) y = Cal.hols (l.take k) y) := by show _ = _; rw [hsn.out, hon]; simp
        clear hon
        go_wp2_with fail
        go_roundw
        case rel => exact ⟨k + 1, by omega, by go_num, by rw [hnx.out]; exact hown1, hbw1⟩
        case measure => simp [intOf]; omega
      · have hnx : Hid (Cal.hols (l.take (k + 1)) y = Cal.hols (l.take k) y ++ [D]) := by show _ = _; rw [hsn.out, hon]; simp
        clear hon
        have hbs1 := hbw1.out.size
        generalize Cal.hols (l.take k) y = zs at *
        go_wp2_with (at_builtin; refine wpList_append_rows elemInt rfl _ _ rfl rfl rfl (hown1.out.below (below_alloc _ _)) (rowsAt_new _ [.int .i64 D] _) rfl (intRows_wid [D]) (intRows_one [D]) (by rw [intRows_length]; simp; omega) (by decide) (by simp; omega) ?_; intro v' w2 hown2 hg2 _)
        have hb2 : Below w.heap.size w w2 := (hbw1.out.alloc hbs1 _).trans (grown_below hg2 (fun g e => (OwnL.lt hown1.out g e).1) (by simp; omega))
        have hown2' : IntsL w2 w.heap.size v' (zs ++ [D]) := by unfold IntsL intRows; rw [List.map_append]; exact hown2
        have hb2 := Lib.hid hb2
        have hown2' := Lib.hid hown2'
        clear hown2 hg2
        go_wp2_with fail
        go_roundw
        case rel => exact ⟨k + 1, by omega, by go_num, by rw [hnx.out]; exact hown2', hb2⟩
        case measure => simp [intOf]; omega
    · obtain rfl : k = l.length := by omega
      have hln := Cal.hols_length l y
      have hown := Lib.hid (show IntsL _ _ _ (Cal.hols l y) by have := hown.out; rwa [List.take_length] at this)
      have hbs := hb.out.size
      go_wp2_with fail
      refine (Sort_own _ w.heap.size _ _ hown.out (by omega)).mono ?_
      rintro e w1 ⟨rfl, hs1, hg1⟩
      have hb1 := hown.out.grown hg1 hbs
      have hbs1 := hb1.size
      have hlm : ((Cal.hols l y).mergeSort fun x y => decide (x ≤ y)).length = (Cal.hols l y).length := List.length_mergeSort _
      go_wp2_with fail
      refine (Compact_own _ w.heap.size _ _ hs1 (by omega)).mono ?_
      rintro e w2 ⟨v2, rfl, hs2, hg2, _⟩
      have hb2 := hs1.grown hg2 (by omega)
      have hu := Cal.ups_spec (Cal.hols l y)
      have hul := Cal.ups_length (Cal.hols l y)
      go_wp2
      go_ret
      exact ⟨v2, Cal.ups (Cal.hols l y), rfl, IntsL.slice hs2 (Nat.le_trans hul (by omega)), hu, hb.out.trans (hb1.trans hb2)⟩
end Go.Proofs.YtbinoelbjlgjkaaGreatDoor
