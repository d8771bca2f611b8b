/- The plain law of holidays: the day of a holiday in a year, and whether a day is one. No program in sight. -/
import Derived.Test.YtoigamkldccnkaaDoorW19
import Derived.Test.YtoigamkldccnkaaDoorCalAge
import Derived.Test.YtoigamkldccnkaaDoorCalInts
namespace Go.Proofs.YtoigamkldccnkaaDoor.Cal
/-- Is a day a holiday? -/
def isB (h : Hol) (d : Int) : Bool :=
  if h.kind = 0 then decide (dM d = h.month ∧ dD d = h.day)
  else if h.kind = 1 then decide (d = easter (dY d) + h.day)
  else decide (dM d = h.month ∧ (d + 2) % 7 = h.weekday ∧ (if h.day < 0 then mlen (dY d) (dM d) < dD d + 7 else (dD d - 1) / 7 = h.day - 1))
def anyB (l : List Hol) (d : Int) : Bool := l.any fun h => isB h d
/-- What is known of a holiday that is right. -/
theorem hol_cases {h : Hol} (hh : holErrOf h = 0) :
    (h.kind = 0 ∧ 1 ≤ h.month ∧ h.month ≤ 12 ∧ 1 ≤ h.day ∧ h.day ≤ 31) ∨ (h.kind = 1 ∧ -80 ≤ h.day ∧ h.day ≤ 240) ∨
    (h.kind = 2 ∧ 1 ≤ h.month ∧ h.month ≤ 12 ∧ ((1 ≤ h.day ∧ h.day ≤ 4) ∨ h.day = -1) ∧ 0 ≤ h.weekday ∧ h.weekday ≤ 6) := by
  unfold holErrOf holErr at hh
  have := mlen_bd 1804 h.month
  by_cases h0 : h.kind = 0
  · rw [if_pos h0] at hh
    split at hh
    · left; omega
    · omega
  · rw [if_neg h0] at hh
    by_cases h1 : h.kind = 1
    · rw [if_pos h1] at hh
      split at hh
      · right; left; omega
      · omega
    · rw [if_neg h1] at hh
      by_cases h2 : h.kind = 2
      · rw [if_pos h2] at hh
        split at hh
        · split at hh
          · right; right; omega
          · omega
        · omega
      · rw [if_neg h2] at hh; omega
theorem easter_in (y : Int) : beg y + 80 ≤ easter y ∧ easter y ≤ beg y + 116 + lp y := by
  have hb := eN_bd y
  have hl := lp_ge y
  unfold easter
  have h : eN y / 31 = 3 ∨ eN y / 31 = 4 := by omega
  rcases h with h | h <;> rw [h] <;> simp [first, cum] <;> omega
section
variable {h : Hol} {d : Int} (hh : holErrOf h = 0) (h0 : 0 ≤ d) (h1 : d ≤ 200000)
include hh h0 h1
theorem isB_iff : isB h d = true ↔ onS h (dY d) = some d := by
  have hd := date_spec d h0 (by omega)
  have hy := dY_bd d h0 h1
  rcases hol_cases hh with ⟨hk, m1, m2, d1, d2⟩ | ⟨hk, d1, d2⟩ | ⟨hk, m1, m2, hdd, w1, w2⟩
  · unfold isB onS
    rw [if_pos hk, if_pos hk]
    simp only [decide_eq_true_eq]
    constructor
    · rintro ⟨e1, e2⟩
      have a := hd.d2; have b := hd.day
      rw [e1, e2] at a b
      rw [if_pos a, b]
    · intro e
      split at e
      · rename_i hle
        simp only [Option.some.injEq] at e
        have := (hd.unique ⟨m1, m2, d1, hle, e⟩)
        exact ⟨this.2.1, this.2.2⟩
      · cases e
  · unfold isB onS
    rw [if_neg (by omega), if_pos hk, if_neg (by omega), if_pos hk]
    simp only [decide_eq_true_eq, Option.some.injEq]
    omega
  · unfold isB onS
    have n0 : ¬ h.kind = 0 := by omega
    have n1 : ¬ h.kind = 1 := by omega
    rw [if_neg n0, if_neg n1, if_neg n0, if_neg n1]
    simp only [decide_eq_true_eq]
    have hml := mlen_bd (dY d) h.month
    have e1 := hd.d1; have e2 := hd.d2; have e3 := hd.day
    have huniq : ∀ k, 1 ≤ k → k ≤ mlen (dY d) h.month → first (dY d) h.month + k - 1 = d → dM d = h.month ∧ dD d = k := fun k a b c => by
      have := hd.unique ⟨m1, m2, a, b, c⟩
      exact ⟨this.2.1, this.2.2⟩
    generalize hF : first (dY d) h.month = F at *
    generalize hM : mlen (dY d) h.month = M at *
    rcases hdd with ⟨a1, a2⟩ | a1
    · rw [if_neg (by omega), if_pos (by omega)]
      simp only [Option.some.injEq]
      constructor
      · rintro ⟨b1, b2, b3⟩
        rw [b1, hM] at e2; rw [b1, hF] at e3
        omega
      · intro e
        obtain ⟨b1, b2⟩ := huniq (d - F + 1) (by omega) (by omega) (by omega)
        refine ⟨b1, ?_, ?_⟩
        · omega
        · rw [b2]; omega
    · rw [if_pos (by omega), if_neg (by omega)]
      simp only [Option.some.injEq]
      constructor
      · rintro ⟨b1, b2, b3⟩
        rw [b1, hM] at e2 b3; rw [b1, hF] at e3
        omega
      · intro e
        obtain ⟨b1, b2⟩ := huniq (d - F + 1) (by omega) (by omega) (by omega)
        refine ⟨b1, ?_, ?_⟩
        · omega
        · rw [b1, hM, b2]; omega
end
theorem onS_in {h : Hol} (hh : holErrOf h = 0) {y d : Int} (e : onS h y = some d) : beg y ≤ d ∧ d < beg (y + 1) := by
  have hs := beg_succ y
  have hl := lp_ge y
  rcases hol_cases hh with ⟨hk, m1, m2, d1, d2⟩ | ⟨hk, d1, d2⟩ | ⟨hk, m1, m2, hdd, w1, w2⟩
  · unfold onS at e
    rw [if_pos hk] at e
    split at e
    · simp only [Option.some.injEq] at e
      have := first_lo y h.month
      have := first_hi y h.month m1 m2
      omega
    · cases e
  · unfold onS at e
    rw [if_neg (by omega), if_pos hk] at e
    simp only [Option.some.injEq] at e
    have := easter_in y
    omega
  · unfold onS at e
    rw [if_neg (by omega), if_neg (by omega)] at e
    have := first_lo y h.month
    have := first_hi y h.month m1 m2
    have := mlen_bd y h.month
    rcases hdd with ⟨a1, a2⟩ | a1
    · rw [if_pos (by omega)] at e
      simp only [Option.some.injEq] at e
      omega
    · rw [if_neg (by omega)] at e
      simp only [Option.some.injEq] at e
      omega
def HolsOk (l : List Hol) : Prop := ∀ h ∈ l, holErrOf h = 0
theorem holsErrFrom_ok : ∀ {l seen : List Hol}, holsErrFrom seen l = 0 → HolsOk l
  | [], _, _ => fun h hm => by simp at hm
  | q :: l, seen, he => by
    rw [holsErrFrom_cons] at he
    split at he
    · split at he
      · omega
      · split at he
        · rename_i _ _ hq
          intro h hm
          rcases List.mem_cons.1 hm with rfl | hm
          · exact hq
          · exact holsErrFrom_ok he h hm
        · rename_i hq; exact absurd he hq
    · omega
theorem holsErr_ok {l : List Hol} (h : holsErr l = 0) : HolsOk l ∧ l.length ≤ 40 := by
  unfold holsErr at h
  split at h
  · omega
  · exact ⟨holsErrFrom_ok h, by omega⟩
theorem anyB_iff {l : List Hol} (hl : HolsOk l) {d : Int} (h0 : 0 ≤ d) (h1 : d ≤ 200000) : anyB l d = true ↔ d ∈ hols l (dY d) := by
  unfold anyB hols
  rw [List.any_eq_true, List.mem_filterMap]
  constructor
  · rintro ⟨h, hm, hb⟩; exact ⟨h, hm, (isB_iff (hl h hm) h0 h1).1 hb⟩
  · rintro ⟨h, hm, hb⟩; exact ⟨h, hm, (isB_iff (hl h hm) h0 h1).2 hb⟩
theorem hols_in {l : List Hol} (hl : HolsOk l) {y d : Int} (hd : d ∈ hols l y) : beg y ≤ d ∧ d < beg (y + 1) := by
  unfold hols at hd
  obtain ⟨h, hm, e⟩ := List.mem_filterMap.1 hd
  exact onS_in (hl h hm) e
theorem beg_2347 : beg 2347 = 199787 := by decide
theorem beg_top {y : Int} (h1 : 1800 ≤ y) (h2 : y ≤ 2346) : 0 ≤ beg y ∧ beg (y + 1) ≤ 199787 := by
  have a := beg_mono h1
  have b := beg_mono (a := y + 1) (b := 2347) (by omega)
  rw [beg_1800] at a
  have e : beg 2347 = 199787 := by decide
  rw [e] at b
  exact ⟨a, b⟩
theorem dY_of {y d : Int} (h1 : 1800 ≤ y) (h2 : y ≤ 2346) (a : beg y ≤ d) (b : d < beg (y + 1)) : dY d = y := by
  have ht := beg_top h1 h2
  have hd := date_spec d (by omega) (by omega)
  exact year_unique hd.lo hd.hi a b
/-- Is a day a working day? -/
def workB (l : List Hol) (d : Int) : Bool := decide ((d + 2) % 7 < 5) && !anyB l d
theorem workB_eq {l : List Hol} (hl : HolsOk l) {d : Int} (h0 : 0 ≤ d) (h1 : d ≤ 200000) : worksB l d = workB l d := by
  unfold worksB workB
  have e : (hols l (dY d)).contains d = anyB l d := by
    rw [Bool.eq_iff_iff, anyB_iff hl h0 h1]; simp
  rw [e]
  congr 1
  rw [Bool.eq_iff_iff]; simp; omega
end Go.Proofs.YtoigamkldccnkaaDoor.Cal
