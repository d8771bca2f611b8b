/- Chapter 8 and what it rests on: definitions and walks, part 03. -/
import Derived.Test.YtbegbajlagcbdaaGreatDoorC01
namespace Go.Proofs.YtbegbajlagcbdaaGreatDoor.Cal

def leapB (y : Int) : Bool := decide (y % 4 = 0) && (!decide (y % 100 = 0) || decide (y % 400 = 0))
def lp (y : Int) : Int := if leapB y = true then 1 else 0
def mlen (y m : Int) : Int :=
  if m = 2 then 28 + lp y else if m = 4 ∨ m = 6 ∨ m = 9 ∨ m = 11 then 30 else 31
def beg (y : Int) : Int := 365 * (y - 1800) + (y - 1) / 4 - (y - 1) / 100 + (y - 1) / 400 - 436
/-- The days of a year ahead of a month. -/
def cum (y m : Int) : Int :=
  if m ≤ 1 then 0 else if m = 2 then 31 else if m = 3 then 59 + lp y else if m = 4 then 90 + lp y else if m = 5 then 120 + lp y else if m = 6 then 151 + lp y
  else if m = 7 then 181 + lp y else if m = 8 then 212 + lp y else if m = 9 then 243 + lp y else if m = 10 then 273 + lp y else if m = 11 then 304 + lp y else if m = 12 then 334 + lp y else 365 + lp y
def first (y m : Int) : Int := beg y + cum y m

theorem lp_01 (y : Int) : lp y = 0 ∨ lp y = 1 := by unfold lp; split <;> simp
theorem lp_ge (y : Int) : 0 ≤ lp y := by rcases lp_01 y with h | h <;> omega
theorem lp_le (y : Int) : lp y ≤ 1 := by rcases lp_01 y with h | h <;> omega
theorem lp_eq (y : Int) : lp y = y / 4 - (y - 1) / 4 - (y / 100 - (y - 1) / 100) + (y / 400 - (y - 1) / 400) := by
  unfold lp leapB
  by_cases h4 : y % 4 = 0 <;> by_cases h100 : y % 100 = 0 <;> by_cases h400 : y % 400 = 0 <;> simp [h4, h100, h400] <;> omega
theorem beg_succ (y : Int) : beg (y + 1) = beg y + 365 + lp y := by
  rw [lp_eq]; unfold beg
  have : y + 1 - 1 = y := by omega
  rw [this]; omega
theorem beg_1800 : beg 1800 = 0 := by decide
theorem beg_mono {a b : Int} (h : a ≤ b) : beg a ≤ beg b := by unfold beg; omega
theorem beg_lt {a b : Int} (h : a < b) : beg a + 365 ≤ beg b := by
  have := beg_mono (a := a + 1) (b := b) (by omega)
  have := beg_succ a
  have := lp_ge a
  omega
theorem mlen_bd (y m : Int) : 28 ≤ mlen y m ∧ mlen y m ≤ 31 := by
  have := lp_01 y
  unfold mlen; repeat' split
  all_goals omega
theorem cum_bd (y m : Int) : 0 ≤ cum y m ∧ cum y m ≤ 366 := by
  have := lp_ge y; have := lp_le y
  unfold cum; omega
theorem cum_succ (y m : Int) (h1 : 1 ≤ m) (h2 : m ≤ 12) : cum y (m + 1) = cum y m + mlen y m := by
  have h : m = 1 ∨ m = 2 ∨ m = 3 ∨ m = 4 ∨ m = 5 ∨ m = 6 ∨ m = 7 ∨ m = 8 ∨ m = 9 ∨ m = 10 ∨ m = 11 ∨ m = 12 := by omega
  rcases h with rfl | rfl | rfl | rfl | rfl | rfl | rfl | rfl | rfl | rfl | rfl | rfl <;> simp [cum, mlen] <;> omega
theorem cum_1 (y : Int) : cum y 1 = 0 := rfl
theorem cum_13 (y : Int) : cum y 13 = 365 + lp y := by simp [cum]
theorem cum_mono (y : Int) {m k : Int} (h : m ≤ k) : cum y m ≤ cum y k := by
  have := lp_ge y; have := lp_le y
  unfold cum; omega
theorem first_1 (y : Int) : first y 1 = beg y := by simp [first, cum_1]
theorem first_13 (y : Int) : first y 13 = beg (y + 1) := by simp [first, cum_13, beg_succ]; omega
theorem first_succ (y m : Int) (h1 : 1 ≤ m) (h2 : m ≤ 12) : first y (m + 1) = first y m + mlen y m := by
  unfold first; rw [cum_succ y m h1 h2]; omega
theorem first_le (y : Int) {m k : Int} (h : m ≤ k) : first y m ≤ first y k := by
  unfold first; have := cum_mono y h; omega
theorem first_lo (y m : Int) : beg y ≤ first y m := by unfold first; have := cum_bd y m; omega
theorem first_hi (y m : Int) (h1 : 1 ≤ m) (h2 : m ≤ 12) : first y m + mlen y m ≤ beg (y + 1) := by
  rw [← first_succ y m h1 h2, ← first_13]; exact first_le y (by omega)

/-- y, m, d is the date of a day. -/
structure IsDate (y m d day : Int) : Prop where
  m1 : 1 ≤ m
  m2 : m ≤ 12
  d1 : 1 ≤ d
  d2 : d ≤ mlen y m
  day : first y m + d - 1 = day
theorem IsDate.lo {y m d day : Int} (h : IsDate y m d day) : beg y ≤ day := by
  have := first_lo y m; have := h.day; have := h.d1; omega
theorem IsDate.hi {y m d day : Int} (h : IsDate y m d day) : day < beg (y + 1) := by
  have := first_hi y m h.m1 h.m2; have := h.day; have := h.d2; omega
theorem year_unique {y y' day : Int} (a : beg y ≤ day) (b : day < beg (y + 1)) (a' : beg y' ≤ day) (b' : day < beg (y' + 1)) : y = y' := by
  rcases Int.lt_trichotomy y y' with h | h | h
  · have := beg_mono (a := y + 1) (b := y') (by omega); omega
  · exact h
  · have := beg_mono (a := y' + 1) (b := y) (by omega); omega
theorem month_unique {y m m' day : Int} (a : first y m ≤ day) (b : day < first y (m + 1)) (a' : first y m' ≤ day) (b' : day < first y (m' + 1)) : m = m' := by
  rcases Int.lt_trichotomy m m' with h | h | h
  · have := first_le y (m := m + 1) (k := m') (by omega); omega
  · exact h
  · have := first_le y (m := m' + 1) (k := m) (by omega); omega
theorem IsDate.unique {y m d y' m' d' day : Int} (h : IsDate y m d day) (h' : IsDate y' m' d' day) : y = y' ∧ m = m' ∧ d = d' := by
  obtain rfl := year_unique h.lo h.hi h'.lo h'.hi
  have e1 := h.day; have e2 := h'.day
  have := h.d1; have := h.d2; have := h'.d1; have := h'.d2
  have s1 := first_succ y m h.m1 h.m2
  have s2 := first_succ y m' h'.m1 h'.m2
  obtain rfl := month_unique (y := y) (m := m) (m' := m') (day := day) (by omega) (by omega) (by omega) (by omega)
  exact ⟨rfl, rfl, by omega⟩

/-! The date of a day, as a function. -/
def yearUp : Nat → Int → Int → Int
  | 0, _, y => y
  | n + 1, day, y => if beg (y + 1) ≤ day then yearUp n day (y + 1) else y
def monthUp : Nat → Int → Int → Int → Int
  | 0, _, _, m => m
  | n + 1, day, y, m => if first y (m + 1) ≤ day then monthUp n day y (m + 1) else m
def dY (day : Int) : Int := yearUp 600 day (1800 + day / 366)
def dM (day : Int) : Int := monthUp 12 day (dY day) 1
def dD (day : Int) : Int := day - first (dY day) (dM day) + 1
theorem yearUp_spec (n : Nat) (day y : Int) (a : beg y ≤ day) (b : day < beg (y + n + 1)) : beg (yearUp n day y) ≤ day ∧ day < beg (yearUp n day y + 1) := by
  induction n generalizing y with
  | zero => exact ⟨a, by simpa [yearUp] using b⟩
  | succ n ih =>
    unfold yearUp
    split
    · exact ih (y + 1) (by assumption) (by rw [show y + 1 + (n : Int) + 1 = y + ((n + 1 : Nat) : Int) + 1 by omega]; exact b)
    · exact ⟨a, by omega⟩
theorem monthUp_spec (n : Nat) (day y m : Int) (m1 : 1 ≤ m) (m2 : m + n = 13) (a : first y m ≤ day) (b : day < beg (y + 1)) (hn : 0 < n) :
    first y (monthUp n day y m) ≤ day ∧ day < first y (monthUp n day y m + 1) ∧ 1 ≤ monthUp n day y m ∧ monthUp n day y m ≤ 12 := by
  induction n generalizing m with
  | zero => omega
  | succ n ih =>
    unfold monthUp
    split
    · rename_i h
      rcases Nat.eq_zero_or_pos n with h0 | h0
      · subst h0
        have : m = 12 := by omega
        subst this
        have : first y (12 + 1) = beg (y + 1) := first_13 y
        omega
      · exact ih (m + 1) (by omega) (by omega) (by assumption) h0
    · exact ⟨a, by omega, m1, by omega⟩
theorem beg_guess (day : Int) (h : 0 ≤ day) : beg (1800 + day / 366) ≤ day := by unfold beg; omega
theorem beg_2348 : beg 2348 = 200152 := by decide
theorem year_hi (y day : Int) (h : beg y ≤ day) (h2 : day ≤ 200000) : y ≤ 2347 := by
  apply Classical.byContradiction; intro hn
  have := beg_mono (a := 2348) (b := y) (by omega)
  rw [beg_2348] at this; omega
theorem month_hi (y m day : Int) (hb : day < beg (y + 1)) (hm : m ≤ 12) (h : mlen y m ≤ day - beg y - cum y m) (h1 : 1 ≤ m) : m ≤ 11 := by
  apply Classical.byContradiction; intro hn
  obtain rfl : m = 12 := by omega
  have h13 := first_succ y 12 (by omega) (by omega)
  rw [show (12 : Int) + 1 = 13 from rfl, first_13] at h13
  unfold first at h13; omega
theorem year_lo (day : Int) (h : 0 ≤ day) : 1800 ≤ 1800 + day / 366 := by omega
theorem beg_guess_hi (day : Int) (h : 0 ≤ day) (h2 : day ≤ 210000) : day < beg (1800 + day / 366 + 600 + 1) := by unfold beg; omega
theorem date_spec (day : Int) (h : 0 ≤ day) (h2 : day ≤ 210000) : IsDate (dY day) (dM day) (dD day) day := by
  obtain ⟨a, b⟩ := yearUp_spec 600 day (1800 + day / 366) (beg_guess day h) (beg_guess_hi day h h2)
  obtain ⟨c, d, e, f⟩ := monthUp_spec 12 day (dY day) 1 (by omega) (by omega) (by rw [first_1]; exact a) b (by omega)
  exact ⟨e, f, by unfold dD; have : first (dY day) (dM day) ≤ day := c; omega, by
    have : day < first (dY day) (dM day + 1) := d
    have s := first_succ (dY day) (dM day) e f
    unfold dD; omega, by unfold dD; omega⟩
theorem date_eq {y m d day : Int} (h : IsDate y m d day) (h0 : 0 ≤ day) (h2 : day ≤ 210000) : dY day = y ∧ dM day = m ∧ dD day = d := (date_spec day h0 h2).unique h
theorem date_of (y m day : Int) (h0 : 0 ≤ day) (h2 : day ≤ 200000) (m1 : 1 ≤ m) (m2 : m ≤ 12) (ha : 0 ≤ day - beg y - cum y m) (hb : day - beg y - cum y m < mlen y m) :
    y = dY day ∧ m = dM day ∧ day - beg y - cum y m + 1 = dD day := by
  obtain ⟨a, b, c⟩ := date_eq (y := y) (m := m) (d := day - beg y - cum y m + 1) (day := day) ⟨m1, m2, by omega, by omega, by unfold first; omega⟩ h0 (by omega)
  exact ⟨a.symm, b.symm, c.symm⟩
theorem date_of' (y m day : Int) (h0 : 0 ≤ day) (h2 : day ≤ 200000) (m1 : 1 ≤ m) (m2 : m ≤ 12) (ha : first y m ≤ day) (hb : day < first y (m + 1)) :
    y = dY day ∧ m = dM day ∧ day - first y m + 1 = dD day := by
  rw [first_succ y m m1 m2] at hb
  obtain ⟨a, b, c⟩ := date_eq (y := y) (m := m) (d := day - first y m + 1) (day := day) ⟨m1, m2, by omega, by omega, by omega⟩ h0 (by omega)
  exact ⟨a.symm, b.symm, c.symm⟩
theorem first_bd (y m : Int) (h : 1800 ≤ y) (h2 : y ≤ 3000) : 0 ≤ first y m ∧ first y m ≤ 440000 := by
  have a := beg_mono h
  have b := beg_mono h2
  have c := cum_bd y m
  rw [beg_1800] at a
  have e3 : beg 3000 = 438291 := by decide
  unfold first; omega
theorem dY_bd (day : Int) (h : 0 ≤ day) (h2 : day ≤ 200000) : 1800 ≤ dY day ∧ dY day ≤ 2347 := by
  have hd := date_spec day h (by omega)
  have a := hd.lo; have b := hd.hi
  constructor
  · apply Classical.byContradiction; intro hn
    have := beg_mono (a := dY day + 1) (b := 1800) (by omega)
    rw [beg_1800] at this; omega
  · apply Classical.byContradiction; intro hn
    have := beg_mono (a := 2348) (b := dY day) (by omega)
    have : beg 2348 = 200152 := by decide
    omega

/-! Easter. -/
def eG (y : Int) : Int := (y / 100 - (y / 100 + 8) / 25 + 1) / 3
def eH (y : Int) : Int := (19 * (y % 19) + y / 100 - y / 100 / 4 - eG y + 15) % 30
def eL (y : Int) : Int := (32 + 2 * (y / 100 % 4) + 2 * (y % 100 / 4) - eH y - y % 100 % 4) % 7
def eM (y : Int) : Int := (y % 19 + 11 * eH y + 22 * eL y) / 451
def eN (y : Int) : Int := eH y + eL y - 7 * eM y + 114
def easter (y : Int) : Int := first y (eN y / 31) + eN y % 31
theorem eH_bd (y : Int) : 0 ≤ eH y ∧ eH y ≤ 29 := by unfold eH; omega
theorem eL_bd (y : Int) : 0 ≤ eL y ∧ eL y ≤ 6 := by unfold eL; omega
theorem eM_bd (y : Int) : 0 ≤ eM y ∧ eM y ≤ 1 := by have := eH_bd y; have := eL_bd y; unfold eM; omega
theorem eN_bd (y : Int) : 114 ≤ eN y ∧ eN y ≤ 149 := by
  have := eH_bd y; have := eL_bd y
  have h : eM y = (y % 19 + 11 * eH y + 22 * eL y) / 451 := rfl
  unfold eN; omega
end Go.Proofs.YtbegbajlagcbdaaGreatDoor.Cal
namespace Go.Proofs.YtbegbajlagcbdaaGreatDoor
open Go Go.RowKit

theorem within_any (n lo hi : Int) (w : World) :
    Calls Tryz.prog 134 #[.int .i64 n, .int .i64 lo, .int .i64 hi] w fun e w' => e = .returned (.bool (decide (lo ≤ n) && decide (n ≤ hi))) ∧ w = w' := by
  by_cases h1 : lo ≤ n
  · by_cases h2 : n ≤ hi
    all_goals
      go_enter Tryz.func134, Tryz.ntmps134
      go_wp2
      go_ret
      exact ⟨by simp; omega, rfl⟩
  · go_enter Tryz.func134, Tryz.ntmps134
    go_wp2
    go_ret
    exact ⟨by simp; omega, rfl⟩
theorem Within_any (n lo hi : Int) (w : World) :
    Calls Tryz.prog 59 #[.int .i64 n, .int .i64 lo, .int .i64 hi] w fun e w' => e = .returned (.bool (decide (lo ≤ n) && decide (n ≤ hi))) ∧ w = w' := by
  by_cases h1 : lo ≤ n
  · by_cases h2 : n ≤ hi
    all_goals
      go_enter Tryz.func59, Tryz.ntmps59
      go_wp2
      go_ret
      exact ⟨by simp; omega, rfl⟩
  · go_enter Tryz.func59, Tryz.ntmps59
    go_wp2
    go_ret
    exact ⟨by simp; omega, rfl⟩
theorem isDay_any (n : Int) (w : World) :
    Calls Tryz.prog 133 #[.int .i64 n] w fun e w' => e = .returned (.bool (decide (0 ≤ n) && decide (n ≤ 200000))) ∧ w = w' := by
  go_enter Tryz.func133, Tryz.ntmps133
  go_wp2_with (go_at_call 134; refine (within_any _ _ _ _).mono ?_; rintro e w' ⟨rfl, rfl⟩)
  go_ret
  exact ⟨rfl, rfl⟩
theorem isLeap_any (y : Int) (h0 : 0 ≤ y) (w : World) :
    Calls Tryz.prog 204 #[.int .i64 y] w fun e w' => e = .returned (.bool (Cal.leapB y)) ∧ w = w' := by
  by_cases h1 : y % 4 = 0
  · by_cases h2 : y % 100 = 0
    · by_cases h3 : y % 400 = 0
      all_goals
        go_enter Tryz.func204, Tryz.ntmps204
        go_wp2
        go_ret
        exact ⟨by simp [Cal.leapB, h1, h2, h3], rfl⟩
    · go_enter Tryz.func204, Tryz.ntmps204
      go_wp2
      go_ret
      exact ⟨by simp [Cal.leapB, h1, h2], rfl⟩
  · go_enter Tryz.func204, Tryz.ntmps204
    go_wp2
    go_ret
    exact ⟨by simp [Cal.leapB, h1], rfl⟩
theorem leap_any (y : Int) (h0 : 0 ≤ y) (w : World) :
    Calls Tryz.prog 227 #[.int .i64 y] w fun e w' => e = .returned (.bool (Cal.leapB y)) ∧ w = w' := by
  by_cases h1 : y % 4 = 0
  · by_cases h2 : y % 100 = 0
    · by_cases h3 : y % 400 = 0
      all_goals
        go_enter Tryz.func227, Tryz.ntmps227
        go_wp2
        go_ret
        exact ⟨by simp [Cal.leapB, h1, h2, h3], rfl⟩
    · go_enter Tryz.func227, Tryz.ntmps227
      go_wp2
      go_ret
      exact ⟨by simp [Cal.leapB, h1, h2], rfl⟩
  · by_cases h3 : y % 400 = 0
    · omega
    · go_enter Tryz.func227, Tryz.ntmps227
      go_wp2
      go_ret
      exact ⟨by simp [Cal.leapB, h1, h3], rfl⟩
theorem begin_any (y : Int) (w : World) (h0 : 1 ≤ y) (h1 : y ≤ 100000) :
    Calls Tryz.prog 205 #[.int .i64 y] w fun e w' => e = .returned (.int .i64 (Cal.beg y)) ∧ w = w' := by
  go_enter Tryz.func205, Tryz.ntmps205
  go_wp2
  go_ret
  exact ⟨rfl, rfl⟩
theorem length_any (y m : Int) (h0 : 0 ≤ y) (m1 : 1 ≤ m) (m2 : m ≤ 12) (w : World) (hT : Tab w) :
    Calls Tryz.prog 137 #[.int .i64 y, .int .i64 m] w fun e w' => e = .returned (.int .i64 (Cal.mlen y m)) ∧ w = w' := by
  have h : m = 1 ∨ m = 2 ∨ m = 3 ∨ m = 4 ∨ m = 5 ∨ m = 6 ∨ m = 7 ∨ m = 8 ∨ m = 9 ∨ m = 10 ∨ m = 11 ∨ m = 12 := by omega
  have hc := hT.cell
  have c0 := hc 0 (by decide); have c1 := hc 1 (by decide); have c2 := hc 2 (by decide); have c3 := hc 3 (by decide)
  have c4 := hc 4 (by decide); have c5 := hc 5 (by decide); have c6 := hc 6 (by decide); have c7 := hc 7 (by decide)
  have c8 := hc 8 (by decide); have c9 := hc 9 (by decide); have c10 := hc 10 (by decide); have c11 := hc 11 (by decide)
  simp only [lenTab, List.getD_cons_zero, List.getD_cons_succ] at c0 c1 c2 c3 c4 c5 c6 c7 c8 c9 c10 c11
  clear hc hT m1 m2
  rcases h with rfl | rfl | rfl | rfl | rfl | rfl | rfl | rfl | rfl | rfl | rfl | rfl
  case inr.inl =>
    cases hl : Cal.leapB y
    all_goals
      go_enter Tryz.func137, Tryz.ntmps137
      go_wp2_with (go_at_call 204; refine (isLeap_any _ (by omega) _).mono ?_; rintro e w' ⟨rfl, rfl⟩)
      go_ret
      exact ⟨by simp [Cal.mlen, Cal.lp, hl], rfl⟩
  all_goals
    go_enter Tryz.func137, Tryz.ntmps137
    go_wp2_with fail
    go_ret
    exact ⟨by simp [Cal.mlen], rfl⟩
end Go.Proofs.YtbegbajlagcbdaaGreatDoor
namespace Go.Proofs.YtbegbajlagcbdaaGreatDoor
open Go Go.RowKit


theorem dayOf_any (y m d : Int) (y0 : 1800 ≤ y) (y1 : y ≤ 3000) (m1 : 1 ≤ m) (m2 : m ≤ 12) (d0 : -100000 ≤ d) (d1 : d ≤ 100000) (w : World) (hT : Tab w) :
    Calls Tryz.prog 138 #[.int .i64 y, .int .i64 m, .int .i64 d] w fun e w' => e = .returned (.int .i64 (Cal.first y m + d - 1)) ∧ w = w' := by
  have hb := Cal.beg_mono y0
  have hb2 := Cal.beg_mono y1
  rw [Cal.beg_1800] at hb
  have e3 : Cal.beg 3000 = 438291 := by decide
  rw [e3] at hb2
  clear e3
  have hT' := Lib.hid hT; clear hT
  go_enter Tryz.func138, Tryz.ntmps138
  go_wp2_with (go_at_call 205; refine (begin_any _ _ (by omega) (by omega)).mono ?_; rintro e w' ⟨rfl, rfl⟩)
  go_loop [7, 8] (fun n i => ∃ k : Int, 1 ≤ k ∧ k ≤ m ∧ i = .int .i64 k ∧ n = .int .i64 (Cal.beg y + d - 1 + Cal.cum y k)) (fun _ i => (m - intOf i).toNat)
  case atStart => exact ⟨1, by omega, by omega, rfl, by simp [Cal.cum_1]⟩
  case round =>
    obtain ⟨k, k1, k2, rfl, rfl⟩ := hrel
    have cb := Cal.cum_bd y k
    by_cases hlt : k < m
    · have cs := Lib.hid (Cal.cum_succ y k (by omega) (by omega))
      have mb := Cal.mlen_bd y k
      go_wp2_with (go_at_call 137; refine (length_any _ _ (by omega) (by omega) (by omega) _ hT'.out).mono ?_; rintro e w' ⟨rfl, rfl⟩)
      go_round
      case rel => exact ⟨k + 1, by omega, by omega, rfl, by rw [cs.out]; go_num⟩
      case measure => simp [intOf]; omega
    · obtain rfl : k = m := by omega
      go_wp2
      go_ret
      exact ⟨ret_int (by unfold Cal.first; omega), rfl⟩

set_option maxHeartbeats 400000 in
theorem dateOf_any (day : Int) (y0 : 0 ≤ day) (y1 : day ≤ 200000) (w : World) (hT : Tab w) :
    Calls Tryz.prog 238 #[.int .i64 day] w fun e w' => e = .returned (.agg #[.int .i64 (Cal.dY day), .int .i64 (Cal.dM day), .int .i64 (Cal.dD day)]) ∧ Below w.heap.size w w' := by
  have hT' := Lib.hid hT; clear hT
  have g0 := Cal.beg_guess day y0
  have g1 := Cal.year_lo day y0
  go_enter Tryz.func238, Tryz.ntmps238
  go_wp2
  go_loopg [] 600 (fun k wr => ∃ y : Int, 1800 ≤ y ∧ y + k ≤ 3000 ∧ 2348 ≤ y + k ∧ Cal.beg y ≤ day ∧ wr = (w.alloc (.cells #[.int .i64 0, .int .i64 0, .int .i64 0] 156)).alloc (.cells #[.int .i64 y, .int .i64 1, .int .i64 0] 156))
  case atStart => exact ⟨_, g1, by omega, by omega, g0, rfl⟩
  case round =>
    obtain ⟨y, hy, hk, hk2, hb, rfl⟩ := hrel
    clear g0 g1
    have hyh := Cal.year_hi y day hb y1
    have hb0 := Cal.beg_mono hy
    rw [Cal.beg_1800] at hb0
    have hbs := Cal.beg_lt (a := y) (b := y + 1) (by omega)
    by_cases hlt : Cal.beg (y + 1) ≤ day
    · have hyh2 := Cal.year_hi (y + 1) day hlt y1
      go_wp2_with (go_at_call 205; refine (begin_any _ _ (by omega) (by omega)).mono ?_; rintro e w' ⟨rfl, rfl⟩)
      go_roundg (gk - 1)
      case measure => omega
      case rel => exact ⟨y + 1, by omega, by omega, by omega, hlt, rfl⟩
    · have hT2 := Lib.hid (fun o1 o2 => hT'.out.below (((Below.refl _ w).alloc (Nat.le_refl _) o1).alloc (by simp) o2))
      go_wp2_with (go_at_call 205; refine (begin_any _ _ (by omega) (by omega)).mono ?_; rintro e w' ⟨rfl, rfl⟩)
      go_loopg [0] 12 (fun k v wr => ∃ m : Int, 1 ≤ m ∧ m ≤ 12 ∧ m + k = 13 ∧ 0 ≤ day - Cal.beg y - Cal.cum y m ∧ v = .int .i64 (day - Cal.beg y - Cal.cum y m) ∧ wr = (w.alloc (.cells #[.int .i64 0, .int .i64 0, .int .i64 0] 156)).alloc (.cells #[.int .i64 y, .int .i64 m, .int .i64 0] 156))
      case atStart => exact ⟨1, by omega, by omega, by omega, by rw [Cal.cum_1]; omega, by rw [Cal.cum_1]; simp, rfl⟩
      case round =>
        obtain ⟨m, m1, m2, mk, hr, rfl, rfl⟩ := hrel
        have hcb := Cal.cum_bd y m
        have hmb := Cal.mlen_bd y m
        have mk2 := Lib.hid mk
        clear mk
        by_cases hge : Cal.mlen y m ≤ day - Cal.beg y - Cal.cum y m
        · have hm11 := Cal.month_hi y m day (by omega) m2 hge m1
          have hcs := Lib.hid (Cal.cum_succ y m m1 m2)
          go_wp2_with (go_at_call 137; refine (length_any _ _ (by omega) m1 m2 _ (hT2.out _ _)).mono ?_; rintro e w' ⟨rfl, rfl⟩)
          go_roundg (gk - 1)
          case measure => have := mk2.out; omega
          case rel => exact ⟨m + 1, by omega, by omega, by have := mk2.out; omega, by rw [hcs.out]; omega, by rw [hcs.out]; go_num, rfl⟩
        · obtain ⟨ey, em, ed⟩ := Cal.date_of y m day y0 y1 m1 m2 hr (by omega)
          have hfin := Lib.hid (And.intro ey (And.intro em ed))
          clear ey em ed
          go_wp2_with (go_at_call 137; refine (length_any _ _ (by omega) m1 m2 _ (hT2.out _ _)).mono ?_; rintro e w' ⟨rfl, rfl⟩)
          refine bodyPost_ret (v := .agg #[.int .i64 y, .int .i64 m, .int .i64 (day - Cal.beg y - Cal.cum y m + 1)]) (by simp [results, Tryz.results238, go_sem]) rfl ⟨?_, ?_⟩
          · obtain ⟨ey, em, ed⟩ := hfin.out
            rw [ey, em] at ed ⊢; rw [ed]
          · exact ((Below.refl _ _).alloc (Nat.le_refl _) _).alloc (by simp) _
end Go.Proofs.YtbegbajlagcbdaaGreatDoor
namespace Go.Proofs.YtbegbajlagcbdaaGreatDoor
open Go Go.RowKit

theorem refTab_1 (w : World) : (Instr.index 291 (.agg #[.int .i64 0, .int .i64 31, .int .i64 28, .int .i64 31, .int .i64 30, .int .i64 31, .int .i64 30, .int .i64 31, .int .i64 31, .int .i64 30, .int .i64 31, .int .i64 30, .int .i64 31]) (.int .i64 1)).run Tryz.prog w = .ok (.int .i64 31) w := by kernel_rfl
theorem refTab_2 (w : World) : (Instr.index 291 (.agg #[.int .i64 0, .int .i64 31, .int .i64 28, .int .i64 31, .int .i64 30, .int .i64 31, .int .i64 30, .int .i64 31, .int .i64 31, .int .i64 30, .int .i64 31, .int .i64 30, .int .i64 31]) (.int .i64 2)).run Tryz.prog w = .ok (.int .i64 28) w := by kernel_rfl
theorem refTab_3 (w : World) : (Instr.index 291 (.agg #[.int .i64 0, .int .i64 31, .int .i64 28, .int .i64 31, .int .i64 30, .int .i64 31, .int .i64 30, .int .i64 31, .int .i64 31, .int .i64 30, .int .i64 31, .int .i64 30, .int .i64 31]) (.int .i64 3)).run Tryz.prog w = .ok (.int .i64 31) w := by kernel_rfl
theorem refTab_4 (w : World) : (Instr.index 291 (.agg #[.int .i64 0, .int .i64 31, .int .i64 28, .int .i64 31, .int .i64 30, .int .i64 31, .int .i64 30, .int .i64 31, .int .i64 31, .int .i64 30, .int .i64 31, .int .i64 30, .int .i64 31]) (.int .i64 4)).run Tryz.prog w = .ok (.int .i64 30) w := by kernel_rfl
theorem refTab_5 (w : World) : (Instr.index 291 (.agg #[.int .i64 0, .int .i64 31, .int .i64 28, .int .i64 31, .int .i64 30, .int .i64 31, .int .i64 30, .int .i64 31, .int .i64 31, .int .i64 30, .int .i64 31, .int .i64 30, .int .i64 31]) (.int .i64 5)).run Tryz.prog w = .ok (.int .i64 31) w := by kernel_rfl
theorem refTab_6 (w : World) : (Instr.index 291 (.agg #[.int .i64 0, .int .i64 31, .int .i64 28, .int .i64 31, .int .i64 30, .int .i64 31, .int .i64 30, .int .i64 31, .int .i64 31, .int .i64 30, .int .i64 31, .int .i64 30, .int .i64 31]) (.int .i64 6)).run Tryz.prog w = .ok (.int .i64 30) w := by kernel_rfl
theorem refTab_7 (w : World) : (Instr.index 291 (.agg #[.int .i64 0, .int .i64 31, .int .i64 28, .int .i64 31, .int .i64 30, .int .i64 31, .int .i64 30, .int .i64 31, .int .i64 31, .int .i64 30, .int .i64 31, .int .i64 30, .int .i64 31]) (.int .i64 7)).run Tryz.prog w = .ok (.int .i64 31) w := by kernel_rfl
theorem refTab_8 (w : World) : (Instr.index 291 (.agg #[.int .i64 0, .int .i64 31, .int .i64 28, .int .i64 31, .int .i64 30, .int .i64 31, .int .i64 30, .int .i64 31, .int .i64 31, .int .i64 30, .int .i64 31, .int .i64 30, .int .i64 31]) (.int .i64 8)).run Tryz.prog w = .ok (.int .i64 31) w := by kernel_rfl
theorem refTab_9 (w : World) : (Instr.index 291 (.agg #[.int .i64 0, .int .i64 31, .int .i64 28, .int .i64 31, .int .i64 30, .int .i64 31, .int .i64 30, .int .i64 31, .int .i64 31, .int .i64 30, .int .i64 31, .int .i64 30, .int .i64 31]) (.int .i64 9)).run Tryz.prog w = .ok (.int .i64 30) w := by kernel_rfl
theorem refTab_10 (w : World) : (Instr.index 291 (.agg #[.int .i64 0, .int .i64 31, .int .i64 28, .int .i64 31, .int .i64 30, .int .i64 31, .int .i64 30, .int .i64 31, .int .i64 31, .int .i64 30, .int .i64 31, .int .i64 30, .int .i64 31]) (.int .i64 10)).run Tryz.prog w = .ok (.int .i64 31) w := by kernel_rfl
theorem refTab_11 (w : World) : (Instr.index 291 (.agg #[.int .i64 0, .int .i64 31, .int .i64 28, .int .i64 31, .int .i64 30, .int .i64 31, .int .i64 30, .int .i64 31, .int .i64 31, .int .i64 30, .int .i64 31, .int .i64 30, .int .i64 31]) (.int .i64 11)).run Tryz.prog w = .ok (.int .i64 30) w := by kernel_rfl
theorem refTab_12 (w : World) : (Instr.index 291 (.agg #[.int .i64 0, .int .i64 31, .int .i64 28, .int .i64 31, .int .i64 30, .int .i64 31, .int .i64 30, .int .i64 31, .int .i64 31, .int .i64 30, .int .i64 31, .int .i64 30, .int .i64 31]) (.int .i64 12)).run Tryz.prog w = .ok (.int .i64 31) w := by kernel_rfl
set_option maxRecDepth 100000 in
set_option maxHeartbeats 2000000 in
theorem MonthDays_any (y m : Int) (h0 : 0 ≤ y) (m1 : 1 ≤ m) (m2 : m ≤ 12) (w : World) :
    Calls Tryz.prog 180 #[.int .i64 y, .int .i64 m] w fun e w' => e = .returned (.int .i64 (Cal.mlen y m)) ∧ w = w' := by
  have h : m = 1 ∨ m = 2 ∨ m = 3 ∨ m = 4 ∨ m = 5 ∨ m = 6 ∨ m = 7 ∨ m = 8 ∨ m = 9 ∨ m = 10 ∨ m = 11 ∨ m = 12 := by omega
  clear m1 m2
  rcases h with rfl | rfl | rfl | rfl | rfl | rfl | rfl | rfl | rfl | rfl | rfl | rfl
  case inr.inl =>
    have i := refTab_2 w
    cases hl : Cal.leapB y
    all_goals
      go_enter Tryz.func180, Tryz.ntmps180
      go_wp2_with (go_at_call 227; refine (leap_any _ (by omega) _).mono ?_; rintro e w' ⟨rfl, rfl⟩)
      go_ret
      exact ⟨by simp [Cal.mlen, Cal.lp, hl], rfl⟩
  case inl =>
    have i := refTab_1 w
    go_enter Tryz.func180, Tryz.ntmps180
    go_wp2_with fail
    go_ret
    exact ⟨by simp [Cal.mlen], rfl⟩
  case inr.inr.inl =>
    have i := refTab_3 w
    go_enter Tryz.func180, Tryz.ntmps180
    go_wp2_with fail
    go_ret
    exact ⟨by simp [Cal.mlen], rfl⟩
  case inr.inr.inr.inl =>
    have i := refTab_4 w
    go_enter Tryz.func180, Tryz.ntmps180
    go_wp2_with fail
    go_ret
    exact ⟨by simp [Cal.mlen], rfl⟩
  case inr.inr.inr.inr.inl =>
    have i := refTab_5 w
    go_enter Tryz.func180, Tryz.ntmps180
    go_wp2_with fail
    go_ret
    exact ⟨by simp [Cal.mlen], rfl⟩
  case inr.inr.inr.inr.inr.inl =>
    have i := refTab_6 w
    go_enter Tryz.func180, Tryz.ntmps180
    go_wp2_with fail
    go_ret
    exact ⟨by simp [Cal.mlen], rfl⟩
  case inr.inr.inr.inr.inr.inr.inl =>
    have i := refTab_7 w
    go_enter Tryz.func180, Tryz.ntmps180
    go_wp2_with fail
    go_ret
    exact ⟨by simp [Cal.mlen], rfl⟩
  case inr.inr.inr.inr.inr.inr.inr.inl =>
    have i := refTab_8 w
    go_enter Tryz.func180, Tryz.ntmps180
    go_wp2_with fail
    go_ret
    exact ⟨by simp [Cal.mlen], rfl⟩
  case inr.inr.inr.inr.inr.inr.inr.inr.inl =>
    have i := refTab_9 w
    go_enter Tryz.func180, Tryz.ntmps180
    go_wp2_with fail
    go_ret
    exact ⟨by simp [Cal.mlen], rfl⟩
  case inr.inr.inr.inr.inr.inr.inr.inr.inr.inl =>
    have i := refTab_10 w
    go_enter Tryz.func180, Tryz.ntmps180
    go_wp2_with fail
    go_ret
    exact ⟨by simp [Cal.mlen], rfl⟩
  case inr.inr.inr.inr.inr.inr.inr.inr.inr.inr.inl =>
    have i := refTab_11 w
    go_enter Tryz.func180, Tryz.ntmps180
    go_wp2_with fail
    go_ret
    exact ⟨by simp [Cal.mlen], rfl⟩
  case inr.inr.inr.inr.inr.inr.inr.inr.inr.inr.inr =>
    have i := refTab_12 w
    go_enter Tryz.func180, Tryz.ntmps180
    go_wp2_with fail
    go_ret
    exact ⟨by simp [Cal.mlen], rfl⟩

theorem leaps_any (y : Int) (h0 : 0 ≤ y) (h1 : y ≤ 100000) (w : World) :
    Calls Tryz.prog 226 #[.int .i64 y] w fun e w' => e = .returned (.int .i64 (y / 4 - y / 100 + y / 400)) ∧ w = w' := by
  go_enter Tryz.func226, Tryz.ntmps226
  go_wp2
  go_ret
  exact ⟨rfl, rfl⟩
theorem First_any (y m : Int) (y0 : 1800 ≤ y) (y1 : y ≤ 3000) (m1 : 1 ≤ m) (m2 : m ≤ 12) (w : World) :
    Calls Tryz.prog 179 #[.int .i64 y, .int .i64 m] w fun e w' => e = .returned (.int .i64 (Cal.first y m)) ∧ w = w' := by
  have hb := Cal.beg_mono y0
  have hb2 := Cal.beg_mono y1
  rw [Cal.beg_1800] at hb
  have e3 : Cal.beg 3000 = 438291 := by decide
  rw [e3] at hb2
  clear e3
  have hu : Hid (365 * (y - 1800) + ((y - 1) / 4 - (y - 1) / 100 + (y - 1) / 400) - 436 = Cal.beg y) := by show _ = _; unfold Cal.beg; omega
  go_enter Tryz.func179, Tryz.ntmps179
  go_wp2_with (go_at_call 226; refine (leaps_any _ (by omega) (by omega) _).mono ?_; rintro e w' ⟨rfl, rfl⟩)
  go_loop [5, 6] (fun n i => ∃ k : Int, 1 ≤ k ∧ k ≤ m ∧ i = .int .i64 k ∧ n = .int .i64 (Cal.beg y + Cal.cum y k)) (fun _ i => (m - intOf i).toNat)
  case atStart => exact ⟨1, by omega, by omega, rfl, by rw [Cal.cum_1]; simp; rw [← hu.out]; try omega⟩
  case round =>
    obtain ⟨k, k1, k2, rfl, rfl⟩ := hrel
    have cb := Cal.cum_bd y k
    by_cases hlt : k < m
    · have cs := Lib.hid (Cal.cum_succ y k (by omega) (by omega))
      have mb := Cal.mlen_bd y k
      go_wp2_with (go_at_call 180; refine (MonthDays_any _ _ (by omega) (by omega) (by omega) _).mono ?_; rintro e w' ⟨rfl, rfl⟩)
      go_round
      case rel => exact ⟨k + 1, by omega, by omega, rfl, by rw [cs.out]; go_num⟩
      case measure => simp [intOf]; omega
    · obtain rfl : k = m := by omega
      go_wp2
      go_ret
      exact ⟨rfl, rfl⟩
set_option maxHeartbeats 400000 in
theorem DateOf_any (day : Int) (y0 : 0 ≤ day) (y1 : day ≤ 200000) (w : World) :
    Calls Tryz.prog 175 #[.int .i64 day] w fun e w' => e = .returned (.agg #[.int .i64 (Cal.dY day), .int .i64 (Cal.dM day), .int .i64 (Cal.dD day)]) ∧ Below w.heap.size w w' := by
  have g0 := Cal.beg_guess day y0
  have g1 := Cal.year_lo day y0
  go_enter Tryz.func175, Tryz.ntmps175
  go_wp2
  go_loopg [] 600 (fun k wr => ∃ y : Int, 1800 ≤ y ∧ y + k ≤ 3000 ∧ 2348 ≤ y + k ∧ Cal.beg y ≤ day ∧ wr = (w.alloc (.cells #[.int .i64 0, .int .i64 0, .int .i64 0] 156)).alloc (.cells #[.int .i64 y, .int .i64 1, .int .i64 0] 156))
  case atStart => exact ⟨_, g1, by omega, by omega, g0, rfl⟩
  case round =>
    obtain ⟨y, hy, hk, hk2, hb, rfl⟩ := hrel
    clear g0 g1
    have hyh := Cal.year_hi y day hb y1
    have hb0 := Cal.beg_mono hy
    rw [Cal.beg_1800] at hb0
    have hbs := Cal.beg_lt (a := y) (b := y + 1) (by omega)
    by_cases hlt : Cal.beg (y + 1) ≤ day
    · have hyh2 := Cal.year_hi (y + 1) day hlt y1
      have hf : Cal.first (y + 1) 1 ≤ day := by rw [Cal.first_1]; exact hlt
      go_wp2_with (go_at_call 179; refine (First_any _ _ (by omega) (by omega) (by omega) (by omega) _).mono ?_; rintro e w' ⟨rfl, rfl⟩)
      go_roundg (gk - 1)
      case measure => omega
      case rel => exact ⟨y + 1, by omega, by omega, by omega, hlt, rfl⟩
    · have hf : ¬ Cal.first (y + 1) 1 ≤ day := by rw [Cal.first_1]; exact hlt
      go_wp2_with (go_at_call 179; refine (First_any _ _ (by omega) (by omega) (by omega) (by omega) _).mono ?_; rintro e w' ⟨rfl, rfl⟩)
      have hb1 : day < Cal.beg (y + 1) := by omega
      clear hf hlt
      have hf1 : Cal.first y 1 ≤ day := by rw [Cal.first_1]; exact hb
      go_loopg [] 12 (fun k wr => ∃ m : Int, 1 ≤ m ∧ m ≤ 12 ∧ m + k = 13 ∧ Cal.first y m ≤ day ∧ wr = (w.alloc (.cells #[.int .i64 0, .int .i64 0, .int .i64 0] 156)).alloc (.cells #[.int .i64 y, .int .i64 m, .int .i64 0] 156))
      case atStart => exact ⟨1, by omega, by omega, by omega, hf1, rfl⟩
      case round =>
        obtain ⟨m, m1, m2, mk, hr, rfl⟩ := hrel
        clear hf1
        have mk2 := Lib.hid mk
        clear mk
        by_cases hm : m < 12
        · by_cases hge : Cal.first y (m + 1) ≤ day
          · go_wp2_with (go_at_call 179; refine (First_any _ _ (by omega) (by omega) (by omega) (by omega) _).mono ?_; rintro e w' ⟨rfl, rfl⟩)
            go_roundg (gk - 1)
            case measure => have := mk2.out; omega
            case rel => exact ⟨m + 1, by omega, by omega, by have := mk2.out; omega, hge, rfl⟩
          · obtain ⟨ey, em, ed⟩ := Cal.date_of' y m day y0 y1 m1 m2 hr (by omega)
            have hfin := Lib.hid (And.intro ey (And.intro em ed))
            clear ey em ed
            have hfl := Cal.first_bd y m hy (by omega)
            go_wp2_with (go_at_call 179; refine (First_any _ _ (by omega) (by omega) (by omega) (by omega) _).mono ?_; rintro e w' ⟨rfl, rfl⟩)
            refine bodyPost_ret (v := .agg #[.int .i64 y, .int .i64 m, .int .i64 (day - Cal.first y m + 1)]) (by simp [results, Tryz.results175, go_sem]) rfl ⟨?_, ?_⟩
            · obtain ⟨ey, em, ed⟩ := hfin.out
              rw [ey, em] at ed ⊢; rw [ed]
            · exact ((Below.refl _ _).alloc (Nat.le_refl _) _).alloc (by simp) _
        · obtain ⟨ey, em, ed⟩ := Cal.date_of' y m day y0 y1 m1 m2 hr (by
            obtain rfl : m = 12 := by omega
            rw [show (12 : Int) + 1 = 13 from rfl, Cal.first_13]; exact hb1)
          have hfin := Lib.hid (And.intro ey (And.intro em ed))
          clear ey em ed
          have hfl := Cal.first_bd y m hy (by omega)
          go_wp2_with (go_at_call 179; refine (First_any _ _ (by omega) (by omega) (by omega) (by omega) _).mono ?_; rintro e w' ⟨rfl, rfl⟩)
          refine bodyPost_ret (v := .agg #[.int .i64 y, .int .i64 m, .int .i64 (day - Cal.first y m + 1)]) (by simp [results, Tryz.results175, go_sem]) rfl ⟨?_, ?_⟩
          · obtain ⟨ey, em, ed⟩ := hfin.out
            rw [ey, em] at ed ⊢; rw [ed]
          · exact ((Below.refl _ _).alloc (Nat.le_refl _) _).alloc (by simp) _
end Go.Proofs.YtbegbajlagcbdaaGreatDoor
