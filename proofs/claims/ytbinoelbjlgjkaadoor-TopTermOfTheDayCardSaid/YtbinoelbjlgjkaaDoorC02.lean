/- Chapter 8 and what it rests on: definitions and walks, part 02. -/
import Derived.Test.YtbinoelbjlgjkaaDoorC01
namespace Go.Proofs.YtbinoelbjlgjkaaDoor.Cal

def leapB (y : Int) : Bool := decide (y % 4 = 0) && (!decide (y % 100 = 0) || decide (y % 400 = 0))
def lp (y : Int) : Int := if leapB y = true then 1 else 0
def mlen (y m : Int) : Int :=
  if m = 2 then 28 + lp y else if m = 4 ∨ m = 6 ∨ m = 9 ∨ m = 11 then 30 else 31
def beg (y : Int) : Int := 365 * (y - 1800) + (y - 1) / 4 - (y - 1) / 100 + (y - 1) / 400 - 436
/-- The days of a year ahead of a month. -/
def cum (y m : Int) : Int :=
  if m ≤ 1 then 0 else if m = 2 then 31 else if m = 3 then 59 + lp y else if m = 4 then 90 + lp y else if m = 5 then 120 + lp y else if m = 6 then 151 + lp y
  else if m = 7 then 181 + lp y else if m = 8 then 212 + lp y else if m = 9 then 243 + lp y else if m = 10 then 273 + lp y else if m = 11 then 304 + lp y else if m = 12 then 334 + lp y else 365 + lp y
def first (y m : Int) : Int := beg y + cum y m

theorem lp_01 (y : Int) : lp y = 0 ∨ lp y = 1 := by unfold lp; split <;> simp
theorem lp_ge (y : Int) : 0 ≤ lp y := by rcases lp_01 y with h | h <;> omega
theorem lp_le (y : Int) : lp y ≤ 1 := by rcases lp_01 y with h | h <;> omega
theorem lp_eq (y : Int) : lp y = y / 4 - (y - 1) / 4 - (y / 100 - (y - 1) / 100) + (y / 400 - (y - 1) / 400) := by
  unfold lp leapB
  by_cases h4 : y % 4 = 0 <;> by_cases h100 : y % 100 = 0 <;> by_cases h400 : y % 400 = 0 <;> simp [h4, h100, h400] <;> omega
theorem beg_succ (y : Int) : beg (y + 1) = beg y + 365 + lp y := by
  rw [lp_eq]; unfold beg
  have : y + 1 - 1 = y := by omega
  rw [this]; omega
theorem beg_1800 : beg 1800 = 0 := by decide
theorem beg_mono {a b : Int} (h : a ≤ b) : beg a ≤ beg b := by unfold beg; omega
theorem beg_lt {a b : Int} (h : a < b) : beg a + 365 ≤ beg b := by
  have := beg_mono (a := a + 1) (b := b) (by omega)
  have := beg_succ a
  have := lp_ge a
  omega
theorem mlen_bd (y m : Int) : 28 ≤ mlen y m ∧ mlen y m ≤ 31 := by
  have := lp_01 y
  unfold mlen; repeat' split
  all_goals omega
theorem cum_bd (y m : Int) : 0 ≤ cum y m ∧ cum y m ≤ 366 := by
  have := lp_ge y; have := lp_le y
  unfold cum; omega
theorem cum_succ (y m : Int) (h1 : 1 ≤ m) (h2 : m ≤ 12) : cum y (m + 1) = cum y m + mlen y m := by
  have h : m = 1 ∨ m = 2 ∨ m = 3 ∨ m = 4 ∨ m = 5 ∨ m = 6 ∨ m = 7 ∨ m = 8 ∨ m = 9 ∨ m = 10 ∨ m = 11 ∨ m = 12 := by omega
  rcases h with rfl | rfl | rfl | rfl | rfl | rfl | rfl | rfl | rfl | rfl | rfl | rfl <;> simp [cum, mlen] <;> omega
theorem cum_1 (y : Int) : cum y 1 = 0 := rfl
theorem cum_13 (y : Int) : cum y 13 = 365 + lp y := by simp [cum]
theorem cum_mono (y : Int) {m k : Int} (h : m ≤ k) : cum y m ≤ cum y k := by
  have := lp_ge y; have := lp_le y
  unfold cum; omega
theorem first_1 (y : Int) : first y 1 = beg y := by simp [first, cum_1]
theorem first_13 (y : Int) : first y 13 = beg (y + 1) := by simp [first, cum_13, beg_succ]; omega
theorem first_succ (y m : Int) (h1 : 1 ≤ m) (h2 : m ≤ 12) : first y (m + 1) = first y m + mlen y m := by
  unfold first; rw [cum_succ y m h1 h2]; omega
theorem first_le (y : Int) {m k : Int} (h : m ≤ k) : first y m ≤ first y k := by
  unfold first; have := cum_mono y h; omega
theorem first_lo (y m : Int) : beg y ≤ first y m := by unfold first; have := cum_bd y m; omega
theorem first_hi (y m : Int) (h1 : 1 ≤ m) (h2 : m ≤ 12) : first y m + mlen y m ≤ beg (y + 1) := by
  rw [← first_succ y m h1 h2, ← first_13]; exact first_le y (by omega)

/-- y, m, d is the date of a day. -/
structure IsDate (y m d day : Int) : Prop where
  m1 : 1 ≤ m
  m2 : m ≤ 12
  d1 : 1 ≤ d
  d2 : d ≤ mlen y m
  day : first y m + d - 1 = day
theorem IsDate.lo {y m d day : Int} (h : IsDate y m d day) : beg y ≤ day := by
  have := first_lo y m; have := h.day; have := h.d1; omega
theorem IsDate.hi {y m d day : Int} (h : IsDate y m d day) : day < beg (y + 1) := by
  have := first_hi y m h.m1 h.m2; have := h.day; have := h.d2; omega
theorem year_unique {y y' day : Int} (a : beg y ≤ day) (b : day < beg (y + 1)) (a' : beg y' ≤ day) (b' : day < beg (y' + 1)) : y = y' := by
  rcases Int.lt_trichotomy y y' with h | h | h
  · have := beg_mono (a := y + 1) (b := y') (by omega); omega
  · exact h
  · have := beg_mono (a := y' + 1) (b := y) (by omega); omega
theorem month_unique {y m m' day : Int} (a : first y m ≤ day) (b : day < first y (m + 1)) (a' : first y m' ≤ day) (b' : day < first y (m' + 1)) : m = m' := by
  rcases Int.lt_trichotomy m m' with h | h | h
  · have := first_le y (m := m + 1) (k := m') (by omega); omega
  · exact h
  · have := first_le y (m := m' + 1) (k := m) (by omega); omega
theorem IsDate.unique {y m d y' m' d' day : Int} (h : IsDate y m d day) (h' : IsDate y' m' d' day) : y = y' ∧ m = m' ∧ d = d' := by
  obtain rfl := year_unique h.lo h.hi h'.lo h'.hi
  have e1 := h.day; have e2 := h'.day
  have := h.d1; have := h.d2; have := h'.d1; have := h'.d2
  have s1 := first_succ y m h.m1 h.m2
  have s2 := first_succ y m' h'.m1 h'.m2
  obtain rfl := month_unique (y := y) (m := m) (m' := m') (day := day) (by omega) (by omega) (by omega) (by omega)
  exact ⟨rfl, rfl, by omega⟩

/-! The date of a day, as a function. -/
def yearUp : Nat → Int → Int → Int
  | 0, _, y => y
  | n + 1, day, y => if beg (y + 1) ≤ day then yearUp n day (y + 1) else y
def monthUp : Nat → Int → Int → Int → Int
  | 0, _, _, m => m
  | n + 1, day, y, m => if first y (m + 1) ≤ day then monthUp n day y (m + 1) else m
def dY (day : Int) : Int := yearUp 600 day (1800 + day / 366)
def dM (day : Int) : Int := monthUp 12 day (dY day) 1
def dD (day : Int) : Int := day - first (dY day) (dM day) + 1
theorem yearUp_spec (n : Nat) (day y : Int) (a : beg y ≤ day) (b : day < beg (y + n + 1)) : beg (yearUp n day y) ≤ day ∧ day < beg (yearUp n day y + 1) := by
  induction n generalizing y with
  | zero => exact ⟨a, by simpa [yearUp] using b⟩
  | succ n ih =>
    unfold yearUp
    split
    · exact ih (y + 1) (by assumption) (by rw [show y + 1 + (n : Int) + 1 = y + ((n + 1 : Nat) : Int) + 1 by omega]; exact b)
    · exact ⟨a, by omega⟩
theorem monthUp_spec (n : Nat) (day y m : Int) (m1 : 1 ≤ m) (m2 : m + n = 13) (a : first y m ≤ day) (b : day < beg (y + 1)) (hn : 0 < n) :
    first y (monthUp n day y m) ≤ day ∧ day < first y (monthUp n day y m + 1) ∧ 1 ≤ monthUp n day y m ∧ monthUp n day y m ≤ 12 := by
  induction n generalizing m with
  | zero => omega
  | succ n ih =>
    unfold monthUp
    split
    · rename_i h
      rcases Nat.eq_zero_or_pos n with h0 | h0
      · subst h0
        have : m = 12 := by omega
        subst this
        have : first y (12 + 1) = beg (y + 1) := first_13 y
        omega
      · exact ih (m + 1) (by omega) (by omega) (by assumption) h0
    · exact ⟨a, by omega, m1, by omega⟩
theorem beg_guess (day : Int) (h : 0 ≤ day) : beg (1800 + day / 366) ≤ day := by unfold beg; omega
theorem beg_2348 : beg 2348 = 200152 := by decide
theorem year_hi (y day : Int) (h : beg y ≤ day) (h2 : day ≤ 200000) : y ≤ 2347 := by
  apply Classical.byContradiction; intro hn
  have := beg_mono (a := 2348) (b := y) (by omega)
  rw [beg_2348] at this; omega
theorem month_hi (y m day : Int) (hb : day < beg (y + 1)) (hm : m ≤ 12) (h : mlen y m ≤ day - beg y - cum y m) (h1 : 1 ≤ m) : m ≤ 11 := by
  apply Classical.byContradiction; intro hn
  obtain rfl : m = 12 := by omega
  have h13 := first_succ y 12 (by omega) (by omega)
  rw [show (12 : Int) + 1 = 13 from rfl, first_13] at h13
  unfold first at h13; omega
theorem year_lo (day : Int) (h : 0 ≤ day) : 1800 ≤ 1800 + day / 366 := by omega
theorem beg_guess_hi (day : Int) (h : 0 ≤ day) (h2 : day ≤ 210000) : day < beg (1800 + day / 366 + 600 + 1) := by unfold beg; omega
theorem date_spec (day : Int) (h : 0 ≤ day) (h2 : day ≤ 210000) : IsDate (dY day) (dM day) (dD day) day := by
  obtain ⟨a, b⟩ := yearUp_spec 600 day (1800 + day / 366) (beg_guess day h) (beg_guess_hi day h h2)
  obtain ⟨c, d, e, f⟩ := monthUp_spec 12 day (dY day) 1 (by omega) (by omega) (by rw [first_1]; exact a) b (by omega)
  exact ⟨e, f, by unfold dD; have : first (dY day) (dM day) ≤ day := c; omega, by
    have : day < first (dY day) (dM day + 1) := d
    have s := first_succ (dY day) (dM day) e f
    unfold dD; omega, by unfold dD; omega⟩
theorem date_eq {y m d day : Int} (h : IsDate y m d day) (h0 : 0 ≤ day) (h2 : day ≤ 210000) : dY day = y ∧ dM day = m ∧ dD day = d := (date_spec day h0 h2).unique h
theorem date_of (y m day : Int) (h0 : 0 ≤ day) (h2 : day ≤ 200000) (m1 : 1 ≤ m) (m2 : m ≤ 12) (ha : 0 ≤ day - beg y - cum y m) (hb : day - beg y - cum y m < mlen y m) :
    y = dY day ∧ m = dM day ∧ day - beg y - cum y m + 1 = dD day := by
  obtain ⟨a, b, c⟩ := date_eq (y := y) (m := m) (d := day - beg y - cum y m + 1) (day := day) ⟨m1, m2, by omega, by omega, by unfold first; omega⟩ h0 (by omega)
  exact ⟨a.symm, b.symm, c.symm⟩
theorem date_of' (y m day : Int) (h0 : 0 ≤ day) (h2 : day ≤ 200000) (m1 : 1 ≤ m) (m2 : m ≤ 12) (ha : first y m ≤ day) (hb : day < first y (m + 1)) :
    y = dY day ∧ m = dM day ∧ day - first y m + 1 = dD day := by
  rw [first_succ y m m1 m2] at hb
  obtain ⟨a, b, c⟩ := date_eq (y := y) (m := m) (d := day - first y m + 1) (day := day) ⟨m1, m2, by omega, by omega, by omega⟩ h0 (by omega)
  exact ⟨a.symm, b.symm, c.symm⟩
theorem first_bd (y m : Int) (h : 1800 ≤ y) (h2 : y ≤ 3000) : 0 ≤ first y m ∧ first y m ≤ 440000 := by
  have a := beg_mono h
  have b := beg_mono h2
  have c := cum_bd y m
  rw [beg_1800] at a
  have e3 : beg 3000 = 438291 := by decide
  unfold first; omega
theorem dY_bd (day : Int) (h : 0 ≤ day) (h2 : day ≤ 200000) : 1800 ≤ dY day ∧ dY day ≤ 2347 := by
  have hd := date_spec day h (by omega)
  have a := hd.lo; have b := hd.hi
  constructor
  · apply Classical.byContradiction; intro hn
    have := beg_mono (a := dY day + 1) (b := 1800) (by omega)
    rw [beg_1800] at this; omega
  · apply Classical.byContradiction; intro hn
    have := beg_mono (a := 2348) (b := dY day) (by omega)
    have : beg 2348 = 200152 := by decide
    omega

/-! Easter. -/
def eG (y : Int) : Int := (y / 100 - (y / 100 + 8) / 25 + 1) / 3
def eH (y : Int) : Int := (19 * (y % 19) + y / 100 - y / 100 / 4 - eG y + 15) % 30
def eL (y : Int) : Int := (32 + 2 * (y / 100 % 4) + 2 * (y % 100 / 4) - eH y - y % 100 % 4) % 7
def eM (y : Int) : Int := (y % 19 + 11 * eH y + 22 * eL y) / 451
def eN (y : Int) : Int := eH y + eL y - 7 * eM y + 114
def easter (y : Int) : Int := first y (eN y / 31) + eN y % 31
theorem eH_bd (y : Int) : 0 ≤ eH y ∧ eH y ≤ 29 := by unfold eH; omega
theorem eL_bd (y : Int) : 0 ≤ eL y ∧ eL y ≤ 6 := by unfold eL; omega
theorem eM_bd (y : Int) : 0 ≤ eM y ∧ eM y ≤ 1 := by have := eH_bd y; have := eL_bd y; unfold eM; omega
theorem eN_bd (y : Int) : 114 ≤ eN y ∧ eN y ≤ 149 := by
  have := eH_bd y; have := eL_bd y
  have h : eM y = (y % 19 + 11 * eH y + 22 * eL y) / 451 := rfl
  unfold eN; omega
end Go.Proofs.YtbinoelbjlgjkaaDoor.Cal
namespace Go.Proofs.YtbinoelbjlgjkaaDoor
open Go Go.RowKit

theorem within_any (n lo hi : Int) (w : World) :
    Calls Tryd.prog 20 #[.int .i64 n, .int .i64 lo, .int .i64 hi] w fun e w' => e = .returned (.bool (decide (lo ≤ n) && decide (n ≤ hi))) ∧ w = w' := by
  by_cases h1 : lo ≤ n
  · by_cases h2 : n ≤ hi
    all_goals
      go_enter Tryd.func20, Tryd.ntmps20
      go_wp2
      go_ret
      exact ⟨by simp; omega, rfl⟩
  · go_enter Tryd.func20, Tryd.ntmps20
    go_wp2
    go_ret
    exact ⟨by simp; omega, rfl⟩
theorem Within_any (n lo hi : Int) (w : World) :
    Calls Tryd.prog 5 #[.int .i64 n, .int .i64 lo, .int .i64 hi] w fun e w' => e = .returned (.bool (decide (lo ≤ n) && decide (n ≤ hi))) ∧ w = w' := by
  by_cases h1 : lo ≤ n
  · by_cases h2 : n ≤ hi
    all_goals
      go_enter Tryd.func5, Tryd.ntmps5
      go_wp2
      go_ret
      exact ⟨by simp; omega, rfl⟩
  · go_enter Tryd.func5, Tryd.ntmps5
    go_wp2
    go_ret
    exact ⟨by simp; omega, rfl⟩
theorem isDay_any (n : Int) (w : World) :
    Calls Tryd.prog 19 #[.int .i64 n] w fun e w' => e = .returned (.bool (decide (0 ≤ n) && decide (n ≤ 200000))) ∧ w = w' := by
  go_enter Tryd.func19, Tryd.ntmps19
  go_wp2_with (go_at_call 20; refine (within_any _ _ _ _).mono ?_; rintro e w' ⟨rfl, rfl⟩)
  go_ret
  exact ⟨rfl, rfl⟩
theorem isLeap_any (y : Int) (h0 : 0 ≤ y) (w : World) :
    Calls Tryd.prog 46 #[.int .i64 y] w fun e w' => e = .returned (.bool (Cal.leapB y)) ∧ w = w' := by
  by_cases h1 : y % 4 = 0
  · by_cases h2 : y % 100 = 0
    · by_cases h3 : y % 400 = 0
      all_goals
        go_enter Tryd.func46, Tryd.ntmps46
        go_wp2
        go_ret
        exact ⟨by simp [Cal.leapB, h1, h2, h3], rfl⟩
    · go_enter Tryd.func46, Tryd.ntmps46
      go_wp2
      go_ret
      exact ⟨by simp [Cal.leapB, h1, h2], rfl⟩
  · go_enter Tryd.func46, Tryd.ntmps46
    go_wp2
    go_ret
    exact ⟨by simp [Cal.leapB, h1], rfl⟩
theorem begin_any (y : Int) (w : World) (h0 : 1 ≤ y) (h1 : y ≤ 100000) :
    Calls Tryd.prog 45 #[.int .i64 y] w fun e w' => e = .returned (.int .i64 (Cal.beg y)) ∧ w = w' := by
  go_enter Tryd.func45, Tryd.ntmps45
  go_wp2
  go_ret
  exact ⟨rfl, rfl⟩
theorem length_any (y m : Int) (h0 : 0 ≤ y) (m1 : 1 ≤ m) (m2 : m ≤ 12) (w : World) (hT : Tab w) :
    Calls Tryd.prog 36 #[.int .i64 y, .int .i64 m] w fun e w' => e = .returned (.int .i64 (Cal.mlen y m)) ∧ w = w' := by
  have h : m = 1 ∨ m = 2 ∨ m = 3 ∨ m = 4 ∨ m = 5 ∨ m = 6 ∨ m = 7 ∨ m = 8 ∨ m = 9 ∨ m = 10 ∨ m = 11 ∨ m = 12 := by omega
  have hc := hT.cell
  have c0 := hc 0 (by decide); have c1 := hc 1 (by decide); have c2 := hc 2 (by decide); have c3 := hc 3 (by decide)
  have c4 := hc 4 (by decide); have c5 := hc 5 (by decide); have c6 := hc 6 (by decide); have c7 := hc 7 (by decide)
  have c8 := hc 8 (by decide); have c9 := hc 9 (by decide); have c10 := hc 10 (by decide); have c11 := hc 11 (by decide)
  simp only [lenTab, List.getD_cons_zero, List.getD_cons_succ] at c0 c1 c2 c3 c4 c5 c6 c7 c8 c9 c10 c11
  clear hc hT m1 m2
  rcases h with rfl | rfl | rfl | rfl | rfl | rfl | rfl | rfl | rfl | rfl | rfl | rfl
  case inr.inl =>
    cases hl : Cal.leapB y
    all_goals
      go_enter Tryd.func36, Tryd.ntmps36
      go_wp2_with (go_at_call 46; refine (isLeap_any _ (by omega) _).mono ?_; rintro e w' ⟨rfl, rfl⟩)
      go_ret
      exact ⟨by simp [Cal.mlen, Cal.lp, hl], rfl⟩
  all_goals
    go_enter Tryd.func36, Tryd.ntmps36
    go_wp2_with fail
    go_ret
    exact ⟨by simp [Cal.mlen], rfl⟩
end Go.Proofs.YtbinoelbjlgjkaaDoor
namespace Go.Proofs.YtbinoelbjlgjkaaDoor
open Go Go.RowKit


theorem dayOf_any (y m d : Int) (y0 : 1800 ≤ y) (y1 : y ≤ 3000) (m1 : 1 ≤ m) (m2 : m ≤ 12) (d0 : -100000 ≤ d) (d1 : d ≤ 100000) (w : World) (hT : Tab w) :
    Calls Tryd.prog 35 #[.int .i64 y, .int .i64 m, .int .i64 d] w fun e w' => e = .returned (.int .i64 (Cal.first y m + d - 1)) ∧ w = w' := by
  have hb := Cal.beg_mono y0
  have hb2 := Cal.beg_mono y1
  rw [Cal.beg_1800] at hb
  have e3 : Cal.beg 3000 = 438291 := by decide
  rw [e3] at hb2
  clear e3
  have hT' := Lib.hid hT; clear hT
  go_enter Tryd.func35, Tryd.ntmps35
  go_wp2_with (go_at_call 45; refine (begin_any _ _ (by omega) (by omega)).mono ?_; rintro e w' ⟨rfl, rfl⟩)
  go_loop [7, 8] (fun n i => ∃ k : Int, 1 ≤ k ∧ k ≤ m ∧ i = .int .i64 k ∧ n = .int .i64 (Cal.beg y + d - 1 + Cal.cum y k)) (fun _ i => (m - intOf i).toNat)
  case atStart => exact ⟨1, by omega, by omega, rfl, by simp [Cal.cum_1]⟩
  case round =>
    obtain ⟨k, k1, k2, rfl, rfl⟩ := hrel
    have cb := Cal.cum_bd y k
    by_cases hlt : k < m
    · have cs := Lib.hid (Cal.cum_succ y k (by omega) (by omega))
      have mb := Cal.mlen_bd y k
      go_wp2_with (go_at_call 36; refine (length_any _ _ (by omega) (by omega) (by omega) _ hT'.out).mono ?_; rintro e w' ⟨rfl, rfl⟩)
      go_round
      case rel => exact ⟨k + 1, by omega, by omega, rfl, by rw [cs.out]; go_num⟩
      case measure => simp [intOf]; omega
    · obtain rfl : k = m := by omega
      go_wp2
      go_ret
      exact ⟨ret_int (by unfold Cal.first; omega), rfl⟩

set_option maxHeartbeats 400000 in
theorem dateOf_any (day : Int) (y0 : 0 ≤ day) (y1 : day ≤ 200000) (w : World) (hT : Tab w) :
    Calls Tryd.prog 34 #[.int .i64 day] w fun e w' => e = .returned (.agg #[.int .i64 (Cal.dY day), .int .i64 (Cal.dM day), .int .i64 (Cal.dD day)]) ∧ Below w.heap.size w w' := by
  have hT' := Lib.hid hT; clear hT
  have g0 := Cal.beg_guess day y0
  have g1 := Cal.year_lo day y0
  go_enter Tryd.func34, Tryd.ntmps34
  go_wp2
  go_loopg [] 600 (fun k wr => ∃ y : Int, 1800 ≤ y ∧ y + k ≤ 3000 ∧ 2348 ≤ y + k ∧ Cal.beg y ≤ day ∧ wr = (w.alloc (.cells #[.int .i64 0, .int .i64 0, .int .i64 0] 83)).alloc (.cells #[.int .i64 y, .int .i64 1, .int .i64 0] 83))
  case atStart => exact ⟨_, g1, by omega, by omega, g0, rfl⟩
  case round =>
    obtain ⟨y, hy, hk, hk2, hb, rfl⟩ := hrel
    clear g0 g1
    have hyh := Cal.year_hi y day hb y1
    have hb0 := Cal.beg_mono hy
    rw [Cal.beg_1800] at hb0
    have hbs := Cal.beg_lt (a := y) (b := y + 1) (by omega)
    by_cases hlt : Cal.beg (y + 1) ≤ day
    · have hyh2 := Cal.year_hi (y + 1) day hlt y1
      go_wp2_with (go_at_call 45; refine (begin_any _ _ (by omega) (by omega)).mono ?_; rintro e w' ⟨rfl, rfl⟩)
      go_roundg (gk - 1)
      case measure => omega
      case rel => exact ⟨y + 1, by omega, by omega, by omega, hlt, rfl⟩
    · have hT2 := Lib.hid (fun o1 o2 => hT'.out.below (((Below.refl _ w).alloc (Nat.le_refl _) o1).alloc (by simp) o2))
      go_wp2_with (go_at_call 45; refine (begin_any _ _ (by omega) (by omega)).mono ?_; rintro e w' ⟨rfl, rfl⟩)
      go_loopg [0] 12 (fun k v wr => ∃ m : Int, 1 ≤ m ∧ m ≤ 12 ∧ m + k = 13 ∧ 0 ≤ day - Cal.beg y - Cal.cum y m ∧ v = .int .i64 (day - Cal.beg y - Cal.cum y m) ∧ wr = (w.alloc (.cells #[.int .i64 0, .int .i64 0, .int .i64 0] 83)).alloc (.cells #[.int .i64 y, .int .i64 m, .int .i64 0] 83))
      case atStart => exact ⟨1, by omega, by omega, by omega, by rw [Cal.cum_1]; omega, by rw [Cal.cum_1]; simp, rfl⟩
      case round =>
        obtain ⟨m, m1, m2, mk, hr, rfl, rfl⟩ := hrel
        have hcb := Cal.cum_bd y m
        have hmb := Cal.mlen_bd y m
        have mk2 := Lib.hid mk
        clear mk
        by_cases hge : Cal.mlen y m ≤ day - Cal.beg y - Cal.cum y m
        · have hm11 := Cal.month_hi y m day (by omega) m2 hge m1
          have hcs := Lib.hid (Cal.cum_succ y m m1 m2)
          go_wp2_with (go_at_call 36; refine (length_any _ _ (by omega) m1 m2 _ (hT2.out _ _)).mono ?_; rintro e w' ⟨rfl, rfl⟩)
          go_roundg (gk - 1)
          case measure => have := mk2.out; omega
          case rel => exact ⟨m + 1, by omega, by omega, by have := mk2.out; omega, by rw [hcs.out]; omega, by rw [hcs.out]; go_num, rfl⟩
        · obtain ⟨ey, em, ed⟩ := Cal.date_of y m day y0 y1 m1 m2 hr (by omega)
          have hfin := Lib.hid (And.intro ey (And.intro em ed))
          clear ey em ed
          go_wp2_with (go_at_call 36; refine (length_any _ _ (by omega) m1 m2 _ (hT2.out _ _)).mono ?_; rintro e w' ⟨rfl, rfl⟩)
          refine bodyPost_ret (v := .agg #[.int .i64 y, .int .i64 m, .int .i64 (day - Cal.beg y - Cal.cum y m + 1)]) (by simp [results, Tryd.results34, go_sem]) rfl ⟨?_, ?_⟩
          · obtain ⟨ey, em, ed⟩ := hfin.out
            rw [ey, em] at ed ⊢; rw [ed]
          · exact ((Below.refl _ _).alloc (Nat.le_refl _) _).alloc (by simp) _
end Go.Proofs.YtbinoelbjlgjkaaDoor
namespace Go.Proofs.YtbinoelbjlgjkaaDoor
open Go Go.RowKit

end Go.Proofs.YtbinoelbjlgjkaaDoor
namespace Go.Proofs.YtbinoelbjlgjkaaDoor
open Go Go.RowKit

/-- DayOf: the day and the error. -/
def Cal.dayOfS (y m d : Int) : Int × Int :=
  if 1800 ≤ y ∧ y ≤ 2347 then
    if 1 ≤ m ∧ m ≤ 12 ∧ 1 ≤ d ∧ d ≤ Cal.mlen y m then
      if Cal.first y m + d - 1 ≤ 200000 then (Cal.first y m + d - 1, 0) else (0, 2)
    else (0, 24)
  else (0, 2)

end Go.Proofs.YtbinoelbjlgjkaaDoor
namespace Go.Proofs.YtbinoelbjlgjkaaDoor
open Go Go.RowKit

/-- So many months later: the number and whether it is a day. -/
def Cal.laterT (day months : Int) : Int := 12 * Cal.dY day + Cal.dM day - 1 + months
def Cal.laterS (day months : Int) : Int × Bool :=
  if 1800 ≤ Cal.laterT day months / 12 ∧ Cal.laterT day months / 12 ≤ 2347 then
    (Cal.first (Cal.laterT day months / 12) (Cal.laterT day months % 12 + 1) + min (Cal.dD day) (Cal.mlen (Cal.laterT day months / 12) (Cal.laterT day months % 12 + 1)) - 1,
      decide (Cal.first (Cal.laterT day months / 12) (Cal.laterT day months % 12 + 1) + min (Cal.dD day) (Cal.mlen (Cal.laterT day months / 12) (Cal.laterT day months % 12 + 1)) - 1 ≤ 200000))
  else (0, false)

theorem ret_ib {a b : Int} {c d : Bool} (h : a = b) (h2 : c = d) : Ending.returned (.tuple #[.int .i64 a, .bool c]) = .returned (.tuple #[.int .i64 b, .bool d]) := by rw [h, h2]
theorem Cal.laterS_no {day months : Int} (h : ¬ (1800 ≤ Cal.laterT day months / 12 ∧ Cal.laterT day months / 12 ≤ 2347)) : Cal.laterS day months = (0, false) := by
  unfold Cal.laterS; rw [if_neg h]
theorem Cal.laterS_yes {day months : Int} (h : 1800 ≤ Cal.laterT day months / 12) (h2 : Cal.laterT day months / 12 ≤ 2347) :
    Cal.laterS day months = (Cal.first (Cal.laterT day months / 12) (Cal.laterT day months % 12 + 1) + min (Cal.dD day) (Cal.mlen (Cal.laterT day months / 12) (Cal.laterT day months % 12 + 1)) - 1,
      decide (Cal.first (Cal.laterT day months / 12) (Cal.laterT day months % 12 + 1) + min (Cal.dD day) (Cal.mlen (Cal.laterT day months / 12) (Cal.laterT day months % 12 + 1)) - 1 ≤ 200000)) := by
  unfold Cal.laterS; rw [if_pos ⟨h, h2⟩]
theorem later_any (day months : Int) (y0 : 0 ≤ day) (y1 : day ≤ 200000) (m0 : -12000 ≤ months) (m1 : months ≤ 12000) (w : World) (hT : Tab w) :
    Calls Tryd.prog 24 #[.int .i64 day, .int .i64 months] w fun e w' => e = .returned (.tuple #[.int .i64 (Cal.laterS day months).1, .bool (Cal.laterS day months).2]) ∧ Below w.heap.size w w' := by
  have hd := Cal.date_spec day y0 (by omega)
  obtain ⟨dy0, dy1⟩ := Cal.dY_bd day y0 y1
  obtain ⟨dm1, dm2, dd1, dd2, dd3⟩ := hd
  have dd4 := Cal.mlen_bd (Cal.dY day) (Cal.dM day)
  clear dd3
  have hT' := Lib.hid hT; clear hT
  have hno := Lib.hid (@Cal.laterS_no day months)
  have hyes := Lib.hid (@Cal.laterS_yes day months)
  unfold Cal.laterT at hno hyes
  have ht : 0 ≤ 12 * Cal.dY day + Cal.dM day - 1 + months := by omega
  by_cases hy1 : 1800 ≤ (12 * Cal.dY day + Cal.dM day - 1 + months) / 12
  · by_cases hy2 : (12 * Cal.dY day + Cal.dM day - 1 + months) / 12 ≤ 2347
    · have hfin := Lib.hid (hyes.out hy1 hy2)
      have hdec := Lib.hid (show decide ((12 * Cal.dY day + Cal.dM day - 1 + months) < 0) = false by simp; omega)
      have mb := Cal.mlen_bd ((12 * Cal.dY day + Cal.dM day - 1 + months) / 12) ((12 * Cal.dY day + Cal.dM day - 1 + months) % 12 + 1)
      have fb := Cal.first_bd ((12 * Cal.dY day + Cal.dM day - 1 + months) / 12) ((12 * Cal.dY day + Cal.dM day - 1 + months) % 12 + 1) hy1 (by omega)
      by_cases hmin : Cal.mlen ((12 * Cal.dY day + Cal.dM day - 1 + months) / 12) ((12 * Cal.dY day + Cal.dM day - 1 + months) % 12 + 1) < Cal.dD day
      · by_cases hn : Cal.first ((12 * Cal.dY day + Cal.dM day - 1 + months) / 12) ((12 * Cal.dY day + Cal.dM day - 1 + months) % 12 + 1) + Cal.mlen ((12 * Cal.dY day + Cal.dM day - 1 + months) / 12) ((12 * Cal.dY day + Cal.dM day - 1 + months) % 12 + 1) - 1 ≤ 200000
        · go_enter Tryd.func24, Tryd.ntmps24
          go_wp2_with (first | (go_at_call 34; refine (dateOf_any day y0 y1 _ hT'.out).mono ?_; rintro e w1 ⟨rfl, hb1⟩) | (((first | (go_at_call 20) | (go_at_call 5) | (go_at_call 19) | (fail) | (fail) | (fail) | (fail)); first | refine rin ?_ | refine rout ?_ | refine rany ?_)))
          have hTm := Lib.hid (fun o n => ((hT'.out.below hb1).alloc o).drewN n)
          go_quiet (first | (go_at_call 36; exact quiet_left (length_any _ _ (by omega) (by omega) (by omega) _ (hTm.out _ _))) | (go_at_call 35; exact quiet_left (dayOf_any _ _ _ (by omega) (by omega) (by omega) (by omega) (by omega) (by omega) _ (hTm.out _ _))))
          go_wp2_with (((first | (go_at_call 20) | (go_at_call 5) | (go_at_call 19) | (fail) | (fail) | (fail) | (fail)); first | refine rin ?_ | refine rout ?_ | refine rany ?_))
          go_ret2
          exact ⟨by rw [hfin.out]; exact ret_ib (by omega) (by simp; omega), below_drewN (hb1.alloc hb1.size _) _⟩
        · go_enter Tryd.func24, Tryd.ntmps24
          go_wp2_with (first | (go_at_call 34; refine (dateOf_any day y0 y1 _ hT'.out).mono ?_; rintro e w1 ⟨rfl, hb1⟩) | (((first | (go_at_call 20) | (go_at_call 5) | (go_at_call 19) | (fail) | (fail) | (fail) | (fail)); first | refine rin ?_ | refine rout ?_ | refine rany ?_)))
          have hTm := Lib.hid (fun o n => ((hT'.out.below hb1).alloc o).drewN n)
          go_quiet (first | (go_at_call 36; exact quiet_left (length_any _ _ (by omega) (by omega) (by omega) _ (hTm.out _ _))) | (go_at_call 35; exact quiet_left (dayOf_any _ _ _ (by omega) (by omega) (by omega) (by omega) (by omega) (by omega) _ (hTm.out _ _))))
          go_wp2_with (((first | (go_at_call 20) | (go_at_call 5) | (go_at_call 19) | (fail) | (fail) | (fail) | (fail)); first | refine rin ?_ | refine rout ?_ | refine rany ?_))
          go_ret2
          exact ⟨by rw [hfin.out]; exact ret_ib (by omega) (by simp; omega), below_drewN (hb1.alloc hb1.size _) _⟩
      · by_cases hn : Cal.first ((12 * Cal.dY day + Cal.dM day - 1 + months) / 12) ((12 * Cal.dY day + Cal.dM day - 1 + months) % 12 + 1) + Cal.dD day - 1 ≤ 200000
        · go_enter Tryd.func24, Tryd.ntmps24
          go_wp2_with (first | (go_at_call 34; refine (dateOf_any day y0 y1 _ hT'.out).mono ?_; rintro e w1 ⟨rfl, hb1⟩) | (((first | (go_at_call 20) | (go_at_call 5) | (go_at_call 19) | (fail) | (fail) | (fail) | (fail)); first | refine rin ?_ | refine rout ?_ | refine rany ?_)))
          have hTm := Lib.hid (fun o n => ((hT'.out.below hb1).alloc o).drewN n)
          go_quiet (first | (go_at_call 36; exact quiet_left (length_any _ _ (by omega) (by omega) (by omega) _ (hTm.out _ _))) | (go_at_call 35; exact quiet_left (dayOf_any _ _ _ (by omega) (by omega) (by omega) (by omega) (by omega) (by omega) _ (hTm.out _ _))))
          go_wp2_with (((first | (go_at_call 20) | (go_at_call 5) | (go_at_call 19) | (fail) | (fail) | (fail) | (fail)); first | refine rin ?_ | refine rout ?_ | refine rany ?_))
          go_ret2
          exact ⟨by rw [hfin.out]; exact ret_ib (by omega) (by simp; omega), below_drewN (hb1.alloc hb1.size _) _⟩
        · go_enter Tryd.func24, Tryd.ntmps24
          go_wp2_with (first | (go_at_call 34; refine (dateOf_any day y0 y1 _ hT'.out).mono ?_; rintro e w1 ⟨rfl, hb1⟩) | (((first | (go_at_call 20) | (go_at_call 5) | (go_at_call 19) | (fail) | (fail) | (fail) | (fail)); first | refine rin ?_ | refine rout ?_ | refine rany ?_)))
          have hTm := Lib.hid (fun o n => ((hT'.out.below hb1).alloc o).drewN n)
          go_quiet (first | (go_at_call 36; exact quiet_left (length_any _ _ (by omega) (by omega) (by omega) _ (hTm.out _ _))) | (go_at_call 35; exact quiet_left (dayOf_any _ _ _ (by omega) (by omega) (by omega) (by omega) (by omega) (by omega) _ (hTm.out _ _))))
          go_wp2_with (((first | (go_at_call 20) | (go_at_call 5) | (go_at_call 19) | (fail) | (fail) | (fail) | (fail)); first | refine rin ?_ | refine rout ?_ | refine rany ?_))
          go_ret2
          exact ⟨by rw [hfin.out]; exact ret_ib (by omega) (by simp; omega), below_drewN (hb1.alloc hb1.size _) _⟩
    · have hfin := Lib.hid (hno.out (by omega))
      go_enter Tryd.func24, Tryd.ntmps24
      go_wp2_with (first | (go_at_call 34; refine (dateOf_any day y0 y1 _ hT'.out).mono ?_; rintro e w1 ⟨rfl, hb1⟩) | (((first | (go_at_call 20) | (go_at_call 5) | (go_at_call 19) | (fail) | (fail) | (fail) | (fail)); first | refine rin ?_ | refine rout ?_ | refine rany ?_)))
      go_ret2
      exact ⟨by rw [hfin.out]; rfl, hb1.alloc hb1.size _⟩
  · have hfin := Lib.hid (hno.out (by omega))
    go_enter Tryd.func24, Tryd.ntmps24
    go_wp2_with (first | (go_at_call 34; refine (dateOf_any day y0 y1 _ hT'.out).mono ?_; rintro e w1 ⟨rfl, hb1⟩) | (((first | (go_at_call 20) | (go_at_call 5) | (go_at_call 19) | (fail) | (fail) | (fail) | (fail)); first | refine rin ?_ | refine rout ?_ | refine rany ?_)))
    go_ret2
    exact ⟨by rw [hfin.out]; rfl, hb1.alloc hb1.size _⟩
end Go.Proofs.YtbinoelbjlgjkaaDoor
namespace Go.Proofs.YtbinoelbjlgjkaaDoor
open Go Go.RowKit

/-- AddMonths: the day and the error. -/
def Cal.addS (day months : Int) : Int × Int :=
  if 0 ≤ day ∧ day ≤ 200000 ∧ -12000 ≤ months ∧ months ≤ 12000 ∧ (Cal.laterS day months).2 = true then ((Cal.laterS day months).1, 0) else (0, 2)
theorem weekday_any (day : Int) (y0 : -2 ≤ day) (y1 : day ≤ 1000000) (w : World) :
    Calls Tryd.prog 51 #[.int .i64 day] w fun e w' => e = .returned (.int .i64 ((day + 2) % 7)) ∧ w = w' := by
  go_enter Tryd.func51, Tryd.ntmps51
  go_wp2
  go_ret
  exact ⟨rfl, rfl⟩
end Go.Proofs.YtbinoelbjlgjkaaDoor
namespace Go.Proofs.YtbinoelbjlgjkaaDoor
open Go Go.RowKit

theorem easter_any (y : Int) (y0 : 1800 ≤ y) (y1 : y ≤ 2347) (w : World) (hT : Tab w) :
    Calls Tryd.prog 62 #[.int .i64 y] w fun e w' => e = .returned (.int .i64 (Cal.easter y)) ∧ w = w' := by
  have hT' := Lib.hid hT; clear hT
  have hE := Lib.hid (show Cal.first y (Cal.eN y / 31) + Cal.eN y % 31 = Cal.easter y from rfl)
  have bH := Cal.eH_bd y; have bL := Cal.eL_bd y; have bM := Cal.eM_bd y; have bN := Cal.eN_bd y
  have eG : (y / 100 - (y / 100 + 8) / 25 + 1) / 3 = Cal.eG y := rfl
  have eH : (19 * (y % 19) + y / 100 - y / 100 / 4 - Cal.eG y + 15) % 30 = Cal.eH y := rfl
  have eL : (32 + 2 * (y / 100 % 4) + 2 * (y % 100 / 4) - Cal.eH y - y % 4) % 7 = Cal.eL y := by rw [show y % 4 = y % 100 % 4 by omega]; rfl
  have eM : (y % 19 + 11 * Cal.eH y + 22 * Cal.eL y) / 451 = Cal.eM y := rfl
  have eN : Cal.eH y + Cal.eL y - 7 * Cal.eM y + 114 = Cal.eN y := rfl
  have bG : 0 ≤ Cal.eG y ∧ Cal.eG y ≤ 1000 := by unfold Cal.eG; omega
  generalize Cal.eG y = G at *
  generalize hH : Cal.eH y = H at *
  generalize hL : Cal.eL y = L at *
  generalize hM : Cal.eM y = M at *
  generalize hN : Cal.eN y = N at *
  have hN := Lib.hid hN
  clear hH hL hM
  go_enter Tryd.func62, Tryd.ntmps62
  go_wp2_with (go_at_call 35; refine (dayOf_any _ _ _ (by omega) (by omega) (by omega) (by omega) (by omega) (by omega) _ hT'.out).mono ?_; rintro e w' ⟨rfl, rfl⟩)
  go_ret
  exact ⟨ret_int (by rw [← hE.out]; omega), rfl⟩
end Go.Proofs.YtbinoelbjlgjkaaDoor
namespace Go.Proofs.YtbinoelbjlgjkaaDoor
open Go Go.RowKit

/-- The byte at a place, as a number. -/
def byteAt (s : ByteArray) (j : Nat) : Int := if h : j < s.size then (s[j].toNat : Int) else 0
theorem byteAt_eq {s : ByteArray} {j : Nat} (h : j < s.size) : byteAt s j = (s[j].toNat : Int) := by unfold byteAt; rw [dif_pos h]
def okAt (s : ByteArray) (j : Nat) : Bool := decide (97 ≤ byteAt s j ∧ byteAt s j ≤ 122) || decide (65 ≤ byteAt s j ∧ byteAt s j ≤ 90) || (decide (j ≠ 0) && (decide (byteAt s j = 45) || decide (48 ≤ byteAt s j ∧ byteAt s j ≤ 57)))
/-- Is a text a name? -/
def nameB (s : ByteArray) : Bool := decide (1 ≤ s.size ∧ s.size ≤ 12 ∧ ∀ j, j < s.size → okAt s j = true)
def okTo (s : ByteArray) (k : Nat) : Prop := ∀ j, j < k → okAt s j = true
theorem okTo_zero (s : ByteArray) : okTo s 0 := fun j h => by omega
theorem okTo_succ {s : ByteArray} {k : Nat} (h : okTo s k) (h2 : okAt s k = true) : okTo s (k + 1) := fun j hj => by
  rcases Nat.lt_or_ge j k with h3 | h3
  · exact h j h3
  · obtain rfl : j = k := by omega
    exact h2
theorem nameB_yes {s : ByteArray} (h1 : 1 ≤ s.size) (h2 : s.size ≤ 12) (h : okTo s s.size) : nameB s = true := by unfold nameB; simp; exact ⟨h1, h2, h⟩
theorem nameB_no {s : ByteArray} {k : Nat} (h : k < s.size) (h2 : okAt s k = false) : nameB s = false := by
  unfold nameB; rw [decide_eq_false_iff_not]; rintro ⟨_, _, h3⟩; rw [h3 k h] at h2; cases h2
theorem nameB_size {s : ByteArray} (h : s.size < 1 ∨ 12 < s.size) : nameB s = false := by
  unfold nameB; rw [decide_eq_false_iff_not]; rintro ⟨_, _, _⟩; omega
theorem isEmpty_yes {s : ByteArray} (h : s.size = 0) : s.toList.isEmpty = true := by rw [ByteArray.toList_eq]; simpa using Array.eq_empty_of_size_eq_zero h
theorem isEmpty_no {s : ByteArray} (h : 1 ≤ s.size) : s.toList.isEmpty = false := by
  rw [ByteArray.toList_eq]
  cases hh : s.data.toList with
  | nil => have : s.size = 0 := by have := congrArg List.length hh; simpa using this
           omega
  | cons a l => rfl
set_option maxHeartbeats 2000000 in
theorem isName_any (s : ByteArray) (w : World) (hs : s.size ≤ maxLen) :
    Calls Tryd.prog 31 #[.string s] w fun e w' => e = .returned (.bool (nameB s)) ∧ w = w' := by
  unfold maxLen at hs
  by_cases h0 : s.size = 0
  · have hfin := Lib.hid (nameB_size (s := s) (by omega))
    have he := isEmpty_yes h0
    have he2 : s.toList = [] := by simpa using he
    clear h0
    go_enter Tryd.func31, Tryd.ntmps31
    go_wp2
    go_ret
    exact ⟨ret_bool hfin.out.symm, rfl⟩
  have h1 : 1 ≤ s.size := by omega
  have he := isEmpty_no h1
  have he2 : ¬ s.toList = [] := by intro h; rw [h] at he; cases he
  clear h0
  by_cases h12 : s.size ≤ 12
  · have hok := okTo_zero s
    go_enter Tryd.func31, Tryd.ntmps31
    go_wp2
    go_loop [15] (fun i => ∃ k : Nat, k ≤ s.size ∧ i = .int .i64 k ∧ okTo s k) (fun i => s.size - (intOf i).toNat)
    case atStart => exact ⟨0, Nat.zero_le _, rfl, hok⟩
    case round =>
      obtain ⟨k, hk, rfl, hok2⟩ := hrel
      clear hok
      by_cases hlt : k < s.size
      · have hb := byteAt_eq hlt
        have hcl : (97 ≤ (s[k].toNat : Int) ∧ (s[k].toNat : Int) ≤ 122) ∨ (65 ≤ (s[k].toNat : Int) ∧ (s[k].toNat : Int) ≤ 90) ∨ (48 ≤ (s[k].toNat : Int) ∧ (s[k].toNat : Int) ≤ 57) ∨ (s[k].toNat : Int) = 45 ∨ (s[k].toNat : Int) < 45 ∨ (46 ≤ (s[k].toNat : Int) ∧ (s[k].toNat : Int) ≤ 47) ∨ (58 ≤ (s[k].toNat : Int) ∧ (s[k].toNat : Int) ≤ 64) ∨ (91 ≤ (s[k].toNat : Int) ∧ (s[k].toNat : Int) ≤ 96) ∨ 123 ≤ (s[k].toNat : Int) := by omega
        have c0 : 0 ≤ (s[k].toNat : Int) := by omega
        have hyes := Lib.hid (fun h : okAt s k = true => okTo_succ hok2 h)
        have hno := Lib.hid (fun h : okAt s k = false => nameB_no hlt h)
        by_cases hk0 : k = 0
        · subst hk0
          rcases hcl with ⟨ca, cb⟩ | ⟨ca, cb⟩ | ⟨ca, cb⟩ | ca | ca | ⟨ca, cb⟩ | ⟨ca, cb⟩ | ⟨ca, cb⟩ | ca
          all_goals first
            | (have hok : Hid (okTo s (0 + 1)) := hyes.out (by unfold okAt; rw [hb]; simp; omega)
               clear hyes hno hb
               go_wp2
               go_round
               case rel => exact ⟨1, by omega, rfl, hok.out⟩
               case measure => simp [intOf]; omega)
            | (have hfin : Hid (nameB s = false) := hno.out (by unfold okAt; rw [hb]; simp; omega)
               clear hyes hno hb
               try (have q0 : decide ((s[0].toNat : Int) ≤ 90) = false := by first | (simp; omega) | (simp; done))
               try (have q1 : decide ((s[0].toNat : Int) ≤ 122) = false := by first | (simp; omega) | (simp; done))
               try (have q2 : decide ((s[0].toNat : Int) ≤ 57) = false := by first | (simp; omega) | (simp; done))
               try (have q3 : ((s[0].toNat : Int) != 45) = true := by first | (simp; omega) | (simp; done))
               try (have q4 : ((s[0].toNat : Int) == 45) = false := by first | (simp; omega) | (simp; done))
               try (have q5 : decide (57 < (s[0].toNat : Int)) = true := by first | (simp; omega) | (simp; done))
               try (have q6 : decide (97 ≤ (s[0].toNat : Int)) = false := by first | (simp; omega) | (simp; done))
               try (have q7 : decide (65 ≤ (s[0].toNat : Int)) = false := by first | (simp; omega) | (simp; done))
               go_wp2
               go_ret
               exact ⟨ret_bool hfin.out.symm, rfl⟩)
        · have hk1 : 0 < (k : Int) := by omega
          have hk2 : ((k : Int) == 0) = false := by simp; omega
          rcases hcl with ⟨ca, cb⟩ | ⟨ca, cb⟩ | ⟨ca, cb⟩ | ca | ca | ⟨ca, cb⟩ | ⟨ca, cb⟩ | ⟨ca, cb⟩ | ca
          all_goals first
            | (have hok : Hid (okTo s (k + 1)) := hyes.out (by unfold okAt; rw [hb]; simp; omega)
               clear hyes hno hb hk0
               go_wp2
               go_round
               case rel => exact ⟨k + 1, by omega, by go_num, hok.out⟩
               case measure => simp [intOf]; omega)
            | (have hfin : Hid (nameB s = false) := hno.out (by unfold okAt; rw [hb]; simp; omega)
               clear hyes hno hb hk0
               try (have q0 : decide ((s[k].toNat : Int) ≤ 90) = false := by first | (simp; omega) | (simp; done))
               try (have q1 : decide ((s[k].toNat : Int) ≤ 122) = false := by first | (simp; omega) | (simp; done))
               try (have q2 : decide ((s[k].toNat : Int) ≤ 57) = false := by first | (simp; omega) | (simp; done))
               try (have q3 : ((s[k].toNat : Int) != 45) = true := by first | (simp; omega) | (simp; done))
               try (have q4 : ((s[k].toNat : Int) == 45) = false := by first | (simp; omega) | (simp; done))
               try (have q5 : decide (57 < (s[k].toNat : Int)) = true := by first | (simp; omega) | (simp; done))
               try (have q6 : decide (97 ≤ (s[k].toNat : Int)) = false := by first | (simp; omega) | (simp; done))
               try (have q7 : decide (65 ≤ (s[k].toNat : Int)) = false := by first | (simp; omega) | (simp; done))
               go_wp2
               go_ret
               exact ⟨ret_bool hfin.out.symm, rfl⟩)
      · obtain rfl : k = s.size := by omega
        have hfin := Lib.hid (nameB_yes h1 h12 hok2)
        go_wp2
        go_ret
        exact ⟨ret_bool hfin.out.symm, rfl⟩
  · have hfin := Lib.hid (nameB_size (s := s) (by omega))
    go_enter Tryd.func31, Tryd.ntmps31
    go_wp2
    go_ret
    exact ⟨ret_bool hfin.out.symm, rfl⟩
end Go.Proofs.YtbinoelbjlgjkaaDoor
namespace Go.Proofs.YtbinoelbjlgjkaaDoor
open Go Go.RowKit
end Go.Proofs.YtbinoelbjlgjkaaDoor
