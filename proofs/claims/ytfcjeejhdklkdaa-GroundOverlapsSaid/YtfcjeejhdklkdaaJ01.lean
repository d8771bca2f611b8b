/- What the statements rest on: definitions and walks, part 01. -/
import Derived.Test.YtfcjeejhdklkdaaRows
import Derived.WalkKit
import Derived.WalkSpells
import Derived.WalkLawsBesides
import Derived.ProofKit
import Derived.Lib.Hide
import Derived.Below
import Derived.LoopTactic
import Derived.Deep.LoopGhost
import Derived.Deep.Draws
import Derived.Deep.QuietTactic
import Derived.BigQuiet
import Derived.Deep.DeepFit
import Derived.Outline
import Derived.IntWalk
import Derived.ChangeSame
import Derived.Maps.OwnSet
import Derived.Maps.OwnOps
import Derived.Shelf.Small.Bits
import Derived.Shelf.Small.Wraps
import Derived.Shelf.Strconv.Itoa0
import Derived.Ground.Names2Prog
import Derived.Shelf.Slices.SearchI
import Derived.Test.YtfcjeejhdklkdaaProg
import Derived.Lib.SlicesCompact
import Derived.Laws.AppendOwnNone
import Derived.Deep.AppendLies
import Derived.Laws.OwnMore
import Derived.Sort.Grow
import Derived.RangeFuncNested
import Derived.RangeFuncBound
import Derived.RangeFuncCalls
import Derived.RangeFuncLeaves
import Derived.Shelf.Abstract
import Derived.Shelf.RegionOpen
import Derived.OwnWalkIn
import Derived.TacticsInMore
import Derived.LoopNIn
import Derived.LoopIn
set_option maxRecDepth 100000
set_option maxHeartbeats 16000000
set_option linter.unusedSimpArgs false
set_option linter.unusedVariables false
namespace Go.Proofs.Ytfcjeejhdklkdaa
open Go Go.RowKit Go.WideShapes Go.ChangeShapes
theorem ret_int {k : IntKind} {a b : Int} (h : a = b) : Ending.returned (.int k a) = .returned (.int k b) := by rw [h]
theorem ret_bool {a b : Bool} (h : a = b) : Ending.returned (.bool a) = .returned (.bool b) := by rw [h]
theorem below_drewN {B : Nat} {a w : World} (h : Below B a w) (n : Nat) : Below B a (w.drewN n) := ⟨h.os, h.tape, h.output, h.size, h.block⟩
theorem below_step {w a b : World} (h : Below w.heap.size w a) (k : Below a.heap.size a b) : Below w.heap.size w b := h.trans (k.mono h.size)
theorem below_alloc (w : World) (o : Obj) : Below w.heap.size w (w.alloc o) := (Below.refl _ _).alloc (Nat.le_refl _) o
section
variable {f : FuncId} {args : Array Value} {w : World} {K : Ending → World → Prop} {p q : Prop} {dp : Decidable p} {dq : Decidable q}
variable {n : Nat}
end
theorem blw {B : Nat} {a w : World} (h : Below B a w := by (repeat (first | assumption | exact Below.refl _ _ | exact below_alloc _ _ | refine below_drewN ?_ _ | refine Below.drew ?_ | (refine Below.setCell ?_ ?_ _; rotate_left; focus (first | omega | (simp; done) | (simp; omega))) | (refine Below.alloc ?_ ?_ _; rotate_left; focus (first | omega | (simp; done) | (simp; omega)))))) : Below B a w := h
section
variable {H : Type} {enc : TypeId × Value → H} {P : Program}
theorem post_of_below {f : Func} {s : ChangeSpec} {apart fresh handsOn again : Bool} {W W' : World} {args : Array Value} {v : Value} {ds gs : List (DataW H)} {before pa pv : List MemPlace}
  (hW : DataW.Whole enc P f.params.toList s.vars apart W args.toList ds gs before)
  (hres : ∀ (b : Nat) (sp : Nat → Bool) (hd : Bool), DataW.TrodAll enc P W' b sp hd f.resultTypes.toList (v.resultList f.resultTypes.size) (s.fn H (ds ++ gs)).results [])
  (hargs : ∀ sp : Nat → Bool, (∀ p ∈ before, sp p.block = true) → DataW.TrodAll enc P W' 0 sp true f.params.toList args.toList (s.fn H (ds ++ gs)).args pa)
  (hvars : ∀ sp : Nat → Bool, (∀ p ∈ before, sp p.block = true) → DataW.TrodVars enc P W' sp s.vars (s.fn H (ds ++ gs)).vars pv)
  (hps : before = pa ++ pv) (hb : Below W.heap.size W W')
  (hok : ∀ (j : Nat) (t : TypeId) (r : Value), f.resultTypes[j]? = some t → (v.resultList f.resultTypes.size)[j]? = some r → Value.okWide P W' .any 0 t r) :
  s.post enc P f apart fresh handsOn again W args v W' := by
 have hlt : ∀ p ∈ before, p.block < W.heap.size := fun p hp => hW.lt p hp
 have hold : ∀ p ∈ before, (fun b => decide (b < W.heap.size)) p.block = true := fun p hp => by simpa using hlt p hp
 refine ⟨ds, gs, before, [], pa, pv, hW, hres _ _ _, hargs _ hold, hvars _ hold, World.keptBut_mono (fun p hp => ⟨hp, ?_⟩) (hb.frame (· ∈ before)), fun _ => ?_⟩
 ·rw [hps, List.mem_append] at hp
  exact Or.inr hp
 ·obtain ⟨_, _, _, _, _, hz, hn⟩ := hW
  refine ⟨hok, _, _, ([] ++ pa) ++ pv, ⟨[] ++ pa, pv, trodAll_append (hargs _ (fun _ _ => rfl)) (hres _ _ _), hvars _ (fun _ _ => rfl), rfl, ?_, ?_⟩, ?_⟩
  ·intro b off hp
   have hin : MemPlace.cell b off ∈ before := by rw [hps]; simpa using hp
   rw [hb.frozen (hlt _ hin)]
   exact hz b off hin
  ·intro ha
   have := hn ha
   rw [hps] at this
   simpa using this
  ·intro p hp _
   rw [hps]
   simpa using hp
end
end Go.Proofs.Ytfcjeejhdklkdaa
namespace Go.Proofs.Ytfcjeejhdklkdaa.Cal
def leapB (y : Int) : Bool := decide (y % 4 = 0) && (!decide (y % 100 = 0) || decide (y % 400 = 0))
def lp (y : Int) : Int := if leapB y = true then 1 else 0
def mlen (y m : Int) : Int :=
 if m = 2 then 28 + lp y else if m = 4 ∨ m = 6 ∨ m = 9 ∨ m = 11 then 30 else 31
def beg (y : Int) : Int := 365 * (y - 1800) + (y - 1) / 4 - (y - 1) / 100 + (y - 1) / 400 - 436
def cum (y m : Int) : Int :=
 if m ≤ 1 then 0 else if m = 2 then 31 else if m = 3 then 59 + lp y else if m = 4 then 90 + lp y else if m = 5 then 120 + lp y else if m = 6 then 151 + lp y
 else if m = 7 then 181 + lp y else if m = 8 then 212 + lp y else if m = 9 then 243 + lp y else if m = 10 then 273 + lp y else if m = 11 then 304 + lp y else if m = 12 then 334 + lp y else 365 + lp y
def first (y m : Int) : Int := beg y + cum y m
theorem lp_01 (y : Int) : lp y = 0 ∨ lp y = 1 := by unfold lp; split <;> simp
theorem lp_ge (y : Int) : 0 ≤ lp y := by rcases lp_01 y with h | h <;> omega
theorem lp_le (y : Int) : lp y ≤ 1 := by rcases lp_01 y with h | h <;> omega
theorem lp_eq (y : Int) : lp y = y / 4 - (y - 1) / 4 - (y / 100 - (y - 1) / 100) + (y / 400 - (y - 1) / 400) := by
 unfold lp leapB
 by_cases h4 : y % 4 = 0 <;> by_cases h100 : y % 100 = 0 <;> by_cases h400 : y % 400 = 0 <;> simp [h4, h100, h400] <;> omega
theorem beg_succ (y : Int) : beg (y + 1) = beg y + 365 + lp y := by
 rw [lp_eq]; unfold beg
 have : y + 1 - 1 = y := by omega
 rw [this]; omega
theorem cum_bd (y m : Int) : 0 ≤ cum y m ∧ cum y m ≤ 366 := by
 have := lp_ge y; have := lp_le y
 unfold cum; omega
theorem cum_succ (y m : Int) (h1 : 1 ≤ m) (h2 : m ≤ 12) : cum y (m + 1) = cum y m + mlen y m := by
 have h : m = 1 ∨ m = 2 ∨ m = 3 ∨ m = 4 ∨ m = 5 ∨ m = 6 ∨ m = 7 ∨ m = 8 ∨ m = 9 ∨ m = 10 ∨ m = 11 ∨ m = 12 := by omega
 rcases h with rfl | rfl | rfl | rfl | rfl | rfl | rfl | rfl | rfl | rfl | rfl | rfl <;> simp [cum, mlen] <;> omega
theorem cum_13 (y : Int) : cum y 13 = 365 + lp y := by simp [cum]
theorem cum_mono (y : Int) {m k : Int} (h : m ≤ k) : cum y m ≤ cum y k := by
 have := lp_ge y; have := lp_le y
 unfold cum; omega
theorem first_13 (y : Int) : first y 13 = beg (y + 1) := by simp [first, cum_13, beg_succ]; omega
theorem first_succ (y m : Int) (h1 : 1 ≤ m) (h2 : m ≤ 12) : first y (m + 1) = first y m + mlen y m := by
 unfold first; rw [cum_succ y m h1 h2]; omega
theorem first_le (y : Int) {m k : Int} (h : m ≤ k) : first y m ≤ first y k := by
 unfold first; have := cum_mono y h; omega
theorem first_lo (y m : Int) : beg y ≤ first y m := by unfold first; have := cum_bd y m; omega
theorem first_hi (y m : Int) (h1 : 1 ≤ m) (h2 : m ≤ 12) : first y m + mlen y m ≤ beg (y + 1) := by
 rw [← first_succ y m h1 h2, ← first_13]; exact first_le y (by omega)
structure IsDate (y m d day : Int) : Prop where
 m1 : 1 ≤ m
 m2 : m ≤ 12
 d1 : 1 ≤ d
 d2 : d ≤ mlen y m
 day : first y m + d - 1 = day
theorem IsDate.lo {y m d day : Int} (h : IsDate y m d day) : beg y ≤ day := by
 have := first_lo y m; have := h.day; have := h.d1; omega
theorem IsDate.hi {y m d day : Int} (h : IsDate y m d day) : day < beg (y + 1) := by
 have := first_hi y m h.m1 h.m2; have := h.day; have := h.d2; omega
def yearUp : Nat → Int → Int → Int
 | 0, _, y => y
 | n + 1, day, y => if beg (y + 1) ≤ day then yearUp n day (y + 1) else y
def monthUp : Nat → Int → Int → Int → Int
 | 0, _, _, m => m
 | n + 1, day, y, m => if first y (m + 1) ≤ day then monthUp n day y (m + 1) else m
def dY (day : Int) : Int := yearUp 600 day (1800 + day / 366)
def dM (day : Int) : Int := monthUp 12 day (dY day) 1
def dD (day : Int) : Int := day - first (dY day) (dM day) + 1
def eG (y : Int) : Int := (y / 100 - (y / 100 + 8) / 25 + 1) / 3
def eH (y : Int) : Int := (19 * (y % 19) + y / 100 - y / 100 / 4 - eG y + 15) % 30
def eL (y : Int) : Int := (32 + 2 * (y / 100 % 4) + 2 * (y % 100 / 4) - eH y - y % 100 % 4) % 7
def eM (y : Int) : Int := (y % 19 + 11 * eH y + 22 * eL y) / 451
def eN (y : Int) : Int := eH y + eL y - 7 * eM y + 114
def easter (y : Int) : Int := first y (eN y / 31) + eN y % 31
end Go.Proofs.Ytfcjeejhdklkdaa.Cal
namespace Go.Proofs.Ytfcjeejhdklkdaa
open Go Go.RowKit
theorem Within_any (n lo hi : Int) (w : World) :
  Calls Try.prog 19 #[.int .i64 n, .int .i64 lo, .int .i64 hi] w fun e w' => e = .returned (.bool (decide (lo ≤ n) && decide (n ≤ hi))) ∧ w = w' := by
 by_cases h1 : lo ≤ n
 ·by_cases h2 : n ≤ hi
  all_goals
   go_enter Try.func19, Try.ntmps19
   go_wp2
   go_ret
   exact ⟨by simp; omega, rfl⟩
 ·go_enter Try.func19, Try.ntmps19
  go_wp2
  go_ret
  exact ⟨by simp; omega, rfl⟩
end Go.Proofs.Ytfcjeejhdklkdaa
namespace Go.Proofs.Ytfcjeejhdklkdaa
open Go Go.RowKit
end Go.Proofs.Ytfcjeejhdklkdaa
namespace Go.Proofs.Ytfcjeejhdklkdaa
open Go Go.RowKit
end Go.Proofs.Ytfcjeejhdklkdaa
namespace Go.Proofs.Ytfcjeejhdklkdaa
open Go Go.RowKit
end Go.Proofs.Ytfcjeejhdklkdaa
namespace Go.Proofs.Ytfcjeejhdklkdaa
open Go Go.RowKit
def Cal.laterT (day months : Int) : Int := 12 * Cal.dY day + Cal.dM day - 1 + months
def Cal.laterS (day months : Int) : Int × Bool :=
 if 1800 ≤ Cal.laterT day months / 12 ∧ Cal.laterT day months / 12 ≤ 2347 then
  (Cal.first (Cal.laterT day months / 12) (Cal.laterT day months % 12 + 1) + min (Cal.dD day) (Cal.mlen (Cal.laterT day months / 12) (Cal.laterT day months % 12 + 1)) - 1,
   decide (Cal.first (Cal.laterT day months / 12) (Cal.laterT day months % 12 + 1) + min (Cal.dD day) (Cal.mlen (Cal.laterT day months / 12) (Cal.laterT day months % 12 + 1)) - 1 ≤ 200000))
 else (0, false)
end Go.Proofs.Ytfcjeejhdklkdaa
namespace Go.Proofs.Ytfcjeejhdklkdaa
open Go Go.RowKit
end Go.Proofs.Ytfcjeejhdklkdaa
namespace Go.Proofs.Ytfcjeejhdklkdaa
open Go Go.RowKit
end Go.Proofs.Ytfcjeejhdklkdaa
namespace Go.Proofs.Ytfcjeejhdklkdaa
open Go Go.RowKit
def byteAt (s : ByteArray) (j : Nat) : Int := if h : j < s.size then (s[j].toNat : Int) else 0
theorem byteAt_eq {s : ByteArray} {j : Nat} (h : j < s.size) : byteAt s j = (s[j].toNat : Int) := by unfold byteAt; rw [dif_pos h]
def okAt (s : ByteArray) (j : Nat) : Bool := decide (97 ≤ byteAt s j ∧ byteAt s j ≤ 122) || decide (65 ≤ byteAt s j ∧ byteAt s j ≤ 90) || (decide (j ≠ 0) && (decide (byteAt s j = 45) || decide (48 ≤ byteAt s j ∧ byteAt s j ≤ 57)))
def nameB (s : ByteArray) : Bool := decide (1 ≤ s.size ∧ s.size ≤ 12 ∧ ∀ j, j < s.size → okAt s j = true)
def okTo (s : ByteArray) (k : Nat) : Prop := ∀ j, j < k → okAt s j = true
theorem okTo_zero (s : ByteArray) : okTo s 0 := fun j h => by omega
theorem okTo_succ {s : ByteArray} {k : Nat} (h : okTo s k) (h2 : okAt s k = true) : okTo s (k + 1) := fun j hj => by
 rcases Nat.lt_or_ge j k with h3 | h3
 ·exact h j h3
 ·obtain rfl : j = k := by omega
  exact h2
theorem nameB_yes {s : ByteArray} (h1 : 1 ≤ s.size) (h2 : s.size ≤ 12) (h : okTo s s.size) : nameB s = true := by unfold nameB; simp; exact ⟨h1, h2, h⟩
theorem nameB_no {s : ByteArray} {k : Nat} (h : k < s.size) (h2 : okAt s k = false) : nameB s = false := by
 unfold nameB; rw [decide_eq_false_iff_not]; rintro ⟨_, _, h3⟩; rw [h3 k h] at h2; cases h2
theorem nameB_size {s : ByteArray} (h : s.size < 1 ∨ 12 < s.size) : nameB s = false := by
 unfold nameB; rw [decide_eq_false_iff_not]; rintro ⟨_, _, _⟩; omega
theorem isEmpty_yes {s : ByteArray} (h : s.size = 0) : s.toList.isEmpty = true := by rw [ByteArray.toList_eq]; simpa using Array.eq_empty_of_size_eq_zero h
theorem isEmpty_no {s : ByteArray} (h : 1 ≤ s.size) : s.toList.isEmpty = false := by
 rw [ByteArray.toList_eq]
 cases hh : s.data.toList with
 | nil =>
  have : s.size = 0 := by have := congrArg List.length hh; simpa using this
  omega
 | cons a l => rfl
end Go.Proofs.Ytfcjeejhdklkdaa
namespace Go.Proofs.Ytfcjeejhdklkdaa
open Go Go.RowKit
end Go.Proofs.Ytfcjeejhdklkdaa
namespace Go.Proofs.Ytfcjeejhdklkdaa
open Go Go.RowKit
def Cal.holErr (kind month day weekday : Int) : Int :=
 if kind = 0 then (if 1 ≤ month ∧ month ≤ 12 ∧ 1 ≤ day ∧ day ≤ Cal.mlen 1804 month then (if weekday = 0 then 0 else 3) else 24)
 else if kind = 1 then (if -80 ≤ day ∧ day ≤ 240 then (if month = 0 ∧ weekday = 0 then 0 else 3) else 2)
 else if kind = 2 then (if 1 ≤ month ∧ month ≤ 12 then (if ((1 ≤ day ∧ day ≤ 4) ∨ day = -1) ∧ 0 ≤ weekday ∧ weekday ≤ 6 then 0 else 2) else 24)
 else 2
end Go.Proofs.Ytfcjeejhdklkdaa
namespace Go.Proofs.Ytfcjeejhdklkdaa
open Go Go.RowKit
def RowsAt (w : World) (A : Option Addr) (m : Nat) (rows : List (List Value)) : Prop :=
 ∀ k r, rows[k]? = some r → ∃ b o, A = some ⟨b, o, none⟩ ∧ b < w.heap.size ∧ ∀ j v, r[j]? = some v → w.cell? ⟨b, o + (k * m + j), none⟩ = some v
theorem RowsAt.below {w w' : World} {A : Option Addr} {m : Nat} {rows : List (List Value)} (h : RowsAt w A m rows) (hb : Below w.heap.size w w') : RowsAt w' A m rows := fun k r hr => by
 obtain ⟨b, o, hA, hlt, hc⟩ := h k r hr
 exact ⟨b, o, hA, Nat.lt_of_lt_of_le hlt hb.size, fun j v hv => (hb.cell (p := ⟨b, o + (k * m + j), none⟩) hlt).trans (hc j v hv)⟩
theorem RowsAt.nil (w : World) (A : Option Addr) (m : Nat) : RowsAt w A m [] := fun k r hr => by simp at hr
structure Prov where
 name : ByteArray
 value : Int
 fr : Int
 en : Int
 repeal : Bool
structure Hol where
 name : ByteArray
 kind : Int
 month : Int
 day : Int
 weekday : Int
def Prov.cells (p : Prov) : List Value := [.string p.name, .int .i64 p.value, .int .i64 p.fr, .int .i64 p.en, .bool p.repeal]
def Hol.cells (p : Hol) : List Value := [.string p.name, .int .i64 p.kind, .int .i64 p.month, .int .i64 p.day, .int .i64 p.weekday]
structure Provs (w : World) (A : Option Addr) (l : List Prov) : Prop where
 rows : RowsAt w A 5 (l.map Prov.cells)
 size : l.length ≤ 9223372036854775807
 names : ∀ (k : Nat) p, l[k]? = some p → p.name.size ≤ maxLen
structure Hols (w : World) (A : Option Addr) (l : List Hol) : Prop where
 rows : RowsAt w A 5 (l.map Hol.cells)
 size : l.length ≤ 9223372036854775807
 names : ∀ (k : Nat) p, l[k]? = some p → p.name.size ≤ maxLen
theorem Provs.below {w w' : World} {A : Option Addr} {l : List Prov} (h : Provs w A l) (hb : Below w.heap.size w w') : Provs w' A l := ⟨h.rows.below hb, h.size, h.names⟩
theorem Hols.below {w w' : World} {A : Option Addr} {l : List Hol} (h : Hols w A l) (hb : Below w.heap.size w w') : Hols w' A l := ⟨h.rows.below hb, h.size, h.names⟩
theorem Hols.nil (w : World) (A : Option Addr) : Hols w A [] := ⟨RowsAt.nil _ _ _, by simp, fun k p h => by simp at h⟩
theorem Provs.at_ {w : World} {A : Option Addr} {l : List Prov} (h : Provs w A l) {k : Nat} {p : Prov} (hk : l[k]? = some p) :
  ∃ b o, A = some ⟨b, o, none⟩ ∧ b < w.heap.size ∧ w.cell? ⟨b, o + k * 5, none⟩ = some (.string p.name) ∧ w.cell? ⟨b, o + k * 5 + 1, none⟩ = some (.int .i64 p.value) ∧ w.cell? ⟨b, o + k * 5 + 2, none⟩ = some (.int .i64 p.fr) ∧ w.cell? ⟨b, o + k * 5 + 3, none⟩ = some (.int .i64 p.en) ∧ w.cell? ⟨b, o + k * 5 + 4, none⟩ = some (.bool p.repeal) := by
 obtain ⟨b, o, hA, hlt, hc⟩ := h.rows k p.cells (by simp [hk])
 exact ⟨b, o, hA, hlt, hc 0 _ rfl, hc 1 _ rfl, hc 2 _ rfl, hc 3 _ rfl, hc 4 _ rfl⟩
theorem Hols.at_ {w : World} {A : Option Addr} {l : List Hol} (h : Hols w A l) {k : Nat} {p : Hol} (hk : l[k]? = some p) :
  ∃ b o, A = some ⟨b, o, none⟩ ∧ b < w.heap.size ∧ w.cell? ⟨b, o + k * 5, none⟩ = some (.string p.name) ∧ w.cell? ⟨b, o + k * 5 + 1, none⟩ = some (.int .i64 p.kind) ∧ w.cell? ⟨b, o + k * 5 + 2, none⟩ = some (.int .i64 p.month) ∧ w.cell? ⟨b, o + k * 5 + 3, none⟩ = some (.int .i64 p.day) ∧ w.cell? ⟨b, o + k * 5 + 4, none⟩ = some (.int .i64 p.weekday) := by
 obtain ⟨b, o, hA, hlt, hc⟩ := h.rows k p.cells (by simp [hk])
 exact ⟨b, o, hA, hlt, hc 0 _ rfl, hc 1 _ rfl, hc 2 _ rfl, hc 3 _ rfl, hc 4 _ rfl⟩
end Go.Proofs.Ytfcjeejhdklkdaa
namespace Go.Proofs.Ytfcjeejhdklkdaa
open Go Go.RowKit Go.Maps Go.WideMaps Go.ChangeMaps
def setAt {κ : Type} [DecidableEq κ] (f : κ → Option Value) (x0 : κ) (v : Value) : κ → Option Value := fun x => if x = x0 then some v else f x
theorem setAt_same {κ : Type} [DecidableEq κ] (f : κ → Option Value) (x : κ) (v : Value) : setAt f x v x = some v := by simp [setAt]
theorem setAt_other {κ : Type} [DecidableEq κ] (f : κ → Option Value) {x0 x : κ} (v : Value) (h : x ≠ x0) : setAt f x0 v x = f x := by simp [setAt, h]
def heldR (v : Value) : Option (DataW Value × List MemPlace) := some (.held v, [])
def MapIs {κ : Type} (P : Program) (k : TypeId) (lit : κ → Lit) (w : World) (b n : Nat) (f : κ → Option Value) : Prop :=
 ∃ D : DataW Value, w.ownsMap P k heldR b n D ∧ ∀ x, WideAt.IsKeyLit (lit x) → Maps.has D (lit x) = (f x).isSome ∧ ∀ z, D.atKey (lit x) (.held z) = .held ((f x).getD z)
variable {P : Program} {k : TypeId} {w : World} {b n : Nat} {κ : Type} {lit : κ → Lit} {f : κ → Option Value}
theorem MapIs.made (P : Program) (k : TypeId) (lit : κ → Lit) (w : World) : MapIs P k lit (w.alloc (.map #[] 0)) w.heap.size 0 (fun _ => none) :=
 ⟨.map [], World.ownsMap_made w P k heldR, fun _ _ => ⟨rfl, fun _ => rfl⟩⟩
theorem MapIs.lt (h : MapIs P k lit w b n f) : b < w.heap.size := by obtain ⟨D, h, _⟩ := h; exact h.lt
theorem MapIs.kept {w' : World} {row : Option Nat} (h : MapIs P k lit w b n f) (hg : w.grownBy w' row) (hne : some b ≠ row) : MapIs P k lit w' b n f := by
 obtain ⟨D, h, hf⟩ := h; exact ⟨D, h.kept hg hne, hf⟩
theorem MapIs.same {w' : World} (h : MapIs P k lit w b n f) (hb : w'.heap[b]? = w.heap[b]?) : MapIs P k lit w' b n f := by
 obtain ⟨D, ⟨es, clock, h1, h2⟩, hf⟩ := h
 exact ⟨D, ⟨es, clock, hb.trans h1, h2⟩, hf⟩
theorem MapIs.below {w' : World} {B : Nat} (h : MapIs P k lit w b n f) (hb : Below B w w') (hlt : b < B) : MapIs P k lit w' b n f := h.same (hb.block b hlt)
theorem MapIs.mono (h : MapIs P k lit w b n f) {n' : Nat} (hn : n ≤ n') : MapIs P k lit w b n' f := by obtain ⟨D, h, hf⟩ := h; exact ⟨D, h.mono hn, hf⟩
theorem MapIs.isMap (h : MapIs P k lit w b n f) : ∃ es c, w.heap[b]? = some (.map es c) := by obtain ⟨D, ⟨es, clock, h1, _⟩, _⟩ := h; exact ⟨es, clock, h1⟩
theorem MapIs.look {t e : TypeId} (h : MapIs P k lit w b n f) (K : Keyed P k) (ht : P.underlying t = some (.map k e)) {z : Value} (hz : (zeroValue e).run P w = .ok z w) {key : Value} {kl : κ} (hkey : keyOf P k key = some (lit kl)) :
  (Instr.lookup t (.map (some b)) key false).run P w = .ok ((f kl).getD z) w := by
 obtain ⟨D, h, hf⟩ := h
 obtain ⟨v, ps, hrun, hv⟩ := h.lookup K ht hz (zd := .held z) (zp := []) rfl hkey
 obtain ⟨_, h2⟩ := hf kl (K.key hkey)
 rw [h2 z] at hv
 simp only [heldR, Option.some.injEq, Prod.mk.injEq, DataW.held.injEq] at hv
 rw [hrun, hv.1]
theorem MapIs.store [DecidableEq κ] (hinj : ∀ x y, lit x = lit y → x = y) {t e : TypeId} (h : MapIs P k lit w b n f) (K : Keyed P k) (ht : P.underlying t = some (.map k e)) (hn : n < maxLen) {key val : Value} {kl : κ} (hkey : keyOf P k key = some (lit kl)) :
  ∃ w', (Instr.mapUpdate t (.map (some b)) key val).run P w = .ok () w' ∧ MapIs P k lit w' b (n + 1) (setAt f kl val) ∧ w.grownBy w' (some b) ∧ w'.heap.size = w.heap.size := by
 obtain ⟨D, h, hf⟩ := h
 have hm := h.isMap
 obtain ⟨w', hrun, h1, h2⟩ := h.store K ht hn hkey (val := val) (d := .held val) (ps := []) rfl
 refine ⟨w', hrun, ⟨D.put (lit kl) (.held val), h1, fun x hx => ?_⟩, h2.grown, ?_⟩
 ·by_cases he : x = kl
  ·subst he
   rw [setAt_same]
   exact ⟨by rw [has_put_same hm hx]; rfl, fun z => by rw [atKey_put_same hm hx]; rfl⟩
  ·rw [setAt_other _ _ he]
   obtain ⟨a1, a2⟩ := hf x hx
   exact ⟨by rw [has_put_other (fun e => he (hinj _ _ e))]; exact a1, fun z => by rw [atKey_put_other (fun e => he (hinj _ _ e))]; exact a2 z⟩
 ·obtain ⟨es, c, es', c', _, rfl⟩ := h2
  simp [setBlock]
end Go.Proofs.Ytfcjeejhdklkdaa
namespace Go.Proofs.Ytfcjeejhdklkdaa
open Go Go.RowKit Go.Maps Go.WideMaps
def Cal.holErrOf (h : Hol) : Int := Cal.holErr h.kind h.month h.day h.weekday
def hasName (seen : List Hol) (nm : ByteArray) : Bool := seen.any fun q => q.name.toList == nm.toList
def Cal.holsErrFrom (seen : List Hol) : List Hol → Int
 | [] => 0
 | h :: r => if nameB h.name = true then (if hasName seen h.name = true then 5 else if Cal.holErrOf h = 0 then Cal.holsErrFrom (seen ++ [h]) r else Cal.holErrOf h) else 4
def Cal.holsErr (l : List Hol) : Int := if 40 < l.length then 8 else Cal.holsErrFrom [] l
theorem boolZero (w : World) : (zeroValue 4).run Try.prog w = .ok (.bool false) w := by kernel_rfl
def NamesOf (seen : List Hol) (f : List UInt8 → Option Value) : Prop := ∀ nm : ByteArray, (f nm.data.toList).getD (.bool false) = .bool (hasName seen nm)
theorem NamesOf.start : NamesOf [] (fun _ => none) := fun _ => rfl
theorem NamesOf.step {seen : List Hol} {f : List UInt8 → Option Value} (h : NamesOf seen f) (q : Hol) : NamesOf (seen ++ [q]) (setAt f q.name.data.toList (.bool true)) := fun nm => by
 have e : hasName (seen ++ [q]) nm = (hasName seen nm || (q.name.toList == nm.toList)) := by simp [hasName]
 rw [e]
 by_cases hn : nm.data.toList = q.name.data.toList
 ·rw [hn, setAt_same]
  have : (q.name.toList == nm.toList) = true := by rw [ByteArray.toList_eq, ByteArray.toList_eq, hn]; simp
  rw [this]; simp
 ·rw [setAt_other _ _ hn, h nm]
  have : (q.name.toList == nm.toList) = false := by rw [ByteArray.toList_eq, ByteArray.toList_eq]; simp; exact fun h => hn (by rw [h])
  rw [this]; simp
end Go.Proofs.Ytfcjeejhdklkdaa
namespace Go.Proofs
open Go.Shelf
def Try.lays125_ren : Go.Shelf.Ren := ⟨fun | 125 => 117 | 128 => 127 | 129 => 128 | n => n, fun | 46 => 83 | 3 => 3 | 51 => 155 | 53 => 157 | 4 => 4 | 5 => 5 | 9 => 9 | n => n, fun | n => n⟩
theorem Try.lays125 : Go.Proofs.Lays.n125 Try.prog Try.lays125_ren := {
 mixed := by kernel_rfl
 f125 := Try.func117.trans (congrArg some (by kernel_rfl))
 f128 := Try.func127.trans (congrArg some (by kernel_rfl))
 f129 := Try.func128.trans (congrArg some (by kernel_rfl))
 t3 := Try.underlying3
 a3 := Try.isAgg3
 z3 := Try.sizeOf3
 v3 := Try.zeroValue3
 t4 := Try.underlying4
 a4 := Try.isAgg4
 z4 := Try.sizeOf4
 v4 := Try.zeroValue4
 t5 := Try.underlying5
 a5 := Try.isAgg5
 z5 := Try.sizeOf5
 v5 := Try.zeroValue5
 t9 := Try.underlying9
 a9 := Try.isAgg9
 z9 := Try.sizeOf9
 v9 := Try.zeroValue9
 t46 := Try.underlying83
 a46 := Try.isAgg83
 z46 := Try.sizeOf83
 v46 := Try.zeroValue83
 t51 := Try.underlying155
 a51 := Try.isAgg155
 z51 := Try.sizeOf155
 v51 := Try.zeroValue155
 t53 := Try.underlying157
 a53 := Try.isAgg157
 z53 := Try.sizeOf157
 v53 := Try.zeroValue157 }
theorem Try.bits_Len (x : Int) (w : World) (h0 : 0 ≤ x) (h1 : x ≤ 18446744073709551615) :
  Calls Try.prog 117 #[.int .u64 x] w fun e w' => e = .returned (.int .i64 (Lib.bitLen x.toNat)) ∧ w' = w := Any.bits_Len Try.lays125 x w h0 h1
def Try.lays122_ren : Go.Shelf.Ren := ⟨fun | 122 => 115 | 215 => 118 | n => n, fun | 3 => 3 | 4 => 4 | n => n, fun | n => n⟩
theorem Try.lays122 : Go.Proofs.Lays.n122 Try.prog Try.lays122_ren := {
 mixed := by kernel_rfl
 f122 := Try.func115.trans (congrArg some (by kernel_rfl))
 f215 := Try.func118.trans (congrArg some (by kernel_rfl))
 t3 := Try.underlying3
 a3 := Try.isAgg3
 z3 := Try.sizeOf3
 v3 := Try.zeroValue3
 t4 := Try.underlying4
 a4 := Try.isAgg4
 z4 := Try.sizeOf4
 v4 := Try.zeroValue4 }
open Go.RowKit in
theorem Try.cmp_Compare_int (x y : Int) (w : World) :
  Calls Try.prog 115 #[.int .i64 x, .int .i64 y] w fun e w' => e = .returned (.int .i64 (Lib.compareInt x y)) ∧ w' = w := Any.cmp_Compare_int Try.lays122 x y w
end Go.Proofs
namespace Go.Proofs.Ytfcjeejhdklkdaa
open Go Go.RowKit Go.Maps Go.WideMaps
def Cal.onS (h : Hol) (y : Int) : Option Int :=
 if h.kind = 0 then (if h.day ≤ Cal.mlen y h.month then some (Cal.first y h.month + h.day - 1) else none)
 else if h.kind = 1 then some (Cal.easter y + h.day)
 else if 0 < h.day then some (Cal.first y h.month + (h.weekday - (Cal.first y h.month + 2) % 7 + 7) % 7 + 7 * (h.day - 1))
 else some (Cal.first y h.month + Cal.mlen y h.month - 1 - (Cal.first y h.month + Cal.mlen y h.month - 1 - (Cal.first y h.month + (h.weekday - (Cal.first y h.month + 2) % 7 + 7) % 7)) % 7)
def Cal.hols (l : List Hol) (y : Int) : List Int := l.filterMap fun h => Cal.onS h y
def Cal.worksB (l : List Hol) (d : Int) : Bool := decide ((d + 2) % 7 ≤ 4) && !(Cal.hols l (Cal.dY d)).contains d
def HolsAre (zs : List Int) (l : List Hol) (y : Int) : Prop := zs.Pairwise (· < ·) ∧ ∀ d, d ∈ zs ↔ d ∈ Cal.hols l y
def SliceOf (W : World) (B : Nat) (v : Value) (zs : List Int) : Prop :=
 ∃ A c, v = .slice A zs.length c ∧ zs.length ≤ 1000000 ∧ (zs ≠ [] → ∃ g cs t, A = some ⟨g, 0, none⟩ ∧ B ≤ g ∧ W.heap[g]? = some (.cells cs t (0, 0)) ∧ ∀ (j : Nat) x, zs[j]? = some x → cs[j]? = some (.int .i64 x))
theorem SliceOf.keep {W W' : World} {B : Nat} {v : Value} {zs : List Int} (h : SliceOf W B v zs) (hk : ∀ (g : Nat) cs t, B ≤ g → W.heap[g]? = some (.cells cs t (0, 0)) → W'.heap[g]? = some (.cells cs t (0, 0))) : SliceOf W' B v zs := by
 obtain ⟨A, c, hv, hz, h⟩ := h
 exact ⟨A, c, hv, hz, fun hne => by obtain ⟨g, cs, t, h1, h2, h3, h4⟩ := h hne; exact ⟨g, cs, t, h1, h2, hk g cs t h2 h3, h4⟩⟩
theorem SliceOf.below {W W' : World} {B : Nat} {v : Value} {zs : List Int} (h : SliceOf W B v zs) (hb : Below W.heap.size W W') : SliceOf W' B v zs :=
 h.keep fun g _ _ _ hg => (hb.block g (Array.getElem?_eq_some_iff.1 hg).1).trans hg
theorem SliceOf.cells {W : World} {B : Nat} {v : Value} {zs : List Int} (h : SliceOf W B v zs) (hne : zs ≠ []) : ∃ g c, v = .slice (some ⟨g, 0, none⟩) zs.length c ∧ zs.length ≤ 1000000 ∧ ∀ j, j < zs.length → W.cell? ⟨g, 0 + j, none⟩ = some (.int .i64 (zs.getD j 0)) := by
 obtain ⟨A, c, hv, hz, h⟩ := h
 obtain ⟨g, cs, t, rfl, _, h3, h4⟩ := h hne
 refine ⟨g, c, hv, hz, fun j hj => ?_⟩
 have := h4 j zs[j] (List.getElem?_eq_getElem hj)
 rw [cell_of_row W g (0 + j) cs t (0, 0) h3, Nat.zero_add, this]
 simp [List.getD, hj]
def intLit (x : Int) : Lit := .int .i64 x
def CacheOk (W : World) (B m n : Nat) (l : List Hol) : Prop := ∃ f : Int → Option Value, MapIs Try.prog 3 intLit W m n f ∧ ∀ y v, f y = some v → ∃ zs, SliceOf W B v zs ∧ HolsAre zs l y
theorem CacheOk.keep {W W' : World} {B m n : Nat} {l : List Hol} (h : CacheOk W B m n l) (hm : W'.heap[m]? = W.heap[m]?) (hk : ∀ (g : Nat) cs t, B ≤ g → W.heap[g]? = some (.cells cs t (0, 0)) → W'.heap[g]? = some (.cells cs t (0, 0))) : CacheOk W' B m n l := by
 obtain ⟨f, h1, h2⟩ := h
 exact ⟨f, h1.same hm, fun y v hv => by obtain ⟨zs, a, b⟩ := h2 y v hv; exact ⟨zs, a.keep hk, b⟩⟩
theorem CacheOk.below {W W' : World} {B m n : Nat} {l : List Hol} (h : CacheOk W B m n l) (hb : Below W.heap.size W W') : CacheOk W' B m n l := by
 obtain ⟨f, h1, h2⟩ := h
 exact ⟨f, h1.below hb h1.lt, fun y v hv => by obtain ⟨zs, a, b⟩ := h2 y v hv; exact ⟨zs, a.below hb, b⟩⟩
theorem CacheOk.mono {W : World} {B m n n' : Nat} {l : List Hol} (h : CacheOk W B m n l) (hn : n ≤ n') : CacheOk W B m n' l := by
 obtain ⟨f, h1, h2⟩ := h; exact ⟨f, h1.mono hn, h2⟩
theorem grownBy_trans {a b c : World} {row : Option Nat} (h : a.grownBy b row) (k : b.grownBy c row) : a.grownBy c row :=
 ⟨k.os.trans h.os, k.tape.trans h.tape, k.output.trans h.output, Nat.le_trans h.size k.size, fun i hi hne => (k.block i (Nat.lt_of_lt_of_le hi h.size) hne).trans (h.block i hi hne)⟩
end Go.Proofs.Ytfcjeejhdklkdaa
namespace Go.Proofs.Ytfcjeejhdklkdaa.Cal
section
variable {day : Int} (h0 : 0 ≤ day) (h1 : day ≤ 200000)
include h0 h1
end
def Good (a b m : Int) : Prop := (laterS a m).2 = true ∧ (laterS a m).1 ≤ b
instance (a b m : Int) : Decidable (Good a b m) := inferInstanceAs (Decidable (_ ∧ _))
section
variable {a b : Int} (h0 : 0 ≤ a) (h : a ≤ b) (h1 : b ≤ 200000)
include h0 h h1
end
end Go.Proofs.Ytfcjeejhdklkdaa.Cal
namespace Go.Proofs.Ytfcjeejhdklkdaa.Cal
open Go.Lib
theorem up_ext : ∀ {xs ys : List Int}, xs.Pairwise (· < ·) → ys.Pairwise (· < ·) → (∀ d, d ∈ xs ↔ d ∈ ys) → xs = ys
 | [], [], _, _, _ => rfl
 | [], y :: ys, _, _, h => absurd ((h y).2 (List.mem_cons_self ..)) (by simp)
 | x :: xs, [], _, _, h => absurd ((h x).1 (List.mem_cons_self ..)) (by simp)
 | x :: xs, y :: ys, hx, hy, h => by
  rw [List.pairwise_cons] at hx hy
  have e : x = y := by
   rcases Int.lt_trichotomy x y with hlt | he | hgt
   ·exfalso
    rcases List.mem_cons.1 ((h x).1 (List.mem_cons_self ..)) with he | hm
    ·omega
    ·have := hy.1 x hm; omega
   ·exact he
   ·exfalso
    rcases List.mem_cons.1 ((h y).2 (List.mem_cons_self ..)) with he | hm
    ·omega
    ·have := hx.1 y hm; omega
  subst e
  congr 1
  refine up_ext hx.2 hy.2 fun d => ⟨fun hd => ?_, fun hd => ?_⟩
  ·rcases List.mem_cons.1 ((h d).1 (List.mem_cons_of_mem _ hd)) with he | hm
   ·have := hx.1 d hd; omega
   ·exact hm
  ·rcases List.mem_cons.1 ((h d).2 (List.mem_cons_of_mem _ hd)) with he | hm
   ·have := hy.1 d hd; omega
   ·exact hm
end Go.Proofs.Ytfcjeejhdklkdaa.Cal
namespace Go.Proofs.Ytfcjeejhdklkdaa.Cal
section
variable {h : Hol} {d : Int} (hh : holErrOf h = 0) (h0 : 0 ≤ d) (h1 : d ≤ 200000)
include hh h0 h1
end
end Go.Proofs.Ytfcjeejhdklkdaa.Cal
namespace Go.Proofs.Ytfcjeejhdklkdaa
open Go Go.RowKit
end Go.Proofs.Ytfcjeejhdklkdaa
namespace Go.Proofs.Ytfcjeejhdklkdaa
open Go Go.RowKit
end Go.Proofs.Ytfcjeejhdklkdaa
namespace Go.Proofs.Ytfcjeejhdklkdaa
open Go Go.RowKit
end Go.Proofs.Ytfcjeejhdklkdaa
namespace Go.Proofs.Ytfcjeejhdklkdaa
open Go Go.RowKit
end Go.Proofs.Ytfcjeejhdklkdaa
namespace Go.Proofs.Ytfcjeejhdklkdaa
open Go Go.RowKit
end Go.Proofs.Ytfcjeejhdklkdaa
namespace Go.Proofs.Ytfcjeejhdklkdaa
open Go Go.RowKit
def intRows (ns : List Int) : List (List Value) := ns.map fun n => [.int .i64 n]
end Go.Proofs.Ytfcjeejhdklkdaa
namespace Go.Proofs.Ytfcjeejhdklkdaa
open Go Go.RowKit
theorem flat_get {m : Nat} : ∀ {rows : List (List Value)} {k j : Nat} {r : List Value} {v : Value}, (∀ r ∈ rows, r.length = m) → rows[k]? = some r → r[j]? = some v → rows.flatten[k * m + j]? = some v
 | [], k, _, _, _, _, h, _ => by simp at h
 | q :: rows, 0, j, r, v, hw, h, hv => by
  simp only [List.getElem?_cons_zero, Option.some.injEq] at h
  subst h
  rw [List.flatten_cons, Nat.zero_mul, Nat.zero_add, List.getElem?_append_left (List.getElem?_eq_some_iff.1 hv).1, hv]
 | q :: rows, k + 1, j, r, v, hw, h, hv => by
  simp only [List.getElem?_cons_succ] at h
  have hq := hw q (List.mem_cons_self ..)
  have ih := flat_get (fun r hr => hw r (List.mem_cons_of_mem _ hr)) h hv
  rw [List.flatten_cons, List.getElem?_append_right (by rw [hq, Nat.succ_mul]; omega), hq, show (k + 1) * m + j - m = k * m + j by rw [Nat.succ_mul]; omega, ih]
theorem flat_len {m : Nat} : ∀ {rows : List (List Value)}, (∀ r ∈ rows, r.length = m) → rows.flatten.length = rows.length * m
 | [], _ => by simp
 | q :: rows, hw => by
  rw [List.flatten_cons, List.length_append, hw q (List.mem_cons_self ..), flat_len (fun r hr => hw r (List.mem_cons_of_mem _ hr)), List.length_cons, Nat.succ_mul]; omega
theorem flat_of {m : Nat} (hm : 0 < m) {rows : List (List Value)} (hw : ∀ r ∈ rows, r.length = m) {i : Nat} {v : Value} (h : rows.flatten[i]? = some v) : ∃ r, rows[i / m]? = some r ∧ r[i % m]? = some v := by
 have hl := (List.getElem?_eq_some_iff.1 h).1
 rw [flat_len hw] at hl
 have hk : i / m < rows.length := Nat.div_lt_of_lt_mul (by rw [Nat.mul_comm]; exact hl)
 have hr := List.getElem?_eq_getElem hk
 have hlen := hw _ (List.getElem_mem hk)
 have hj : i % m < rows[i / m].length := by rw [hlen]; exact Nat.mod_lt _ hm
 refine ⟨_, hr, ?_⟩
 have h2 := flat_get hw hr (List.getElem?_eq_getElem hj)
 rw [Nat.mul_comm, Nat.div_add_mod] at h2
 rw [List.getElem?_eq_getElem hj, ← h2, h]
structure OwnL (w : World) (B : Nat) (E : TypeId) (m : Nat) (v : Value) (rows : List (List Value)) : Prop where
 own : w.ownsRow B E m v rows.length rows.flatten
 wid : ∀ r ∈ rows, r.length = m
 one : ∀ r ∈ rows, ∀ u ∈ r, u.oneCell' = true
theorem addr_add (g j : Nat) (o : Nat) : (⟨g, o, none⟩ : Addr).add j = ⟨g, o + j, none⟩ := by unfold Addr.add; split <;> simp_all
theorem OwnL.form {w : World} {B : Nat} {E : TypeId} {m : Nat} {v : Value} {rows : List (List Value)} (h : OwnL w B E m v rows) : ∃ A c, v = .slice A rows.length c ∧ RowsAt w A m rows := by
 obtain ⟨hown, hw, _⟩ := h
 have hc := fun g (hg : v.ownBlock = some g) => hown.cells hg
 rcases hown.2 with ⟨rfl, h0⟩ | ⟨g, cap, cur, rfl, _, hg, _⟩
 ·exact ⟨none, 0, by rw [h0], fun k r hr => by rw [List.eq_nil_of_length_eq_zero h0] at hr; simp at hr⟩
 ·refine ⟨_, _, rfl, fun k r hr => ⟨g, 0, rfl, (Array.getElem?_eq_some_iff.1 hg).1, fun j u hu => ?_⟩⟩
  have := hc g rfl _ u (flat_get hw hr hu)
  rw [addr_add] at this
  exact this
theorem OwnL.nil (w : World) (B : Nat) (E : TypeId) (m : Nat) : OwnL w B E m (.slice none 0 0) [] := ⟨World.ownsRow_nil w B E m, fun r h => (by simp at h), fun r h => (by simp at h)⟩
theorem OwnL.made (w : World) (B : Nat) (E : TypeId) (m : Nat) (hb : B ≤ w.heap.size) : OwnL (w.alloc (.cells #[] E)) B E m (.slice (some ⟨w.heap.size, 0, none⟩) 0 0) [] :=
 ⟨World.ownsRow_made w #[] 0 hb (Nat.zero_le _) (by simp), fun r h => (by simp at h), fun r h => (by simp at h)⟩
theorem OwnL.less {w : World} {B B' : Nat} {E : TypeId} {m : Nat} {v : Value} {rows : List (List Value)} (h : OwnL w B E m v rows) (hB : B' ≤ B) : OwnL w B' E m v rows := by
 refine ⟨⟨h.own.1, ?_⟩, h.wid, h.one⟩
 rcases h.own.2 with h | ⟨g, cap, cur, h1, h2, h3⟩
 ·exact .inl h
 ·exact .inr ⟨g, cap, cur, h1, by omega, h3⟩
theorem OwnL.kept {w w' : World} {row : Option Nat} {B : Nat} {E : TypeId} {m : Nat} {v : Value} {rows : List (List Value)} (h : OwnL w B E m v rows) (hg : w.grownBy w' row) (hne : v.ownBlock = none ∨ v.ownBlock ≠ row) : OwnL w' B E m v rows :=
 ⟨h.own.kept hg hne, h.wid, h.one⟩
theorem OwnL.below {w w' : World} {B : Nat} {E : TypeId} {m : Nat} {v : Value} {rows : List (List Value)} (h : OwnL w B E m v rows) (hb : Below w.heap.size w w') : OwnL w' B E m v rows :=
 h.kept (row := none) ⟨hb.os, hb.tape, hb.output, hb.size, fun i hi _ => hb.block i hi⟩ (by cases v.ownBlock <;> simp)
theorem OwnL.lt {w : World} {B : Nat} {E : TypeId} {m : Nat} {v : Value} {rows : List (List Value)} (h : OwnL w B E m v rows) : ∀ g, v.ownBlock = some g → B ≤ g ∧ g < w.heap.size := h.own.lt
structure Elem (P : Program) (t e : TypeId) (m bytes : Nat) : Prop where
 und : P.underlying t = some (.slice e)
 info : ∃ i z, P.info? e = some i ∧ i.zero = some z ∧ i.size = m ∧ i.bytes = bytes ∧ z.cells.size = m
 pos : 0 < m
theorem Elem.mk' {P : Program} {t e : TypeId} {m bytes : Nat} {z : Value} (hu : P.underlying t = some (.slice e)) (h : (P.info? e).map (fun i => (i.zero, i.size, i.bytes)) = some (some z, m, bytes)) (hz : z.cells.size = m) (hm : 0 < m) : Elem P t e m bytes := by
 obtain ⟨i, hi, h1, h2, h3⟩ := info_parts h
 exact ⟨hu, ⟨i, z, hi, h1, h2, h3, hz⟩, hm⟩
theorem run_append_none_any {P : Program} {w : World} (base : Nat) (t ty e : TypeId) (i : TypeInfo) (size c : Nat) (ht : P.underlying t = some (.slice e)) (hi : P.info? e = some i)
  (v : Value) (n : Nat) (xs : List Value) (hown : w.ownsRow base e size v n xs) :
  (Builtin.append_ #[t, t] ty #[v, .slice none 0 c]).run P w = .ok v w := by
 rcases hown.2 with ⟨rfl, rfl⟩ | ⟨g, cap, cur, rfl, _, _, hnc, _⟩
 ·simp [Builtin.append_, run_underlying ht, sizeOf, typeInfo, hi, Builtin.lenOf, Builtin.firstCells]
 ·simp [Builtin.append_, run_underlying ht, sizeOf, typeInfo, hi, Builtin.lenOf, Builtin.firstCells, hnc, storeCells]
theorem run_append_rows {P : Program} {t e : TypeId} {m bytes : Nat} (el : Elem P t e m bytes) (ty : TypeId) {w : World} {B : Nat} {v : Value} {rows : List (List Value)} (h : OwnL w B e m v rows)
  {A : Option Addr} {n c : Nat} {rows2 : List (List Value)} (h2 : RowsAt w A m rows2) (hn : n = rows2.length) (hw : ∀ r ∈ rows2, r.length = m) (h1 : ∀ r ∈ rows2, ∀ u ∈ r, u.oneCell' = true)
  (h63 : rows.length + rows2.length ≤ 4000000000) (hby : bytes ≤ 10000) (hbase : B ≤ w.heap.size) :
  ∃ v' w', (Builtin.append_ #[t, t] ty #[v, .slice A n c]).run P w = .ok v' w' ∧ OwnL w' B e m v' (rows ++ rows2) ∧ w.grownBy w' v.ownBlock ∧ (v'.ownBlock = v.ownBlock ∨ v'.ownBlock = some w.heap.size) := by
 subst hn
 obtain ⟨i, z, hi, hz, hsize, hb, hzs⟩ := el.info
 have hwid : ∀ r ∈ rows ++ rows2, r.length = m := fun r hr => by rcases List.mem_append.1 hr with h' | h'; exact h.wid r h'; exact hw r h'
 have hone : ∀ r ∈ rows ++ rows2, ∀ u ∈ r, u.oneCell' = true := fun r hr => by rcases List.mem_append.1 hr with h' | h'; exact h.one r h'; exact h1 r h'
 have hml : 4000000000 * 10000 ≤ 140737488355328 := by decide
 have hbb : (rows.length + rows2.length) * bytes ≤ 140737488355328 := Nat.le_trans (Nat.mul_le_mul h63 hby) hml
 cases A with
 | none =>
  have h0 : rows2 = [] := by
   cases rows2 with
   | nil => rfl
   | cons q r => obtain ⟨b, o, hA, _⟩ := h2 0 q rfl; cases hA
  subst h0
  refine ⟨v, w, run_append_none_any (P := P) (w := w) B t ty e i m c el.und hi v _ _ h.own, ?_, ⟨rfl, rfl, rfl, Nat.le_refl _, fun _ _ _ => rfl⟩, .inl rfl⟩
  rw [List.append_nil]; exact h
 | some ad =>
  have hlen2 : rows2.flatten.length = rows2.length * m := flat_len hw
  have hnews : ∀ j u, rows2.flatten[j]? = some u → w.cell? (ad.add j) = some u := fun j u hu => by
   obtain ⟨r, hr, hru⟩ := flat_of el.pos hw hu
   obtain ⟨b, o, hA, _, hc⟩ := h2 _ r hr
   cases hA
   have := hc _ u hru
   rw [addr_add, ← this]
   rw [show j / m * m + j % m = j by rw [Nat.mul_comm]; exact Nat.div_add_mod ..]
  have hon : ∀ u ∈ rows2.flatten, u.oneCell' = true := fun u hu => by obtain ⟨r, hr, hur⟩ := List.mem_flatten.1 hu; exact h1 r hr u hur
  obtain ⟨v', w', hr, ho, hg, _, hob⟩ := run_append_own_at (P := P) w B t ty e i z m bytes el.und hi hz hsize hb hzs el.pos v rows.length rows.flatten h.own ad rows2.length c rows2.flatten hlen2 hnews hon (by unfold maxLen; omega) hbb hbase
  refine ⟨v', w', hr, ⟨?_, hwid, hone⟩, hg, hob⟩
  rw [List.length_append, List.flatten_append]; exact ho
theorem wp_of_append {P : Program} {w w' : World} {o : Oper} {a : Act} {K : Act → World → Prop} {Q : Exit → Act → World → Prop} (s x : Operand) (t : TypeId)
  (ho : o.op = .call { callee := .builtin .append, args := #[s, x], argTypes := #[t, t] }) {v u v' : Value} (hs : a.eval s = v) (hx : a.eval x = u)
  (hr : (Builtin.append_ #[t, t] o.type #[v, u]).run P w = .ok v' w') (h : K (a.put o.dst v') w') : o.wp P a w K Q := by
 unfold Oper.wp execOp
 simp only [ho, resolve, invoke, builtin, Sem.run_bind, Sem.run_pure, Result.andThen_ok, List.map_toArray, List.map_cons, List.map_nil, hs, hx, hr]
 exact h
theorem wpList_append_rows {P : Program} {t e : TypeId} {m bytes : Nat} (el : Elem P t e m bytes) {w : World} {ops : Array Oper} {rest : List Oper} {o : Oper} {a : Act} {Q : Exit → Act → World → Prop} (hgd : o.guard = none) (s x : Operand)
  (ho : o.op = .call { callee := .builtin .append, args := #[s, x], argTypes := #[t, t] }) {v : Value} {A : Option Addr} {n c : Nat} (hs : a.eval s = v) (hx : a.eval x = .slice A n c)
  {B : Nat} {rows : List (List Value)} (h : OwnL w B e m v rows) {rows2 : List (List Value)} (h2 : RowsAt w A m rows2) (hn : n = rows2.length) (hw : ∀ r ∈ rows2, r.length = m) (h1 : ∀ r ∈ rows2, ∀ u ∈ r, u.oneCell' = true)
  (h63 : rows.length + rows2.length ≤ 4000000000) (hby : bytes ≤ 10000) (hbase : B ≤ w.heap.size)
  (hK : ∀ v' w', OwnL w' B e m v' (rows ++ rows2) → w.grownBy w' v.ownBlock → (v'.ownBlock = v.ownBlock ∨ v'.ownBlock = some w.heap.size) → wpList P ops Q rest (a.put o.dst v') w') : wpList P ops Q (o :: rest) a w :=
 wpList_plain hgd fun _ hK' => by
  obtain ⟨v', w', hr, h3, h4, h5⟩ := run_append_rows el o.type h h2 hn hw h1 h63 hby hbase
  exact wp_of_append s x t ho hs hx hr (hK' _ _ (hK v' w' h3 h4 h5))
theorem step_append_rows {P : Program} {t e : TypeId} {m bytes : Nat} (el : Elem P t e m bytes) {w : World} {ops : Array Oper} {o : Oper} {a : Act} {K : Act → World → Prop} {Q : Exit → Act → World → Prop} {E : Prop} (hgd : o.guard = none) (s x : Operand)
  (ho : o.op = .call { callee := .builtin .append, args := #[s, x], argTypes := #[t, t] }) {v : Value} {A : Option Addr} {n c : Nat} (hs : a.eval s = v) (hx : a.eval x = .slice A n c)
  {B : Nat} {rows : List (List Value)} (h : OwnL w B e m v rows) {rows2 : List (List Value)} (h2 : RowsAt w A m rows2) (hn : n = rows2.length) (hw : ∀ r ∈ rows2, r.length = m) (h1 : ∀ r ∈ rows2, ∀ u ∈ r, u.oneCell' = true)
  (h63 : rows.length + rows2.length ≤ 4000000000) (hby : bytes ≤ 10000) (hbase : B ≤ w.heap.size)
  (hK : ∀ v' w', OwnL w' B e m v' (rows ++ rows2) → w.grownBy w' v.ownBlock → (v'.ownBlock = v.ownBlock ∨ v'.ownBlock = some w.heap.size) → K (a.put o.dst v') w') : if Region.wanted o (yielded ops a.tmps) = true then Oper.wp P o a w K Q else E := by
 have hwt : Region.wanted o (yielded ops a.tmps) = true := by simp [Region.wanted, hgd]
 rw [if_pos hwt]
 obtain ⟨v', w', hr, h3, h4, h5⟩ := run_append_rows el o.type h h2 hn hw h1 h63 hby hbase
 exact wp_of_append s x t ho hs hx hr (hK v' w' h3 h4 h5)
theorem rowsAt_new (w : World) (r : List Value) (t : TypeId) : RowsAt (w.alloc (.cells r.toArray t)) (some ⟨w.heap.size, 0, none⟩) r.length [r] := fun k q hq => by
 match k, hq with
 | 0, hq =>
  simp only [List.getElem?_cons_zero, Option.some.injEq] at hq
  subst hq
  refine ⟨w.heap.size, 0, rfl, by simp, fun j v hv => ?_⟩
  rw [cell_of_row _ _ _ r.toArray t (0, 0) (heap_alloc_new w _)]
  simpa using hv
theorem grown_below {w w' : World} {B : Nat} {v : Value} (h : w.grownBy w' v.ownBlock) (hB : ∀ g, v.ownBlock = some g → B ≤ g) (hs : B ≤ w.heap.size) : Below B w w' :=
 (Below.refl _ _).grown h hs (fun k e => hB k e)
end Go.Proofs.Ytfcjeejhdklkdaa
namespace Go.Proofs.Ytfcjeejhdklkdaa
open Go Go.RowKit Go.Sort
def IntsL (w : World) (B : Nat) (v : Value) (zs : List Int) : Prop := OwnL w B 3 1 v (intRows zs)
theorem intRows_length (zs : List Int) : (intRows zs).length = zs.length := by unfold intRows; simp
theorem intRows_wid (zs : List Int) : ∀ r ∈ intRows zs, r.length = 1 := fun r hr => by obtain ⟨n, _, rfl⟩ := List.mem_map.1 hr; rfl
theorem intRows_one (zs : List Int) : ∀ r ∈ intRows zs, ∀ u ∈ r, u.oneCell' = true := fun r hr u hu => by
 obtain ⟨n, _, rfl⟩ := List.mem_map.1 hr
 simp only [List.mem_singleton] at hu; subst hu; rfl
theorem intRows_flat (zs : List Int) : (intRows zs).flatten = zs.map (Value.int .i64) := by
 induction zs with
 | nil => rfl
 | cons z zs ih => unfold intRows at ih ⊢; rw [List.map_cons, List.flatten_cons, ih]; rfl
theorem elemInt : Elem Try.prog 23 3 1 8 := Elem.mk' Try.underlying23 (z := .int .i64 0) (by kernel_rfl) rfl (by decide)
theorem IntsL.own {w : World} {B : Nat} {v : Value} {zs : List Int} (h : IntsL w B v zs) : w.ownsRow B 3 1 v zs.length (zs.map (Value.int .i64)) := by
 have := OwnL.own h
 rwa [intRows_length, intRows_flat] at this
theorem IntsL.of {w : World} {B : Nat} {v : Value} {zs : List Int} (h : w.ownsRow B 3 1 v zs.length (zs.map (Value.int .i64))) : IntsL w B v zs :=
 ⟨by rw [intRows_length, intRows_flat]; exact h, intRows_wid zs, intRows_one zs⟩
theorem IntsL.rows {w : World} {B : Nat} {v : Value} {zs : List Int} (h : IntsL w B v zs) : ∃ A c, v = .slice A zs.length c ∧ RowsAt w A 1 (intRows zs) := by
 obtain ⟨A, c, hv, hr⟩ := OwnL.form h
 exact ⟨A, c, by rw [hv, intRows_length], hr⟩
theorem IntsL.below {w w' : World} {B : Nat} {v : Value} {zs : List Int} (h : IntsL w B v zs) (hb : Below w.heap.size w w') : IntsL w' B v zs := OwnL.below h hb
end Go.Proofs.Ytfcjeejhdklkdaa
namespace Go.Proofs.Ytfcjeejhdklkdaa
open Go Go.RowKit
def isBook : Obj → Bool
 | .loop _ => true
 | .deferred _ => true
 | _ => false
theorem not_cells_of_book {o : Obj} (h : isBook o = true) : o.isCells = false := by cases o <;> simp_all [isBook, Obj.isCells]
variable {F : Fence} {n : Nat} {P : Program}
end Go.Proofs.Ytfcjeejhdklkdaa
namespace Go.Proofs.Ytfcjeejhdklkdaa
open Go Go.RowKit Go.Shelf
attribute [local go_sem] Oper.semAt_some
def stepsLeft (step d : Int) : Nat := if step = 1 then (200001 - d).toNat else (d + 1).toNat
structure Where where
 cb : Nat
 m : Nat
 A : Option Addr
 c : Nat
 l : List Hol
 B : Nat
 bf : Nat
 bs : Nat
 bc : Nat
 step : Int
 start : Int
def CacheAt (K : Where) (d : Int) (W : World) : Prop := ∃ n, CacheOk W K.B K.m n K.l ∧ n + stepsLeft K.step d ≤ 600000
end Go.Proofs.Ytfcjeejhdklkdaa
namespace Go.Proofs.Ytfcjeejhdklkdaa
open Go Go.RowKit Go.Shelf
attribute [local go_sem] Oper.semAt_some
def Cal.addFrom (l : List Hol) (step : Int) : Nat → Int → Int → Option Int
 | 0, _, _ => none
 | f + 1, d, left => if 0 ≤ d ∧ d ≤ 200000 then (if Cal.worksB l d = true then (if left = 0 then some d else Cal.addFrom l step f (d + step) (left - 1)) else Cal.addFrom l step f (d + step) left) else none
def Cal.addW (l : List Hol) (day n : Int) : Option Int :=
 if n = 0 then Cal.addFrom l 1 (stepsLeft 1 day) day 0 else if n < 0 then Cal.addFrom l (-1) (stepsLeft (-1) (day - 1)) (day - 1) (-n - 1) else Cal.addFrom l 1 (stepsLeft 1 (day + 1)) (day + 1) (n - 1)
def Others (W : World) (row : Option Nat) : Prop := ∀ r, row = some r → ∃ o : Obj, W.heap[r]? = some o ∧ o.isCells = false
theorem RowsAt.kept {W W' : World} {row : Option Nat} {A : Option Addr} {m : Nat} {rows : List (List Value)} (h : RowsAt W A m rows) (hg : W.grownBy W' row) (hr : Others W row) : RowsAt W' A m rows := fun k r hk => by
 obtain ⟨b, o, hA, hlt, hc⟩ := h k r hk
 exact ⟨b, o, hA, Nat.lt_of_lt_of_le hlt hg.size, fun j v hv => cell_kept (hc j v hv) hg hr⟩
structure OwnCell (W : World) (b : Nat) (v : Value) : Prop where
 cell : W.cell? ⟨b, 0, none⟩ = some v
 free : W.frozen? ⟨b, 0, none⟩ = false
theorem OwnCell.kept {W W' : World} {row : Option Nat} {b : Nat} {v : Value} (h : OwnCell W b v) (hg : W.grownBy W' row) (hr : Others W row) : OwnCell W' b v :=
 ⟨cell_kept h.cell hg hr, (frozen_kept h.cell hg hr).trans h.free⟩
theorem OwnCell.far {W : World} {b : Nat} {v : Value} (h : OwnCell W b v) {p : Addr} (hp : b ≠ p.block) (u : Value) : OwnCell (W.setCell p u) b v :=
 ⟨(World.cell?_setCell_other W p ⟨b, 0, none⟩ u (fun e => hp (by rw [e]))).trans h.cell, by rw [World.frozen?_setCell]; exact h.free⟩
structure AddI (K : Where) (W0 : World) (res : Option Int) (left : Int) (d : Int) (W : World) : Prop where
 fr : W0.grownBy W (some K.m)
 lo : -1 ≤ d
 hi : d ≤ 200001
 st : OwnCell W K.bs (.int .i64 K.step)
 from_ : OwnCell W K.bf (.int .i64 K.start)
 cal : OwnCell W K.bc (.pointer (some ⟨K.cb, 0, none⟩))
 left_ : OwnCell W (W0.heap.size + 2) (.int .i64 left)
 r0 : OwnCell W W0.heap.size (.int .i64 0)
 r1 : OwnCell W (W0.heap.size + 1) (.bool false)
 cache : CacheAt K d W
 size : W0.heap.size + 6 ≤ W.heap.size
theorem cacheOthers {K : Where} {d : Int} {W : World} (h : CacheAt K d W) : Others W (some K.m) := fun r e => by cases e; obtain ⟨n, ⟨f, h, _⟩, _⟩ := h; obtain ⟨es, cl, h⟩ := h.isMap; exact ⟨_, h, rfl⟩
theorem AddI.book {K : Where} {W0 W W' : World} {res : Option Int} {left d : Int} (h : AddI K W0 res left d W) {row : Option Nat} (hg : W.grownBy W' row) (hr : ∀ r, row = some r → W0.heap.size ≤ r ∧ ∃ o : Obj, W.heap[r]? = some o ∧ isBook o = true) : AddI K W0 res left d W' := by
 have ho : Others W row := fun r e => by obtain ⟨_, o, h1, h2⟩ := hr r e; exact ⟨o, h1, not_cells_of_book h2⟩
 refine ⟨⟨hg.os.trans h.fr.os, hg.tape.trans h.fr.tape, hg.output.trans h.fr.output, Nat.le_trans h.fr.size hg.size, fun i hi hne => (hg.block i (Nat.lt_of_lt_of_le hi h.fr.size) (fun e => ?_)).trans (h.fr.block i hi hne)⟩,
  h.lo, h.hi, h.st.kept hg ho, h.from_.kept hg ho, h.cal.kept hg ho, h.left_.kept hg ho, h.r0.kept hg ho, h.r1.kept hg ho, ?_, Nat.le_trans h.size hg.size⟩
 ·obtain ⟨h1, _⟩ := hr i e.symm; omega
 ·obtain ⟨n, hc, hn⟩ := h.cache
  have hmap : ∃ es cl, W.heap[K.m]? = some (.map es cl) := by obtain ⟨f, h, _⟩ := hc; exact h.isMap
  refine ⟨n, hc.keep (hg.block _ ?_ ?_) (fun g cs t _ hgc => (hg.block g (Array.getElem?_eq_some_iff.1 hgc).1 ?_).trans hgc), hn⟩
  ·obtain ⟨es, cl, h⟩ := hmap; exact (Array.getElem?_eq_some_iff.1 h).1
  ·intro e; obtain ⟨_, o, h1, h2⟩ := hr _ e.symm; obtain ⟨es, cl, h⟩ := hmap; rw [h] at h1; cases h1; cases h2
  ·intro e; obtain ⟨_, o, h1, h2⟩ := hr _ e.symm; rw [hgc] at h1; cases h1; cases h2
theorem AddI.step {K : Where} {W0 W W' : World} {res : Option Int} {left d d' : Int} (h : AddI K W0 res left d W) (hg : W.grownBy W' (some K.m)) (hc : CacheAt K d' W') (h1 : -1 ≤ d') (h2 : d' ≤ 200001) : AddI K W0 res left d' W' := by
 have ho := cacheOthers h.cache
 exact ⟨grownBy_trans h.fr hg, h1, h2, h.st.kept hg ho, h.from_.kept hg ho, h.cal.kept hg ho, h.left_.kept hg ho, h.r0.kept hg ho, h.r1.kept hg ho, hc, Nat.le_trans h.size hg.size⟩
end Go.Proofs.Ytfcjeejhdklkdaa
namespace Go.Proofs.Ytfcjeejhdklkdaa
open Go Go.RowKit Go.Shelf
attribute [local go_sem] Oper.semAt_some
end Go.Proofs.Ytfcjeejhdklkdaa
namespace Go.Proofs.Ytfcjeejhdklkdaa
open Go Go.RowKit Go.Shelf
def Cal.addWorkingS (l : List Hol) (day n : Int) : Int × Int :=
 if Cal.holsErr l = 0 then (if 0 ≤ day ∧ day ≤ 200000 ∧ -2000 ≤ n ∧ n ≤ 2000 then (match Cal.addW l day n with | some x => (x, 0) | none => (0, 2)) else (0, 2)) else (0, Cal.holsErr l)
theorem cell_alloc_at (W : World) (cs : Array Value) (t : TypeId) (j : Nat) : (W.alloc (.cells cs t)).cell? ⟨W.heap.size, j, none⟩ = cs[j]? :=
 cell_of_row _ _ _ cs t (0, 0) (World.alloc_heap_new W _)
end Go.Proofs.Ytfcjeejhdklkdaa
namespace Go.Proofs.Ytfcjeejhdklkdaa
open Go Go.RowKit
theorem IntsL.grown {w w' : World} {B : Nat} {v : Value} {zs : List Int} (h : IntsL w B v zs) (hg : w.grownBy w' v.ownBlock) (hs : B ≤ w.heap.size) : Below B w w' :=
 grown_below hg (fun g e => (OwnL.lt h g e).1) hs
end Go.Proofs.Ytfcjeejhdklkdaa
namespace Go.Proofs.Ytfcjeejhdklkdaa
open Go Go.RowKit
end Go.Proofs.Ytfcjeejhdklkdaa
namespace Go.Proofs.Ytfcjeejhdklkdaa
open Go Go.RowKit
end Go.Proofs.Ytfcjeejhdklkdaa
namespace Go.Proofs.Ytfcjeejhdklkdaa
open Go Go.RowKit
end Go.Proofs.Ytfcjeejhdklkdaa
namespace Go.Proofs.Ytfcjeejhdklkdaa
open Go Go.RowKit
def Cal.perE (m d : Int) (k : Bool) : Int := if 0 ≤ m ∧ m ≤ 1200 ∧ 0 ≤ d ∧ d ≤ (if k = true then 2000 else 36500) then 0 else 2
structure PerAt (w : World) (B : Nat) (m d : Int) (k : Bool) : Prop where
 c0 : w.cell? ⟨B, 0, none⟩ = some (.int .i64 m)
 c1 : w.cell? ⟨B, 1, none⟩ = some (.int .i64 d)
 c2 : w.cell? ⟨B, 2, none⟩ = some (.bool k)
 lt : B < w.heap.size
theorem PerAt.below {w w' : World} {B : Nat} {m d : Int} {k : Bool} (h : PerAt w B m d k) (hb : Below w.heap.size w w') : PerAt w' B m d k :=
 ⟨(hb.cell (p := ⟨B, 0, none⟩) h.lt).trans h.c0, (hb.cell (p := ⟨B, 1, none⟩) h.lt).trans h.c1, (hb.cell (p := ⟨B, 2, none⟩) h.lt).trans h.c2, Nat.lt_of_lt_of_le h.lt hb.size⟩
def Cal.dlFrom (l : List Hol) (day m d : Int) (k : Bool) : Option Int :=
 if (Cal.laterS day m).2 = true then
  (if k = true then Cal.addW l (Cal.laterS day m).1 d else if (Cal.laterS day m).1 + d ≤ 200000 then Cal.addW l ((Cal.laterS day m).1 + d) 0 else none)
 else none
def Cal.dlS (l : List Hol) (day m d : Int) (k : Bool) : Int × Int :=
 if Cal.holsErr l = 0 then (if 0 ≤ day ∧ day ≤ 200000 then (if Cal.perE m d k = 0 then (match Cal.dlFrom l day m d k with | some x => (x, 0) | none => (0, 2)) else (0, Cal.perE m d k)) else (0, 2)) else (0, Cal.holsErr l)
end Go.Proofs.Ytfcjeejhdklkdaa
namespace Go.Proofs.Ytfcjeejhdklkdaa
open Go Go.RowKit
end Go.Proofs.Ytfcjeejhdklkdaa
