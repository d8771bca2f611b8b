/- What the statements rest on: definitions and walks, part 03. -/
import Derived.Test.YtfcjeejhdklkdaaJ02
import Derived.Test.YtfcjeejhdklkdaaJ01
import Derived.Sort.Grow
import Derived.Deep.RegionWith
import Derived.Laws.MakeOwn
import Derived.Carry
import Derived.OrdersHeld
import Derived.OrdersIn
import Derived.TacticsIn
import Derived.Deep.RegionHeld
import Derived.Below
import Derived.WalkKit
import Derived.Handy
namespace Go.Proofs.Ytfcjeejhdklkdaa.Cal
/-- How many of k days from a on are so. -/
def num (p : Int → Bool) (a : Int) : Nat → Nat
  | 0 => 0
  | k + 1 => num p a k + (p (a + k)).toNat
theorem num_split {p q r : Int → Bool} {a : Int} : ∀ k : Nat, (∀ d, a ≤ d → d < a + k → p d = true → q d = true ∨ r d = true) → num p a k ≤ num q a k + num r a k
  | 0, _ => Nat.le_refl _
  | k + 1, h => by
    have ih := num_split k fun d h1 h2 => h d h1 (by omega)
    have := h (a + k) (by omega) (by omega)
    unfold num
    cases hp : p (a + k)
    · simp; omega
    · rcases this hp with hq | hr
      · rw [hq]; simp; omega
      · rw [hr]; simp; omega
theorem num_eq (a v : Int) : ∀ k : Nat, num (fun d => decide (d = v)) a k ≤ 1 ∧ (a + k ≤ v → num (fun d => decide (d = v)) a k = 0)
  | 0 => ⟨by simp [num], fun _ => rfl⟩
  | k + 1 => by
    obtain ⟨h1, h2⟩ := num_eq a v k
    unfold num
    by_cases he : a + k = v
    · rw [h2 (by omega)]
      refine ⟨by simp [he], fun h => by omega⟩
    · have : decide (a + (k : Int) = v) = false := by simpa using he
      simp only [this]
      exact ⟨by simpa using h1, fun h => by simpa using h2 (by omega)⟩
/-- A holiday that is right falls on at most two of the days. -/
theorem num_isB {h : Hol} (hh : holErrOf h = 0) {a : Int} {k : Nat} (hk : k ≤ 365) (a0 : 0 ≤ a) (a1 : a + k ≤ 200001) : num (isB h) a k ≤ 2 := by
  have hy : ∀ d, a ≤ d → d < a + k → dY d = dY a ∨ dY d = dY a + 1 := fun d h1 h2 => by
    have s := date_spec a a0 (by omega)
    have t := date_spec d (by omega) (by omega)
    have l1 := s.lo; have l2 := s.hi; have t1 := t.lo; have t2 := t.hi
    have b1 := beg_succ (dY a); have b2 := beg_succ (dY a + 1)
    have g1 := lp_ge (dY a); have g2 := lp_ge (dY a + 1)
    rcases Int.lt_trichotomy (dY d) (dY a) with h | h | h
    · exfalso
      have := beg_mono (a := dY d + 1) (b := dY a) (by omega)
      omega
    · exact .inl h
    · right
      apply Classical.byContradiction; intro hn
      have := beg_mono (a := dY a + 1 + 1) (b := dY d) (by omega)
      omega
  have hs := num_split (p := isB h) (q := fun d => decide (d = (onS h (dY a)).getD (-1))) (r := fun d => decide (d = (onS h (dY a + 1)).getD (-1))) (a := a) k fun d h1 h2 hb => by
    have := (isB_iff hh (by omega) (by omega)).1 hb
    rcases hy d h1 h2 with e | e
    · left; rw [e] at this; rw [this]; simp
    · right; rw [e] at this; rw [this]; simp
  have n1 := (num_eq a ((onS h (dY a)).getD (-1)) k).1
  have n2 := (num_eq a ((onS h (dY a + 1)).getD (-1)) k).1
  omega
theorem num_anyB {a : Int} {k : Nat} (hk : k ≤ 365) (a0 : 0 ≤ a) (a1 : a + k ≤ 200001) : ∀ {l : List Hol}, HolsOk l → num (anyB l) a k ≤ 2 * l.length
  | [], _ => by
    have : ∀ k, num (anyB []) a k = 0 := fun k => by
      induction k with
      | zero => rfl
      | succ k ih => unfold num; rw [ih]; simp [anyB]
    rw [this]; simp
  | h :: l, hl => by
    have ih := num_anyB hk a0 a1 (l := l) fun q hq => hl q (List.mem_cons_of_mem _ hq)
    have hi := num_isB (hl h (List.mem_cons_self ..)) hk a0 a1
    have hs := num_split (p := anyB (h :: l)) (q := isB h) (r := anyB l) (a := a) k fun d _ _ hb => by
      unfold anyB at hb ⊢
      rw [List.any_cons, Bool.or_eq_true] at hb
      exact hb
    rw [List.length_cons]; omega
theorem num_week (a : Int) : ∀ k : Nat, 5 * k ≤ num (fun d => decide ((d + 2) % 7 < 5)) a (7 * k)
  | 0 => by simp
  | k + 1 => by
    have ih := num_week a k
    rw [show 7 * (k + 1) = 7 * k + 1 + 1 + 1 + 1 + 1 + 1 + 1 by omega]
    simp only [num]
    have hc : (a + (7 * k : Nat)) % 7 = 0 ∨ (a + (7 * k : Nat)) % 7 = 1 ∨ (a + (7 * k : Nat)) % 7 = 2 ∨ (a + (7 * k : Nat)) % 7 = 3 ∨ (a + (7 * k : Nat)) % 7 = 4 ∨ (a + (7 * k : Nat)) % 7 = 5 ∨ (a + (7 * k : Nat)) % 7 = 6 := by omega
    generalize hb : a + ((7 * k : Nat) : Int) = b at hc
    have e1 : a + ((7 * k + 1 : Nat) : Int) = b + 1 := by omega
    have e2 : a + ((7 * k + 1 + 1 : Nat) : Int) = b + 2 := by omega
    have e3 : a + ((7 * k + 1 + 1 + 1 : Nat) : Int) = b + 3 := by omega
    have e4 : a + ((7 * k + 1 + 1 + 1 + 1 : Nat) : Int) = b + 4 := by omega
    have e5 : a + ((7 * k + 1 + 1 + 1 + 1 + 1 : Nat) : Int) = b + 5 := by omega
    have e6 : a + ((7 * k + 1 + 1 + 1 + 1 + 1 + 1 : Nat) : Int) = b + 6 := by omega
    rw [e1, e2, e3, e4, e5, e6]
    have ht : ∀ x : Int, (x + 2) % 7 < 5 → (decide ((x + 2) % 7 < 5)).toNat = 1 := fun x h => by simp [h]
    rcases hc with h | h | h | h | h | h | h
    · rw [ht b (by omega), ht (b + 1) (by omega), ht (b + 2) (by omega), ht (b + 5) (by omega), ht (b + 6) (by omega)]; omega
    · rw [ht b (by omega), ht (b + 1) (by omega), ht (b + 4) (by omega), ht (b + 5) (by omega), ht (b + 6) (by omega)]; omega
    · rw [ht b (by omega), ht (b + 3) (by omega), ht (b + 4) (by omega), ht (b + 5) (by omega), ht (b + 6) (by omega)]; omega
    · rw [ht (b + 2) (by omega), ht (b + 3) (by omega), ht (b + 4) (by omega), ht (b + 5) (by omega), ht (b + 6) (by omega)]; omega
    · rw [ht (b + 1) (by omega), ht (b + 2) (by omega), ht (b + 3) (by omega), ht (b + 4) (by omega), ht (b + 5) (by omega)]; omega
    · rw [ht b (by omega), ht (b + 1) (by omega), ht (b + 2) (by omega), ht (b + 3) (by omega), ht (b + 4) (by omega)]; omega
    · rw [ht b (by omega), ht (b + 1) (by omega), ht (b + 2) (by omega), ht (b + 3) (by omega), ht (b + 6) (by omega)]; omega
theorem cnt_num (l : List Hol) (a : Int) : ∀ k : Nat, cnt l a k = (num (workB l) a k : Int)
  | 0 => rfl
  | k + 1 => by
    unfold cnt num
    rw [cnt_num l a k]
    cases workB l (a + k) <;> simp
/-- In 27 weeks there are 95 working days at least, where there are at most 20 holidays. -/
theorem many {l : List Hol} (hl : HolsOk l) (hn : l.length ≤ 20) {a : Int} (a0 : 0 ≤ a) (a1 : a + 189 ≤ 200001) : 95 ≤ betw l a (a + 189) := by
  have hw : 5 * 27 ≤ num (fun d => decide ((d + 2) % 7 < 5)) a 189 := num_week a 27
  have ha := num_anyB (a := a) (k := 189) (by omega) a0 (by omega) hl
  have hs := num_split (p := fun d => decide ((d + 2) % 7 < 5)) (q := workB l) (r := anyB l) (a := a) 189 fun d _ _ hb => by
    unfold workB
    cases hq : anyB l d
    · left; have hb' : decide ((d + 2) % 7 < 5) = true := hb
      rw [hb']; rfl
    · exact .inr rfl
  unfold betw
  rw [show (a + 189 - a).toNat = 189 by omega, cnt_num]
  omega
end Go.Proofs.Ytfcjeejhdklkdaa.Cal
namespace Go.Proofs.Ytfcjeejhdklkdaa
open Go Go.RowKit
structure Stp where
  mon : Int
  day : Int
def Stp.cells (s : Stp) : List Value := [.int .i64 s.mon, .int .i64 s.day]
end Go.Proofs.Ytfcjeejhdklkdaa
namespace Go.Proofs.Ytfcjeejhdklkdaa
open Go Go.RowKit
/-- A slice of numbers that came in. -/
structure IntArg (w : World) (A : Option Addr) (c : Nat) (zs : List Int) : Prop where
  rows : RowsAt w A 1 (intRows zs)
  cap : zs.length ≤ c
theorem IntArg.below {w w' : World} {A : Option Addr} {c : Nat} {zs : List Int} (h : IntArg w A c zs) (hb : Below w.heap.size w w') : IntArg w' A c zs := ⟨h.rows.below hb, h.cap⟩
/-! The head of a slice. -/
end Go.Proofs.Ytfcjeejhdklkdaa
namespace Go.Proofs.Ytfcjeejhdklkdaa
open Go Go.RowKit
end Go.Proofs.Ytfcjeejhdklkdaa
namespace Go.Proofs.Ytfcjeejhdklkdaa
open Go Go.RowKit Go.Shelf
attribute [local go_sem] Oper.semAt_some
/-- Two blocks are as they were. -/
def Two (b c : Nat) (W W' : World) : Prop := W'.heap[b]? = W.heap[b]? ∧ W'.heap[c]? = W.heap[c]?
theorem Two.refl (b c : Nat) (W : World) : Two b c W W := ⟨rfl, rfl⟩
theorem Two.trans {b c : Nat} {W X Y : World} (h : Two b c W X) (g : Two b c X Y) : Two b c W Y := ⟨g.1.trans h.1, g.2.trans h.2⟩
theorem Two.one {b c o : Nat} {W W' : World} (h : Two b c W W') : W'.cell? ⟨b, o, none⟩ = W.cell? ⟨b, o, none⟩ := World.cell?_of_block (a := ⟨b, o, none⟩) h.1
theorem Two.other {b c o : Nat} {W W' : World} (h : Two b c W W') : W'.cell? ⟨c, o, none⟩ = W.cell? ⟨c, o, none⟩ := World.cell?_of_block (a := ⟨c, o, none⟩) h.2
end Go.Proofs.Ytfcjeejhdklkdaa
namespace Go.Proofs.Ytfcjeejhdklkdaa
open Go Go.RowKit
end Go.Proofs.Ytfcjeejhdklkdaa
namespace Go.Proofs.Ytfcjeejhdklkdaa
open Go Go.RowKit Go.Shelf
attribute [local go_sem] Oper.semAt_some
/-- Results: two cells. -/
theorem BoxAt.off {w : World} {B B' : Nat} {cs : List Value} (h : BoxAt w B cs) (o : Nat) (v : Value) (hne : B ≠ B') : BoxAt (w.setCell ⟨B', o, none⟩ v) B cs := h.grown (grown_set w B' o v) (fun e => hne (by cases e; rfl))
/-! The invariant of the rounds. -/
theorem Two.of_grown {c e : Nat} {W W' : World} {row : Option Nat} (hg : W.grownBy W' row) (hc : c < W.heap.size) (he : e < W.heap.size) (nc : some c ≠ row) (ne : some e ≠ row) : Two c e W W' := ⟨hg.block c hc nc, hg.block e he ne⟩
theorem Two.set {c e q : Nat} {W : World} (u : Value) (hc : c < W.heap.size) (he : e < W.heap.size) (nc : q < c) (ne : q < e) : Two c e W (W.setCell ⟨q, 0, none⟩ u) := Two.of_grown (grown_set W q 0 u) hc he (by intro h; cases h; omega) (by intro h; cases h; omega)
end Go.Proofs.Ytfcjeejhdklkdaa
namespace Go.Proofs.Ytfcjeejhdklkdaa
open Go Go.RowKit
/-- Numbers from an address on. -/
structure NumsAt (w : World) (b o : Nat) (zs : List Int) : Prop where
  c : ∀ (k : Nat) z, zs[k]? = some z → w.cell? ⟨b, o + k, none⟩ = some (.int .i64 z)
  lt : b < w.heap.size
  le : zs.length ≤ 1000000
theorem NumsAt.below {w w' : World} {b o : Nat} {zs : List Int} (h : NumsAt w b o zs) (hb : Below w.heap.size w w') : NumsAt w' b o zs := ⟨fun k z hz => (hb.cell (p := ⟨b, o + k, none⟩) h.lt).trans (h.c k z hz), Nat.lt_of_lt_of_le h.lt hb.size, h.le⟩
def inB (most z : Int) : Bool := decide (0 ≤ z) && decide (z ≤ most)
def allB (zs : List Int) (most : Int) : Bool := zs.all (inB most)
end Go.Proofs.Ytfcjeejhdklkdaa
namespace Go.Proofs.Ytfcjeejhdklkdaa
open Go Go.RowKit
theorem NumsAt.d {w : World} {b o : Nat} {zs : List Int} (h : NumsAt w b o zs) {k : Nat} (hk : k < zs.length) : w.cell? ⟨b, o + k, none⟩ = some (.int .i64 (zs.getD k 0)) := h.c k _ (by rw [List.getD_eq_getElem?_getD, List.getElem?_eq_getElem hk]; rfl)
end Go.Proofs.Ytfcjeejhdklkdaa
namespace Go.Proofs.Ytfcjeejhdklkdaa
open Go Go.RowKit Go.Sort
theorem intsI_at {w : World} {A : Option Addr} {zs : List Int} (h : RowsAt w A 1 (intRows zs)) {k : Nat} (hk : k < zs.length) : ∃ b o, A = some ⟨b, o, none⟩ ∧ b < w.heap.size ∧ w.cell? ⟨b, o + k, none⟩ = some (.int .i64 zs[k]) := by
  obtain ⟨b, o, hA, hb, hc⟩ := h k [.int .i64 zs[k]] (by simp [intRows, List.getElem?_eq_getElem hk])
  have := hc 0 _ rfl
  simp only [Nat.mul_one, Nat.add_zero] at this
  exact ⟨b, o, hA, hb, this⟩
theorem RowsAt.headI {w : World} {A : Option Addr} {m : Nat} {rows : List (List Value)} (h : RowsAt w A m rows) (k : Nat) : RowsAt w A m (rows.take k) := fun j r hr => by
  refine h j r ?_
  rw [List.getElem?_take] at hr
  split at hr
  · exact hr
  · cases hr
theorem cut_headI {t : TypeId} {m : Nat} (hu : Try.prog.underlying t = some (.slice (Try.prog.elem t))) (hz : ∀ w, (sizeOf (Try.prog.elem t)).run Try.prog w = .ok m w) {w : World} {A : Option Addr} {n c : Nat} {rows : List (List Value)} (hn : n = rows.length) (hr : RowsAt w A m rows) (hc : n ≤ c) {k : Nat} (hk : k ≤ n) :
    ∃ A1 c1, (∀ w', (Instr.slice t (.slice A n c) none (some (.int .i64 k)) none).run Try.prog w' = .ok (.slice A1 k c1) w') ∧ RowsAt w A1 m (rows.take k) := by
  have hr1 := hr.headI k
  refine ⟨if c = 0 then A else A.map (·.add (0 * m)), c - 0, fun w' => ?_, ?_⟩
  · rw [run_slice_h w' t A n c hu .i64 k (by omega) (by omega), hz]
    simp [Result.andThen, sliced]
  · split
    · exact hr1
    · intro j r hj
      obtain ⟨b, o, hA, hb, hcell⟩ := hr1 j r hj
      exact ⟨b, o, by rw [hA, Option.map_some, Nat.zero_mul]; rfl, hb, hcell⟩
theorem sizeIntI (w : World) : (sizeOf (Try.prog.elem 23)).run Try.prog w = .ok 1 w := by kernel_rfl
theorem undIntsI : Try.prog.underlying 23 = some (.slice (Try.prog.elem 23)) := by kernel_rfl
theorem cmpI_any (x y : Int) (w : World) : Calls Try.prog 115 #[.int .i64 x, .int .i64 y] w fun e w' => e = .returned (.int .i64 (Lib.compareInt x y)) ∧ w = w' := (Try.cmp_Compare_int x y w).mono fun _ _ h => ⟨h.1, h.2.symm⟩
end Go.Proofs.Ytfcjeejhdklkdaa
namespace Go.Proofs.Ytfcjeejhdklkdaa
open Go Go.RowKit
end Go.Proofs.Ytfcjeejhdklkdaa
namespace Go.Proofs.Ytfcjeejhdklkdaa
open Go Go.RowKit
end Go.Proofs.Ytfcjeejhdklkdaa
namespace Go.Proofs.Ytfcjeejhdklkdaa
open Go Go.RowKit
structure Grad where
  t0 : Int
  t1 : Int
  t2 : Int
  p0 : Int
  p1 : Int
  p2 : Int
  m0 : Int
  m1 : Int
  m2 : Int
  m3 : Int
structure Vis where
  day : Int
  kind : Int
  tilt : Int
  push : Int
def Grad.range (g : Grad) : Bool := allB [g.t0, g.t1, g.t2] 1000 && (allB [g.p0, g.p1, g.p2] 5000 && allB [g.m0, g.m1, g.m2, g.m3] 240)
theorem BoxAt.nums {w : World} {B : Nat} {cs : List Value} (h : BoxAt w B cs) (o : Nat) (zs : List Int) (hl : zs.length ≤ 1000000) (hc : ∀ (k : Nat) z, zs[k]? = some z → cs[o + k]? = some (.int .i64 z)) : NumsAt w B o zs := ⟨fun k z hz => h.c _ _ (hc k z hz), h.lt, hl⟩
theorem gt {w : World} {B : Nat} {g : Grad} (h : BoxAt w B [.int .i64 g.t0, .int .i64 g.t1, .int .i64 g.t2, .int .i64 g.p0, .int .i64 g.p1, .int .i64 g.p2, .int .i64 g.m0, .int .i64 g.m1, .int .i64 g.m2, .int .i64 g.m3]) : NumsAt w B 0 [g.t0, g.t1, g.t2] := h.nums 0 _ (by simp) (fun k z hz => by match k, hz with | 0, hz => cases hz; rfl | 1, hz => cases hz; rfl | 2, hz => cases hz; rfl)
end Go.Proofs.Ytfcjeejhdklkdaa
namespace Go.Proofs.Ytfcjeejhdklkdaa
open Go Go.RowKit
end Go.Proofs.Ytfcjeejhdklkdaa
namespace Go.Proofs.Ytfcjeejhdklkdaa
open Go Go.RowKit
structure Mon where
  name : ByteArray
  place : ByteArray
  visits : List Vis
def Vis.cells (v : Vis) : List Value := [.int .i64 v.day, .int .i64 v.kind, .int .i64 v.tilt, .int .i64 v.push]
/-- Visits in memory. -/
structure Viss (w : World) (A : Option Addr) (l : List Vis) : Prop where
  rows : RowsAt w A 4 (l.map Vis.cells)
  size : l.length ≤ 9223372036854775807
theorem Viss.below {w w' : World} {A : Option Addr} {l : List Vis} (h : Viss w A l) (hb : Below w.heap.size w w') : Viss w' A l := ⟨h.rows.below hb, h.size⟩
theorem Viss.at_ {w : World} {A : Option Addr} {l : List Vis} (h : Viss w A l) {k : Nat} {v : Vis} (hk : l[k]? = some v) :
    ∃ b o, A = some ⟨b, o, none⟩ ∧ b < w.heap.size ∧ w.cell? ⟨b, o + k * 4, none⟩ = some (.int .i64 v.day) ∧ w.cell? ⟨b, o + k * 4 + 1, none⟩ = some (.int .i64 v.kind) ∧ w.cell? ⟨b, o + k * 4 + 2, none⟩ = some (.int .i64 v.tilt) ∧ w.cell? ⟨b, o + k * 4 + 3, none⟩ = some (.int .i64 v.push) := by
  obtain ⟨b, o, hA, hlt, hc⟩ := h.rows k v.cells (by simp [hk])
  exact ⟨b, o, hA, hlt, hc 0 _ rfl, hc 1 _ rfl, hc 2 _ rfl, hc 3 _ rfl⟩
/-- What a monument hangs on in memory. -/
structure MB (w : World) (V : Option Addr) (m : Mon) : Prop where
  vis : Viss w V m.visits
  name : m.name.size ≤ maxLen
  place : m.place.size ≤ maxLen
theorem MB.below {w w' : World} {V : Option Addr} {m : Mon} (h : MB w V m) (hb : Below w.heap.size w w') : MB w' V m := ⟨h.vis.below hb, h.name, h.place⟩
end Go.Proofs.Ytfcjeejhdklkdaa
namespace Go.Proofs.Ytfcjeejhdklkdaa
open Go Go.RowKit
/-- A notice in a list, with the slice of its acts. -/
structure NtE where
  N : Option Addr
  d : Nat
  n : Note
def NtE.cells (e : NtE) : List Value := [.string e.n.name, .int .i64 e.n.opened, .slice e.N e.n.acts.length e.d]
structure Nts (w : World) (L : Option Addr) (c : Nat) (l : List NtE) : Prop where
  rows : RowsAt w L 3 (l.map NtE.cells)
  cap : l.length ≤ c
  size : l.length ≤ 9223372036854775807
  each : ∀ (k : Nat) e, l[k]? = some e → Acts w e.N e.n.acts ∧ e.n.name.size ≤ maxLen
theorem Nts.below {w w' : World} {L : Option Addr} {c : Nat} {l : List NtE} (h : Nts w L c l) (hb : Below w.heap.size w w') : Nts w' L c l :=
  ⟨h.rows.below hb, h.cap, h.size, fun k e hk => ⟨(h.each k e hk).1.below hb, (h.each k e hk).2⟩⟩
theorem Nts.at_ {w : World} {L : Option Addr} {c : Nat} {l : List NtE} (h : Nts w L c l) {k : Nat} {e : NtE} (hk : l[k]? = some e) :
    ∃ b o, L = some ⟨b, o, none⟩ ∧ b < w.heap.size ∧ w.cell? ⟨b, o + k * 3, none⟩ = some (.string e.n.name) ∧ w.cell? ⟨b, o + k * 3 + 1, none⟩ = some (.int .i64 e.n.opened) ∧ w.cell? ⟨b, o + k * 3 + 2, none⟩ = some (.slice e.N e.n.acts.length e.d) := by
  obtain ⟨b, o, hA, hlt, hc⟩ := h.rows k e.cells (by simp [hk])
  exact ⟨b, o, hA, hlt, hc 0 _ rfl, hc 1 _ rfl, hc 2 _ rfl⟩
/-- A monument in a list, with the slice of its visits. -/
structure MoE where
  V : Option Addr
  d : Nat
  m : Mon
def MoE.cells (e : MoE) : List Value := [.string e.m.name, .string e.m.place, .slice e.V e.m.visits.length e.d]
structure Mos (w : World) (L : Option Addr) (c : Nat) (l : List MoE) : Prop where
  rows : RowsAt w L 3 (l.map MoE.cells)
  cap : l.length ≤ c
  size : l.length ≤ 9223372036854775807
  each : ∀ (k : Nat) e, l[k]? = some e → MB w e.V e.m
theorem Mos.below {w w' : World} {L : Option Addr} {c : Nat} {l : List MoE} (h : Mos w L c l) (hb : Below w.heap.size w w') : Mos w' L c l :=
  ⟨h.rows.below hb, h.cap, h.size, fun k e hk => (h.each k e hk).below hb⟩
theorem Mos.at_ {w : World} {L : Option Addr} {c : Nat} {l : List MoE} (h : Mos w L c l) {k : Nat} {e : MoE} (hk : l[k]? = some e) :
    ∃ b o, L = some ⟨b, o, none⟩ ∧ b < w.heap.size ∧ w.cell? ⟨b, o + k * 3, none⟩ = some (.string e.m.name) ∧ w.cell? ⟨b, o + k * 3 + 1, none⟩ = some (.string e.m.place) ∧ w.cell? ⟨b, o + k * 3 + 2, none⟩ = some (.slice e.V e.m.visits.length e.d) := by
  obtain ⟨b, o, hA, hlt, hc⟩ := h.rows k e.cells (by simp [hk])
  exact ⟨b, o, hA, hlt, hc 0 _ rfl, hc 1 _ rfl, hc 2 _ rfl⟩
/-- The first error of entries with names: each one's own, or that its name was there. -/
def Cal.namesE {α : Type} (E : α → Int) (nm : α → List UInt8) : List (List UInt8) → List α → Int
  | _, [] => 0
  | seen, x :: l => if E x = 0 then (if nm x ∈ seen then 5 else Cal.namesE E nm (seen ++ [nm x]) l) else E x
section
variable {α : Type} {E : α → Int} {nm : α → List UInt8}
/-- Behind k entries without an error. -/
def NamesTo (E : α → Int) (nm : α → List UInt8) (l : List α) (k : Nat) : Prop := Cal.namesE E nm ((l.take k).map nm) (l.drop k) = Cal.namesE E nm [] l
theorem NamesTo.zero (l : List α) : NamesTo E nm l 0 := rfl
theorem NamesTo.next {l : List α} {k : Nat} (h : NamesTo E nm l k) (hk : k < l.length) (he : E l[k] = 0) (hm : nm l[k] ∉ (l.take k).map nm) : NamesTo E nm l (k + 1) := by
  unfold NamesTo at h ⊢
  rw [← h, List.drop_eq_getElem_cons hk]
  conv => rhs; unfold Cal.namesE
  rw [if_pos he, if_neg hm, List.take_succ_eq_append_getElem hk, List.map_append]
  rfl
theorem NamesTo.stop {l : List α} {k : Nat} (h : NamesTo E nm l k) (hk : l.length ≤ k) : Cal.namesE E nm [] l = 0 := by
  rw [← h, List.drop_eq_nil_of_le hk]; rfl
end
end Go.Proofs.Ytfcjeejhdklkdaa
namespace Go.Proofs.Ytfcjeejhdklkdaa
open Go Go.RowKit Go.Maps Go.WideMaps
/-- The set of names holds those that have been seen. -/
def SeenOf (seen : List (List UInt8)) (f : List UInt8 → Option Value) : Prop := ∀ nm, (f nm).getD (.bool false) = .bool (decide (nm ∈ seen))
theorem SeenOf.start : SeenOf [] (fun _ => none) := fun _ => by simp
theorem SeenOf.step {seen : List (List UInt8)} {f : List UInt8 → Option Value} (h : SeenOf seen f) (x : List UInt8) : SeenOf (seen ++ [x]) (setAt f x (.bool true)) := fun nm => by
  by_cases hn : nm = x
  · subst hn; rw [setAt_same]; simp
  · rw [setAt_other _ _ hn, h nm]; simp [hn]
/-! Parts of an own slice of numbers. -/
theorem RowsAt.farI {W W' : World} {row : Option Nat} {A : Option Addr} {m : Nat} {rows : List (List Value)} (h : RowsAt W A m rows) (hg : W.grownBy W' row) (hA : ∀ a, A = some a → some a.block ≠ row) : RowsAt W' A m rows := fun k r hk => by
  obtain ⟨b, o, h1, h2, h3⟩ := h k r hk
  exact ⟨b, o, h1, Nat.lt_of_lt_of_le h2 hg.size, fun j v hv => (World.cell?_of_block (a := ⟨b, o + (k * m + j), none⟩) (hg.block b h2 (hA _ h1))).trans (h3 j v hv)⟩
end Go.Proofs.Ytfcjeejhdklkdaa
namespace Go.Proofs.Ytfcjeejhdklkdaa
structure Pt where
  x : Int
  y : Int
/-- Two points are one. -/
def ptB (p q : Pt) : Bool := p.x == q.x && p.y == q.y
theorem ptB_iff {p q : Pt} : ptB p q = true ↔ p = q := by
  unfold ptB
  rw [Bool.and_eq_true, beq_iff_eq, beq_iff_eq]
  refine ⟨fun h => ?_, fun h => by rw [h]; exact ⟨rfl, rfl⟩⟩
  cases p; cases q
  rw [Pt.mk.injEq]
  exact h
/-- A side: its two ends. -/
structure Sd where
  a : Pt
  b : Pt
namespace Cal
def cmpI (a b : Int) : Int := if a < b then -1 else if b < a then 1 else 0
/-- On which side of a line a point lies. -/
def crs (s : Sd) (p : Pt) : Int := (s.b.x - s.a.x) * (p.y - s.a.y) - (s.b.y - s.a.y) * (p.x - s.a.x)
def trn (s : Sd) (p : Pt) : Int := cmpI (crs s p) 0
/-- The scalar product of the ways from p to q and from p to r. -/
def dotP (p q r : Pt) : Int := (q.x - p.x) * (r.x - p.x) + (q.y - p.y) * (r.y - p.y)
def hasP (s : Sd) (p : Pt) : Bool := trn s p == 0 && decide (dotP p s.a s.b ≤ 0)
def crosS (s t : Sd) : Bool := decide (trn s t.a * trn s t.b < 0) && decide (trn t s.a * trn t s.b < 0)
def meetS (s t : Sd) : Bool := crosS s t || hasP s t.a || hasP s t.b || hasP t s.a || hasP t s.b
def alongS (s : Sd) (p q : Pt) : Int := cmpI (dotP s.a s.b p) (dotP s.a s.b q)
def pt0 : Pt := ⟨0, 0⟩
/-- The side with a number. -/
def sd (p : List Pt) (i : Nat) : Sd := ⟨p[i]?.getD pt0, p[(i + 1) % p.length]?.getD pt0⟩
def sds (p : List Pt) : List Sd := (List.range p.length).map (sd p)
def ptErr (p : Pt) : Int := if 100000 < max p.x p.y ∨ min p.x p.y < -100000 then 2 else 0
def backS (p : List Pt) (i : Nat) : Bool := trn (sd p i) (p[(i + p.length - 1) % p.length]?.getD pt0) == 0 && decide (0 < dotP (sd p i).a (p[(i + p.length - 1) % p.length]?.getD pt0) (sd p i).b)
def badK (p : List Pt) (i k : Nat) : Bool := decide (i + 1 < k) && ((k + 1) % p.length != i) && meetS (sd p i) (sd p k)
def simpleP (p : List Pt) : Bool := (List.range p.length).all fun i => !backS p i && (List.range p.length).all fun k => !badK p i k
def areaTo (p : List Pt) : Nat → Int
  | 0 => 0
  | k + 1 => areaTo p k + ((sd p k).a.x * (sd p k).b.y - (sd p k).a.y * (sd p k).b.x)
def areaP (p : List Pt) : Int := areaTo p p.length
/-- The error of the first point that is out of range. -/
def ptsErr : List Pt → Int
  | [] => 0
  | q :: r => if ptErr q = 0 then ptsErr r else ptErr q
def twiceP : List Pt → List Pt → Bool
  | _, [] => false
  | seen, q :: r => seen.any (ptB q) || twiceP (q :: seen) r
/-- The error of a polygon. -/
def polyE (p : List Pt) : Int :=
  if p.length < 3 ∨ 40 < p.length then 10 else if ptsErr p = 0 then (if twiceP [] p = true then 5 else if simpleP p = true then (if areaP p < 0 then 9 else 0) else 3) else ptsErr p
/-- Where a point is, from a side on. -/
def whereFrom (q : Pt) : Bool → List Sd → Int
  | b, [] => if b then 1 else -1
  | b, s :: r => if hasP s q then 0 else whereFrom q (if (decide (q.y < s.a.y) != decide (q.y < s.b.y)) && (decide (0 < trn s q) == decide (s.a.y < s.b.y)) then !b else b) r
def whereP (p : List Pt) (q : Pt) : Int := whereFrom q false (sds p)
def crossP (a b : List Pt) : Bool := (sds a).any fun s => (sds b).any fun t => crosS s t
def dblP (p : List Pt) : List Pt := p.map fun q => ⟨2 * q.x, 2 * q.y⟩
/-- A point put among those of a side, each once, from the side's beginning on. -/
def insP (s : Sd) (q : Pt) : List Pt → List Pt
  | [] => [q]
  | x :: r => if alongS s q x < 0 then q :: x :: r else if ptB q x then x :: r else x :: insP s q r
def atP (s : Sd) (other : List Pt) : List Pt := (s.a :: s.b :: other.filter (hasP s)).foldl (fun l q => insP s q l) []
/-- A part of a side: its middle, doubled, and its side. -/
structure Pc where
  mid : Pt
  of : Sd
def pcsOf (s : Sd) : List Pt → List Pc
  | x :: y :: r => ⟨⟨x.x + y.x, x.y + y.y⟩, s⟩ :: pcsOf s (y :: r)
  | _ => []
def pcsP (p other : List Pt) : List Pc := (sds p).flatMap fun s => pcsOf s (atP s other)
def entersP (p other : List Pt) : Bool := (pcsP p other).any fun x =>
  if whereP (dblP other) x.mid = 1 then true else if whereP (dblP other) x.mid = 0 then (sds (dblP other)).any fun t => hasP t x.mid && decide (0 < (x.of.b.x - x.of.a.x) * (t.b.x - t.a.x) + (x.of.b.y - x.of.a.y) * (t.b.y - t.a.y)) else false
def overlapP (a b : List Pt) : Bool := crossP a b || (entersP a b || entersP b a)
def withinP (a b : List Pt) : Bool := !crossP a b && ((pcsP a b).all (fun x => decide (0 ≤ whereP (dblP b) x.mid)) && (pcsP b a).all (fun x => decide (whereP (dblP a) x.mid ≤ 0)))
def boxP (x1 y1 x2 y2 : Int) : List Pt := [⟨x1, y1⟩, ⟨x2, y1⟩, ⟨x2, y2⟩, ⟨x1, y2⟩]
/-! The examples that each statement of the chapter begins with. -/
end Cal
end Go.Proofs.Ytfcjeejhdklkdaa
namespace Go.Proofs.Ytfcjeejhdklkdaa
open Go Go.RowKit
section
variable {F : Fence} {n : Nat} {P : Program} {ops : Array Oper} {Q : Exit → Act → World → Prop} {md : Region.Mode} {S : World → Prop}
def noDefer (ops : Array Oper) : Bool := ops.all fun o => match o.op with | .defer _ => false | _ => true
theorem noDefer_spec {ops : Array Oper} (h : noDefer ops = true) {j : Nat} {o : Oper} (hj : ops[j]? = some o) : ∀ c, o.op ≠ .defer c := by
  intro c hc
  have hm : o ∈ ops := Array.mem_of_getElem? hj
  have := Array.all_eq_true'.1 h o hm
  simp [hc] at this
theorem yieldsIf_wpOpIn (hfn : ∀ f, F.fn f) {i : Nat} {o : Oper} {v : Value} {a : Act} (hi : ops[i]? = some o) (hnd : ∀ c, o.op ≠ .defer c) (hy : YieldsIf P ops S o v a)
    {K : Act → World → Prop} {w : World} (hS : S w) (h : K (a.put o.dst v) w) : wpOpIn F n P ops Q i K a w := by
  unfold Go.wpOpIn
  simp only [hi]
  have hab : ∀ f, o.about P w a.eval = some f → F.fn f := fun f _ => hfn f
  rcases hy with ⟨hw, hv⟩ | ⟨hw, rfl⟩
  · simp only [hw, if_true, Oper.wpIn, Oper.semAt_eq F.round a.eval o hnd, hv w hS, Oper.uponIn]; exact ⟨hab, h⟩
  · simp only [hw, Bool.false_eq_true, if_false]; exact ⟨hab, h⟩
theorem wpOpIn_putIf (hfn : ∀ f, F.fn f) {j : Nat} {oi oj : Oper} {v : Value} (hj : ops[j]? = some oj) (hnj : ∀ c, oj.op ≠ .defer c) (hap : oi.apart ops oj = true)
    (hsi : ∀ cs b, oi.op ≠ .select cs b) (hsj : ∀ cs b, oj.op ≠ .select cs b)
    (hQ : ∀ c a w, Q (.panic c) (a.put oi.dst v) w → Q (.panic c) a w) {K : Act → World → Prop} {a : Act} {w : World}
    (hy : YieldsIf P ops S oi v a) (h : wpOpIn F n P ops Q j K (a.put oi.dst v) w) :
    wpOpIn F n P ops Q j (fun a' w' => YieldsIf P ops S oi v a' ∧ K (a'.put oi.dst v) w') a w := by
  obtain ⟨h1, h2, h3⟩ := Oper.apart_spec hap
  have keep : ∀ (a : Act), YieldsIf P ops S oi v a → ∀ u, YieldsIf P ops S oi v (a.put oj.dst u) := fun a hy u =>
    hy.of_same (execOp_put oi hsi a oj.dst u h3) (wanted_put oi a oj.dst u h3)
  have keepD : ∀ d, YieldsIf P ops S oi v { a with defers := d :: a.defers } := fun d => hy.of_same rfl rfl
  unfold wpOpIn at *
  simp only [hj] at *
  rw [wanted_put oj a oi.dst v h1] at h
  split
  · rename_i hw
    simp only [hw, if_true] at h
    unfold Oper.wpIn at *
    refine ⟨fun f _ => hfn f, ?_⟩
    have h := h.2
    rw [Oper.semAt_eq F.round _ oj hnj, execOp_put oj hsj a oi.dst v h1] at h
    rw [Oper.semAt_eq F.round _ oj hnj]
    generalize (execOp a.eval oj).run P w = r at *
    cases r with
    | ok x w' =>
      cases x <;> simp only [Oper.uponIn] at h ⊢
      case value u => exact ⟨keep a hy u, by rw [← Act.put_comm a v u h2]; exact h⟩
      case skip => exact ⟨keep a hy _, by rw [← Act.put_comm a v undef h2]; exact h⟩
      case defer d =>
        refine ⟨keep _ (keepD d) _, ?_⟩
        rw [← Act.put_comm _ v undef h2, ← Act.put_defers]
        exact h
      case enter f args =>
        refine ⟨h.1, CallsIn.mono h.2 fun e w'' he => ?_⟩
        cases e with
        | returned u => exact ⟨keep a hy u, by rw [← Act.put_comm a v u h2]; exact he⟩
        | panicked c => exact hQ _ _ _ he
        | outgrown => exact he
      case row row args => exact ⟨h.1, RowsIn.mono h.2 fun u w'' he => ⟨keep a hy u, by rw [← Act.put_comm a v u h2]; exact he⟩⟩
      case round l f tmps assign body =>
        refine ⟨h.1, RoundIn.mono h.2 fun e w'' he => ?_⟩
        cases e with
        | returned u => exact ⟨keep a hy u, by rw [← Act.put_comm a v u h2]; exact he⟩
        | panicked c => exact hQ _ _ _ he
        | outgrown => exact he
    | halt x w' =>
      cases x <;> simp only [Oper.uponIn] at h ⊢
      case panic u => exact hQ _ _ _ h
  · rename_i hw
    simp only [hw] at h
    exact ⟨fun f _ => hfn f, keep a hy _, by rw [← Act.put_comm a v undef h2]; exact h.2⟩
/-- Whatever order is picked from here on, and S holds behind every operation that is carried out. -/
def wpAnyInH (F : Fence) (n : Nat) (P : Program) (md : Region.Mode) (ops : Array Oper) (Q : Exit → Act → World → Prop) (S : World → Prop) : Nat → Array Bool → Act → World → Prop
  | 0, listed, a, w => Region.ready md ops listed = [] ∧ Q .normal a w
  | fuel + 1, listed, a, w =>
    (Region.ready md ops listed = [] → Q .normal a w) ∧
    ∀ i ∈ Region.ready md ops listed, wpOpIn F n P ops Q i (fun a' w' => S w' ∧ wpAnyInH F n P md ops Q S fuel (listed.setIfInBounds i true) a' w') a w
theorem wpAnyIn_of_held : ∀ (fuel : Nat) (listed : Array Bool) (a : Act) (w : World), wpAnyInH F n P md ops Q S fuel listed a w → wpAnyIn F n P md ops Q fuel listed a w
  | 0, _, _, _, h => h
  | fuel + 1, _, _, _, h => ⟨h.1, fun i hi => wpOpIn_mono (fun a' w' h' => wpAnyIn_of_held fuel _ a' w' h'.2) (h.2 i hi)⟩
theorem wpAnyInH_first (hfn : ∀ f, F.fn f) {i : Nat} {oi : Oper} {v : Value} (hi : ops[i]? = some oi) (hsel : ∀ (j : Nat) (o : Oper) cs b, ops[j]? = some o → o.op ≠ .select cs b) (hdef : ∀ (j : Nat) (o : Oper) c, ops[j]? = some o → o.op ≠ .defer c)
    (hQ : ∀ c a w, Q (.panic c) (a.put oi.dst v) w → Q (.panic c) a w) :
    ∀ (fuel : Nat) (listed : Array Bool) (a : Act) (w : World),
      (∀ j oj, ops[j]? = some oj → j ≠ i → listed.getD j true = false → (∀ e ∈ oj.after, Region.binds md e = true → e.on ≠ i) → oi.apart ops oj = true) →
      i ∈ Region.ready md ops listed → YieldsIf P ops S oi v a → S w →
      wpAnyInH F n P md ops Q S fuel (listed.setIfInBounds i true) (a.put oi.dst v) w → wpAnyInH F n P md ops Q S (fuel + 1) listed a w := by
  intro fuel
  induction fuel with
  | zero =>
    intro listed a w _ hr hy hS H
    refine ⟨fun h => (by rw [h] at hr; cases hr), fun j hj => ?_⟩
    by_cases hji : j = i
    · subst hji; exact yieldsIf_wpOpIn hfn hi (fun c => hdef _ _ c hi) hy hS ⟨hS, H⟩
    · have := ready_mono hj hji
      rw [H.1] at this
      cases this
  | succ fuel ih =>
    intro listed a w hfree hr hy hS H
    refine ⟨fun h => (by rw [h] at hr; cases hr), fun j hj => ?_⟩
    by_cases hji : j = i
    · subst hji; exact yieldsIf_wpOpIn hfn hi (fun c => hdef _ _ c hi) hy hS ⟨hS, H⟩
    · have h1 := H.2 j (ready_mono hj hji)
      obtain ⟨hjun, oj, hoj, hall⟩ := mem_ready.1 hj
      have hnot : ∀ e ∈ oj.after, Region.binds md e = true → e.on ≠ i := fun e he hb heq => by
        have h1 := hall e he hb
        have h0 := (mem_ready.1 hr).1
        rw [heq] at h1
        rcases Nat.lt_or_ge i listed.size with h' | h'
        · simp [h'] at h0 h1; rw [h0] at h1; cases h1
        · simp [Array.getElem?_eq_none h'] at h1
      have h2 := wpOpIn_putIf hfn hoj (fun c => hdef _ _ c hoj) (hfree j oj hoj hji hjun hnot) (fun cs b => hsel i oi cs b hi) (fun cs b => hsel j oj cs b hoj) hQ hy h1
      have hfree' : ∀ k ok, ops[k]? = some ok → k ≠ i → (listed.setIfInBounds j true).getD k true = false →
          (∀ e ∈ ok.after, Region.binds md e = true → e.on ≠ i) → oi.apart ops ok = true := fun k ok hk hki hun hno => by
        refine hfree k ok hk hki ?_ hno
        by_cases hjk : j = k
        · subst hjk; exact hjun
        · rw [getD_set_ne true hjk] at hun; exact hun
      refine wpOpIn_mono (fun a' w' h3 => ⟨h3.2.1, ih (listed.setIfInBounds j true) a' w' hfree' (ready_mono hr (Ne.symm hji)) h3.1 h3.2.1 ?_⟩) h2
      rw [Array.setIfInBounds_comm _ _ hji]
      exact h3.2.2
theorem wpIn_region_held_drew {id : Nat} {a : Act} {w : World} (hm : P.follows .mixedOrders = true) (hS : S w.drew)
    (h : S w.drew → wpAnyInH F n P .any ops Q S ops.size (Array.replicate ops.size false) a w.drew) : (Code.region id ops true).wpIn F n P Q a w :=
  wpIn_region_any hm (wpAnyIn_of_held _ _ _ _ (h hS))
theorem wpAnyInH_done {listed : Array Bool} {a : Act} {w : World} (hr : Region.ready md ops listed = []) (h : Q .normal a w) : ∀ fuel, wpAnyInH F n P md ops Q S fuel listed a w
  | 0 => ⟨hr, h⟩
  | _ + 1 => ⟨fun _ => h, by rw [hr]; simp⟩
/-- A step that any order may take first. -/
theorem tkI (i : Nat) {oi : Oper} {v : Value} {fuel : Nat} {listed : Array Bool} {a : Act} {w : World} (hfn : ∀ f, F.fn f)
    (hy : ∀ w, S w → (execOp a.eval oi).run P w = .ok (.value v) w) (h : wpAnyInH F n P md ops Q S fuel (listed.setIfInBounds i true) (a.put oi.dst v) w)
    (hi : ops[i]? = some oi := by exact rfl) (hs : Region.noSelect ops = true := by kernel_rfl) (hd : noDefer ops = true := by kernel_rfl) (hf : Region.free md ops listed i = true := by decide +kernel) (hr : (Region.ready md ops listed).contains i = true := by decide +kernel)
    (hQ : ∀ c a w, Q (.panic c) (a.put oi.dst v) w → Q (.panic c) a w := by exact fun _ _ _ h => h) (hw : Region.wanted oi (yielded ops a.tmps) = true := by kernel_rfl) (hS : S w := by assumption) : wpAnyInH F n P md ops Q S (fuel + 1) listed a w :=
  wpAnyInH_first hfn hi (Region.noSelect_spec hs) (fun _ _ c ho => noDefer_spec hd ho c) hQ fuel listed a w (Region.free_spec hi hf) (by simpa using hr) (Or.inl ⟨hw, hy⟩) hS h
/-- A step behind a guard that does not let it. -/
theorem tkN (i : Nat) {oi : Oper} {fuel : Nat} {listed : Array Bool} {a : Act} {w : World} (hfn : ∀ f, F.fn f)
    (h : wpAnyInH F n P md ops Q S fuel (listed.setIfInBounds i true) (a.put oi.dst undef) w)
    (hi : ops[i]? = some oi := by exact rfl) (hs : Region.noSelect ops = true := by kernel_rfl) (hd : noDefer ops = true := by kernel_rfl) (hf : Region.free md ops listed i = true := by decide +kernel) (hr : (Region.ready md ops listed).contains i = true := by decide +kernel)
    (hQ : ∀ c a w, Q (.panic c) (a.put oi.dst undef) w → Q (.panic c) a w := by exact fun _ _ _ h => h) (hw : Region.wanted oi (yielded ops a.tmps) = false := by kernel_rfl) (hS : S w := by assumption) : wpAnyInH F n P md ops Q S (fuel + 1) listed a w :=
  wpAnyInH_first hfn hi (Region.noSelect_spec hs) (fun _ _ c ho => noDefer_spec hd ho c) hQ fuel listed a w (Region.free_spec hi hf) (by simpa using hr) (Or.inr ⟨hw, rfl⟩) hS h
/-- The one step that may come up: it is carried out, and S is shown anew behind it. -/
theorem ratI (i : Nat) {o : Oper} {fuel : Nat} {listed : Array Bool} {a : Act} {w : World} (hfn : ∀ f, F.fn f) (hr : Region.ready md ops listed = [i]) (ho : ops[i]? = some o)
    (h : ∀ K' : Act → World → Prop, Shut (∀ a w, S w → (S w → wpAnyInH F n P md ops Q S fuel (listed.setIfInBounds i true) a w) → K' a w) → if Region.wanted o (yielded ops a.tmps) = true then Oper.wpIn F n P o a w K' Q else K' (a.put o.dst undef) w) :
    wpAnyInH F n P md ops Q S (fuel + 1) listed a w := by
  refine ⟨fun h0 => absurd (hr ▸ h0) (by simp), ?_⟩
  rw [hr]
  intro j hj
  rcases List.mem_singleton.1 hj with rfl
  refine wpOpIn_step ho (fun K' hK => ?_)
  have := h K' (fun a w hS hW => hK a w ⟨hS, hW hS⟩)
  split
  · rename_i hw; rw [if_pos hw] at this; exact this
  · rename_i hw; rw [if_neg hw] at this; exact ⟨fun f _ => hfn f, this⟩
/-- Outside a fence: a step behind a guard that does not let it. -/
theorem tkF {ops : Array Oper} {Q : Exit → Act → World → Prop} (i : Nat) {oi : Oper} {fuel : Nat} {listed : Array Bool} {a : Act} {w : World}
    (h : wpAnyH P md ops Q S fuel (listed.setIfInBounds i true) (a.put oi.dst undef) w)
    (hi : ops[i]? = some oi := by exact rfl) (hs : Region.noSelect ops = true := by kernel_rfl) (hf : Region.free md ops listed i = true := by decide +kernel) (hr : (Region.ready md ops listed).contains i = true := by decide +kernel)
    (hQ : ∀ c a w, Q (.panic c) (a.put oi.dst undef) w → Q (.panic c) a w := by exact fun _ _ _ h => h) (hw : Region.wanted oi (yielded ops a.tmps) = false := by kernel_rfl) (hS : S w := by assumption) : wpAnyH P md ops Q S (fuel + 1) listed a w :=
  wpAnyH_take hi hs hf hr hQ (Or.inr ⟨hw, rfl⟩) hS h
end
/-- Cells that hold certain values. -/
def Cs (L : List (Nat × Nat × Value)) (W : World) : Prop := ∀ x ∈ L, W.cell? ⟨x.1, x.2.1, none⟩ = some x.2.2
/-- What a region of a call keeps: cells of the call's own, and all that lay when the call began. -/
structure Sx (w : World) (L : List (Nat × Nat × Value)) (W : World) : Prop where
  cs : Cs L W
  bel : Below w.heap.size w W
theorem Cs.below {L : List (Nat × Nat × Value)} {W W' : World} (h : Cs L W) (hb : Below W.heap.size W W') : Cs L W' := fun x hx =>
  (hb.cell (p := ⟨x.1, x.2.1, none⟩) (World.block_lt_of_cell? W _ (h x hx))).trans (h x hx)
theorem Sx.step {w : World} {L : List (Nat × Nat × Value)} {W W' : World} (h : Sx w L W) (hb : Below W.heap.size W W') : Sx w L W' := ⟨h.cs.below hb, h.bel.trans (hb.mono h.bel.size)⟩
theorem Sx.drew {w : World} {L : List (Nat × Nat × Value)} {W : World} (h : Sx w L W) : Sx w L W.drew := ⟨h.cs, h.bel.drew⟩
theorem Sx.alloc {w : World} {L : List (Nat × Nat × Value)} {W : World} (h : Sx w L W) (o : Obj) : Sx w L (W.alloc o) :=
  h.step ((Below.refl _ W).alloc (Nat.le_refl _) o)
theorem cs_nil (W : World) : Cs [] W := fun _ h => by cases h
theorem cs_cons {x : Nat × Nat × Value} {L : List (Nat × Nat × Value)} {W : World} (h : W.cell? ⟨x.1, x.2.1, none⟩ = some x.2.2) (hs : Cs L W) : Cs (x :: L) W := fun y hy => by
  rcases List.mem_cons.1 hy with rfl | hy
  · exact h
  · exact hs y hy
theorem cs_iff_cons {b o : Nat} {v : Value} {L : List (Nat × Nat × Value)} {W : World} : Cs ((b, o, v) :: L) W ↔ W.cell? ⟨b, o, none⟩ = some v ∧ Cs L W :=
  ⟨fun h => ⟨h _ (List.mem_cons_self ..), fun y hy => h y (List.mem_cons_of_mem _ hy)⟩, fun h => cs_cons h.1 h.2⟩
end Go.Proofs.Ytfcjeejhdklkdaa
namespace Go.Proofs.Ytfcjeejhdklkdaa
open Go Go.RowKit
section
variable {F : Fence} {n : Nat} {P : Program} {ops : Array Oper} {Q : Exit → Act → World → Prop} {md : Region.Mode} {S : World → Prop}
theorem tkF2 (i : Nat) (d : Nat) {oi : Oper} {fuel : Nat} {listed : Array Bool} {a : Act} {w : World}
    (h : wpAnyH P md ops Q S fuel (listed.setIfInBounds i true) (a.put (some d) undef) w)
    (hi : ops[i]? = some oi := by exact rfl) (hdd : oi.dst = some d := by kernel_rfl) (hs : Region.noSelect ops = true := by kernel_rfl) (hf : Region.free md ops listed i = true := by decide +kernel) (hr : (Region.ready md ops listed).contains i = true := by decide +kernel)
    (hQ : ∀ c a w, Q (.panic c) (a.put oi.dst undef) w → Q (.panic c) a w := by exact fun _ _ _ h => h) (hw : Region.wanted oi (yielded ops a.tmps) = false := by kernel_rfl) (hS : S w := by assumption) : wpAnyH P md ops Q S (fuel + 1) listed a w :=
  tkF i (by rw [hdd]; exact h) hi hs hf hr hQ hw hS
theorem tkH2 (i : Nat) (d : Nat) {oi : Oper} {v : Value} {fuel : Nat} {listed : Array Bool} {a : Act} {w : World}
    (hy : ∀ w, S w → (execOp a.eval oi).run P w = .ok (.value v) w) (h : wpAnyH P md ops Q S fuel (listed.setIfInBounds i true) (a.put (some d) v) w)
    (hi : ops[i]? = some oi := by exact rfl) (hdd : oi.dst = some d := by kernel_rfl) (hs : Region.noSelect ops = true := by kernel_rfl) (hf : Region.free md ops listed i = true := by decide +kernel) (hr : (Region.ready md ops listed).contains i = true := by decide +kernel)
    (hQ : ∀ c a w, Q (.panic c) (a.put oi.dst v) w → Q (.panic c) a w := by exact fun _ _ _ h => h) (hw : Region.wanted oi (yielded ops a.tmps) = true := by kernel_rfl) (hS : S w := by assumption) : wpAnyH P md ops Q S (fuel + 1) listed a w :=
  wpAnyH_take hi hs hf hr hQ (Or.inl ⟨hw, hy⟩) hS (by rw [hdd]; exact h)
theorem tkI2 (i : Nat) (d : Nat) {oi : Oper} {v : Value} {fuel : Nat} {listed : Array Bool} {a : Act} {w : World} (hfn : ∀ f, F.fn f)
    (hy : ∀ w, S w → (execOp a.eval oi).run P w = .ok (.value v) w) (h : wpAnyInH F n P md ops Q S fuel (listed.setIfInBounds i true) (a.put (some d) v) w)
    (hi : ops[i]? = some oi := by exact rfl) (hdd : oi.dst = some d := by kernel_rfl) (hs : Region.noSelect ops = true := by kernel_rfl) (hd : noDefer ops = true := by kernel_rfl) (hf : Region.free md ops listed i = true := by decide +kernel) (hr : (Region.ready md ops listed).contains i = true := by decide +kernel)
    (hQ : ∀ c a w, Q (.panic c) (a.put oi.dst v) w → Q (.panic c) a w := by exact fun _ _ _ h => h) (hw : Region.wanted oi (yielded ops a.tmps) = true := by kernel_rfl) (hS : S w := by assumption) : wpAnyInH F n P md ops Q S (fuel + 1) listed a w :=
  tkI i hfn hy (by rw [hdd]; exact h) hi hs hd hf hr hQ hw hS
theorem tkN2 (i : Nat) (d : Nat) {oi : Oper} {fuel : Nat} {listed : Array Bool} {a : Act} {w : World} (hfn : ∀ f, F.fn f)
    (h : wpAnyInH F n P md ops Q S fuel (listed.setIfInBounds i true) (a.put (some d) undef) w)
    (hi : ops[i]? = some oi := by exact rfl) (hdd : oi.dst = some d := by kernel_rfl) (hs : Region.noSelect ops = true := by kernel_rfl) (hd : noDefer ops = true := by kernel_rfl) (hf : Region.free md ops listed i = true := by decide +kernel) (hr : (Region.ready md ops listed).contains i = true := by decide +kernel)
    (hQ : ∀ c a w, Q (.panic c) (a.put oi.dst undef) w → Q (.panic c) a w := by exact fun _ _ _ h => h) (hw : Region.wanted oi (yielded ops a.tmps) = false := by kernel_rfl) (hS : S w := by assumption) : wpAnyInH F n P md ops Q S (fuel + 1) listed a w :=
  tkN i hfn (by rw [hdd]; exact h) hi hs hd hf hr hQ hw hS
/-! The same steps, with what each leaves worked out on the way. -/
theorem tkHx (i : Nat) (d : Nat) {oi : Oper} {v : Value} {fuel : Nat} {listed l' : Array Bool} {a a' : Act} {w : World}
    (h : wpAnyH P md ops Q S fuel l' a' w) (hi : ops[i]? = some oi := by exact rfl)
    (hy : ∀ w, S w → (execOp a.eval oi).run P w = .ok (.value v) w := by (intro w' hSw; replace hSw := hSw.cs; (try simp only [cs_iff_cons] at hSw); go_simp; (try with_reducible rfl)))
    (ha : a.put (some d) v = a' := by ((try simp only [Act.put, List.setIfInBounds_toArray, List.set_cons_zero, List.set_cons_succ]); exact rfl))
    (hl : listed.setIfInBounds i true = l' := by ((try simp only [List.setIfInBounds_toArray, List.set_cons_zero, List.set_cons_succ]); exact rfl))
    (hdd : oi.dst = some d := by kernel_rfl) (hs : Region.noSelect ops = true := by kernel_rfl) (hf : Region.free md ops listed i = true := by decide +kernel) (hr : (Region.ready md ops listed).contains i = true := by decide +kernel)
    (hQ : ∀ c a w, Q (.panic c) (a.put oi.dst v) w → Q (.panic c) a w := by exact fun _ _ _ h => h) (hw : Region.wanted oi (yielded ops a.tmps) = true := by kernel_rfl) (hS : S w := by assumption) : wpAnyH P md ops Q S (fuel + 1) listed a w :=
  tkH2 i d hy (by rw [ha, hl]; exact h) hi hdd hs hf hr hQ hw hS
theorem tkFx (i : Nat) (d : Nat) {oi : Oper} {fuel : Nat} {listed l' : Array Bool} {a a' : Act} {w : World}
    (h : wpAnyH P md ops Q S fuel l' a' w) (hi : ops[i]? = some oi := by exact rfl)
    (ha : a.put (some d) undef = a' := by ((try simp only [Act.put, List.setIfInBounds_toArray, List.set_cons_zero, List.set_cons_succ]); exact rfl))
    (hl : listed.setIfInBounds i true = l' := by ((try simp only [List.setIfInBounds_toArray, List.set_cons_zero, List.set_cons_succ]); exact rfl))
    (hdd : oi.dst = some d := by kernel_rfl) (hs : Region.noSelect ops = true := by kernel_rfl) (hf : Region.free md ops listed i = true := by decide +kernel) (hr : (Region.ready md ops listed).contains i = true := by decide +kernel)
    (hQ : ∀ c a w, Q (.panic c) (a.put oi.dst undef) w → Q (.panic c) a w := by exact fun _ _ _ h => h) (hw : Region.wanted oi (yielded ops a.tmps) = false := by kernel_rfl) (hS : S w := by assumption) : wpAnyH P md ops Q S (fuel + 1) listed a w :=
  tkF2 i d (by rw [ha, hl]; exact h) hi hdd hs hf hr hQ hw hS
theorem tkIx (i : Nat) (d : Nat) {oi : Oper} {v : Value} {fuel : Nat} {listed l' : Array Bool} {a a' : Act} {w : World}
    (h : wpAnyInH F n P md ops Q S fuel l' a' w) (hi : ops[i]? = some oi := by exact rfl)
    (hy : ∀ w, S w → (execOp a.eval oi).run P w = .ok (.value v) w := by (intro w' hSw; replace hSw := hSw.cs; (try simp only [cs_iff_cons] at hSw); go_simp; (try with_reducible rfl)))
    (ha : a.put (some d) v = a' := by ((try simp only [Act.put, List.setIfInBounds_toArray, List.set_cons_zero, List.set_cons_succ]); exact rfl))
    (hl : listed.setIfInBounds i true = l' := by ((try simp only [List.setIfInBounds_toArray, List.set_cons_zero, List.set_cons_succ]); exact rfl))
    (hfn : ∀ f, F.fn f := by exact fun _ => trivial)
    (hdd : oi.dst = some d := by kernel_rfl) (hs : Region.noSelect ops = true := by kernel_rfl) (hd : noDefer ops = true := by kernel_rfl) (hf : Region.free md ops listed i = true := by decide +kernel) (hr : (Region.ready md ops listed).contains i = true := by decide +kernel)
    (hQ : ∀ c a w, Q (.panic c) (a.put oi.dst v) w → Q (.panic c) a w := by exact fun _ _ _ h => h) (hw : Region.wanted oi (yielded ops a.tmps) = true := by kernel_rfl) (hS : S w := by assumption) : wpAnyInH F n P md ops Q S (fuel + 1) listed a w :=
  tkI2 i d hfn hy (by rw [ha, hl]; exact h) hi hdd hs hd hf hr hQ hw hS
theorem tkNx (i : Nat) (d : Nat) {oi : Oper} {fuel : Nat} {listed l' : Array Bool} {a a' : Act} {w : World}
    (h : wpAnyInH F n P md ops Q S fuel l' a' w) (hi : ops[i]? = some oi := by exact rfl)
    (ha : a.put (some d) undef = a' := by ((try simp only [Act.put, List.setIfInBounds_toArray, List.set_cons_zero, List.set_cons_succ]); exact rfl))
    (hl : listed.setIfInBounds i true = l' := by ((try simp only [List.setIfInBounds_toArray, List.set_cons_zero, List.set_cons_succ]); exact rfl))
    (hfn : ∀ f, F.fn f := by exact fun _ => trivial)
    (hdd : oi.dst = some d := by kernel_rfl) (hs : Region.noSelect ops = true := by kernel_rfl) (hd : noDefer ops = true := by kernel_rfl) (hf : Region.free md ops listed i = true := by decide +kernel) (hr : (Region.ready md ops listed).contains i = true := by decide +kernel)
    (hQ : ∀ c a w, Q (.panic c) (a.put oi.dst undef) w → Q (.panic c) a w := by exact fun _ _ _ h => h) (hw : Region.wanted oi (yielded ops a.tmps) = false := by kernel_rfl) (hS : S w := by assumption) : wpAnyInH F n P md ops Q S (fuel + 1) listed a w :=
  tkN2 i d hfn (by rw [ha, hl]; exact h) hi hdd hs hd hf hr hQ hw hS
end
/-- Coordinates that are far from the end of what a number holds. -/
structure SmP (p : Pt) : Prop where
  x0 : -1000000 ≤ p.x
  x1 : p.x ≤ 1000000
  y0 : -1000000 ≤ p.y
  y1 : p.y ≤ 1000000
structure SmS (s : Sd) : Prop where
  a : SmP s.a
  b : SmP s.b
theorem mul_le_of {a b M N : Int} (ha : -M ≤ a) (ha' : a ≤ M) (hb : -N ≤ b) (hb' : b ≤ N) : -(M * N) ≤ a * b ∧ a * b ≤ M * N := by
  have h1 : 0 ≤ (M - a) * (N - b) := Int.mul_nonneg (by omega) (by omega)
  have h2 : 0 ≤ (M + a) * (N + b) := Int.mul_nonneg (by omega) (by omega)
  have h3 : 0 ≤ (M - a) * (N + b) := Int.mul_nonneg (by omega) (by omega)
  have h4 : 0 ≤ (M + a) * (N - b) := Int.mul_nonneg (by omega) (by omega)
  constructor <;> grind
theorem mul_box {a b : Int} (ha : -4000000 ≤ a) (ha' : a ≤ 4000000) (hb : -4000000 ≤ b) (hb' : b ≤ 4000000) : -16000000000000 ≤ a * b ∧ a * b ≤ 16000000000000 := by
  have := mul_le_of (M := 4000000) (N := 4000000) ha ha' hb hb'
  omega
theorem to_any (a b : Pt) (w : World) (ha : SmP a) (hb : SmP b) :
    Calls Try.prog 108 #[.agg #[.int .i64 a.x, .int .i64 a.y], .agg #[.int .i64 b.x, .int .i64 b.y]] w fun e w' => e = .returned (.agg #[.int .i64 (b.x - a.x), .int .i64 (b.y - a.y)]) ∧ Below w.heap.size w w' := by
  obtain ⟨a0, a1, a2, a3⟩ := ha
  obtain ⟨b0, b1, b2, b3⟩ := hb
  go_enter Try.func108, Try.ntmps108
  go_wp2
  go_returns
  exact ⟨rfl, blw⟩
theorem cross_any (a b : Pt) (w : World) (ha : -4000000 ≤ a.x ∧ a.x ≤ 4000000 ∧ -4000000 ≤ a.y ∧ a.y ≤ 4000000) (hb : -4000000 ≤ b.x ∧ b.x ≤ 4000000 ∧ -4000000 ≤ b.y ∧ b.y ≤ 4000000) :
    Calls Try.prog 101 #[.agg #[.int .i64 a.x, .int .i64 a.y], .agg #[.int .i64 b.x, .int .i64 b.y]] w fun e w' => e = .returned (.int .i64 (a.x * b.y - a.y * b.x)) ∧ Below w.heap.size w w' := by
  obtain ⟨a0, a1, a2, a3⟩ := ha
  obtain ⟨b0, b1, b2, b3⟩ := hb
  obtain ⟨p0, p1⟩ := mul_box a0 a1 b2 b3
  obtain ⟨q0, q1⟩ := mul_box a2 a3 b0 b1
  go_enter Try.func101, Try.ntmps101
  go_wp2
  go_ret
  exact ⟨rfl, blw⟩
theorem dot_any (a b : Pt) (w : World) (ha : -4000000 ≤ a.x ∧ a.x ≤ 4000000 ∧ -4000000 ≤ a.y ∧ a.y ≤ 4000000) (hb : -4000000 ≤ b.x ∧ b.x ≤ 4000000 ∧ -4000000 ≤ b.y ∧ b.y ≤ 4000000) :
    Calls Try.prog 107 #[.agg #[.int .i64 a.x, .int .i64 a.y], .agg #[.int .i64 b.x, .int .i64 b.y]] w fun e w' => e = .returned (.int .i64 (a.x * b.x + a.y * b.y)) ∧ Below w.heap.size w w' := by
  obtain ⟨a0, a1, a2, a3⟩ := ha
  obtain ⟨b0, b1, b2, b3⟩ := hb
  obtain ⟨p0, p1⟩ := mul_box a0 a1 b0 b1
  obtain ⟨q0, q1⟩ := mul_box a2 a3 b2 b3
  go_enter Try.func107, Try.ntmps107
  go_wp2
  go_ret
  exact ⟨rfl, blw⟩
theorem Cal.ptErr_in {p : Pt} (h0 : -100000 ≤ p.x) (h1 : p.x ≤ 100000) (h2 : -100000 ≤ p.y) (h3 : p.y ≤ 100000) : Cal.ptErr p = 0 := by
  unfold Cal.ptErr
  exact if_neg (by omega)
theorem Cal.ptErr_out {p : Pt} (h : ¬ (-100000 ≤ p.x ∧ p.x ≤ 100000 ∧ -100000 ≤ p.y ∧ p.y ≤ 100000)) : Cal.ptErr p = 2 := by
  unfold Cal.ptErr
  exact if_pos (by omega)
theorem checkPoint_any (p : Pt) (w : World) : Calls Try.prog 78 #[.agg #[.int .i64 p.x, .int .i64 p.y]] w fun e w' => e = .returned (.int .i64 (Cal.ptErr p)) ∧ Below w.heap.size w w' := by
  by_cases hin : -100000 ≤ p.x ∧ p.x ≤ 100000 ∧ -100000 ≤ p.y ∧ p.y ≤ 100000
  · obtain ⟨h0, h1, h2, h3⟩ := hin
    have hf := Lib.hid (Cal.ptErr_in h0 h1 h2 h3)
    have m1 : max p.x p.y ≤ 100000 := by omega
    have m2 : -100000 ≤ min p.x p.y := by omega
    go_enter Try.func78, Try.ntmps78
    go_wp2
    go_ret
    exact ⟨ret_int hf.out.symm, blw⟩
  · have hf := Lib.hid (Cal.ptErr_out hin)
    by_cases m1 : max p.x p.y ≤ 100000
    · have m2 : min p.x p.y < -100000 := by omega
      clear hin
      go_enter Try.func78, Try.ntmps78
      go_wp2
      go_ret
      exact ⟨ret_int hf.out.symm, blw⟩
    · have m1 : 100000 < max p.x p.y := by omega
      clear hin
      go_enter Try.func78, Try.ntmps78
      go_wp2
      go_ret
      exact ⟨ret_int hf.out.symm, blw⟩
end Go.Proofs.Ytfcjeejhdklkdaa
