/- What the statements rest on: definitions and walks, part 02. -/
import Derived.Test.YtfcjeejhdklkdaaJ01
import Derived.Laws.OwnMore
import Derived.Sort.Grow
import Derived.RangeFuncNested
import Derived.RangeFuncBound
import Derived.RangeFuncCalls
import Derived.RangeFuncLeaves
import Derived.Shelf.Abstract
import Derived.Shelf.RegionOpen
import Derived.OwnWalkIn
import Derived.TacticsInMore
import Derived.LoopNIn
import Derived.LoopIn
import Derived.Deep.MidRow
import Derived.Deep.RegionHeld3
import Derived.RangeFuncBox
namespace Go.Proofs.Ytfcjeejhdklkdaa
open Go Go.RowKit Go.Sort
/-- A slice of the call's own that reads as numbers. -/
def IntsL (w : World) (B : Nat) (v : Value) (zs : List Int) : Prop := OwnL w B 3 1 v (intRows zs)
theorem intRows_length (zs : List Int) : (intRows zs).length = zs.length := by unfold intRows; simp
theorem intRows_wid (zs : List Int) : ∀ r ∈ intRows zs, r.length = 1 := fun r hr => by obtain ⟨n, _, rfl⟩ := List.mem_map.1 hr; rfl
theorem intRows_one (zs : List Int) : ∀ r ∈ intRows zs, ∀ u ∈ r, u.oneCell' = true := fun r hr u hu => by
  obtain ⟨n, _, rfl⟩ := List.mem_map.1 hr
  simp only [List.mem_singleton] at hu; subst hu; rfl
theorem intRows_flat (zs : List Int) : (intRows zs).flatten = zs.map (Value.int .i64) := by
  induction zs with
  | nil => rfl
  | cons z zs ih => unfold intRows at ih ⊢; rw [List.map_cons, List.flatten_cons, ih]; rfl
theorem elemInt : Elem Try.prog 23 3 1 8 := Elem.mk' Try.underlying23 (z := .int .i64 0) (by kernel_rfl) rfl (by decide)
theorem IntsL.own {w : World} {B : Nat} {v : Value} {zs : List Int} (h : IntsL w B v zs) : w.ownsRow B 3 1 v zs.length (zs.map (Value.int .i64)) := by
  have := OwnL.own h
  rwa [intRows_length, intRows_flat] at this
theorem IntsL.of {w : World} {B : Nat} {v : Value} {zs : List Int} (h : w.ownsRow B 3 1 v zs.length (zs.map (Value.int .i64))) : IntsL w B v zs :=
  ⟨by rw [intRows_length, intRows_flat]; exact h, intRows_wid zs, intRows_one zs⟩
theorem IntsL.rows {w : World} {B : Nat} {v : Value} {zs : List Int} (h : IntsL w B v zs) : ∃ A c, v = .slice A zs.length c ∧ RowsAt w A 1 (intRows zs) := by
  obtain ⟨A, c, hv, hr⟩ := OwnL.form h
  exact ⟨A, c, by rw [hv, intRows_length], hr⟩
theorem IntsL.block {w : World} {B g c : Nat} {zs : List Int} {A : Option Addr} (h : IntsL w B (.slice A zs.length c) zs) (hA : A = some ⟨g, 0, none⟩) :
    ∃ cur, w.heap[g]? = some (.cells cur 3 (0, 0)) ∧ B ≤ g ∧ zs.length ≤ c ∧ c ≤ maxLen ∧ cur.size = c ∧ cur.toList.take zs.length = zs.map (Value.int .i64) := by
  subst hA
  rcases h.own.2 with ⟨h1, _⟩ | ⟨g', cap, cur, hv, hb, hg, h1, h2, h3, h4⟩
  · cases h1
  · simp only [Value.slice.injEq, Option.some.injEq, Addr.mk.injEq, and_true, true_and] at hv
    obtain ⟨rfl, rfl⟩ := hv
    exact ⟨cur, hg, hb, h1, h2, by omega, by rwa [Nat.mul_one] at h4⟩
theorem putCells_take {cur : Array Value} {ys : List Int} (h : ys.length ≤ cur.size) : (putCells (Value.int .i64) 0 ys.toArray cur).toList.take ys.length = ys.map (Value.int .i64) ∧ (putCells (Value.int .i64) 0 ys.toArray cur).size = cur.size := by
  refine ⟨?_, by simp [putCells]⟩
  apply List.ext_getElem
  · simp [putCells]; omega
  · intro i h1 h2
    have hi : i < ys.length := by simpa using h2
    simp [putCells, hi]
theorem heap_putRow_same {w : World} {g : Nat} {cur : Array Value} {e : TypeId} {fr : Nat × Nat} {d : Array Int} (h : w.heap[g]? = some (.cells cur e fr)) : (putRow (Value.int .i64) w g 0 d).heap[g]? = some (.cells (putCells (Value.int .i64) 0 d cur) e fr) := by
  simp [putRow, mapBlock, Array.getElem?_modify, h, onCells]
theorem heap_putRow_other {w : World} {g : Nat} {d : Array Int} {k : Nat} (h : k ≠ g) : (putRow (Value.int .i64) w g 0 d).heap[k]? = w.heap[k]? := by
  simp [putRow, mapBlock, Array.getElem?_modify, Ne.symm h]
theorem IntsL.put {w : World} {B g c : Nat} {zs ys : List Int} (h : IntsL w B (.slice (some ⟨g, 0, none⟩) zs.length c) zs) (hl : ys.length = zs.length) :
    IntsL (putRow (Value.int .i64) w g 0 ys.toArray) B (.slice (some ⟨g, 0, none⟩) ys.length c) ys ∧ w.grownBy (putRow (Value.int .i64) w g 0 ys.toArray) (some g) := by
  obtain ⟨cur, hg, hb, h1, h2, h3, h4⟩ := h.block rfl
  obtain ⟨t1, t2⟩ := putCells_take (cur := cur) (ys := ys) (by omega)
  refine ⟨IntsL.of ⟨by simp, .inr ⟨g, c, _, rfl, hb, heap_putRow_same hg, by omega, h2, by rw [t2, h3]; simp, by rw [Nat.mul_one]; exact t1⟩⟩, rfl, rfl, rfl, by simp, fun k _ hk => heap_putRow_other (fun e => hk (by rw [e]))⟩
theorem IntsL.less {w : World} {B B' : Nat} {v : Value} {zs : List Int} (h : IntsL w B v zs) (hB : B' ≤ B) : IntsL w B' v zs := OwnL.less h hB
theorem IntsL.below {w w' : World} {B : Nat} {v : Value} {zs : List Int} (h : IntsL w B v zs) (hb : Below w.heap.size w w') : IntsL w' B v zs := OwnL.below h hb
end Go.Proofs.Ytfcjeejhdklkdaa
namespace Go.Proofs.Ytfcjeejhdklkdaa
open Go Go.RowKit

def isBook : Obj → Bool
  | .loop _ => true
  | .deferred _ => true
  | _ => false
theorem not_cells_of_book {o : Obj} (h : isBook o = true) : o.isCells = false := by cases o <;> simp_all [isBook, Obj.isCells]

variable {F : Fence} {n : Nat} {P : Program}
end Go.Proofs.Ytfcjeejhdklkdaa
namespace Go.Proofs.Ytfcjeejhdklkdaa
open Go Go.RowKit Go.Shelf
attribute [local go_sem] Oper.semAt_some

/-- How many steps are left at most. -/
def stepsLeft (step d : Int) : Nat := if step = 1 then (200001 - d).toNat else (d + 1).toNat
structure Where where
  cb : Nat
  m : Nat
  A : Option Addr
  c : Nat
  l : List Hol
  B : Nat
  bf : Nat
  bs : Nat
  bc : Nat
  step : Int
  start : Int
def CacheAt (K : Where) (d : Int) (W : World) : Prop := ∃ n, CacheOk W K.B K.m n K.l ∧ n + stepsLeft K.step d ≤ 600000
def isDayP (d : Int) : Prop := 0 ≤ d ∧ d ≤ 200000
end Go.Proofs.Ytfcjeejhdklkdaa
namespace Go.Proofs.Ytfcjeejhdklkdaa
open Go Go.RowKit Go.Shelf
attribute [local go_sem] Oper.semAt_some

/-- The working day, so many working days on. -/
def Cal.addFrom (l : List Hol) (step : Int) : Nat → Int → Int → Option Int
  | 0, _, _ => none
  | f + 1, d, left => if 0 ≤ d ∧ d ≤ 200000 then (if Cal.worksB l d = true then (if left = 0 then some d else Cal.addFrom l step f (d + step) (left - 1)) else Cal.addFrom l step f (d + step) left) else none
def Cal.addW (l : List Hol) (day n : Int) : Option Int :=
  if n = 0 then Cal.addFrom l 1 (stepsLeft 1 day) day 0 else if n < 0 then Cal.addFrom l (-1) (stepsLeft (-1) (day - 1)) (day - 1) (-n - 1) else Cal.addFrom l 1 (stepsLeft 1 (day + 1)) (day + 1) (n - 1)
/-- A row that has turned holds no cells. -/
def Others (W : World) (row : Option Nat) : Prop := ∀ r, row = some r → ∃ o : Obj, W.heap[r]? = some o ∧ o.isCells = false
theorem RowsAt.kept {W W' : World} {row : Option Nat} {A : Option Addr} {m : Nat} {rows : List (List Value)} (h : RowsAt W A m rows) (hg : W.grownBy W' row) (hr : Others W row) : RowsAt W' A m rows := fun k r hk => by
  obtain ⟨b, o, hA, hlt, hc⟩ := h k r hk
  exact ⟨b, o, hA, Nat.lt_of_lt_of_le hlt hg.size, fun j v hv => cell_kept (hc j v hv) hg hr⟩
/-- A cell of the call's own, not frozen. -/
structure OwnCell (W : World) (b : Nat) (v : Value) : Prop where
  cell : W.cell? ⟨b, 0, none⟩ = some v
  free : W.frozen? ⟨b, 0, none⟩ = false
theorem OwnCell.kept {W W' : World} {row : Option Nat} {b : Nat} {v : Value} (h : OwnCell W b v) (hg : W.grownBy W' row) (hr : Others W row) : OwnCell W' b v :=
  ⟨cell_kept h.cell hg hr, (frozen_kept h.cell hg hr).trans h.free⟩
theorem OwnCell.far {W : World} {b : Nat} {v : Value} (h : OwnCell W b v) {p : Addr} (hp : b ≠ p.block) (u : Value) : OwnCell (W.setCell p u) b v :=
  ⟨(World.cell?_setCell_other W p ⟨b, 0, none⟩ u (fun e => hp (by rw [e]))).trans h.cell, by rw [World.frozen?_setCell]; exact h.free⟩
/-- What add keeps while it goes round. W0: the world when it began. -/
structure AddI (K : Where) (W0 : World) (res : Option Int) (left : Int) (d : Int) (W : World) : Prop where
  fr : W0.grownBy W (some K.m)
  lo : -1 ≤ d
  hi : d ≤ 200001
  st : OwnCell W K.bs (.int .i64 K.step)
  from_ : OwnCell W K.bf (.int .i64 K.start)
  cal : OwnCell W K.bc (.pointer (some ⟨K.cb, 0, none⟩))
  left_ : OwnCell W (W0.heap.size + 2) (.int .i64 left)
  r0 : OwnCell W W0.heap.size (.int .i64 0)
  r1 : OwnCell W (W0.heap.size + 1) (.bool false)
  cache : CacheAt K d W
  size : W0.heap.size + 6 ≤ W.heap.size
theorem cacheOthers {K : Where} {d : Int} {W : World} (h : CacheAt K d W) : Others W (some K.m) := fun r e => by cases e; obtain ⟨n, ⟨f, h, _⟩, _⟩ := h; obtain ⟨es, cl, h⟩ := h.isMap; exact ⟨_, h, rfl⟩
/-- A turn that leaves cells and the map alone. -/
theorem AddI.book {K : Where} {W0 W W' : World} {res : Option Int} {left d : Int} (h : AddI K W0 res left d W) {row : Option Nat} (hg : W.grownBy W' row) (hr : ∀ r, row = some r → W0.heap.size ≤ r ∧ ∃ o : Obj, W.heap[r]? = some o ∧ isBook o = true) : AddI K W0 res left d W' := by
  have ho : Others W row := fun r e => by obtain ⟨_, o, h1, h2⟩ := hr r e; exact ⟨o, h1, not_cells_of_book h2⟩
  refine ⟨⟨hg.os.trans h.fr.os, hg.tape.trans h.fr.tape, hg.output.trans h.fr.output, Nat.le_trans h.fr.size hg.size, fun i hi hne => (hg.block i (Nat.lt_of_lt_of_le hi h.fr.size) (fun e => ?_)).trans (h.fr.block i hi hne)⟩,
    h.lo, h.hi, h.st.kept hg ho, h.from_.kept hg ho, h.cal.kept hg ho, h.left_.kept hg ho, h.r0.kept hg ho, h.r1.kept hg ho, ?_, Nat.le_trans h.size hg.size⟩
  · obtain ⟨h1, _⟩ := hr i e.symm; omega
  · obtain ⟨n, hc, hn⟩ := h.cache
    have hmap : ∃ es cl, W.heap[K.m]? = some (.map es cl) := by obtain ⟨f, h, _⟩ := hc; exact h.isMap
    refine ⟨n, hc.keep (hg.block _ ?_ ?_) (fun g cs t _ hgc => (hg.block g (Array.getElem?_eq_some_iff.1 hgc).1 ?_).trans hgc), hn⟩
    · obtain ⟨es, cl, h⟩ := hmap; exact (Array.getElem?_eq_some_iff.1 h).1
    · intro e; obtain ⟨_, o, h1, h2⟩ := hr _ e.symm; obtain ⟨es, cl, h⟩ := hmap; rw [h] at h1; cases h1; cases h2
    · intro e; obtain ⟨_, o, h1, h2⟩ := hr _ e.symm; rw [hgc] at h1; cases h1; cases h2
/-- A step of the iterator. -/
theorem AddI.step {K : Where} {W0 W W' : World} {res : Option Int} {left d d' : Int} (h : AddI K W0 res left d W) (hg : W.grownBy W' (some K.m)) (hc : CacheAt K d' W') (h1 : -1 ≤ d') (h2 : d' ≤ 200001) : AddI K W0 res left d' W' := by
  have ho := cacheOthers h.cache
  exact ⟨grownBy_trans h.fr hg, h1, h2, h.st.kept hg ho, h.from_.kept hg ho, h.cal.kept hg ho, h.left_.kept hg ho, h.r0.kept hg ho, h.r1.kept hg ho, hc, Nat.le_trans h.size hg.size⟩
end Go.Proofs.Ytfcjeejhdklkdaa
namespace Go.Proofs.Ytfcjeejhdklkdaa
open Go Go.RowKit Go.Shelf
attribute [local go_sem] Oper.semAt_some
def AddInv (K : Where) (W0 : World) (res : Option Int) (d : Int) (W : World) : Prop :=
  ∃ left : Int, AddI K W0 res left d W ∧ 0 ≤ left ∧ left ≤ 3000 ∧ res = Cal.addFrom K.l K.step (stepsLeft K.step d) d left
def AddAsk (K : Where) (W0 : World) (res : Option Int) (d : Int) (W : World) : Prop :=
  isDayP d ∧ Cal.worksB K.l d = true ∧ ∃ left : Int, AddI K W0 res left (d + K.step) W ∧ 0 ≤ left ∧ left ≤ 3000 ∧ res = Cal.addFrom K.l K.step (stepsLeft K.step d) d left
def AddOut (K : Where) (W0 : World) (res : Option Int) (c : Code) (W : World) : Prop :=
  c = .ret ∧ W0.grownBy W (some K.m) ∧ (∃ x, res = some x ∧ OwnCell W W0.heap.size (.int .i64 x)) ∧ OwnCell W (W0.heap.size + 1) (.bool true)
theorem AddInv.alloc {K : Where} {W0 : World} {res : Option Int} (d : Int) (A : World) (o : Obj) (_ : isBook o = true) (h : AddInv K W0 res d A) : AddInv K W0 res d (A.alloc o) := by
  obtain ⟨left, h, h1⟩ := h
  exact ⟨left, h.book (World.grownBy_alloc A o none) (fun r e => by cases e), h1⟩
theorem AddInv.put {K : Where} {W0 : World} {res : Option Int} (d : Int) (A : World) (r : Nat) (o o' : Obj) (hr : W0.heap.size ≤ r) (ho : A.heap[r]? = some o) (hb : isBook o = true) (h : AddInv K W0 res d A) : AddInv K W0 res d (A.putObj r o') := by
  obtain ⟨left, h, h1⟩ := h
  exact ⟨left, h.book (grownBy_putObj' A r o') (fun r' e => by cases e; exact ⟨hr, o, ho, hb⟩), h1⟩
theorem AddAsk.put {K : Where} {W0 : World} {res : Option Int} (d : Int) (A : World) (r : Nat) (o o' : Obj) (hr : W0.heap.size ≤ r) (ho : A.heap[r]? = some o) (hb : isBook o = true) (h : AddAsk K W0 res d A) : AddAsk K W0 res d (A.putObj r o') := by
  obtain ⟨hd, hw, left, h, h1⟩ := h
  exact ⟨hd, hw, left, h.book (grownBy_putObj' A r o') (fun r' e => by cases e; exact ⟨hr, o, ho, hb⟩), h1⟩
theorem AddOut.put {K : Where} {W0 : World} {res : Option Int} (c : Code) (A : World) (r : Nat) (o o' : Obj) (hr : W0.heap.size ≤ r) (ho : A.heap[r]? = some o) (hb : isBook o = true) (h : AddOut K W0 res c A) : AddOut K W0 res c (A.putObj r o') := by
  obtain ⟨hc, hg, ⟨x, hx, hx0⟩, h1⟩ := h
  have ho' : Others A (some r) := fun r' e => by cases e; exact ⟨o, ho, not_cells_of_book hb⟩
  have hg' := grownBy_putObj' A r o'
  exact ⟨hc, ⟨hg'.os.trans hg.os, hg'.tape.trans hg.tape, hg'.output.trans hg.output, Nat.le_trans hg.size hg'.size, fun i hi hne => (hg'.block i (Nat.lt_of_lt_of_le hi hg.size) (fun e => by cases e; omega)).trans (hg.block i hi hne)⟩,
    ⟨x, hx, hx0.kept hg' ho'⟩, h1.kept hg' ho'⟩
theorem OwnCell.alloc {W : World} {b : Nat} {v : Value} (h : OwnCell W b v) (o : Obj) : OwnCell (W.alloc o) b v := h.kept (World.grownBy_alloc W o none) (fun r e => by cases e)
end Go.Proofs.Ytfcjeejhdklkdaa
namespace Go.Proofs.Ytfcjeejhdklkdaa
open Go Go.RowKit Go.Shelf
def Cal.addWorkingS (l : List Hol) (day n : Int) : Int × Int :=
  if Cal.holsErr l = 0 then (if 0 ≤ day ∧ day ≤ 200000 ∧ -2000 ≤ n ∧ n ≤ 2000 then (match Cal.addW l day n with | some x => (x, 0) | none => (0, 2)) else (0, 2)) else (0, Cal.holsErr l)
theorem cell_alloc_at (W : World) (cs : Array Value) (t : TypeId) (j : Nat) : (W.alloc (.cells cs t)).cell? ⟨W.heap.size, j, none⟩ = cs[j]? :=
  cell_of_row _ _ _ cs t (0, 0) (World.alloc_heap_new W _)
end Go.Proofs.Ytfcjeejhdklkdaa
namespace Go.Proofs.Ytfcjeejhdklkdaa
open Go Go.RowKit
theorem IntsL.slice {w : World} {B : Nat} {v : Value} {zs : List Int} (h : IntsL w B v zs) (hs : zs.length ≤ 1000000) : SliceOf w B v zs := by
  obtain ⟨A, c, rfl, _⟩ := h.rows
  refine ⟨A, c, rfl, hs, fun hne => ?_⟩
  rcases h.own.2 with ⟨_, h0⟩ | ⟨g, cap, cur, hv, hb, hg, h1, h2, h3, h4⟩
  · exact absurd (List.eq_nil_of_length_eq_zero h0) hne
  · simp only [Value.slice.injEq, true_and] at hv
    obtain ⟨rfl, rfl⟩ := hv
    refine ⟨g, cur, _, rfl, hb, hg, fun j x hx => ?_⟩
    have hj : j < zs.length := (List.getElem?_eq_some_iff.1 hx).1
    have := congrArg (·[j]?) h4
    simp only [List.getElem?_take, Nat.mul_one, hj, if_true, List.getElem?_map, hx] at this
    rw [Array.getElem?_toList] at this
    exact this
theorem IntsL.grown {w w' : World} {B : Nat} {v : Value} {zs : List Int} (h : IntsL w B v zs) (hg : w.grownBy w' v.ownBlock) (hs : B ≤ w.heap.size) : Below B w w' :=
  grown_below hg (fun g e => (OwnL.lt h g e).1) hs
end Go.Proofs.Ytfcjeejhdklkdaa
namespace Go.Proofs.Ytfcjeejhdklkdaa
open Go Go.RowKit
end Go.Proofs.Ytfcjeejhdklkdaa
namespace Go.Proofs.Ytfcjeejhdklkdaa
open Go Go.RowKit
end Go.Proofs.Ytfcjeejhdklkdaa
namespace Go.Proofs.Ytfcjeejhdklkdaa
open Go Go.RowKit
end Go.Proofs.Ytfcjeejhdklkdaa
namespace Go.Proofs.Ytfcjeejhdklkdaa
open Go Go.RowKit
def Cal.perE (m d : Int) (k : Bool) : Int := if 0 ≤ m ∧ m ≤ 1200 ∧ 0 ≤ d ∧ d ≤ (if k = true then 2000 else 36500) then 0 else 2
/-- A boxed period. -/
structure PerAt (w : World) (B : Nat) (m d : Int) (k : Bool) : Prop where
  c0 : w.cell? ⟨B, 0, none⟩ = some (.int .i64 m)
  c1 : w.cell? ⟨B, 1, none⟩ = some (.int .i64 d)
  c2 : w.cell? ⟨B, 2, none⟩ = some (.bool k)
  lt : B < w.heap.size
theorem PerAt.below {w w' : World} {B : Nat} {m d : Int} {k : Bool} (h : PerAt w B m d k) (hb : Below w.heap.size w w') : PerAt w' B m d k :=
  ⟨(hb.cell (p := ⟨B, 0, none⟩) h.lt).trans h.c0, (hb.cell (p := ⟨B, 1, none⟩) h.lt).trans h.c1, (hb.cell (p := ⟨B, 2, none⟩) h.lt).trans h.c2, Nat.lt_of_lt_of_le h.lt hb.size⟩
theorem PerAt.new (w : World) (m d : Int) (k : Bool) (t : TypeId) : PerAt (w.alloc (.cells #[.int .i64 m, .int .i64 d, .bool k] t)) w.heap.size m d k := ⟨by simp, by simp, by simp, by simp⟩
/-- Where the working days of a deadline begin to be counted, and how many. -/
def Cal.dlFrom (l : List Hol) (day m d : Int) (k : Bool) : Option Int :=
  if (Cal.laterS day m).2 = true then
    (if k = true then Cal.addW l (Cal.laterS day m).1 d else if (Cal.laterS day m).1 + d ≤ 200000 then Cal.addW l ((Cal.laterS day m).1 + d) 0 else none)
  else none
/-- Deadline: the day and the error. -/
def Cal.dlS (l : List Hol) (day m d : Int) (k : Bool) : Int × Int :=
  if Cal.holsErr l = 0 then (if 0 ≤ day ∧ day ≤ 200000 then (if Cal.perE m d k = 0 then (match Cal.dlFrom l day m d k with | some x => (x, 0) | none => (0, 2)) else (0, Cal.perE m d k)) else (0, 2)) else (0, Cal.holsErr l)
end Go.Proofs.Ytfcjeejhdklkdaa
namespace Go.Proofs.Ytfcjeejhdklkdaa
open Go Go.RowKit
end Go.Proofs.Ytfcjeejhdklkdaa
namespace Go.Proofs.Ytfcjeejhdklkdaa
open Go Go.RowKit
structure Per where
  m : Int
  d : Int
  k : Bool
structure Proc where
  runs : Per
  obj : Per
  wait : Per
  exts : Int
  longest : Int
  hols : List Hol
structure NAct where
  day : Int
  kind : Int
  days : Int
/-- A notice behind some acts. -/
structure NSt where
  phase : Int
  last : Int
  deadline : Int
  object : Int
  objected : Int
  extended : Int
/-- The error of an act alone. -/
def Cal.formErr (p : Proc) (a : NAct) : Int :=
  if 0 ≤ a.day ∧ a.day ≤ 200000 then (if 0 ≤ a.kind ∧ a.kind ≤ 7 then (if a.kind = 6 then (if 1 ≤ a.days ∧ a.days ≤ p.longest then 0 else 2) else if a.days = 0 then 0 else 3) else 15) else 2
/-- Whether a kind of act is accepted in a phase. -/
def Cal.accB (phase kind : Int) : Bool :=
  if kind = 0 then decide (phase = 0) else if kind = 2 then decide (phase = 2) else if kind = 4 ∨ kind = 5 then decide (phase = 3)
  else if kind = 7 then decide (phase = 1 ∨ phase = 2 ∨ phase = 3) else decide (phase = 1)
/-- The error of an act, but for the days that it leads to. -/
def Cal.mayErr (p : Proc) (s : NSt) (a : NAct) : Int :=
  if Cal.formErr p a = 0 then
    (if a.day < s.last then 9 else if Cal.accB s.phase a.kind = true then
      (if s.phase = 1 ∧ s.deadline < a.day then 21 else if a.kind = 3 ∧ min s.object s.deadline < a.day then 21 else if a.kind = 6 ∧ p.exts ≤ s.extended then 16 else 0)
     else 28)
  else Cal.formErr p a
/-- The state behind an act that is accepted, and the error. -/
def Cal.doneS (p : Proc) (s : NSt) (a : NAct) : NSt × Int :=
  if a.kind = 0 ∨ a.kind = 2 then
    ({ s with last := a.day, phase := 1, deadline := (Cal.dlS p.hols a.day p.runs.m p.runs.d p.runs.k).1, object := (Cal.dlS p.hols a.day p.obj.m p.obj.d p.obj.k).1 },
     if (Cal.dlS p.hols a.day p.runs.m p.runs.d p.runs.k).2 = 0 ∧ (Cal.dlS p.hols a.day p.obj.m p.obj.d p.obj.k).2 = 0 then 0 else 2)
  else if a.kind = 1 then ({ s with last := a.day, phase := 2 }, 0)
  else if a.kind = 3 then ({ s with last := a.day, phase := 3, objected := a.day }, 0)
  else if a.kind = 4 then ({ s with last := a.day, phase := 1, deadline := (Cal.addWorkingS p.hols (s.deadline + (a.day - s.objected)) 0).1 }, (Cal.addWorkingS p.hols (s.deadline + (a.day - s.objected)) 0).2)
  else if a.kind = 6 then ({ s with last := a.day, extended := s.extended + 1, deadline := (Cal.addWorkingS p.hols (s.deadline + a.days) 0).1 }, (Cal.addWorkingS p.hols (s.deadline + a.days) 0).2)
  else if a.kind = 5 then ({ s with last := a.day, phase := 5 }, 0)
  else ({ s with last := a.day, phase := 4 }, 0)
def Cal.actS (p : Proc) (s : NSt) (a : NAct) : NSt × Int := if Cal.mayErr p s a = 0 then Cal.doneS p s a else (s, Cal.mayErr p s a)
/-- Behind acts: the state, and the number and the error of the first one that is refused. -/
def Cal.runS (p : Proc) : List NAct → NSt → Nat → NSt × Nat × Int
  | [], s, _ => (s, 0, 0)
  | a :: l, s, i => if (Cal.actS p s a).2 = 0 then Cal.runS p l (Cal.actS p s a).1 (i + 1) else (s, i, (Cal.actS p s a).2)
/-- The state behind the acts up to a day. -/
def Cal.toldS (p : Proc) (day : Int) : List NAct → NSt → NSt → NSt
  | [], _, t => t
  | a :: l, s, t => Cal.toldS p day l (Cal.actS p s a).1 (if a.day ≤ day then (Cal.actS p s a).1 else t)
theorem Cal.mayErr_ok {p : Proc} {s : NSt} {a : NAct} (h : Cal.mayErr p s a = 0) : Cal.formErr p a = 0 ∧ s.last ≤ a.day ∧ Cal.accB s.phase a.kind = true ∧ ¬ (s.phase = 1 ∧ s.deadline < a.day) ∧ ¬ (a.kind = 3 ∧ min s.object s.deadline < a.day) ∧ ¬ (a.kind = 6 ∧ p.exts ≤ s.extended) := by
  unfold Cal.mayErr at h
  split at h
  · rename_i h0
    split at h
    · omega
    · rename_i h1
      split at h
      · rename_i h2
        split at h
        · omega
        · rename_i h3
          split at h
          · omega
          · rename_i h4
            split at h
            · omega
            · rename_i h5; exact ⟨h0, by omega, h2, h3, h4, h5⟩
      · omega
  · rename_i h0; exact absurd h h0
theorem Cal.formErr_ok {p : Proc} {a : NAct} (h : Cal.formErr p a = 0) : 0 ≤ a.day ∧ a.day ≤ 200000 ∧ 0 ≤ a.kind ∧ a.kind ≤ 7 ∧ (a.kind = 6 → 1 ≤ a.days ∧ a.days ≤ p.longest) ∧ (a.kind ≠ 6 → a.days = 0) := by
  unfold Cal.formErr at h
  split at h
  · rename_i h0
    split at h
    · rename_i h1
      split at h
      · rename_i h2
        split at h
        · rename_i h3; exact ⟨h0.1, h0.2, h1.1, h1.2, fun _ => h3, fun h => absurd h2 h⟩
        · omega
      · rename_i h2
        split at h
        · rename_i h3; exact ⟨h0.1, h0.2, h1.1, h1.2, fun h => absurd h h2, fun _ => h3⟩
        · omega
    · omega
  · omega
theorem Cal.actS_ok {p : Proc} {s : NSt} {a : NAct} (h : (Cal.actS p s a).2 = 0) : Cal.mayErr p s a = 0 ∧ Cal.actS p s a = Cal.doneS p s a := by
  unfold Cal.actS at h ⊢
  by_cases h0 : Cal.mayErr p s a = 0
  · exact ⟨h0, if_pos h0⟩
  · rw [if_neg h0] at h; exact absurd h h0
/-- A notice. -/
structure Note where
  name : ByteArray
  opened : Int
  acts : List NAct
/-! Bounds. -/
theorem Cal.addFrom_day {l : List Hol} {step : Int} : ∀ (f : Nat) (d left x : Int), Cal.addFrom l step f d left = some x → 0 ≤ x ∧ x ≤ 200000
  | 0, _, _, _, h => by cases h
  | f + 1, d, left, x, h => by
    unfold Cal.addFrom at h
    split at h
    · rename_i hd
      split at h
      · split at h
        · cases h; exact ⟨hd.1, hd.2⟩
        · exact Cal.addFrom_day f _ _ _ h
      · exact Cal.addFrom_day f _ _ _ h
    · cases h
theorem Cal.addW_day {l : List Hol} {day n x : Int} (h : Cal.addW l day n = some x) : 0 ≤ x ∧ x ≤ 200000 := by
  unfold Cal.addW at h
  split at h
  · exact Cal.addFrom_day _ _ _ _ h
  · split at h
    · exact Cal.addFrom_day _ _ _ _ h
    · exact Cal.addFrom_day _ _ _ _ h
theorem Cal.dlFrom_day {l : List Hol} {day m d x : Int} {k : Bool} (h : Cal.dlFrom l day m d k = some x) : 0 ≤ x ∧ x ≤ 200000 := by
  unfold Cal.dlFrom at h
  split at h
  · split at h
    · exact Cal.addW_day h
    · split at h
      · exact Cal.addW_day h
      · cases h
  · cases h
theorem Cal.dlS_day (l : List Hol) (day m d : Int) (k : Bool) : 0 ≤ (Cal.dlS l day m d k).1 ∧ (Cal.dlS l day m d k).1 ≤ 200000 := by
  unfold Cal.dlS
  split
  · split
    · split
      · split
        · rename_i h; exact Cal.dlFrom_day h
        · simp
      · simp
    · simp
  · simp
theorem Cal.addWorkingS_day (l : List Hol) (day n : Int) : 0 ≤ (Cal.addWorkingS l day n).1 ∧ (Cal.addWorkingS l day n).1 ≤ 200000 := by
  unfold Cal.addWorkingS
  split
  · split
    · split
      · rename_i h; exact Cal.addW_day h
      · simp
    · simp
  · simp
/-- What a state keeps. -/
structure StOk (s : NSt) : Prop where
  p0 : 0 ≤ s.phase
  p1 : s.phase ≤ 6
  l0 : 0 ≤ s.last
  l1 : s.last ≤ 200000
  d0 : 0 ≤ s.deadline
  d1 : s.deadline ≤ 200000
  o0 : 0 ≤ s.object
  o1 : s.object ≤ 200000
  j0 : 0 ≤ s.objected
  j1 : s.objected ≤ 200000
  x0 : 0 ≤ s.extended
  x1 : s.extended ≤ 12
theorem StOk.act {p : Proc} {s : NSt} {a : NAct} (hs : StOk s) (he : p.exts ≤ 12) (h : (Cal.actS p s a).2 = 0) : StOk (Cal.actS p s a).1 := by
  obtain ⟨h1, h2⟩ := Cal.actS_ok h
  obtain ⟨hf, _, _, _, _, hx⟩ := Cal.mayErr_ok h1
  obtain ⟨a0, a1, k0, k1, _, _⟩ := Cal.formErr_ok hf
  rw [h2]
  have q1 := Cal.dlS_day p.hols a.day p.runs.m p.runs.d p.runs.k
  have q2 := Cal.dlS_day p.hols a.day p.obj.m p.obj.d p.obj.k
  have q3 := Cal.addWorkingS_day p.hols (s.deadline + (a.day - s.objected)) 0
  have q4 := Cal.addWorkingS_day p.hols (s.deadline + a.days) 0
  obtain ⟨p0, p1, l0, l1, d0, d1, o0, o1, j0, j1, x0, x1⟩ := hs
  unfold Cal.doneS
  split
  · exact ⟨by simp, by simp, a0, a1, q1.1, q1.2, q2.1, q2.2, j0, j1, x0, x1⟩
  · split
    · exact ⟨by simp, by simp, a0, a1, d0, d1, o0, o1, j0, j1, x0, x1⟩
    · split
      · exact ⟨by simp, by simp, a0, a1, d0, d1, o0, o1, a0, a1, x0, x1⟩
      · split
        · exact ⟨by simp, by simp, a0, a1, q3.1, q3.2, o0, o1, j0, j1, x0, x1⟩
        · split
          · rename_i hk
            have : s.extended < p.exts := by
              rcases Int.lt_or_le s.extended p.exts with h | h
              · exact h
              · exact absurd ⟨hk, h⟩ hx
            exact ⟨p0, p1, a0, a1, q4.1, q4.2, o0, o1, j0, j1, by show 0 ≤ s.extended + 1; omega, by show s.extended + 1 ≤ 12; omega⟩
          · split
            · exact ⟨by simp, by simp, a0, a1, d0, d1, o0, o1, j0, j1, x0, x1⟩
            · exact ⟨by simp, by simp, a0, a1, d0, d1, o0, o1, j0, j1, x0, x1⟩
/-! The reference's words. -/
end Go.Proofs.Ytfcjeejhdklkdaa
namespace Go.Proofs.Ytfcjeejhdklkdaa
open Go Go.RowKit
/-- A boxed state. -/
structure StAt (w : World) (B : Nat) (A : Option Addr) (c : Nat) (p : Proc) (s : NSt) : Prop where
  range : w.rangeAt B 0 [.int .i64 p.runs.m, .int .i64 p.runs.d, .bool p.runs.k, .int .i64 p.obj.m, .int .i64 p.obj.d, .bool p.obj.k, .int .i64 p.wait.m, .int .i64 p.wait.d, .bool p.wait.k, .int .i64 p.exts, .int .i64 p.longest, .slice A p.hols.length c, .int .i64 s.phase, .int .i64 s.last, .int .i64 s.deadline, .int .i64 s.object, .int .i64 s.objected, .int .i64 s.extended]
  lt : B < w.heap.size
theorem StAt.below {w w' : World} {B : Nat} {A : Option Addr} {c : Nat} {p : Proc} {s : NSt} (h : StAt w B A c p s) (hb : Below w.heap.size w w') : StAt w' B A c p s :=
  ⟨fun j v hv => (hb.cell (p := ⟨B, 0 + j, none⟩) h.lt).trans (h.range j v hv), Nat.lt_of_lt_of_le h.lt hb.size⟩
theorem StAt.new (w : World) (A : Option Addr) (c : Nat) (p : Proc) (s : NSt) (t : TypeId) : StAt (w.alloc (.cells #[.int .i64 p.runs.m, .int .i64 p.runs.d, .bool p.runs.k, .int .i64 p.obj.m, .int .i64 p.obj.d, .bool p.obj.k, .int .i64 p.wait.m, .int .i64 p.wait.d, .bool p.wait.k, .int .i64 p.exts, .int .i64 p.longest, .slice A p.hols.length c, .int .i64 s.phase, .int .i64 s.last, .int .i64 s.deadline, .int .i64 s.object, .int .i64 s.objected, .int .i64 s.extended] t)) w.heap.size A c p s :=
  ⟨fun j v hv => by rw [Nat.zero_add, cell_alloc_at, ← hv]; simp, by simp⟩
theorem StAt.all {w : World} {B : Nat} {A : Option Addr} {c : Nat} {p : Proc} {s : NSt} (h : StAt w B A c p s) : w.cell? ⟨B, 0, none⟩ = some (.int .i64 p.runs.m) ∧ w.cell? ⟨B, 1, none⟩ = some (.int .i64 p.runs.d) ∧ w.cell? ⟨B, 2, none⟩ = some (.bool p.runs.k) ∧ w.cell? ⟨B, 3, none⟩ = some (.int .i64 p.obj.m) ∧ w.cell? ⟨B, 4, none⟩ = some (.int .i64 p.obj.d) ∧ w.cell? ⟨B, 5, none⟩ = some (.bool p.obj.k) ∧ w.cell? ⟨B, 6, none⟩ = some (.int .i64 p.wait.m) ∧ w.cell? ⟨B, 7, none⟩ = some (.int .i64 p.wait.d) ∧ w.cell? ⟨B, 8, none⟩ = some (.bool p.wait.k) ∧ w.cell? ⟨B, 9, none⟩ = some (.int .i64 p.exts) ∧ w.cell? ⟨B, 10, none⟩ = some (.int .i64 p.longest) ∧ w.cell? ⟨B, 11, none⟩ = some (.slice A p.hols.length c) ∧ w.cell? ⟨B, 12, none⟩ = some (.int .i64 s.phase) ∧ w.cell? ⟨B, 13, none⟩ = some (.int .i64 s.last) ∧ w.cell? ⟨B, 14, none⟩ = some (.int .i64 s.deadline) ∧ w.cell? ⟨B, 15, none⟩ = some (.int .i64 s.object) ∧ w.cell? ⟨B, 16, none⟩ = some (.int .i64 s.objected) ∧ w.cell? ⟨B, 17, none⟩ = some (.int .i64 s.extended) :=
  ⟨h.range 0 _ rfl, h.range 1 _ rfl, h.range 2 _ rfl, h.range 3 _ rfl, h.range 4 _ rfl, h.range 5 _ rfl, h.range 6 _ rfl, h.range 7 _ rfl, h.range 8 _ rfl, h.range 9 _ rfl, h.range 10 _ rfl, h.range 11 _ rfl, h.range 12 _ rfl, h.range 13 _ rfl, h.range 14 _ rfl, h.range 15 _ rfl, h.range 16 _ rfl, h.range 17 _ rfl⟩
/-- A boxed act. -/
structure ActAt (w : World) (B : Nat) (a : NAct) : Prop where
  c0 : w.cell? ⟨B, 0, none⟩ = some (.int .i64 a.day)
  c1 : w.cell? ⟨B, 1, none⟩ = some (.int .i64 a.kind)
  c2 : w.cell? ⟨B, 2, none⟩ = some (.int .i64 a.days)
  lt : B < w.heap.size
theorem ActAt.below {w w' : World} {B : Nat} {a : NAct} (h : ActAt w B a) (hb : Below w.heap.size w w') : ActAt w' B a :=
  ⟨(hb.cell (p := ⟨B, 0, none⟩) h.lt).trans h.c0, (hb.cell (p := ⟨B, 1, none⟩) h.lt).trans h.c1, (hb.cell (p := ⟨B, 2, none⟩) h.lt).trans h.c2, Nat.lt_of_lt_of_le h.lt hb.size⟩
theorem ActAt.new (w : World) (a : NAct) (t : TypeId) : ActAt (w.alloc (.cells #[.int .i64 a.day, .int .i64 a.kind, .int .i64 a.days] t)) w.heap.size a := ⟨by simp, by simp, by simp, by simp⟩
end Go.Proofs.Ytfcjeejhdklkdaa
namespace Go.Proofs.Ytfcjeejhdklkdaa
open Go Go.RowKit
/-- The one step that may come up. -/
theorem ratHx {P : Program} {ops : Array Oper} {Q : Exit → Act → World → Prop} {md : Region.Mode} {S : World → Prop} (i : Nat) {op : Oper} {fuel : Nat} {listed : Array Bool} {a : Act} {w : World}
    (h : ∀ K : Act → World → Prop, Shut (∀ a w, S w → (S w → wpAnyH P md ops Q S fuel (listed.setIfInBounds i true) a w) → K a w) → Oper.wp P op a w K Q)
    (ho : ops[i]? = some op := by exact rfl) (hr : Region.ready md ops listed = [i] := by decide +kernel) (hw : Region.wanted op (yielded ops a.tmps) = true := by kernel_rfl) : wpAnyH P md ops Q S (fuel + 1) listed a w :=
  wpAnyH_ready (rs := [i]) hr (by simp) (AllReadyH.cons ho (fun K hK => by rw [if_pos hw]; exact h K hK) AllReadyH.nil)
end Go.Proofs.Ytfcjeejhdklkdaa
namespace Go.Proofs.Ytfcjeejhdklkdaa
open Go Go.RowKit
end Go.Proofs.Ytfcjeejhdklkdaa
namespace Go.Proofs.Ytfcjeejhdklkdaa
open Go Go.RowKit
theorem below_grown {w w' : World} (h : Below w.heap.size w w') (row : Option Nat) : w.grownBy w' row := ⟨h.os, h.tape, h.output, h.size, fun i hi _ => h.block i hi⟩
theorem grown_set (w : World) (B o : Nat) (u : Value) : w.grownBy (w.setCell ⟨B, o, none⟩ u) (some B) :=
  ⟨by simp [World.setCell], by simp [World.setCell], by simp [World.setCell], by simp, fun k _ hne => Below.heap_setCell w _ u k (fun e => hne (by rw [e]))⟩
theorem grown_drewN (w : World) (n : Nat) (row : Option Nat) : w.grownBy (w.drewN n) row := ⟨rfl, rfl, rfl, Nat.le_refl _, fun _ _ _ => rfl⟩
/-- A boxed state that may be written. -/
structure StW (w : World) (B : Nat) (A : Option Addr) (c : Nat) (p : Proc) (s : NSt) : Prop where
  at_ : StAt w B A c p s
  free : ∀ j, j < 18 → w.frozen? ⟨B, j, none⟩ = false
theorem StW.below {w w' : World} {B : Nat} {A : Option Addr} {c : Nat} {p : Proc} {s : NSt} (h : StW w B A c p s) (hb : Below w.heap.size w w') : StW w' B A c p s :=
  ⟨h.at_.below hb, fun j hj => (hb.frozen (p := ⟨B, j, none⟩) h.at_.lt).trans (h.free j hj)⟩
theorem StAt.grown {w w' : World} {row : Option Nat} {B : Nat} {A : Option Addr} {c : Nat} {p : Proc} {s : NSt} (h : StAt w B A c p s) (hg : w.grownBy w' row) (hne : some B ≠ row) : StAt w' B A c p s :=
  ⟨fun j v hv => (World.cell?_of_block (a := ⟨B, 0 + j, none⟩) (hg.block B h.lt hne)).trans (h.range j v hv), Nat.lt_of_lt_of_le h.lt hg.size⟩
theorem StW.grown {w w' : World} {row : Option Nat} {B : Nat} {A : Option Addr} {c : Nat} {p : Proc} {s : NSt} (h : StW w B A c p s) (hg : w.grownBy w' row) (hne : some B ≠ row) : StW w' B A c p s :=
  ⟨h.at_.grown hg hne, fun j hj => (World.frozen?_of_block (a := ⟨B, j, none⟩) (hg.block B h.at_.lt hne)).trans (h.free j hj)⟩
theorem StW.set {w : World} {B : Nat} {A : Option Addr} {c : Nat} {p : Proc} {s : NSt} (h : StW w B A c p s) (j : Nat) (v : Value) (s' : NSt) (hcs : ([.int .i64 p.runs.m, .int .i64 p.runs.d, .bool p.runs.k, .int .i64 p.obj.m, .int .i64 p.obj.d, .bool p.obj.k, .int .i64 p.wait.m, .int .i64 p.wait.d, .bool p.wait.k, .int .i64 p.exts, .int .i64 p.longest, .slice A p.hols.length c, .int .i64 s.phase, .int .i64 s.last, .int .i64 s.deadline, .int .i64 s.object, .int .i64 s.objected, .int .i64 s.extended] : List Value).set j v = [.int .i64 p.runs.m, .int .i64 p.runs.d, .bool p.runs.k, .int .i64 p.obj.m, .int .i64 p.obj.d, .bool p.obj.k, .int .i64 p.wait.m, .int .i64 p.wait.d, .bool p.wait.k, .int .i64 p.exts, .int .i64 p.longest, .slice A p.hols.length c, .int .i64 s'.phase, .int .i64 s'.last, .int .i64 s'.deadline, .int .i64 s'.object, .int .i64 s'.objected, .int .i64 s'.extended]) (hj : j < 18) : StW (w.setCell ⟨B, j, none⟩ v) B A c p s' := by
  refine ⟨⟨fun k u hu => ?_, by rw [World.size_setCell]; exact h.at_.lt⟩, fun k hk => by rw [World.frozen?_setCell]; exact h.free k hk⟩
  rw [← hcs] at hu
  rw [Nat.zero_add]
  by_cases e : j = k
  · subst e
    rw [List.getElem?_set_self (by simpa using hj)] at hu
    cases hu
    obtain ⟨x, hx⟩ : ∃ x, ([.int .i64 p.runs.m, .int .i64 p.runs.d, .bool p.runs.k, .int .i64 p.obj.m, .int .i64 p.obj.d, .bool p.obj.k, .int .i64 p.wait.m, .int .i64 p.wait.d, .bool p.wait.k, .int .i64 p.exts, .int .i64 p.longest, .slice A p.hols.length c, .int .i64 s.phase, .int .i64 s.last, .int .i64 s.deadline, .int .i64 s.object, .int .i64 s.objected, .int .i64 s.extended] : List Value)[j]? = some x := ⟨_, List.getElem?_eq_getElem (by simpa using hj)⟩
    have := h.at_.range j x hx
    rw [Nat.zero_add] at this
    exact World.cell?_setCell_same _ _ _ this
  · rw [List.getElem?_set_ne e] at hu
    have := h.at_.range k u hu
    rw [Nat.zero_add] at this
    rw [World.cell?_setCell_other _ _ _ _ (fun x => e (by injection x))]
    exact this
theorem StW.new (w : World) (A : Option Addr) (c : Nat) (p : Proc) (s : NSt) (t : TypeId) : StW (w.alloc (.cells #[.int .i64 p.runs.m, .int .i64 p.runs.d, .bool p.runs.k, .int .i64 p.obj.m, .int .i64 p.obj.d, .bool p.obj.k, .int .i64 p.wait.m, .int .i64 p.wait.d, .bool p.wait.k, .int .i64 p.exts, .int .i64 p.longest, .slice A p.hols.length c, .int .i64 s.phase, .int .i64 s.last, .int .i64 s.deadline, .int .i64 s.object, .int .i64 s.objected, .int .i64 s.extended] t)) w.heap.size A c p s :=
  ⟨StAt.new w A c p s t, fun j hj => by unfold World.frozen?; rw [World.alloc_heap_new]; simp⟩
theorem below_of_grownB {w0 w w' : World} {B : Nat} (h : Below w0.heap.size w0 w) (hg : w.grownBy w' (some B)) (hB : w0.heap.size ≤ B) : Below w0.heap.size w0 w' := h.grown hg h.size (fun k e => by cases e; exact hB)
end Go.Proofs.Ytfcjeejhdklkdaa
namespace Go.Proofs.Ytfcjeejhdklkdaa
open Go Go.RowKit
end Go.Proofs.Ytfcjeejhdklkdaa
namespace Go.Proofs.Ytfcjeejhdklkdaa
open Go Go.RowKit
/-- A box that reads as a list of cells and may be written. -/
structure BoxAt (w : World) (B : Nat) (cs : List Value) : Prop where
  range : w.rangeAt B 0 cs
  free : ∀ j, j < cs.length → w.frozen? ⟨B, j, none⟩ = false
  lt : B < w.heap.size
theorem BoxAt.there {w : World} {B : Nat} {cs : List Value} (h : BoxAt w B cs) : w.there B 0 cs.length := fun j hj => ⟨h.range.isSome j hj, by rw [Nat.zero_add]; exact h.free j hj⟩
theorem BoxAt.grown {w w' : World} {row : Option Nat} {B : Nat} {cs : List Value} (h : BoxAt w B cs) (hg : w.grownBy w' row) (hne : some B ≠ row) : BoxAt w' B cs :=
  ⟨fun j v hv => (World.cell?_of_block (a := ⟨B, 0 + j, none⟩) (hg.block B h.lt hne)).trans (h.range j v hv), fun j hj => (World.frozen?_of_block (a := ⟨B, j, none⟩) (hg.block B h.lt hne)).trans (h.free j hj), Nat.lt_of_lt_of_le h.lt hg.size⟩
theorem BoxAt.below {w w' : World} {B : Nat} {cs : List Value} (h : BoxAt w B cs) (hb : Below w.heap.size w w') : BoxAt w' B cs := h.grown (below_grown hb none) (by simp)
theorem BoxAt.alloc {w : World} {B : Nat} {cs : List Value} (h : BoxAt w B cs) (o : Obj) : BoxAt (w.alloc o) B cs := h.below (below_alloc w o)
theorem BoxAt.new (w : World) (cs : Array Value) (t : TypeId) : BoxAt (w.alloc (.cells cs t)) w.heap.size cs.toList :=
  ⟨fun j v hv => by rw [Nat.zero_add, cell_alloc_at, ← hv]; simp, fun j hj => by unfold World.frozen?; rw [World.alloc_heap_new]; simp, by simp⟩
theorem grown_setCells (B : Nat) : ∀ (xs : List Value) (o : Nat) (w : World), w.grownBy (w.setCells B o xs) (some B)
  | [], _, w => World.grownBy.refl w _
  | v :: xs, o, w => (grown_set w B o v).trans (grown_setCells B xs (o + 1) _)
theorem size_setCells (B : Nat) : ∀ (xs : List Value) (o : Nat) (w : World), (w.setCells B o xs).heap.size = w.heap.size
  | [], _, _ => rfl
  | v :: xs, o, w => by unfold World.setCells; rw [size_setCells B xs]; simp
theorem BoxAt.put {w : World} {B : Nat} {cs : List Value} (h : BoxAt w B cs) (xs : List Value) (hl : xs.length = cs.length) : BoxAt (w.setCells B 0 xs) B xs :=
  ⟨World.rangeAt_setCells_same w B 0 xs (by rw [hl]; exact h.there), fun j hj => by rw [World.frozen?_setCells]; exact h.free j (by omega), by rw [size_setCells]; exact h.lt⟩
theorem BoxAt.aside {w : World} {B B' : Nat} {cs : List Value} (h : BoxAt w B cs) (xs : List Value) (hne : B ≠ B') : BoxAt (w.setCells B' 0 xs) B cs := h.grown (grown_setCells B' xs 0 w) (fun e => hne (by cases e; rfl))
theorem BoxAt.set {w : World} {B : Nat} {cs : List Value} (h : BoxAt w B cs) (j : Nat) (v : Value) (hj : j < cs.length) : BoxAt (w.setCell ⟨B, j, none⟩ v) B (cs.set j v) := by
  refine ⟨fun k u hu => ?_, fun k hk => by rw [World.frozen?_setCell]; exact h.free k (by simpa using hk), by rw [World.size_setCell]; exact h.lt⟩
  rw [Nat.zero_add]
  by_cases e : j = k
  · subst e
    rw [List.getElem?_set_self hj] at hu
    cases hu
    obtain ⟨x, hx⟩ : ∃ x, cs[j]? = some x := ⟨_, List.getElem?_eq_getElem hj⟩
    have := h.range j x hx
    rw [Nat.zero_add] at this
    exact World.cell?_setCell_same _ _ _ this
  · rw [List.getElem?_set_ne e] at hu
    have := h.range k u hu
    rw [Nat.zero_add] at this
    rw [World.cell?_setCell_other _ _ _ _ (fun x => e (by injection x))]
    exact this
theorem BoxAt.c {w : World} {B : Nat} {cs : List Value} (h : BoxAt w B cs) (j : Nat) (v : Value) (hv : cs[j]? = some v) : w.cell? ⟨B, j, none⟩ = some v := by
  have := h.range j v hv
  rw [Nat.zero_add] at this
  exact this
theorem StW.box {w : World} {B : Nat} {A : Option Addr} {c : Nat} {p : Proc} {s : NSt} (h : StW w B A c p s) : BoxAt w B [.int .i64 p.runs.m, .int .i64 p.runs.d, .bool p.runs.k, .int .i64 p.obj.m, .int .i64 p.obj.d, .bool p.obj.k, .int .i64 p.wait.m, .int .i64 p.wait.d, .bool p.wait.k, .int .i64 p.exts, .int .i64 p.longest, .slice A p.hols.length c, .int .i64 s.phase, .int .i64 s.last, .int .i64 s.deadline, .int .i64 s.object, .int .i64 s.objected, .int .i64 s.extended] := ⟨h.at_.range, h.free, h.at_.lt⟩
theorem BoxAt.st {w : World} {B : Nat} {A : Option Addr} {c : Nat} {p : Proc} {s : NSt} (h : BoxAt w B [.int .i64 p.runs.m, .int .i64 p.runs.d, .bool p.runs.k, .int .i64 p.obj.m, .int .i64 p.obj.d, .bool p.obj.k, .int .i64 p.wait.m, .int .i64 p.wait.d, .bool p.wait.k, .int .i64 p.exts, .int .i64 p.longest, .slice A p.hols.length c, .int .i64 s.phase, .int .i64 s.last, .int .i64 s.deadline, .int .i64 s.object, .int .i64 s.objected, .int .i64 s.extended]) : StW w B A c p s := ⟨⟨h.range, h.lt⟩, h.free⟩
theorem BoxAt.act {w : World} {B : Nat} {a : NAct} (h : BoxAt w B [.int .i64 a.day, .int .i64 a.kind, .int .i64 a.days]) : ActAt w B a := ⟨h.c 0 _ rfl, h.c 1 _ rfl, h.c 2 _ rfl, h.lt⟩
section
variable {P : Program}
/-- Results: a wide cell, then one or two slots. -/
theorem results_mid2 {fn : Func} {t u : Tmp} {ty : TypeId} (h : fn.results = #[.cell t ty, .tmp u]) (tmps : Array Value) (w : World) (g : Nat) (cs : List Value) (d : TypeDesc)
    (hp : tmps.getD t undef = .pointer (some ⟨g, 0, none⟩)) (hc : w.rangeAt g 0 cs) (hu : P.underlying ty = some d) (hd : d.isRow = true) (hi : (P.info? ty).map (·.size) = some cs.length) :
    (results fn tmps).run P w = .ok (.tuple #[.agg cs.toArray, tmps.getD u undef]) w := by
  have hp' : tmps[t]?.getD undef = .pointer (some ⟨g, 0, none⟩) := by simpa using hp
  simp [results, h, hp', asAddr, run_loadVar_mid w g 0 ty cs d hc hu hd hi]
theorem results_mid1 {fn : Func} {t : Tmp} {ty : TypeId} (h : fn.results = #[.cell t ty]) (tmps : Array Value) (w : World) (g : Nat) (cs : List Value) (d : TypeDesc)
    (hp : tmps.getD t undef = .pointer (some ⟨g, 0, none⟩)) (hc : w.rangeAt g 0 cs) (hu : P.underlying ty = some d) (hd : d.isRow = true) (hi : (P.info? ty).map (·.size) = some cs.length) :
    (results fn tmps).run P w = .ok (.agg cs.toArray) w := by
  have hp' : tmps[t]?.getD undef = .pointer (some ⟨g, 0, none⟩) := by simpa using hp
  simp [results, h, hp', asAddr, run_loadVar_mid w g 0 ty cs d hc hu hd hi]
end
end Go.Proofs.Ytfcjeejhdklkdaa
namespace Go.Proofs.Ytfcjeejhdklkdaa
open Go Go.RowKit Go.Shelf
attribute [local go_sem] Oper.semAt_some
theorem OwnL.keeps {W W' : World} {B : Nat} {E : TypeId} {m : Nat} {v : Value} {rows : List (List Value)} (h : OwnL W B E m v rows) (hg : W.grownBy W' v.ownBlock) : KeepsOthers W W' := by
  refine KeepsOthers.of_grownBy hg fun j o e ho => ?_
  rcases h.own.2 with ⟨rfl, _⟩ | ⟨g, cap, cur, rfl, _, hh, _⟩
  · cases e
  · cases e
    rw [hh] at ho
    cases ho; rfl
end Go.Proofs.Ytfcjeejhdklkdaa
namespace Go.Proofs.Ytfcjeejhdklkdaa
open Go Go.RowKit Go.Shelf
attribute [local go_sem] Oper.semAt_some
end Go.Proofs.Ytfcjeejhdklkdaa
namespace Go.Proofs.Ytfcjeejhdklkdaa
open Go Go.RowKit
theorem ActAt.grown {w w' : World} {row : Option Nat} {B : Nat} {a : NAct} (h : ActAt w B a) (hg : w.grownBy w' row) (hne : some B ≠ row) : ActAt w' B a :=
  ⟨(World.cell?_of_block (a := ⟨B, 0, none⟩) (hg.block B h.lt hne)).trans h.c0, (World.cell?_of_block (a := ⟨B, 1, none⟩) (hg.block B h.lt hne)).trans h.c1, (World.cell?_of_block (a := ⟨B, 2, none⟩) (hg.block B h.lt hne)).trans h.c2, Nat.lt_of_lt_of_le h.lt hg.size⟩
end Go.Proofs.Ytfcjeejhdklkdaa
namespace Go.Proofs.Ytfcjeejhdklkdaa
open Go Go.RowKit
end Go.Proofs.Ytfcjeejhdklkdaa
namespace Go.Proofs.Ytfcjeejhdklkdaa
open Go Go.RowKit
def NAct.cells (a : NAct) : List Value := [.int .i64 a.day, .int .i64 a.kind, .int .i64 a.days]
/-- A slice that reads as a list of acts. -/
structure Acts (w : World) (A : Option Addr) (l : List NAct) : Prop where
  rows : RowsAt w A 3 (l.map NAct.cells)
  size : l.length ≤ 9223372036854775807
theorem Acts.below {w w' : World} {A : Option Addr} {l : List NAct} (h : Acts w A l) (hb : Below w.heap.size w w') : Acts w' A l := ⟨h.rows.below hb, h.size⟩
theorem Acts.at_ {w : World} {A : Option Addr} {l : List NAct} (h : Acts w A l) {k : Nat} {a : NAct} (hk : l[k]? = some a) :
    ∃ b o, A = some ⟨b, o, none⟩ ∧ b < w.heap.size ∧ w.cell? ⟨b, o + k * 3, none⟩ = some (.int .i64 a.day) ∧ w.cell? ⟨b, o + k * 3 + 1, none⟩ = some (.int .i64 a.kind) ∧ w.cell? ⟨b, o + k * 3 + 2, none⟩ = some (.int .i64 a.days) := by
  obtain ⟨b, o, hA, hlt, hc⟩ := h.rows k a.cells (by simp [hk])
  exact ⟨b, o, hA, hlt, hc 0 _ rfl, hc 1 _ rfl, hc 2 _ rfl⟩
end Go.Proofs.Ytfcjeejhdklkdaa
namespace Go.Proofs.Ytfcjeejhdklkdaa
open Go Go.RowKit
theorem wpList_store_box {P : Program} {ops : Array Oper} {rest : List Oper} {op : Oper} {a : Act} {w : World} {Q : Exit → Act → World → Prop} (hgd : op.guard = none) (ty : TypeId) (x y : Operand) (ho : op.op = .store ty x y)
    (b : Nat) (cs0 cs : List Value) (hx : a.eval x = .pointer (some ⟨b, 0, none⟩)) (hy : a.eval y = .agg cs.toArray) (hB : BoxAt w b cs0) (hl : cs.length = cs0.length)
    (hi : (P.info? ty).map (·.size) = some cs.length) (h1 : cs.toArray.all (·.oneCell') = true)
    (h : ∀ w', BoxAt w' b cs → w.grownBy w' (some b) → wpList P ops Q rest (a.put op.dst undef) w') : wpList P ops Q (op :: rest) a w :=
  wpList_store_mid hgd ty x y ho b 0 cs.toArray hx hy (by rw [List.size_toArray, hl]; exact hB.there) (by simpa using hi) h1 (h _ (hB.put cs hl) (grown_setCells b cs 0 w))
/-- The loop of follow. -/
structure FolI (w : World) (b6 b9 b10 : Nat) (A : Option Addr) (c : Nat) (p : Proc) (s t : NSt) (wr : World) : Prop where
  fr : Below w.heap.size w wr
  r : BoxAt wr b6 [.int .i64 0, .int .i64 0, .bool false, .int .i64 0, .int .i64 0, .bool false, .int .i64 0, .int .i64 0, .bool false, .int .i64 0, .int .i64 0, .slice none 0 0, .int .i64 0, .int .i64 0, .int .i64 0, .int .i64 0, .int .i64 0, .int .i64 0]
  s : BoxAt wr b9 [.int .i64 p.runs.m, .int .i64 p.runs.d, .bool p.runs.k, .int .i64 p.obj.m, .int .i64 p.obj.d, .bool p.obj.k, .int .i64 p.wait.m, .int .i64 p.wait.d, .bool p.wait.k, .int .i64 p.exts, .int .i64 p.longest, .slice A p.hols.length c, .int .i64 s.phase, .int .i64 s.last, .int .i64 s.deadline, .int .i64 s.object, .int .i64 s.objected, .int .i64 s.extended]
  t : BoxAt wr b10 [.int .i64 p.runs.m, .int .i64 p.runs.d, .bool p.runs.k, .int .i64 p.obj.m, .int .i64 p.obj.d, .bool p.obj.k, .int .i64 p.wait.m, .int .i64 p.wait.d, .bool p.wait.k, .int .i64 p.exts, .int .i64 p.longest, .slice A p.hols.length c, .int .i64 t.phase, .int .i64 t.last, .int .i64 t.deadline, .int .i64 t.object, .int .i64 t.objected, .int .i64 t.extended]
  h0 : w.heap.size ≤ b6
  h1 : b6 < b9
  h2 : b9 < b10
theorem FolI.below {w wr wr' : World} {b6 b9 b10 : Nat} {A : Option Addr} {c : Nat} {p : Proc} {s t : NSt} (h : FolI w b6 b9 b10 A c p s t wr) (hb : Below wr.heap.size wr wr') : FolI w b6 b9 b10 A c p s t wr' :=
  ⟨below_step h.fr hb, h.r.below hb, h.s.below hb, h.t.below hb, h.h0, h.h1, h.h2⟩
/-- What follow tells. -/
def Cal.folS (p : Proc) (l : List NAct) (s0 : NSt) (day : Int) : NSt × Int × Int :=
  if (Cal.runS p l s0 0).2.2 = 0 then (Cal.toldS p day l s0 s0, 0, 0) else ((Cal.runS p l s0 0).1, ((Cal.runS p l s0 0).2.1 : Int), (Cal.runS p l s0 0).2.2)
def FolP (p : Proc) (l : List NAct) (s0 : NSt) (day : Int) (k : Nat) (s t : NSt) : Prop :=
  Cal.runS p (l.drop k) s k = Cal.runS p l s0 0 ∧ Cal.toldS p day (l.drop k) s t = Cal.toldS p day l s0 s0 ∧ StOk s
theorem Cal.runS_more (p : Proc) (a : NAct) (l : List NAct) (s : NSt) (i : Nat) : Cal.runS p (a :: l) s i = if (Cal.actS p s a).2 = 0 then Cal.runS p l (Cal.actS p s a).1 (i + 1) else (s, i, (Cal.actS p s a).2) := rfl
theorem Cal.toldS_more (p : Proc) (day : Int) (a : NAct) (l : List NAct) (s t : NSt) : Cal.toldS p day (a :: l) s t = Cal.toldS p day l (Cal.actS p s a).1 (if a.day ≤ day then (Cal.actS p s a).1 else t) := rfl
theorem FolP.next {p : Proc} {l : List NAct} {s0 : NSt} {day : Int} {k : Nat} {s t s' : NSt} {a : NAct} (h : FolP p l s0 day k s t) (hd : l.drop k = a :: l.drop (k + 1)) (hx : p.exts ≤ 12) (he : Cal.actS p s a = (s', 0)) :
    FolP p l s0 day (k + 1) s' (if a.day ≤ day then s' else t) := by
  obtain ⟨h1, h2, h3⟩ := h
  rw [hd, Cal.runS_more, he, if_pos rfl] at h1
  rw [hd, Cal.toldS_more, he] at h2
  have := h3.act (a := a) hx (by rw [he])
  rw [he] at this
  exact ⟨h1, h2, this⟩
theorem FolP.stop {p : Proc} {l : List NAct} {s0 : NSt} {day : Int} {k : Nat} {s t : NSt} (h : FolP p l s0 day k s t) (hk : l.length ≤ k) : Cal.folS p l s0 day = (t, 0, 0) := by
  obtain ⟨h1, h2, _⟩ := h
  rw [List.drop_eq_nil_of_le hk] at h1 h2
  have h1 : (s, 0, 0) = Cal.runS p l s0 0 := h1
  have h2 : t = Cal.toldS p day l s0 s0 := h2
  unfold Cal.folS
  rw [← h1, if_pos rfl, ← h2]
end Go.Proofs.Ytfcjeejhdklkdaa
namespace Go.Proofs.Ytfcjeejhdklkdaa
open Go Go.RowKit
end Go.Proofs.Ytfcjeejhdklkdaa
namespace Go.Proofs.Ytfcjeejhdklkdaa
open Go Go.RowKit Go.Shelf
attribute [local go_sem] Oper.semAt_some
/-- How many of k days from a on are working days. -/
def Cal.cnt (l : List Hol) (a : Int) : Nat → Int
  | 0 => 0
  | k + 1 => Cal.cnt l a k + if Cal.workB l (a + k) = true then 1 else 0
def Cal.betw (l : List Hol) (a b : Int) : Int := Cal.cnt l a (b - a).toNat
structure CalCell (W : World) (cb m : Nat) (A : Option Addr) (c n : Nat) : Prop where
  c0 : W.cell? ⟨cb, 0, none⟩ = some (.slice A n c)
  c1 : W.cell? ⟨cb, 1, none⟩ = some (.map (some m))
  lt : cb < W.heap.size
theorem CalCell.kept {W W' : World} {row : Option Nat} {cb m : Nat} {A : Option Addr} {c n : Nat} (h : CalCell W cb m A c n) (hg : W.grownBy W' row) (hr : Others W row) : CalCell W' cb m A c n :=
  ⟨cell_kept h.c0 hg hr, cell_kept h.c1 hg hr, Nat.lt_of_lt_of_le h.lt hg.size⟩
/-- What WorkingBetween keeps while it goes round. W0: the world when it had checked. -/
structure BetI (K : Where) (W0 : World) (n : Int) (d : Int) (W : World) : Prop where
  fr : Below W0.heap.size W0 W
  lo : -1 ≤ d
  hi : d ≤ 200001
  st : OwnCell W K.bs (.int .i64 K.step)
  from_ : OwnCell W K.bf (.int .i64 K.start)
  cal : OwnCell W K.bc (.pointer (some ⟨K.cb, 0, none⟩))
  cald : CalCell W K.cb K.m K.A K.c K.l.length
  num : OwnCell W W0.heap.size (.int .i64 n)
  cache : CacheAt K d W
  size : W0.heap.size + 6 ≤ W.heap.size
theorem BetI.book {K : Where} {W0 W W' : World} {n d : Int} (h : BetI K W0 n d W) {row : Option Nat} (hg : W.grownBy W' row) (hr : ∀ r, row = some r → W0.heap.size ≤ r ∧ ∃ o : Obj, W.heap[r]? = some o ∧ isBook o = true) : BetI K W0 n d W' := by
  have ho : Others W row := fun r e => by obtain ⟨_, o, h1, h2⟩ := hr r e; exact ⟨o, h1, not_cells_of_book h2⟩
  refine ⟨h.fr.grown hg h.fr.size (fun k e => (hr k e).1), h.lo, h.hi, h.st.kept hg ho, h.from_.kept hg ho, h.cal.kept hg ho, h.cald.kept hg ho, h.num.kept hg ho, ?_, Nat.le_trans h.size hg.size⟩
  obtain ⟨q, hc, hn⟩ := h.cache
  have hmap : ∃ es cl, W.heap[K.m]? = some (.map es cl) := by obtain ⟨f, h, _⟩ := hc; exact h.isMap
  refine ⟨q, hc.keep (hg.block _ ?_ ?_) (fun g cs t _ hgc => (hg.block g (Array.getElem?_eq_some_iff.1 hgc).1 ?_).trans hgc), hn⟩
  · obtain ⟨es, cl, h⟩ := hmap; exact (Array.getElem?_eq_some_iff.1 h).1
  · intro e; obtain ⟨_, o, h1, h2⟩ := hr _ e.symm; obtain ⟨es, cl, h⟩ := hmap; rw [h] at h1; cases h1; cases h2
  · intro e; obtain ⟨_, o, h1, h2⟩ := hr _ e.symm; rw [hgc] at h1; cases h1; cases h2
def BetInv (K : Where) (W0 : World) (to : Int) (d : Int) (W : World) : Prop :=
  BetI K W0 (Cal.betw K.l K.start d) d W ∧ K.start ≤ d ∧ ∀ x, to ≤ x → x < d → Cal.workB K.l x = false
def BetAsk (K : Where) (W0 : World) (to : Int) (d : Int) (W : World) : Prop :=
  isDayP d ∧ Cal.workB K.l d = true ∧ BetI K W0 (Cal.betw K.l K.start d) (d + 1) W ∧ K.start ≤ d ∧ ∀ x, to ≤ x → x < d → Cal.workB K.l x = false
def BetOut (K : Where) (W0 : World) (to : Int) (id : Nat) (c : Code) (W : World) : Prop :=
  c = .exit id ∧ Below W0.heap.size W0 W ∧ OwnCell W W0.heap.size (.int .i64 (Cal.betw K.l K.start to))
theorem BetInv.alloc {K : Where} {W0 : World} {to : Int} (d : Int) (A : World) (o : Obj) (_ : isBook o = true) (h : BetInv K W0 to d A) : BetInv K W0 to d (A.alloc o) :=
  ⟨h.1.book (World.grownBy_alloc A o none) (fun r e => by cases e), h.2⟩
theorem BetInv.put {K : Where} {W0 : World} {to : Int} (d : Int) (A : World) (r : Nat) (o o' : Obj) (hr : W0.heap.size ≤ r) (ho : A.heap[r]? = some o) (hb : isBook o = true) (h : BetInv K W0 to d A) : BetInv K W0 to d (A.putObj r o') :=
  ⟨h.1.book (grownBy_putObj' A r o') (fun r' e => by cases e; exact ⟨hr, o, ho, hb⟩), h.2⟩
theorem BetAsk.put {K : Where} {W0 : World} {to : Int} (d : Int) (A : World) (r : Nat) (o o' : Obj) (hr : W0.heap.size ≤ r) (ho : A.heap[r]? = some o) (hb : isBook o = true) (h : BetAsk K W0 to d A) : BetAsk K W0 to d (A.putObj r o') := by
  obtain ⟨hd, hw, h, h1⟩ := h
  exact ⟨hd, hw, h.book (grownBy_putObj' A r o') (fun r' e => by cases e; exact ⟨hr, o, ho, hb⟩), h1⟩
theorem BetOut.put {K : Where} {W0 : World} {to : Int} {id : Nat} (c : Code) (A : World) (r : Nat) (o o' : Obj) (hr : W0.heap.size ≤ r) (ho : A.heap[r]? = some o) (hb : isBook o = true) (h : BetOut K W0 to id c A) : BetOut K W0 to id c (A.putObj r o') := by
  obtain ⟨hc, hg, h1⟩ := h
  have ho' : Others A (some r) := fun r' e => by cases e; exact ⟨o, ho, not_cells_of_book hb⟩
  have hg' := grownBy_putObj' A r o'
  exact ⟨hc, hg.grown hg' hg.size (fun k e => by cases e; exact hr), h1.kept hg' ho'⟩
end Go.Proofs.Ytfcjeejhdklkdaa
