/- What the statements rest on: definitions and walks, part 02. -/
import Derived.Test.YtfcjeejhdklkdaaJ01
import Derived.Deep.MidRow
import Derived.Deep.RegionHeld3
import Derived.RangeFuncNested
import Derived.RangeFuncBound
import Derived.RangeFuncCalls
import Derived.RangeFuncLeaves
import Derived.RangeFuncBox
import Derived.Shelf.Abstract
import Derived.Shelf.RegionOpen
import Derived.OwnWalkIn
import Derived.TacticsInMore
import Derived.LoopNIn
import Derived.LoopIn
import Derived.Sort.Grow
import Derived.Deep.RegionWith
import Derived.Laws.MakeOwn
import Derived.Carry
set_option maxRecDepth 100000
set_option maxHeartbeats 16000000
set_option linter.unusedSimpArgs false
set_option linter.unusedVariables false
namespace Go.Proofs.Ytfcjeejhdklkdaa
open Go Go.RowKit
structure Per where
 m : Int
 d : Int
 k : Bool
structure Proc where
 runs : Per
 obj : Per
 wait : Per
 exts : Int
 longest : Int
 hols : List Hol
structure NAct where
 day : Int
 kind : Int
 days : Int
structure NSt where
 phase : Int
 last : Int
 deadline : Int
 object : Int
 objected : Int
 extended : Int
def Cal.formErr (p : Proc) (a : NAct) : Int :=
 if 0 ≤ a.day ∧ a.day ≤ 200000 then (if 0 ≤ a.kind ∧ a.kind ≤ 7 then (if a.kind = 6 then (if 1 ≤ a.days ∧ a.days ≤ p.longest then 0 else 2) else if a.days = 0 then 0 else 3) else 15) else 2
def Cal.accB (phase kind : Int) : Bool :=
 if kind = 0 then decide (phase = 0) else if kind = 2 then decide (phase = 2) else if kind = 4 ∨ kind = 5 then decide (phase = 3)
 else if kind = 7 then decide (phase = 1 ∨ phase = 2 ∨ phase = 3) else decide (phase = 1)
def Cal.mayErr (p : Proc) (s : NSt) (a : NAct) : Int :=
 if Cal.formErr p a = 0 then
  (if a.day < s.last then 9 else if Cal.accB s.phase a.kind = true then
   (if s.phase = 1 ∧ s.deadline < a.day then 21 else if a.kind = 3 ∧ min s.object s.deadline < a.day then 21 else if a.kind = 6 ∧ p.exts ≤ s.extended then 16 else 0)
   else 28)
 else Cal.formErr p a
def Cal.doneS (p : Proc) (s : NSt) (a : NAct) : NSt × Int :=
 if a.kind = 0 ∨ a.kind = 2 then
  ({ s with last := a.day, phase := 1, deadline := (Cal.dlS p.hols a.day p.runs.m p.runs.d p.runs.k).1, object := (Cal.dlS p.hols a.day p.obj.m p.obj.d p.obj.k).1 },
   if (Cal.dlS p.hols a.day p.runs.m p.runs.d p.runs.k).2 = 0 ∧ (Cal.dlS p.hols a.day p.obj.m p.obj.d p.obj.k).2 = 0 then 0 else 2)
 else if a.kind = 1 then ({ s with last := a.day, phase := 2 }, 0)
 else if a.kind = 3 then ({ s with last := a.day, phase := 3, objected := a.day }, 0)
 else if a.kind = 4 then ({ s with last := a.day, phase := 1, deadline := (Cal.addWorkingS p.hols (s.deadline + (a.day - s.objected)) 0).1 }, (Cal.addWorkingS p.hols (s.deadline + (a.day - s.objected)) 0).2)
 else if a.kind = 6 then ({ s with last := a.day, extended := s.extended + 1, deadline := (Cal.addWorkingS p.hols (s.deadline + a.days) 0).1 }, (Cal.addWorkingS p.hols (s.deadline + a.days) 0).2)
 else if a.kind = 5 then ({ s with last := a.day, phase := 5 }, 0)
 else ({ s with last := a.day, phase := 4 }, 0)
def Cal.actS (p : Proc) (s : NSt) (a : NAct) : NSt × Int := if Cal.mayErr p s a = 0 then Cal.doneS p s a else (s, Cal.mayErr p s a)
def Cal.runS (p : Proc) : List NAct → NSt → Nat → NSt × Nat × Int
 | [], s, _ => (s, 0, 0)
 | a :: l, s, i => if (Cal.actS p s a).2 = 0 then Cal.runS p l (Cal.actS p s a).1 (i + 1) else (s, i, (Cal.actS p s a).2)
def Cal.toldS (p : Proc) (day : Int) : List NAct → NSt → NSt → NSt
 | [], _, t => t
 | a :: l, s, t => Cal.toldS p day l (Cal.actS p s a).1 (if a.day ≤ day then (Cal.actS p s a).1 else t)
theorem Cal.mayErr_ok {p : Proc} {s : NSt} {a : NAct} (h : Cal.mayErr p s a = 0) : Cal.formErr p a = 0 ∧ s.last ≤ a.day ∧ Cal.accB s.phase a.kind = true ∧ ¬ (s.phase = 1 ∧ s.deadline < a.day) ∧ ¬ (a.kind = 3 ∧ min s.object s.deadline < a.day) ∧ ¬ (a.kind = 6 ∧ p.exts ≤ s.extended) := by
 unfold Cal.mayErr at h
 split at h
 ·rename_i h0
  split at h
  ·omega
  ·rename_i h1
   split at h
   ·rename_i h2
    split at h
    ·omega
    ·rename_i h3
     split at h
     ·omega
     ·rename_i h4
      split at h
      ·omega
      ·rename_i h5; exact ⟨h0, by omega, h2, h3, h4, h5⟩
   ·omega
 ·rename_i h0; exact absurd h h0
theorem Cal.formErr_ok {p : Proc} {a : NAct} (h : Cal.formErr p a = 0) : 0 ≤ a.day ∧ a.day ≤ 200000 ∧ 0 ≤ a.kind ∧ a.kind ≤ 7 ∧ (a.kind = 6 → 1 ≤ a.days ∧ a.days ≤ p.longest) ∧ (a.kind ≠ 6 → a.days = 0) := by
 unfold Cal.formErr at h
 split at h
 ·rename_i h0
  split at h
  ·rename_i h1
   split at h
   ·rename_i h2
    split at h
    ·rename_i h3; exact ⟨h0.1, h0.2, h1.1, h1.2, fun _ => h3, fun h => absurd h2 h⟩
    ·omega
   ·rename_i h2
    split at h
    ·rename_i h3; exact ⟨h0.1, h0.2, h1.1, h1.2, fun h => absurd h h2, fun _ => h3⟩
    ·omega
  ·omega
 ·omega
theorem Cal.actS_ok {p : Proc} {s : NSt} {a : NAct} (h : (Cal.actS p s a).2 = 0) : Cal.mayErr p s a = 0 ∧ Cal.actS p s a = Cal.doneS p s a := by
 unfold Cal.actS at h ⊢
 by_cases h0 : Cal.mayErr p s a = 0
 ·exact ⟨h0, if_pos h0⟩
 ·rw [if_neg h0] at h; exact absurd h h0
structure Note where
 name : ByteArray
 opened : Int
 acts : List NAct
theorem Cal.addFrom_day {l : List Hol} {step : Int} : ∀ (f : Nat) (d left x : Int), Cal.addFrom l step f d left = some x → 0 ≤ x ∧ x ≤ 200000
 | 0, _, _, _, h => by cases h
 | f + 1, d, left, x, h => by
  unfold Cal.addFrom at h
  split at h
  ·rename_i hd
   split at h
   ·split at h
    ·cases h; exact ⟨hd.1, hd.2⟩
    ·exact Cal.addFrom_day f _ _ _ h
   ·exact Cal.addFrom_day f _ _ _ h
  ·cases h
theorem Cal.addW_day {l : List Hol} {day n x : Int} (h : Cal.addW l day n = some x) : 0 ≤ x ∧ x ≤ 200000 := by
 unfold Cal.addW at h
 split at h
 ·exact Cal.addFrom_day _ _ _ _ h
 ·split at h
  ·exact Cal.addFrom_day _ _ _ _ h
  ·exact Cal.addFrom_day _ _ _ _ h
theorem Cal.dlFrom_day {l : List Hol} {day m d x : Int} {k : Bool} (h : Cal.dlFrom l day m d k = some x) : 0 ≤ x ∧ x ≤ 200000 := by
 unfold Cal.dlFrom at h
 split at h
 ·split at h
  ·exact Cal.addW_day h
  ·split at h
   ·exact Cal.addW_day h
   ·cases h
 ·cases h
theorem Cal.dlS_day (l : List Hol) (day m d : Int) (k : Bool) : 0 ≤ (Cal.dlS l day m d k).1 ∧ (Cal.dlS l day m d k).1 ≤ 200000 := by
 unfold Cal.dlS
 split
 ·split
  ·split
   ·split
    ·rename_i h; exact Cal.dlFrom_day h
    ·simp
   ·simp
  ·simp
 ·simp
theorem Cal.addWorkingS_day (l : List Hol) (day n : Int) : 0 ≤ (Cal.addWorkingS l day n).1 ∧ (Cal.addWorkingS l day n).1 ≤ 200000 := by
 unfold Cal.addWorkingS
 split
 ·split
  ·split
   ·rename_i h; exact Cal.addW_day h
   ·simp
  ·simp
 ·simp
structure StOk (s : NSt) : Prop where
 p0 : 0 ≤ s.phase
 p1 : s.phase ≤ 6
 l0 : 0 ≤ s.last
 l1 : s.last ≤ 200000
 d0 : 0 ≤ s.deadline
 d1 : s.deadline ≤ 200000
 o0 : 0 ≤ s.object
 o1 : s.object ≤ 200000
 j0 : 0 ≤ s.objected
 j1 : s.objected ≤ 200000
 x0 : 0 ≤ s.extended
 x1 : s.extended ≤ 12
theorem StOk.act {p : Proc} {s : NSt} {a : NAct} (hs : StOk s) (he : p.exts ≤ 12) (h : (Cal.actS p s a).2 = 0) : StOk (Cal.actS p s a).1 := by
 obtain ⟨h1, h2⟩ := Cal.actS_ok h
 obtain ⟨hf, _, _, _, _, hx⟩ := Cal.mayErr_ok h1
 obtain ⟨a0, a1, k0, k1, _, _⟩ := Cal.formErr_ok hf
 rw [h2]
 have q1 := Cal.dlS_day p.hols a.day p.runs.m p.runs.d p.runs.k
 have q2 := Cal.dlS_day p.hols a.day p.obj.m p.obj.d p.obj.k
 have q3 := Cal.addWorkingS_day p.hols (s.deadline + (a.day - s.objected)) 0
 have q4 := Cal.addWorkingS_day p.hols (s.deadline + a.days) 0
 obtain ⟨p0, p1, l0, l1, d0, d1, o0, o1, j0, j1, x0, x1⟩ := hs
 unfold Cal.doneS
 split
 ·exact ⟨by simp, by simp, a0, a1, q1.1, q1.2, q2.1, q2.2, j0, j1, x0, x1⟩
 ·split
  ·exact ⟨by simp, by simp, a0, a1, d0, d1, o0, o1, j0, j1, x0, x1⟩
  ·split
   ·exact ⟨by simp, by simp, a0, a1, d0, d1, o0, o1, a0, a1, x0, x1⟩
   ·split
    ·exact ⟨by simp, by simp, a0, a1, q3.1, q3.2, o0, o1, j0, j1, x0, x1⟩
    ·split
     ·rename_i hk
      have : s.extended < p.exts := by
       rcases Int.lt_or_le s.extended p.exts with h | h
       ·exact h
       ·exact absurd ⟨hk, h⟩ hx
      exact ⟨p0, p1, a0, a1, q4.1, q4.2, o0, o1, j0, j1, by show 0 ≤ s.extended + 1; omega, by show s.extended + 1 ≤ 12; omega⟩
     ·split
      ·exact ⟨by simp, by simp, a0, a1, d0, d1, o0, o1, j0, j1, x0, x1⟩
      ·exact ⟨by simp, by simp, a0, a1, d0, d1, o0, o1, j0, j1, x0, x1⟩
end Go.Proofs.Ytfcjeejhdklkdaa
namespace Go.Proofs.Ytfcjeejhdklkdaa
open Go Go.RowKit
structure StAt (w : World) (B : Nat) (A : Option Addr) (c : Nat) (p : Proc) (s : NSt) : Prop where
 range : w.rangeAt B 0 [.int .i64 p.runs.m, .int .i64 p.runs.d, .bool p.runs.k, .int .i64 p.obj.m, .int .i64 p.obj.d, .bool p.obj.k, .int .i64 p.wait.m, .int .i64 p.wait.d, .bool p.wait.k, .int .i64 p.exts, .int .i64 p.longest, .slice A p.hols.length c, .int .i64 s.phase, .int .i64 s.last, .int .i64 s.deadline, .int .i64 s.object, .int .i64 s.objected, .int .i64 s.extended]
 lt : B < w.heap.size
theorem StAt.below {w w' : World} {B : Nat} {A : Option Addr} {c : Nat} {p : Proc} {s : NSt} (h : StAt w B A c p s) (hb : Below w.heap.size w w') : StAt w' B A c p s :=
 ⟨fun j v hv => (hb.cell (p := ⟨B, 0 + j, none⟩) h.lt).trans (h.range j v hv), Nat.lt_of_lt_of_le h.lt hb.size⟩
theorem StAt.all {w : World} {B : Nat} {A : Option Addr} {c : Nat} {p : Proc} {s : NSt} (h : StAt w B A c p s) : w.cell? ⟨B, 0, none⟩ = some (.int .i64 p.runs.m) ∧ w.cell? ⟨B, 1, none⟩ = some (.int .i64 p.runs.d) ∧ w.cell? ⟨B, 2, none⟩ = some (.bool p.runs.k) ∧ w.cell? ⟨B, 3, none⟩ = some (.int .i64 p.obj.m) ∧ w.cell? ⟨B, 4, none⟩ = some (.int .i64 p.obj.d) ∧ w.cell? ⟨B, 5, none⟩ = some (.bool p.obj.k) ∧ w.cell? ⟨B, 6, none⟩ = some (.int .i64 p.wait.m) ∧ w.cell? ⟨B, 7, none⟩ = some (.int .i64 p.wait.d) ∧ w.cell? ⟨B, 8, none⟩ = some (.bool p.wait.k) ∧ w.cell? ⟨B, 9, none⟩ = some (.int .i64 p.exts) ∧ w.cell? ⟨B, 10, none⟩ = some (.int .i64 p.longest) ∧ w.cell? ⟨B, 11, none⟩ = some (.slice A p.hols.length c) ∧ w.cell? ⟨B, 12, none⟩ = some (.int .i64 s.phase) ∧ w.cell? ⟨B, 13, none⟩ = some (.int .i64 s.last) ∧ w.cell? ⟨B, 14, none⟩ = some (.int .i64 s.deadline) ∧ w.cell? ⟨B, 15, none⟩ = some (.int .i64 s.object) ∧ w.cell? ⟨B, 16, none⟩ = some (.int .i64 s.objected) ∧ w.cell? ⟨B, 17, none⟩ = some (.int .i64 s.extended) :=
 ⟨h.range 0 _ rfl, h.range 1 _ rfl, h.range 2 _ rfl, h.range 3 _ rfl, h.range 4 _ rfl, h.range 5 _ rfl, h.range 6 _ rfl, h.range 7 _ rfl, h.range 8 _ rfl, h.range 9 _ rfl, h.range 10 _ rfl, h.range 11 _ rfl, h.range 12 _ rfl, h.range 13 _ rfl, h.range 14 _ rfl, h.range 15 _ rfl, h.range 16 _ rfl, h.range 17 _ rfl⟩
structure ActAt (w : World) (B : Nat) (a : NAct) : Prop where
 c0 : w.cell? ⟨B, 0, none⟩ = some (.int .i64 a.day)
 c1 : w.cell? ⟨B, 1, none⟩ = some (.int .i64 a.kind)
 c2 : w.cell? ⟨B, 2, none⟩ = some (.int .i64 a.days)
 lt : B < w.heap.size
theorem ActAt.below {w w' : World} {B : Nat} {a : NAct} (h : ActAt w B a) (hb : Below w.heap.size w w') : ActAt w' B a :=
 ⟨(hb.cell (p := ⟨B, 0, none⟩) h.lt).trans h.c0, (hb.cell (p := ⟨B, 1, none⟩) h.lt).trans h.c1, (hb.cell (p := ⟨B, 2, none⟩) h.lt).trans h.c2, Nat.lt_of_lt_of_le h.lt hb.size⟩
end Go.Proofs.Ytfcjeejhdklkdaa
namespace Go.Proofs.Ytfcjeejhdklkdaa
open Go Go.RowKit
theorem ratHx {P : Program} {ops : Array Oper} {Q : Exit → Act → World → Prop} {md : Region.Mode} {S : World → Prop} (i : Nat) {op : Oper} {fuel : Nat} {listed : Array Bool} {a : Act} {w : World}
  (h : ∀ K : Act → World → Prop, Shut (∀ a w, S w → (S w → wpAnyH P md ops Q S fuel (listed.setIfInBounds i true) a w) → K a w) → Oper.wp P op a w K Q)
  (ho : ops[i]? = some op := by exact rfl) (hr : Region.ready md ops listed = [i] := by decide +kernel) (hw : Region.wanted op (yielded ops a.tmps) = true := by kernel_rfl) : wpAnyH P md ops Q S (fuel + 1) listed a w :=
 wpAnyH_ready (rs := [i]) hr (by simp) (AllReadyH.cons ho (fun K hK => by rw [if_pos hw]; exact h K hK) AllReadyH.nil)
theorem apS (t : Array Value) (df) (d : Nat) (v : Value) : Act.put { tmps := t, defers := df } (some d) v = { tmps := t.setIfInBounds d v, defers := df } := rfl
theorem apN (a : Act) (v : Value) : Act.put a none v = a := rfl
theorem siA {α : Type _} (l : List α) (i : Nat) (x : α) : l.toArray.setIfInBounds i x = (l.set i x).toArray := List.setIfInBounds_toArray ..
theorem scZ {α : Type _} (x y : α) (l : List α) : (x :: l).set 0 y = y :: l := rfl
theorem scS {α : Type _} (x y : α) (l : List α) (n : Nat) : (x :: l).set (n + 1) y = x :: l.set n y := rfl
end Go.Proofs.Ytfcjeejhdklkdaa
namespace Go.Proofs.Ytfcjeejhdklkdaa
open Go Go.RowKit
end Go.Proofs.Ytfcjeejhdklkdaa
namespace Go.Proofs.Ytfcjeejhdklkdaa
open Go Go.RowKit
theorem below_grown {w w' : World} (h : Below w.heap.size w w') (row : Option Nat) : w.grownBy w' row := ⟨h.os, h.tape, h.output, h.size, fun i hi _ => h.block i hi⟩
theorem grown_set (w : World) (B o : Nat) (u : Value) : w.grownBy (w.setCell ⟨B, o, none⟩ u) (some B) :=
 ⟨by simp [World.setCell], by simp [World.setCell], by simp [World.setCell], by simp, fun k _ hne => Below.heap_setCell w _ u k (fun e => hne (by rw [e]))⟩
theorem grown_drewN (w : World) (n : Nat) (row : Option Nat) : w.grownBy (w.drewN n) row := ⟨rfl, rfl, rfl, Nat.le_refl _, fun _ _ _ => rfl⟩
structure StW (w : World) (B : Nat) (A : Option Addr) (c : Nat) (p : Proc) (s : NSt) : Prop where
 at_ : StAt w B A c p s
 free : ∀ j, j < 18 → w.frozen? ⟨B, j, none⟩ = false
theorem StW.below {w w' : World} {B : Nat} {A : Option Addr} {c : Nat} {p : Proc} {s : NSt} (h : StW w B A c p s) (hb : Below w.heap.size w w') : StW w' B A c p s :=
 ⟨h.at_.below hb, fun j hj => (hb.frozen (p := ⟨B, j, none⟩) h.at_.lt).trans (h.free j hj)⟩
theorem StAt.grown {w w' : World} {row : Option Nat} {B : Nat} {A : Option Addr} {c : Nat} {p : Proc} {s : NSt} (h : StAt w B A c p s) (hg : w.grownBy w' row) (hne : some B ≠ row) : StAt w' B A c p s :=
 ⟨fun j v hv => (World.cell?_of_block (a := ⟨B, 0 + j, none⟩) (hg.block B h.lt hne)).trans (h.range j v hv), Nat.lt_of_lt_of_le h.lt hg.size⟩
theorem StW.grown {w w' : World} {row : Option Nat} {B : Nat} {A : Option Addr} {c : Nat} {p : Proc} {s : NSt} (h : StW w B A c p s) (hg : w.grownBy w' row) (hne : some B ≠ row) : StW w' B A c p s :=
 ⟨h.at_.grown hg hne, fun j hj => (World.frozen?_of_block (a := ⟨B, j, none⟩) (hg.block B h.at_.lt hne)).trans (h.free j hj)⟩
theorem below_of_grownB {w0 w w' : World} {B : Nat} (h : Below w0.heap.size w0 w) (hg : w.grownBy w' (some B)) (hB : w0.heap.size ≤ B) : Below w0.heap.size w0 w' := h.grown hg h.size (fun k e => by cases e; exact hB)
end Go.Proofs.Ytfcjeejhdklkdaa
namespace Go.Proofs.Ytfcjeejhdklkdaa
open Go Go.RowKit
end Go.Proofs.Ytfcjeejhdklkdaa
namespace Go.Proofs.Ytfcjeejhdklkdaa
open Go Go.RowKit
structure BoxAt (w : World) (B : Nat) (cs : List Value) : Prop where
 range : w.rangeAt B 0 cs
 free : ∀ j, j < cs.length → w.frozen? ⟨B, j, none⟩ = false
 lt : B < w.heap.size
theorem BoxAt.there {w : World} {B : Nat} {cs : List Value} (h : BoxAt w B cs) : w.there B 0 cs.length := fun j hj => ⟨h.range.isSome j hj, by rw [Nat.zero_add]; exact h.free j hj⟩
theorem BoxAt.grown {w w' : World} {row : Option Nat} {B : Nat} {cs : List Value} (h : BoxAt w B cs) (hg : w.grownBy w' row) (hne : some B ≠ row) : BoxAt w' B cs :=
 ⟨fun j v hv => (World.cell?_of_block (a := ⟨B, 0 + j, none⟩) (hg.block B h.lt hne)).trans (h.range j v hv), fun j hj => (World.frozen?_of_block (a := ⟨B, j, none⟩) (hg.block B h.lt hne)).trans (h.free j hj), Nat.lt_of_lt_of_le h.lt hg.size⟩
theorem BoxAt.below {w w' : World} {B : Nat} {cs : List Value} (h : BoxAt w B cs) (hb : Below w.heap.size w w') : BoxAt w' B cs := h.grown (below_grown hb none) (by simp)
theorem BoxAt.alloc {w : World} {B : Nat} {cs : List Value} (h : BoxAt w B cs) (o : Obj) : BoxAt (w.alloc o) B cs := h.below (below_alloc w o)
theorem BoxAt.new (w : World) (cs : Array Value) (t : TypeId) : BoxAt (w.alloc (.cells cs t)) w.heap.size cs.toList :=
 ⟨fun j v hv => by rw [Nat.zero_add, cell_alloc_at, ← hv]; simp, fun j hj => by unfold World.frozen?; rw [World.alloc_heap_new]; simp, by simp⟩
theorem grown_setCells (B : Nat) : ∀ (xs : List Value) (o : Nat) (w : World), w.grownBy (w.setCells B o xs) (some B)
 | [], _, w => World.grownBy.refl w _
 | v :: xs, o, w => (grown_set w B o v).trans (grown_setCells B xs (o + 1) _)
theorem size_setCells (B : Nat) : ∀ (xs : List Value) (o : Nat) (w : World), (w.setCells B o xs).heap.size = w.heap.size
 | [], _, _ => rfl
 | v :: xs, o, w => by unfold World.setCells; rw [size_setCells B xs]; simp
theorem BoxAt.put {w : World} {B : Nat} {cs : List Value} (h : BoxAt w B cs) (xs : List Value) (hl : xs.length = cs.length) : BoxAt (w.setCells B 0 xs) B xs :=
 ⟨World.rangeAt_setCells_same w B 0 xs (by rw [hl]; exact h.there), fun j hj => by rw [World.frozen?_setCells]; exact h.free j (by omega), by rw [size_setCells]; exact h.lt⟩
theorem BoxAt.set {w : World} {B : Nat} {cs : List Value} (h : BoxAt w B cs) (j : Nat) (v : Value) (hj : j < cs.length) : BoxAt (w.setCell ⟨B, j, none⟩ v) B (cs.set j v) := by
 refine ⟨fun k u hu => ?_, fun k hk => by rw [World.frozen?_setCell]; exact h.free k (by simpa using hk), by rw [World.size_setCell]; exact h.lt⟩
 rw [Nat.zero_add]
 by_cases e : j = k
 ·subst e
  rw [List.getElem?_set_self hj] at hu
  cases hu
  obtain ⟨x, hx⟩ : ∃ x, cs[j]? = some x := ⟨_, List.getElem?_eq_getElem hj⟩
  have := h.range j x hx
  rw [Nat.zero_add] at this
  exact World.cell?_setCell_same _ _ _ this
 ·rw [List.getElem?_set_ne e] at hu
  have := h.range k u hu
  rw [Nat.zero_add] at this
  rw [World.cell?_setCell_other _ _ _ _ (fun x => e (by injection x))]
  exact this
theorem BoxAt.c {w : World} {B : Nat} {cs : List Value} (h : BoxAt w B cs) (j : Nat) (v : Value) (hv : cs[j]? = some v) : w.cell? ⟨B, j, none⟩ = some v := by
 have := h.range j v hv
 rw [Nat.zero_add] at this
 exact this
theorem BoxAt.st {w : World} {B : Nat} {A : Option Addr} {c : Nat} {p : Proc} {s : NSt} (h : BoxAt w B [.int .i64 p.runs.m, .int .i64 p.runs.d, .bool p.runs.k, .int .i64 p.obj.m, .int .i64 p.obj.d, .bool p.obj.k, .int .i64 p.wait.m, .int .i64 p.wait.d, .bool p.wait.k, .int .i64 p.exts, .int .i64 p.longest, .slice A p.hols.length c, .int .i64 s.phase, .int .i64 s.last, .int .i64 s.deadline, .int .i64 s.object, .int .i64 s.objected, .int .i64 s.extended]) : StW w B A c p s := ⟨⟨h.range, h.lt⟩, h.free⟩
section
variable {P : Program}
theorem results_mid2 {fn : Func} {t u : Tmp} {ty : TypeId} (h : fn.results = #[.cell t ty, .tmp u]) (tmps : Array Value) (w : World) (g : Nat) (cs : List Value) (d : TypeDesc)
  (hp : tmps.getD t undef = .pointer (some ⟨g, 0, none⟩)) (hc : w.rangeAt g 0 cs) (hu : P.underlying ty = some d) (hd : d.isRow = true) (hi : (P.info? ty).map (·.size) = some cs.length) :
  (results fn tmps).run P w = .ok (.tuple #[.agg cs.toArray, tmps.getD u undef]) w := by
 have hp' : tmps[t]?.getD undef = .pointer (some ⟨g, 0, none⟩) := by simpa using hp
 simp [results, h, hp', asAddr, run_loadVar_mid w g 0 ty cs d hc hu hd hi]
theorem results_mid1 {fn : Func} {t : Tmp} {ty : TypeId} (h : fn.results = #[.cell t ty]) (tmps : Array Value) (w : World) (g : Nat) (cs : List Value) (d : TypeDesc)
  (hp : tmps.getD t undef = .pointer (some ⟨g, 0, none⟩)) (hc : w.rangeAt g 0 cs) (hu : P.underlying ty = some d) (hd : d.isRow = true) (hi : (P.info? ty).map (·.size) = some cs.length) :
  (results fn tmps).run P w = .ok (.agg cs.toArray) w := by
 have hp' : tmps[t]?.getD undef = .pointer (some ⟨g, 0, none⟩) := by simpa using hp
 simp [results, h, hp', asAddr, run_loadVar_mid w g 0 ty cs d hc hu hd hi]
end
end Go.Proofs.Ytfcjeejhdklkdaa
namespace Go.Proofs.Ytfcjeejhdklkdaa
open Go Go.RowKit Go.Shelf
attribute [local go_sem] Oper.semAt_some
theorem OwnL.keeps {W W' : World} {B : Nat} {E : TypeId} {m : Nat} {v : Value} {rows : List (List Value)} (h : OwnL W B E m v rows) (hg : W.grownBy W' v.ownBlock) : KeepsOthers W W' := by
 refine KeepsOthers.of_grownBy hg fun j o e ho => ?_
 rcases h.own.2 with ⟨rfl, _⟩ | ⟨g, cap, cur, rfl, _, hh, _⟩
 ·cases e
 ·cases e
  rw [hh] at ho
  cases ho; rfl
end Go.Proofs.Ytfcjeejhdklkdaa
namespace Go.Proofs.Ytfcjeejhdklkdaa
open Go Go.RowKit Go.Shelf
attribute [local go_sem] Oper.semAt_some
end Go.Proofs.Ytfcjeejhdklkdaa
namespace Go.Proofs.Ytfcjeejhdklkdaa
open Go Go.RowKit
theorem ActAt.grown {w w' : World} {row : Option Nat} {B : Nat} {a : NAct} (h : ActAt w B a) (hg : w.grownBy w' row) (hne : some B ≠ row) : ActAt w' B a :=
 ⟨(World.cell?_of_block (a := ⟨B, 0, none⟩) (hg.block B h.lt hne)).trans h.c0, (World.cell?_of_block (a := ⟨B, 1, none⟩) (hg.block B h.lt hne)).trans h.c1, (World.cell?_of_block (a := ⟨B, 2, none⟩) (hg.block B h.lt hne)).trans h.c2, Nat.lt_of_lt_of_le h.lt hg.size⟩
end Go.Proofs.Ytfcjeejhdklkdaa
namespace Go.Proofs.Ytfcjeejhdklkdaa
open Go Go.RowKit
end Go.Proofs.Ytfcjeejhdklkdaa
namespace Go.Proofs.Ytfcjeejhdklkdaa
open Go Go.RowKit
def NAct.cells (a : NAct) : List Value := [.int .i64 a.day, .int .i64 a.kind, .int .i64 a.days]
structure Acts (w : World) (A : Option Addr) (l : List NAct) : Prop where
 rows : RowsAt w A 3 (l.map NAct.cells)
 size : l.length ≤ 9223372036854775807
theorem Acts.below {w w' : World} {A : Option Addr} {l : List NAct} (h : Acts w A l) (hb : Below w.heap.size w w') : Acts w' A l := ⟨h.rows.below hb, h.size⟩
theorem Acts.at_ {w : World} {A : Option Addr} {l : List NAct} (h : Acts w A l) {k : Nat} {a : NAct} (hk : l[k]? = some a) :
  ∃ b o, A = some ⟨b, o, none⟩ ∧ b < w.heap.size ∧ w.cell? ⟨b, o + k * 3, none⟩ = some (.int .i64 a.day) ∧ w.cell? ⟨b, o + k * 3 + 1, none⟩ = some (.int .i64 a.kind) ∧ w.cell? ⟨b, o + k * 3 + 2, none⟩ = some (.int .i64 a.days) := by
 obtain ⟨b, o, hA, hlt, hc⟩ := h.rows k a.cells (by simp [hk])
 exact ⟨b, o, hA, hlt, hc 0 _ rfl, hc 1 _ rfl, hc 2 _ rfl⟩
end Go.Proofs.Ytfcjeejhdklkdaa
namespace Go.Proofs.Ytfcjeejhdklkdaa
open Go Go.RowKit
theorem wpList_store_box {P : Program} {ops : Array Oper} {rest : List Oper} {op : Oper} {a : Act} {w : World} {Q : Exit → Act → World → Prop} (hgd : op.guard = none) (ty : TypeId) (x y : Operand) (ho : op.op = .store ty x y)
  (b : Nat) (cs0 cs : List Value) (hx : a.eval x = .pointer (some ⟨b, 0, none⟩)) (hy : a.eval y = .agg cs.toArray) (hB : BoxAt w b cs0) (hl : cs.length = cs0.length)
  (hi : (P.info? ty).map (·.size) = some cs.length) (h1 : cs.toArray.all (·.oneCell') = true)
  (h : ∀ w', BoxAt w' b cs → w.grownBy w' (some b) → wpList P ops Q rest (a.put op.dst undef) w') : wpList P ops Q (op :: rest) a w :=
 wpList_store_mid hgd ty x y ho b 0 cs.toArray hx hy (by rw [List.size_toArray, hl]; exact hB.there) (by simpa using hi) h1 (h _ (hB.put cs hl) (grown_setCells b cs 0 w))
structure FolI (w : World) (b6 b9 b10 : Nat) (A : Option Addr) (c : Nat) (p : Proc) (s t : NSt) (wr : World) : Prop where
 fr : Below w.heap.size w wr
 r : BoxAt wr b6 [.int .i64 0, .int .i64 0, .bool false, .int .i64 0, .int .i64 0, .bool false, .int .i64 0, .int .i64 0, .bool false, .int .i64 0, .int .i64 0, .slice none 0 0, .int .i64 0, .int .i64 0, .int .i64 0, .int .i64 0, .int .i64 0, .int .i64 0]
 s : BoxAt wr b9 [.int .i64 p.runs.m, .int .i64 p.runs.d, .bool p.runs.k, .int .i64 p.obj.m, .int .i64 p.obj.d, .bool p.obj.k, .int .i64 p.wait.m, .int .i64 p.wait.d, .bool p.wait.k, .int .i64 p.exts, .int .i64 p.longest, .slice A p.hols.length c, .int .i64 s.phase, .int .i64 s.last, .int .i64 s.deadline, .int .i64 s.object, .int .i64 s.objected, .int .i64 s.extended]
 t : BoxAt wr b10 [.int .i64 p.runs.m, .int .i64 p.runs.d, .bool p.runs.k, .int .i64 p.obj.m, .int .i64 p.obj.d, .bool p.obj.k, .int .i64 p.wait.m, .int .i64 p.wait.d, .bool p.wait.k, .int .i64 p.exts, .int .i64 p.longest, .slice A p.hols.length c, .int .i64 t.phase, .int .i64 t.last, .int .i64 t.deadline, .int .i64 t.object, .int .i64 t.objected, .int .i64 t.extended]
 h0 : w.heap.size ≤ b6
 h1 : b6 < b9
 h2 : b9 < b10
theorem FolI.below {w wr wr' : World} {b6 b9 b10 : Nat} {A : Option Addr} {c : Nat} {p : Proc} {s t : NSt} (h : FolI w b6 b9 b10 A c p s t wr) (hb : Below wr.heap.size wr wr') : FolI w b6 b9 b10 A c p s t wr' :=
 ⟨below_step h.fr hb, h.r.below hb, h.s.below hb, h.t.below hb, h.h0, h.h1, h.h2⟩
theorem FolI.newBox {w wr wr' : World} {b6 b9 b10 : Nat} {A : Option Addr} {c : Nat} {p : Proc} {s t : NSt} (h : FolI w b6 b9 b10 A c p s t wr) {o : Obj} (hg : (wr.alloc o).grownBy wr' (some wr.heap.size)) : FolI w b6 b9 b10 A c p s t wr' :=
 h.below (below_of_grownB (below_alloc wr o) hg (Nat.le_refl _))
def Cal.folS (p : Proc) (l : List NAct) (s0 : NSt) (day : Int) : NSt × Int × Int :=
 if (Cal.runS p l s0 0).2.2 = 0 then (Cal.toldS p day l s0 s0, 0, 0) else ((Cal.runS p l s0 0).1, ((Cal.runS p l s0 0).2.1 : Int), (Cal.runS p l s0 0).2.2)
def FolP (p : Proc) (l : List NAct) (s0 : NSt) (day : Int) (k : Nat) (s t : NSt) : Prop :=
 Cal.runS p (l.drop k) s k = Cal.runS p l s0 0 ∧ Cal.toldS p day (l.drop k) s t = Cal.toldS p day l s0 s0 ∧ StOk s
theorem Cal.runS_more (p : Proc) (a : NAct) (l : List NAct) (s : NSt) (i : Nat) : Cal.runS p (a :: l) s i = if (Cal.actS p s a).2 = 0 then Cal.runS p l (Cal.actS p s a).1 (i + 1) else (s, i, (Cal.actS p s a).2) := rfl
theorem Cal.toldS_more (p : Proc) (day : Int) (a : NAct) (l : List NAct) (s t : NSt) : Cal.toldS p day (a :: l) s t = Cal.toldS p day l (Cal.actS p s a).1 (if a.day ≤ day then (Cal.actS p s a).1 else t) := rfl
theorem FolP.next {p : Proc} {l : List NAct} {s0 : NSt} {day : Int} {k : Nat} {s t s' : NSt} {a : NAct} (h : FolP p l s0 day k s t) (hd : l.drop k = a :: l.drop (k + 1)) (hx : p.exts ≤ 12) (he : Cal.actS p s a = (s', 0)) :
  FolP p l s0 day (k + 1) s' (if a.day ≤ day then s' else t) := by
 obtain ⟨h1, h2, h3⟩ := h
 rw [hd, Cal.runS_more, he, if_pos rfl] at h1
 rw [hd, Cal.toldS_more, he] at h2
 have := h3.act (a := a) hx (by rw [he])
 rw [he] at this
 exact ⟨h1, h2, this⟩
theorem FolP.stop {p : Proc} {l : List NAct} {s0 : NSt} {day : Int} {k : Nat} {s t : NSt} (h : FolP p l s0 day k s t) (hk : l.length ≤ k) : Cal.folS p l s0 day = (t, 0, 0) := by
 obtain ⟨h1, h2, _⟩ := h
 rw [List.drop_eq_nil_of_le hk] at h1 h2
 have h1 : (s, 0, 0) = Cal.runS p l s0 0 := h1
 have h2 : t = Cal.toldS p day l s0 s0 := h2
 unfold Cal.folS
 rw [← h1, if_pos rfl, ← h2]
end Go.Proofs.Ytfcjeejhdklkdaa
namespace Go.Proofs.Ytfcjeejhdklkdaa
open Go Go.RowKit
end Go.Proofs.Ytfcjeejhdklkdaa
namespace Go.Proofs.Ytfcjeejhdklkdaa
open Go Go.RowKit Go.Shelf
attribute [local go_sem] Oper.semAt_some
structure CalCell (W : World) (cb m : Nat) (A : Option Addr) (c n : Nat) : Prop where
 c0 : W.cell? ⟨cb, 0, none⟩ = some (.slice A n c)
 c1 : W.cell? ⟨cb, 1, none⟩ = some (.map (some m))
 lt : cb < W.heap.size
theorem CalCell.kept {W W' : World} {row : Option Nat} {cb m : Nat} {A : Option Addr} {c n : Nat} (h : CalCell W cb m A c n) (hg : W.grownBy W' row) (hr : Others W row) : CalCell W' cb m A c n :=
 ⟨cell_kept h.c0 hg hr, cell_kept h.c1 hg hr, Nat.lt_of_lt_of_le h.lt hg.size⟩
structure BetI (K : Where) (W0 : World) (n : Int) (d : Int) (W : World) : Prop where
 fr : Below W0.heap.size W0 W
 lo : -1 ≤ d
 hi : d ≤ 200001
 st : OwnCell W K.bs (.int .i64 K.step)
 from_ : OwnCell W K.bf (.int .i64 K.start)
 cal : OwnCell W K.bc (.pointer (some ⟨K.cb, 0, none⟩))
 cald : CalCell W K.cb K.m K.A K.c K.l.length
 num : OwnCell W W0.heap.size (.int .i64 n)
 cache : CacheAt K d W
 size : W0.heap.size + 6 ≤ W.heap.size
theorem BetI.book {K : Where} {W0 W W' : World} {n d : Int} (h : BetI K W0 n d W) {row : Option Nat} (hg : W.grownBy W' row) (hr : ∀ r, row = some r → W0.heap.size ≤ r ∧ ∃ o : Obj, W.heap[r]? = some o ∧ isBook o = true) : BetI K W0 n d W' := by
 have ho : Others W row := fun r e => by obtain ⟨_, o, h1, h2⟩ := hr r e; exact ⟨o, h1, not_cells_of_book h2⟩
 refine ⟨h.fr.grown hg h.fr.size (fun k e => (hr k e).1), h.lo, h.hi, h.st.kept hg ho, h.from_.kept hg ho, h.cal.kept hg ho, h.cald.kept hg ho, h.num.kept hg ho, ?_, Nat.le_trans h.size hg.size⟩
 obtain ⟨q, hc, hn⟩ := h.cache
 have hmap : ∃ es cl, W.heap[K.m]? = some (.map es cl) := by obtain ⟨f, h, _⟩ := hc; exact h.isMap
 refine ⟨q, hc.keep (hg.block _ ?_ ?_) (fun g cs t _ hgc => (hg.block g (Array.getElem?_eq_some_iff.1 hgc).1 ?_).trans hgc), hn⟩
 ·obtain ⟨es, cl, h⟩ := hmap; exact (Array.getElem?_eq_some_iff.1 h).1
 ·intro e; obtain ⟨_, o, h1, h2⟩ := hr _ e.symm; obtain ⟨es, cl, h⟩ := hmap; rw [h] at h1; cases h1; cases h2
 ·intro e; obtain ⟨_, o, h1, h2⟩ := hr _ e.symm; rw [hgc] at h1; cases h1; cases h2
end Go.Proofs.Ytfcjeejhdklkdaa
namespace Go.Proofs.Ytfcjeejhdklkdaa.Cal
def num (p : Int → Bool) (a : Int) : Nat → Nat
 | 0 => 0
 | k + 1 => num p a k + (p (a + k)).toNat
end Go.Proofs.Ytfcjeejhdklkdaa.Cal
namespace Go.Proofs.Ytfcjeejhdklkdaa
open Go Go.RowKit
structure Stp where
 mon : Int
 day : Int
def Stp.cells (s : Stp) : List Value := [.int .i64 s.mon, .int .i64 s.day]
end Go.Proofs.Ytfcjeejhdklkdaa
namespace Go.Proofs.Ytfcjeejhdklkdaa
open Go Go.RowKit
structure IntArg (w : World) (A : Option Addr) (c : Nat) (zs : List Int) : Prop where
 rows : RowsAt w A 1 (intRows zs)
 cap : zs.length ≤ c
theorem IntArg.below {w w' : World} {A : Option Addr} {c : Nat} {zs : List Int} (h : IntArg w A c zs) (hb : Below w.heap.size w w') : IntArg w' A c zs := ⟨h.rows.below hb, h.cap⟩
end Go.Proofs.Ytfcjeejhdklkdaa
namespace Go.Proofs.Ytfcjeejhdklkdaa
open Go Go.RowKit
end Go.Proofs.Ytfcjeejhdklkdaa
namespace Go.Proofs.Ytfcjeejhdklkdaa
open Go Go.RowKit Go.Shelf
attribute [local go_sem] Oper.semAt_some
def Chk (n : Nat) : Type := {q : Nat × Nat // q.1 + q.2 ≤ n ∧ 0 < q.2}
def Chk.enc {n : Nat} (O : Option Addr) (q : Chk n) : Value := .slice (O.map (·.add (q.1.1 * 1))) q.1.2 q.1.2
def Two (b c : Nat) (W W' : World) : Prop := W'.heap[b]? = W.heap[b]? ∧ W'.heap[c]? = W.heap[c]?
theorem Two.refl (b c : Nat) (W : World) : Two b c W W := ⟨rfl, rfl⟩
theorem Two.trans {b c : Nat} {W X Y : World} (h : Two b c W X) (g : Two b c X Y) : Two b c W Y := ⟨g.1.trans h.1, g.2.trans h.2⟩
theorem Two.one {b c o : Nat} {W W' : World} (h : Two b c W W') : W'.cell? ⟨b, o, none⟩ = W.cell? ⟨b, o, none⟩ := World.cell?_of_block (a := ⟨b, o, none⟩) h.1
theorem Two.other {b c o : Nat} {W W' : World} (h : Two b c W W') : W'.cell? ⟨c, o, none⟩ = W.cell? ⟨c, o, none⟩ := World.cell?_of_block (a := ⟨c, o, none⟩) h.2
end Go.Proofs.Ytfcjeejhdklkdaa
namespace Go.Proofs.Ytfcjeejhdklkdaa
open Go Go.RowKit
def Chk.part (order : List Int) (q : Chk order.length) : List Int := (order.drop q.1.1).take q.1.2
end Go.Proofs.Ytfcjeejhdklkdaa
namespace Go.Proofs.Ytfcjeejhdklkdaa
open Go Go.RowKit Go.Shelf
attribute [local go_sem] Oper.semAt_some
theorem BoxAt.off {w : World} {B B' : Nat} {cs : List Value} (h : BoxAt w B cs) (o : Nat) (v : Value) (hne : B ≠ B') : BoxAt (w.setCell ⟨B', o, none⟩ v) B cs := h.grown (grown_set w B' o v) (fun e => hne (by cases e; rfl))
end Go.Proofs.Ytfcjeejhdklkdaa
namespace Go.Proofs.Ytfcjeejhdklkdaa
open Go Go.RowKit
structure NumsAt (w : World) (b o : Nat) (zs : List Int) : Prop where
 c : ∀ (k : Nat) z, zs[k]? = some z → w.cell? ⟨b, o + k, none⟩ = some (.int .i64 z)
 lt : b < w.heap.size
 le : zs.length ≤ 1000000
theorem NumsAt.below {w w' : World} {b o : Nat} {zs : List Int} (h : NumsAt w b o zs) (hb : Below w.heap.size w w') : NumsAt w' b o zs := ⟨fun k z hz => (hb.cell (p := ⟨b, o + k, none⟩) h.lt).trans (h.c k z hz), Nat.lt_of_lt_of_le h.lt hb.size, h.le⟩
def inB (most z : Int) : Bool := decide (0 ≤ z) && decide (z ≤ most)
def allB (zs : List Int) (most : Int) : Bool := zs.all (inB most)
end Go.Proofs.Ytfcjeejhdklkdaa
namespace Go.Proofs.Ytfcjeejhdklkdaa
open Go Go.RowKit
def upB (zs : List Int) : Bool := decide (∀ j, j < zs.length - 1 → zs.getD j 0 ≤ zs.getD (j + 1) 0)
def downB (zs : List Int) : Bool := decide (∀ j, j < zs.length - 1 → zs.getD (j + 1) 0 ≤ zs.getD j 0)
theorem NumsAt.d {w : World} {b o : Nat} {zs : List Int} (h : NumsAt w b o zs) {k : Nat} (hk : k < zs.length) : w.cell? ⟨b, o + k, none⟩ = some (.int .i64 (zs.getD k 0)) := h.c k _ (by rw [List.getD_eq_getElem?_getD, List.getElem?_eq_getElem hk]; rfl)
end Go.Proofs.Ytfcjeejhdklkdaa
namespace Go.Proofs.Ytfcjeejhdklkdaa
open Go Go.RowKit Go.Sort
theorem intsI_at {w : World} {A : Option Addr} {zs : List Int} (h : RowsAt w A 1 (intRows zs)) {k : Nat} (hk : k < zs.length) : ∃ b o, A = some ⟨b, o, none⟩ ∧ b < w.heap.size ∧ w.cell? ⟨b, o + k, none⟩ = some (.int .i64 zs[k]) := by
 obtain ⟨b, o, hA, hb, hc⟩ := h k [.int .i64 zs[k]] (by simp [intRows, List.getElem?_eq_getElem hk])
 have := hc 0 _ rfl
 simp only [Nat.mul_one, Nat.add_zero] at this
 exact ⟨b, o, hA, hb, this⟩
theorem RowsAt.headI {w : World} {A : Option Addr} {m : Nat} {rows : List (List Value)} (h : RowsAt w A m rows) (k : Nat) : RowsAt w A m (rows.take k) := fun j r hr => by
 refine h j r ?_
 rw [List.getElem?_take] at hr
 split at hr
 ·exact hr
 ·cases hr
theorem cut_headI {t : TypeId} {m : Nat} (hu : Try.prog.underlying t = some (.slice (Try.prog.elem t))) (hz : ∀ w, (sizeOf (Try.prog.elem t)).run Try.prog w = .ok m w) {w : World} {A : Option Addr} {n c : Nat} {rows : List (List Value)} (hn : n = rows.length) (hr : RowsAt w A m rows) (hc : n ≤ c) {k : Nat} (hk : k ≤ n) :
  ∃ A1 c1, (∀ w', (Instr.slice t (.slice A n c) none (some (.int .i64 k)) none).run Try.prog w' = .ok (.slice A1 k c1) w') ∧ RowsAt w A1 m (rows.take k) := by
 have hr1 := hr.headI k
 refine ⟨if c = 0 then A else A.map (·.add (0 * m)), c - 0, fun w' => ?_, ?_⟩
 ·rw [run_slice_h w' t A n c hu .i64 k (by omega) (by omega), hz]
  simp [Result.andThen, sliced]
 ·split
  ·exact hr1
  ·intro j r hj
   obtain ⟨b, o, hA, hb, hcell⟩ := hr1 j r hj
   exact ⟨b, o, by rw [hA, Option.map_some, Nat.zero_mul]; rfl, hb, hcell⟩
theorem sizeIntI (w : World) : (sizeOf (Try.prog.elem 23)).run Try.prog w = .ok 1 w := by kernel_rfl
theorem undIntsI : Try.prog.underlying 23 = some (.slice (Try.prog.elem 23)) := by kernel_rfl
theorem cmpI_any (x y : Int) (w : World) : Calls Try.prog 115 #[.int .i64 x, .int .i64 y] w fun e w' => e = .returned (.int .i64 (Lib.compareInt x y)) ∧ w = w' := (Try.cmp_Compare_int x y w).mono fun _ _ h => ⟨h.1, h.2.symm⟩
end Go.Proofs.Ytfcjeejhdklkdaa
namespace Go.Proofs.Ytfcjeejhdklkdaa
open Go Go.RowKit
end Go.Proofs.Ytfcjeejhdklkdaa
namespace Go.Proofs.Ytfcjeejhdklkdaa
open Go Go.RowKit
end Go.Proofs.Ytfcjeejhdklkdaa
namespace Go.Proofs.Ytfcjeejhdklkdaa
open Go Go.RowKit
structure Grad where
 t0 : Int
 t1 : Int
 t2 : Int
 p0 : Int
 p1 : Int
 p2 : Int
 m0 : Int
 m1 : Int
 m2 : Int
 m3 : Int
structure Vis where
 day : Int
 kind : Int
 tilt : Int
 push : Int
def Grad.range (g : Grad) : Bool := allB [g.t0, g.t1, g.t2] 1000 && (allB [g.p0, g.p1, g.p2] 5000 && allB [g.m0, g.m1, g.m2, g.m3] 240)
def Grad.order (g : Grad) : Bool := upB [g.t0, g.t1, g.t2] && (downB [g.p0, g.p1, g.p2] && downB [g.m0, g.m1, g.m2, g.m3])
theorem BoxAt.nums {w : World} {B : Nat} {cs : List Value} (h : BoxAt w B cs) (o : Nat) (zs : List Int) (hl : zs.length ≤ 1000000) (hc : ∀ (k : Nat) z, zs[k]? = some z → cs[o + k]? = some (.int .i64 z)) : NumsAt w B o zs := ⟨fun k z hz => h.c _ _ (hc k z hz), h.lt, hl⟩
theorem gp {w : World} {B : Nat} {g : Grad} (h : BoxAt w B [.int .i64 g.t0, .int .i64 g.t1, .int .i64 g.t2, .int .i64 g.p0, .int .i64 g.p1, .int .i64 g.p2, .int .i64 g.m0, .int .i64 g.m1, .int .i64 g.m2, .int .i64 g.m3]) : NumsAt w B 3 [g.p0, g.p1, g.p2] := h.nums 3 _ (by simp) (fun k z hz => by match k, hz with | 0, hz => cases hz; rfl | 1, hz => cases hz; rfl | 2, hz => cases hz; rfl)
end Go.Proofs.Ytfcjeejhdklkdaa
namespace Go.Proofs.Ytfcjeejhdklkdaa
open Go Go.RowKit
end Go.Proofs.Ytfcjeejhdklkdaa
namespace Go.Proofs.Ytfcjeejhdklkdaa
open Go Go.RowKit
structure Mon where
 name : ByteArray
 place : ByteArray
 visits : List Vis
def Vis.cells (v : Vis) : List Value := [.int .i64 v.day, .int .i64 v.kind, .int .i64 v.tilt, .int .i64 v.push]
structure Viss (w : World) (A : Option Addr) (l : List Vis) : Prop where
 rows : RowsAt w A 4 (l.map Vis.cells)
 size : l.length ≤ 9223372036854775807
theorem Viss.below {w w' : World} {A : Option Addr} {l : List Vis} (h : Viss w A l) (hb : Below w.heap.size w w') : Viss w' A l := ⟨h.rows.below hb, h.size⟩
theorem Viss.at_ {w : World} {A : Option Addr} {l : List Vis} (h : Viss w A l) {k : Nat} {v : Vis} (hk : l[k]? = some v) :
  ∃ b o, A = some ⟨b, o, none⟩ ∧ b < w.heap.size ∧ w.cell? ⟨b, o + k * 4, none⟩ = some (.int .i64 v.day) ∧ w.cell? ⟨b, o + k * 4 + 1, none⟩ = some (.int .i64 v.kind) ∧ w.cell? ⟨b, o + k * 4 + 2, none⟩ = some (.int .i64 v.tilt) ∧ w.cell? ⟨b, o + k * 4 + 3, none⟩ = some (.int .i64 v.push) := by
 obtain ⟨b, o, hA, hlt, hc⟩ := h.rows k v.cells (by simp [hk])
 exact ⟨b, o, hA, hlt, hc 0 _ rfl, hc 1 _ rfl, hc 2 _ rfl, hc 3 _ rfl⟩
structure MB (w : World) (V : Option Addr) (m : Mon) : Prop where
 vis : Viss w V m.visits
 name : m.name.size ≤ maxLen
 place : m.place.size ≤ maxLen
theorem MB.below {w w' : World} {V : Option Addr} {m : Mon} (h : MB w V m) (hb : Below w.heap.size w w') : MB w' V m := ⟨h.vis.below hb, h.name, h.place⟩
end Go.Proofs.Ytfcjeejhdklkdaa
namespace Go.Proofs.Ytfcjeejhdklkdaa
open Go Go.RowKit
structure NtE where
 N : Option Addr
 d : Nat
 n : Note
def NtE.cells (e : NtE) : List Value := [.string e.n.name, .int .i64 e.n.opened, .slice e.N e.n.acts.length e.d]
structure Nts (w : World) (L : Option Addr) (c : Nat) (l : List NtE) : Prop where
 rows : RowsAt w L 3 (l.map NtE.cells)
 cap : l.length ≤ c
 size : l.length ≤ 9223372036854775807
 each : ∀ (k : Nat) e, l[k]? = some e → Acts w e.N e.n.acts ∧ e.n.name.size ≤ maxLen
theorem Nts.below {w w' : World} {L : Option Addr} {c : Nat} {l : List NtE} (h : Nts w L c l) (hb : Below w.heap.size w w') : Nts w' L c l :=
 ⟨h.rows.below hb, h.cap, h.size, fun k e hk => ⟨(h.each k e hk).1.below hb, (h.each k e hk).2⟩⟩
theorem Nts.at_ {w : World} {L : Option Addr} {c : Nat} {l : List NtE} (h : Nts w L c l) {k : Nat} {e : NtE} (hk : l[k]? = some e) :
  ∃ b o, L = some ⟨b, o, none⟩ ∧ b < w.heap.size ∧ w.cell? ⟨b, o + k * 3, none⟩ = some (.string e.n.name) ∧ w.cell? ⟨b, o + k * 3 + 1, none⟩ = some (.int .i64 e.n.opened) ∧ w.cell? ⟨b, o + k * 3 + 2, none⟩ = some (.slice e.N e.n.acts.length e.d) := by
 obtain ⟨b, o, hA, hlt, hc⟩ := h.rows k e.cells (by simp [hk])
 exact ⟨b, o, hA, hlt, hc 0 _ rfl, hc 1 _ rfl, hc 2 _ rfl⟩
structure MoE where
 V : Option Addr
 d : Nat
 m : Mon
def MoE.cells (e : MoE) : List Value := [.string e.m.name, .string e.m.place, .slice e.V e.m.visits.length e.d]
structure Mos (w : World) (L : Option Addr) (c : Nat) (l : List MoE) : Prop where
 rows : RowsAt w L 3 (l.map MoE.cells)
 cap : l.length ≤ c
 size : l.length ≤ 9223372036854775807
 each : ∀ (k : Nat) e, l[k]? = some e → MB w e.V e.m
theorem Mos.below {w w' : World} {L : Option Addr} {c : Nat} {l : List MoE} (h : Mos w L c l) (hb : Below w.heap.size w w') : Mos w' L c l :=
 ⟨h.rows.below hb, h.cap, h.size, fun k e hk => (h.each k e hk).below hb⟩
theorem Mos.at_ {w : World} {L : Option Addr} {c : Nat} {l : List MoE} (h : Mos w L c l) {k : Nat} {e : MoE} (hk : l[k]? = some e) :
  ∃ b o, L = some ⟨b, o, none⟩ ∧ b < w.heap.size ∧ w.cell? ⟨b, o + k * 3, none⟩ = some (.string e.m.name) ∧ w.cell? ⟨b, o + k * 3 + 1, none⟩ = some (.string e.m.place) ∧ w.cell? ⟨b, o + k * 3 + 2, none⟩ = some (.slice e.V e.m.visits.length e.d) := by
 obtain ⟨b, o, hA, hlt, hc⟩ := h.rows k e.cells (by simp [hk])
 exact ⟨b, o, hA, hlt, hc 0 _ rfl, hc 1 _ rfl, hc 2 _ rfl⟩
def Cal.namesE {α : Type} (E : α → Int) (nm : α → List UInt8) : List (List UInt8) → List α → Int
 | _, [] => 0
 | seen, x :: l => if E x = 0 then (if nm x ∈ seen then 5 else Cal.namesE E nm (seen ++ [nm x]) l) else E x
section
variable {α : Type} {E : α → Int} {nm : α → List UInt8}
def NamesTo (E : α → Int) (nm : α → List UInt8) (l : List α) (k : Nat) : Prop := Cal.namesE E nm ((l.take k).map nm) (l.drop k) = Cal.namesE E nm [] l
theorem NamesTo.zero (l : List α) : NamesTo E nm l 0 := rfl
theorem NamesTo.next {l : List α} {k : Nat} (h : NamesTo E nm l k) (hk : k < l.length) (he : E l[k] = 0) (hm : nm l[k] ∉ (l.take k).map nm) : NamesTo E nm l (k + 1) := by
 unfold NamesTo at h ⊢
 rw [← h, List.drop_eq_getElem_cons hk]
 conv => rhs; unfold Cal.namesE
 rw [if_pos he, if_neg hm, List.take_succ_eq_append_getElem hk, List.map_append]
 rfl
theorem NamesTo.stop {l : List α} {k : Nat} (h : NamesTo E nm l k) (hk : l.length ≤ k) : Cal.namesE E nm [] l = 0 := by
 rw [← h, List.drop_eq_nil_of_le hk]; rfl
end
end Go.Proofs.Ytfcjeejhdklkdaa
namespace Go.Proofs.Ytfcjeejhdklkdaa
open Go Go.RowKit Go.Maps Go.WideMaps
def SeenOf (seen : List (List UInt8)) (f : List UInt8 → Option Value) : Prop := ∀ nm, (f nm).getD (.bool false) = .bool (decide (nm ∈ seen))
theorem SeenOf.start : SeenOf [] (fun _ => none) := fun _ => by simp
theorem SeenOf.step {seen : List (List UInt8)} {f : List UInt8 → Option Value} (h : SeenOf seen f) (x : List UInt8) : SeenOf (seen ++ [x]) (setAt f x (.bool true)) := fun nm => by
 by_cases hn : nm = x
 ·subst hn; rw [setAt_same]; simp
 ·rw [setAt_other _ _ hn, h nm]; simp [hn]
theorem RowsAt.farI {W W' : World} {row : Option Nat} {A : Option Addr} {m : Nat} {rows : List (List Value)} (h : RowsAt W A m rows) (hg : W.grownBy W' row) (hA : ∀ a, A = some a → some a.block ≠ row) : RowsAt W' A m rows := fun k r hk => by
 obtain ⟨b, o, h1, h2, h3⟩ := h k r hk
 exact ⟨b, o, h1, Nat.lt_of_lt_of_le h2 hg.size, fun j v hv => (World.cell?_of_block (a := ⟨b, o + (k * m + j), none⟩) (hg.block b h2 (hA _ h1))).trans (h3 j v hv)⟩
end Go.Proofs.Ytfcjeejhdklkdaa
namespace Go.Proofs.Ytfcjeejhdklkdaa
structure Pt where
 x : Int
 y : Int
def ptB (p q : Pt) : Bool := p.x == q.x && p.y == q.y
theorem ptB_iff {p q : Pt} : ptB p q = true ↔ p = q := by
 unfold ptB
 rw [Bool.and_eq_true, beq_iff_eq, beq_iff_eq]
 refine ⟨fun h => ?_, fun h => by rw [h]; exact ⟨rfl, rfl⟩⟩
 cases p; cases q
 rw [Pt.mk.injEq]
 exact h
structure Sd where
 a : Pt
 b : Pt
namespace Cal
def cmpI (a b : Int) : Int := if a < b then -1 else if b < a then 1 else 0
def crs (s : Sd) (p : Pt) : Int := (s.b.x - s.a.x) * (p.y - s.a.y) - (s.b.y - s.a.y) * (p.x - s.a.x)
def trn (s : Sd) (p : Pt) : Int := cmpI (crs s p) 0
def dotP (p q r : Pt) : Int := (q.x - p.x) * (r.x - p.x) + (q.y - p.y) * (r.y - p.y)
def hasP (s : Sd) (p : Pt) : Bool := trn s p == 0 && decide (dotP p s.a s.b ≤ 0)
def crosS (s t : Sd) : Bool := decide (trn s t.a * trn s t.b < 0) && decide (trn t s.a * trn t s.b < 0)
def meetS (s t : Sd) : Bool := crosS s t || hasP s t.a || hasP s t.b || hasP t s.a || hasP t s.b
def alongS (s : Sd) (p q : Pt) : Int := cmpI (dotP s.a s.b p) (dotP s.a s.b q)
def pt0 : Pt := ⟨0, 0⟩
def sd (p : List Pt) (i : Nat) : Sd := ⟨p[i]?.getD pt0, p[(i + 1) % p.length]?.getD pt0⟩
def sds (p : List Pt) : List Sd := (List.range p.length).map (sd p)
def ptErr (p : Pt) : Int := if 100000 < max p.x p.y ∨ min p.x p.y < -100000 then 2 else 0
def backS (p : List Pt) (i : Nat) : Bool := trn (sd p i) (p[(i + p.length - 1) % p.length]?.getD pt0) == 0 && decide (0 < dotP (sd p i).a (p[(i + p.length - 1) % p.length]?.getD pt0) (sd p i).b)
def badK (p : List Pt) (i k : Nat) : Bool := decide (i + 1 < k) && ((k + 1) % p.length != i) && meetS (sd p i) (sd p k)
def simpleP (p : List Pt) : Bool := (List.range p.length).all fun i => !backS p i && (List.range p.length).all fun k => !badK p i k
def areaTo (p : List Pt) : Nat → Int
 | 0 => 0
 | k + 1 => areaTo p k + ((sd p k).a.x * (sd p k).b.y - (sd p k).a.y * (sd p k).b.x)
def areaP (p : List Pt) : Int := areaTo p p.length
def ptsErr : List Pt → Int
 | [] => 0
 | q :: r => if ptErr q = 0 then ptsErr r else ptErr q
def twiceP : List Pt → List Pt → Bool
 | _, [] => false
 | seen, q :: r => seen.any (ptB q) || twiceP (q :: seen) r
def polyE (p : List Pt) : Int :=
 if p.length < 3 ∨ 40 < p.length then 10 else if ptsErr p = 0 then (if twiceP [] p = true then 5 else if simpleP p = true then (if areaP p < 0 then 9 else 0) else 3) else ptsErr p
def whereFrom (q : Pt) : Bool → List Sd → Int
 | b, [] => if b then 1 else -1
 | b, s :: r => if hasP s q then 0 else whereFrom q (if (decide (q.y < s.a.y) != decide (q.y < s.b.y)) && (decide (0 < trn s q) == decide (s.a.y < s.b.y)) then !b else b) r
def whereP (p : List Pt) (q : Pt) : Int := whereFrom q false (sds p)
def crossP (a b : List Pt) : Bool := (sds a).any fun s => (sds b).any fun t => crosS s t
def dblP (p : List Pt) : List Pt := p.map fun q => ⟨2 * q.x, 2 * q.y⟩
def insP (s : Sd) (q : Pt) : List Pt → List Pt
 | [] => [q]
 | x :: r => if alongS s q x < 0 then q :: x :: r else if ptB q x then x :: r else x :: insP s q r
def atP (s : Sd) (other : List Pt) : List Pt := (s.a :: s.b :: other.filter (hasP s)).foldl (fun l q => insP s q l) []
structure Pc where
 mid : Pt
 of : Sd
def pcsOf (s : Sd) : List Pt → List Pc
 | x :: y :: r => ⟨⟨x.x + y.x, x.y + y.y⟩, s⟩ :: pcsOf s (y :: r)
 | _ => []
def pcsP (p other : List Pt) : List Pc := (sds p).flatMap fun s => pcsOf s (atP s other)
def entersP (p other : List Pt) : Bool := (pcsP p other).any fun x =>
 if whereP (dblP other) x.mid = 1 then true else if whereP (dblP other) x.mid = 0 then (sds (dblP other)).any fun t => hasP t x.mid && decide (0 < (x.of.b.x - x.of.a.x) * (t.b.x - t.a.x) + (x.of.b.y - x.of.a.y) * (t.b.y - t.a.y)) else false
def overlapP (a b : List Pt) : Bool := crossP a b || (entersP a b || entersP b a)
def withinP (a b : List Pt) : Bool := !crossP a b && ((pcsP a b).all (fun x => decide (0 ≤ whereP (dblP b) x.mid)) && (pcsP b a).all (fun x => decide (whereP (dblP a) x.mid ≤ 0)))
def commonS (s t : Sd) : Option Sd :=
 if trn s t.a = 0 ∧ trn s t.b = 0 then
  (let t' : Sd := if 0 < alongS s t.a t.b then ⟨t.b, t.a⟩ else t
   let f := if 0 < alongS s t'.a s.a then t'.a else s.a
   let e := if alongS s t'.b s.b < 0 then t'.b else s.b
   if alongS s f e < 0 then some ⟨f, e⟩ else none)
 else none
def borderP (a b : List Pt) : List Sd := (sds a).flatMap fun s => (sds b).filterMap fun t => commonS s t
def boxP (x1 y1 x2 y2 : Int) : List Pt := [⟨x1, y1⟩, ⟨x2, y1⟩, ⟨x2, y2⟩, ⟨x1, y2⟩]
end Cal
end Go.Proofs.Ytfcjeejhdklkdaa
