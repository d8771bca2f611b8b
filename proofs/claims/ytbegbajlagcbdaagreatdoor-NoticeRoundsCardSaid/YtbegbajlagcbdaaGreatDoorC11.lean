/- Chapter 8 and what it rests on: definitions and walks, part 11. -/
import Derived.Test.YtbegbajlagcbdaaGreatDoorC10
namespace Go.Proofs.YtbegbajlagcbdaaGreatDoor
open Go Go.RowKit Go.Shelf
attribute [local go_sem] Oper.semAt_some

/-- The working day, so many working days on. -/
def Cal.addFrom (l : List Hol) (step : Int) : Nat → Int → Int → Option Int
  | 0, _, _ => none
  | f + 1, d, left => if 0 ≤ d ∧ d ≤ 200000 then (if Cal.worksB l d = true then (if left = 0 then some d else Cal.addFrom l step f (d + step) (left - 1)) else Cal.addFrom l step f (d + step) left) else none
def Cal.addW (l : List Hol) (day n : Int) : Option Int :=
  if n = 0 then Cal.addFrom l 1 (stepsLeft 1 day) day 0 else if n < 0 then Cal.addFrom l (-1) (stepsLeft (-1) (day - 1)) (day - 1) (-n - 1) else Cal.addFrom l 1 (stepsLeft 1 (day + 1)) (day + 1) (n - 1)
def Cal.addV (r : Option Int) : Value := match r with | some x => .tuple #[.int .i64 x, .bool true] | none => .tuple #[.int .i64 0, .bool false]
theorem Cal.addFrom_no {l : List Hol} {step : Int} {f : Nat} {d left : Int} (h : ¬ isDayP d) : Cal.addFrom l step f d left = none := by
  cases f with
  | zero => rfl
  | succ f => unfold isDayP at h; unfold Cal.addFrom; rw [if_neg h]
theorem Cal.addFrom_skip {l : List Hol} {step d left : Int} (hst : step = 1 ∨ step = -1) (hd : isDayP d) (hw : Cal.worksB l d = false) : Cal.addFrom l step (stepsLeft step d) d left = Cal.addFrom l step (stepsLeft step (d + step)) (d + step) left := by
  rw [← stepsLeft_succ hst hd]; conv => lhs; unfold Cal.addFrom
  unfold isDayP at hd
  rw [if_pos hd, hw]; simp
theorem Cal.addFrom_hit {l : List Hol} {step d : Int} (hst : step = 1 ∨ step = -1) (hd : isDayP d) (hw : Cal.worksB l d = true) : Cal.addFrom l step (stepsLeft step d) d 0 = some d := by
  rw [← stepsLeft_succ hst hd]; unfold Cal.addFrom
  unfold isDayP at hd
  rw [if_pos hd, hw]; simp
theorem Cal.addFrom_next {l : List Hol} {step d left : Int} (hst : step = 1 ∨ step = -1) (hd : isDayP d) (hw : Cal.worksB l d = true) (h : left ≠ 0) : Cal.addFrom l step (stepsLeft step d) d left = Cal.addFrom l step (stepsLeft step (d + step)) (d + step) (left - 1) := by
  rw [← stepsLeft_succ hst hd]; conv => lhs; unfold Cal.addFrom
  unfold isDayP at hd
  rw [if_pos hd, hw]; simp [h]

/-- A row that has turned holds no cells. -/
def Others (W : World) (row : Option Nat) : Prop := ∀ r, row = some r → ∃ o : Obj, W.heap[r]? = some o ∧ o.isCells = false
theorem Tab.kept {W W' : World} {row : Option Nat} (h : Tab W) (hg : W.grownBy W' row) (hr : Others W row) : Tab W' := ⟨Nat.lt_of_lt_of_le h.lt hg.size, fun i hi => cell_kept (h.cell i hi) hg hr⟩
theorem RowsAt.kept {W W' : World} {row : Option Nat} {A : Option Addr} {m : Nat} {rows : List (List Value)} (h : RowsAt W A m rows) (hg : W.grownBy W' row) (hr : Others W row) : RowsAt W' A m rows := fun k r hk => by
  obtain ⟨b, o, hA, hlt, hc⟩ := h k r hk
  exact ⟨b, o, hA, Nat.lt_of_lt_of_le hlt hg.size, fun j v hv => cell_kept (hc j v hv) hg hr⟩
theorem Calend.kept {W W' : World} {row : Option Nat} {cb m : Nat} {A : Option Addr} {c : Nat} {l : List Hol} (h : Calend W cb m A c l) (hg : W.grownBy W' row) (hr : Others W row) : Calend W' cb m A c l :=
  ⟨cell_kept h.c0 hg hr, cell_kept h.c1 hg hr, Nat.lt_of_lt_of_le h.lt hg.size, ⟨h.hols.rows.kept hg hr, h.hols.size, h.hols.names⟩, h.tab.kept hg hr⟩
/-- A cell of the call's own, not frozen. -/
structure OwnCell (W : World) (b : Nat) (v : Value) : Prop where
  cell : W.cell? ⟨b, 0, none⟩ = some v
  free : W.frozen? ⟨b, 0, none⟩ = false
theorem OwnCell.kept {W W' : World} {row : Option Nat} {b : Nat} {v : Value} (h : OwnCell W b v) (hg : W.grownBy W' row) (hr : Others W row) : OwnCell W' b v :=
  ⟨cell_kept h.cell hg hr, (frozen_kept h.cell hg hr).trans h.free⟩
theorem OwnCell.far {W : World} {b : Nat} {v : Value} (h : OwnCell W b v) {p : Addr} (hp : b ≠ p.block) (u : Value) : OwnCell (W.setCell p u) b v :=
  ⟨(World.cell?_setCell_other W p ⟨b, 0, none⟩ u (fun e => hp (by rw [e]))).trans h.cell, by rw [World.frozen?_setCell]; exact h.free⟩
theorem OwnCell.set_ {W : World} {b : Nat} {v : Value} (h : OwnCell W b v) (u : Value) : OwnCell (W.setCell ⟨b, 0, none⟩ u) b u :=
  ⟨World.cell?_setCell_same' _ _ _ (by rw [h.cell]; rfl), by rw [World.frozen?_setCell]; exact h.free⟩

theorem days_any (cb : Nat) (d step : Int) (W : World) :
    Calls Tryz.prog 203 #[.pointer (some ⟨cb, 0, none⟩), .int .i64 d, .int .i64 step] W fun e W' => e = .returned (.func (.func 242) #[] #[.pointer (some ⟨W.heap.size + 1, 0, none⟩), .pointer (some ⟨W.heap.size + 2, 0, none⟩), .pointer (some ⟨W.heap.size, 0, none⟩)]) ∧
      W' = ((W.alloc (.cells #[.pointer (some ⟨cb, 0, none⟩)] 222)).alloc (.cells #[.int .i64 d] 3)).alloc (.cells #[.int .i64 step] 3) := by
  go_enter Tryz.func203, Tryz.ntmps203
  go_wp2
  go_ret
  exact ⟨rfl, rfl⟩
/-- What add keeps while it goes round. W0: the world when it began. -/
structure AddI (K : Where) (W0 : World) (res : Option Int) (left : Int) (d : Int) (W : World) : Prop where
  fr : W0.grownBy W (some K.m)
  lo : -1 ≤ d
  hi : d ≤ 200001
  st : OwnCell W K.bs (.int .i64 K.step)
  from_ : OwnCell W K.bf (.int .i64 K.start)
  cal : OwnCell W K.bc (.pointer (some ⟨K.cb, 0, none⟩))
  left_ : OwnCell W (W0.heap.size + 2) (.int .i64 left)
  r0 : OwnCell W W0.heap.size (.int .i64 0)
  r1 : OwnCell W (W0.heap.size + 1) (.bool false)
  cache : CacheAt K d W
  size : W0.heap.size + 6 ≤ W.heap.size
/-- How the numbers of the blocks stand. -/
structure AddK (K : Where) (W0 : World) : Prop where
  b : K.B = W0.heap.size + 6
  bc : K.bc = W0.heap.size + 3
  bf : K.bf = W0.heap.size + 4
  bs : K.bs = W0.heap.size + 5
  cald : Calend W0 K.cb K.m K.A K.c K.l
  ismap : ∃ es cl, W0.heap[K.m]? = some (.map es cl)
  st : K.step = 1 ∨ K.step = -1
theorem AddK.others {K : Where} {W0 : World} (h : AddK K W0) : Others W0 (some K.m) := fun r e => by cases e; obtain ⟨es, cl, h⟩ := h.ismap; exact ⟨_, h, rfl⟩
theorem cacheOthers {K : Where} {d : Int} {W : World} (h : CacheAt K d W) : Others W (some K.m) := fun r e => by cases e; obtain ⟨n, ⟨f, h, _⟩, _⟩ := h; obtain ⟨es, cl, h⟩ := h.isMap; exact ⟨_, h, rfl⟩
theorem AddI.inv {K : Where} {W0 W : World} {res : Option Int} {left d : Int} (hK : AddK K W0) (h : AddI K W0 res left d W) : DaysInv K d W :=
  ⟨h.lo, h.hi, h.from_.cell, h.st.cell, h.cal.cell, hK.cald.kept h.fr hK.others, h.cache, by rw [hK.b]; exact h.size⟩
/-- A turn that leaves cells and the map alone. -/
theorem AddI.book {K : Where} {W0 W W' : World} {res : Option Int} {left d : Int} (h : AddI K W0 res left d W) {row : Option Nat} (hg : W.grownBy W' row) (hr : ∀ r, row = some r → W0.heap.size ≤ r ∧ ∃ o : Obj, W.heap[r]? = some o ∧ isBook o = true) : AddI K W0 res left d W' := by
  have ho : Others W row := fun r e => by obtain ⟨_, o, h1, h2⟩ := hr r e; exact ⟨o, h1, not_cells_of_book h2⟩
  refine ⟨⟨hg.os.trans h.fr.os, hg.tape.trans h.fr.tape, hg.output.trans h.fr.output, Nat.le_trans h.fr.size hg.size, fun i hi hne => (hg.block i (Nat.lt_of_lt_of_le hi h.fr.size) (fun e => ?_)).trans (h.fr.block i hi hne)⟩,
    h.lo, h.hi, h.st.kept hg ho, h.from_.kept hg ho, h.cal.kept hg ho, h.left_.kept hg ho, h.r0.kept hg ho, h.r1.kept hg ho, ?_, Nat.le_trans h.size hg.size⟩
  · obtain ⟨h1, _⟩ := hr i e.symm; omega
  · obtain ⟨n, hc, hn⟩ := h.cache
    have hmap : ∃ es cl, W.heap[K.m]? = some (.map es cl) := by obtain ⟨f, h, _⟩ := hc; exact h.isMap
    refine ⟨n, hc.keep (hg.block _ ?_ ?_) (fun g cs t _ hgc => (hg.block g (Array.getElem?_eq_some_iff.1 hgc).1 ?_).trans hgc), hn⟩
    · obtain ⟨es, cl, h⟩ := hmap; exact (Array.getElem?_eq_some_iff.1 h).1
    · intro e; obtain ⟨_, o, h1, h2⟩ := hr _ e.symm; obtain ⟨es, cl, h⟩ := hmap; rw [h] at h1; cases h1; cases h2
    · intro e; obtain ⟨_, o, h1, h2⟩ := hr _ e.symm; rw [hgc] at h1; cases h1; cases h2
/-- A step of the iterator. -/
theorem AddI.step {K : Where} {W0 W W' : World} {res : Option Int} {left d d' : Int} (h : AddI K W0 res left d W) (hg : W.grownBy W' (some K.m)) (hc : CacheAt K d' W') (h1 : -1 ≤ d') (h2 : d' ≤ 200001) : AddI K W0 res left d' W' := by
  have ho := cacheOthers h.cache
  exact ⟨grownBy_trans h.fr hg, h1, h2, h.st.kept hg ho, h.from_.kept hg ho, h.cal.kept hg ho, h.left_.kept hg ho, h.r0.kept hg ho, h.r1.kept hg ho, hc, Nat.le_trans h.size hg.size⟩
/-- A store into the counter. -/
theorem AddI.store {K : Where} {W0 W : World} {res : Option Int} {left d : Int} (hK : AddK K W0) (h : AddI K W0 res left d W) (u : Int) : AddI K W0 res u d (W.setCell ⟨W0.heap.size + 2, 0, none⟩ (.int .i64 u)) := by
  have hfar : ∀ (g : Nat), g ≠ W0.heap.size + 2 → (W.setCell ⟨W0.heap.size + 2, 0, none⟩ (.int .i64 u)).heap[g]? = W.heap[g]? := fun g hg => Below.heap_setCell W ⟨W0.heap.size + 2, 0, none⟩ (.int .i64 u) g hg
  have h1 := hK.bs; have h2 := hK.bf; have h3 := hK.bc; have h4 := hK.b
  refine ⟨⟨h.fr.os, h.fr.tape, h.fr.output, by simpa [World.setCell] using h.fr.size, fun i hi hne => (hfar i (by omega)).trans (h.fr.block i hi hne)⟩, h.lo, h.hi, h.st.far (by simp; omega) _, h.from_.far (by simp; omega) _, h.cal.far (by simp; omega) _, h.left_.set_ _, h.r0.far (by simp) _, h.r1.far (by simp) _, ?_, by simpa [World.setCell] using h.size⟩
  obtain ⟨n, hc, hn⟩ := h.cache
  have hmap : ∃ es cl, W.heap[K.m]? = some (.map es cl) := by obtain ⟨f, h, _⟩ := hc; exact h.isMap
  refine ⟨n, hc.keep (hfar _ ?_) (fun g cs t hg hgc => (hfar g (by omega)).trans hgc), hn⟩
  intro e
  obtain ⟨es, cl, hm⟩ := hmap
  have := h.left_.cell
  rw [e] at hm
  unfold World.cell? at this
  simp [hm] at this
end Go.Proofs.YtbegbajlagcbdaaGreatDoor
