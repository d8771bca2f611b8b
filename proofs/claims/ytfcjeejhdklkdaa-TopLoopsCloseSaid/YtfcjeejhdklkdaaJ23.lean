/- What the statements rest on: definitions and walks, part 23. -/
import Derived.Test.YtfcjeejhdklkdaaJ12
namespace Go.Proofs.Ytfcjeejhdklkdaa
open Go Go.RowKit Go.Shelf
attribute [local go_sem] Oper.semAt_some
structure CmI (w : World) (s t : Sd) (X : World) : Prop where
  s : BoxAt X w.heap.size [.int .i64 s.a.x, .int .i64 s.a.y, .int .i64 s.b.x, .int .i64 s.b.y]
  t : BoxAt X (w.heap.size + 1) [.int .i64 t.a.x, .int .i64 t.a.y, .int .i64 t.b.x, .int .i64 t.b.y]
  z : BoxAt X (w.heap.size + 1 + 1) [.int .i64 0, .int .i64 0, .int .i64 0, .int .i64 0]
  bel : Below w.heap.size w X
theorem CmI.below {w : World} {s t : Sd} {X Y : World} (h : CmI w s t X) (hb : Below X.heap.size X Y) : CmI w s t Y :=
  ⟨h.s.below hb, h.t.below hb, h.z.below hb, h.bel.trans (hb.mono h.bel.size)⟩
theorem CmI.first (w : World) (s t : Sd) : CmI w s t (((w.alloc (.cells #[.int .i64 s.a.x, .int .i64 s.a.y, .int .i64 s.b.x, .int .i64 s.b.y] 120)).alloc (.cells #[.int .i64 t.a.x, .int .i64 t.a.y, .int .i64 t.b.x, .int .i64 t.b.y] 120)).alloc (.cells #[.int .i64 0, .int .i64 0, .int .i64 0, .int .i64 0] 97)) := by
  have h2 := (BoxAt.new (w.alloc (.cells #[.int .i64 s.a.x, .int .i64 s.a.y, .int .i64 s.b.x, .int .i64 s.b.y] 120)) #[.int .i64 t.a.x, .int .i64 t.a.y, .int .i64 t.b.x, .int .i64 t.b.y] 120).alloc (.cells #[.int .i64 0, .int .i64 0, .int .i64 0, .int .i64 0] 97)
  have h3 := BoxAt.new ((w.alloc (.cells #[.int .i64 s.a.x, .int .i64 s.a.y, .int .i64 s.b.x, .int .i64 s.b.y] 120)).alloc (.cells #[.int .i64 t.a.x, .int .i64 t.a.y, .int .i64 t.b.x, .int .i64 t.b.y] 120)) #[.int .i64 0, .int .i64 0, .int .i64 0, .int .i64 0] 97
  simp only [World.size_alloc] at h2 h3
  exact ⟨((BoxAt.new w #[.int .i64 s.a.x, .int .i64 s.a.y, .int .i64 s.b.x, .int .i64 s.b.y] 120).alloc _).alloc _, h2, h3, below_step (below_step (below_alloc _ _) (below_alloc _ _)) (below_alloc _ _)⟩
theorem CmI.swap {w : World} {s t : Sd} {X : World} (h : CmI w s t X) : CmI w s ⟨t.b, t.a⟩ ((((X.setCell ⟨w.heap.size + 1, 0, none⟩ (.int .i64 t.b.x)).setCell ⟨w.heap.size + 1, 1, none⟩ (.int .i64 t.b.y)).setCell ⟨w.heap.size + 1, 2, none⟩ (.int .i64 t.a.x)).setCell ⟨w.heap.size + 1, 3, none⟩ (.int .i64 t.a.y)) := by
  obtain ⟨h1, h2, h3, h4⟩ := h
  refine ⟨(((h1.off 0 _ (by omega)).off 1 _ (by omega)).off 2 _ (by omega)).off 3 _ (by omega), (((h2.set 0 _ (by simp)).set 1 _ (by simp)).set 2 _ (by simp)).set 3 _ (by simp), (((h3.off 0 _ (by omega)).off 1 _ (by omega)).off 2 _ (by omega)).off 3 _ (by omega), ?_⟩
  exact (((h4.setCell (p := ⟨w.heap.size + 1, 0, none⟩) (Nat.le_succ _) _).setCell (p := ⟨w.heap.size + 1, 1, none⟩) (Nat.le_succ _) _).setCell (p := ⟨w.heap.size + 1, 2, none⟩) (Nat.le_succ _) _).setCell (p := ⟨w.heap.size + 1, 3, none⟩) (Nat.le_succ _) _
structure CmJ (w : World) (s t : Sd) (Bf Be : Nat) (f e : Pt) (X : World) : Prop where
  base : CmI w s t X
  f : BoxAt X Bf [.int .i64 f.x, .int .i64 f.y]
  e : BoxAt X Be [.int .i64 e.x, .int .i64 e.y]
  ne : Bf ≠ Be
  hf : w.heap.size + 1 + 1 < Bf
  he : w.heap.size + 1 + 1 < Be
theorem CmJ.below {w : World} {s t : Sd} {Bf Be : Nat} {f e : Pt} {X Y : World} (h : CmJ w s t Bf Be f e X) (hb : Below X.heap.size X Y) : CmJ w s t Bf Be f e Y :=
  ⟨h.base.below hb, h.f.below hb, h.e.below hb, h.ne, h.hf, h.he⟩
theorem CmJ.new {w : World} {s t : Sd} {X : World} (h : CmI w s t X) (f e : Pt) : CmJ w s t X.heap.size (X.heap.size + 1) f e ((X.alloc (.cells #[.int .i64 f.x, .int .i64 f.y] 75)).alloc (.cells #[.int .i64 e.x, .int .i64 e.y] 75)).drew := by
  have hz := h.z.lt
  have hb : Below X.heap.size X ((X.alloc (.cells #[.int .i64 f.x, .int .i64 f.y] 75)).alloc (.cells #[.int .i64 e.x, .int .i64 e.y] 75)).drew := ((Below.refl _ _).alloc (Nat.le_refl _) _ |>.alloc (by simp) _).drew
  have he := BoxAt.new (X.alloc (.cells #[.int .i64 f.x, .int .i64 f.y] 75)) #[.int .i64 e.x, .int .i64 e.y] 75
  simp only [World.size_alloc] at he
  exact ⟨h.below hb, ((BoxAt.new X #[.int .i64 f.x, .int .i64 f.y] 75).alloc _).below ((Below.refl _ _).drew), he.below ((Below.refl _ _).drew), by omega, by omega, by omega⟩
theorem CmI.off {w : World} {s t : Sd} {X : World} (h : CmI w s t X) {B : Nat} (hB : w.heap.size + 1 + 1 < B) (o : Nat) (v : Value) : CmI w s t (X.setCell ⟨B, o, none⟩ v) :=
  ⟨h.s.off o v (by omega), h.t.off o v (by omega), h.z.off o v (by omega), h.bel.setCell (p := ⟨B, o, none⟩) (show w.heap.size ≤ B by omega) v⟩
/-- What is held in the last step. -/
structure CmK (w : World) (s : Sd) (Bf Be : Nat) (f e : Pt) (X : World) : Prop where
  s : BoxAt X w.heap.size [.int .i64 s.a.x, .int .i64 s.a.y, .int .i64 s.b.x, .int .i64 s.b.y]
  z : ∃ z0 z1 z2 z3, BoxAt X (w.heap.size + 1 + 1) [z0, z1, z2, z3]
  f : BoxAt X Bf [.int .i64 f.x, .int .i64 f.y]
  e : BoxAt X Be [.int .i64 e.x, .int .i64 e.y]
  bel : Below w.heap.size w X
  hf : w.heap.size + 1 + 1 < Bf
  he : w.heap.size + 1 + 1 < Be
theorem CmJ.k {w : World} {s t : Sd} {Bf Be : Nat} {f e : Pt} {X : World} (h : CmJ w s t Bf Be f e X) : CmK w s Bf Be f e X := ⟨h.base.s, ⟨_, _, _, _, h.base.z⟩, h.f, h.e, h.base.bel, h.hf, h.he⟩
theorem CmK.below {w : World} {s : Sd} {Bf Be : Nat} {f e : Pt} {X Y : World} (h : CmK w s Bf Be f e X) (hb : Below X.heap.size X Y) : CmK w s Bf Be f e Y := by
  obtain ⟨h1, ⟨_, _, _, _, h2⟩, h3, h4, h5, h6, h7⟩ := h
  exact ⟨h1.below hb, ⟨_, _, _, _, h2.below hb⟩, h3.below hb, h4.below hb, h5.trans (hb.mono h5.size), h6, h7⟩
theorem CmK.store {w : World} {s : Sd} {Bf Be : Nat} {f e : Pt} {X : World} (h : CmK w s Bf Be f e X) (o : Nat) (ho : o < 4) (v : Value) : CmK w s Bf Be f e (X.setCell ⟨w.heap.size + 1 + 1, o, none⟩ v) := by
  obtain ⟨h1, ⟨z0, z1, z2, z3, h2⟩, h3, h4, h5, h6, h7⟩ := h
  refine ⟨h1.off o v (by omega), ?_, h3.off o v (by omega), h4.off o v (by omega), h5.setCell (p := ⟨w.heap.size + 1 + 1, o, none⟩) (show w.heap.size ≤ w.heap.size + 1 + 1 by omega) v, h6, h7⟩
  have h := h2.set o v (by simpa using ho)
  match o, ho, h with
  | 0, _, h => exact ⟨_, _, _, _, h⟩
  | 1, _, h => exact ⟨_, _, _, _, h⟩
  | 2, _, h => exact ⟨_, _, _, _, h⟩
  | 3, _, h => exact ⟨_, _, _, _, h⟩
end Go.Proofs.Ytfcjeejhdklkdaa
