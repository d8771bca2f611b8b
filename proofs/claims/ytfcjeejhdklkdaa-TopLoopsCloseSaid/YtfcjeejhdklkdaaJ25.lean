/- What the statements rest on: definitions and walks, part 25. -/
import Derived.Test.YtfcjeejhdklkdaaJ24
import Derived.Test.YtfcjeejhdklkdaaJ19
import Derived.Test.YtfcjeejhdklkdaaJ12
import Derived.Test.YtfcjeejhdklkdaaJ18
import Derived.Test.YtfcjeejhdklkdaaJ14
import Derived.Test.YtfcjeejhdklkdaaJ20
import Derived.Test.YtfcjeejhdklkdaaJ22
import Derived.Test.YtfcjeejhdklkdaaJ08
import Derived.Test.YtfcjeejhdklkdaaJ03
namespace Go.Proofs.Ytfcjeejhdklkdaa
open Go Go.RowKit Go.Shelf
attribute [local go_sem] Oper.semAt_some
end Go.Proofs.Ytfcjeejhdklkdaa
namespace Go.Proofs.Ytfcjeejhdklkdaa
open Go Go.RowKit Go.Shelf
attribute [local go_sem] Oper.semAt_some
def sdR (s : Sd) : List Value := [.int .i64 s.a.x, .int .i64 s.a.y, .int .i64 s.b.x, .int .i64 s.b.y]
/-- What lies still while border runs: the second polygon, what is found so far; its block is none of those in Ns. -/
structure BdI (w : World) (Vb : Option Addr) (nb db N : Nat) (Ns : List Nat) (out : List Sd) (W : World) : Prop where
  b : BoxAt W w.heap.size [.slice Vb nb db]
  o : ∃ v, BoxAt W (w.heap.size + 1) [v] ∧ OwnL W (w.heap.size + 3) 97 4 v (out.map sdR) ∧ ∀ g, v.ownBlock = some g → g ∉ Ns
  bel : Below w.heap.size w W
  lt : w.heap.size + 3 ≤ N
  size : N ≤ W.heap.size
theorem BdI.below {w : World} {Vb : Option Addr} {nb db N : Nat} {Ns : List Nat} {out : List Sd} {X Y : World} (h : BdI w Vb nb db N Ns out X) (hb : Below X.heap.size X Y) : BdI w Vb nb db N Ns out Y := by
  obtain ⟨h1, ⟨v, h2, h3, h4⟩, h5, h6, h7⟩ := h
  exact ⟨h1.below hb, ⟨v, h2.below hb, OwnL.below h3 hb, h4⟩, h5.trans (hb.mono h5.size), h6, Nat.le_trans h7 hb.size⟩
theorem BdI.kept {w : World} {Vb : Option Addr} {nb db N : Nat} {Ns : List Nat} {out : List Sd} {X Y : World} {row : Option Nat} (h : BdI w Vb nb db N Ns out X) (hg : X.grownBy Y row) (hr : ∀ r, row = some r → w.heap.size ≤ r ∧ ∃ o : Obj, X.heap[r]? = some o ∧ o.isCells = false) : BdI w Vb nb db N Ns out Y := by
  obtain ⟨h1, ⟨v, h2, h3, h4⟩, h5, h6, h7⟩ := h
  have ho : Others X row := fun r e => (hr r e).2
  exact ⟨h1.keptF hg ho, ⟨v, h2.keptF hg ho, OwnL.keptF h3 hg ho, h4⟩, ownFrom_below (β := Unit) (Nat.le_refl _) (Nat.le_refl _) () X Y row h5 hg hr, h6, Nat.le_trans h7 hg.size⟩
end Go.Proofs.Ytfcjeejhdklkdaa
namespace Go.Proofs.Ytfcjeejhdklkdaa
open Go Go.RowKit Go.Shelf
attribute [local go_sem] Oper.semAt_some
theorem BdI.any {w : World} {Vb : Option Addr} {nb db N : Nat} {Ns : List Nat} {out : List Sd} {X : World} (h : BdI w Vb nb db N Ns out X) : BdI w Vb nb db N [] out X :=
  ⟨h.b, by obtain ⟨v, h2, h3, h4⟩ := h.o; exact ⟨v, h2, h3, fun g _ hm => by cases hm⟩, h.bel, h.lt, h.size⟩
section
variable {n : Nat} {g : Operand} {qs : Array Tmp} {assign body : Code} {Q : Exit → Act → World → Prop} {a : Act} {w : World} {Bs n₀ : Nat} {V : Option Addr} {d : Nat} {ps : List Pt}
end
end Go.Proofs.Ytfcjeejhdklkdaa
namespace Go.Proofs.Ytfcjeejhdklkdaa
open Go Go.RowKit Go.Shelf
attribute [local go_sem] Oper.semAt_some
/-- A polygon as an argument. -/
structure PA where
  V : Option Addr
  d : Nat
  ps : List Pt
def PA.v (p : PA) : Value := .slice p.V p.ps.length p.d
end Go.Proofs.Ytfcjeejhdklkdaa
namespace Go.Proofs.Ytfcjeejhdklkdaa
open Go Go.RowKit Go.Shelf
attribute [local go_sem] Oper.semAt_some
end Go.Proofs.Ytfcjeejhdklkdaa
namespace Go.Proofs.Ytfcjeejhdklkdaa
open Go Go.RowKit Go.Shelf
end Go.Proofs.Ytfcjeejhdklkdaa
