/- What the statements rest on: definitions and walks, part 15. -/
import Derived.Test.YtofaonigcojcaaaJ14
import Derived.Test.YtofaonigcojcaaaJ07
namespace Go.Proofs.Ytofaonigcojcaaa
open Go Go.RowKit Go.Shelf
/-- A box with one value, laid first, stays. -/
structure BxI (w : World) (v : Value) (W : World) : Prop where
  a : W.cell? ⟨w.heap.size, 0, none⟩ = some v
  bel : Below w.heap.size w W
  lt : w.heap.size < W.heap.size
theorem BxI.below {w : World} {v : Value} {X Y : World} (h : BxI w v X) (hb : Below X.heap.size X Y) : BxI w v Y := ⟨(hb.cell (p := ⟨w.heap.size, 0, none⟩) h.lt).trans h.a, below_step h.bel hb, Nat.lt_of_lt_of_le h.lt hb.size⟩
end Go.Proofs.Ytofaonigcojcaaa
