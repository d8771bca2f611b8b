/- The walk of a statement. -/
import Derived.Test.YtbinoelbjlgjkaaDoorC22
namespace Go.Proofs.YtbinoelbjlgjkaaDoor
open Go Go.RowKit
/-- A bool that bounds the list where it is true. -/
def LawsOut (l : List Prov) (e : Ending) : Prop := ∃ b : Bool, e = .returned (.bool b) ∧ (b = true → l.length ≤ 210 ∧ ∀ (k : Nat) p, l[k]? = some p → p.name.size ≤ 30)
def shortTo (l : List Prov) (k : Nat) : Prop := ∀ (j : Nat) p, j < k → l[j]? = some p → p.name.size ≤ 30
/-- The boxed pair of days. -/
structure AtCells (w : World) (B : Nat) (holds known : Int) : Prop where
  c0 : w.cell? ⟨B, 0, none⟩ = some (.int .i64 holds)
  c1 : w.cell? ⟨B, 1, none⟩ = some (.int .i64 known)
  lt : B < w.heap.size
theorem AtCells.below {w w' : World} {B : Nat} {holds known : Int} (h : AtCells w B holds known) (hb : Below w.heap.size w w') : AtCells w' B holds known :=
  ⟨(hb.cell (p := ⟨B, 0, none⟩) h.lt).trans h.c0, (hb.cell (p := ⟨B, 1, none⟩) h.lt).trans h.c1, Nat.lt_of_lt_of_le h.lt hb.size⟩
theorem AtCells.new (w : World) (holds known : Int) (t : TypeId) : AtCells (w.alloc (.cells #[.int .i64 holds, .int .i64 known] t)) w.heap.size holds known := ⟨by simp, by simp, by simp⟩
end Go.Proofs.YtbinoelbjlgjkaaDoor
