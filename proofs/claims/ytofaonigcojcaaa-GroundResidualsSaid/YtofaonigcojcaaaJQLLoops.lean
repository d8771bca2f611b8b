/- The walk of a statement. -/
import Derived.Test.YtofaonigcojcaaaJ17
import Derived.Test.YtofaonigcojcaaaJ25
namespace Go.Proofs.Ytofaonigcojcaaa
open Go Go.RowKit Go.Shelf
def Row30 (w : World) (A : Option Addr) (l : List Lev) : Prop := RowsAt w A 4 (l.map Lev.cells)
theorem Row30.levs {w : World} {A : Option Addr} {l : List Lev} (h : Row30 w A l) (hl : l.length ≤ 1000000) : Levs w A l := ⟨h, hl⟩
end Go.Proofs.Ytofaonigcojcaaa
