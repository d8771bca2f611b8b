/- The walk of a statement. -/
import Derived.Test.YtfcjeejhdklkdaaJ17
import Derived.Test.YtfcjeejhdklkdaaJ25
namespace Go.Proofs.Ytfcjeejhdklkdaa
open Go Go.RowKit Go.Shelf
def Row30 (w : World) (A : Option Addr) (l : List Lev) : Prop := RowsAt w A 4 (l.map Lev.cells)
theorem Row30.levs {w : World} {A : Option Addr} {l : List Lev} (h : Row30 w A l) (hl : l.length ≤ 1000000) : Levs w A l := ⟨h, hl⟩
end Go.Proofs.Ytfcjeejhdklkdaa
