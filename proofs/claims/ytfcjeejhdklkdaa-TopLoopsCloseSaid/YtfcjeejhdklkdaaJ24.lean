/- What the statements rest on: definitions and walks, part 24. -/
import Derived.Test.YtfcjeejhdklkdaaJ23
namespace Go.Proofs.Ytfcjeejhdklkdaa
open Go Go.RowKit Go.Shelf
attribute [local go_sem] Oper.semAt_some
end Go.Proofs.Ytfcjeejhdklkdaa
