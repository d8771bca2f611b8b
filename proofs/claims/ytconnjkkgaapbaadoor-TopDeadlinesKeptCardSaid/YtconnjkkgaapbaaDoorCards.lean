/-
  DERIVED. GIVEN WITH THE SEED: THE CARDS: each row of YtconnjkkgaapbaaDoorRows.lean that lists a variable, with what it lists TIED to the program's text (the seventh form; the later family's looks); each row that meets fmt, with fmt's text TOLD by the authors' own Lean function (tested against real Go, not proved from fmt's source: count such statements apart). THE CARD IS WHAT COUNTS. Prove the row's statement (the work); the ties are given (YtconnjkkgaapbaaDoorTie.lean); close each card by the builder's one call (the guide's Derived/Test/ToyasCard.lean, 'card_holds'). Laid BY PROGRAM, IN A SANDBOX (cutbox-door.mjs). By AI agents, Wed Nov 11 2026. No macro, syntax, notation, axiom, sorry.
-/
import Derived.Test.YtconnjkkgaapbaaDoorRows
import GoSem.ClaimSeven
namespace Go.Proofs.YtconnjkkgaapbaaDoor
namespace Rows

/-- THE TIED CARD OF 'mortsafelaw08.NoticeGradings'. -/
def noticeGradingsCard : Claim7 := { stood := { row := noticeGradingsRow, standIns := [], harness := (true, "b642427a64000f87b793adc74359f5bacb341ea3e593ab14335a47f70c9a4ec6"), looks := false }, kinds := [], alts := [], laidByText := true, laidKinds := [.data], laidTests := true, laidLooks := .later }
def NoticeGradingsCardSaid : Prop := Claim7.holds Tryd.pinned (.plain (OpenSpec.ofChange noticeGradingsSpec)) noticeGradingsCard

/-- THE TIED CARD OF 'mortsafetop.TopDeadlinesKept'. -/
def topDeadlinesKeptCard : Claim7 := { stood := { row := topDeadlinesKeptRow, standIns := [], harness := (true, "b642427a64000f87b793adc74359f5bacb341ea3e593ab14335a47f70c9a4ec6"), looks := false }, kinds := [], alts := [], laidByText := true, laidKinds := [.data], laidTests := true, laidLooks := .later }
def TopDeadlinesKeptCardSaid : Prop := Claim7.holds Tryd.pinned (.plain (OpenSpec.ofChange topDeadlinesKeptSpec)) topDeadlinesKeptCard

/-- THE SECOND FORM's CARD OF 'mortsafelaw08.NoticeGradings'. -/
def noticeGradingsUptoCard : Claim7 := { stood := { row := noticeGradingsUptoRow, standIns := [], harness := (true, "b642427a64000f87b793adc74359f5bacb341ea3e593ab14335a47f70c9a4ec6"), looks := false }, kinds := [], alts := [], laidByText := true, laidKinds := [.data], laidTests := true, laidLooks := .later }
def NoticeGradingsUptoCardSaid : Prop := Claim7.holds Tryd.pinned (.plain (OpenSpec.upto noticeGradingsSpec)) noticeGradingsUptoCard

/-- THE SECOND FORM's CARD OF 'mortsafetop.TopDeadlinesKept'. -/
def topDeadlinesKeptUptoCard : Claim7 := { stood := { row := topDeadlinesKeptUptoRow, standIns := [], harness := (true, "b642427a64000f87b793adc74359f5bacb341ea3e593ab14335a47f70c9a4ec6"), looks := false }, kinds := [], alts := [], laidByText := true, laidKinds := [.data], laidTests := true, laidLooks := .later }
def TopDeadlinesKeptUptoCardSaid : Prop := Claim7.holds Tryd.pinned (.plain (OpenSpec.upto topDeadlinesKeptSpec)) topDeadlinesKeptUptoCard
end Rows
end Go.Proofs.YtconnjkkgaapbaaDoor
