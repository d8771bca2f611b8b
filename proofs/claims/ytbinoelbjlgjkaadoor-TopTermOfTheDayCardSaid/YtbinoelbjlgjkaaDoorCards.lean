/-
  DERIVED. GIVEN WITH THE SEED: THE CARDS: each row of YtbinoelbjlgjkaaDoorRows.lean that lists a variable, with what it lists TIED to the program's text (the seventh form; the later family's looks); each row that meets fmt, with fmt's text TOLD by the authors' own Lean function (tested against real Go, not proved from fmt's source: count such statements apart). THE CARD IS WHAT COUNTS. Prove the row's statement (the work); the ties are given (YtbinoelbjlgjkaaDoorTie.lean); close each card by the builder's one call (the guide's Derived/Test/ToyasCard.lean, 'card_holds'). Laid BY PROGRAM, IN A SANDBOX (cutbox-door.mjs). By AI agents, Wed Nov 11 2026. No macro, syntax, notation, axiom, sorry.
-/
import Derived.Test.YtbinoelbjlgjkaaDoorRows
import GoSem.ClaimSeven
namespace Go.Proofs.YtbinoelbjlgjkaaDoor
namespace Rows

/-- THE TIED CARD OF 'mortsafetop.TopTermOfTheDay'. -/
def topTermOfTheDayCard : Claim7 := { stood := { row := topTermOfTheDayRow, standIns := [], harness := (true, "b8daa247d957f23d39161413a623148037844d4b559683fa5412ba854309d1fc"), looks := false }, kinds := [], alts := [], laidByText := true, laidKinds := [.data], laidTests := true, laidLooks := .later }
def TopTermOfTheDayCardSaid : Prop := Claim7.holds Tryd.pinned (.plain (OpenSpec.ofChange topTermOfTheDaySpec)) topTermOfTheDayCard

/-- THE SECOND FORM's CARD OF 'mortsafetop.TopTermOfTheDay'. -/
def topTermOfTheDayUptoCard : Claim7 := { stood := { row := topTermOfTheDayUptoRow, standIns := [], harness := (true, "b8daa247d957f23d39161413a623148037844d4b559683fa5412ba854309d1fc"), looks := false }, kinds := [], alts := [], laidByText := true, laidKinds := [.data], laidTests := true, laidLooks := .later }
def TopTermOfTheDayUptoCardSaid : Prop := Claim7.holds Tryd.pinned (.plain (OpenSpec.upto topTermOfTheDaySpec)) topTermOfTheDayUptoCard
end Rows
end Go.Proofs.YtbinoelbjlgjkaaDoor
