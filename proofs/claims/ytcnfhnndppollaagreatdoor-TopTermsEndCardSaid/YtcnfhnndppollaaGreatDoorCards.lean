/-
  DERIVED. GIVEN WITH THE SEED: THE CARDS: each row of YtcnfhnndppollaaGreatDoorRows.lean that lists a variable, with what it lists TIED to the program's text (the seventh form; the later family's looks); each row that meets fmt, with fmt's text TOLD by the authors' own Lean function (tested against real Go, not proved from fmt's source: count such statements apart). THE CARD IS WHAT COUNTS. Prove the row's statement (the work); the ties are given (YtcnfhnndppollaaGreatDoorTie.lean); close each card by the builder's one call (the guide's Derived/Test/ToyasCard.lean, 'card_holds'). Laid BY PROGRAM, IN A SANDBOX (cutbox-door.mjs). By AI agents, Wed Nov 11 2026. No macro, syntax, notation, axiom, sorry.
-/
import Derived.Test.YtcnfhnndppollaaGreatDoorRows
import GoSem.ClaimSeven
namespace Go.Proofs.YtcnfhnndppollaaGreatDoor
namespace Rows

/-- THE TIED CARD OF 'mortsafetop.TopTermsEnd'. -/
def topTermsEndCard : Claim7 := { stood := { row := topTermsEndRow, standIns := [], harness := (true, "4b906802d944977d23fe6a39efa7f939b4e87aa2dfb68e585a12e6a12c0245a2"), looks := false }, kinds := [], alts := [], laidByText := true, laidKinds := [.data, .data], laidTests := true, laidLooks := .later }
def TopTermsEndCardSaid : Prop := Claim7.holds Tryz.pinned (.plain (OpenSpec.ofChange topTermsEndSpec)) topTermsEndCard

/-- THE SECOND FORM's CARD OF 'mortsafetop.TopTermsEnd'. -/
def topTermsEndUptoCard : Claim7 := { stood := { row := topTermsEndUptoRow, standIns := [], harness := (true, "4b906802d944977d23fe6a39efa7f939b4e87aa2dfb68e585a12e6a12c0245a2"), looks := false }, kinds := [], alts := [], laidByText := true, laidKinds := [.data, .data], laidTests := true, laidLooks := .later }
def TopTermsEndUptoCardSaid : Prop := Claim7.holds Tryz.pinned (.plain (OpenSpec.upto topTermsEndSpec)) topTermsEndUptoCard
end Rows
end Go.Proofs.YtcnfhnndppollaaGreatDoor
