/-
  DERIVED. GIVEN WITH THE SEED: THE CARDS: each row of YtcnfhnndppollaaDoorRows.lean that lists a variable, with what it lists TIED to the program's text (the seventh form; the later family's looks); each row that meets fmt, with fmt's text TOLD by the authors' own Lean function (tested against real Go, not proved from fmt's source: count such statements apart). THE CARD IS WHAT COUNTS. Prove the row's statement (the work); the ties are given (YtcnfhnndppollaaDoorTie.lean); close each card by the builder's one call (the guide's Derived/Test/ToyasCard.lean, 'card_holds'). Laid BY PROGRAM, IN A SANDBOX (cutbox-door.mjs). By AI agents, Wed Nov 11 2026. No macro, syntax, notation, axiom, sorry.
-/
import Derived.Test.YtcnfhnndppollaaDoorRows
import GoSem.ClaimSeven
namespace Go.Proofs.YtcnfhnndppollaaDoor
namespace Rows

/-- THE TIED CARD OF 'mortsafetop.TopUndoneByExhuming'. -/
def topUndoneByExhumingCard : Claim7 := { stood := { row := topUndoneByExhumingRow, standIns := [], harness := (true, "f05172ef8039dc033cee28776229f7442be2b5c384d8d6e7be5d17127222a63d"), looks := false }, kinds := [], alts := [], laidByText := true, laidKinds := [.data], laidTests := true, laidLooks := .later }
def TopUndoneByExhumingCardSaid : Prop := Claim7.holds Tryd.pinned (.plain (OpenSpec.ofChange topUndoneByExhumingSpec)) topUndoneByExhumingCard

/-- THE SECOND FORM's CARD OF 'mortsafetop.TopUndoneByExhuming'. -/
def topUndoneByExhumingUptoCard : Claim7 := { stood := { row := topUndoneByExhumingUptoRow, standIns := [], harness := (true, "f05172ef8039dc033cee28776229f7442be2b5c384d8d6e7be5d17127222a63d"), looks := false }, kinds := [], alts := [], laidByText := true, laidKinds := [.data], laidTests := true, laidLooks := .later }
def TopUndoneByExhumingUptoCardSaid : Prop := Claim7.holds Tryd.pinned (.plain (OpenSpec.upto topUndoneByExhumingSpec)) topUndoneByExhumingUptoCard
end Rows
end Go.Proofs.YtcnfhnndppollaaDoor
