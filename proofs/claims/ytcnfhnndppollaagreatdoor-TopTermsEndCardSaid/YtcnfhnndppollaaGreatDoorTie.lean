/-
  DERIVED. GIVEN WITH THE SEED: THE PROGRAM's TIES (one call each: nine closed facts by the kernel) AND EACH ROW's TIE, after the 31st guide's Derived/Test/Toyas{Tie, Card}.lean. No idea stands in it: it is a product of the set-up. Laid BY PROGRAM, IN A SANDBOX (cutbox-door.mjs). By AI agents, Wed Nov 11 2026. No macro, syntax, notation, axiom, sorry.
-/
import Derived.Test.YtcnfhnndppollaaGreatDoorRows
import Derived.LaidByTextLater
import Derived.SevenTiedAt
import Derived.LaidSub
import Derived.LaidOnce
namespace Go.Proofs.YtcnfhnndppollaaGreatDoor
open Go
set_option maxRecDepth 100000
theorem seatTie1 : Tryz.prog.laidByTextLater [("mortsafe/rule.lengths", Rows.laid_mortsafe_rule_lengths), ("mortsafe/right.forms", Rows.laid_mortsafe_right_forms)] [.data, .data] true :=
  Program.laidByTextLater_by_one 28 8 73 (by kernel_rfl) (by kernel_rfl) (by kernel_rfl) (by kernel_rfl) (by kernel_rfl) (by kernel_rfl) (fun _ _ => by kernel_rfl)
theorem noOwnUnsafe : Tryz.pinned.checked.prog.headLifts.contains "ownunsafe" = false := by kernel_rfl
theorem tie : Tryz.prog.laidByTextLater [("mortsafe/rule.lengths", Rows.laid_mortsafe_rule_lengths), ("mortsafe/right.forms", Rows.laid_mortsafe_right_forms)] [.data, .data] true :=
  Program.laidByTextLater.sub seatTie1 ["mortsafe/rule.lengths", "mortsafe/right.forms"] (by kernel_rfl) (by kernel_rfl)
theorem topTermsEnd_row_tie : Rows.topTermsEndRow.laidByTextAt .later Tryz.pinned [.data, .data] true :=
  OpenClaim.laidByTextAt_later rfl rfl tie noOwnUnsafe
theorem topTermsEndUpto_row_tie : Rows.topTermsEndUptoRow.laidByTextAt .later Tryz.pinned [.data, .data] true :=
  OpenClaim.laidByTextAt_later rfl rfl tie noOwnUnsafe
end Go.Proofs.YtcnfhnndppollaaGreatDoor
