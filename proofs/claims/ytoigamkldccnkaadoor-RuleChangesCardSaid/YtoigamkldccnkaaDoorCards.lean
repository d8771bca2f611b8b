/-
  DERIVED. GIVEN WITH THE SEED: THE CARDS: each row of YtoigamkldccnkaaDoorRows.lean that lists a variable, with what it lists TIED to the program's text (the seventh form; the later family's looks); each row that meets fmt, with fmt's text TOLD by the authors' own Lean function (tested against real Go, not proved from fmt's source: count such statements apart). THE CARD IS WHAT COUNTS. Prove the row's statement (the work); the ties are given (YtoigamkldccnkaaDoorTie.lean); close each card by the builder's one call (the guide's Derived/Test/ToyasCard.lean, 'card_holds'). Laid BY PROGRAM, IN A SANDBOX (cutbox-door.mjs). By AI agents, Wed Nov 11 2026. No macro, syntax, notation, axiom, sorry.
-/
import Derived.Test.YtoigamkldccnkaaDoorRows
import GoSem.ClaimSeven
namespace Go.Proofs.YtoigamkldccnkaaDoor
namespace Rows

/-- THE TIED CARD OF 'mortsafelaw02.RuleSources'. -/
def ruleSourcesCard : Claim7 := { stood := { row := ruleSourcesRow, standIns := [], harness := (true, "817269ed6a61a3639ab7fc38f33c9375370143724f7dae4bb0586dc730ce30d1"), looks := false }, kinds := [], alts := [], laidByText := true, laidKinds := [.data], laidTests := true, laidLooks := .later }
def RuleSourcesCardSaid : Prop := Claim7.holds Tryd.pinned (.plain (OpenSpec.ofChange ruleSourcesSpec)) ruleSourcesCard

/-- THE TIED CARD OF 'mortsafelaw02.RuleHolidays'. -/
def ruleHolidaysCard : Claim7 := { stood := { row := ruleHolidaysRow, standIns := [], harness := (true, "817269ed6a61a3639ab7fc38f33c9375370143724f7dae4bb0586dc730ce30d1"), looks := false }, kinds := [], alts := [], laidByText := true, laidKinds := [.data], laidTests := true, laidLooks := .later }
def RuleHolidaysCardSaid : Prop := Claim7.holds Tryd.pinned (.plain (OpenSpec.ofChange ruleHolidaysSpec)) ruleHolidaysCard

/-- THE TIED CARD OF 'mortsafelaw02.RuleWorking'. -/
def ruleWorkingCard : Claim7 := { stood := { row := ruleWorkingRow, standIns := [], harness := (true, "817269ed6a61a3639ab7fc38f33c9375370143724f7dae4bb0586dc730ce30d1"), looks := false }, kinds := [], alts := [], laidByText := true, laidKinds := [.data], laidTests := true, laidLooks := .later }
def RuleWorkingCardSaid : Prop := Claim7.holds Tryd.pinned (.plain (OpenSpec.ofChange ruleWorkingSpec)) ruleWorkingCard

/-- THE TIED CARD OF 'mortsafelaw02.RuleEaster'. -/
def ruleEasterCard : Claim7 := { stood := { row := ruleEasterRow, standIns := [], harness := (true, "817269ed6a61a3639ab7fc38f33c9375370143724f7dae4bb0586dc730ce30d1"), looks := false }, kinds := [], alts := [], laidByText := true, laidKinds := [.data], laidTests := true, laidLooks := .later }
def RuleEasterCardSaid : Prop := Claim7.holds Tryd.pinned (.plain (OpenSpec.ofChange ruleEasterSpec)) ruleEasterCard

/-- THE TIED CARD OF 'mortsafelaw02.RuleBetween'. -/
def ruleBetweenCard : Claim7 := { stood := { row := ruleBetweenRow, standIns := [], harness := (true, "817269ed6a61a3639ab7fc38f33c9375370143724f7dae4bb0586dc730ce30d1"), looks := false }, kinds := [], alts := [], laidByText := true, laidKinds := [.data], laidTests := true, laidLooks := .later }
def RuleBetweenCardSaid : Prop := Claim7.holds Tryd.pinned (.plain (OpenSpec.ofChange ruleBetweenSpec)) ruleBetweenCard

/-- THE TIED CARD OF 'mortsafelaw02.RuleMonths'. -/
def ruleMonthsCard : Claim7 := { stood := { row := ruleMonthsRow, standIns := [], harness := (true, "817269ed6a61a3639ab7fc38f33c9375370143724f7dae4bb0586dc730ce30d1"), looks := false }, kinds := [], alts := [], laidByText := true, laidKinds := [.data], laidTests := true, laidLooks := .later }
def RuleMonthsCardSaid : Prop := Claim7.holds Tryd.pinned (.plain (OpenSpec.ofChange ruleMonthsSpec)) ruleMonthsCard

/-- THE TIED CARD OF 'mortsafelaw02.RuleDates'. -/
def ruleDatesCard : Claim7 := { stood := { row := ruleDatesRow, standIns := [], harness := (true, "817269ed6a61a3639ab7fc38f33c9375370143724f7dae4bb0586dc730ce30d1"), looks := false }, kinds := [], alts := [], laidByText := true, laidKinds := [.data], laidTests := true, laidLooks := .later }
def RuleDatesCardSaid : Prop := Claim7.holds Tryd.pinned (.plain (OpenSpec.ofChange ruleDatesSpec)) ruleDatesCard

/-- THE TIED CARD OF 'mortsafelaw02.RuleProvisions'. -/
def ruleProvisionsCard : Claim7 := { stood := { row := ruleProvisionsRow, standIns := [], harness := (true, "817269ed6a61a3639ab7fc38f33c9375370143724f7dae4bb0586dc730ce30d1"), looks := false }, kinds := [], alts := [], laidByText := true, laidKinds := [.data], laidTests := true, laidLooks := .later }
def RuleProvisionsCardSaid : Prop := Claim7.holds Tryd.pinned (.plain (OpenSpec.ofChange ruleProvisionsSpec)) ruleProvisionsCard

/-- THE TIED CARD OF 'mortsafelaw02.RuleChanges'. -/
def ruleChangesCard : Claim7 := { stood := { row := ruleChangesRow, standIns := [], harness := (true, "817269ed6a61a3639ab7fc38f33c9375370143724f7dae4bb0586dc730ce30d1"), looks := false }, kinds := [], alts := [], laidByText := true, laidKinds := [.data], laidTests := true, laidLooks := .later }
def RuleChangesCardSaid : Prop := Claim7.holds Tryd.pinned (.plain (OpenSpec.ofChange ruleChangesSpec)) ruleChangesCard

/-- THE TIED CARD OF 'mortsafelaw02.RuleAges'. -/
def ruleAgesCard : Claim7 := { stood := { row := ruleAgesRow, standIns := [], harness := (true, "817269ed6a61a3639ab7fc38f33c9375370143724f7dae4bb0586dc730ce30d1"), looks := false }, kinds := [], alts := [], laidByText := true, laidKinds := [.data], laidTests := true, laidLooks := .later }
def RuleAgesCardSaid : Prop := Claim7.holds Tryd.pinned (.plain (OpenSpec.ofChange ruleAgesSpec)) ruleAgesCard

/-- THE TIED CARD OF 'mortsafelaw02.RuleDeadlines'. -/
def ruleDeadlinesCard : Claim7 := { stood := { row := ruleDeadlinesRow, standIns := [], harness := (true, "817269ed6a61a3639ab7fc38f33c9375370143724f7dae4bb0586dc730ce30d1"), looks := false }, kinds := [], alts := [], laidByText := true, laidKinds := [.data], laidTests := true, laidLooks := .later }
def RuleDeadlinesCardSaid : Prop := Claim7.holds Tryd.pinned (.plain (OpenSpec.ofChange ruleDeadlinesSpec)) ruleDeadlinesCard

/-- THE TIED CARD OF 'mortsafelaw02.RuleSteps'. -/
def ruleStepsCard : Claim7 := { stood := { row := ruleStepsRow, standIns := [], harness := (true, "817269ed6a61a3639ab7fc38f33c9375370143724f7dae4bb0586dc730ce30d1"), looks := false }, kinds := [], alts := [], laidByText := true, laidKinds := [.data], laidTests := true, laidLooks := .later }
def RuleStepsCardSaid : Prop := Claim7.holds Tryd.pinned (.plain (OpenSpec.ofChange ruleStepsSpec)) ruleStepsCard

/-- THE SECOND FORM's CARD OF 'mortsafelaw02.RuleSources'. -/
def ruleSourcesUptoCard : Claim7 := { stood := { row := ruleSourcesUptoRow, standIns := [], harness := (true, "817269ed6a61a3639ab7fc38f33c9375370143724f7dae4bb0586dc730ce30d1"), looks := false }, kinds := [], alts := [], laidByText := true, laidKinds := [.data], laidTests := true, laidLooks := .later }
def RuleSourcesUptoCardSaid : Prop := Claim7.holds Tryd.pinned (.plain (OpenSpec.upto ruleSourcesSpec)) ruleSourcesUptoCard

/-- THE SECOND FORM's CARD OF 'mortsafelaw02.RuleHolidays'. -/
def ruleHolidaysUptoCard : Claim7 := { stood := { row := ruleHolidaysUptoRow, standIns := [], harness := (true, "817269ed6a61a3639ab7fc38f33c9375370143724f7dae4bb0586dc730ce30d1"), looks := false }, kinds := [], alts := [], laidByText := true, laidKinds := [.data], laidTests := true, laidLooks := .later }
def RuleHolidaysUptoCardSaid : Prop := Claim7.holds Tryd.pinned (.plain (OpenSpec.upto ruleHolidaysSpec)) ruleHolidaysUptoCard

/-- THE SECOND FORM's CARD OF 'mortsafelaw02.RuleWorking'. -/
def ruleWorkingUptoCard : Claim7 := { stood := { row := ruleWorkingUptoRow, standIns := [], harness := (true, "817269ed6a61a3639ab7fc38f33c9375370143724f7dae4bb0586dc730ce30d1"), looks := false }, kinds := [], alts := [], laidByText := true, laidKinds := [.data], laidTests := true, laidLooks := .later }
def RuleWorkingUptoCardSaid : Prop := Claim7.holds Tryd.pinned (.plain (OpenSpec.upto ruleWorkingSpec)) ruleWorkingUptoCard

/-- THE SECOND FORM's CARD OF 'mortsafelaw02.RuleEaster'. -/
def ruleEasterUptoCard : Claim7 := { stood := { row := ruleEasterUptoRow, standIns := [], harness := (true, "817269ed6a61a3639ab7fc38f33c9375370143724f7dae4bb0586dc730ce30d1"), looks := false }, kinds := [], alts := [], laidByText := true, laidKinds := [.data], laidTests := true, laidLooks := .later }
def RuleEasterUptoCardSaid : Prop := Claim7.holds Tryd.pinned (.plain (OpenSpec.upto ruleEasterSpec)) ruleEasterUptoCard

/-- THE SECOND FORM's CARD OF 'mortsafelaw02.RuleBetween'. -/
def ruleBetweenUptoCard : Claim7 := { stood := { row := ruleBetweenUptoRow, standIns := [], harness := (true, "817269ed6a61a3639ab7fc38f33c9375370143724f7dae4bb0586dc730ce30d1"), looks := false }, kinds := [], alts := [], laidByText := true, laidKinds := [.data], laidTests := true, laidLooks := .later }
def RuleBetweenUptoCardSaid : Prop := Claim7.holds Tryd.pinned (.plain (OpenSpec.upto ruleBetweenSpec)) ruleBetweenUptoCard

/-- THE SECOND FORM's CARD OF 'mortsafelaw02.RuleMonths'. -/
def ruleMonthsUptoCard : Claim7 := { stood := { row := ruleMonthsUptoRow, standIns := [], harness := (true, "817269ed6a61a3639ab7fc38f33c9375370143724f7dae4bb0586dc730ce30d1"), looks := false }, kinds := [], alts := [], laidByText := true, laidKinds := [.data], laidTests := true, laidLooks := .later }
def RuleMonthsUptoCardSaid : Prop := Claim7.holds Tryd.pinned (.plain (OpenSpec.upto ruleMonthsSpec)) ruleMonthsUptoCard

/-- THE SECOND FORM's CARD OF 'mortsafelaw02.RuleDates'. -/
def ruleDatesUptoCard : Claim7 := { stood := { row := ruleDatesUptoRow, standIns := [], harness := (true, "817269ed6a61a3639ab7fc38f33c9375370143724f7dae4bb0586dc730ce30d1"), looks := false }, kinds := [], alts := [], laidByText := true, laidKinds := [.data], laidTests := true, laidLooks := .later }
def RuleDatesUptoCardSaid : Prop := Claim7.holds Tryd.pinned (.plain (OpenSpec.upto ruleDatesSpec)) ruleDatesUptoCard

/-- THE SECOND FORM's CARD OF 'mortsafelaw02.RuleProvisions'. -/
def ruleProvisionsUptoCard : Claim7 := { stood := { row := ruleProvisionsUptoRow, standIns := [], harness := (true, "817269ed6a61a3639ab7fc38f33c9375370143724f7dae4bb0586dc730ce30d1"), looks := false }, kinds := [], alts := [], laidByText := true, laidKinds := [.data], laidTests := true, laidLooks := .later }
def RuleProvisionsUptoCardSaid : Prop := Claim7.holds Tryd.pinned (.plain (OpenSpec.upto ruleProvisionsSpec)) ruleProvisionsUptoCard

/-- THE SECOND FORM's CARD OF 'mortsafelaw02.RuleChanges'. -/
def ruleChangesUptoCard : Claim7 := { stood := { row := ruleChangesUptoRow, standIns := [], harness := (true, "817269ed6a61a3639ab7fc38f33c9375370143724f7dae4bb0586dc730ce30d1"), looks := false }, kinds := [], alts := [], laidByText := true, laidKinds := [.data], laidTests := true, laidLooks := .later }
def RuleChangesUptoCardSaid : Prop := Claim7.holds Tryd.pinned (.plain (OpenSpec.upto ruleChangesSpec)) ruleChangesUptoCard

/-- THE SECOND FORM's CARD OF 'mortsafelaw02.RuleAges'. -/
def ruleAgesUptoCard : Claim7 := { stood := { row := ruleAgesUptoRow, standIns := [], harness := (true, "817269ed6a61a3639ab7fc38f33c9375370143724f7dae4bb0586dc730ce30d1"), looks := false }, kinds := [], alts := [], laidByText := true, laidKinds := [.data], laidTests := true, laidLooks := .later }
def RuleAgesUptoCardSaid : Prop := Claim7.holds Tryd.pinned (.plain (OpenSpec.upto ruleAgesSpec)) ruleAgesUptoCard

/-- THE SECOND FORM's CARD OF 'mortsafelaw02.RuleDeadlines'. -/
def ruleDeadlinesUptoCard : Claim7 := { stood := { row := ruleDeadlinesUptoRow, standIns := [], harness := (true, "817269ed6a61a3639ab7fc38f33c9375370143724f7dae4bb0586dc730ce30d1"), looks := false }, kinds := [], alts := [], laidByText := true, laidKinds := [.data], laidTests := true, laidLooks := .later }
def RuleDeadlinesUptoCardSaid : Prop := Claim7.holds Tryd.pinned (.plain (OpenSpec.upto ruleDeadlinesSpec)) ruleDeadlinesUptoCard

/-- THE SECOND FORM's CARD OF 'mortsafelaw02.RuleSteps'. -/
def ruleStepsUptoCard : Claim7 := { stood := { row := ruleStepsUptoRow, standIns := [], harness := (true, "817269ed6a61a3639ab7fc38f33c9375370143724f7dae4bb0586dc730ce30d1"), looks := false }, kinds := [], alts := [], laidByText := true, laidKinds := [.data], laidTests := true, laidLooks := .later }
def RuleStepsUptoCardSaid : Prop := Claim7.holds Tryd.pinned (.plain (OpenSpec.upto ruleStepsSpec)) ruleStepsUptoCard
end Rows
end Go.Proofs.YtoigamkldccnkaaDoor
