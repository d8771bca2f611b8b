/-
  NARROWER THAN 'FOR EVERY INPUT', by the rows' own cells (each row's printed sentence says how): RuleSources: laid · RuleHolidays: laid · RuleWorking: laid · RuleEaster: laid · RuleBetween: laid · RuleMonths: laid · RuleDates: laid · RuleProvisions: laid · RuleChanges: laid · RuleAges: laid · RuleDeadlines: laid · RuleSteps: laid.
  DERIVED. THE GIVEN ROWS OF THIS SEAT. 12 by the template 'for every input the law returns true; each argument reads behind the call as it read before'; 0 by the template 'total and deterministic' (their statements: YtoigamkldccnkaaDoorTotals.lean).
  GIVEN WITH THE SEED: the statements are not yours to turn. If you find one false, say at which input.
  Laid BY PROGRAM, IN A SANDBOX (cutbox-rows.mjs): the forced cells as the released guide's own fill.sh prints them over the translation df4d0b905a29cf3e… (all of the seat's roots in one cut). By AI agents, Wed Nov 11 2026. No macro, syntax, notation, axiom, sorry.
-/
import Derived.Test.YtoigamkldccnkaaDoorChecked
import GoSem.Claim
import GoSem.ClaimJoined
import GoSem.ClaimMapViews
import Derived.JoinedTies
import Derived.KernelRfl
namespace Go.Proofs.YtoigamkldccnkaaDoor
/- THE CELL 'sum', in the pinned program and in every row, IS THE sha256 OF THE DUMP (.gsa) THAT YtoigamkldccnkaaDoorProg.lean LOADS. Nothing in Lean hashes anything: it is a label: what it is worth is what the hold of that sum in a sandbox is worth. -/
noncomputable def Tryd.pinned : Pinned := { name := "ytoigamkldccnkaadoor", sum := "df4d0b905a29cf3edb5bcee05cf2d399fba81500cb026a7fe1b804ba839ac567", checked := Tryd.checked }
namespace Rows
def none {H : Type} : Left H := { results := [], args := [] }

/- WHAT THE LISTED PACKAGE-LEVEL VARIABLES READ AS WHEN THE CALL BEGINS. Each datum BY PROGRAM (the guide's laid-datum.mjs) off the statement by which the dump's own 'gosem.cut.vars' lays the variable. In a bare row this is a premise. The card (YtoigamkldccnkaaDoorCards.lean) ties it to the program's text. -/
def laid_mortsafe_rule_lengths {H : Type} : DataW H := .agg [.lit (.int .i64 31), .lit (.int .i64 28), .lit (.int .i64 31), .lit (.int .i64 30), .lit (.int .i64 31), .lit (.int .i64 30), .lit (.int .i64 31), .lit (.int .i64 31), .lit (.int .i64 30), .lit (.int .i64 31), .lit (.int .i64 30), .lit (.int .i64 31)]

/-- 'mortsafelaw02.RuleSources': WHATEVER THE INPUT: true; the input reads as it did. -/
def ruleSourcesSpec : ChangeSpec := { name := "ruleSources", fn := fun _ => fun
  | [d1, d2, d3] => { results := [.lit (.bool true)], args := [d1, d2, d3] }
  | _ => none }
def ruleSourcesRow : OpenClaim := { program := "ytoigamkldccnkaadoor", sum := "df4d0b905a29cf3edb5bcee05cf2d399fba81500cb026a7fe1b804ba839ac567", func := "mortsafe/mortsafelaw02.RuleSources", spec := "ruleSources", unfollowed := true, recurses := true, named := ["mortsafe/rule.lengths"], apart := false, laid := [("mortsafe/rule.lengths", laid_mortsafe_rule_lengths)] }
def RuleSourcesSaid : Prop := ruleSourcesRow.holds Tryd.pinned (OpenSpec.ofChange ruleSourcesSpec)

/-- ITS FALSE NEIGHBOUR: 'it returns false'. Refute it at one input. -/
def ruleSourcesWrong : ChangeSpec := { name := "ruleSources", fn := fun _ => fun
  | [d1, d2, d3] => { results := [.lit (.bool false)], args := [d1, d2, d3] }
  | _ => none }
def RuleSourcesWrongFalsely : Prop := ruleSourcesRow.holds Tryd.pinned (OpenSpec.ofChange ruleSourcesWrong)

/-- 'mortsafelaw02.RuleHolidays': WHATEVER THE INPUT: true; the input reads as it did. -/
def ruleHolidaysSpec : ChangeSpec := { name := "ruleHolidays", fn := fun _ => fun
  | [d1, d2] => { results := [.lit (.bool true)], args := [d1, d2] }
  | _ => none }
def ruleHolidaysRow : OpenClaim := { program := "ytoigamkldccnkaadoor", sum := "df4d0b905a29cf3edb5bcee05cf2d399fba81500cb026a7fe1b804ba839ac567", func := "mortsafe/mortsafelaw02.RuleHolidays", spec := "ruleHolidays", unfollowed := true, recurses := true, named := ["mortsafe/rule.lengths"], apart := false, laid := [("mortsafe/rule.lengths", laid_mortsafe_rule_lengths)] }
def RuleHolidaysSaid : Prop := ruleHolidaysRow.holds Tryd.pinned (OpenSpec.ofChange ruleHolidaysSpec)

/-- ITS FALSE NEIGHBOUR: 'it returns false'. Refute it at one input. -/
def ruleHolidaysWrong : ChangeSpec := { name := "ruleHolidays", fn := fun _ => fun
  | [d1, d2] => { results := [.lit (.bool false)], args := [d1, d2] }
  | _ => none }
def RuleHolidaysWrongFalsely : Prop := ruleHolidaysRow.holds Tryd.pinned (OpenSpec.ofChange ruleHolidaysWrong)

/-- 'mortsafelaw02.RuleWorking': WHATEVER THE INPUT: true; the input reads as it did. -/
def ruleWorkingSpec : ChangeSpec := { name := "ruleWorking", fn := fun _ => fun
  | [d1, d2, d3] => { results := [.lit (.bool true)], args := [d1, d2, d3] }
  | _ => none }
def ruleWorkingRow : OpenClaim := { program := "ytoigamkldccnkaadoor", sum := "df4d0b905a29cf3edb5bcee05cf2d399fba81500cb026a7fe1b804ba839ac567", func := "mortsafe/mortsafelaw02.RuleWorking", spec := "ruleWorking", unfollowed := true, recurses := true, named := ["mortsafe/rule.lengths"], apart := false, laid := [("mortsafe/rule.lengths", laid_mortsafe_rule_lengths)] }
def RuleWorkingSaid : Prop := ruleWorkingRow.holds Tryd.pinned (OpenSpec.ofChange ruleWorkingSpec)

/-- ITS FALSE NEIGHBOUR: 'it returns false'. Refute it at one input. -/
def ruleWorkingWrong : ChangeSpec := { name := "ruleWorking", fn := fun _ => fun
  | [d1, d2, d3] => { results := [.lit (.bool false)], args := [d1, d2, d3] }
  | _ => none }
def RuleWorkingWrongFalsely : Prop := ruleWorkingRow.holds Tryd.pinned (OpenSpec.ofChange ruleWorkingWrong)

/-- 'mortsafelaw02.RuleEaster': WHATEVER THE INPUT: true; the input reads as it did. -/
def ruleEasterSpec : ChangeSpec := { name := "ruleEaster", fn := fun _ => fun
  | [d] => { results := [.lit (.bool true)], args := [d] }
  | _ => none }
def ruleEasterRow : OpenClaim := { program := "ytoigamkldccnkaadoor", sum := "df4d0b905a29cf3edb5bcee05cf2d399fba81500cb026a7fe1b804ba839ac567", func := "mortsafe/mortsafelaw02.RuleEaster", spec := "ruleEaster", unfollowed := true, recurses := true, named := ["mortsafe/rule.lengths"], apart := false, laid := [("mortsafe/rule.lengths", laid_mortsafe_rule_lengths)] }
def RuleEasterSaid : Prop := ruleEasterRow.holds Tryd.pinned (OpenSpec.ofChange ruleEasterSpec)

/-- ITS FALSE NEIGHBOUR: 'it returns false'. Refute it at one input. -/
def ruleEasterWrong : ChangeSpec := { name := "ruleEaster", fn := fun _ => fun
  | [d] => { results := [.lit (.bool false)], args := [d] }
  | _ => none }
def RuleEasterWrongFalsely : Prop := ruleEasterRow.holds Tryd.pinned (OpenSpec.ofChange ruleEasterWrong)

/-- 'mortsafelaw02.RuleBetween': WHATEVER THE INPUT: true; the input reads as it did. -/
def ruleBetweenSpec : ChangeSpec := { name := "ruleBetween", fn := fun _ => fun
  | [d1, d2, d3] => { results := [.lit (.bool true)], args := [d1, d2, d3] }
  | _ => none }
def ruleBetweenRow : OpenClaim := { program := "ytoigamkldccnkaadoor", sum := "df4d0b905a29cf3edb5bcee05cf2d399fba81500cb026a7fe1b804ba839ac567", func := "mortsafe/mortsafelaw02.RuleBetween", spec := "ruleBetween", unfollowed := true, recurses := true, named := ["mortsafe/rule.lengths"], apart := false, laid := [("mortsafe/rule.lengths", laid_mortsafe_rule_lengths)] }
def RuleBetweenSaid : Prop := ruleBetweenRow.holds Tryd.pinned (OpenSpec.ofChange ruleBetweenSpec)

/-- ITS FALSE NEIGHBOUR: 'it returns false'. Refute it at one input. -/
def ruleBetweenWrong : ChangeSpec := { name := "ruleBetween", fn := fun _ => fun
  | [d1, d2, d3] => { results := [.lit (.bool false)], args := [d1, d2, d3] }
  | _ => none }
def RuleBetweenWrongFalsely : Prop := ruleBetweenRow.holds Tryd.pinned (OpenSpec.ofChange ruleBetweenWrong)

/-- 'mortsafelaw02.RuleMonths': WHATEVER THE INPUT: true; the input reads as it did. -/
def ruleMonthsSpec : ChangeSpec := { name := "ruleMonths", fn := fun _ => fun
  | [d1, d2] => { results := [.lit (.bool true)], args := [d1, d2] }
  | _ => none }
def ruleMonthsRow : OpenClaim := { program := "ytoigamkldccnkaadoor", sum := "df4d0b905a29cf3edb5bcee05cf2d399fba81500cb026a7fe1b804ba839ac567", func := "mortsafe/mortsafelaw02.RuleMonths", spec := "ruleMonths", unfollowed := true, recurses := true, named := ["mortsafe/rule.lengths"], apart := false, laid := [("mortsafe/rule.lengths", laid_mortsafe_rule_lengths)] }
def RuleMonthsSaid : Prop := ruleMonthsRow.holds Tryd.pinned (OpenSpec.ofChange ruleMonthsSpec)

/-- ITS FALSE NEIGHBOUR: 'it returns false'. Refute it at one input. -/
def ruleMonthsWrong : ChangeSpec := { name := "ruleMonths", fn := fun _ => fun
  | [d1, d2] => { results := [.lit (.bool false)], args := [d1, d2] }
  | _ => none }
def RuleMonthsWrongFalsely : Prop := ruleMonthsRow.holds Tryd.pinned (OpenSpec.ofChange ruleMonthsWrong)

/-- 'mortsafelaw02.RuleDates': WHATEVER THE INPUT: true; the input reads as it did. -/
def ruleDatesSpec : ChangeSpec := { name := "ruleDates", fn := fun _ => fun
  | [d1, d2] => { results := [.lit (.bool true)], args := [d1, d2] }
  | _ => none }
def ruleDatesRow : OpenClaim := { program := "ytoigamkldccnkaadoor", sum := "df4d0b905a29cf3edb5bcee05cf2d399fba81500cb026a7fe1b804ba839ac567", func := "mortsafe/mortsafelaw02.RuleDates", spec := "ruleDates", unfollowed := true, recurses := true, named := ["mortsafe/rule.lengths"], apart := false, laid := [("mortsafe/rule.lengths", laid_mortsafe_rule_lengths)] }
def RuleDatesSaid : Prop := ruleDatesRow.holds Tryd.pinned (OpenSpec.ofChange ruleDatesSpec)

/-- ITS FALSE NEIGHBOUR: 'it returns false'. Refute it at one input. -/
def ruleDatesWrong : ChangeSpec := { name := "ruleDates", fn := fun _ => fun
  | [d1, d2] => { results := [.lit (.bool false)], args := [d1, d2] }
  | _ => none }
def RuleDatesWrongFalsely : Prop := ruleDatesRow.holds Tryd.pinned (OpenSpec.ofChange ruleDatesWrong)

/-- 'mortsafelaw02.RuleProvisions': WHATEVER THE INPUT: true; the input reads as it did. -/
def ruleProvisionsSpec : ChangeSpec := { name := "ruleProvisions", fn := fun _ => fun
  | [d1, d2] => { results := [.lit (.bool true)], args := [d1, d2] }
  | _ => none }
def ruleProvisionsRow : OpenClaim := { program := "ytoigamkldccnkaadoor", sum := "df4d0b905a29cf3edb5bcee05cf2d399fba81500cb026a7fe1b804ba839ac567", func := "mortsafe/mortsafelaw02.RuleProvisions", spec := "ruleProvisions", unfollowed := true, recurses := true, named := ["mortsafe/rule.lengths"], apart := false, laid := [("mortsafe/rule.lengths", laid_mortsafe_rule_lengths)] }
def RuleProvisionsSaid : Prop := ruleProvisionsRow.holds Tryd.pinned (OpenSpec.ofChange ruleProvisionsSpec)

/-- ITS FALSE NEIGHBOUR: 'it returns false'. Refute it at one input. -/
def ruleProvisionsWrong : ChangeSpec := { name := "ruleProvisions", fn := fun _ => fun
  | [d1, d2] => { results := [.lit (.bool false)], args := [d1, d2] }
  | _ => none }
def RuleProvisionsWrongFalsely : Prop := ruleProvisionsRow.holds Tryd.pinned (OpenSpec.ofChange ruleProvisionsWrong)

/-- 'mortsafelaw02.RuleChanges': WHATEVER THE INPUT: true; the input reads as it did. -/
def ruleChangesSpec : ChangeSpec := { name := "ruleChanges", fn := fun _ => fun
  | [d1, d2, d3] => { results := [.lit (.bool true)], args := [d1, d2, d3] }
  | _ => none }
def ruleChangesRow : OpenClaim := { program := "ytoigamkldccnkaadoor", sum := "df4d0b905a29cf3edb5bcee05cf2d399fba81500cb026a7fe1b804ba839ac567", func := "mortsafe/mortsafelaw02.RuleChanges", spec := "ruleChanges", unfollowed := true, recurses := true, named := ["mortsafe/rule.lengths"], apart := false, laid := [("mortsafe/rule.lengths", laid_mortsafe_rule_lengths)] }
def RuleChangesSaid : Prop := ruleChangesRow.holds Tryd.pinned (OpenSpec.ofChange ruleChangesSpec)

/-- ITS FALSE NEIGHBOUR: 'it returns false'. Refute it at one input. -/
def ruleChangesWrong : ChangeSpec := { name := "ruleChanges", fn := fun _ => fun
  | [d1, d2, d3] => { results := [.lit (.bool false)], args := [d1, d2, d3] }
  | _ => none }
def RuleChangesWrongFalsely : Prop := ruleChangesRow.holds Tryd.pinned (OpenSpec.ofChange ruleChangesWrong)

/-- 'mortsafelaw02.RuleAges': WHATEVER THE INPUT: true; the input reads as it did. -/
def ruleAgesSpec : ChangeSpec := { name := "ruleAges", fn := fun _ => fun
  | [d1, d2] => { results := [.lit (.bool true)], args := [d1, d2] }
  | _ => none }
def ruleAgesRow : OpenClaim := { program := "ytoigamkldccnkaadoor", sum := "df4d0b905a29cf3edb5bcee05cf2d399fba81500cb026a7fe1b804ba839ac567", func := "mortsafe/mortsafelaw02.RuleAges", spec := "ruleAges", unfollowed := true, recurses := true, named := ["mortsafe/rule.lengths"], apart := false, laid := [("mortsafe/rule.lengths", laid_mortsafe_rule_lengths)] }
def RuleAgesSaid : Prop := ruleAgesRow.holds Tryd.pinned (OpenSpec.ofChange ruleAgesSpec)

/-- ITS FALSE NEIGHBOUR: 'it returns false'. Refute it at one input. -/
def ruleAgesWrong : ChangeSpec := { name := "ruleAges", fn := fun _ => fun
  | [d1, d2] => { results := [.lit (.bool false)], args := [d1, d2] }
  | _ => none }
def RuleAgesWrongFalsely : Prop := ruleAgesRow.holds Tryd.pinned (OpenSpec.ofChange ruleAgesWrong)

/-- 'mortsafelaw02.RuleDeadlines': WHATEVER THE INPUT: true; the input reads as it did. -/
def ruleDeadlinesSpec : ChangeSpec := { name := "ruleDeadlines", fn := fun _ => fun
  | [d1, d2, d3] => { results := [.lit (.bool true)], args := [d1, d2, d3] }
  | _ => none }
def ruleDeadlinesRow : OpenClaim := { program := "ytoigamkldccnkaadoor", sum := "df4d0b905a29cf3edb5bcee05cf2d399fba81500cb026a7fe1b804ba839ac567", func := "mortsafe/mortsafelaw02.RuleDeadlines", spec := "ruleDeadlines", unfollowed := true, recurses := true, named := ["mortsafe/rule.lengths"], apart := false, laid := [("mortsafe/rule.lengths", laid_mortsafe_rule_lengths)] }
def RuleDeadlinesSaid : Prop := ruleDeadlinesRow.holds Tryd.pinned (OpenSpec.ofChange ruleDeadlinesSpec)

/-- ITS FALSE NEIGHBOUR: 'it returns false'. Refute it at one input. -/
def ruleDeadlinesWrong : ChangeSpec := { name := "ruleDeadlines", fn := fun _ => fun
  | [d1, d2, d3] => { results := [.lit (.bool false)], args := [d1, d2, d3] }
  | _ => none }
def RuleDeadlinesWrongFalsely : Prop := ruleDeadlinesRow.holds Tryd.pinned (OpenSpec.ofChange ruleDeadlinesWrong)

/-- 'mortsafelaw02.RuleSteps': WHATEVER THE INPUT: true; the input reads as it did. -/
def ruleStepsSpec : ChangeSpec := { name := "ruleSteps", fn := fun _ => fun
  | [d1, d2, d3] => { results := [.lit (.bool true)], args := [d1, d2, d3] }
  | _ => none }
def ruleStepsRow : OpenClaim := { program := "ytoigamkldccnkaadoor", sum := "df4d0b905a29cf3edb5bcee05cf2d399fba81500cb026a7fe1b804ba839ac567", func := "mortsafe/mortsafelaw02.RuleSteps", spec := "ruleSteps", unfollowed := true, recurses := true, named := ["mortsafe/rule.lengths"], apart := false, laid := [("mortsafe/rule.lengths", laid_mortsafe_rule_lengths)] }
def RuleStepsSaid : Prop := ruleStepsRow.holds Tryd.pinned (OpenSpec.ofChange ruleStepsSpec)

/-- ITS FALSE NEIGHBOUR: 'it returns false'. Refute it at one input. -/
def ruleStepsWrong : ChangeSpec := { name := "ruleSteps", fn := fun _ => fun
  | [d1, d2, d3] => { results := [.lit (.bool false)], args := [d1, d2, d3] }
  | _ => none }
def RuleStepsWrongFalsely : Prop := ruleStepsRow.holds Tryd.pinned (OpenSpec.ofChange ruleStepsWrong)

/- THE SECOND FORM. 'bulk': how many values and letters a reading holds, each counted each time it is reached (what is shared counts as often as it is met; a slice's spare places count too). A statement '..UptoSaid' is the law's where the arguments, and the package variables that the reading takes, are together of bulk at most 1048576: NARROWER than '..Said'. Prove '..Said' where nothing that the law and all that it calls make is longer than what came in: it says more and counts as full. Else prove '..UptoSaid'. A law counts once. -/
mutual
def uptoBulk {H : Type} : DataW H → Nat
  | .lit (.string bytes) => bytes.length + 1
  | .lit _ => 1
  | .nil => 1
  | .ptr d => uptoBulk d + 1
  | .slice elems spare => uptoBulkAll elems + uptoBulkAll spare + 1
  | .agg parts => uptoBulkAll parts + 1
  | .iface _ d => uptoBulk d + 1
  | .map entries => uptoBulkEntries entries + 1
  | .held _ => 1
def uptoBulkAll {H : Type} : List (DataW H) → Nat
  | [] => 0
  | d :: r => uptoBulk d + uptoBulkAll r
def uptoBulkEntries {H : Type} : List (Lit × DataW H) → Nat
  | [] => 0
  | x :: r => uptoBulkEntry x + uptoBulkEntries r
def uptoBulkEntry {H : Type} : Lit × DataW H → Nat
  | (.string bytes, d) => bytes.length + uptoBulk d + 1
  | (_, d) => uptoBulk d + 1
 end
def uptoSmall : (H : Type) → List (DataW H) → Bool := fun _ ds => decide (uptoBulkAll ds ≤ 1048576)
def OpenSpec.upto (s : _root_.Go.ChangeSpec) : _root_.Go.OpenSpec := { _root_.Go.OpenSpec.ofChange s with cond := some uptoSmall }

/-- 'mortsafelaw02.RuleSources', WHERE WHAT IT READS IS OF BULK AT MOST 1048576: true; the input reads as it did. -/
def ruleSourcesUptoRow : OpenClaim := { program := "ytoigamkldccnkaadoor", sum := "df4d0b905a29cf3edb5bcee05cf2d399fba81500cb026a7fe1b804ba839ac567", func := "mortsafe/mortsafelaw02.RuleSources", spec := "ruleSources", unfollowed := true, recurses := true, named := ["mortsafe/rule.lengths"], apart := false, laid := [("mortsafe/rule.lengths", laid_mortsafe_rule_lengths)], narrowed := true }
def RuleSourcesUptoSaid : Prop := ruleSourcesUptoRow.holds Tryd.pinned (OpenSpec.upto ruleSourcesSpec)

/-- 'mortsafelaw02.RuleHolidays', WHERE WHAT IT READS IS OF BULK AT MOST 1048576: true; the input reads as it did. -/
def ruleHolidaysUptoRow : OpenClaim := { program := "ytoigamkldccnkaadoor", sum := "df4d0b905a29cf3edb5bcee05cf2d399fba81500cb026a7fe1b804ba839ac567", func := "mortsafe/mortsafelaw02.RuleHolidays", spec := "ruleHolidays", unfollowed := true, recurses := true, named := ["mortsafe/rule.lengths"], apart := false, laid := [("mortsafe/rule.lengths", laid_mortsafe_rule_lengths)], narrowed := true }
def RuleHolidaysUptoSaid : Prop := ruleHolidaysUptoRow.holds Tryd.pinned (OpenSpec.upto ruleHolidaysSpec)

/-- 'mortsafelaw02.RuleWorking', WHERE WHAT IT READS IS OF BULK AT MOST 1048576: true; the input reads as it did. -/
def ruleWorkingUptoRow : OpenClaim := { program := "ytoigamkldccnkaadoor", sum := "df4d0b905a29cf3edb5bcee05cf2d399fba81500cb026a7fe1b804ba839ac567", func := "mortsafe/mortsafelaw02.RuleWorking", spec := "ruleWorking", unfollowed := true, recurses := true, named := ["mortsafe/rule.lengths"], apart := false, laid := [("mortsafe/rule.lengths", laid_mortsafe_rule_lengths)], narrowed := true }
def RuleWorkingUptoSaid : Prop := ruleWorkingUptoRow.holds Tryd.pinned (OpenSpec.upto ruleWorkingSpec)

/-- 'mortsafelaw02.RuleEaster', WHERE WHAT IT READS IS OF BULK AT MOST 1048576: true; the input reads as it did. -/
def ruleEasterUptoRow : OpenClaim := { program := "ytoigamkldccnkaadoor", sum := "df4d0b905a29cf3edb5bcee05cf2d399fba81500cb026a7fe1b804ba839ac567", func := "mortsafe/mortsafelaw02.RuleEaster", spec := "ruleEaster", unfollowed := true, recurses := true, named := ["mortsafe/rule.lengths"], apart := false, laid := [("mortsafe/rule.lengths", laid_mortsafe_rule_lengths)], narrowed := true }
def RuleEasterUptoSaid : Prop := ruleEasterUptoRow.holds Tryd.pinned (OpenSpec.upto ruleEasterSpec)

/-- 'mortsafelaw02.RuleBetween', WHERE WHAT IT READS IS OF BULK AT MOST 1048576: true; the input reads as it did. -/
def ruleBetweenUptoRow : OpenClaim := { program := "ytoigamkldccnkaadoor", sum := "df4d0b905a29cf3edb5bcee05cf2d399fba81500cb026a7fe1b804ba839ac567", func := "mortsafe/mortsafelaw02.RuleBetween", spec := "ruleBetween", unfollowed := true, recurses := true, named := ["mortsafe/rule.lengths"], apart := false, laid := [("mortsafe/rule.lengths", laid_mortsafe_rule_lengths)], narrowed := true }
def RuleBetweenUptoSaid : Prop := ruleBetweenUptoRow.holds Tryd.pinned (OpenSpec.upto ruleBetweenSpec)

/-- 'mortsafelaw02.RuleMonths', WHERE WHAT IT READS IS OF BULK AT MOST 1048576: true; the input reads as it did. -/
def ruleMonthsUptoRow : OpenClaim := { program := "ytoigamkldccnkaadoor", sum := "df4d0b905a29cf3edb5bcee05cf2d399fba81500cb026a7fe1b804ba839ac567", func := "mortsafe/mortsafelaw02.RuleMonths", spec := "ruleMonths", unfollowed := true, recurses := true, named := ["mortsafe/rule.lengths"], apart := false, laid := [("mortsafe/rule.lengths", laid_mortsafe_rule_lengths)], narrowed := true }
def RuleMonthsUptoSaid : Prop := ruleMonthsUptoRow.holds Tryd.pinned (OpenSpec.upto ruleMonthsSpec)

/-- 'mortsafelaw02.RuleDates', WHERE WHAT IT READS IS OF BULK AT MOST 1048576: true; the input reads as it did. -/
def ruleDatesUptoRow : OpenClaim := { program := "ytoigamkldccnkaadoor", sum := "df4d0b905a29cf3edb5bcee05cf2d399fba81500cb026a7fe1b804ba839ac567", func := "mortsafe/mortsafelaw02.RuleDates", spec := "ruleDates", unfollowed := true, recurses := true, named := ["mortsafe/rule.lengths"], apart := false, laid := [("mortsafe/rule.lengths", laid_mortsafe_rule_lengths)], narrowed := true }
def RuleDatesUptoSaid : Prop := ruleDatesUptoRow.holds Tryd.pinned (OpenSpec.upto ruleDatesSpec)

/-- 'mortsafelaw02.RuleProvisions', WHERE WHAT IT READS IS OF BULK AT MOST 1048576: true; the input reads as it did. -/
def ruleProvisionsUptoRow : OpenClaim := { program := "ytoigamkldccnkaadoor", sum := "df4d0b905a29cf3edb5bcee05cf2d399fba81500cb026a7fe1b804ba839ac567", func := "mortsafe/mortsafelaw02.RuleProvisions", spec := "ruleProvisions", unfollowed := true, recurses := true, named := ["mortsafe/rule.lengths"], apart := false, laid := [("mortsafe/rule.lengths", laid_mortsafe_rule_lengths)], narrowed := true }
def RuleProvisionsUptoSaid : Prop := ruleProvisionsUptoRow.holds Tryd.pinned (OpenSpec.upto ruleProvisionsSpec)

/-- 'mortsafelaw02.RuleChanges', WHERE WHAT IT READS IS OF BULK AT MOST 1048576: true; the input reads as it did. -/
def ruleChangesUptoRow : OpenClaim := { program := "ytoigamkldccnkaadoor", sum := "df4d0b905a29cf3edb5bcee05cf2d399fba81500cb026a7fe1b804ba839ac567", func := "mortsafe/mortsafelaw02.RuleChanges", spec := "ruleChanges", unfollowed := true, recurses := true, named := ["mortsafe/rule.lengths"], apart := false, laid := [("mortsafe/rule.lengths", laid_mortsafe_rule_lengths)], narrowed := true }
def RuleChangesUptoSaid : Prop := ruleChangesUptoRow.holds Tryd.pinned (OpenSpec.upto ruleChangesSpec)

/-- 'mortsafelaw02.RuleAges', WHERE WHAT IT READS IS OF BULK AT MOST 1048576: true; the input reads as it did. -/
def ruleAgesUptoRow : OpenClaim := { program := "ytoigamkldccnkaadoor", sum := "df4d0b905a29cf3edb5bcee05cf2d399fba81500cb026a7fe1b804ba839ac567", func := "mortsafe/mortsafelaw02.RuleAges", spec := "ruleAges", unfollowed := true, recurses := true, named := ["mortsafe/rule.lengths"], apart := false, laid := [("mortsafe/rule.lengths", laid_mortsafe_rule_lengths)], narrowed := true }
def RuleAgesUptoSaid : Prop := ruleAgesUptoRow.holds Tryd.pinned (OpenSpec.upto ruleAgesSpec)

/-- 'mortsafelaw02.RuleDeadlines', WHERE WHAT IT READS IS OF BULK AT MOST 1048576: true; the input reads as it did. -/
def ruleDeadlinesUptoRow : OpenClaim := { program := "ytoigamkldccnkaadoor", sum := "df4d0b905a29cf3edb5bcee05cf2d399fba81500cb026a7fe1b804ba839ac567", func := "mortsafe/mortsafelaw02.RuleDeadlines", spec := "ruleDeadlines", unfollowed := true, recurses := true, named := ["mortsafe/rule.lengths"], apart := false, laid := [("mortsafe/rule.lengths", laid_mortsafe_rule_lengths)], narrowed := true }
def RuleDeadlinesUptoSaid : Prop := ruleDeadlinesUptoRow.holds Tryd.pinned (OpenSpec.upto ruleDeadlinesSpec)

/-- 'mortsafelaw02.RuleSteps', WHERE WHAT IT READS IS OF BULK AT MOST 1048576: true; the input reads as it did. -/
def ruleStepsUptoRow : OpenClaim := { program := "ytoigamkldccnkaadoor", sum := "df4d0b905a29cf3edb5bcee05cf2d399fba81500cb026a7fe1b804ba839ac567", func := "mortsafe/mortsafelaw02.RuleSteps", spec := "ruleSteps", unfollowed := true, recurses := true, named := ["mortsafe/rule.lengths"], apart := false, laid := [("mortsafe/rule.lengths", laid_mortsafe_rule_lengths)], narrowed := true }
def RuleStepsUptoSaid : Prop := ruleStepsUptoRow.holds Tryd.pinned (OpenSpec.upto ruleStepsSpec)

end Rows
end Go.Proofs.YtoigamkldccnkaaDoor
