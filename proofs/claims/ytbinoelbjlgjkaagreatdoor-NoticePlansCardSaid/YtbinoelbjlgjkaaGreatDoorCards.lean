/-
  DERIVED. GIVEN WITH THE SEED: THE CARDS: each row of YtbinoelbjlgjkaaGreatDoorRows.lean that lists a variable, with what it lists TIED to the program's text (the seventh form; the later family's looks); each row that meets fmt, with fmt's text TOLD by the authors' own Lean function (tested against real Go, not proved from fmt's source: count such statements apart). THE CARD IS WHAT COUNTS. Prove the row's statement (the work); the ties are given (YtbinoelbjlgjkaaGreatDoorTie.lean); close each card by the builder's one call (the guide's Derived/Test/ToyasCard.lean, 'card_holds'). Laid BY PROGRAM, IN A SANDBOX (cutbox-door.mjs). By AI agents, Wed Nov 11 2026. No macro, syntax, notation, axiom, sorry.
-/
import Derived.Test.YtbinoelbjlgjkaaGreatDoorRows
import GoSem.ClaimSeven
namespace Go.Proofs.YtbinoelbjlgjkaaGreatDoor
namespace Rows

/-- THE TIED CARD OF 'mortsafelaw02.RuleKnown'. -/
def ruleKnownCard : Claim7 := { stood := { row := ruleKnownRow, standIns := [], harness := (true, "fffedaa0c600e7a7b09e85b3eae93b488a2b6134c3fa435e6f661a00e2adc7ea"), looks := true }, kinds := [], alts := [], laidByText := true, laidKinds := [.data, .data, .data, .data], laidTests := true, laidLooks := .later }
def RuleKnownCardSaid : Prop := Claim7.holds Tryz.pinned (.plain (OpenSpec.ofChange ruleKnownSpec)) ruleKnownCard

/-- THE TIED CARD OF 'mortsafelaw02.RuleNames'. -/
def ruleNamesCard : Claim7 := { stood := { row := ruleNamesRow, standIns := [], harness := (true, "fffedaa0c600e7a7b09e85b3eae93b488a2b6134c3fa435e6f661a00e2adc7ea"), looks := true }, kinds := [], alts := [], laidByText := true, laidKinds := [.data, .data, .data, .data], laidTests := true, laidLooks := .later }
def RuleNamesCardSaid : Prop := Claim7.holds Tryz.pinned (.plain (OpenSpec.ofChange ruleNamesSpec)) ruleNamesCard

/-- THE TIED CARD OF 'mortsafelaw08.NoticeRounds'. -/
def noticeRoundsCard : Claim7 := { stood := { row := noticeRoundsRow, standIns := [], harness := (true, "fffedaa0c600e7a7b09e85b3eae93b488a2b6134c3fa435e6f661a00e2adc7ea"), looks := true }, kinds := [], alts := [], laidByText := true, laidKinds := [.data], laidTests := true, laidLooks := .later }
def NoticeRoundsCardSaid : Prop := Claim7.holds Tryz.pinned (.plain (OpenSpec.ofChange noticeRoundsSpec)) noticeRoundsCard

/-- THE TIED CARD OF 'mortsafelaw08.NoticeDues'. -/
def noticeDuesCard : Claim7 := { stood := { row := noticeDuesRow, standIns := [], harness := (true, "fffedaa0c600e7a7b09e85b3eae93b488a2b6134c3fa435e6f661a00e2adc7ea"), looks := true }, kinds := [], alts := [], laidByText := true, laidKinds := [.data], laidTests := true, laidLooks := .later }
def NoticeDuesCardSaid : Prop := Claim7.holds Tryz.pinned (.plain (OpenSpec.ofChange noticeDuesSpec)) noticeDuesCard

/-- THE TIED CARD OF 'mortsafelaw08.NoticePlans'. -/
def noticePlansCard : Claim7 := { stood := { row := noticePlansRow, standIns := [], harness := (true, "fffedaa0c600e7a7b09e85b3eae93b488a2b6134c3fa435e6f661a00e2adc7ea"), looks := true }, kinds := [], alts := [], laidByText := true, laidKinds := [.data], laidTests := true, laidLooks := .later }
def NoticePlansCardSaid : Prop := Claim7.holds Tryz.pinned (.plain (OpenSpec.ofChange noticePlansSpec)) noticePlansCard

/-- THE TIED CARD OF 'mortsafelaw08.NoticePlanChecks'. -/
def noticePlanChecksCard : Claim7 := { stood := { row := noticePlanChecksRow, standIns := [], harness := (true, "fffedaa0c600e7a7b09e85b3eae93b488a2b6134c3fa435e6f661a00e2adc7ea"), looks := true }, kinds := [], alts := [], laidByText := true, laidKinds := [.data], laidTests := true, laidLooks := .later }
def NoticePlanChecksCardSaid : Prop := Claim7.holds Tryz.pinned (.plain (OpenSpec.ofChange noticePlanChecksSpec)) noticePlanChecksCard

/-- THE TIED CARD OF 'mortsafelaw02.RuleFormats'. -/
def ruleFormatsCard : Claim7 := { stood := { row := ruleFormatsRow, standIns := [], harness := (true, "fffedaa0c600e7a7b09e85b3eae93b488a2b6134c3fa435e6f661a00e2adc7ea"), looks := true }, kinds := [], alts := [], laidByText := true, laidKinds := [.data, .data, .data, .data, .sentinel, .sentinel, .data, .pinned], laidTests := true, laidLooks := .later }
def RuleFormatsCardSaid : Prop := Claim7.holds Tryz.pinned (.plain (OpenSpec.ofChange ruleFormatsSpec)) ruleFormatsCard

/-- THE TIED CARD OF 'mortsafelaw02.RuleTexts'. -/
def ruleTextsCard : Claim7 := { stood := { row := ruleTextsRow, standIns := [], harness := (true, "fffedaa0c600e7a7b09e85b3eae93b488a2b6134c3fa435e6f661a00e2adc7ea"), looks := true }, kinds := [], alts := [], laidByText := true, laidKinds := [.data, .data, .data, .data, .sentinel, .sentinel, .data, .pinned], laidTests := true, laidLooks := .later }
def RuleTextsCardSaid : Prop := Claim7.holds Tryz.pinned (.plain (OpenSpec.ofChange ruleTextsSpec)) ruleTextsCard

/-- THE TIED CARD OF 'mortsafelaw08.NoticeTexts'. -/
def noticeTextsCard : Claim7 := { stood := { row := noticeTextsRow, standIns := [], harness := (true, "fffedaa0c600e7a7b09e85b3eae93b488a2b6134c3fa435e6f661a00e2adc7ea"), looks := true }, kinds := [], alts := [], laidByText := true, laidKinds := [.data, .data, .data, .data, .sentinel, .sentinel, .data, .pinned], laidTests := true, laidLooks := .later }
def NoticeTextsCardSaid : Prop := Claim7.holds Tryz.pinned (.plain (OpenSpec.ofChange noticeTextsSpec)) noticeTextsCard

/-- THE SECOND FORM's CARD OF 'mortsafelaw02.RuleKnown'. -/
def ruleKnownUptoCard : Claim7 := { stood := { row := ruleKnownUptoRow, standIns := [], harness := (true, "fffedaa0c600e7a7b09e85b3eae93b488a2b6134c3fa435e6f661a00e2adc7ea"), looks := true }, kinds := [], alts := [], laidByText := true, laidKinds := [.data, .data, .data, .data], laidTests := true, laidLooks := .later }
def RuleKnownUptoCardSaid : Prop := Claim7.holds Tryz.pinned (.plain (OpenSpec.upto ruleKnownSpec)) ruleKnownUptoCard

/-- THE SECOND FORM's CARD OF 'mortsafelaw02.RuleNames'. -/
def ruleNamesUptoCard : Claim7 := { stood := { row := ruleNamesUptoRow, standIns := [], harness := (true, "fffedaa0c600e7a7b09e85b3eae93b488a2b6134c3fa435e6f661a00e2adc7ea"), looks := true }, kinds := [], alts := [], laidByText := true, laidKinds := [.data, .data, .data, .data], laidTests := true, laidLooks := .later }
def RuleNamesUptoCardSaid : Prop := Claim7.holds Tryz.pinned (.plain (OpenSpec.upto ruleNamesSpec)) ruleNamesUptoCard

/-- THE SECOND FORM's CARD OF 'mortsafelaw08.NoticeRounds'. -/
def noticeRoundsUptoCard : Claim7 := { stood := { row := noticeRoundsUptoRow, standIns := [], harness := (true, "fffedaa0c600e7a7b09e85b3eae93b488a2b6134c3fa435e6f661a00e2adc7ea"), looks := true }, kinds := [], alts := [], laidByText := true, laidKinds := [.data], laidTests := true, laidLooks := .later }
def NoticeRoundsUptoCardSaid : Prop := Claim7.holds Tryz.pinned (.plain (OpenSpec.upto noticeRoundsSpec)) noticeRoundsUptoCard

/-- THE SECOND FORM's CARD OF 'mortsafelaw08.NoticeDues'. -/
def noticeDuesUptoCard : Claim7 := { stood := { row := noticeDuesUptoRow, standIns := [], harness := (true, "fffedaa0c600e7a7b09e85b3eae93b488a2b6134c3fa435e6f661a00e2adc7ea"), looks := true }, kinds := [], alts := [], laidByText := true, laidKinds := [.data], laidTests := true, laidLooks := .later }
def NoticeDuesUptoCardSaid : Prop := Claim7.holds Tryz.pinned (.plain (OpenSpec.upto noticeDuesSpec)) noticeDuesUptoCard

/-- THE SECOND FORM's CARD OF 'mortsafelaw08.NoticePlans'. -/
def noticePlansUptoCard : Claim7 := { stood := { row := noticePlansUptoRow, standIns := [], harness := (true, "fffedaa0c600e7a7b09e85b3eae93b488a2b6134c3fa435e6f661a00e2adc7ea"), looks := true }, kinds := [], alts := [], laidByText := true, laidKinds := [.data], laidTests := true, laidLooks := .later }
def NoticePlansUptoCardSaid : Prop := Claim7.holds Tryz.pinned (.plain (OpenSpec.upto noticePlansSpec)) noticePlansUptoCard

/-- THE SECOND FORM's CARD OF 'mortsafelaw08.NoticePlanChecks'. -/
def noticePlanChecksUptoCard : Claim7 := { stood := { row := noticePlanChecksUptoRow, standIns := [], harness := (true, "fffedaa0c600e7a7b09e85b3eae93b488a2b6134c3fa435e6f661a00e2adc7ea"), looks := true }, kinds := [], alts := [], laidByText := true, laidKinds := [.data], laidTests := true, laidLooks := .later }
def NoticePlanChecksUptoCardSaid : Prop := Claim7.holds Tryz.pinned (.plain (OpenSpec.upto noticePlanChecksSpec)) noticePlanChecksUptoCard

/-- THE SECOND FORM's CARD OF 'mortsafelaw02.RuleFormats'. -/
def ruleFormatsUptoCard : Claim7 := { stood := { row := ruleFormatsUptoRow, standIns := [], harness := (true, "fffedaa0c600e7a7b09e85b3eae93b488a2b6134c3fa435e6f661a00e2adc7ea"), looks := true }, kinds := [], alts := [], laidByText := true, laidKinds := [.data, .data, .data, .data, .sentinel, .sentinel, .data, .pinned], laidTests := true, laidLooks := .later }
def RuleFormatsUptoCardSaid : Prop := Claim7.holds Tryz.pinned (.plain (OpenSpec.upto ruleFormatsSpec)) ruleFormatsUptoCard

/-- THE SECOND FORM's CARD OF 'mortsafelaw02.RuleTexts'. -/
def ruleTextsUptoCard : Claim7 := { stood := { row := ruleTextsUptoRow, standIns := [], harness := (true, "fffedaa0c600e7a7b09e85b3eae93b488a2b6134c3fa435e6f661a00e2adc7ea"), looks := true }, kinds := [], alts := [], laidByText := true, laidKinds := [.data, .data, .data, .data, .sentinel, .sentinel, .data, .pinned], laidTests := true, laidLooks := .later }
def RuleTextsUptoCardSaid : Prop := Claim7.holds Tryz.pinned (.plain (OpenSpec.upto ruleTextsSpec)) ruleTextsUptoCard

/-- THE SECOND FORM's CARD OF 'mortsafelaw08.NoticeTexts'. -/
def noticeTextsUptoCard : Claim7 := { stood := { row := noticeTextsUptoRow, standIns := [], harness := (true, "fffedaa0c600e7a7b09e85b3eae93b488a2b6134c3fa435e6f661a00e2adc7ea"), looks := true }, kinds := [], alts := [], laidByText := true, laidKinds := [.data, .data, .data, .data, .sentinel, .sentinel, .data, .pinned], laidTests := true, laidLooks := .later }
def NoticeTextsUptoCardSaid : Prop := Claim7.holds Tryz.pinned (.plain (OpenSpec.upto noticeTextsSpec)) noticeTextsUptoCard
end Rows
end Go.Proofs.YtbinoelbjlgjkaaGreatDoor
