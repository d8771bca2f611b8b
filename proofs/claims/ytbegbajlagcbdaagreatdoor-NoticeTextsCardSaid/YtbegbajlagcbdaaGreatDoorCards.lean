/-
  DERIVED. GIVEN WITH THE SEED: THE CARDS: each row of YtbegbajlagcbdaaGreatDoorRows.lean that lists a variable, with what it lists TIED to the program's text (the seventh form; the later family's looks); each row that meets fmt, with fmt's text TOLD by the authors' own Lean function (tested against real Go, not proved from fmt's source: count such statements apart). THE CARD IS WHAT COUNTS. Prove the row's statement (the work); the ties are given (YtbegbajlagcbdaaGreatDoorTie.lean); close each card by the builder's one call (the guide's Derived/Test/ToyasCard.lean, 'card_holds'). Laid BY PROGRAM, IN A SANDBOX (cutbox-door.mjs). By AI agents, Wed Nov 11 2026. No macro, syntax, notation, axiom, sorry.
-/
import Derived.Test.YtbegbajlagcbdaaGreatDoorRows
import GoSem.ClaimSeven
namespace Go.Proofs.YtbegbajlagcbdaaGreatDoor
namespace Rows

/-- THE TIED CARD OF 'mortsafelaw08.NoticeRounds'. -/
def noticeRoundsCard : Claim7 := { stood := { row := noticeRoundsRow, standIns := [], harness := (true, "989df15b076e50db4094a001048cf1ba6b7f153bd1474ade8db0e10cd29daf4a"), looks := true }, kinds := [], alts := [], laidByText := true, laidKinds := [.data], laidTests := true, laidLooks := .later }
def NoticeRoundsCardSaid : Prop := Claim7.holds Tryz.pinned (.plain (OpenSpec.ofChange noticeRoundsSpec)) noticeRoundsCard

/-- THE TIED CARD OF 'mortsafelaw08.NoticeDues'. -/
def noticeDuesCard : Claim7 := { stood := { row := noticeDuesRow, standIns := [], harness := (true, "989df15b076e50db4094a001048cf1ba6b7f153bd1474ade8db0e10cd29daf4a"), looks := true }, kinds := [], alts := [], laidByText := true, laidKinds := [.data], laidTests := true, laidLooks := .later }
def NoticeDuesCardSaid : Prop := Claim7.holds Tryz.pinned (.plain (OpenSpec.ofChange noticeDuesSpec)) noticeDuesCard

/-- THE TIED CARD OF 'mortsafelaw08.NoticePlanChecks'. -/
def noticePlanChecksCard : Claim7 := { stood := { row := noticePlanChecksRow, standIns := [], harness := (true, "989df15b076e50db4094a001048cf1ba6b7f153bd1474ade8db0e10cd29daf4a"), looks := true }, kinds := [], alts := [], laidByText := true, laidKinds := [.data], laidTests := true, laidLooks := .later }
def NoticePlanChecksCardSaid : Prop := Claim7.holds Tryz.pinned (.plain (OpenSpec.ofChange noticePlanChecksSpec)) noticePlanChecksCard

/-- THE TIED CARD OF 'mortsafelaw02.RuleFormats'. -/
def ruleFormatsCard : Claim7 := { stood := { row := ruleFormatsRow, standIns := [], harness := (true, "989df15b076e50db4094a001048cf1ba6b7f153bd1474ade8db0e10cd29daf4a"), looks := true }, kinds := [], alts := [], laidByText := true, laidKinds := [.data, .data, .data, .data, .sentinel, .sentinel, .data, .pinned], laidTests := true, laidLooks := .later }
def RuleFormatsCardSaid : Prop := Claim7.holds Tryz.pinned (.plain (OpenSpec.ofChange ruleFormatsSpec)) ruleFormatsCard

/-- THE TIED CARD OF 'mortsafelaw02.RuleTexts'. -/
def ruleTextsCard : Claim7 := { stood := { row := ruleTextsRow, standIns := [], harness := (true, "989df15b076e50db4094a001048cf1ba6b7f153bd1474ade8db0e10cd29daf4a"), looks := true }, kinds := [], alts := [], laidByText := true, laidKinds := [.data, .data, .data, .data, .sentinel, .sentinel, .data, .pinned], laidTests := true, laidLooks := .later }
def RuleTextsCardSaid : Prop := Claim7.holds Tryz.pinned (.plain (OpenSpec.ofChange ruleTextsSpec)) ruleTextsCard

/-- THE TIED CARD OF 'mortsafelaw08.NoticeTexts'. -/
def noticeTextsCard : Claim7 := { stood := { row := noticeTextsRow, standIns := [], harness := (true, "989df15b076e50db4094a001048cf1ba6b7f153bd1474ade8db0e10cd29daf4a"), looks := true }, kinds := [], alts := [], laidByText := true, laidKinds := [.data, .data, .data, .data, .sentinel, .sentinel, .data, .pinned], laidTests := true, laidLooks := .later }
def NoticeTextsCardSaid : Prop := Claim7.holds Tryz.pinned (.plain (OpenSpec.ofChange noticeTextsSpec)) noticeTextsCard

/-- THE SECOND FORM's CARD OF 'mortsafelaw08.NoticeRounds'. -/
def noticeRoundsUptoCard : Claim7 := { stood := { row := noticeRoundsUptoRow, standIns := [], harness := (true, "989df15b076e50db4094a001048cf1ba6b7f153bd1474ade8db0e10cd29daf4a"), looks := true }, kinds := [], alts := [], laidByText := true, laidKinds := [.data], laidTests := true, laidLooks := .later }
def NoticeRoundsUptoCardSaid : Prop := Claim7.holds Tryz.pinned (.plain (OpenSpec.upto noticeRoundsSpec)) noticeRoundsUptoCard

/-- THE SECOND FORM's CARD OF 'mortsafelaw08.NoticeDues'. -/
def noticeDuesUptoCard : Claim7 := { stood := { row := noticeDuesUptoRow, standIns := [], harness := (true, "989df15b076e50db4094a001048cf1ba6b7f153bd1474ade8db0e10cd29daf4a"), looks := true }, kinds := [], alts := [], laidByText := true, laidKinds := [.data], laidTests := true, laidLooks := .later }
def NoticeDuesUptoCardSaid : Prop := Claim7.holds Tryz.pinned (.plain (OpenSpec.upto noticeDuesSpec)) noticeDuesUptoCard

/-- THE SECOND FORM's CARD OF 'mortsafelaw08.NoticePlanChecks'. -/
def noticePlanChecksUptoCard : Claim7 := { stood := { row := noticePlanChecksUptoRow, standIns := [], harness := (true, "989df15b076e50db4094a001048cf1ba6b7f153bd1474ade8db0e10cd29daf4a"), looks := true }, kinds := [], alts := [], laidByText := true, laidKinds := [.data], laidTests := true, laidLooks := .later }
def NoticePlanChecksUptoCardSaid : Prop := Claim7.holds Tryz.pinned (.plain (OpenSpec.upto noticePlanChecksSpec)) noticePlanChecksUptoCard

/-- THE SECOND FORM's CARD OF 'mortsafelaw02.RuleFormats'. -/
def ruleFormatsUptoCard : Claim7 := { stood := { row := ruleFormatsUptoRow, standIns := [], harness := (true, "989df15b076e50db4094a001048cf1ba6b7f153bd1474ade8db0e10cd29daf4a"), looks := true }, kinds := [], alts := [], laidByText := true, laidKinds := [.data, .data, .data, .data, .sentinel, .sentinel, .data, .pinned], laidTests := true, laidLooks := .later }
def RuleFormatsUptoCardSaid : Prop := Claim7.holds Tryz.pinned (.plain (OpenSpec.upto ruleFormatsSpec)) ruleFormatsUptoCard

/-- THE SECOND FORM's CARD OF 'mortsafelaw02.RuleTexts'. -/
def ruleTextsUptoCard : Claim7 := { stood := { row := ruleTextsUptoRow, standIns := [], harness := (true, "989df15b076e50db4094a001048cf1ba6b7f153bd1474ade8db0e10cd29daf4a"), looks := true }, kinds := [], alts := [], laidByText := true, laidKinds := [.data, .data, .data, .data, .sentinel, .sentinel, .data, .pinned], laidTests := true, laidLooks := .later }
def RuleTextsUptoCardSaid : Prop := Claim7.holds Tryz.pinned (.plain (OpenSpec.upto ruleTextsSpec)) ruleTextsUptoCard

/-- THE SECOND FORM's CARD OF 'mortsafelaw08.NoticeTexts'. -/
def noticeTextsUptoCard : Claim7 := { stood := { row := noticeTextsUptoRow, standIns := [], harness := (true, "989df15b076e50db4094a001048cf1ba6b7f153bd1474ade8db0e10cd29daf4a"), looks := true }, kinds := [], alts := [], laidByText := true, laidKinds := [.data, .data, .data, .data, .sentinel, .sentinel, .data, .pinned], laidTests := true, laidLooks := .later }
def NoticeTextsUptoCardSaid : Prop := Claim7.holds Tryz.pinned (.plain (OpenSpec.upto noticeTextsSpec)) noticeTextsUptoCard
end Rows
end Go.Proofs.YtbegbajlagcbdaaGreatDoor
