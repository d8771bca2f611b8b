/-
  DERIVED. GIVEN WITH THE SEED: THE CARDS: each row of YtconnjkkgaapbaaGreatDoorRows.lean that lists a variable, with what it lists TIED to the program's text (the seventh form; the later family's looks); each row that meets fmt, with fmt's text TOLD by the authors' own Lean function (tested against real Go, not proved from fmt's source: count such statements apart). THE CARD IS WHAT COUNTS. Prove the row's statement (the work); the ties are given (YtconnjkkgaapbaaGreatDoorTie.lean); close each card by the builder's one call (the guide's Derived/Test/ToyasCard.lean, 'card_holds'). Laid BY PROGRAM, IN A SANDBOX (cutbox-door.mjs). By AI agents, Wed Nov 11 2026. No macro, syntax, notation, axiom, sorry.
-/
import Derived.Test.YtconnjkkgaapbaaGreatDoorRows
import GoSem.ClaimSeven
namespace Go.Proofs.YtconnjkkgaapbaaGreatDoor
namespace Rows

/-- THE TIED CARD OF 'mortsafelaw08.NoticeProcedures'. -/
def noticeProceduresCard : Claim7 := { stood := { row := noticeProceduresRow, standIns := [], harness := (true, "9f10c2b7423f1a7c12a3c00629c70250ac116577be5cb99d3f9b915b8808e2b5"), looks := false }, kinds := [], alts := [], laidByText := true, laidKinds := [.data], laidTests := true, laidLooks := .later }
def NoticeProceduresCardSaid : Prop := Claim7.holds Tryz.pinned (.plain (OpenSpec.ofChange noticeProceduresSpec)) noticeProceduresCard

/-- THE TIED CARD OF 'mortsafelaw08.NoticeExpires'. -/
def noticeExpiresCard : Claim7 := { stood := { row := noticeExpiresRow, standIns := [], harness := (true, "9f10c2b7423f1a7c12a3c00629c70250ac116577be5cb99d3f9b915b8808e2b5"), looks := false }, kinds := [], alts := [], laidByText := true, laidKinds := [.data], laidTests := true, laidLooks := .later }
def NoticeExpiresCardSaid : Prop := Claim7.holds Tryz.pinned (.plain (OpenSpec.ofChange noticeExpiresSpec)) noticeExpiresCard

/-- THE TIED CARD OF 'mortsafelaw08.NoticeReuses'. -/
def noticeReusesCard : Claim7 := { stood := { row := noticeReusesRow, standIns := [], harness := (true, "9f10c2b7423f1a7c12a3c00629c70250ac116577be5cb99d3f9b915b8808e2b5"), looks := false }, kinds := [], alts := [], laidByText := true, laidKinds := [.data], laidTests := true, laidLooks := .later }
def NoticeReusesCardSaid : Prop := Claim7.holds Tryz.pinned (.plain (OpenSpec.ofChange noticeReusesSpec)) noticeReusesCard

/-- THE TIED CARD OF 'mortsafelaw08.NoticePhases'. -/
def noticePhasesCard : Claim7 := { stood := { row := noticePhasesRow, standIns := [], harness := (true, "9f10c2b7423f1a7c12a3c00629c70250ac116577be5cb99d3f9b915b8808e2b5"), looks := false }, kinds := [], alts := [], laidByText := true, laidKinds := [.data], laidTests := true, laidLooks := .later }
def NoticePhasesCardSaid : Prop := Claim7.holds Tryz.pinned (.plain (OpenSpec.ofChange noticePhasesSpec)) noticePhasesCard

/-- THE TIED CARD OF 'mortsafelaw08.NoticeMays'. -/
def noticeMaysCard : Claim7 := { stood := { row := noticeMaysRow, standIns := [], harness := (true, "9f10c2b7423f1a7c12a3c00629c70250ac116577be5cb99d3f9b915b8808e2b5"), looks := false }, kinds := [], alts := [], laidByText := true, laidKinds := [.data], laidTests := true, laidLooks := .later }
def NoticeMaysCardSaid : Prop := Claim7.holds Tryz.pinned (.plain (OpenSpec.ofChange noticeMaysSpec)) noticeMaysCard

/-- THE TIED CARD OF 'mortsafelaw08.NoticeAdds'. -/
def noticeAddsCard : Claim7 := { stood := { row := noticeAddsRow, standIns := [], harness := (true, "9f10c2b7423f1a7c12a3c00629c70250ac116577be5cb99d3f9b915b8808e2b5"), looks := false }, kinds := [], alts := [], laidByText := true, laidKinds := [.data], laidTests := true, laidLooks := .later }
def NoticeAddsCardSaid : Prop := Claim7.holds Tryz.pinned (.plain (OpenSpec.ofChange noticeAddsSpec)) noticeAddsCard

/-- THE TIED CARD OF 'mortsafelaw08.NoticeLater'. -/
def noticeLaterCard : Claim7 := { stood := { row := noticeLaterRow, standIns := [], harness := (true, "9f10c2b7423f1a7c12a3c00629c70250ac116577be5cb99d3f9b915b8808e2b5"), looks := false }, kinds := [], alts := [], laidByText := true, laidKinds := [.data], laidTests := true, laidLooks := .later }
def NoticeLaterCardSaid : Prop := Claim7.holds Tryz.pinned (.plain (OpenSpec.ofChange noticeLaterSpec)) noticeLaterCard

/-- THE TIED CARD OF 'mortsafelaw08.NoticeMoves'. -/
def noticeMovesCard : Claim7 := { stood := { row := noticeMovesRow, standIns := [], harness := (true, "9f10c2b7423f1a7c12a3c00629c70250ac116577be5cb99d3f9b915b8808e2b5"), looks := false }, kinds := [], alts := [], laidByText := true, laidKinds := [.data], laidTests := true, laidLooks := .later }
def NoticeMovesCardSaid : Prop := Claim7.holds Tryz.pinned (.plain (OpenSpec.ofChange noticeMovesSpec)) noticeMovesCard

/-- THE TIED CARD OF 'mortsafelaw08.NoticeOver'. -/
def noticeOverCard : Claim7 := { stood := { row := noticeOverRow, standIns := [], harness := (true, "9f10c2b7423f1a7c12a3c00629c70250ac116577be5cb99d3f9b915b8808e2b5"), looks := false }, kinds := [], alts := [], laidByText := true, laidKinds := [.data], laidTests := true, laidLooks := .later }
def NoticeOverCardSaid : Prop := Claim7.holds Tryz.pinned (.plain (OpenSpec.ofChange noticeOverSpec)) noticeOverCard

/-- THE TIED CARD OF 'mortsafelaw08.NoticeMonuments'. -/
def noticeMonumentsCard : Claim7 := { stood := { row := noticeMonumentsRow, standIns := [], harness := (true, "9f10c2b7423f1a7c12a3c00629c70250ac116577be5cb99d3f9b915b8808e2b5"), looks := false }, kinds := [], alts := [], laidByText := true, laidKinds := [.data], laidTests := true, laidLooks := .later }
def NoticeMonumentsCardSaid : Prop := Claim7.holds Tryz.pinned (.plain (OpenSpec.ofChange noticeMonumentsSpec)) noticeMonumentsCard

/-- THE SECOND FORM's CARD OF 'mortsafelaw08.NoticeProcedures'. -/
def noticeProceduresUptoCard : Claim7 := { stood := { row := noticeProceduresUptoRow, standIns := [], harness := (true, "9f10c2b7423f1a7c12a3c00629c70250ac116577be5cb99d3f9b915b8808e2b5"), looks := false }, kinds := [], alts := [], laidByText := true, laidKinds := [.data], laidTests := true, laidLooks := .later }
def NoticeProceduresUptoCardSaid : Prop := Claim7.holds Tryz.pinned (.plain (OpenSpec.upto noticeProceduresSpec)) noticeProceduresUptoCard

/-- THE SECOND FORM's CARD OF 'mortsafelaw08.NoticeExpires'. -/
def noticeExpiresUptoCard : Claim7 := { stood := { row := noticeExpiresUptoRow, standIns := [], harness := (true, "9f10c2b7423f1a7c12a3c00629c70250ac116577be5cb99d3f9b915b8808e2b5"), looks := false }, kinds := [], alts := [], laidByText := true, laidKinds := [.data], laidTests := true, laidLooks := .later }
def NoticeExpiresUptoCardSaid : Prop := Claim7.holds Tryz.pinned (.plain (OpenSpec.upto noticeExpiresSpec)) noticeExpiresUptoCard

/-- THE SECOND FORM's CARD OF 'mortsafelaw08.NoticeReuses'. -/
def noticeReusesUptoCard : Claim7 := { stood := { row := noticeReusesUptoRow, standIns := [], harness := (true, "9f10c2b7423f1a7c12a3c00629c70250ac116577be5cb99d3f9b915b8808e2b5"), looks := false }, kinds := [], alts := [], laidByText := true, laidKinds := [.data], laidTests := true, laidLooks := .later }
def NoticeReusesUptoCardSaid : Prop := Claim7.holds Tryz.pinned (.plain (OpenSpec.upto noticeReusesSpec)) noticeReusesUptoCard

/-- THE SECOND FORM's CARD OF 'mortsafelaw08.NoticePhases'. -/
def noticePhasesUptoCard : Claim7 := { stood := { row := noticePhasesUptoRow, standIns := [], harness := (true, "9f10c2b7423f1a7c12a3c00629c70250ac116577be5cb99d3f9b915b8808e2b5"), looks := false }, kinds := [], alts := [], laidByText := true, laidKinds := [.data], laidTests := true, laidLooks := .later }
def NoticePhasesUptoCardSaid : Prop := Claim7.holds Tryz.pinned (.plain (OpenSpec.upto noticePhasesSpec)) noticePhasesUptoCard

/-- THE SECOND FORM's CARD OF 'mortsafelaw08.NoticeMays'. -/
def noticeMaysUptoCard : Claim7 := { stood := { row := noticeMaysUptoRow, standIns := [], harness := (true, "9f10c2b7423f1a7c12a3c00629c70250ac116577be5cb99d3f9b915b8808e2b5"), looks := false }, kinds := [], alts := [], laidByText := true, laidKinds := [.data], laidTests := true, laidLooks := .later }
def NoticeMaysUptoCardSaid : Prop := Claim7.holds Tryz.pinned (.plain (OpenSpec.upto noticeMaysSpec)) noticeMaysUptoCard

/-- THE SECOND FORM's CARD OF 'mortsafelaw08.NoticeAdds'. -/
def noticeAddsUptoCard : Claim7 := { stood := { row := noticeAddsUptoRow, standIns := [], harness := (true, "9f10c2b7423f1a7c12a3c00629c70250ac116577be5cb99d3f9b915b8808e2b5"), looks := false }, kinds := [], alts := [], laidByText := true, laidKinds := [.data], laidTests := true, laidLooks := .later }
def NoticeAddsUptoCardSaid : Prop := Claim7.holds Tryz.pinned (.plain (OpenSpec.upto noticeAddsSpec)) noticeAddsUptoCard

/-- THE SECOND FORM's CARD OF 'mortsafelaw08.NoticeLater'. -/
def noticeLaterUptoCard : Claim7 := { stood := { row := noticeLaterUptoRow, standIns := [], harness := (true, "9f10c2b7423f1a7c12a3c00629c70250ac116577be5cb99d3f9b915b8808e2b5"), looks := false }, kinds := [], alts := [], laidByText := true, laidKinds := [.data], laidTests := true, laidLooks := .later }
def NoticeLaterUptoCardSaid : Prop := Claim7.holds Tryz.pinned (.plain (OpenSpec.upto noticeLaterSpec)) noticeLaterUptoCard

/-- THE SECOND FORM's CARD OF 'mortsafelaw08.NoticeMoves'. -/
def noticeMovesUptoCard : Claim7 := { stood := { row := noticeMovesUptoRow, standIns := [], harness := (true, "9f10c2b7423f1a7c12a3c00629c70250ac116577be5cb99d3f9b915b8808e2b5"), looks := false }, kinds := [], alts := [], laidByText := true, laidKinds := [.data], laidTests := true, laidLooks := .later }
def NoticeMovesUptoCardSaid : Prop := Claim7.holds Tryz.pinned (.plain (OpenSpec.upto noticeMovesSpec)) noticeMovesUptoCard

/-- THE SECOND FORM's CARD OF 'mortsafelaw08.NoticeOver'. -/
def noticeOverUptoCard : Claim7 := { stood := { row := noticeOverUptoRow, standIns := [], harness := (true, "9f10c2b7423f1a7c12a3c00629c70250ac116577be5cb99d3f9b915b8808e2b5"), looks := false }, kinds := [], alts := [], laidByText := true, laidKinds := [.data], laidTests := true, laidLooks := .later }
def NoticeOverUptoCardSaid : Prop := Claim7.holds Tryz.pinned (.plain (OpenSpec.upto noticeOverSpec)) noticeOverUptoCard

/-- THE SECOND FORM's CARD OF 'mortsafelaw08.NoticeMonuments'. -/
def noticeMonumentsUptoCard : Claim7 := { stood := { row := noticeMonumentsUptoRow, standIns := [], harness := (true, "9f10c2b7423f1a7c12a3c00629c70250ac116577be5cb99d3f9b915b8808e2b5"), looks := false }, kinds := [], alts := [], laidByText := true, laidKinds := [.data], laidTests := true, laidLooks := .later }
def NoticeMonumentsUptoCardSaid : Prop := Claim7.holds Tryz.pinned (.plain (OpenSpec.upto noticeMonumentsSpec)) noticeMonumentsUptoCard
end Rows
end Go.Proofs.YtconnjkkgaapbaaGreatDoor
