/-
  NARROWER THAN 'FOR EVERY INPUT', by the rows' own cells (each row's printed sentence says how): NoticeProcedures: laid · NoticeExpires: laid · NoticeReuses: laid · NoticePhases: laid · NoticeMays: laid · NoticeAdds: laid · NoticeLater: laid · NoticeMoves: laid · NoticeOver: laid · NoticeMonuments: laid.
  DERIVED. THE GIVEN ROWS OF THIS SEAT. 10 by the template 'for every input the law returns true; each argument reads behind the call as it read before'; 0 by the template 'total and deterministic' (their statements: YtconnjkkgaapbaaGreatDoorTotals.lean).
  GIVEN WITH THE SEED: the statements are not yours to turn. If you find one false, say at which input.
  Laid BY PROGRAM, IN A SANDBOX (cutbox-rows.mjs): the forced cells as the released guide's own fill.sh prints them over the translation 47b637e401a34ba7… (all of the seat's roots in one cut). By AI agents, Wed Nov 11 2026. No macro, syntax, notation, axiom, sorry.
-/
import Derived.Test.YtconnjkkgaapbaaGreatDoorChecked
import GoSem.Claim
import GoSem.ClaimJoined
import GoSem.ClaimMapViews
import Derived.JoinedTies
import Derived.KernelRfl
namespace Go.Proofs.YtconnjkkgaapbaaGreatDoor
/- THE CELL 'sum', in the pinned program and in every row, IS THE sha256 OF THE DUMP (.gsa) THAT YtconnjkkgaapbaaGreatDoorProg.lean LOADS. Nothing in Lean hashes anything: it is a label: what it is worth is what the hold of that sum in a sandbox is worth. -/
noncomputable def Tryz.pinned : Pinned := { name := "ytconnjkkgaapbaagreatdoor", sum := "47b637e401a34ba73c9dd6eaf2a4a92e4b526d270818785d5bbae68894d6dbe9", checked := Tryz.checked }
namespace Rows
def none {H : Type} : Left H := { results := [], args := [] }

/- WHAT THE LISTED PACKAGE-LEVEL VARIABLES READ AS WHEN THE CALL BEGINS. Each datum BY PROGRAM (the guide's laid-datum.mjs) off the statement by which the dump's own 'gosem.cut.vars' lays the variable. In a bare row this is a premise. The card (YtconnjkkgaapbaaGreatDoorCards.lean) ties it to the program's text. -/
def laid_mortsafe_rule_lengths {H : Type} : DataW H := .agg [.lit (.int .i64 31), .lit (.int .i64 28), .lit (.int .i64 31), .lit (.int .i64 30), .lit (.int .i64 31), .lit (.int .i64 30), .lit (.int .i64 31), .lit (.int .i64 31), .lit (.int .i64 30), .lit (.int .i64 31), .lit (.int .i64 30), .lit (.int .i64 31)]

/-- 'mortsafelaw08.NoticeProcedures': WHATEVER THE INPUT: true; the input reads as it did. -/
def noticeProceduresSpec : ChangeSpec := { name := "noticeProcedures", fn := fun _ => fun
  | [d1, d2] => { results := [.lit (.bool true)], args := [d1, d2] }
  | _ => none }
def noticeProceduresRow : OpenClaim := { program := "ytconnjkkgaapbaagreatdoor", sum := "47b637e401a34ba73c9dd6eaf2a4a92e4b526d270818785d5bbae68894d6dbe9", func := "mortsafe/mortsafelaw08.NoticeProcedures", spec := "noticeProcedures", unfollowed := true, recurses := true, named := ["mortsafe/rule.lengths"], apart := false, laid := [("mortsafe/rule.lengths", laid_mortsafe_rule_lengths)] }
def NoticeProceduresSaid : Prop := noticeProceduresRow.holds Tryz.pinned (OpenSpec.ofChange noticeProceduresSpec)

/-- ITS FALSE NEIGHBOUR: 'it returns false'. Refute it at one input. -/
def noticeProceduresWrong : ChangeSpec := { name := "noticeProcedures", fn := fun _ => fun
  | [d1, d2] => { results := [.lit (.bool false)], args := [d1, d2] }
  | _ => none }
def NoticeProceduresWrongFalsely : Prop := noticeProceduresRow.holds Tryz.pinned (OpenSpec.ofChange noticeProceduresWrong)

/-- 'mortsafelaw08.NoticeExpires': WHATEVER THE INPUT: true; the input reads as it did. -/
def noticeExpiresSpec : ChangeSpec := { name := "noticeExpires", fn := fun _ => fun
  | [d1, d2] => { results := [.lit (.bool true)], args := [d1, d2] }
  | _ => none }
def noticeExpiresRow : OpenClaim := { program := "ytconnjkkgaapbaagreatdoor", sum := "47b637e401a34ba73c9dd6eaf2a4a92e4b526d270818785d5bbae68894d6dbe9", func := "mortsafe/mortsafelaw08.NoticeExpires", spec := "noticeExpires", unfollowed := true, recurses := true, named := ["mortsafe/rule.lengths"], apart := false, laid := [("mortsafe/rule.lengths", laid_mortsafe_rule_lengths)] }
def NoticeExpiresSaid : Prop := noticeExpiresRow.holds Tryz.pinned (OpenSpec.ofChange noticeExpiresSpec)

/-- ITS FALSE NEIGHBOUR: 'it returns false'. Refute it at one input. -/
def noticeExpiresWrong : ChangeSpec := { name := "noticeExpires", fn := fun _ => fun
  | [d1, d2] => { results := [.lit (.bool false)], args := [d1, d2] }
  | _ => none }
def NoticeExpiresWrongFalsely : Prop := noticeExpiresRow.holds Tryz.pinned (OpenSpec.ofChange noticeExpiresWrong)

/-- 'mortsafelaw08.NoticeReuses': WHATEVER THE INPUT: true; the input reads as it did. -/
def noticeReusesSpec : ChangeSpec := { name := "noticeReuses", fn := fun _ => fun
  | [d1, d2, d3] => { results := [.lit (.bool true)], args := [d1, d2, d3] }
  | _ => none }
def noticeReusesRow : OpenClaim := { program := "ytconnjkkgaapbaagreatdoor", sum := "47b637e401a34ba73c9dd6eaf2a4a92e4b526d270818785d5bbae68894d6dbe9", func := "mortsafe/mortsafelaw08.NoticeReuses", spec := "noticeReuses", unfollowed := true, recurses := true, named := ["mortsafe/rule.lengths"], apart := false, laid := [("mortsafe/rule.lengths", laid_mortsafe_rule_lengths)] }
def NoticeReusesSaid : Prop := noticeReusesRow.holds Tryz.pinned (OpenSpec.ofChange noticeReusesSpec)

/-- ITS FALSE NEIGHBOUR: 'it returns false'. Refute it at one input. -/
def noticeReusesWrong : ChangeSpec := { name := "noticeReuses", fn := fun _ => fun
  | [d1, d2, d3] => { results := [.lit (.bool false)], args := [d1, d2, d3] }
  | _ => none }
def NoticeReusesWrongFalsely : Prop := noticeReusesRow.holds Tryz.pinned (OpenSpec.ofChange noticeReusesWrong)

/-- 'mortsafelaw08.NoticePhases': WHATEVER THE INPUT: true; the input reads as it did. -/
def noticePhasesSpec : ChangeSpec := { name := "noticePhases", fn := fun _ => fun
  | [d1, d2, d3] => { results := [.lit (.bool true)], args := [d1, d2, d3] }
  | _ => none }
def noticePhasesRow : OpenClaim := { program := "ytconnjkkgaapbaagreatdoor", sum := "47b637e401a34ba73c9dd6eaf2a4a92e4b526d270818785d5bbae68894d6dbe9", func := "mortsafe/mortsafelaw08.NoticePhases", spec := "noticePhases", unfollowed := true, recurses := true, named := ["mortsafe/rule.lengths"], apart := false, laid := [("mortsafe/rule.lengths", laid_mortsafe_rule_lengths)] }
def NoticePhasesSaid : Prop := noticePhasesRow.holds Tryz.pinned (OpenSpec.ofChange noticePhasesSpec)

/-- ITS FALSE NEIGHBOUR: 'it returns false'. Refute it at one input. -/
def noticePhasesWrong : ChangeSpec := { name := "noticePhases", fn := fun _ => fun
  | [d1, d2, d3] => { results := [.lit (.bool false)], args := [d1, d2, d3] }
  | _ => none }
def NoticePhasesWrongFalsely : Prop := noticePhasesRow.holds Tryz.pinned (OpenSpec.ofChange noticePhasesWrong)

/-- 'mortsafelaw08.NoticeMays': WHATEVER THE INPUT: true; the input reads as it did. -/
def noticeMaysSpec : ChangeSpec := { name := "noticeMays", fn := fun _ => fun
  | [d1, d2, d3] => { results := [.lit (.bool true)], args := [d1, d2, d3] }
  | _ => none }
def noticeMaysRow : OpenClaim := { program := "ytconnjkkgaapbaagreatdoor", sum := "47b637e401a34ba73c9dd6eaf2a4a92e4b526d270818785d5bbae68894d6dbe9", func := "mortsafe/mortsafelaw08.NoticeMays", spec := "noticeMays", unfollowed := true, recurses := true, named := ["mortsafe/rule.lengths"], apart := false, laid := [("mortsafe/rule.lengths", laid_mortsafe_rule_lengths)] }
def NoticeMaysSaid : Prop := noticeMaysRow.holds Tryz.pinned (OpenSpec.ofChange noticeMaysSpec)

/-- ITS FALSE NEIGHBOUR: 'it returns false'. Refute it at one input. -/
def noticeMaysWrong : ChangeSpec := { name := "noticeMays", fn := fun _ => fun
  | [d1, d2, d3] => { results := [.lit (.bool false)], args := [d1, d2, d3] }
  | _ => none }
def NoticeMaysWrongFalsely : Prop := noticeMaysRow.holds Tryz.pinned (OpenSpec.ofChange noticeMaysWrong)

/-- 'mortsafelaw08.NoticeAdds': WHATEVER THE INPUT: true; the input reads as it did. -/
def noticeAddsSpec : ChangeSpec := { name := "noticeAdds", fn := fun _ => fun
  | [d1, d2, d3] => { results := [.lit (.bool true)], args := [d1, d2, d3] }
  | _ => none }
def noticeAddsRow : OpenClaim := { program := "ytconnjkkgaapbaagreatdoor", sum := "47b637e401a34ba73c9dd6eaf2a4a92e4b526d270818785d5bbae68894d6dbe9", func := "mortsafe/mortsafelaw08.NoticeAdds", spec := "noticeAdds", unfollowed := true, recurses := true, named := ["mortsafe/rule.lengths"], apart := false, laid := [("mortsafe/rule.lengths", laid_mortsafe_rule_lengths)] }
def NoticeAddsSaid : Prop := noticeAddsRow.holds Tryz.pinned (OpenSpec.ofChange noticeAddsSpec)

/-- ITS FALSE NEIGHBOUR: 'it returns false'. Refute it at one input. -/
def noticeAddsWrong : ChangeSpec := { name := "noticeAdds", fn := fun _ => fun
  | [d1, d2, d3] => { results := [.lit (.bool false)], args := [d1, d2, d3] }
  | _ => none }
def NoticeAddsWrongFalsely : Prop := noticeAddsRow.holds Tryz.pinned (OpenSpec.ofChange noticeAddsWrong)

/-- 'mortsafelaw08.NoticeLater': WHATEVER THE INPUT: true; the input reads as it did. -/
def noticeLaterSpec : ChangeSpec := { name := "noticeLater", fn := fun _ => fun
  | [d1, d2, d3] => { results := [.lit (.bool true)], args := [d1, d2, d3] }
  | _ => none }
def noticeLaterRow : OpenClaim := { program := "ytconnjkkgaapbaagreatdoor", sum := "47b637e401a34ba73c9dd6eaf2a4a92e4b526d270818785d5bbae68894d6dbe9", func := "mortsafe/mortsafelaw08.NoticeLater", spec := "noticeLater", unfollowed := true, recurses := true, named := ["mortsafe/rule.lengths"], apart := false, laid := [("mortsafe/rule.lengths", laid_mortsafe_rule_lengths)] }
def NoticeLaterSaid : Prop := noticeLaterRow.holds Tryz.pinned (OpenSpec.ofChange noticeLaterSpec)

/-- ITS FALSE NEIGHBOUR: 'it returns false'. Refute it at one input. -/
def noticeLaterWrong : ChangeSpec := { name := "noticeLater", fn := fun _ => fun
  | [d1, d2, d3] => { results := [.lit (.bool false)], args := [d1, d2, d3] }
  | _ => none }
def NoticeLaterWrongFalsely : Prop := noticeLaterRow.holds Tryz.pinned (OpenSpec.ofChange noticeLaterWrong)

/-- 'mortsafelaw08.NoticeMoves': WHATEVER THE INPUT: true; the input reads as it did. -/
def noticeMovesSpec : ChangeSpec := { name := "noticeMoves", fn := fun _ => fun
  | [d1, d2, d3] => { results := [.lit (.bool true)], args := [d1, d2, d3] }
  | _ => none }
def noticeMovesRow : OpenClaim := { program := "ytconnjkkgaapbaagreatdoor", sum := "47b637e401a34ba73c9dd6eaf2a4a92e4b526d270818785d5bbae68894d6dbe9", func := "mortsafe/mortsafelaw08.NoticeMoves", spec := "noticeMoves", unfollowed := true, recurses := true, named := ["mortsafe/rule.lengths"], apart := false, laid := [("mortsafe/rule.lengths", laid_mortsafe_rule_lengths)] }
def NoticeMovesSaid : Prop := noticeMovesRow.holds Tryz.pinned (OpenSpec.ofChange noticeMovesSpec)

/-- ITS FALSE NEIGHBOUR: 'it returns false'. Refute it at one input. -/
def noticeMovesWrong : ChangeSpec := { name := "noticeMoves", fn := fun _ => fun
  | [d1, d2, d3] => { results := [.lit (.bool false)], args := [d1, d2, d3] }
  | _ => none }
def NoticeMovesWrongFalsely : Prop := noticeMovesRow.holds Tryz.pinned (OpenSpec.ofChange noticeMovesWrong)

/-- 'mortsafelaw08.NoticeOver': WHATEVER THE INPUT: true; the input reads as it did. -/
def noticeOverSpec : ChangeSpec := { name := "noticeOver", fn := fun _ => fun
  | [d1, d2, d3] => { results := [.lit (.bool true)], args := [d1, d2, d3] }
  | _ => none }
def noticeOverRow : OpenClaim := { program := "ytconnjkkgaapbaagreatdoor", sum := "47b637e401a34ba73c9dd6eaf2a4a92e4b526d270818785d5bbae68894d6dbe9", func := "mortsafe/mortsafelaw08.NoticeOver", spec := "noticeOver", unfollowed := true, recurses := true, named := ["mortsafe/rule.lengths"], apart := false, laid := [("mortsafe/rule.lengths", laid_mortsafe_rule_lengths)] }
def NoticeOverSaid : Prop := noticeOverRow.holds Tryz.pinned (OpenSpec.ofChange noticeOverSpec)

/-- ITS FALSE NEIGHBOUR: 'it returns false'. Refute it at one input. -/
def noticeOverWrong : ChangeSpec := { name := "noticeOver", fn := fun _ => fun
  | [d1, d2, d3] => { results := [.lit (.bool false)], args := [d1, d2, d3] }
  | _ => none }
def NoticeOverWrongFalsely : Prop := noticeOverRow.holds Tryz.pinned (OpenSpec.ofChange noticeOverWrong)

/-- 'mortsafelaw08.NoticeMonuments': WHATEVER THE INPUT: true; the input reads as it did. -/
def noticeMonumentsSpec : ChangeSpec := { name := "noticeMonuments", fn := fun _ => fun
  | [d1, d2, d3] => { results := [.lit (.bool true)], args := [d1, d2, d3] }
  | _ => none }
def noticeMonumentsRow : OpenClaim := { program := "ytconnjkkgaapbaagreatdoor", sum := "47b637e401a34ba73c9dd6eaf2a4a92e4b526d270818785d5bbae68894d6dbe9", func := "mortsafe/mortsafelaw08.NoticeMonuments", spec := "noticeMonuments", unfollowed := true, recurses := true, named := ["mortsafe/rule.lengths"], apart := false, laid := [("mortsafe/rule.lengths", laid_mortsafe_rule_lengths)] }
def NoticeMonumentsSaid : Prop := noticeMonumentsRow.holds Tryz.pinned (OpenSpec.ofChange noticeMonumentsSpec)

/-- ITS FALSE NEIGHBOUR: 'it returns false'. Refute it at one input. -/
def noticeMonumentsWrong : ChangeSpec := { name := "noticeMonuments", fn := fun _ => fun
  | [d1, d2, d3] => { results := [.lit (.bool false)], args := [d1, d2, d3] }
  | _ => none }
def NoticeMonumentsWrongFalsely : Prop := noticeMonumentsRow.holds Tryz.pinned (OpenSpec.ofChange noticeMonumentsWrong)

/- THE SECOND FORM. 'bulk': how many values and letters a reading holds, each counted each time it is reached (what is shared counts as often as it is met; a slice's spare places count too). A statement '..UptoSaid' is the law's where the arguments, and the package variables that the reading takes, are together of bulk at most 1048576: NARROWER than '..Said'. Prove '..Said' where nothing that the law and all that it calls make is longer than what came in: it says more and counts as full. Else prove '..UptoSaid'. A law counts once. -/
mutual
def uptoBulk {H : Type} : DataW H → Nat
  | .lit (.string bytes) => bytes.length + 1
  | .lit _ => 1
  | .nil => 1
  | .ptr d => uptoBulk d + 1
  | .slice elems spare => uptoBulkAll elems + uptoBulkAll spare + 1
  | .agg parts => uptoBulkAll parts + 1
  | .iface _ d => uptoBulk d + 1
  | .map entries => uptoBulkEntries entries + 1
  | .held _ => 1
def uptoBulkAll {H : Type} : List (DataW H) → Nat
  | [] => 0
  | d :: r => uptoBulk d + uptoBulkAll r
def uptoBulkEntries {H : Type} : List (Lit × DataW H) → Nat
  | [] => 0
  | x :: r => uptoBulkEntry x + uptoBulkEntries r
def uptoBulkEntry {H : Type} : Lit × DataW H → Nat
  | (.string bytes, d) => bytes.length + uptoBulk d + 1
  | (_, d) => uptoBulk d + 1
 end
def uptoSmall : (H : Type) → List (DataW H) → Bool := fun _ ds => decide (uptoBulkAll ds ≤ 1048576)
def OpenSpec.upto (s : _root_.Go.ChangeSpec) : _root_.Go.OpenSpec := { _root_.Go.OpenSpec.ofChange s with cond := some uptoSmall }

/-- 'mortsafelaw08.NoticeProcedures', WHERE WHAT IT READS IS OF BULK AT MOST 1048576: true; the input reads as it did. -/
def noticeProceduresUptoRow : OpenClaim := { program := "ytconnjkkgaapbaagreatdoor", sum := "47b637e401a34ba73c9dd6eaf2a4a92e4b526d270818785d5bbae68894d6dbe9", func := "mortsafe/mortsafelaw08.NoticeProcedures", spec := "noticeProcedures", unfollowed := true, recurses := true, named := ["mortsafe/rule.lengths"], apart := false, laid := [("mortsafe/rule.lengths", laid_mortsafe_rule_lengths)], narrowed := true }
def NoticeProceduresUptoSaid : Prop := noticeProceduresUptoRow.holds Tryz.pinned (OpenSpec.upto noticeProceduresSpec)

/-- 'mortsafelaw08.NoticeExpires', WHERE WHAT IT READS IS OF BULK AT MOST 1048576: true; the input reads as it did. -/
def noticeExpiresUptoRow : OpenClaim := { program := "ytconnjkkgaapbaagreatdoor", sum := "47b637e401a34ba73c9dd6eaf2a4a92e4b526d270818785d5bbae68894d6dbe9", func := "mortsafe/mortsafelaw08.NoticeExpires", spec := "noticeExpires", unfollowed := true, recurses := true, named := ["mortsafe/rule.lengths"], apart := false, laid := [("mortsafe/rule.lengths", laid_mortsafe_rule_lengths)], narrowed := true }
def NoticeExpiresUptoSaid : Prop := noticeExpiresUptoRow.holds Tryz.pinned (OpenSpec.upto noticeExpiresSpec)

/-- 'mortsafelaw08.NoticeReuses', WHERE WHAT IT READS IS OF BULK AT MOST 1048576: true; the input reads as it did. -/
def noticeReusesUptoRow : OpenClaim := { program := "ytconnjkkgaapbaagreatdoor", sum := "47b637e401a34ba73c9dd6eaf2a4a92e4b526d270818785d5bbae68894d6dbe9", func := "mortsafe/mortsafelaw08.NoticeReuses", spec := "noticeReuses", unfollowed := true, recurses := true, named := ["mortsafe/rule.lengths"], apart := false, laid := [("mortsafe/rule.lengths", laid_mortsafe_rule_lengths)], narrowed := true }
def NoticeReusesUptoSaid : Prop := noticeReusesUptoRow.holds Tryz.pinned (OpenSpec.upto noticeReusesSpec)

/-- 'mortsafelaw08.NoticePhases', WHERE WHAT IT READS IS OF BULK AT MOST 1048576: true; the input reads as it did. -/
def noticePhasesUptoRow : OpenClaim := { program := "ytconnjkkgaapbaagreatdoor", sum := "47b637e401a34ba73c9dd6eaf2a4a92e4b526d270818785d5bbae68894d6dbe9", func := "mortsafe/mortsafelaw08.NoticePhases", spec := "noticePhases", unfollowed := true, recurses := true, named := ["mortsafe/rule.lengths"], apart := false, laid := [("mortsafe/rule.lengths", laid_mortsafe_rule_lengths)], narrowed := true }
def NoticePhasesUptoSaid : Prop := noticePhasesUptoRow.holds Tryz.pinned (OpenSpec.upto noticePhasesSpec)

/-- 'mortsafelaw08.NoticeMays', WHERE WHAT IT READS IS OF BULK AT MOST 1048576: true; the input reads as it did. -/
def noticeMaysUptoRow : OpenClaim := { program := "ytconnjkkgaapbaagreatdoor", sum := "47b637e401a34ba73c9dd6eaf2a4a92e4b526d270818785d5bbae68894d6dbe9", func := "mortsafe/mortsafelaw08.NoticeMays", spec := "noticeMays", unfollowed := true, recurses := true, named := ["mortsafe/rule.lengths"], apart := false, laid := [("mortsafe/rule.lengths", laid_mortsafe_rule_lengths)], narrowed := true }
def NoticeMaysUptoSaid : Prop := noticeMaysUptoRow.holds Tryz.pinned (OpenSpec.upto noticeMaysSpec)

/-- 'mortsafelaw08.NoticeAdds', WHERE WHAT IT READS IS OF BULK AT MOST 1048576: true; the input reads as it did. -/
def noticeAddsUptoRow : OpenClaim := { program := "ytconnjkkgaapbaagreatdoor", sum := "47b637e401a34ba73c9dd6eaf2a4a92e4b526d270818785d5bbae68894d6dbe9", func := "mortsafe/mortsafelaw08.NoticeAdds", spec := "noticeAdds", unfollowed := true, recurses := true, named := ["mortsafe/rule.lengths"], apart := false, laid := [("mortsafe/rule.lengths", laid_mortsafe_rule_lengths)], narrowed := true }
def NoticeAddsUptoSaid : Prop := noticeAddsUptoRow.holds Tryz.pinned (OpenSpec.upto noticeAddsSpec)

/-- 'mortsafelaw08.NoticeLater', WHERE WHAT IT READS IS OF BULK AT MOST 1048576: true; the input reads as it did. -/
def noticeLaterUptoRow : OpenClaim := { program := "ytconnjkkgaapbaagreatdoor", sum := "47b637e401a34ba73c9dd6eaf2a4a92e4b526d270818785d5bbae68894d6dbe9", func := "mortsafe/mortsafelaw08.NoticeLater", spec := "noticeLater", unfollowed := true, recurses := true, named := ["mortsafe/rule.lengths"], apart := false, laid := [("mortsafe/rule.lengths", laid_mortsafe_rule_lengths)], narrowed := true }
def NoticeLaterUptoSaid : Prop := noticeLaterUptoRow.holds Tryz.pinned (OpenSpec.upto noticeLaterSpec)

/-- 'mortsafelaw08.NoticeMoves', WHERE WHAT IT READS IS OF BULK AT MOST 1048576: true; the input reads as it did. -/
def noticeMovesUptoRow : OpenClaim := { program := "ytconnjkkgaapbaagreatdoor", sum := "47b637e401a34ba73c9dd6eaf2a4a92e4b526d270818785d5bbae68894d6dbe9", func := "mortsafe/mortsafelaw08.NoticeMoves", spec := "noticeMoves", unfollowed := true, recurses := true, named := ["mortsafe/rule.lengths"], apart := false, laid := [("mortsafe/rule.lengths", laid_mortsafe_rule_lengths)], narrowed := true }
def NoticeMovesUptoSaid : Prop := noticeMovesUptoRow.holds Tryz.pinned (OpenSpec.upto noticeMovesSpec)

/-- 'mortsafelaw08.NoticeOver', WHERE WHAT IT READS IS OF BULK AT MOST 1048576: true; the input reads as it did. -/
def noticeOverUptoRow : OpenClaim := { program := "ytconnjkkgaapbaagreatdoor", sum := "47b637e401a34ba73c9dd6eaf2a4a92e4b526d270818785d5bbae68894d6dbe9", func := "mortsafe/mortsafelaw08.NoticeOver", spec := "noticeOver", unfollowed := true, recurses := true, named := ["mortsafe/rule.lengths"], apart := false, laid := [("mortsafe/rule.lengths", laid_mortsafe_rule_lengths)], narrowed := true }
def NoticeOverUptoSaid : Prop := noticeOverUptoRow.holds Tryz.pinned (OpenSpec.upto noticeOverSpec)

/-- 'mortsafelaw08.NoticeMonuments', WHERE WHAT IT READS IS OF BULK AT MOST 1048576: true; the input reads as it did. -/
def noticeMonumentsUptoRow : OpenClaim := { program := "ytconnjkkgaapbaagreatdoor", sum := "47b637e401a34ba73c9dd6eaf2a4a92e4b526d270818785d5bbae68894d6dbe9", func := "mortsafe/mortsafelaw08.NoticeMonuments", spec := "noticeMonuments", unfollowed := true, recurses := true, named := ["mortsafe/rule.lengths"], apart := false, laid := [("mortsafe/rule.lengths", laid_mortsafe_rule_lengths)], narrowed := true }
def NoticeMonumentsUptoSaid : Prop := noticeMonumentsUptoRow.holds Tryz.pinned (OpenSpec.upto noticeMonumentsSpec)

end Rows
end Go.Proofs.YtconnjkkgaapbaaGreatDoor
