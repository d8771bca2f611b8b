/-
  NARROWER THAN 'FOR EVERY INPUT', by the rows' own cells (each row's printed sentence says how): TopTermsEnd: laid.
  DERIVED. THE GIVEN ROWS OF THIS SEAT. 1 by the template 'for every input the law returns true; each argument reads behind the call as it read before'; 0 by the template 'total and deterministic' (their statements: YtcnfhnndppollaaGreatDoorTotals.lean).
  GIVEN WITH THE SEED: the statements are not yours to turn. If you find one false, say at which input.
  Laid BY PROGRAM, IN A SANDBOX (cutbox-rows.mjs): the forced cells as the released guide's own fill.sh prints them over the translation ef849cd273a46163… (all of the seat's roots in one cut). By AI agents, Wed Nov 11 2026. No macro, syntax, notation, axiom, sorry.
-/
import Derived.Test.YtcnfhnndppollaaGreatDoorChecked
import GoSem.Claim
import GoSem.ClaimJoined
import GoSem.ClaimMapViews
import Derived.JoinedTies
import Derived.KernelRfl
namespace Go.Proofs.YtcnfhnndppollaaGreatDoor
/- THE CELL 'sum', in the pinned program and in every row, IS THE sha256 OF THE DUMP (.gsa) THAT YtcnfhnndppollaaGreatDoorProg.lean LOADS. Nothing in Lean hashes anything: it is a label: what it is worth is what the hold of that sum in a sandbox is worth. -/
noncomputable def Tryz.pinned : Pinned := { name := "ytcnfhnndppollaagreatdoor", sum := "ef849cd273a4616386a55fc34581d5a00c946aea137724c6aa2e3d94b423f18e", checked := Tryz.checked }
namespace Rows
def none {H : Type} : Left H := { results := [], args := [] }

/- WHAT THE LISTED PACKAGE-LEVEL VARIABLES READ AS WHEN THE CALL BEGINS. Each datum BY PROGRAM (the guide's laid-datum.mjs) off the statement by which the dump's own 'gosem.cut.vars' lays the variable. In a bare row this is a premise. The card (YtcnfhnndppollaaGreatDoorCards.lean) ties it to the program's text. -/
def laid_mortsafe_rule_lengths {H : Type} : DataW H := .agg [.lit (.int .i64 31), .lit (.int .i64 28), .lit (.int .i64 31), .lit (.int .i64 30), .lit (.int .i64 31), .lit (.int .i64 30), .lit (.int .i64 31), .lit (.int .i64 31), .lit (.int .i64 30), .lit (.int .i64 31), .lit (.int .i64 30), .lit (.int .i64 31)]
def laid_mortsafe_right_forms {H : Type} : DataW H := .agg [.agg [.lit (.string [103, 114, 97, 110, 116]), .lit (.bool true), .lit (.bool false), .lit (.bool true), .lit (.bool true), .lit (.bool true), .lit (.bool true), .lit (.bool true)], .agg [.lit (.string [116, 114, 97, 110, 115, 102, 101, 114]), .lit (.bool true), .lit (.bool true), .lit (.bool false), .lit (.bool false), .lit (.bool false), .lit (.bool true), .lit (.bool true)], .agg [.lit (.string [115, 117, 114, 114, 101, 110, 100, 101, 114]), .lit (.bool true), .lit (.bool true), .lit (.bool false), .lit (.bool false), .lit (.bool false), .lit (.bool false), .lit (.bool false)], .agg [.lit (.string [114, 101, 110, 101, 119, 97, 108]), .lit (.bool true), .lit (.bool false), .lit (.bool false), .lit (.bool true), .lit (.bool false), .lit (.bool false), .lit (.bool false)], .agg [.lit (.string [119, 105, 108, 108]), .lit (.bool false), .lit (.bool true), .lit (.bool false), .lit (.bool false), .lit (.bool false), .lit (.bool true), .lit (.bool true)], .agg [.lit (.string [114, 101, 110, 111, 117, 110, 99, 101]), .lit (.bool false), .lit (.bool true), .lit (.bool false), .lit (.bool false), .lit (.bool false), .lit (.bool true), .lit (.bool false)], .agg [.lit (.string [99, 104, 105, 108, 100]), .lit (.bool false), .lit (.bool true), .lit (.bool false), .lit (.bool false), .lit (.bool false), .lit (.bool true), .lit (.bool false)], .agg [.lit (.string [109, 97, 114, 114, 105, 97, 103, 101]), .lit (.bool false), .lit (.bool true), .lit (.bool false), .lit (.bool false), .lit (.bool false), .lit (.bool true), .lit (.bool false)], .agg [.lit (.string [100, 101, 97, 116, 104]), .lit (.bool false), .lit (.bool true), .lit (.bool false), .lit (.bool false), .lit (.bool false), .lit (.bool false), .lit (.bool false)]]

/-- 'mortsafetop.TopTermsEnd': WHATEVER THE INPUT: true; the input reads as it did. -/
def topTermsEndSpec : ChangeSpec := { name := "topTermsEnd", fn := fun _ => fun
  | [d1, d2, d3] => { results := [.lit (.bool true)], args := [d1, d2, d3] }
  | _ => none }
def topTermsEndRow : OpenClaim := { program := "ytcnfhnndppollaagreatdoor", sum := "ef849cd273a4616386a55fc34581d5a00c946aea137724c6aa2e3d94b423f18e", func := "mortsafe/mortsafetop.TopTermsEnd", spec := "topTermsEnd", inPlace := ["internal/bytealg.abigen_runtime_cmpstring", "slices.overlaps[mortsafe/api.Part]"], unfollowed := true, recurses := true, named := ["mortsafe/right.forms", "mortsafe/rule.lengths"], plainKeys := false, apart := false, laid := [("mortsafe/rule.lengths", laid_mortsafe_rule_lengths), ("mortsafe/right.forms", laid_mortsafe_right_forms)] }
def TopTermsEndSaid : Prop := topTermsEndRow.holds Tryz.pinned (OpenSpec.ofChange topTermsEndSpec)

/-- ITS FALSE NEIGHBOUR: 'it returns false'. Refute it at one input. -/
def topTermsEndWrong : ChangeSpec := { name := "topTermsEnd", fn := fun _ => fun
  | [d1, d2, d3] => { results := [.lit (.bool false)], args := [d1, d2, d3] }
  | _ => none }
def TopTermsEndWrongFalsely : Prop := topTermsEndRow.holds Tryz.pinned (OpenSpec.ofChange topTermsEndWrong)

/- THE SECOND FORM. 'bulk': how many values and letters a reading holds, each counted each time it is reached (what is shared counts as often as it is met; a slice's spare places count too). A statement '..UptoSaid' is the law's where the arguments, and the package variables that the reading takes, are together of bulk at most 1048576: NARROWER than '..Said'. Prove '..Said' where nothing that the law and all that it calls make is longer than what came in: it says more and counts as full. Else prove '..UptoSaid'. A law counts once. -/
mutual
def uptoBulk {H : Type} : DataW H → Nat
  | .lit (.string bytes) => bytes.length + 1
  | .lit _ => 1
  | .nil => 1
  | .ptr d => uptoBulk d + 1
  | .slice elems spare => uptoBulkAll elems + uptoBulkAll spare + 1
  | .agg parts => uptoBulkAll parts + 1
  | .iface _ d => uptoBulk d + 1
  | .map entries => uptoBulkEntries entries + 1
  | .held _ => 1
def uptoBulkAll {H : Type} : List (DataW H) → Nat
  | [] => 0
  | d :: r => uptoBulk d + uptoBulkAll r
def uptoBulkEntries {H : Type} : List (Lit × DataW H) → Nat
  | [] => 0
  | x :: r => uptoBulkEntry x + uptoBulkEntries r
def uptoBulkEntry {H : Type} : Lit × DataW H → Nat
  | (.string bytes, d) => bytes.length + uptoBulk d + 1
  | (_, d) => uptoBulk d + 1
 end
def uptoSmall : (H : Type) → List (DataW H) → Bool := fun _ ds => decide (uptoBulkAll ds ≤ 1048576)
def OpenSpec.upto (s : _root_.Go.ChangeSpec) : _root_.Go.OpenSpec := { _root_.Go.OpenSpec.ofChange s with cond := some uptoSmall }

/-- 'mortsafetop.TopTermsEnd', WHERE WHAT IT READS IS OF BULK AT MOST 1048576: true; the input reads as it did. -/
def topTermsEndUptoRow : OpenClaim := { program := "ytcnfhnndppollaagreatdoor", sum := "ef849cd273a4616386a55fc34581d5a00c946aea137724c6aa2e3d94b423f18e", func := "mortsafe/mortsafetop.TopTermsEnd", spec := "topTermsEnd", inPlace := ["internal/bytealg.abigen_runtime_cmpstring", "slices.overlaps[mortsafe/api.Part]"], unfollowed := true, recurses := true, named := ["mortsafe/right.forms", "mortsafe/rule.lengths"], plainKeys := false, apart := false, laid := [("mortsafe/rule.lengths", laid_mortsafe_rule_lengths), ("mortsafe/right.forms", laid_mortsafe_right_forms)], narrowed := true }
def TopTermsEndUptoSaid : Prop := topTermsEndUptoRow.holds Tryz.pinned (OpenSpec.upto topTermsEndSpec)

end Rows
end Go.Proofs.YtcnfhnndppollaaGreatDoor
