/-
  No cell of these rows narrows 'for every input' (looked for: loops, veiled, ifaces, maps, wideKeys, modest, calm, conditions, laid).
  DERIVED. THE GIVEN ROWS OF THIS SEAT. 10 by the template 'for every input the law returns true; each argument reads behind the call as it read before'; 0 by the template 'total and deterministic' (their statements: YtofaonigcojcaaaTotals.lean).
  GIVEN WITH THE SEED: the statements are not yours to turn. If you find one false, say at which input.
  Laid BY PROGRAM, IN A SANDBOX (cutbox-rows.mjs): the forced cells as the released guide's own fill.sh prints them over the translation 9af484c0bee44088… (all of the seat's roots in one cut). By AI agents, Wed Nov 11 2026. No macro, syntax, notation, axiom, sorry.
-/
import Derived.Test.YtofaonigcojcaaaChecked
import GoSem.Claim
import GoSem.ClaimJoined
import GoSem.ClaimMapViews
import Derived.JoinedTies
import Derived.KernelRfl
namespace Go.Proofs.Ytofaonigcojcaaa
/- THE CELL 'sum', in the pinned program and in every row, IS THE sha256 OF THE DUMP (.gsa) THAT YtofaonigcojcaaaProg.lean LOADS. Nothing in Lean hashes anything: it is a label: what it is worth is what the hold of that sum in a sandbox is worth. -/
noncomputable def Try.pinned : Pinned := { name := "ytofaonigcojcaaa", sum := "9af484c0bee4408802222771e2bae3895978b342027861843364140ccb03d560", checked := Try.checked }
namespace Rows
def none {H : Type} : Left H := { results := [], args := [] }

/-- 'mortsafelaw01.GroundImages': WHATEVER THE INPUT: true; the input reads as it did. -/
def groundImagesSpec : ChangeSpec := { name := "groundImages", fn := fun _ => fun
  | [d1, d2] => { results := [.lit (.bool true)], args := [d1, d2] }
  | _ => none }
def groundImagesRow : OpenClaim := { program := "ytofaonigcojcaaa", sum := "9af484c0bee4408802222771e2bae3895978b342027861843364140ccb03d560", func := "mortsafe/mortsafelaw01.GroundImages", spec := "groundImages", unfollowed := true, recurses := true, plainKeys := false, apart := false }
def GroundImagesSaid : Prop := groundImagesRow.holds Try.pinned (OpenSpec.ofChange groundImagesSpec)

/-- ITS FALSE NEIGHBOUR: 'it returns false'. Refute it at one input. -/
def groundImagesWrong : ChangeSpec := { name := "groundImages", fn := fun _ => fun
  | [d1, d2] => { results := [.lit (.bool false)], args := [d1, d2] }
  | _ => none }
def GroundImagesWrongFalsely : Prop := groundImagesRow.holds Try.pinned (OpenSpec.ofChange groundImagesWrong)

/-- 'mortsafelaw01.GroundNets': WHATEVER THE INPUT: true; the input reads as it did. -/
def groundNetsSpec : ChangeSpec := { name := "groundNets", fn := fun _ => fun
  | [d1, d2] => { results := [.lit (.bool true)], args := [d1, d2] }
  | _ => none }
def groundNetsRow : OpenClaim := { program := "ytofaonigcojcaaa", sum := "9af484c0bee4408802222771e2bae3895978b342027861843364140ccb03d560", func := "mortsafe/mortsafelaw01.GroundNets", spec := "groundNets", unfollowed := true, recurses := true, plainKeys := false, apart := false }
def GroundNetsSaid : Prop := groundNetsRow.holds Try.pinned (OpenSpec.ofChange groundNetsSpec)

/-- ITS FALSE NEIGHBOUR: 'it returns false'. Refute it at one input. -/
def groundNetsWrong : ChangeSpec := { name := "groundNets", fn := fun _ => fun
  | [d1, d2] => { results := [.lit (.bool false)], args := [d1, d2] }
  | _ => none }
def GroundNetsWrongFalsely : Prop := groundNetsRow.holds Try.pinned (OpenSpec.ofChange groundNetsWrong)

/-- 'mortsafelaw01.GroundResiduals': WHATEVER THE INPUT: true; the input reads as it did. -/
def groundResidualsSpec : ChangeSpec := { name := "groundResiduals", fn := fun _ => fun
  | [d1, d2, d3] => { results := [.lit (.bool true)], args := [d1, d2, d3] }
  | _ => none }
def groundResidualsRow : OpenClaim := { program := "ytofaonigcojcaaa", sum := "9af484c0bee4408802222771e2bae3895978b342027861843364140ccb03d560", func := "mortsafe/mortsafelaw01.GroundResiduals", spec := "groundResiduals", unfollowed := true, recurses := true, plainKeys := false, apart := false }
def GroundResidualsSaid : Prop := groundResidualsRow.holds Try.pinned (OpenSpec.ofChange groundResidualsSpec)

/-- ITS FALSE NEIGHBOUR: 'it returns false'. Refute it at one input. -/
def groundResidualsWrong : ChangeSpec := { name := "groundResiduals", fn := fun _ => fun
  | [d1, d2, d3] => { results := [.lit (.bool false)], args := [d1, d2, d3] }
  | _ => none }
def GroundResidualsWrongFalsely : Prop := groundResidualsRow.holds Try.pinned (OpenSpec.ofChange groundResidualsWrong)

/-- 'mortsafelaw01.GroundLoops': WHATEVER THE INPUT: true; the input reads as it did. -/
def groundLoopsSpec : ChangeSpec := { name := "groundLoops", fn := fun _ => fun
  | [d1, d2, d3] => { results := [.lit (.bool true)], args := [d1, d2, d3] }
  | _ => none }
def groundLoopsRow : OpenClaim := { program := "ytofaonigcojcaaa", sum := "9af484c0bee4408802222771e2bae3895978b342027861843364140ccb03d560", func := "mortsafe/mortsafelaw01.GroundLoops", spec := "groundLoops", unfollowed := true, recurses := true, plainKeys := false, apart := false }
def GroundLoopsSaid : Prop := groundLoopsRow.holds Try.pinned (OpenSpec.ofChange groundLoopsSpec)

/-- ITS FALSE NEIGHBOUR: 'it returns false'. Refute it at one input. -/
def groundLoopsWrong : ChangeSpec := { name := "groundLoops", fn := fun _ => fun
  | [d1, d2, d3] => { results := [.lit (.bool false)], args := [d1, d2, d3] }
  | _ => none }
def GroundLoopsWrongFalsely : Prop := groundLoopsRow.holds Try.pinned (OpenSpec.ofChange groundLoopsWrong)

/-- 'mortsafelaw01.GroundLeast': WHATEVER THE INPUT: true; the input reads as it did. -/
def groundLeastSpec : ChangeSpec := { name := "groundLeast", fn := fun _ => fun
  | [d1, d2, d3] => { results := [.lit (.bool true)], args := [d1, d2, d3] }
  | _ => none }
def groundLeastRow : OpenClaim := { program := "ytofaonigcojcaaa", sum := "9af484c0bee4408802222771e2bae3895978b342027861843364140ccb03d560", func := "mortsafe/mortsafelaw01.GroundLeast", spec := "groundLeast", unfollowed := true, recurses := true, plainKeys := false, apart := false }
def GroundLeastSaid : Prop := groundLeastRow.holds Try.pinned (OpenSpec.ofChange groundLeastSpec)

/-- ITS FALSE NEIGHBOUR: 'it returns false'. Refute it at one input. -/
def groundLeastWrong : ChangeSpec := { name := "groundLeast", fn := fun _ => fun
  | [d1, d2, d3] => { results := [.lit (.bool false)], args := [d1, d2, d3] }
  | _ => none }
def GroundLeastWrongFalsely : Prop := groundLeastRow.holds Try.pinned (OpenSpec.ofChange groundLeastWrong)

/-- 'mortsafetop.TopLoopsClose': WHATEVER THE INPUT: true; the input reads as it did. -/
def topLoopsCloseSpec : ChangeSpec := { name := "topLoopsClose", fn := fun _ => fun
  | [d1, d2, d3] => { results := [.lit (.bool true)], args := [d1, d2, d3] }
  | _ => none }
def topLoopsCloseRow : OpenClaim := { program := "ytofaonigcojcaaa", sum := "9af484c0bee4408802222771e2bae3895978b342027861843364140ccb03d560", func := "mortsafe/mortsafetop.TopLoopsClose", spec := "topLoopsClose", unfollowed := true, recurses := true, plainKeys := false, apart := false }
def TopLoopsCloseSaid : Prop := topLoopsCloseRow.holds Try.pinned (OpenSpec.ofChange topLoopsCloseSpec)

/-- ITS FALSE NEIGHBOUR: 'it returns false'. Refute it at one input. -/
def topLoopsCloseWrong : ChangeSpec := { name := "topLoopsClose", fn := fun _ => fun
  | [d1, d2, d3] => { results := [.lit (.bool false)], args := [d1, d2, d3] }
  | _ => none }
def TopLoopsCloseWrongFalsely : Prop := topLoopsCloseRow.holds Try.pinned (OpenSpec.ofChange topLoopsCloseWrong)

/-- 'mortsafelaw01.GroundMoved': WHATEVER THE INPUT: true; the input reads as it did. -/
def groundMovedSpec : ChangeSpec := { name := "groundMoved", fn := fun _ => fun
  | [d1, d2, d3] => { results := [.lit (.bool true)], args := [d1, d2, d3] }
  | _ => none }
def groundMovedRow : OpenClaim := { program := "ytofaonigcojcaaa", sum := "9af484c0bee4408802222771e2bae3895978b342027861843364140ccb03d560", func := "mortsafe/mortsafelaw01.GroundMoved", spec := "groundMoved", unfollowed := true, recurses := true, plainKeys := false, apart := false }
def GroundMovedSaid : Prop := groundMovedRow.holds Try.pinned (OpenSpec.ofChange groundMovedSpec)

/-- ITS FALSE NEIGHBOUR: 'it returns false'. Refute it at one input. -/
def groundMovedWrong : ChangeSpec := { name := "groundMoved", fn := fun _ => fun
  | [d1, d2, d3] => { results := [.lit (.bool false)], args := [d1, d2, d3] }
  | _ => none }
def GroundMovedWrongFalsely : Prop := groundMovedRow.holds Try.pinned (OpenSpec.ofChange groundMovedWrong)

/-- 'mortsafelaw01.GroundPolygons': WHATEVER THE INPUT: true; the input reads as it did. -/
def groundPolygonsSpec : ChangeSpec := { name := "groundPolygons", fn := fun _ => fun
  | [d] => { results := [.lit (.bool true)], args := [d] }
  | _ => none }
def groundPolygonsRow : OpenClaim := { program := "ytofaonigcojcaaa", sum := "9af484c0bee4408802222771e2bae3895978b342027861843364140ccb03d560", func := "mortsafe/mortsafelaw01.GroundPolygons", spec := "groundPolygons", unfollowed := true, recurses := true, plainKeys := false, apart := false }
def GroundPolygonsSaid : Prop := groundPolygonsRow.holds Try.pinned (OpenSpec.ofChange groundPolygonsSpec)

/-- ITS FALSE NEIGHBOUR: 'it returns false'. Refute it at one input. -/
def groundPolygonsWrong : ChangeSpec := { name := "groundPolygons", fn := fun _ => fun
  | [d] => { results := [.lit (.bool false)], args := [d] }
  | _ => none }
def GroundPolygonsWrongFalsely : Prop := groundPolygonsRow.holds Try.pinned (OpenSpec.ofChange groundPolygonsWrong)

/-- 'mortsafelaw01.GroundPoints': WHATEVER THE INPUT: true; the input reads as it did. -/
def groundPointsSpec : ChangeSpec := { name := "groundPoints", fn := fun _ => fun
  | [d1, d2] => { results := [.lit (.bool true)], args := [d1, d2] }
  | _ => none }
def groundPointsRow : OpenClaim := { program := "ytofaonigcojcaaa", sum := "9af484c0bee4408802222771e2bae3895978b342027861843364140ccb03d560", func := "mortsafe/mortsafelaw01.GroundPoints", spec := "groundPoints", unfollowed := true, recurses := true, plainKeys := false, apart := false }
def GroundPointsSaid : Prop := groundPointsRow.holds Try.pinned (OpenSpec.ofChange groundPointsSpec)

/-- ITS FALSE NEIGHBOUR: 'it returns false'. Refute it at one input. -/
def groundPointsWrong : ChangeSpec := { name := "groundPoints", fn := fun _ => fun
  | [d1, d2] => { results := [.lit (.bool false)], args := [d1, d2] }
  | _ => none }
def GroundPointsWrongFalsely : Prop := groundPointsRow.holds Try.pinned (OpenSpec.ofChange groundPointsWrong)

/-- 'mortsafelaw01.GroundBorders': WHATEVER THE INPUT: true; the input reads as it did. -/
def groundBordersSpec : ChangeSpec := { name := "groundBorders", fn := fun _ => fun
  | [d1, d2] => { results := [.lit (.bool true)], args := [d1, d2] }
  | _ => none }
def groundBordersRow : OpenClaim := { program := "ytofaonigcojcaaa", sum := "9af484c0bee4408802222771e2bae3895978b342027861843364140ccb03d560", func := "mortsafe/mortsafelaw01.GroundBorders", spec := "groundBorders", unfollowed := true, recurses := true, plainKeys := false, apart := false }
def GroundBordersSaid : Prop := groundBordersRow.holds Try.pinned (OpenSpec.ofChange groundBordersSpec)

/-- ITS FALSE NEIGHBOUR: 'it returns false'. Refute it at one input. -/
def groundBordersWrong : ChangeSpec := { name := "groundBorders", fn := fun _ => fun
  | [d1, d2] => { results := [.lit (.bool false)], args := [d1, d2] }
  | _ => none }
def GroundBordersWrongFalsely : Prop := groundBordersRow.holds Try.pinned (OpenSpec.ofChange groundBordersWrong)

/- THE SECOND FORM. 'bulk': how many values and letters a reading holds, each counted each time it is reached (what is shared counts as often as it is met; a slice's spare places count too). A statement '..UptoSaid' is the law's where the arguments, and the package variables that the reading takes, are together of bulk at most 1048576: NARROWER than '..Said'. Prove '..Said' where nothing that the law and all that it calls make is longer than what came in: it says more and counts as full. Else prove '..UptoSaid'. A law counts once. -/
mutual
def uptoBulk {H : Type} : DataW H → Nat
  | .lit (.string bytes) => bytes.length + 1
  | .lit _ => 1
  | .nil => 1
  | .ptr d => uptoBulk d + 1
  | .slice elems spare => uptoBulkAll elems + uptoBulkAll spare + 1
  | .agg parts => uptoBulkAll parts + 1
  | .iface _ d => uptoBulk d + 1
  | .map entries => uptoBulkEntries entries + 1
  | .held _ => 1
def uptoBulkAll {H : Type} : List (DataW H) → Nat
  | [] => 0
  | d :: r => uptoBulk d + uptoBulkAll r
def uptoBulkEntries {H : Type} : List (Lit × DataW H) → Nat
  | [] => 0
  | x :: r => uptoBulkEntry x + uptoBulkEntries r
def uptoBulkEntry {H : Type} : Lit × DataW H → Nat
  | (.string bytes, d) => bytes.length + uptoBulk d + 1
  | (_, d) => uptoBulk d + 1
 end
def uptoSmall : (H : Type) → List (DataW H) → Bool := fun _ ds => decide (uptoBulkAll ds ≤ 1048576)
def OpenSpec.upto (s : _root_.Go.ChangeSpec) : _root_.Go.OpenSpec := { _root_.Go.OpenSpec.ofChange s with cond := some uptoSmall }

/-- 'mortsafelaw01.GroundImages', WHERE WHAT IT READS IS OF BULK AT MOST 1048576: true; the input reads as it did. -/
def groundImagesUptoRow : OpenClaim := { program := "ytofaonigcojcaaa", sum := "9af484c0bee4408802222771e2bae3895978b342027861843364140ccb03d560", func := "mortsafe/mortsafelaw01.GroundImages", spec := "groundImages", unfollowed := true, recurses := true, plainKeys := false, apart := false, narrowed := true }
def GroundImagesUptoSaid : Prop := groundImagesUptoRow.holds Try.pinned (OpenSpec.upto groundImagesSpec)

/-- 'mortsafelaw01.GroundNets', WHERE WHAT IT READS IS OF BULK AT MOST 1048576: true; the input reads as it did. -/
def groundNetsUptoRow : OpenClaim := { program := "ytofaonigcojcaaa", sum := "9af484c0bee4408802222771e2bae3895978b342027861843364140ccb03d560", func := "mortsafe/mortsafelaw01.GroundNets", spec := "groundNets", unfollowed := true, recurses := true, plainKeys := false, apart := false, narrowed := true }
def GroundNetsUptoSaid : Prop := groundNetsUptoRow.holds Try.pinned (OpenSpec.upto groundNetsSpec)

/-- 'mortsafelaw01.GroundResiduals', WHERE WHAT IT READS IS OF BULK AT MOST 1048576: true; the input reads as it did. -/
def groundResidualsUptoRow : OpenClaim := { program := "ytofaonigcojcaaa", sum := "9af484c0bee4408802222771e2bae3895978b342027861843364140ccb03d560", func := "mortsafe/mortsafelaw01.GroundResiduals", spec := "groundResiduals", unfollowed := true, recurses := true, plainKeys := false, apart := false, narrowed := true }
def GroundResidualsUptoSaid : Prop := groundResidualsUptoRow.holds Try.pinned (OpenSpec.upto groundResidualsSpec)

/-- 'mortsafelaw01.GroundLoops', WHERE WHAT IT READS IS OF BULK AT MOST 1048576: true; the input reads as it did. -/
def groundLoopsUptoRow : OpenClaim := { program := "ytofaonigcojcaaa", sum := "9af484c0bee4408802222771e2bae3895978b342027861843364140ccb03d560", func := "mortsafe/mortsafelaw01.GroundLoops", spec := "groundLoops", unfollowed := true, recurses := true, plainKeys := false, apart := false, narrowed := true }
def GroundLoopsUptoSaid : Prop := groundLoopsUptoRow.holds Try.pinned (OpenSpec.upto groundLoopsSpec)

/-- 'mortsafelaw01.GroundLeast', WHERE WHAT IT READS IS OF BULK AT MOST 1048576: true; the input reads as it did. -/
def groundLeastUptoRow : OpenClaim := { program := "ytofaonigcojcaaa", sum := "9af484c0bee4408802222771e2bae3895978b342027861843364140ccb03d560", func := "mortsafe/mortsafelaw01.GroundLeast", spec := "groundLeast", unfollowed := true, recurses := true, plainKeys := false, apart := false, narrowed := true }
def GroundLeastUptoSaid : Prop := groundLeastUptoRow.holds Try.pinned (OpenSpec.upto groundLeastSpec)

/-- 'mortsafetop.TopLoopsClose', WHERE WHAT IT READS IS OF BULK AT MOST 1048576: true; the input reads as it did. -/
def topLoopsCloseUptoRow : OpenClaim := { program := "ytofaonigcojcaaa", sum := "9af484c0bee4408802222771e2bae3895978b342027861843364140ccb03d560", func := "mortsafe/mortsafetop.TopLoopsClose", spec := "topLoopsClose", unfollowed := true, recurses := true, plainKeys := false, apart := false, narrowed := true }
def TopLoopsCloseUptoSaid : Prop := topLoopsCloseUptoRow.holds Try.pinned (OpenSpec.upto topLoopsCloseSpec)

/-- 'mortsafelaw01.GroundMoved', WHERE WHAT IT READS IS OF BULK AT MOST 1048576: true; the input reads as it did. -/
def groundMovedUptoRow : OpenClaim := { program := "ytofaonigcojcaaa", sum := "9af484c0bee4408802222771e2bae3895978b342027861843364140ccb03d560", func := "mortsafe/mortsafelaw01.GroundMoved", spec := "groundMoved", unfollowed := true, recurses := true, plainKeys := false, apart := false, narrowed := true }
def GroundMovedUptoSaid : Prop := groundMovedUptoRow.holds Try.pinned (OpenSpec.upto groundMovedSpec)

/-- 'mortsafelaw01.GroundPolygons', WHERE WHAT IT READS IS OF BULK AT MOST 1048576: true; the input reads as it did. -/
def groundPolygonsUptoRow : OpenClaim := { program := "ytofaonigcojcaaa", sum := "9af484c0bee4408802222771e2bae3895978b342027861843364140ccb03d560", func := "mortsafe/mortsafelaw01.GroundPolygons", spec := "groundPolygons", unfollowed := true, recurses := true, plainKeys := false, apart := false, narrowed := true }
def GroundPolygonsUptoSaid : Prop := groundPolygonsUptoRow.holds Try.pinned (OpenSpec.upto groundPolygonsSpec)

/-- 'mortsafelaw01.GroundPoints', WHERE WHAT IT READS IS OF BULK AT MOST 1048576: true; the input reads as it did. -/
def groundPointsUptoRow : OpenClaim := { program := "ytofaonigcojcaaa", sum := "9af484c0bee4408802222771e2bae3895978b342027861843364140ccb03d560", func := "mortsafe/mortsafelaw01.GroundPoints", spec := "groundPoints", unfollowed := true, recurses := true, plainKeys := false, apart := false, narrowed := true }
def GroundPointsUptoSaid : Prop := groundPointsUptoRow.holds Try.pinned (OpenSpec.upto groundPointsSpec)

/-- 'mortsafelaw01.GroundBorders', WHERE WHAT IT READS IS OF BULK AT MOST 1048576: true; the input reads as it did. -/
def groundBordersUptoRow : OpenClaim := { program := "ytofaonigcojcaaa", sum := "9af484c0bee4408802222771e2bae3895978b342027861843364140ccb03d560", func := "mortsafe/mortsafelaw01.GroundBorders", spec := "groundBorders", unfollowed := true, recurses := true, plainKeys := false, apart := false, narrowed := true }
def GroundBordersUptoSaid : Prop := groundBordersUptoRow.holds Try.pinned (OpenSpec.upto groundBordersSpec)

end Rows
end Go.Proofs.Ytofaonigcojcaaa
