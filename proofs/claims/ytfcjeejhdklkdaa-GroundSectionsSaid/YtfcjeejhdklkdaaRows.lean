/-
  No cell of these rows narrows 'for every input' (looked for: loops, veiled, ifaces, maps, wideKeys, modest, calm, conditions, laid).
  DERIVED. THE GIVEN ROWS OF THIS SEAT. 9 by the template 'for every input the law returns true; each argument reads behind the call as it read before'; 0 by the template 'total and deterministic' (their statements: YtfcjeejhdklkdaaTotals.lean).
  GIVEN WITH THE SEED: the statements are not yours to turn. If you find one false, say at which input.
  Laid BY PROGRAM, IN A SANDBOX (cutbox-rows.mjs): the forced cells as the released guide's own fill.sh prints them over the translation 7a5b5f5f81fc8503… (all of the seat's roots in one cut). By AI agents, Wed Nov 11 2026. No macro, syntax, notation, axiom, sorry.
-/
import Derived.Test.YtfcjeejhdklkdaaChecked
import GoSem.Claim
import GoSem.ClaimJoined
import GoSem.ClaimMapViews
import Derived.JoinedTies
import Derived.KernelRfl
namespace Go.Proofs.Ytfcjeejhdklkdaa
/- THE CELL 'sum', in the pinned program and in every row, IS THE sha256 OF THE DUMP (.gsa) THAT YtfcjeejhdklkdaaProg.lean LOADS. Nothing in Lean hashes anything: it is a label: what it is worth is what the hold of that sum in a sandbox is worth. -/
noncomputable def Try.pinned : Pinned := { name := "ytfcjeejhdklkdaa", sum := "7a5b5f5f81fc85033ac6bd7fa79967cf9276f9cad42cb87856e2c5ade9916513", checked := Try.checked }
namespace Rows
def none {H : Type} : Left H := { results := [], args := [] }

/-- 'mortsafetop.TopLoopsClose': WHATEVER THE INPUT: true; the input reads as it did. -/
def topLoopsCloseSpec : ChangeSpec := { name := "topLoopsClose", fn := fun _ => fun
  | [d1, d2, d3] => { results := [.lit (.bool true)], args := [d1, d2, d3] }
  | _ => none }
def topLoopsCloseRow : OpenClaim := { program := "ytfcjeejhdklkdaa", sum := "7a5b5f5f81fc85033ac6bd7fa79967cf9276f9cad42cb87856e2c5ade9916513", func := "mortsafe/mortsafetop.TopLoopsClose", spec := "topLoopsClose", unfollowed := true, recurses := true, plainKeys := false, apart := false }
def TopLoopsCloseSaid : Prop := topLoopsCloseRow.holds Try.pinned (OpenSpec.ofChange topLoopsCloseSpec)

/-- ITS FALSE NEIGHBOUR: 'it returns false'. Refute it at one input. -/
def topLoopsCloseWrong : ChangeSpec := { name := "topLoopsClose", fn := fun _ => fun
  | [d1, d2, d3] => { results := [.lit (.bool false)], args := [d1, d2, d3] }
  | _ => none }
def TopLoopsCloseWrongFalsely : Prop := topLoopsCloseRow.holds Try.pinned (OpenSpec.ofChange topLoopsCloseWrong)

/-- 'mortsafelaw01.GroundLeast': WHATEVER THE INPUT: true; the input reads as it did. -/
def groundLeastSpec : ChangeSpec := { name := "groundLeast", fn := fun _ => fun
  | [d1, d2, d3] => { results := [.lit (.bool true)], args := [d1, d2, d3] }
  | _ => none }
def groundLeastRow : OpenClaim := { program := "ytfcjeejhdklkdaa", sum := "7a5b5f5f81fc85033ac6bd7fa79967cf9276f9cad42cb87856e2c5ade9916513", func := "mortsafe/mortsafelaw01.GroundLeast", spec := "groundLeast", unfollowed := true, recurses := true, plainKeys := false, apart := false }
def GroundLeastSaid : Prop := groundLeastRow.holds Try.pinned (OpenSpec.ofChange groundLeastSpec)

/-- ITS FALSE NEIGHBOUR: 'it returns false'. Refute it at one input. -/
def groundLeastWrong : ChangeSpec := { name := "groundLeast", fn := fun _ => fun
  | [d1, d2, d3] => { results := [.lit (.bool false)], args := [d1, d2, d3] }
  | _ => none }
def GroundLeastWrongFalsely : Prop := groundLeastRow.holds Try.pinned (OpenSpec.ofChange groundLeastWrong)

/-- 'mortsafelaw01.GroundNets': WHATEVER THE INPUT: true; the input reads as it did. -/
def groundNetsSpec : ChangeSpec := { name := "groundNets", fn := fun _ => fun
  | [d1, d2] => { results := [.lit (.bool true)], args := [d1, d2] }
  | _ => none }
def groundNetsRow : OpenClaim := { program := "ytfcjeejhdklkdaa", sum := "7a5b5f5f81fc85033ac6bd7fa79967cf9276f9cad42cb87856e2c5ade9916513", func := "mortsafe/mortsafelaw01.GroundNets", spec := "groundNets", unfollowed := true, recurses := true, plainKeys := false, apart := false }
def GroundNetsSaid : Prop := groundNetsRow.holds Try.pinned (OpenSpec.ofChange groundNetsSpec)

/-- ITS FALSE NEIGHBOUR: 'it returns false'. Refute it at one input. -/
def groundNetsWrong : ChangeSpec := { name := "groundNets", fn := fun _ => fun
  | [d1, d2] => { results := [.lit (.bool false)], args := [d1, d2] }
  | _ => none }
def GroundNetsWrongFalsely : Prop := groundNetsRow.holds Try.pinned (OpenSpec.ofChange groundNetsWrong)

/-- 'mortsafelaw01.GroundBorders': WHATEVER THE INPUT: true; the input reads as it did. -/
def groundBordersSpec : ChangeSpec := { name := "groundBorders", fn := fun _ => fun
  | [d1, d2] => { results := [.lit (.bool true)], args := [d1, d2] }
  | _ => none }
def groundBordersRow : OpenClaim := { program := "ytfcjeejhdklkdaa", sum := "7a5b5f5f81fc85033ac6bd7fa79967cf9276f9cad42cb87856e2c5ade9916513", func := "mortsafe/mortsafelaw01.GroundBorders", spec := "groundBorders", unfollowed := true, recurses := true, plainKeys := false, apart := false }
def GroundBordersSaid : Prop := groundBordersRow.holds Try.pinned (OpenSpec.ofChange groundBordersSpec)

/-- ITS FALSE NEIGHBOUR: 'it returns false'. Refute it at one input. -/
def groundBordersWrong : ChangeSpec := { name := "groundBorders", fn := fun _ => fun
  | [d1, d2] => { results := [.lit (.bool false)], args := [d1, d2] }
  | _ => none }
def GroundBordersWrongFalsely : Prop := groundBordersRow.holds Try.pinned (OpenSpec.ofChange groundBordersWrong)

/-- 'mortsafelaw01.GroundOverlaps': WHATEVER THE INPUT: true; the input reads as it did. -/
def groundOverlapsSpec : ChangeSpec := { name := "groundOverlaps", fn := fun _ => fun
  | [d1, d2] => { results := [.lit (.bool true)], args := [d1, d2] }
  | _ => none }
def groundOverlapsRow : OpenClaim := { program := "ytfcjeejhdklkdaa", sum := "7a5b5f5f81fc85033ac6bd7fa79967cf9276f9cad42cb87856e2c5ade9916513", func := "mortsafe/mortsafelaw01.GroundOverlaps", spec := "groundOverlaps", unfollowed := true, recurses := true, plainKeys := false, apart := false }
def GroundOverlapsSaid : Prop := groundOverlapsRow.holds Try.pinned (OpenSpec.ofChange groundOverlapsSpec)

/-- ITS FALSE NEIGHBOUR: 'it returns false'. Refute it at one input. -/
def groundOverlapsWrong : ChangeSpec := { name := "groundOverlaps", fn := fun _ => fun
  | [d1, d2] => { results := [.lit (.bool false)], args := [d1, d2] }
  | _ => none }
def GroundOverlapsWrongFalsely : Prop := groundOverlapsRow.holds Try.pinned (OpenSpec.ofChange groundOverlapsWrong)

/-- 'mortsafelaw01.GroundWithins': WHATEVER THE INPUT: true; the input reads as it did. -/
def groundWithinsSpec : ChangeSpec := { name := "groundWithins", fn := fun _ => fun
  | [d1, d2] => { results := [.lit (.bool true)], args := [d1, d2] }
  | _ => none }
def groundWithinsRow : OpenClaim := { program := "ytfcjeejhdklkdaa", sum := "7a5b5f5f81fc85033ac6bd7fa79967cf9276f9cad42cb87856e2c5ade9916513", func := "mortsafe/mortsafelaw01.GroundWithins", spec := "groundWithins", unfollowed := true, recurses := true, plainKeys := false, apart := false }
def GroundWithinsSaid : Prop := groundWithinsRow.holds Try.pinned (OpenSpec.ofChange groundWithinsSpec)

/-- ITS FALSE NEIGHBOUR: 'it returns false'. Refute it at one input. -/
def groundWithinsWrong : ChangeSpec := { name := "groundWithins", fn := fun _ => fun
  | [d1, d2] => { results := [.lit (.bool false)], args := [d1, d2] }
  | _ => none }
def GroundWithinsWrongFalsely : Prop := groundWithinsRow.holds Try.pinned (OpenSpec.ofChange groundWithinsWrong)

/-- 'mortsafelaw01.GroundSections': WHATEVER THE INPUT: true; the input reads as it did. -/
def groundSectionsSpec : ChangeSpec := { name := "groundSections", fn := fun _ => fun
  | [d] => { results := [.lit (.bool true)], args := [d] }
  | _ => none }
def groundSectionsRow : OpenClaim := { program := "ytfcjeejhdklkdaa", sum := "7a5b5f5f81fc85033ac6bd7fa79967cf9276f9cad42cb87856e2c5ade9916513", func := "mortsafe/mortsafelaw01.GroundSections", spec := "groundSections", unfollowed := true, recurses := true, plainKeys := false, apart := false }
def GroundSectionsSaid : Prop := groundSectionsRow.holds Try.pinned (OpenSpec.ofChange groundSectionsSpec)

/-- ITS FALSE NEIGHBOUR: 'it returns false'. Refute it at one input. -/
def groundSectionsWrong : ChangeSpec := { name := "groundSections", fn := fun _ => fun
  | [d] => { results := [.lit (.bool false)], args := [d] }
  | _ => none }
def GroundSectionsWrongFalsely : Prop := groundSectionsRow.holds Try.pinned (OpenSpec.ofChange groundSectionsWrong)

/-- 'mortsafelaw01.GroundMoved': WHATEVER THE INPUT: true; the input reads as it did. -/
def groundMovedSpec : ChangeSpec := { name := "groundMoved", fn := fun _ => fun
  | [d1, d2, d3] => { results := [.lit (.bool true)], args := [d1, d2, d3] }
  | _ => none }
def groundMovedRow : OpenClaim := { program := "ytfcjeejhdklkdaa", sum := "7a5b5f5f81fc85033ac6bd7fa79967cf9276f9cad42cb87856e2c5ade9916513", func := "mortsafe/mortsafelaw01.GroundMoved", spec := "groundMoved", unfollowed := true, recurses := true, plainKeys := false, apart := false }
def GroundMovedSaid : Prop := groundMovedRow.holds Try.pinned (OpenSpec.ofChange groundMovedSpec)

/-- ITS FALSE NEIGHBOUR: 'it returns false'. Refute it at one input. -/
def groundMovedWrong : ChangeSpec := { name := "groundMoved", fn := fun _ => fun
  | [d1, d2, d3] => { results := [.lit (.bool false)], args := [d1, d2, d3] }
  | _ => none }
def GroundMovedWrongFalsely : Prop := groundMovedRow.holds Try.pinned (OpenSpec.ofChange groundMovedWrong)

/-- 'mortsafetop.TopOneGround': WHATEVER THE INPUT: true; the input reads as it did. -/
def topOneGroundSpec : ChangeSpec := { name := "topOneGround", fn := fun _ => fun
  | [d1, d2] => { results := [.lit (.bool true)], args := [d1, d2] }
  | _ => none }
def topOneGroundRow : OpenClaim := { program := "ytfcjeejhdklkdaa", sum := "7a5b5f5f81fc85033ac6bd7fa79967cf9276f9cad42cb87856e2c5ade9916513", func := "mortsafe/mortsafetop.TopOneGround", spec := "topOneGround", unfollowed := true, recurses := true, plainKeys := false, apart := false }
def TopOneGroundSaid : Prop := topOneGroundRow.holds Try.pinned (OpenSpec.ofChange topOneGroundSpec)

/-- ITS FALSE NEIGHBOUR: 'it returns false'. Refute it at one input. -/
def topOneGroundWrong : ChangeSpec := { name := "topOneGround", fn := fun _ => fun
  | [d1, d2] => { results := [.lit (.bool false)], args := [d1, d2] }
  | _ => none }
def TopOneGroundWrongFalsely : Prop := topOneGroundRow.holds Try.pinned (OpenSpec.ofChange topOneGroundWrong)

/- THE SECOND FORM. 'bulk': how many values and letters a reading holds, each counted each time it is reached (what is shared counts as often as it is met; a slice's spare places count too). A statement '..UptoSaid' is the law's where the arguments, and the package variables that the reading takes, are together of bulk at most 1048576: NARROWER than '..Said'. Prove '..Said' where nothing that the law and all that it calls make is longer than what came in: it says more and counts as full. Else prove '..UptoSaid'. A law counts once. -/
mutual
def uptoBulk {H : Type} : DataW H → Nat
  | .lit (.string bytes) => bytes.length + 1
  | .lit _ => 1
  | .nil => 1
  | .ptr d => uptoBulk d + 1
  | .slice elems spare => uptoBulkAll elems + uptoBulkAll spare + 1
  | .agg parts => uptoBulkAll parts + 1
  | .iface _ d => uptoBulk d + 1
  | .map entries => uptoBulkEntries entries + 1
  | .held _ => 1
def uptoBulkAll {H : Type} : List (DataW H) → Nat
  | [] => 0
  | d :: r => uptoBulk d + uptoBulkAll r
def uptoBulkEntries {H : Type} : List (Lit × DataW H) → Nat
  | [] => 0
  | x :: r => uptoBulkEntry x + uptoBulkEntries r
def uptoBulkEntry {H : Type} : Lit × DataW H → Nat
  | (.string bytes, d) => bytes.length + uptoBulk d + 1
  | (_, d) => uptoBulk d + 1
 end
def uptoSmall : (H : Type) → List (DataW H) → Bool := fun _ ds => decide (uptoBulkAll ds ≤ 1048576)
def OpenSpec.upto (s : _root_.Go.ChangeSpec) : _root_.Go.OpenSpec := { _root_.Go.OpenSpec.ofChange s with cond := some uptoSmall }

/-- 'mortsafetop.TopLoopsClose', WHERE WHAT IT READS IS OF BULK AT MOST 1048576: true; the input reads as it did. -/
def topLoopsCloseUptoRow : OpenClaim := { program := "ytfcjeejhdklkdaa", sum := "7a5b5f5f81fc85033ac6bd7fa79967cf9276f9cad42cb87856e2c5ade9916513", func := "mortsafe/mortsafetop.TopLoopsClose", spec := "topLoopsClose", unfollowed := true, recurses := true, plainKeys := false, apart := false, narrowed := true }
def TopLoopsCloseUptoSaid : Prop := topLoopsCloseUptoRow.holds Try.pinned (OpenSpec.upto topLoopsCloseSpec)

/-- 'mortsafelaw01.GroundLeast', WHERE WHAT IT READS IS OF BULK AT MOST 1048576: true; the input reads as it did. -/
def groundLeastUptoRow : OpenClaim := { program := "ytfcjeejhdklkdaa", sum := "7a5b5f5f81fc85033ac6bd7fa79967cf9276f9cad42cb87856e2c5ade9916513", func := "mortsafe/mortsafelaw01.GroundLeast", spec := "groundLeast", unfollowed := true, recurses := true, plainKeys := false, apart := false, narrowed := true }
def GroundLeastUptoSaid : Prop := groundLeastUptoRow.holds Try.pinned (OpenSpec.upto groundLeastSpec)

/-- 'mortsafelaw01.GroundNets', WHERE WHAT IT READS IS OF BULK AT MOST 1048576: true; the input reads as it did. -/
def groundNetsUptoRow : OpenClaim := { program := "ytfcjeejhdklkdaa", sum := "7a5b5f5f81fc85033ac6bd7fa79967cf9276f9cad42cb87856e2c5ade9916513", func := "mortsafe/mortsafelaw01.GroundNets", spec := "groundNets", unfollowed := true, recurses := true, plainKeys := false, apart := false, narrowed := true }
def GroundNetsUptoSaid : Prop := groundNetsUptoRow.holds Try.pinned (OpenSpec.upto groundNetsSpec)

/-- 'mortsafelaw01.GroundBorders', WHERE WHAT IT READS IS OF BULK AT MOST 1048576: true; the input reads as it did. -/
def groundBordersUptoRow : OpenClaim := { program := "ytfcjeejhdklkdaa", sum := "7a5b5f5f81fc85033ac6bd7fa79967cf9276f9cad42cb87856e2c5ade9916513", func := "mortsafe/mortsafelaw01.GroundBorders", spec := "groundBorders", unfollowed := true, recurses := true, plainKeys := false, apart := false, narrowed := true }
def GroundBordersUptoSaid : Prop := groundBordersUptoRow.holds Try.pinned (OpenSpec.upto groundBordersSpec)

/-- 'mortsafelaw01.GroundOverlaps', WHERE WHAT IT READS IS OF BULK AT MOST 1048576: true; the input reads as it did. -/
def groundOverlapsUptoRow : OpenClaim := { program := "ytfcjeejhdklkdaa", sum := "7a5b5f5f81fc85033ac6bd7fa79967cf9276f9cad42cb87856e2c5ade9916513", func := "mortsafe/mortsafelaw01.GroundOverlaps", spec := "groundOverlaps", unfollowed := true, recurses := true, plainKeys := false, apart := false, narrowed := true }
def GroundOverlapsUptoSaid : Prop := groundOverlapsUptoRow.holds Try.pinned (OpenSpec.upto groundOverlapsSpec)

/-- 'mortsafelaw01.GroundWithins', WHERE WHAT IT READS IS OF BULK AT MOST 1048576: true; the input reads as it did. -/
def groundWithinsUptoRow : OpenClaim := { program := "ytfcjeejhdklkdaa", sum := "7a5b5f5f81fc85033ac6bd7fa79967cf9276f9cad42cb87856e2c5ade9916513", func := "mortsafe/mortsafelaw01.GroundWithins", spec := "groundWithins", unfollowed := true, recurses := true, plainKeys := false, apart := false, narrowed := true }
def GroundWithinsUptoSaid : Prop := groundWithinsUptoRow.holds Try.pinned (OpenSpec.upto groundWithinsSpec)

/-- 'mortsafelaw01.GroundSections', WHERE WHAT IT READS IS OF BULK AT MOST 1048576: true; the input reads as it did. -/
def groundSectionsUptoRow : OpenClaim := { program := "ytfcjeejhdklkdaa", sum := "7a5b5f5f81fc85033ac6bd7fa79967cf9276f9cad42cb87856e2c5ade9916513", func := "mortsafe/mortsafelaw01.GroundSections", spec := "groundSections", unfollowed := true, recurses := true, plainKeys := false, apart := false, narrowed := true }
def GroundSectionsUptoSaid : Prop := groundSectionsUptoRow.holds Try.pinned (OpenSpec.upto groundSectionsSpec)

/-- 'mortsafelaw01.GroundMoved', WHERE WHAT IT READS IS OF BULK AT MOST 1048576: true; the input reads as it did. -/
def groundMovedUptoRow : OpenClaim := { program := "ytfcjeejhdklkdaa", sum := "7a5b5f5f81fc85033ac6bd7fa79967cf9276f9cad42cb87856e2c5ade9916513", func := "mortsafe/mortsafelaw01.GroundMoved", spec := "groundMoved", unfollowed := true, recurses := true, plainKeys := false, apart := false, narrowed := true }
def GroundMovedUptoSaid : Prop := groundMovedUptoRow.holds Try.pinned (OpenSpec.upto groundMovedSpec)

/-- 'mortsafetop.TopOneGround', WHERE WHAT IT READS IS OF BULK AT MOST 1048576: true; the input reads as it did. -/
def topOneGroundUptoRow : OpenClaim := { program := "ytfcjeejhdklkdaa", sum := "7a5b5f5f81fc85033ac6bd7fa79967cf9276f9cad42cb87856e2c5ade9916513", func := "mortsafe/mortsafetop.TopOneGround", spec := "topOneGround", unfollowed := true, recurses := true, plainKeys := false, apart := false, narrowed := true }
def TopOneGroundUptoSaid : Prop := topOneGroundUptoRow.holds Try.pinned (OpenSpec.upto topOneGroundSpec)

end Rows
end Go.Proofs.Ytfcjeejhdklkdaa
