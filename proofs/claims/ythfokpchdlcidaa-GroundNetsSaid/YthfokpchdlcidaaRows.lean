/-
  No cell of these rows narrows 'for every input' (looked for: loops, veiled, ifaces, maps, wideKeys, modest, calm, conditions, laid).
  DERIVED. THE GIVEN ROWS OF THIS SEAT. 3 by the template 'for every input the law returns true; each argument reads behind the call as it read before'; 0 by the template 'total and deterministic' (their statements: YthfokpchdlcidaaTotals.lean).
  GIVEN WITH THE SEED: the statements are not yours to turn. If you find one false, say at which input.
  Laid BY PROGRAM, IN A SANDBOX (cutbox-rows.mjs): the forced cells as the released guide's own fill.sh prints them over the translation 244dde9fc1376eb2… (all of the seat's roots in one cut). By AI agents, Wed Nov 11 2026. No macro, syntax, notation, axiom, sorry.
-/
import Derived.Test.YthfokpchdlcidaaChecked
import GoSem.Claim
import GoSem.ClaimJoined
import GoSem.ClaimMapViews
import Derived.JoinedTies
import Derived.KernelRfl
namespace Go.Proofs.Ythfokpchdlcidaa
/- THE CELL 'sum', in the pinned program and in every row, IS THE sha256 OF THE DUMP (.gsa) THAT YthfokpchdlcidaaProg.lean LOADS. Nothing in Lean hashes anything: it is a label: what it is worth is what the hold of that sum in a sandbox is worth. -/
noncomputable def Try.pinned : Pinned := { name := "ythfokpchdlcidaa", sum := "244dde9fc1376eb252400ec15ba7cf409927d17e1fe897450661fb8368eef6f9", checked := Try.checked }
namespace Rows
def none {H : Type} : Left H := { results := [], args := [] }

/-- 'mortsafelaw01.GroundNets': WHATEVER THE INPUT: true; the input reads as it did. -/
def groundNetsSpec : ChangeSpec := { name := "groundNets", fn := fun _ => fun
  | [d1, d2] => { results := [.lit (.bool true)], args := [d1, d2] }
  | _ => none }
def groundNetsRow : OpenClaim := { program := "ythfokpchdlcidaa", sum := "244dde9fc1376eb252400ec15ba7cf409927d17e1fe897450661fb8368eef6f9", func := "mortsafe/mortsafelaw01.GroundNets", spec := "groundNets", unfollowed := true, recurses := true, plainKeys := false, apart := false }
def GroundNetsSaid : Prop := groundNetsRow.holds Try.pinned (OpenSpec.ofChange groundNetsSpec)

/-- ITS FALSE NEIGHBOUR: 'it returns false'. Refute it at one input. -/
def groundNetsWrong : ChangeSpec := { name := "groundNets", fn := fun _ => fun
  | [d1, d2] => { results := [.lit (.bool false)], args := [d1, d2] }
  | _ => none }
def GroundNetsWrongFalsely : Prop := groundNetsRow.holds Try.pinned (OpenSpec.ofChange groundNetsWrong)

/-- 'mortsafetop.TopOneGround': WHATEVER THE INPUT: true; the input reads as it did. -/
def topOneGroundSpec : ChangeSpec := { name := "topOneGround", fn := fun _ => fun
  | [d1, d2] => { results := [.lit (.bool true)], args := [d1, d2] }
  | _ => none }
def topOneGroundRow : OpenClaim := { program := "ythfokpchdlcidaa", sum := "244dde9fc1376eb252400ec15ba7cf409927d17e1fe897450661fb8368eef6f9", func := "mortsafe/mortsafetop.TopOneGround", spec := "topOneGround", unfollowed := true, recurses := true, plainKeys := false, apart := false }
def TopOneGroundSaid : Prop := topOneGroundRow.holds Try.pinned (OpenSpec.ofChange topOneGroundSpec)

/-- ITS FALSE NEIGHBOUR: 'it returns false'. Refute it at one input. -/
def topOneGroundWrong : ChangeSpec := { name := "topOneGround", fn := fun _ => fun
  | [d1, d2] => { results := [.lit (.bool false)], args := [d1, d2] }
  | _ => none }
def TopOneGroundWrongFalsely : Prop := topOneGroundRow.holds Try.pinned (OpenSpec.ofChange topOneGroundWrong)

/-- 'mortsafelaw01.GroundImages': WHATEVER THE INPUT: true; the input reads as it did. -/
def groundImagesSpec : ChangeSpec := { name := "groundImages", fn := fun _ => fun
  | [d1, d2] => { results := [.lit (.bool true)], args := [d1, d2] }
  | _ => none }
def groundImagesRow : OpenClaim := { program := "ythfokpchdlcidaa", sum := "244dde9fc1376eb252400ec15ba7cf409927d17e1fe897450661fb8368eef6f9", func := "mortsafe/mortsafelaw01.GroundImages", spec := "groundImages", unfollowed := true, recurses := true, plainKeys := false, apart := false }
def GroundImagesSaid : Prop := groundImagesRow.holds Try.pinned (OpenSpec.ofChange groundImagesSpec)

/-- ITS FALSE NEIGHBOUR: 'it returns false'. Refute it at one input. -/
def groundImagesWrong : ChangeSpec := { name := "groundImages", fn := fun _ => fun
  | [d1, d2] => { results := [.lit (.bool false)], args := [d1, d2] }
  | _ => none }
def GroundImagesWrongFalsely : Prop := groundImagesRow.holds Try.pinned (OpenSpec.ofChange groundImagesWrong)

/- THE SECOND FORM. 'bulk': how many values and letters a reading holds, each counted each time it is reached (what is shared counts as often as it is met; a slice's spare places count too). A statement '..UptoSaid' is the law's where the arguments, and the package variables that the reading takes, are together of bulk at most 1048576: NARROWER than '..Said'. Prove '..Said' where nothing that the law and all that it calls make is longer than what came in: it says more and counts as full. Else prove '..UptoSaid'. A law counts once. -/
mutual
def uptoBulk {H : Type} : DataW H → Nat
  | .lit (.string bytes) => bytes.length + 1
  | .lit _ => 1
  | .nil => 1
  | .ptr d => uptoBulk d + 1
  | .slice elems spare => uptoBulkAll elems + uptoBulkAll spare + 1
  | .agg parts => uptoBulkAll parts + 1
  | .iface _ d => uptoBulk d + 1
  | .map entries => uptoBulkEntries entries + 1
  | .held _ => 1
def uptoBulkAll {H : Type} : List (DataW H) → Nat
  | [] => 0
  | d :: r => uptoBulk d + uptoBulkAll r
def uptoBulkEntries {H : Type} : List (Lit × DataW H) → Nat
  | [] => 0
  | x :: r => uptoBulkEntry x + uptoBulkEntries r
def uptoBulkEntry {H : Type} : Lit × DataW H → Nat
  | (.string bytes, d) => bytes.length + uptoBulk d + 1
  | (_, d) => uptoBulk d + 1
 end
def uptoSmall : (H : Type) → List (DataW H) → Bool := fun _ ds => decide (uptoBulkAll ds ≤ 1048576)
def OpenSpec.upto (s : _root_.Go.ChangeSpec) : _root_.Go.OpenSpec := { _root_.Go.OpenSpec.ofChange s with cond := some uptoSmall }

/-- 'mortsafelaw01.GroundNets', WHERE WHAT IT READS IS OF BULK AT MOST 1048576: true; the input reads as it did. -/
def groundNetsUptoRow : OpenClaim := { program := "ythfokpchdlcidaa", sum := "244dde9fc1376eb252400ec15ba7cf409927d17e1fe897450661fb8368eef6f9", func := "mortsafe/mortsafelaw01.GroundNets", spec := "groundNets", unfollowed := true, recurses := true, plainKeys := false, apart := false, narrowed := true }
def GroundNetsUptoSaid : Prop := groundNetsUptoRow.holds Try.pinned (OpenSpec.upto groundNetsSpec)

/-- 'mortsafetop.TopOneGround', WHERE WHAT IT READS IS OF BULK AT MOST 1048576: true; the input reads as it did. -/
def topOneGroundUptoRow : OpenClaim := { program := "ythfokpchdlcidaa", sum := "244dde9fc1376eb252400ec15ba7cf409927d17e1fe897450661fb8368eef6f9", func := "mortsafe/mortsafetop.TopOneGround", spec := "topOneGround", unfollowed := true, recurses := true, plainKeys := false, apart := false, narrowed := true }
def TopOneGroundUptoSaid : Prop := topOneGroundUptoRow.holds Try.pinned (OpenSpec.upto topOneGroundSpec)

/-- 'mortsafelaw01.GroundImages', WHERE WHAT IT READS IS OF BULK AT MOST 1048576: true; the input reads as it did. -/
def groundImagesUptoRow : OpenClaim := { program := "ythfokpchdlcidaa", sum := "244dde9fc1376eb252400ec15ba7cf409927d17e1fe897450661fb8368eef6f9", func := "mortsafe/mortsafelaw01.GroundImages", spec := "groundImages", unfollowed := true, recurses := true, plainKeys := false, apart := false, narrowed := true }
def GroundImagesUptoSaid : Prop := groundImagesUptoRow.holds Try.pinned (OpenSpec.upto groundImagesSpec)

end Rows
end Go.Proofs.Ythfokpchdlcidaa
