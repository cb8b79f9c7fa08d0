/-
  No cell of these rows narrows 'for every input' (looked for: loops, veiled, ifaces, maps, wideKeys, modest, calm, conditions, laid).
  DERIVED. THE GIVEN ROWS OF THIS SEAT. 4 by the template 'for every input the law returns true; each argument reads behind the call as it read before'; 0 by the template 'total and deterministic' (their statements: YtppffbpocmgafaaTotals.lean).
  GIVEN WITH THE SEED: the statements are not yours to turn. If you find one false, say at which input.
  Laid BY PROGRAM, IN A SANDBOX (cutbox-rows.mjs): the forced cells as the released guide's own fill.sh prints them over the translation 4829bfb343f44073… (all of the seat's roots in one cut). By AI agents, Wed Nov 11 2026. No macro, syntax, notation, axiom, sorry.
-/
import Derived.Test.YtppffbpocmgafaaChecked
import GoSem.Claim
import GoSem.ClaimJoined
import GoSem.ClaimMapViews
import Derived.JoinedTies
import Derived.KernelRfl
namespace Go.Proofs.Ytppffbpocmgafaa
/- THE CELL 'sum', in the pinned program and in every row, IS THE sha256 OF THE DUMP (.gsa) THAT YtppffbpocmgafaaProg.lean LOADS. Nothing in Lean hashes anything: it is a label: what it is worth is what the hold of that sum in a sandbox is worth. -/
noncomputable def Try.pinned : Pinned := { name := "ytppffbpocmgafaa", sum := "4829bfb343f44073e1082e8fa86d2b00439add39355a7b532738f435f2d8aaf9", checked := Try.checked }
namespace Rows
def none {H : Type} : Left H := { results := [], args := [] }

/-- 'whimlaw13.WaitWays': WHATEVER THE INPUT: true; the input reads as it did. -/
def waitWaysSpec : ChangeSpec := { name := "waitWays", fn := fun _ => fun
  | [d] => { results := [.lit (.bool true)], args := [d] }
  | _ => none }
def waitWaysRow : OpenClaim := { program := "ytppffbpocmgafaa", sum := "4829bfb343f44073e1082e8fa86d2b00439add39355a7b532738f435f2d8aaf9", func := "whim/whimlaw13.WaitWays", spec := "waitWays", unfollowed := true, recurses := true, apart := false }
def WaitWaysSaid : Prop := waitWaysRow.holds Try.pinned (OpenSpec.ofChange waitWaysSpec)

/-- ITS FALSE NEIGHBOUR: 'it returns false'. Refute it at one input. -/
def waitWaysWrong : ChangeSpec := { name := "waitWays", fn := fun _ => fun
  | [d] => { results := [.lit (.bool false)], args := [d] }
  | _ => none }
def WaitWaysWrongFalsely : Prop := waitWaysRow.holds Try.pinned (OpenSpec.ofChange waitWaysWrong)

/-- 'whimlaw13.WaitSets': WHATEVER THE INPUT: true; the input reads as it did. -/
def waitSetsSpec : ChangeSpec := { name := "waitSets", fn := fun _ => fun
  | [d1, d2] => { results := [.lit (.bool true)], args := [d1, d2] }
  | _ => none }
def waitSetsRow : OpenClaim := { program := "ytppffbpocmgafaa", sum := "4829bfb343f44073e1082e8fa86d2b00439add39355a7b532738f435f2d8aaf9", func := "whim/whimlaw13.WaitSets", spec := "waitSets", unfollowed := true, recurses := true, apart := false }
def WaitSetsSaid : Prop := waitSetsRow.holds Try.pinned (OpenSpec.ofChange waitSetsSpec)

/-- ITS FALSE NEIGHBOUR: 'it returns false'. Refute it at one input. -/
def waitSetsWrong : ChangeSpec := { name := "waitSets", fn := fun _ => fun
  | [d1, d2] => { results := [.lit (.bool false)], args := [d1, d2] }
  | _ => none }
def WaitSetsWrongFalsely : Prop := waitSetsRow.holds Try.pinned (OpenSpec.ofChange waitSetsWrong)

/-- 'whimlaw13.WaitAll': WHATEVER THE INPUT: true; the input reads as it did. -/
def waitAllSpec : ChangeSpec := { name := "waitAll", fn := fun _ => fun
  | [d] => { results := [.lit (.bool true)], args := [d] }
  | _ => none }
def waitAllRow : OpenClaim := { program := "ytppffbpocmgafaa", sum := "4829bfb343f44073e1082e8fa86d2b00439add39355a7b532738f435f2d8aaf9", func := "whim/whimlaw13.WaitAll", spec := "waitAll", unfollowed := true, recurses := true, apart := false }
def WaitAllSaid : Prop := waitAllRow.holds Try.pinned (OpenSpec.ofChange waitAllSpec)

/-- ITS FALSE NEIGHBOUR: 'it returns false'. Refute it at one input. -/
def waitAllWrong : ChangeSpec := { name := "waitAll", fn := fun _ => fun
  | [d] => { results := [.lit (.bool false)], args := [d] }
  | _ => none }
def WaitAllWrongFalsely : Prop := waitAllRow.holds Try.pinned (OpenSpec.ofChange waitAllWrong)

/-- 'whimlaw13.WaitRings': WHATEVER THE INPUT: true; the input reads as it did. -/
def waitRingsSpec : ChangeSpec := { name := "waitRings", fn := fun _ => fun
  | [d1, d2, d3] => { results := [.lit (.bool true)], args := [d1, d2, d3] }
  | _ => none }
def waitRingsRow : OpenClaim := { program := "ytppffbpocmgafaa", sum := "4829bfb343f44073e1082e8fa86d2b00439add39355a7b532738f435f2d8aaf9", func := "whim/whimlaw13.WaitRings", spec := "waitRings", unfollowed := true, recurses := true, apart := false }
def WaitRingsSaid : Prop := waitRingsRow.holds Try.pinned (OpenSpec.ofChange waitRingsSpec)

/-- ITS FALSE NEIGHBOUR: 'it returns false'. Refute it at one input. -/
def waitRingsWrong : ChangeSpec := { name := "waitRings", fn := fun _ => fun
  | [d1, d2, d3] => { results := [.lit (.bool false)], args := [d1, d2, d3] }
  | _ => none }
def WaitRingsWrongFalsely : Prop := waitRingsRow.holds Try.pinned (OpenSpec.ofChange waitRingsWrong)

/- THE SECOND FORM. 'bulk': how many values and letters a reading holds, each counted each time it is reached (what is shared counts as often as it is met; a slice's spare places count too). A statement '..UptoSaid' is the law's where the arguments, and the package variables that the reading takes, are together of bulk at most 1048576: NARROWER than '..Said'. Prove '..Said' where nothing that the law and all that it calls make is longer than what came in: it says more and counts as full. Else prove '..UptoSaid'. A law counts once. -/
mutual
def uptoBulk {H : Type} : DataW H → Nat
  | .lit (.string bytes) => bytes.length + 1
  | .lit _ => 1
  | .nil => 1
  | .ptr d => uptoBulk d + 1
  | .slice elems spare => uptoBulkAll elems + uptoBulkAll spare + 1
  | .agg parts => uptoBulkAll parts + 1
  | .iface _ d => uptoBulk d + 1
  | .map entries => uptoBulkEntries entries + 1
  | .held _ => 1
def uptoBulkAll {H : Type} : List (DataW H) → Nat
  | [] => 0
  | d :: r => uptoBulk d + uptoBulkAll r
def uptoBulkEntries {H : Type} : List (Lit × DataW H) → Nat
  | [] => 0
  | x :: r => uptoBulkEntry x + uptoBulkEntries r
def uptoBulkEntry {H : Type} : Lit × DataW H → Nat
  | (.string bytes, d) => bytes.length + uptoBulk d + 1
  | (_, d) => uptoBulk d + 1
 end
def uptoSmall : (H : Type) → List (DataW H) → Bool := fun _ ds => decide (uptoBulkAll ds ≤ 1048576)
def OpenSpec.upto (s : _root_.Go.ChangeSpec) : _root_.Go.OpenSpec := { _root_.Go.OpenSpec.ofChange s with cond := some uptoSmall }

/-- 'whimlaw13.WaitWays', WHERE WHAT IT READS IS OF BULK AT MOST 1048576: true; the input reads as it did. -/
def waitWaysUptoRow : OpenClaim := { program := "ytppffbpocmgafaa", sum := "4829bfb343f44073e1082e8fa86d2b00439add39355a7b532738f435f2d8aaf9", func := "whim/whimlaw13.WaitWays", spec := "waitWays", unfollowed := true, recurses := true, apart := false, narrowed := true }
def WaitWaysUptoSaid : Prop := waitWaysUptoRow.holds Try.pinned (OpenSpec.upto waitWaysSpec)

/-- 'whimlaw13.WaitSets', WHERE WHAT IT READS IS OF BULK AT MOST 1048576: true; the input reads as it did. -/
def waitSetsUptoRow : OpenClaim := { program := "ytppffbpocmgafaa", sum := "4829bfb343f44073e1082e8fa86d2b00439add39355a7b532738f435f2d8aaf9", func := "whim/whimlaw13.WaitSets", spec := "waitSets", unfollowed := true, recurses := true, apart := false, narrowed := true }
def WaitSetsUptoSaid : Prop := waitSetsUptoRow.holds Try.pinned (OpenSpec.upto waitSetsSpec)

/-- 'whimlaw13.WaitAll', WHERE WHAT IT READS IS OF BULK AT MOST 1048576: true; the input reads as it did. -/
def waitAllUptoRow : OpenClaim := { program := "ytppffbpocmgafaa", sum := "4829bfb343f44073e1082e8fa86d2b00439add39355a7b532738f435f2d8aaf9", func := "whim/whimlaw13.WaitAll", spec := "waitAll", unfollowed := true, recurses := true, apart := false, narrowed := true }
def WaitAllUptoSaid : Prop := waitAllUptoRow.holds Try.pinned (OpenSpec.upto waitAllSpec)

/-- 'whimlaw13.WaitRings', WHERE WHAT IT READS IS OF BULK AT MOST 1048576: true; the input reads as it did. -/
def waitRingsUptoRow : OpenClaim := { program := "ytppffbpocmgafaa", sum := "4829bfb343f44073e1082e8fa86d2b00439add39355a7b532738f435f2d8aaf9", func := "whim/whimlaw13.WaitRings", spec := "waitRings", unfollowed := true, recurses := true, apart := false, narrowed := true }
def WaitRingsUptoSaid : Prop := waitRingsUptoRow.holds Try.pinned (OpenSpec.upto waitRingsSpec)

end Rows
end Go.Proofs.Ytppffbpocmgafaa
