/-
  No cell of these rows narrows 'for every input' (looked for: loops, veiled, ifaces, maps, wideKeys, modest, calm, conditions, laid).
  DERIVED. THE GIVEN ROWS OF THIS SEAT. 4 by the template 'for every input the law returns true; each argument reads behind the call as it read before'; 0 by the template 'total and deterministic' (their statements: YtaagdjipjeindaaTotals.lean).
  GIVEN WITH THE SEED: the statements are not yours to turn. If you find one false, say at which input.
  Laid BY PROGRAM, IN A SANDBOX (cutbox-rows.mjs): the forced cells as the released guide's own fill.sh prints them over the translation d1b87c3cda518dec… (all of the seat's roots in one cut). By AI agents, Wed Nov 11 2026. No macro, syntax, notation, axiom, sorry.
-/
import Derived.Test.YtaagdjipjeindaaChecked
import GoSem.Claim
import GoSem.ClaimJoined
import GoSem.ClaimMapViews
import Derived.JoinedTies
import Derived.KernelRfl
namespace Go.Proofs.Ytaagdjipjeindaa
/- THE CELL 'sum', in the pinned program and in every row, IS THE sha256 OF THE DUMP (.gsa) THAT YtaagdjipjeindaaProg.lean LOADS. Nothing in Lean hashes anything: it is a label: what it is worth is what the hold of that sum in a sandbox is worth. -/
noncomputable def Try.pinned : Pinned := { name := "ytaagdjipjeindaa", sum := "d1b87c3cda518dec68bd37d7ea59455987864a17fe6eeabdba1eca2d94ad1d35", checked := Try.checked }
namespace Rows
def none {H : Type} : Left H := { results := [], args := [] }

/-- 'whimlaw16.RedoAll': WHATEVER THE INPUT: true; the input reads as it did. -/
def redoAllSpec : ChangeSpec := { name := "redoAll", fn := fun _ => fun
  | [d1, d2, d3, d4, d5] => { results := [.lit (.bool true)], args := [d1, d2, d3, d4, d5] }
  | _ => none }
def redoAllRow : OpenClaim := { program := "ytaagdjipjeindaa", sum := "d1b87c3cda518dec68bd37d7ea59455987864a17fe6eeabdba1eca2d94ad1d35", func := "whim/whimlaw16.RedoAll", spec := "redoAll", unfollowed := true, recurses := true, apart := false }
def RedoAllSaid : Prop := redoAllRow.holds Try.pinned (OpenSpec.ofChange redoAllSpec)

/-- ITS FALSE NEIGHBOUR: 'it returns false'. Refute it at one input. -/
def redoAllWrong : ChangeSpec := { name := "redoAll", fn := fun _ => fun
  | [d1, d2, d3, d4, d5] => { results := [.lit (.bool false)], args := [d1, d2, d3, d4, d5] }
  | _ => none }
def RedoAllWrongFalsely : Prop := redoAllRow.holds Try.pinned (OpenSpec.ofChange redoAllWrong)

/-- 'whimlaw16.RedoAgain': WHATEVER THE INPUT: true; the input reads as it did. -/
def redoAgainSpec : ChangeSpec := { name := "redoAgain", fn := fun _ => fun
  | [d1, d2, d3] => { results := [.lit (.bool true)], args := [d1, d2, d3] }
  | _ => none }
def redoAgainRow : OpenClaim := { program := "ytaagdjipjeindaa", sum := "d1b87c3cda518dec68bd37d7ea59455987864a17fe6eeabdba1eca2d94ad1d35", func := "whim/whimlaw16.RedoAgain", spec := "redoAgain", unfollowed := true, recurses := true, apart := false }
def RedoAgainSaid : Prop := redoAgainRow.holds Try.pinned (OpenSpec.ofChange redoAgainSpec)

/-- ITS FALSE NEIGHBOUR: 'it returns false'. Refute it at one input. -/
def redoAgainWrong : ChangeSpec := { name := "redoAgain", fn := fun _ => fun
  | [d1, d2, d3] => { results := [.lit (.bool false)], args := [d1, d2, d3] }
  | _ => none }
def RedoAgainWrongFalsely : Prop := redoAgainRow.holds Try.pinned (OpenSpec.ofChange redoAgainWrong)

/-- 'whimlaw16.RedoTouches': WHATEVER THE INPUT: true; the input reads as it did. -/
def redoTouchesSpec : ChangeSpec := { name := "redoTouches", fn := fun _ => fun
  | [d1, d2, d3] => { results := [.lit (.bool true)], args := [d1, d2, d3] }
  | _ => none }
def redoTouchesRow : OpenClaim := { program := "ytaagdjipjeindaa", sum := "d1b87c3cda518dec68bd37d7ea59455987864a17fe6eeabdba1eca2d94ad1d35", func := "whim/whimlaw16.RedoTouches", spec := "redoTouches", unfollowed := true, recurses := true, apart := false }
def RedoTouchesSaid : Prop := redoTouchesRow.holds Try.pinned (OpenSpec.ofChange redoTouchesSpec)

/-- ITS FALSE NEIGHBOUR: 'it returns false'. Refute it at one input. -/
def redoTouchesWrong : ChangeSpec := { name := "redoTouches", fn := fun _ => fun
  | [d1, d2, d3] => { results := [.lit (.bool false)], args := [d1, d2, d3] }
  | _ => none }
def RedoTouchesWrongFalsely : Prop := redoTouchesRow.holds Try.pinned (OpenSpec.ofChange redoTouchesWrong)

/-- 'whimlaw16.RedoMoves': WHATEVER THE INPUT: true; the input reads as it did. -/
def redoMovesSpec : ChangeSpec := { name := "redoMoves", fn := fun _ => fun
  | [d1, d2, d3] => { results := [.lit (.bool true)], args := [d1, d2, d3] }
  | _ => none }
def redoMovesRow : OpenClaim := { program := "ytaagdjipjeindaa", sum := "d1b87c3cda518dec68bd37d7ea59455987864a17fe6eeabdba1eca2d94ad1d35", func := "whim/whimlaw16.RedoMoves", spec := "redoMoves", unfollowed := true, recurses := true, apart := false }
def RedoMovesSaid : Prop := redoMovesRow.holds Try.pinned (OpenSpec.ofChange redoMovesSpec)

/-- ITS FALSE NEIGHBOUR: 'it returns false'. Refute it at one input. -/
def redoMovesWrong : ChangeSpec := { name := "redoMoves", fn := fun _ => fun
  | [d1, d2, d3] => { results := [.lit (.bool false)], args := [d1, d2, d3] }
  | _ => none }
def RedoMovesWrongFalsely : Prop := redoMovesRow.holds Try.pinned (OpenSpec.ofChange redoMovesWrong)

/- THE SECOND FORM. 'bulk': how many values and letters a reading holds, each counted each time it is reached (what is shared counts as often as it is met; a slice's spare places count too). A statement '..UptoSaid' is the law's where the arguments, and the package variables that the reading takes, are together of bulk at most 1048576: NARROWER than '..Said'. Prove '..Said' where nothing that the law and all that it calls make is longer than what came in: it says more and counts as full. Else prove '..UptoSaid'. A law counts once. -/
mutual
def uptoBulk {H : Type} : DataW H → Nat
  | .lit (.string bytes) => bytes.length + 1
  | .lit _ => 1
  | .nil => 1
  | .ptr d => uptoBulk d + 1
  | .slice elems spare => uptoBulkAll elems + uptoBulkAll spare + 1
  | .agg parts => uptoBulkAll parts + 1
  | .iface _ d => uptoBulk d + 1
  | .map entries => uptoBulkEntries entries + 1
  | .held _ => 1
def uptoBulkAll {H : Type} : List (DataW H) → Nat
  | [] => 0
  | d :: r => uptoBulk d + uptoBulkAll r
def uptoBulkEntries {H : Type} : List (Lit × DataW H) → Nat
  | [] => 0
  | x :: r => uptoBulkEntry x + uptoBulkEntries r
def uptoBulkEntry {H : Type} : Lit × DataW H → Nat
  | (.string bytes, d) => bytes.length + uptoBulk d + 1
  | (_, d) => uptoBulk d + 1
 end
def uptoSmall : (H : Type) → List (DataW H) → Bool := fun _ ds => decide (uptoBulkAll ds ≤ 1048576)
def OpenSpec.upto (s : _root_.Go.ChangeSpec) : _root_.Go.OpenSpec := { _root_.Go.OpenSpec.ofChange s with cond := some uptoSmall }

/-- 'whimlaw16.RedoAll', WHERE WHAT IT READS IS OF BULK AT MOST 1048576: true; the input reads as it did. -/
def redoAllUptoRow : OpenClaim := { program := "ytaagdjipjeindaa", sum := "d1b87c3cda518dec68bd37d7ea59455987864a17fe6eeabdba1eca2d94ad1d35", func := "whim/whimlaw16.RedoAll", spec := "redoAll", unfollowed := true, recurses := true, apart := false, narrowed := true }
def RedoAllUptoSaid : Prop := redoAllUptoRow.holds Try.pinned (OpenSpec.upto redoAllSpec)

/-- 'whimlaw16.RedoAgain', WHERE WHAT IT READS IS OF BULK AT MOST 1048576: true; the input reads as it did. -/
def redoAgainUptoRow : OpenClaim := { program := "ytaagdjipjeindaa", sum := "d1b87c3cda518dec68bd37d7ea59455987864a17fe6eeabdba1eca2d94ad1d35", func := "whim/whimlaw16.RedoAgain", spec := "redoAgain", unfollowed := true, recurses := true, apart := false, narrowed := true }
def RedoAgainUptoSaid : Prop := redoAgainUptoRow.holds Try.pinned (OpenSpec.upto redoAgainSpec)

/-- 'whimlaw16.RedoTouches', WHERE WHAT IT READS IS OF BULK AT MOST 1048576: true; the input reads as it did. -/
def redoTouchesUptoRow : OpenClaim := { program := "ytaagdjipjeindaa", sum := "d1b87c3cda518dec68bd37d7ea59455987864a17fe6eeabdba1eca2d94ad1d35", func := "whim/whimlaw16.RedoTouches", spec := "redoTouches", unfollowed := true, recurses := true, apart := false, narrowed := true }
def RedoTouchesUptoSaid : Prop := redoTouchesUptoRow.holds Try.pinned (OpenSpec.upto redoTouchesSpec)

/-- 'whimlaw16.RedoMoves', WHERE WHAT IT READS IS OF BULK AT MOST 1048576: true; the input reads as it did. -/
def redoMovesUptoRow : OpenClaim := { program := "ytaagdjipjeindaa", sum := "d1b87c3cda518dec68bd37d7ea59455987864a17fe6eeabdba1eca2d94ad1d35", func := "whim/whimlaw16.RedoMoves", spec := "redoMoves", unfollowed := true, recurses := true, apart := false, narrowed := true }
def RedoMovesUptoSaid : Prop := redoMovesUptoRow.holds Try.pinned (OpenSpec.upto redoMovesSpec)

end Rows
end Go.Proofs.Ytaagdjipjeindaa
