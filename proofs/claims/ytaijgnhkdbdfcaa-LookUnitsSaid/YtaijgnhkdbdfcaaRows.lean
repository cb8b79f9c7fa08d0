/-
  No cell of these rows narrows 'for every input' (looked for: loops, veiled, ifaces, maps, wideKeys, modest, calm, conditions, laid).
  DERIVED. THE GIVEN ROWS OF THIS SEAT. 5 by the template 'for every input the law returns true; each argument reads behind the call as it read before'; 0 by the template 'total and deterministic' (their statements: YtaijgnhkdbdfcaaTotals.lean).
  GIVEN WITH THE SEED: the statements are not yours to turn. If you find one false, say at which input.
  Laid BY PROGRAM, IN A SANDBOX (cutbox-rows.mjs): the forced cells as the released guide's own fill.sh prints them over the translation 525468c1b818c68e… (all of the seat's roots in one cut). By AI agents, Wed Nov 11 2026. No macro, syntax, notation, axiom, sorry.
-/
import Derived.Test.YtaijgnhkdbdfcaaChecked
import GoSem.Claim
import GoSem.ClaimJoined
import GoSem.ClaimMapViews
import Derived.JoinedTies
import Derived.KernelRfl
namespace Go.Proofs.Ytaijgnhkdbdfcaa
/- THE CELL 'sum', in the pinned program and in every row, IS THE sha256 OF THE DUMP (.gsa) THAT YtaijgnhkdbdfcaaProg.lean LOADS. Nothing in Lean hashes anything: it is a label: what it is worth is what the hold of that sum in a sandbox is worth. -/
noncomputable def Try.pinned : Pinned := { name := "ytaijgnhkdbdfcaa", sum := "525468c1b818c68e76d1fd17a500706b1351764af319fb0aedd54c723d10baf0", checked := Try.checked }
namespace Rows
def none {H : Type} : Left H := { results := [], args := [] }

/-- 'whimlaw18.LookMarks': WHATEVER THE INPUT: true; the input reads as it did. -/
def lookMarksSpec : ChangeSpec := { name := "lookMarks", fn := fun _ => fun
  | [d1, d2, d3] => { results := [.lit (.bool true)], args := [d1, d2, d3] }
  | _ => none }
def lookMarksRow : OpenClaim := { program := "ytaijgnhkdbdfcaa", sum := "525468c1b818c68e76d1fd17a500706b1351764af319fb0aedd54c723d10baf0", func := "whim/whimlaw18.LookMarks", spec := "lookMarks", inPlace := ["slices.overlaps[whim/api.Live]", "slices.overlaps[whim/api.Dirty]"], unfollowed := true, recurses := true, apart := false }
def LookMarksSaid : Prop := lookMarksRow.holds Try.pinned (OpenSpec.ofChange lookMarksSpec)

/-- ITS FALSE NEIGHBOUR: 'it returns false'. Refute it at one input. -/
def lookMarksWrong : ChangeSpec := { name := "lookMarks", fn := fun _ => fun
  | [d1, d2, d3] => { results := [.lit (.bool false)], args := [d1, d2, d3] }
  | _ => none }
def LookMarksWrongFalsely : Prop := lookMarksRow.holds Try.pinned (OpenSpec.ofChange lookMarksWrong)

/-- 'whimlaw18.LookLives': WHATEVER THE INPUT: true; the input reads as it did. -/
def lookLivesSpec : ChangeSpec := { name := "lookLives", fn := fun _ => fun
  | [d] => { results := [.lit (.bool true)], args := [d] }
  | _ => none }
def lookLivesRow : OpenClaim := { program := "ytaijgnhkdbdfcaa", sum := "525468c1b818c68e76d1fd17a500706b1351764af319fb0aedd54c723d10baf0", func := "whim/whimlaw18.LookLives", spec := "lookLives", inPlace := ["slices.overlaps[whim/api.Live]", "slices.overlaps[whim/api.Dirty]"], unfollowed := true, recurses := true, apart := false }
def LookLivesSaid : Prop := lookLivesRow.holds Try.pinned (OpenSpec.ofChange lookLivesSpec)

/-- ITS FALSE NEIGHBOUR: 'it returns false'. Refute it at one input. -/
def lookLivesWrong : ChangeSpec := { name := "lookLives", fn := fun _ => fun
  | [d] => { results := [.lit (.bool false)], args := [d] }
  | _ => none }
def LookLivesWrongFalsely : Prop := lookLivesRow.holds Try.pinned (OpenSpec.ofChange lookLivesWrong)

/-- 'whimlaw18.LookDirty': WHATEVER THE INPUT: true; the input reads as it did. -/
def lookDirtySpec : ChangeSpec := { name := "lookDirty", fn := fun _ => fun
  | [d] => { results := [.lit (.bool true)], args := [d] }
  | _ => none }
def lookDirtyRow : OpenClaim := { program := "ytaijgnhkdbdfcaa", sum := "525468c1b818c68e76d1fd17a500706b1351764af319fb0aedd54c723d10baf0", func := "whim/whimlaw18.LookDirty", spec := "lookDirty", inPlace := ["slices.overlaps[whim/api.Live]", "slices.overlaps[whim/api.Dirty]"], unfollowed := true, recurses := true, apart := false }
def LookDirtySaid : Prop := lookDirtyRow.holds Try.pinned (OpenSpec.ofChange lookDirtySpec)

/-- ITS FALSE NEIGHBOUR: 'it returns false'. Refute it at one input. -/
def lookDirtyWrong : ChangeSpec := { name := "lookDirty", fn := fun _ => fun
  | [d] => { results := [.lit (.bool false)], args := [d] }
  | _ => none }
def LookDirtyWrongFalsely : Prop := lookDirtyRow.holds Try.pinned (OpenSpec.ofChange lookDirtyWrong)

/-- 'whimlaw18.LookUnits': WHATEVER THE INPUT: true; the input reads as it did. -/
def lookUnitsSpec : ChangeSpec := { name := "lookUnits", fn := fun _ => fun
  | [d] => { results := [.lit (.bool true)], args := [d] }
  | _ => none }
def lookUnitsRow : OpenClaim := { program := "ytaijgnhkdbdfcaa", sum := "525468c1b818c68e76d1fd17a500706b1351764af319fb0aedd54c723d10baf0", func := "whim/whimlaw18.LookUnits", spec := "lookUnits", inPlace := ["slices.overlaps[whim/api.Live]", "slices.overlaps[whim/api.Dirty]"], unfollowed := true, recurses := true, apart := false }
def LookUnitsSaid : Prop := lookUnitsRow.holds Try.pinned (OpenSpec.ofChange lookUnitsSpec)

/-- ITS FALSE NEIGHBOUR: 'it returns false'. Refute it at one input. -/
def lookUnitsWrong : ChangeSpec := { name := "lookUnits", fn := fun _ => fun
  | [d] => { results := [.lit (.bool false)], args := [d] }
  | _ => none }
def LookUnitsWrongFalsely : Prop := lookUnitsRow.holds Try.pinned (OpenSpec.ofChange lookUnitsWrong)

/-- 'whimlaw18.LookEnds': WHATEVER THE INPUT: true; the input reads as it did. -/
def lookEndsSpec : ChangeSpec := { name := "lookEnds", fn := fun _ => fun
  | [d] => { results := [.lit (.bool true)], args := [d] }
  | _ => none }
def lookEndsRow : OpenClaim := { program := "ytaijgnhkdbdfcaa", sum := "525468c1b818c68e76d1fd17a500706b1351764af319fb0aedd54c723d10baf0", func := "whim/whimlaw18.LookEnds", spec := "lookEnds", inPlace := ["slices.overlaps[whim/api.Live]", "slices.overlaps[whim/api.Dirty]"], unfollowed := true, recurses := true, apart := false }
def LookEndsSaid : Prop := lookEndsRow.holds Try.pinned (OpenSpec.ofChange lookEndsSpec)

/-- ITS FALSE NEIGHBOUR: 'it returns false'. Refute it at one input. -/
def lookEndsWrong : ChangeSpec := { name := "lookEnds", fn := fun _ => fun
  | [d] => { results := [.lit (.bool false)], args := [d] }
  | _ => none }
def LookEndsWrongFalsely : Prop := lookEndsRow.holds Try.pinned (OpenSpec.ofChange lookEndsWrong)

/- THE SECOND FORM. 'bulk': how many values and letters a reading holds, each counted each time it is reached (what is shared counts as often as it is met; a slice's spare places count too). A statement '..UptoSaid' is the law's where the arguments, and the package variables that the reading takes, are together of bulk at most 1048576: NARROWER than '..Said'. Prove '..Said' where nothing that the law and all that it calls make is longer than what came in: it says more and counts as full. Else prove '..UptoSaid'. A law counts once. -/
mutual
def uptoBulk {H : Type} : DataW H → Nat
  | .lit (.string bytes) => bytes.length + 1
  | .lit _ => 1
  | .nil => 1
  | .ptr d => uptoBulk d + 1
  | .slice elems spare => uptoBulkAll elems + uptoBulkAll spare + 1
  | .agg parts => uptoBulkAll parts + 1
  | .iface _ d => uptoBulk d + 1
  | .map entries => uptoBulkEntries entries + 1
  | .held _ => 1
def uptoBulkAll {H : Type} : List (DataW H) → Nat
  | [] => 0
  | d :: r => uptoBulk d + uptoBulkAll r
def uptoBulkEntries {H : Type} : List (Lit × DataW H) → Nat
  | [] => 0
  | x :: r => uptoBulkEntry x + uptoBulkEntries r
def uptoBulkEntry {H : Type} : Lit × DataW H → Nat
  | (.string bytes, d) => bytes.length + uptoBulk d + 1
  | (_, d) => uptoBulk d + 1
 end
def uptoSmall : (H : Type) → List (DataW H) → Bool := fun _ ds => decide (uptoBulkAll ds ≤ 1048576)
def OpenSpec.upto (s : _root_.Go.ChangeSpec) : _root_.Go.OpenSpec := { _root_.Go.OpenSpec.ofChange s with cond := some uptoSmall }

/-- 'whimlaw18.LookMarks', WHERE WHAT IT READS IS OF BULK AT MOST 1048576: true; the input reads as it did. -/
def lookMarksUptoRow : OpenClaim := { program := "ytaijgnhkdbdfcaa", sum := "525468c1b818c68e76d1fd17a500706b1351764af319fb0aedd54c723d10baf0", func := "whim/whimlaw18.LookMarks", spec := "lookMarks", inPlace := ["slices.overlaps[whim/api.Live]", "slices.overlaps[whim/api.Dirty]"], unfollowed := true, recurses := true, apart := false, narrowed := true }
def LookMarksUptoSaid : Prop := lookMarksUptoRow.holds Try.pinned (OpenSpec.upto lookMarksSpec)

/-- 'whimlaw18.LookLives', WHERE WHAT IT READS IS OF BULK AT MOST 1048576: true; the input reads as it did. -/
def lookLivesUptoRow : OpenClaim := { program := "ytaijgnhkdbdfcaa", sum := "525468c1b818c68e76d1fd17a500706b1351764af319fb0aedd54c723d10baf0", func := "whim/whimlaw18.LookLives", spec := "lookLives", inPlace := ["slices.overlaps[whim/api.Live]", "slices.overlaps[whim/api.Dirty]"], unfollowed := true, recurses := true, apart := false, narrowed := true }
def LookLivesUptoSaid : Prop := lookLivesUptoRow.holds Try.pinned (OpenSpec.upto lookLivesSpec)

/-- 'whimlaw18.LookDirty', WHERE WHAT IT READS IS OF BULK AT MOST 1048576: true; the input reads as it did. -/
def lookDirtyUptoRow : OpenClaim := { program := "ytaijgnhkdbdfcaa", sum := "525468c1b818c68e76d1fd17a500706b1351764af319fb0aedd54c723d10baf0", func := "whim/whimlaw18.LookDirty", spec := "lookDirty", inPlace := ["slices.overlaps[whim/api.Live]", "slices.overlaps[whim/api.Dirty]"], unfollowed := true, recurses := true, apart := false, narrowed := true }
def LookDirtyUptoSaid : Prop := lookDirtyUptoRow.holds Try.pinned (OpenSpec.upto lookDirtySpec)

/-- 'whimlaw18.LookUnits', WHERE WHAT IT READS IS OF BULK AT MOST 1048576: true; the input reads as it did. -/
def lookUnitsUptoRow : OpenClaim := { program := "ytaijgnhkdbdfcaa", sum := "525468c1b818c68e76d1fd17a500706b1351764af319fb0aedd54c723d10baf0", func := "whim/whimlaw18.LookUnits", spec := "lookUnits", inPlace := ["slices.overlaps[whim/api.Live]", "slices.overlaps[whim/api.Dirty]"], unfollowed := true, recurses := true, apart := false, narrowed := true }
def LookUnitsUptoSaid : Prop := lookUnitsUptoRow.holds Try.pinned (OpenSpec.upto lookUnitsSpec)

/-- 'whimlaw18.LookEnds', WHERE WHAT IT READS IS OF BULK AT MOST 1048576: true; the input reads as it did. -/
def lookEndsUptoRow : OpenClaim := { program := "ytaijgnhkdbdfcaa", sum := "525468c1b818c68e76d1fd17a500706b1351764af319fb0aedd54c723d10baf0", func := "whim/whimlaw18.LookEnds", spec := "lookEnds", inPlace := ["slices.overlaps[whim/api.Live]", "slices.overlaps[whim/api.Dirty]"], unfollowed := true, recurses := true, apart := false, narrowed := true }
def LookEndsUptoSaid : Prop := lookEndsUptoRow.holds Try.pinned (OpenSpec.upto lookEndsSpec)

end Rows
end Go.Proofs.Ytaijgnhkdbdfcaa
