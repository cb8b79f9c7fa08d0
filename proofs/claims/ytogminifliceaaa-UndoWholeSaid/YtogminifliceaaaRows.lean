/-
  No cell of these rows narrows 'for every input' (looked for: loops, veiled, ifaces, maps, wideKeys, modest, calm, conditions, laid).
  DERIVED. THE GIVEN ROWS OF THIS SEAT. 4 by the template 'for every input the law returns true; each argument reads behind the call as it read before'; 0 by the template 'total and deterministic' (their statements: YtogminifliceaaaTotals.lean).
  GIVEN WITH THE SEED: the statements are not yours to turn. If you find one false, say at which input.
  Laid BY PROGRAM, IN A SANDBOX (cutbox-rows.mjs): the forced cells as the released guide's own fill.sh prints them over the translation 2a208caf579d54e9… (all of the seat's roots in one cut). By AI agents, Wed Nov 11 2026. No macro, syntax, notation, axiom, sorry.
-/
import Derived.Test.YtogminifliceaaaChecked
import GoSem.Claim
import GoSem.ClaimJoined
import GoSem.ClaimMapViews
import Derived.JoinedTies
import Derived.KernelRfl
namespace Go.Proofs.Ytogminifliceaaa
/- THE CELL 'sum', in the pinned program and in every row, IS THE sha256 OF THE DUMP (.gsa) THAT YtogminifliceaaaProg.lean LOADS. Nothing in Lean hashes anything: it is a label: what it is worth is what the hold of that sum in a sandbox is worth. -/
noncomputable def Try.pinned : Pinned := { name := "ytogminifliceaaa", sum := "2a208caf579d54e97241c1e2d8c494591ad12d892bd025ae2fc01cff7326a378", checked := Try.checked }
namespace Rows
def none {H : Type} : Left H := { results := [], args := [] }

/-- 'whimlaw17.UndoAll': WHATEVER THE INPUT: true; the input reads as it did. -/
def undoAllSpec : ChangeSpec := { name := "undoAll", fn := fun _ => fun
  | [d1, d2, d3] => { results := [.lit (.bool true)], args := [d1, d2, d3] }
  | _ => none }
def undoAllRow : OpenClaim := { program := "ytogminifliceaaa", sum := "2a208caf579d54e97241c1e2d8c494591ad12d892bd025ae2fc01cff7326a378", func := "whim/whimlaw17.UndoAll", spec := "undoAll", apart := false }
def UndoAllSaid : Prop := undoAllRow.holds Try.pinned (OpenSpec.ofChange undoAllSpec)

/-- ITS FALSE NEIGHBOUR: 'it returns false'. Refute it at one input. -/
def undoAllWrong : ChangeSpec := { name := "undoAll", fn := fun _ => fun
  | [d1, d2, d3] => { results := [.lit (.bool false)], args := [d1, d2, d3] }
  | _ => none }
def UndoAllWrongFalsely : Prop := undoAllRow.holds Try.pinned (OpenSpec.ofChange undoAllWrong)

/-- 'whimlaw17.UndoWhole': WHATEVER THE INPUT: true; the input reads as it did. -/
def undoWholeSpec : ChangeSpec := { name := "undoWhole", fn := fun _ => fun
  | [d1, d2] => { results := [.lit (.bool true)], args := [d1, d2] }
  | _ => none }
def undoWholeRow : OpenClaim := { program := "ytogminifliceaaa", sum := "2a208caf579d54e97241c1e2d8c494591ad12d892bd025ae2fc01cff7326a378", func := "whim/whimlaw17.UndoWhole", spec := "undoWhole", apart := false }
def UndoWholeSaid : Prop := undoWholeRow.holds Try.pinned (OpenSpec.ofChange undoWholeSpec)

/-- ITS FALSE NEIGHBOUR: 'it returns false'. Refute it at one input. -/
def undoWholeWrong : ChangeSpec := { name := "undoWhole", fn := fun _ => fun
  | [d1, d2] => { results := [.lit (.bool false)], args := [d1, d2] }
  | _ => none }
def UndoWholeWrongFalsely : Prop := undoWholeRow.holds Try.pinned (OpenSpec.ofChange undoWholeWrong)

/-- 'whimlaw17.UndoForms': WHATEVER THE INPUT: true; the input reads as it did. -/
def undoFormsSpec : ChangeSpec := { name := "undoForms", fn := fun _ => fun
  | [] => { results := [.lit (.bool true)], args := [] }
  | _ => none }
def undoFormsRow : OpenClaim := { program := "ytogminifliceaaa", sum := "2a208caf579d54e97241c1e2d8c494591ad12d892bd025ae2fc01cff7326a378", func := "whim/whimlaw17.UndoForms", spec := "undoForms", apart := false }
def UndoFormsSaid : Prop := undoFormsRow.holds Try.pinned (OpenSpec.ofChange undoFormsSpec)

/-- ITS FALSE NEIGHBOUR: 'it returns false'. Refute it at one input. -/
def undoFormsWrong : ChangeSpec := { name := "undoForms", fn := fun _ => fun
  | [] => { results := [.lit (.bool false)], args := [] }
  | _ => none }
def UndoFormsWrongFalsely : Prop := undoFormsRow.holds Try.pinned (OpenSpec.ofChange undoFormsWrong)

/-- 'whimlaw17.UndoBacks': WHATEVER THE INPUT: true; the input reads as it did. -/
def undoBacksSpec : ChangeSpec := { name := "undoBacks", fn := fun _ => fun
  | [d1, d2, d3, d4, d5, d6, d7] => { results := [.lit (.bool true)], args := [d1, d2, d3, d4, d5, d6, d7] }
  | _ => none }
def undoBacksRow : OpenClaim := { program := "ytogminifliceaaa", sum := "2a208caf579d54e97241c1e2d8c494591ad12d892bd025ae2fc01cff7326a378", func := "whim/whimlaw17.UndoBacks", spec := "undoBacks", apart := false }
def UndoBacksSaid : Prop := undoBacksRow.holds Try.pinned (OpenSpec.ofChange undoBacksSpec)

/-- ITS FALSE NEIGHBOUR: 'it returns false'. Refute it at one input. -/
def undoBacksWrong : ChangeSpec := { name := "undoBacks", fn := fun _ => fun
  | [d1, d2, d3, d4, d5, d6, d7] => { results := [.lit (.bool false)], args := [d1, d2, d3, d4, d5, d6, d7] }
  | _ => none }
def UndoBacksWrongFalsely : Prop := undoBacksRow.holds Try.pinned (OpenSpec.ofChange undoBacksWrong)

/- THE SECOND FORM. 'bulk': how many values and letters a reading holds, each counted each time it is reached (what is shared counts as often as it is met; a slice's spare places count too). A statement '..UptoSaid' is the law's where the arguments, and the package variables that the reading takes, are together of bulk at most 1048576: NARROWER than '..Said'. Prove '..Said' where nothing that the law and all that it calls make is longer than what came in: it says more and counts as full. Else prove '..UptoSaid'. A law counts once. -/
mutual
def uptoBulk {H : Type} : DataW H → Nat
  | .lit (.string bytes) => bytes.length + 1
  | .lit _ => 1
  | .nil => 1
  | .ptr d => uptoBulk d + 1
  | .slice elems spare => uptoBulkAll elems + uptoBulkAll spare + 1
  | .agg parts => uptoBulkAll parts + 1
  | .iface _ d => uptoBulk d + 1
  | .map entries => uptoBulkEntries entries + 1
  | .held _ => 1
def uptoBulkAll {H : Type} : List (DataW H) → Nat
  | [] => 0
  | d :: r => uptoBulk d + uptoBulkAll r
def uptoBulkEntries {H : Type} : List (Lit × DataW H) → Nat
  | [] => 0
  | x :: r => uptoBulkEntry x + uptoBulkEntries r
def uptoBulkEntry {H : Type} : Lit × DataW H → Nat
  | (.string bytes, d) => bytes.length + uptoBulk d + 1
  | (_, d) => uptoBulk d + 1
 end
def uptoSmall : (H : Type) → List (DataW H) → Bool := fun _ ds => decide (uptoBulkAll ds ≤ 1048576)
def OpenSpec.upto (s : _root_.Go.ChangeSpec) : _root_.Go.OpenSpec := { _root_.Go.OpenSpec.ofChange s with cond := some uptoSmall }

/-- 'whimlaw17.UndoAll', WHERE WHAT IT READS IS OF BULK AT MOST 1048576: true; the input reads as it did. -/
def undoAllUptoRow : OpenClaim := { program := "ytogminifliceaaa", sum := "2a208caf579d54e97241c1e2d8c494591ad12d892bd025ae2fc01cff7326a378", func := "whim/whimlaw17.UndoAll", spec := "undoAll", apart := false, narrowed := true }
def UndoAllUptoSaid : Prop := undoAllUptoRow.holds Try.pinned (OpenSpec.upto undoAllSpec)

/-- 'whimlaw17.UndoWhole', WHERE WHAT IT READS IS OF BULK AT MOST 1048576: true; the input reads as it did. -/
def undoWholeUptoRow : OpenClaim := { program := "ytogminifliceaaa", sum := "2a208caf579d54e97241c1e2d8c494591ad12d892bd025ae2fc01cff7326a378", func := "whim/whimlaw17.UndoWhole", spec := "undoWhole", apart := false, narrowed := true }
def UndoWholeUptoSaid : Prop := undoWholeUptoRow.holds Try.pinned (OpenSpec.upto undoWholeSpec)

/-- 'whimlaw17.UndoForms', WHERE WHAT IT READS IS OF BULK AT MOST 1048576: true; the input reads as it did. -/
def undoFormsUptoRow : OpenClaim := { program := "ytogminifliceaaa", sum := "2a208caf579d54e97241c1e2d8c494591ad12d892bd025ae2fc01cff7326a378", func := "whim/whimlaw17.UndoForms", spec := "undoForms", apart := false, narrowed := true }
def UndoFormsUptoSaid : Prop := undoFormsUptoRow.holds Try.pinned (OpenSpec.upto undoFormsSpec)

/-- 'whimlaw17.UndoBacks', WHERE WHAT IT READS IS OF BULK AT MOST 1048576: true; the input reads as it did. -/
def undoBacksUptoRow : OpenClaim := { program := "ytogminifliceaaa", sum := "2a208caf579d54e97241c1e2d8c494591ad12d892bd025ae2fc01cff7326a378", func := "whim/whimlaw17.UndoBacks", spec := "undoBacks", apart := false, narrowed := true }
def UndoBacksUptoSaid : Prop := undoBacksUptoRow.holds Try.pinned (OpenSpec.upto undoBacksSpec)

end Rows
end Go.Proofs.Ytogminifliceaaa
