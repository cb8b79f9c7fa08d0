/-
  No cell of these rows narrows 'for every input' (looked for: loops, veiled, ifaces, maps, wideKeys, modest, calm, conditions, laid).
  DERIVED. THE GIVEN ROWS OF THIS SEAT. 3 by the template 'for every input the law returns true; each argument reads behind the call as it read before'; 0 by the template 'total and deterministic' (their statements: YtlcphokjcdcgeaaTotals.lean).
  GIVEN WITH THE SEED: the statements are not yours to turn. If you find one false, say at which input.
  Laid BY PROGRAM, IN A SANDBOX (cutbox-rows.mjs): the forced cells as the released guide's own fill.sh prints them over the translation 4ec58abdfa46b6ac… (all of the seat's roots in one cut). By AI agents, Wed Nov 11 2026. No macro, syntax, notation, axiom, sorry.
-/
import Derived.Test.YtlcphokjcdcgeaaChecked
import GoSem.Claim
import GoSem.ClaimJoined
import GoSem.ClaimMapViews
import Derived.JoinedTies
import Derived.KernelRfl
namespace Go.Proofs.Ytlcphokjcdcgeaa
/- THE CELL 'sum', in the pinned program and in every row, IS THE sha256 OF THE DUMP (.gsa) THAT YtlcphokjcdcgeaaProg.lean LOADS. Nothing in Lean hashes anything: it is a label: what it is worth is what the hold of that sum in a sandbox is worth. -/
noncomputable def Try.pinned : Pinned := { name := "ytlcphokjcdcgeaa", sum := "4ec58abdfa46b6acfe0d29dd0f557a75eb001afb117f299f41fd883ef7f02712", checked := Try.checked }
namespace Rows
def none {H : Type} : Left H := { results := [], args := [] }

/-- 'whimlaw11.ModeAll': WHATEVER THE INPUT: true; the input reads as it did. -/
def modeAllSpec : ChangeSpec := { name := "modeAll", fn := fun _ => fun
  | [d1, d2] => { results := [.lit (.bool true)], args := [d1, d2] }
  | _ => none }
def modeAllRow : OpenClaim := { program := "ytlcphokjcdcgeaa", sum := "4ec58abdfa46b6acfe0d29dd0f557a75eb001afb117f299f41fd883ef7f02712", func := "whim/whimlaw11.ModeAll", spec := "modeAll", apart := false }
def ModeAllSaid : Prop := modeAllRow.holds Try.pinned (OpenSpec.ofChange modeAllSpec)

/-- ITS FALSE NEIGHBOUR: 'it returns false'. Refute it at one input. -/
def modeAllWrong : ChangeSpec := { name := "modeAll", fn := fun _ => fun
  | [d1, d2] => { results := [.lit (.bool false)], args := [d1, d2] }
  | _ => none }
def ModeAllWrongFalsely : Prop := modeAllRow.holds Try.pinned (OpenSpec.ofChange modeAllWrong)

/-- 'whimlaw11.ModeLaws': WHATEVER THE INPUT: true; the input reads as it did. -/
def modeLawsSpec : ChangeSpec := { name := "modeLaws", fn := fun _ => fun
  | [] => { results := [.lit (.bool true)], args := [] }
  | _ => none }
def modeLawsRow : OpenClaim := { program := "ytlcphokjcdcgeaa", sum := "4ec58abdfa46b6acfe0d29dd0f557a75eb001afb117f299f41fd883ef7f02712", func := "whim/whimlaw11.ModeLaws", spec := "modeLaws", apart := false }
def ModeLawsSaid : Prop := modeLawsRow.holds Try.pinned (OpenSpec.ofChange modeLawsSpec)

/-- ITS FALSE NEIGHBOUR: 'it returns false'. Refute it at one input. -/
def modeLawsWrong : ChangeSpec := { name := "modeLaws", fn := fun _ => fun
  | [] => { results := [.lit (.bool false)], args := [] }
  | _ => none }
def ModeLawsWrongFalsely : Prop := modeLawsRow.holds Try.pinned (OpenSpec.ofChange modeLawsWrong)

/-- 'whimlaw11.ModeForms': WHATEVER THE INPUT: true; the input reads as it did. -/
def modeFormsSpec : ChangeSpec := { name := "modeForms", fn := fun _ => fun
  | [] => { results := [.lit (.bool true)], args := [] }
  | _ => none }
def modeFormsRow : OpenClaim := { program := "ytlcphokjcdcgeaa", sum := "4ec58abdfa46b6acfe0d29dd0f557a75eb001afb117f299f41fd883ef7f02712", func := "whim/whimlaw11.ModeForms", spec := "modeForms", apart := false }
def ModeFormsSaid : Prop := modeFormsRow.holds Try.pinned (OpenSpec.ofChange modeFormsSpec)

/-- ITS FALSE NEIGHBOUR: 'it returns false'. Refute it at one input. -/
def modeFormsWrong : ChangeSpec := { name := "modeForms", fn := fun _ => fun
  | [] => { results := [.lit (.bool false)], args := [] }
  | _ => none }
def ModeFormsWrongFalsely : Prop := modeFormsRow.holds Try.pinned (OpenSpec.ofChange modeFormsWrong)

/- THE SECOND FORM. 'bulk': how many values and letters a reading holds, each counted each time it is reached (what is shared counts as often as it is met; a slice's spare places count too). A statement '..UptoSaid' is the law's where the arguments, and the package variables that the reading takes, are together of bulk at most 1048576: NARROWER than '..Said'. Prove '..Said' where nothing that the law and all that it calls make is longer than what came in: it says more and counts as full. Else prove '..UptoSaid'. A law counts once. -/
mutual
def uptoBulk {H : Type} : DataW H → Nat
  | .lit (.string bytes) => bytes.length + 1
  | .lit _ => 1
  | .nil => 1
  | .ptr d => uptoBulk d + 1
  | .slice elems spare => uptoBulkAll elems + uptoBulkAll spare + 1
  | .agg parts => uptoBulkAll parts + 1
  | .iface _ d => uptoBulk d + 1
  | .map entries => uptoBulkEntries entries + 1
  | .held _ => 1
def uptoBulkAll {H : Type} : List (DataW H) → Nat
  | [] => 0
  | d :: r => uptoBulk d + uptoBulkAll r
def uptoBulkEntries {H : Type} : List (Lit × DataW H) → Nat
  | [] => 0
  | x :: r => uptoBulkEntry x + uptoBulkEntries r
def uptoBulkEntry {H : Type} : Lit × DataW H → Nat
  | (.string bytes, d) => bytes.length + uptoBulk d + 1
  | (_, d) => uptoBulk d + 1
 end
def uptoSmall : (H : Type) → List (DataW H) → Bool := fun _ ds => decide (uptoBulkAll ds ≤ 1048576)
def OpenSpec.upto (s : _root_.Go.ChangeSpec) : _root_.Go.OpenSpec := { _root_.Go.OpenSpec.ofChange s with cond := some uptoSmall }

/-- 'whimlaw11.ModeAll', WHERE WHAT IT READS IS OF BULK AT MOST 1048576: true; the input reads as it did. -/
def modeAllUptoRow : OpenClaim := { program := "ytlcphokjcdcgeaa", sum := "4ec58abdfa46b6acfe0d29dd0f557a75eb001afb117f299f41fd883ef7f02712", func := "whim/whimlaw11.ModeAll", spec := "modeAll", apart := false, narrowed := true }
def ModeAllUptoSaid : Prop := modeAllUptoRow.holds Try.pinned (OpenSpec.upto modeAllSpec)

/-- 'whimlaw11.ModeLaws', WHERE WHAT IT READS IS OF BULK AT MOST 1048576: true; the input reads as it did. -/
def modeLawsUptoRow : OpenClaim := { program := "ytlcphokjcdcgeaa", sum := "4ec58abdfa46b6acfe0d29dd0f557a75eb001afb117f299f41fd883ef7f02712", func := "whim/whimlaw11.ModeLaws", spec := "modeLaws", apart := false, narrowed := true }
def ModeLawsUptoSaid : Prop := modeLawsUptoRow.holds Try.pinned (OpenSpec.upto modeLawsSpec)

/-- 'whimlaw11.ModeForms', WHERE WHAT IT READS IS OF BULK AT MOST 1048576: true; the input reads as it did. -/
def modeFormsUptoRow : OpenClaim := { program := "ytlcphokjcdcgeaa", sum := "4ec58abdfa46b6acfe0d29dd0f557a75eb001afb117f299f41fd883ef7f02712", func := "whim/whimlaw11.ModeForms", spec := "modeForms", apart := false, narrowed := true }
def ModeFormsUptoSaid : Prop := modeFormsUptoRow.holds Try.pinned (OpenSpec.upto modeFormsSpec)

end Rows
end Go.Proofs.Ytlcphokjcdcgeaa
