/-
  No cell of these rows narrows 'for every input' (looked for: loops, veiled, ifaces, maps, wideKeys, modest, calm, conditions, laid).
  DERIVED. THE GIVEN ROWS OF THIS SEAT. 3 by the template 'for every input the law returns true; each argument reads behind the call as it read before'; 0 by the template 'total and deterministic' (their statements: YtkicocaejfhgiaaTotals.lean).
  GIVEN WITH THE SEED: the statements are not yours to turn. If you find one false, say at which input.
  Laid BY PROGRAM, IN A SANDBOX (cutbox-rows.mjs): the forced cells as the released guide's own fill.sh prints them over the translation 3e3e256393e58d9c… (all of the seat's roots in one cut). By AI agents, Wed Nov 11 2026. No macro, syntax, notation, axiom, sorry.
-/
import Derived.Test.YtkicocaejfhgiaaChecked
import GoSem.Claim
import GoSem.ClaimJoined
import GoSem.ClaimMapViews
import Derived.JoinedTies
import Derived.KernelRfl
namespace Go.Proofs.Ytkicocaejfhgiaa
/- THE CELL 'sum', in the pinned program and in every row, IS THE sha256 OF THE DUMP (.gsa) THAT YtkicocaejfhgiaaProg.lean LOADS. Nothing in Lean hashes anything: it is a label: what it is worth is what the hold of that sum in a sandbox is worth. -/
noncomputable def Try.pinned : Pinned := { name := "ytkicocaejfhgiaa", sum := "3e3e256393e58d9c9baeb05f1a8f861860b54b9a1e2c3ec4f581dbacfe9e1c38", checked := Try.checked }
namespace Rows
def none {H : Type} : Left H := { results := [], args := [] }

/-- 'whimlaw14.DeedAll': WHATEVER THE INPUT: true; the input reads as it did. -/
def deedAllSpec : ChangeSpec := { name := "deedAll", fn := fun _ => fun
  | [d] => { results := [.lit (.bool true)], args := [d] }
  | _ => none }
def deedAllRow : OpenClaim := { program := "ytkicocaejfhgiaa", sum := "3e3e256393e58d9c9baeb05f1a8f861860b54b9a1e2c3ec4f581dbacfe9e1c38", func := "whim/whimlaw14.DeedAll", spec := "deedAll", apart := false }
def DeedAllSaid : Prop := deedAllRow.holds Try.pinned (OpenSpec.ofChange deedAllSpec)

/-- ITS FALSE NEIGHBOUR: 'it returns false'. Refute it at one input. -/
def deedAllWrong : ChangeSpec := { name := "deedAll", fn := fun _ => fun
  | [d] => { results := [.lit (.bool false)], args := [d] }
  | _ => none }
def DeedAllWrongFalsely : Prop := deedAllRow.holds Try.pinned (OpenSpec.ofChange deedAllWrong)

/-- 'whimlaw14.DeedBack': WHATEVER THE INPUT: true; the input reads as it did. -/
def deedBackSpec : ChangeSpec := { name := "deedBack", fn := fun _ => fun
  | [d1, d2, d3, d4] => { results := [.lit (.bool true)], args := [d1, d2, d3, d4] }
  | _ => none }
def deedBackRow : OpenClaim := { program := "ytkicocaejfhgiaa", sum := "3e3e256393e58d9c9baeb05f1a8f861860b54b9a1e2c3ec4f581dbacfe9e1c38", func := "whim/whimlaw14.DeedBack", spec := "deedBack", apart := false }
def DeedBackSaid : Prop := deedBackRow.holds Try.pinned (OpenSpec.ofChange deedBackSpec)

/-- ITS FALSE NEIGHBOUR: 'it returns false'. Refute it at one input. -/
def deedBackWrong : ChangeSpec := { name := "deedBack", fn := fun _ => fun
  | [d1, d2, d3, d4] => { results := [.lit (.bool false)], args := [d1, d2, d3, d4] }
  | _ => none }
def DeedBackWrongFalsely : Prop := deedBackRow.holds Try.pinned (OpenSpec.ofChange deedBackWrong)

/-- 'whimlaw14.DeedSaves': WHATEVER THE INPUT: true; the input reads as it did. -/
def deedSavesSpec : ChangeSpec := { name := "deedSaves", fn := fun _ => fun
  | [d1, d2] => { results := [.lit (.bool true)], args := [d1, d2] }
  | _ => none }
def deedSavesRow : OpenClaim := { program := "ytkicocaejfhgiaa", sum := "3e3e256393e58d9c9baeb05f1a8f861860b54b9a1e2c3ec4f581dbacfe9e1c38", func := "whim/whimlaw14.DeedSaves", spec := "deedSaves", apart := false }
def DeedSavesSaid : Prop := deedSavesRow.holds Try.pinned (OpenSpec.ofChange deedSavesSpec)

/-- ITS FALSE NEIGHBOUR: 'it returns false'. Refute it at one input. -/
def deedSavesWrong : ChangeSpec := { name := "deedSaves", fn := fun _ => fun
  | [d1, d2] => { results := [.lit (.bool false)], args := [d1, d2] }
  | _ => none }
def DeedSavesWrongFalsely : Prop := deedSavesRow.holds Try.pinned (OpenSpec.ofChange deedSavesWrong)

/- THE SECOND FORM. 'bulk': how many values and letters a reading holds, each counted each time it is reached (what is shared counts as often as it is met; a slice's spare places count too). A statement '..UptoSaid' is the law's where the arguments, and the package variables that the reading takes, are together of bulk at most 1048576: NARROWER than '..Said'. Prove '..Said' where nothing that the law and all that it calls make is longer than what came in: it says more and counts as full. Else prove '..UptoSaid'. A law counts once. -/
mutual
def uptoBulk {H : Type} : DataW H → Nat
  | .lit (.string bytes) => bytes.length + 1
  | .lit _ => 1
  | .nil => 1
  | .ptr d => uptoBulk d + 1
  | .slice elems spare => uptoBulkAll elems + uptoBulkAll spare + 1
  | .agg parts => uptoBulkAll parts + 1
  | .iface _ d => uptoBulk d + 1
  | .map entries => uptoBulkEntries entries + 1
  | .held _ => 1
def uptoBulkAll {H : Type} : List (DataW H) → Nat
  | [] => 0
  | d :: r => uptoBulk d + uptoBulkAll r
def uptoBulkEntries {H : Type} : List (Lit × DataW H) → Nat
  | [] => 0
  | x :: r => uptoBulkEntry x + uptoBulkEntries r
def uptoBulkEntry {H : Type} : Lit × DataW H → Nat
  | (.string bytes, d) => bytes.length + uptoBulk d + 1
  | (_, d) => uptoBulk d + 1
 end
def uptoSmall : (H : Type) → List (DataW H) → Bool := fun _ ds => decide (uptoBulkAll ds ≤ 1048576)
def OpenSpec.upto (s : _root_.Go.ChangeSpec) : _root_.Go.OpenSpec := { _root_.Go.OpenSpec.ofChange s with cond := some uptoSmall }

/-- 'whimlaw14.DeedAll', WHERE WHAT IT READS IS OF BULK AT MOST 1048576: true; the input reads as it did. -/
def deedAllUptoRow : OpenClaim := { program := "ytkicocaejfhgiaa", sum := "3e3e256393e58d9c9baeb05f1a8f861860b54b9a1e2c3ec4f581dbacfe9e1c38", func := "whim/whimlaw14.DeedAll", spec := "deedAll", apart := false, narrowed := true }
def DeedAllUptoSaid : Prop := deedAllUptoRow.holds Try.pinned (OpenSpec.upto deedAllSpec)

/-- 'whimlaw14.DeedBack', WHERE WHAT IT READS IS OF BULK AT MOST 1048576: true; the input reads as it did. -/
def deedBackUptoRow : OpenClaim := { program := "ytkicocaejfhgiaa", sum := "3e3e256393e58d9c9baeb05f1a8f861860b54b9a1e2c3ec4f581dbacfe9e1c38", func := "whim/whimlaw14.DeedBack", spec := "deedBack", apart := false, narrowed := true }
def DeedBackUptoSaid : Prop := deedBackUptoRow.holds Try.pinned (OpenSpec.upto deedBackSpec)

/-- 'whimlaw14.DeedSaves', WHERE WHAT IT READS IS OF BULK AT MOST 1048576: true; the input reads as it did. -/
def deedSavesUptoRow : OpenClaim := { program := "ytkicocaejfhgiaa", sum := "3e3e256393e58d9c9baeb05f1a8f861860b54b9a1e2c3ec4f581dbacfe9e1c38", func := "whim/whimlaw14.DeedSaves", spec := "deedSaves", apart := false, narrowed := true }
def DeedSavesUptoSaid : Prop := deedSavesUptoRow.holds Try.pinned (OpenSpec.upto deedSavesSpec)

end Rows
end Go.Proofs.Ytkicocaejfhgiaa
