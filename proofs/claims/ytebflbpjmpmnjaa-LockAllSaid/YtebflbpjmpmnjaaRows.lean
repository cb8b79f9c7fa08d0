/-
  No cell of these rows narrows 'for every input' (looked for: loops, veiled, ifaces, maps, wideKeys, modest, calm, conditions, laid).
  DERIVED. THE GIVEN ROWS OF THIS SEAT. 5 by the template 'for every input the law returns true; each argument reads behind the call as it read before'; 0 by the template 'total and deterministic' (their statements: YtebflbpjmpmnjaaTotals.lean).
  GIVEN WITH THE SEED: the statements are not yours to turn. If you find one false, say at which input.
  Laid BY PROGRAM, IN A SANDBOX (cutbox-rows.mjs): the forced cells as the released guide's own fill.sh prints them over the translation c3e50adf4b9f03df… (all of the seat's roots in one cut). By AI agents, Wed Nov 11 2026. No macro, syntax, notation, axiom, sorry.
-/
import Derived.Test.YtebflbpjmpmnjaaChecked
import GoSem.Claim
import GoSem.ClaimJoined
import GoSem.ClaimMapViews
import Derived.JoinedTies
import Derived.KernelRfl
namespace Go.Proofs.Ytebflbpjmpmnjaa
/- THE CELL 'sum', in the pinned program and in every row, IS THE sha256 OF THE DUMP (.gsa) THAT YtebflbpjmpmnjaaProg.lean LOADS. Nothing in Lean hashes anything: it is a label: what it is worth is what the hold of that sum in a sandbox is worth. -/
noncomputable def Try.pinned : Pinned := { name := "ytebflbpjmpmnjaa", sum := "c3e50adf4b9f03df1c9cc758aebdcc1893281386be5b3afa0dd40b79f69441f9", checked := Try.checked }
namespace Rows
def none {H : Type} : Left H := { results := [], args := [] }

/-- 'whimlaw12.LockReaders': WHATEVER THE INPUT: true; the input reads as it did. -/
def lockReadersSpec : ChangeSpec := { name := "lockReaders", fn := fun _ => fun
  | [d1, d2] => { results := [.lit (.bool true)], args := [d1, d2] }
  | _ => none }
def lockReadersRow : OpenClaim := { program := "ytebflbpjmpmnjaa", sum := "c3e50adf4b9f03df1c9cc758aebdcc1893281386be5b3afa0dd40b79f69441f9", func := "whim/whimlaw12.LockReaders", spec := "lockReaders", unfollowed := true, recurses := true, apart := false }
def LockReadersSaid : Prop := lockReadersRow.holds Try.pinned (OpenSpec.ofChange lockReadersSpec)

/-- ITS FALSE NEIGHBOUR: 'it returns false'. Refute it at one input. -/
def lockReadersWrong : ChangeSpec := { name := "lockReaders", fn := fun _ => fun
  | [d1, d2] => { results := [.lit (.bool false)], args := [d1, d2] }
  | _ => none }
def LockReadersWrongFalsely : Prop := lockReadersRow.holds Try.pinned (OpenSpec.ofChange lockReadersWrong)

/-- 'whimlaw12.LockApart': WHATEVER THE INPUT: true; the input reads as it did. -/
def lockApartSpec : ChangeSpec := { name := "lockApart", fn := fun _ => fun
  | [d1, d2] => { results := [.lit (.bool true)], args := [d1, d2] }
  | _ => none }
def lockApartRow : OpenClaim := { program := "ytebflbpjmpmnjaa", sum := "c3e50adf4b9f03df1c9cc758aebdcc1893281386be5b3afa0dd40b79f69441f9", func := "whim/whimlaw12.LockApart", spec := "lockApart", unfollowed := true, recurses := true, apart := false }
def LockApartSaid : Prop := lockApartRow.holds Try.pinned (OpenSpec.ofChange lockApartSpec)

/-- ITS FALSE NEIGHBOUR: 'it returns false'. Refute it at one input. -/
def lockApartWrong : ChangeSpec := { name := "lockApart", fn := fun _ => fun
  | [d1, d2] => { results := [.lit (.bool false)], args := [d1, d2] }
  | _ => none }
def LockApartWrongFalsely : Prop := lockApartRow.holds Try.pinned (OpenSpec.ofChange lockApartWrong)

/-- 'whimlaw12.LockAll': WHATEVER THE INPUT: true; the input reads as it did. -/
def lockAllSpec : ChangeSpec := { name := "lockAll", fn := fun _ => fun
  | [d] => { results := [.lit (.bool true)], args := [d] }
  | _ => none }
def lockAllRow : OpenClaim := { program := "ytebflbpjmpmnjaa", sum := "c3e50adf4b9f03df1c9cc758aebdcc1893281386be5b3afa0dd40b79f69441f9", func := "whim/whimlaw12.LockAll", spec := "lockAll", unfollowed := true, recurses := true, apart := false }
def LockAllSaid : Prop := lockAllRow.holds Try.pinned (OpenSpec.ofChange lockAllSpec)

/-- ITS FALSE NEIGHBOUR: 'it returns false'. Refute it at one input. -/
def lockAllWrong : ChangeSpec := { name := "lockAll", fn := fun _ => fun
  | [d] => { results := [.lit (.bool false)], args := [d] }
  | _ => none }
def LockAllWrongFalsely : Prop := lockAllRow.holds Try.pinned (OpenSpec.ofChange lockAllWrong)

/-- 'whimlaw12.LockGoes': WHATEVER THE INPUT: true; the input reads as it did. -/
def lockGoesSpec : ChangeSpec := { name := "lockGoes", fn := fun _ => fun
  | [d] => { results := [.lit (.bool true)], args := [d] }
  | _ => none }
def lockGoesRow : OpenClaim := { program := "ytebflbpjmpmnjaa", sum := "c3e50adf4b9f03df1c9cc758aebdcc1893281386be5b3afa0dd40b79f69441f9", func := "whim/whimlaw12.LockGoes", spec := "lockGoes", unfollowed := true, recurses := true, apart := false }
def LockGoesSaid : Prop := lockGoesRow.holds Try.pinned (OpenSpec.ofChange lockGoesSpec)

/-- ITS FALSE NEIGHBOUR: 'it returns false'. Refute it at one input. -/
def lockGoesWrong : ChangeSpec := { name := "lockGoes", fn := fun _ => fun
  | [d] => { results := [.lit (.bool false)], args := [d] }
  | _ => none }
def LockGoesWrongFalsely : Prop := lockGoesRow.holds Try.pinned (OpenSpec.ofChange lockGoesWrong)

/-- 'whimlaw12.LockFrees': WHATEVER THE INPUT: true; the input reads as it did. -/
def lockFreesSpec : ChangeSpec := { name := "lockFrees", fn := fun _ => fun
  | [d1, d2] => { results := [.lit (.bool true)], args := [d1, d2] }
  | _ => none }
def lockFreesRow : OpenClaim := { program := "ytebflbpjmpmnjaa", sum := "c3e50adf4b9f03df1c9cc758aebdcc1893281386be5b3afa0dd40b79f69441f9", func := "whim/whimlaw12.LockFrees", spec := "lockFrees", unfollowed := true, recurses := true, apart := false }
def LockFreesSaid : Prop := lockFreesRow.holds Try.pinned (OpenSpec.ofChange lockFreesSpec)

/-- ITS FALSE NEIGHBOUR: 'it returns false'. Refute it at one input. -/
def lockFreesWrong : ChangeSpec := { name := "lockFrees", fn := fun _ => fun
  | [d1, d2] => { results := [.lit (.bool false)], args := [d1, d2] }
  | _ => none }
def LockFreesWrongFalsely : Prop := lockFreesRow.holds Try.pinned (OpenSpec.ofChange lockFreesWrong)

/- THE SECOND FORM. 'bulk': how many values and letters a reading holds, each counted each time it is reached (what is shared counts as often as it is met; a slice's spare places count too). A statement '..UptoSaid' is the law's where the arguments, and the package variables that the reading takes, are together of bulk at most 1048576: NARROWER than '..Said'. Prove '..Said' where nothing that the law and all that it calls make is longer than what came in: it says more and counts as full. Else prove '..UptoSaid'. A law counts once. -/
mutual
def uptoBulk {H : Type} : DataW H → Nat
  | .lit (.string bytes) => bytes.length + 1
  | .lit _ => 1
  | .nil => 1
  | .ptr d => uptoBulk d + 1
  | .slice elems spare => uptoBulkAll elems + uptoBulkAll spare + 1
  | .agg parts => uptoBulkAll parts + 1
  | .iface _ d => uptoBulk d + 1
  | .map entries => uptoBulkEntries entries + 1
  | .held _ => 1
def uptoBulkAll {H : Type} : List (DataW H) → Nat
  | [] => 0
  | d :: r => uptoBulk d + uptoBulkAll r
def uptoBulkEntries {H : Type} : List (Lit × DataW H) → Nat
  | [] => 0
  | x :: r => uptoBulkEntry x + uptoBulkEntries r
def uptoBulkEntry {H : Type} : Lit × DataW H → Nat
  | (.string bytes, d) => bytes.length + uptoBulk d + 1
  | (_, d) => uptoBulk d + 1
 end
def uptoSmall : (H : Type) → List (DataW H) → Bool := fun _ ds => decide (uptoBulkAll ds ≤ 1048576)
def OpenSpec.upto (s : _root_.Go.ChangeSpec) : _root_.Go.OpenSpec := { _root_.Go.OpenSpec.ofChange s with cond := some uptoSmall }

/-- 'whimlaw12.LockReaders', WHERE WHAT IT READS IS OF BULK AT MOST 1048576: true; the input reads as it did. -/
def lockReadersUptoRow : OpenClaim := { program := "ytebflbpjmpmnjaa", sum := "c3e50adf4b9f03df1c9cc758aebdcc1893281386be5b3afa0dd40b79f69441f9", func := "whim/whimlaw12.LockReaders", spec := "lockReaders", unfollowed := true, recurses := true, apart := false, narrowed := true }
def LockReadersUptoSaid : Prop := lockReadersUptoRow.holds Try.pinned (OpenSpec.upto lockReadersSpec)

/-- 'whimlaw12.LockApart', WHERE WHAT IT READS IS OF BULK AT MOST 1048576: true; the input reads as it did. -/
def lockApartUptoRow : OpenClaim := { program := "ytebflbpjmpmnjaa", sum := "c3e50adf4b9f03df1c9cc758aebdcc1893281386be5b3afa0dd40b79f69441f9", func := "whim/whimlaw12.LockApart", spec := "lockApart", unfollowed := true, recurses := true, apart := false, narrowed := true }
def LockApartUptoSaid : Prop := lockApartUptoRow.holds Try.pinned (OpenSpec.upto lockApartSpec)

/-- 'whimlaw12.LockAll', WHERE WHAT IT READS IS OF BULK AT MOST 1048576: true; the input reads as it did. -/
def lockAllUptoRow : OpenClaim := { program := "ytebflbpjmpmnjaa", sum := "c3e50adf4b9f03df1c9cc758aebdcc1893281386be5b3afa0dd40b79f69441f9", func := "whim/whimlaw12.LockAll", spec := "lockAll", unfollowed := true, recurses := true, apart := false, narrowed := true }
def LockAllUptoSaid : Prop := lockAllUptoRow.holds Try.pinned (OpenSpec.upto lockAllSpec)

/-- 'whimlaw12.LockGoes', WHERE WHAT IT READS IS OF BULK AT MOST 1048576: true; the input reads as it did. -/
def lockGoesUptoRow : OpenClaim := { program := "ytebflbpjmpmnjaa", sum := "c3e50adf4b9f03df1c9cc758aebdcc1893281386be5b3afa0dd40b79f69441f9", func := "whim/whimlaw12.LockGoes", spec := "lockGoes", unfollowed := true, recurses := true, apart := false, narrowed := true }
def LockGoesUptoSaid : Prop := lockGoesUptoRow.holds Try.pinned (OpenSpec.upto lockGoesSpec)

/-- 'whimlaw12.LockFrees', WHERE WHAT IT READS IS OF BULK AT MOST 1048576: true; the input reads as it did. -/
def lockFreesUptoRow : OpenClaim := { program := "ytebflbpjmpmnjaa", sum := "c3e50adf4b9f03df1c9cc758aebdcc1893281386be5b3afa0dd40b79f69441f9", func := "whim/whimlaw12.LockFrees", spec := "lockFrees", unfollowed := true, recurses := true, apart := false, narrowed := true }
def LockFreesUptoSaid : Prop := lockFreesUptoRow.holds Try.pinned (OpenSpec.upto lockFreesSpec)

end Rows
end Go.Proofs.Ytebflbpjmpmnjaa
