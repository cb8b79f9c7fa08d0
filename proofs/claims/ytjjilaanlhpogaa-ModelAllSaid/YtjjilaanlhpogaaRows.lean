/-
  No cell of these rows narrows 'for every input' (looked for: loops, veiled, ifaces, maps, wideKeys, modest, calm, conditions, laid).
  DERIVED. THE GIVEN ROWS OF THIS SEAT. 4 by the template 'for every input the law returns true; each argument reads behind the call as it read before'; 0 by the template 'total and deterministic' (their statements: YtjjilaanlhpogaaTotals.lean).
  GIVEN WITH THE SEED: the statements are not yours to turn. If you find one false, say at which input.
  Laid BY PROGRAM, IN A SANDBOX (cutbox-rows.mjs): the forced cells as the released guide's own fill.sh prints them over the translation eb32e762d5aa80ab… (all of the seat's roots in one cut). By AI agents, Wed Nov 11 2026. No macro, syntax, notation, axiom, sorry.
-/
import Derived.Test.YtjjilaanlhpogaaChecked
import GoSem.Claim
import GoSem.ClaimJoined
import GoSem.ClaimMapViews
import Derived.JoinedTies
import Derived.KernelRfl
namespace Go.Proofs.Ytjjilaanlhpogaa
/- THE CELL 'sum', in the pinned program and in every row, IS THE sha256 OF THE DUMP (.gsa) THAT YtjjilaanlhpogaaProg.lean LOADS. Nothing in Lean hashes anything: it is a label: what it is worth is what the hold of that sum in a sandbox is worth. -/
noncomputable def Try.pinned : Pinned := { name := "ytjjilaanlhpogaa", sum := "eb32e762d5aa80abc83c9ea4dbaacf3f8c09a3d0fd1e25a9bebf3bcfb9a5c9a5", checked := Try.checked }
namespace Rows
def none {H : Type} : Left H := { results := [], args := [] }

/-- 'whimlaw27.ModelAll': WHATEVER THE INPUT: true; the input reads as it did. -/
def modelAllSpec : ChangeSpec := { name := "modelAll", fn := fun _ => fun
  | [d] => { results := [.lit (.bool true)], args := [d] }
  | _ => none }
def modelAllRow : OpenClaim := { program := "ytjjilaanlhpogaa", sum := "eb32e762d5aa80abc83c9ea4dbaacf3f8c09a3d0fd1e25a9bebf3bcfb9a5c9a5", func := "whim/whimlaw27.ModelAll", spec := "modelAll", inPlace := ["maps.clone"], unfollowed := true, recurses := true, apart := false }
def ModelAllSaid : Prop := modelAllRow.holds Try.pinned (OpenSpec.ofChange modelAllSpec)

/-- ITS FALSE NEIGHBOUR: 'it returns false'. Refute it at one input. -/
def modelAllWrong : ChangeSpec := { name := "modelAll", fn := fun _ => fun
  | [d] => { results := [.lit (.bool false)], args := [d] }
  | _ => none }
def ModelAllWrongFalsely : Prop := modelAllRow.holds Try.pinned (OpenSpec.ofChange modelAllWrong)

/-- 'whimlaw27.ModelOne': WHATEVER THE INPUT: true; the input reads as it did. -/
def modelOneSpec : ChangeSpec := { name := "modelOne", fn := fun _ => fun
  | [d] => { results := [.lit (.bool true)], args := [d] }
  | _ => none }
def modelOneRow : OpenClaim := { program := "ytjjilaanlhpogaa", sum := "eb32e762d5aa80abc83c9ea4dbaacf3f8c09a3d0fd1e25a9bebf3bcfb9a5c9a5", func := "whim/whimlaw27.ModelOne", spec := "modelOne", inPlace := ["maps.clone"], unfollowed := true, recurses := true, apart := false }
def ModelOneSaid : Prop := modelOneRow.holds Try.pinned (OpenSpec.ofChange modelOneSpec)

/-- ITS FALSE NEIGHBOUR: 'it returns false'. Refute it at one input. -/
def modelOneWrong : ChangeSpec := { name := "modelOne", fn := fun _ => fun
  | [d] => { results := [.lit (.bool false)], args := [d] }
  | _ => none }
def ModelOneWrongFalsely : Prop := modelOneRow.holds Try.pinned (OpenSpec.ofChange modelOneWrong)

/-- 'whimlaw27.ModelSeek': WHATEVER THE INPUT: true; the input reads as it did. -/
def modelSeekSpec : ChangeSpec := { name := "modelSeek", fn := fun _ => fun
  | [d] => { results := [.lit (.bool true)], args := [d] }
  | _ => none }
def modelSeekRow : OpenClaim := { program := "ytjjilaanlhpogaa", sum := "eb32e762d5aa80abc83c9ea4dbaacf3f8c09a3d0fd1e25a9bebf3bcfb9a5c9a5", func := "whim/whimlaw27.ModelSeek", spec := "modelSeek", inPlace := ["maps.clone"], unfollowed := true, recurses := true, apart := false }
def ModelSeekSaid : Prop := modelSeekRow.holds Try.pinned (OpenSpec.ofChange modelSeekSpec)

/-- ITS FALSE NEIGHBOUR: 'it returns false'. Refute it at one input. -/
def modelSeekWrong : ChangeSpec := { name := "modelSeek", fn := fun _ => fun
  | [d] => { results := [.lit (.bool false)], args := [d] }
  | _ => none }
def ModelSeekWrongFalsely : Prop := modelSeekRow.holds Try.pinned (OpenSpec.ofChange modelSeekWrong)

/-- 'whimlaw27.ModelBad': WHATEVER THE INPUT: true; the input reads as it did. -/
def modelBadSpec : ChangeSpec := { name := "modelBad", fn := fun _ => fun
  | [d] => { results := [.lit (.bool true)], args := [d] }
  | _ => none }
def modelBadRow : OpenClaim := { program := "ytjjilaanlhpogaa", sum := "eb32e762d5aa80abc83c9ea4dbaacf3f8c09a3d0fd1e25a9bebf3bcfb9a5c9a5", func := "whim/whimlaw27.ModelBad", spec := "modelBad", inPlace := ["maps.clone"], unfollowed := true, recurses := true, apart := false }
def ModelBadSaid : Prop := modelBadRow.holds Try.pinned (OpenSpec.ofChange modelBadSpec)

/-- ITS FALSE NEIGHBOUR: 'it returns false'. Refute it at one input. -/
def modelBadWrong : ChangeSpec := { name := "modelBad", fn := fun _ => fun
  | [d] => { results := [.lit (.bool false)], args := [d] }
  | _ => none }
def ModelBadWrongFalsely : Prop := modelBadRow.holds Try.pinned (OpenSpec.ofChange modelBadWrong)

/- THE SECOND FORM. 'bulk': how many values and letters a reading holds, each counted each time it is reached (what is shared counts as often as it is met; a slice's spare places count too). A statement '..UptoSaid' is the law's where the arguments, and the package variables that the reading takes, are together of bulk at most 1048576: NARROWER than '..Said'. Prove '..Said' where nothing that the law and all that it calls make is longer than what came in: it says more and counts as full. Else prove '..UptoSaid'. A law counts once. -/
mutual
def uptoBulk {H : Type} : DataW H → Nat
  | .lit (.string bytes) => bytes.length + 1
  | .lit _ => 1
  | .nil => 1
  | .ptr d => uptoBulk d + 1
  | .slice elems spare => uptoBulkAll elems + uptoBulkAll spare + 1
  | .agg parts => uptoBulkAll parts + 1
  | .iface _ d => uptoBulk d + 1
  | .map entries => uptoBulkEntries entries + 1
  | .held _ => 1
def uptoBulkAll {H : Type} : List (DataW H) → Nat
  | [] => 0
  | d :: r => uptoBulk d + uptoBulkAll r
def uptoBulkEntries {H : Type} : List (Lit × DataW H) → Nat
  | [] => 0
  | x :: r => uptoBulkEntry x + uptoBulkEntries r
def uptoBulkEntry {H : Type} : Lit × DataW H → Nat
  | (.string bytes, d) => bytes.length + uptoBulk d + 1
  | (_, d) => uptoBulk d + 1
 end
def uptoSmall : (H : Type) → List (DataW H) → Bool := fun _ ds => decide (uptoBulkAll ds ≤ 1048576)
def OpenSpec.upto (s : _root_.Go.ChangeSpec) : _root_.Go.OpenSpec := { _root_.Go.OpenSpec.ofChange s with cond := some uptoSmall }

/-- 'whimlaw27.ModelAll', WHERE WHAT IT READS IS OF BULK AT MOST 1048576: true; the input reads as it did. -/
def modelAllUptoRow : OpenClaim := { program := "ytjjilaanlhpogaa", sum := "eb32e762d5aa80abc83c9ea4dbaacf3f8c09a3d0fd1e25a9bebf3bcfb9a5c9a5", func := "whim/whimlaw27.ModelAll", spec := "modelAll", inPlace := ["maps.clone"], unfollowed := true, recurses := true, apart := false, narrowed := true }
def ModelAllUptoSaid : Prop := modelAllUptoRow.holds Try.pinned (OpenSpec.upto modelAllSpec)

/-- 'whimlaw27.ModelOne', WHERE WHAT IT READS IS OF BULK AT MOST 1048576: true; the input reads as it did. -/
def modelOneUptoRow : OpenClaim := { program := "ytjjilaanlhpogaa", sum := "eb32e762d5aa80abc83c9ea4dbaacf3f8c09a3d0fd1e25a9bebf3bcfb9a5c9a5", func := "whim/whimlaw27.ModelOne", spec := "modelOne", inPlace := ["maps.clone"], unfollowed := true, recurses := true, apart := false, narrowed := true }
def ModelOneUptoSaid : Prop := modelOneUptoRow.holds Try.pinned (OpenSpec.upto modelOneSpec)

/-- 'whimlaw27.ModelSeek', WHERE WHAT IT READS IS OF BULK AT MOST 1048576: true; the input reads as it did. -/
def modelSeekUptoRow : OpenClaim := { program := "ytjjilaanlhpogaa", sum := "eb32e762d5aa80abc83c9ea4dbaacf3f8c09a3d0fd1e25a9bebf3bcfb9a5c9a5", func := "whim/whimlaw27.ModelSeek", spec := "modelSeek", inPlace := ["maps.clone"], unfollowed := true, recurses := true, apart := false, narrowed := true }
def ModelSeekUptoSaid : Prop := modelSeekUptoRow.holds Try.pinned (OpenSpec.upto modelSeekSpec)

/-- 'whimlaw27.ModelBad', WHERE WHAT IT READS IS OF BULK AT MOST 1048576: true; the input reads as it did. -/
def modelBadUptoRow : OpenClaim := { program := "ytjjilaanlhpogaa", sum := "eb32e762d5aa80abc83c9ea4dbaacf3f8c09a3d0fd1e25a9bebf3bcfb9a5c9a5", func := "whim/whimlaw27.ModelBad", spec := "modelBad", inPlace := ["maps.clone"], unfollowed := true, recurses := true, apart := false, narrowed := true }
def ModelBadUptoSaid : Prop := modelBadUptoRow.holds Try.pinned (OpenSpec.upto modelBadSpec)

end Rows
end Go.Proofs.Ytjjilaanlhpogaa
