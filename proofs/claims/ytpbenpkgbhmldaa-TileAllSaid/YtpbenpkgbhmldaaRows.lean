/-
  No cell of these rows narrows 'for every input' (looked for: loops, veiled, ifaces, maps, wideKeys, modest, calm, conditions, laid).
  DERIVED. THE GIVEN ROWS OF THIS SEAT. 7 by the template 'for every input the law returns true; each argument reads behind the call as it read before'; 0 by the template 'total and deterministic' (their statements: YtpbenpkgbhmldaaTotals.lean).
  GIVEN WITH THE SEED: the statements are not yours to turn. If you find one false, say at which input.
  Laid BY PROGRAM, IN A SANDBOX (cutbox-rows.mjs): the forced cells as the released guide's own fill.sh prints them over the translation 6a4b258e7d780a52… (all of the seat's roots in one cut). By AI agents, Wed Nov 11 2026. No macro, syntax, notation, axiom, sorry.
-/
import Derived.Test.YtpbenpkgbhmldaaChecked
import GoSem.Claim
import GoSem.ClaimJoined
import GoSem.ClaimMapViews
import Derived.JoinedTies
import Derived.KernelRfl
namespace Go.Proofs.Ytpbenpkgbhmldaa
/- THE CELL 'sum', in the pinned program and in every row, IS THE sha256 OF THE DUMP (.gsa) THAT YtpbenpkgbhmldaaProg.lean LOADS. Nothing in Lean hashes anything: it is a label: what it is worth is what the hold of that sum in a sandbox is worth. -/
noncomputable def Try.pinned : Pinned := { name := "ytpbenpkgbhmldaa", sum := "6a4b258e7d780a528b95cb7352d31def67a6531b69b87972db8051e7469269a7", checked := Try.checked }
namespace Rows
def none {H : Type} : Left H := { results := [], args := [] }

/-- 'whimlaw1.TileSubset': WHATEVER THE INPUT: true; the input reads as it did. -/
def tileSubsetSpec : ChangeSpec := { name := "tileSubset", fn := fun _ => fun
  | [d1, d2, d3] => { results := [.lit (.bool true)], args := [d1, d2, d3] }
  | _ => none }
def tileSubsetRow : OpenClaim := { program := "ytpbenpkgbhmldaa", sum := "6a4b258e7d780a528b95cb7352d31def67a6531b69b87972db8051e7469269a7", func := "whim/whimlaw1.TileSubset", spec := "tileSubset", unfollowed := true, recurses := true, apart := false }
def TileSubsetSaid : Prop := tileSubsetRow.holds Try.pinned (OpenSpec.ofChange tileSubsetSpec)

/-- ITS FALSE NEIGHBOUR: 'it returns false'. Refute it at one input. -/
def tileSubsetWrong : ChangeSpec := { name := "tileSubset", fn := fun _ => fun
  | [d1, d2, d3] => { results := [.lit (.bool false)], args := [d1, d2, d3] }
  | _ => none }
def TileSubsetWrongFalsely : Prop := tileSubsetRow.holds Try.pinned (OpenSpec.ofChange tileSubsetWrong)

/-- 'whimlaw1.TileLast': WHATEVER THE INPUT: true; the input reads as it did. -/
def tileLastSpec : ChangeSpec := { name := "tileLast", fn := fun _ => fun
  | [d1, d2] => { results := [.lit (.bool true)], args := [d1, d2] }
  | _ => none }
def tileLastRow : OpenClaim := { program := "ytpbenpkgbhmldaa", sum := "6a4b258e7d780a528b95cb7352d31def67a6531b69b87972db8051e7469269a7", func := "whim/whimlaw1.TileLast", spec := "tileLast", unfollowed := true, recurses := true, apart := false }
def TileLastSaid : Prop := tileLastRow.holds Try.pinned (OpenSpec.ofChange tileLastSpec)

/-- ITS FALSE NEIGHBOUR: 'it returns false'. Refute it at one input. -/
def tileLastWrong : ChangeSpec := { name := "tileLast", fn := fun _ => fun
  | [d1, d2] => { results := [.lit (.bool false)], args := [d1, d2] }
  | _ => none }
def TileLastWrongFalsely : Prop := tileLastRow.holds Try.pinned (OpenSpec.ofChange tileLastWrong)

/-- 'whimlaw1.TileSynced': WHATEVER THE INPUT: true; the input reads as it did. -/
def tileSyncedSpec : ChangeSpec := { name := "tileSynced", fn := fun _ => fun
  | [d1, d2] => { results := [.lit (.bool true)], args := [d1, d2] }
  | _ => none }
def tileSyncedRow : OpenClaim := { program := "ytpbenpkgbhmldaa", sum := "6a4b258e7d780a528b95cb7352d31def67a6531b69b87972db8051e7469269a7", func := "whim/whimlaw1.TileSynced", spec := "tileSynced", unfollowed := true, recurses := true, apart := false }
def TileSyncedSaid : Prop := tileSyncedRow.holds Try.pinned (OpenSpec.ofChange tileSyncedSpec)

/-- ITS FALSE NEIGHBOUR: 'it returns false'. Refute it at one input. -/
def tileSyncedWrong : ChangeSpec := { name := "tileSynced", fn := fun _ => fun
  | [d1, d2] => { results := [.lit (.bool false)], args := [d1, d2] }
  | _ => none }
def TileSyncedWrongFalsely : Prop := tileSyncedRow.holds Try.pinned (OpenSpec.ofChange tileSyncedWrong)

/-- 'whimlaw1.TileLent': WHATEVER THE INPUT: true; the input reads as it did. -/
def tileLentSpec : ChangeSpec := { name := "tileLent", fn := fun _ => fun
  | [d1, d2] => { results := [.lit (.bool true)], args := [d1, d2] }
  | _ => none }
def tileLentRow : OpenClaim := { program := "ytpbenpkgbhmldaa", sum := "6a4b258e7d780a528b95cb7352d31def67a6531b69b87972db8051e7469269a7", func := "whim/whimlaw1.TileLent", spec := "tileLent", unfollowed := true, recurses := true, apart := false }
def TileLentSaid : Prop := tileLentRow.holds Try.pinned (OpenSpec.ofChange tileLentSpec)

/-- ITS FALSE NEIGHBOUR: 'it returns false'. Refute it at one input. -/
def tileLentWrong : ChangeSpec := { name := "tileLent", fn := fun _ => fun
  | [d1, d2] => { results := [.lit (.bool false)], args := [d1, d2] }
  | _ => none }
def TileLentWrongFalsely : Prop := tileLentRow.holds Try.pinned (OpenSpec.ofChange tileLentWrong)

/-- 'whimlaw1.TileArms': WHATEVER THE INPUT: true; the input reads as it did. -/
def tileArmsSpec : ChangeSpec := { name := "tileArms", fn := fun _ => fun
  | [d1, d2] => { results := [.lit (.bool true)], args := [d1, d2] }
  | _ => none }
def tileArmsRow : OpenClaim := { program := "ytpbenpkgbhmldaa", sum := "6a4b258e7d780a528b95cb7352d31def67a6531b69b87972db8051e7469269a7", func := "whim/whimlaw1.TileArms", spec := "tileArms", unfollowed := true, recurses := true, apart := false }
def TileArmsSaid : Prop := tileArmsRow.holds Try.pinned (OpenSpec.ofChange tileArmsSpec)

/-- ITS FALSE NEIGHBOUR: 'it returns false'. Refute it at one input. -/
def tileArmsWrong : ChangeSpec := { name := "tileArms", fn := fun _ => fun
  | [d1, d2] => { results := [.lit (.bool false)], args := [d1, d2] }
  | _ => none }
def TileArmsWrongFalsely : Prop := tileArmsRow.holds Try.pinned (OpenSpec.ofChange tileArmsWrong)

/-- 'whimlaw1.TileNone': WHATEVER THE INPUT: true; the input reads as it did. -/
def tileNoneSpec : ChangeSpec := { name := "tileNone", fn := fun _ => fun
  | [d] => { results := [.lit (.bool true)], args := [d] }
  | _ => none }
def tileNoneRow : OpenClaim := { program := "ytpbenpkgbhmldaa", sum := "6a4b258e7d780a528b95cb7352d31def67a6531b69b87972db8051e7469269a7", func := "whim/whimlaw1.TileNone", spec := "tileNone", inPlace := ["maps.clone"], unfollowed := true, recurses := true, apart := false }
def TileNoneSaid : Prop := tileNoneRow.holds Try.pinned (OpenSpec.ofChange tileNoneSpec)

/-- ITS FALSE NEIGHBOUR: 'it returns false'. Refute it at one input. -/
def tileNoneWrong : ChangeSpec := { name := "tileNone", fn := fun _ => fun
  | [d] => { results := [.lit (.bool false)], args := [d] }
  | _ => none }
def TileNoneWrongFalsely : Prop := tileNoneRow.holds Try.pinned (OpenSpec.ofChange tileNoneWrong)

/-- 'whimlaw1.TileAll': WHATEVER THE INPUT: true; the input reads as it did. -/
def tileAllSpec : ChangeSpec := { name := "tileAll", fn := fun _ => fun
  | [d1, d2] => { results := [.lit (.bool true)], args := [d1, d2] }
  | _ => none }
def tileAllRow : OpenClaim := { program := "ytpbenpkgbhmldaa", sum := "6a4b258e7d780a528b95cb7352d31def67a6531b69b87972db8051e7469269a7", func := "whim/whimlaw1.TileAll", spec := "tileAll", inPlace := ["maps.clone"], unfollowed := true, recurses := true, apart := false }
def TileAllSaid : Prop := tileAllRow.holds Try.pinned (OpenSpec.ofChange tileAllSpec)

/-- ITS FALSE NEIGHBOUR: 'it returns false'. Refute it at one input. -/
def tileAllWrong : ChangeSpec := { name := "tileAll", fn := fun _ => fun
  | [d1, d2] => { results := [.lit (.bool false)], args := [d1, d2] }
  | _ => none }
def TileAllWrongFalsely : Prop := tileAllRow.holds Try.pinned (OpenSpec.ofChange tileAllWrong)

/- THE SECOND FORM. 'bulk': how many values and letters a reading holds, each counted each time it is reached (what is shared counts as often as it is met; a slice's spare places count too). A statement '..UptoSaid' is the law's where the arguments, and the package variables that the reading takes, are together of bulk at most 1048576: NARROWER than '..Said'. Prove '..Said' where nothing that the law and all that it calls make is longer than what came in: it says more and counts as full. Else prove '..UptoSaid'. A law counts once. -/
mutual
def uptoBulk {H : Type} : DataW H → Nat
  | .lit (.string bytes) => bytes.length + 1
  | .lit _ => 1
  | .nil => 1
  | .ptr d => uptoBulk d + 1
  | .slice elems spare => uptoBulkAll elems + uptoBulkAll spare + 1
  | .agg parts => uptoBulkAll parts + 1
  | .iface _ d => uptoBulk d + 1
  | .map entries => uptoBulkEntries entries + 1
  | .held _ => 1
def uptoBulkAll {H : Type} : List (DataW H) → Nat
  | [] => 0
  | d :: r => uptoBulk d + uptoBulkAll r
def uptoBulkEntries {H : Type} : List (Lit × DataW H) → Nat
  | [] => 0
  | x :: r => uptoBulkEntry x + uptoBulkEntries r
def uptoBulkEntry {H : Type} : Lit × DataW H → Nat
  | (.string bytes, d) => bytes.length + uptoBulk d + 1
  | (_, d) => uptoBulk d + 1
 end
def uptoSmall : (H : Type) → List (DataW H) → Bool := fun _ ds => decide (uptoBulkAll ds ≤ 1048576)
def OpenSpec.upto (s : _root_.Go.ChangeSpec) : _root_.Go.OpenSpec := { _root_.Go.OpenSpec.ofChange s with cond := some uptoSmall }

/-- 'whimlaw1.TileSubset', WHERE WHAT IT READS IS OF BULK AT MOST 1048576: true; the input reads as it did. -/
def tileSubsetUptoRow : OpenClaim := { program := "ytpbenpkgbhmldaa", sum := "6a4b258e7d780a528b95cb7352d31def67a6531b69b87972db8051e7469269a7", func := "whim/whimlaw1.TileSubset", spec := "tileSubset", unfollowed := true, recurses := true, apart := false, narrowed := true }
def TileSubsetUptoSaid : Prop := tileSubsetUptoRow.holds Try.pinned (OpenSpec.upto tileSubsetSpec)

/-- 'whimlaw1.TileLast', WHERE WHAT IT READS IS OF BULK AT MOST 1048576: true; the input reads as it did. -/
def tileLastUptoRow : OpenClaim := { program := "ytpbenpkgbhmldaa", sum := "6a4b258e7d780a528b95cb7352d31def67a6531b69b87972db8051e7469269a7", func := "whim/whimlaw1.TileLast", spec := "tileLast", unfollowed := true, recurses := true, apart := false, narrowed := true }
def TileLastUptoSaid : Prop := tileLastUptoRow.holds Try.pinned (OpenSpec.upto tileLastSpec)

/-- 'whimlaw1.TileSynced', WHERE WHAT IT READS IS OF BULK AT MOST 1048576: true; the input reads as it did. -/
def tileSyncedUptoRow : OpenClaim := { program := "ytpbenpkgbhmldaa", sum := "6a4b258e7d780a528b95cb7352d31def67a6531b69b87972db8051e7469269a7", func := "whim/whimlaw1.TileSynced", spec := "tileSynced", unfollowed := true, recurses := true, apart := false, narrowed := true }
def TileSyncedUptoSaid : Prop := tileSyncedUptoRow.holds Try.pinned (OpenSpec.upto tileSyncedSpec)

/-- 'whimlaw1.TileLent', WHERE WHAT IT READS IS OF BULK AT MOST 1048576: true; the input reads as it did. -/
def tileLentUptoRow : OpenClaim := { program := "ytpbenpkgbhmldaa", sum := "6a4b258e7d780a528b95cb7352d31def67a6531b69b87972db8051e7469269a7", func := "whim/whimlaw1.TileLent", spec := "tileLent", unfollowed := true, recurses := true, apart := false, narrowed := true }
def TileLentUptoSaid : Prop := tileLentUptoRow.holds Try.pinned (OpenSpec.upto tileLentSpec)

/-- 'whimlaw1.TileArms', WHERE WHAT IT READS IS OF BULK AT MOST 1048576: true; the input reads as it did. -/
def tileArmsUptoRow : OpenClaim := { program := "ytpbenpkgbhmldaa", sum := "6a4b258e7d780a528b95cb7352d31def67a6531b69b87972db8051e7469269a7", func := "whim/whimlaw1.TileArms", spec := "tileArms", unfollowed := true, recurses := true, apart := false, narrowed := true }
def TileArmsUptoSaid : Prop := tileArmsUptoRow.holds Try.pinned (OpenSpec.upto tileArmsSpec)

/-- 'whimlaw1.TileNone', WHERE WHAT IT READS IS OF BULK AT MOST 1048576: true; the input reads as it did. -/
def tileNoneUptoRow : OpenClaim := { program := "ytpbenpkgbhmldaa", sum := "6a4b258e7d780a528b95cb7352d31def67a6531b69b87972db8051e7469269a7", func := "whim/whimlaw1.TileNone", spec := "tileNone", inPlace := ["maps.clone"], unfollowed := true, recurses := true, apart := false, narrowed := true }
def TileNoneUptoSaid : Prop := tileNoneUptoRow.holds Try.pinned (OpenSpec.upto tileNoneSpec)

/-- 'whimlaw1.TileAll', WHERE WHAT IT READS IS OF BULK AT MOST 1048576: true; the input reads as it did. -/
def tileAllUptoRow : OpenClaim := { program := "ytpbenpkgbhmldaa", sum := "6a4b258e7d780a528b95cb7352d31def67a6531b69b87972db8051e7469269a7", func := "whim/whimlaw1.TileAll", spec := "tileAll", inPlace := ["maps.clone"], unfollowed := true, recurses := true, apart := false, narrowed := true }
def TileAllUptoSaid : Prop := tileAllUptoRow.holds Try.pinned (OpenSpec.upto tileAllSpec)

end Rows
end Go.Proofs.Ytpbenpkgbhmldaa
