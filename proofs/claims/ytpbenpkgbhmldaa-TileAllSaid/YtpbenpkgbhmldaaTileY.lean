/- Tile: what the statements' walks share: a tile's bytes as a string, a block of one byte. -/
import Derived.Test.YtpbenpkgbhmldaaTileB
namespace Go.Proofs.Ytpbenpkgbhmldaa
open Go.ChangeShapes Go.WideShapes Go.ChangeAt Go.RowKit Go.Maps
set_option linter.unusedVariables false

def str (l : List UInt8) : ByteArray := ⟨l.toArray⟩
theorem conv_reads {w : World} {B n c : Nat} {A : Option Addr} {l : List UInt8} (h : Reads w B 1 A n (bv l)) : (convert 22 9 (.slice A n c)).run Try.prog w = .ok (.string (str l)) w :=
  run_string_of_reads 22 9 5 c Try.underlying22 Try.underlying5 Try.underlying9 h
theorem conv_own {w : World} {base c n : Nat} {A : Option Addr} {l : List UInt8} (h : w.ownsRow base 5 1 (.slice A n c) n (bv l)) : (convert 22 9 (.slice A n c)).run Try.prog w = .ok (.string (str l)) w :=
  conv_reads (Reads.of_own h)
theorem rep_at (c : UInt8) {k : Nat} (hk : k < 64) : (rep c)[k]? = some c := by
  unfold rep
  rw [List.getElem?_replicate, if_pos hk]
theorem arr_at (c : Int) {k : Nat} (hk : k < 64) : (arr c 64)[k]? = some (.int .u8 c) := by
  unfold arr
  rw [List.getElem?_toArray, Nat.sub_self, List.replicate_zero, List.append_nil, List.getElem?_replicate, if_pos hk]
theorem arr_size (c : Int) : (arr c 64).size = 64 := by unfold arr; simp
theorem reads_full {w : World} {b c : Nat} (h : Blk w b 5 (arr c 64)) (hc : c < 256) : Reads w w.heap.size 1 (some ⟨b, 0, none⟩) 64 (bv (rep (UInt8.ofNat c))) :=
  reads_turn (Y := fun _ => False) h (arr_full c hc) (arr_size c) w (Turn.refl _ _)
theorem conv_full {w : World} {b c : Nat} (h : Blk w b 5 (arr c 64)) (hc : c < 256) : (convert 22 9 (.slice (some ⟨b, 0, none⟩) 64 64)).run Try.prog w = .ok (.string (str (rep (UInt8.ofNat c)))) w :=
  conv_reads (reads_full h hc)
end Go.Proofs.Ytpbenpkgbhmldaa
