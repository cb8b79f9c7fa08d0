/- Undo: two entries that hold the same are told to be the same. -/
import Derived.Test.YtogminifliceaaaUndoC
namespace Go.Proofs.Ytogminifliceaaa
open Go.ChangeShapes Go.WideShapes Go.ChangeAt Go.RowKit
set_option linter.unusedVariables false

set_option maxRecDepth 100000 in
set_option maxHeartbeats 4000000 in
theorem same_any (k t u hf p n a0 a1 b0 b1 : Int) (A1 A2 : Option Addr) (c1 c2 : Nat) (l : List UInt8) (w : World) (hr1 : Reads w w.heap.size 1 A1 l.length (bv l)) (hr2 : Reads w w.heap.size 1 A2 l.length (bv l)) :
    Calls Try.prog 10 #[.agg #[.int .i64 k, .int .i64 t, .int .i64 u, .int .i64 hf, .int .i64 p, .int .i64 n, .int .i64 a0, .int .i64 a1, .int .i64 b0, .int .i64 b1, .slice none 0 0, .slice A1 l.length c1, .slice none 0 0, .slice none 0 0, .slice none 0 0, .slice none 0 0],
      .agg #[.int .i64 k, .int .i64 t, .int .i64 u, .int .i64 hf, .int .i64 p, .int .i64 n, .int .i64 a0, .int .i64 a1, .int .i64 b0, .int .i64 b1, .slice none 0 0, .slice A2 l.length c2, .slice none 0 0, .slice none 0 0, .slice none 0 0, .slice none 0 0]] w fun e w' => e = .returned (.bool true) ∧ Below w.heap.size w w' := by
  have s1 : ∀ o1 o2, (convert 24 9 (.slice A1 l.length c1)).run Try.prog ((w.alloc o1).alloc o2) = .ok (.string ⟨l.toArray⟩) ((w.alloc o1).alloc o2) := fun o1 o2 =>
    run_string_of_reads 24 9 5 c1 Try.underlying24 Try.underlying5 Try.underlying9 ((hr1.alloc (Nat.le_refl _) o1).alloc (by simp) o2)
  have s2 : ∀ o1 o2, (convert 24 9 (.slice A2 l.length c2)).run Try.prog ((w.alloc o1).alloc o2) = .ok (.string ⟨l.toArray⟩) ((w.alloc o1).alloc o2) := fun o1 o2 =>
    run_string_of_reads 24 9 5 c2 Try.underlying24 Try.underlying5 Try.underlying9 ((hr2.alloc (Nat.le_refl _) o1).alloc (by simp) o2)
  have s0 : ∀ W : World, (convert 24 9 (.slice none 0 0)).run Try.prog W = .ok (.string ⟨[].toArray⟩) W := fun W =>
    run_string_of_reads (B := 0) (l := []) 24 9 5 0 Try.underlying24 Try.underlying5 Try.underlying9 Reads.none_
  clear hr1 hr2
  go_enter Try.func10, Try.ntmps10
  go_wp2_with (first | (go_at_call 14; refine (same14_nil _).mono ?_; rintro e w' ⟨rfl, rfl⟩) | (go_at_call 15; refine (same15_nil _).mono ?_; rintro e w' ⟨rfl, rfl⟩) | (go_at_call 16; refine (same16_nil _).mono ?_; rintro e w' ⟨rfl, rfl⟩) | (go_at_call 17; refine (same17_nil _).mono ?_; rintro e w' ⟨rfl, rfl⟩))
  go_ret
  exact ⟨rfl, ((Below.refl _ _).alloc (Nat.le_refl _) _).alloc (by simp) _⟩
end Go.Proofs.Ytogminifliceaaa
