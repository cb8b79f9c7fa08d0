/- LockAll: the arguments opened. -/
import Derived.Test.YtebflbpjmpmnjaaLockAllW
namespace Go.Proofs.Ytebflbpjmpmnjaa.lockAll
open Go.ChangeShapes Go.WideShapes Go.ChangeAt Go.RowKit
set_option linter.unusedVariables false

set_option maxRecDepth 100000 in
theorem walk_long (A : Option Addr) (n c : Nat) (w : World) (h1 : (60 : Int) < n) : Calls Try.prog 5 #[.slice A n c] w fun e w' => e = .returned (.bool true) ∧ Ext w w' := by
  go_enter Try.func5, Try.ntmps5
  go_wp2_with (go_at_call 8; refine (begun_any _).mono ?_; rintro e w1 ⟨rfl, b1⟩)
  go_ret
  exact ⟨rfl, b1⟩
theorem walk {H : Type} {enc : TypeId × Value → H} (W : World) (base : Nat) (v0 : Value) (d0 : DataW H) (p0 : List MemPlace)
    (ok0 : Value.okWide Try.prog W .any base 31 v0) (h0 : DataW.Trod enc Try.prog W 0 (fun _ => true) true 31 v0 d0 p0) :
    Calls Try.prog 5 #[v0] W fun e w' => e = .returned (.bool true) ∧ Below W.heap.size W w' := by
  obtain ⟨A', n', c', rfl⟩ := okWide_slice Try.underlying31 ok0
  obtain ⟨f0, g0⟩ := h0
  obtain ⟨A, n, c, xs, hcs, _, _, _, hr, hi⟩ := open_slice_flat Try.underlying31 cells37 (by decide) g0
  simp [Value.cells] at hcs
  obtain ⟨rfl, rfl, rfl⟩ := hcs
  have hd := deeds_of hr.1 hi
  by_cases hl : (60 : Int) < n'
  · exact walk_long A' n' c' W hl
  · exact walk_short A' c' n' xs W hr hd (by omega)
end Go.Proofs.Ytebflbpjmpmnjaa.lockAll
