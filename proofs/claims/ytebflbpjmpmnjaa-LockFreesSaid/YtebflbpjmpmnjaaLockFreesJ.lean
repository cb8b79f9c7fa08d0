/- LockFrees: the arguments opened. -/
import Derived.Test.YtebflbpjmpmnjaaLockFreesW
namespace Go.Proofs.Ytebflbpjmpmnjaa.lockFrees
open Go.ChangeShapes Go.WideShapes Go.ChangeAt Go.RowKit
set_option linter.unusedVariables false

theorem cells5 : Try.prog.cellsOf 5 = 1 := by kernel_rfl
set_option maxRecDepth 100000 in
theorem walk_long (A : Option Addr) (n c : Nat) (b : Int) (w : World) (h1 : (20 : Int) < n) : Calls Try.prog 7 #[.slice A n c, .int .u8 b] w fun e w' => e = .returned (.bool true) ∧ Ext w w' := by
  go_enter Try.func7, Try.ntmps7
  go_wp2_with (go_at_call 8; refine (begun_any _).mono ?_; rintro e w1 ⟨rfl, b1⟩)
  go_ret
  exact ⟨rfl, b1⟩
theorem walk {H : Type} {enc : TypeId × Value → H} (W : World) (base : Nat) (v0 v1 : Value) (d0 d1 : DataW H) (p0 p1 : List MemPlace)
    (ok0 : Value.okWide Try.prog W .any base 46 v0) (h0 : DataW.Trod enc Try.prog W 0 (fun _ => true) true 46 v0 d0 p0)
    (ok1 : Value.okWide Try.prog W .any base 5 v1) (h1 : DataW.Trod enc Try.prog W 0 (fun _ => true) true 5 v1 d1 p1) :
    Calls Try.prog 7 #[v0, v1] W fun e w' => e = .returned (.bool true) ∧ Below W.heap.size W w' := by
  obtain ⟨b, rfl, _, _, wb⟩ := open_int Try.underlying5 ok1 h1
  obtain ⟨m, rfl, hm⟩ := u8_nat wb
  obtain ⟨A, na, c, rfl⟩ := okWide_slice Try.underlying46 ok0
  obtain ⟨f0, hx⟩ := h0
  obtain ⟨_, _, _, za, hca, _, _, _, ha, ra, wa⟩ := open_flat_ints Try.underlying46 Try.underlying5 cells5 hx
  simp [Value.cells] at hca
  obtain ⟨rfl, rfl, rfl⟩ := hca
  obtain ⟨la, ea, la'⟩ := bytes_of_ints wa
  rw [ea] at ra
  by_cases hl : (20 : Int) < na
  · exact walk_long A na c m W hl
  · exact walk_short A c na la m W (by omega) ra hm (by omega)
end Go.Proofs.Ytebflbpjmpmnjaa.lockFrees
