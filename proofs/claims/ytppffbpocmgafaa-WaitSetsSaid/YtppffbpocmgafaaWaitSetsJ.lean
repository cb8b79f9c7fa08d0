/- WaitSets: the walk, at whatever arguments. -/
import Derived.Test.YtppffbpocmgafaaWaitSetsW
namespace Go.Proofs.Ytppffbpocmgafaa.waitSets
open Go.ChangeShapes Go.WideShapes Go.ChangeAt Go.RowKit
set_option linter.unusedVariables false

theorem cells5 : Try.prog.cellsOf 5 = 1 := by kernel_rfl
set_option maxRecDepth 100000 in
theorem walk_long (A B : Option Addr) (na nb c d : Nat) (w : World) (hl : 8 < na ∨ 8 < nb) : Calls Try.prog 4 #[.slice A na c, .slice B nb d] w fun e w' => e = .returned (.bool true) ∧ Ext w w' := by
  by_cases h1 : (8 : Int) < na
  · clear hl
    go_enter Try.func4, Try.ntmps4
    go_wp2_with (go_at_call 7; refine (begun_any _).mono ?_; rintro e w1 ⟨rfl, b1⟩)
    go_ret
    exact ⟨rfl, b1⟩
  · have h2 : (8 : Int) < nb := by omega
    clear hl
    go_enter Try.func4, Try.ntmps4
    go_wp2_with (go_at_call 7; refine (begun_any _).mono ?_; rintro e w1 ⟨rfl, b1⟩)
    go_ret
    exact ⟨rfl, b1⟩
theorem walk {H : Type} {enc : TypeId × Value → H} (W : World) (base : Nat) (v0 v1 : Value) (d0 d1 : DataW H) (p0 p1 : List MemPlace)
    (ok0 : Value.okWide Try.prog W .any base 34 v0) (h0 : DataW.Trod enc Try.prog W 0 (fun _ => true) true 34 v0 d0 p0)
    (ok1 : Value.okWide Try.prog W .any base 34 v1) (h1 : DataW.Trod enc Try.prog W 0 (fun _ => true) true 34 v1 d1 p1) :
    Calls Try.prog 4 #[v0, v1] W fun e w' => e = .returned (.bool true) ∧ Below W.heap.size W w' := by
  obtain ⟨A, na, c, rfl⟩ := okWide_slice Try.underlying34 ok0
  obtain ⟨B, nb, d, rfl⟩ := okWide_slice Try.underlying34 ok1
  obtain ⟨f0, hx⟩ := h0
  obtain ⟨f1, hy⟩ := h1
  obtain ⟨_, _, _, za, hca, _, _, _, ha, ra, wa⟩ := open_flat_ints Try.underlying34 Try.underlying5 cells5 hx
  obtain ⟨_, _, _, zb, hcb, _, _, _, hb, rb, wb⟩ := open_flat_ints Try.underlying34 Try.underlying5 cells5 hy
  simp [Value.cells] at hca hcb
  obtain ⟨rfl, rfl, rfl⟩ := hca
  obtain ⟨rfl, rfl, rfl⟩ := hcb
  obtain ⟨la, ea, la'⟩ := bytes_of_ints wa
  obtain ⟨lb, eb, lb'⟩ := bytes_of_ints wb
  rw [ea] at ra
  rw [eb] at rb
  by_cases hl : 8 < na ∨ 8 < nb
  · exact walk_long A B na nb c d W hl
  · exact walk_short A B c d la lb na nb W ra rb (by omega) (by omega) (by omega) (by omega)
end Go.Proofs.Ytppffbpocmgafaa.waitSets
