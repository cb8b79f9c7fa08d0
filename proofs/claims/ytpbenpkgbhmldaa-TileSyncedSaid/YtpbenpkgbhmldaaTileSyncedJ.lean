/- TileSynced: the arguments opened. -/
import Derived.Test.YtpbenpkgbhmldaaTileSyncedW
namespace Go.Proofs.Ytpbenpkgbhmldaa.tileSynced
open Go.ChangeShapes Go.WideShapes Go.ChangeAt Go.RowKit
set_option linter.unusedVariables false

theorem cells5 : Try.prog.cellsOf 5 = 1 := by kernel_rfl
set_option maxRecDepth 100000 in
theorem walk_long (A B : Option Addr) (n c m d : Nat) (w : World) (h1 : (20 : Int) < n ∨ (8 : Int) < m) : Calls Try.prog 5 #[.slice A n c, .slice B m d] w fun e w' => e = .returned (.bool true) ∧ Ext w w' := by
  by_cases h2 : (20 : Int) < n
  · clear h1
    go_enter Try.func5, Try.ntmps5
    go_wp2_with (go_at_call 10; refine (begun_any _).mono ?_; rintro e w1 ⟨rfl, b1⟩)
    go_ret
    exact ⟨rfl, b1⟩
  · have h3 : (8 : Int) < m := by omega
    have h4 : (n : Int) ≤ 20 := by omega
    clear h1 h2
    go_enter Try.func5, Try.ntmps5
    go_wp2_with (go_at_call 10; refine (begun_any _).mono ?_; rintro e w1 ⟨rfl, b1⟩)
    go_ret
    exact ⟨rfl, b1⟩
set_option maxRecDepth 100000 in
theorem walk {H : Type} {enc : TypeId × Value → H} (W : World) (base : Nat) (v0 v1 : Value) (d0 d1 : DataW H) (p0 p1 : List MemPlace)
    (ok0 : Value.okWide Try.prog W .any base 22 v0) (h0 : DataW.Trod enc Try.prog W 0 (fun _ => true) true 22 v0 d0 p0)
    (ok1 : Value.okWide Try.prog W .any base 22 v1) (h1 : DataW.Trod enc Try.prog W 0 (fun _ => true) true 22 v1 d1 p1) :
    Calls Try.prog 5 #[v0, v1] W fun e w' => e = .returned (.bool true) ∧ Below W.heap.size W w' := by
  obtain ⟨A, na, c, rfl⟩ := okWide_slice Try.underlying22 ok0
  obtain ⟨f0, hx⟩ := h0
  obtain ⟨_, _, _, za, hca, _, _, _, ha, ra, wa⟩ := open_flat_ints Try.underlying22 Try.underlying5 cells5 hx
  simp [Value.cells] at hca
  obtain ⟨rfl, rfl, rfl⟩ := hca
  obtain ⟨la, ea, la'⟩ := bytes_of_ints wa
  rw [ea] at ra
  obtain ⟨B, nb, d, rfl⟩ := okWide_slice Try.underlying22 ok1
  obtain ⟨f1, hy⟩ := h1
  obtain ⟨_, _, _, zb, hcb, _, _, _, hb, rb, wb⟩ := open_flat_ints Try.underlying22 Try.underlying5 cells5 hy
  simp [Value.cells] at hcb
  obtain ⟨rfl, rfl, rfl⟩ := hcb
  obtain ⟨lb, eb, lb'⟩ := bytes_of_ints wb
  rw [eb] at rb
  by_cases hl : (20 : Int) < na ∨ (8 : Int) < nb
  · exact walk_long A B na c nb d W hl
  · exact walk_short A B c na d nb la lb W (by omega) ra (by omega) (by omega) rb (by omega)
end Go.Proofs.Ytpbenpkgbhmldaa.tileSynced
