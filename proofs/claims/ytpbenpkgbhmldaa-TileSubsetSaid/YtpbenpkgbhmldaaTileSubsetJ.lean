/- TileSubset: the arguments opened. -/
import Derived.Test.YtpbenpkgbhmldaaTileSubsetW
namespace Go.Proofs.Ytpbenpkgbhmldaa.tileSubset
open Go.ChangeShapes Go.WideShapes Go.ChangeAt Go.RowKit
set_option linter.unusedVariables false

theorem cells5 : Try.prog.cellsOf 5 = 1 := by kernel_rfl
theorem u16_nat {z : Int} (h : (Lit.int .u16 z).wf = true) : ∃ n : Nat, z = (n : Int) ∧ n < 65536 := by
  have hb : 0 ≤ z ∧ z ≤ 65535 := by simpa [Lit.wf, IntKind.min, IntKind.max, IntKind.signed, IntKind.bits] using h
  exact ⟨z.toNat, by omega, by omega⟩
set_option maxRecDepth 1000000 in
theorem walk_long (A B : Option Addr) (n c m d : Nat) (z : Int) (w : World) (h1 : (12 : Int) < n ∨ (12 : Int) < m) : Calls Try.prog 3 #[.slice A n c, .slice B m d, .int .u16 z] w fun e w' => e = .returned (.bool true) ∧ Ext w w' := by
  by_cases h2 : (12 : Int) < n
  · have dn : decide ((12 : Int) < (n : Int)) = true := by simp; omega
    clear h1 h2
    go_enter Try.func3, Try.ntmps3
    go_wp2_with (go_at_call 10; refine (begun_any _).mono ?_; rintro e w1 ⟨rfl, b1⟩)
    go_ret
    exact ⟨rfl, b1⟩
  · have h3 : (12 : Int) < m := by omega
    have dn : decide ((12 : Int) < (n : Int)) = false := by simp; omega
    have dm : decide ((12 : Int) < (m : Int)) = true := by simp; omega
    clear h1 h2 h3
    go_enter Try.func3, Try.ntmps3
    go_wp2_with (go_at_call 10; refine (begun_any _).mono ?_; rintro e w1 ⟨rfl, b1⟩)
    go_ret
    exact ⟨rfl, b1⟩
set_option maxRecDepth 100000 in
theorem walk {H : Type} {enc : TypeId × Value → H} (W : World) (base : Nat) (v0 v1 v2 : Value) (d0 d1 d2 : DataW H) (p0 p1 p2 : List MemPlace)
    (ok0 : Value.okWide Try.prog W .any base 22 v0) (h0 : DataW.Trod enc Try.prog W 0 (fun _ => true) true 22 v0 d0 p0)
    (ok1 : Value.okWide Try.prog W .any base 22 v1) (h1 : DataW.Trod enc Try.prog W 0 (fun _ => true) true 22 v1 d1 p1)
    (ok2 : Value.okWide Try.prog W .any base 23 v2) (h2 : DataW.Trod enc Try.prog W 0 (fun _ => true) true 23 v2 d2 p2) :
    Calls Try.prog 3 #[v0, v1, v2] W fun e w' => e = .returned (.bool true) ∧ Below W.heap.size W w' := by
  obtain ⟨q, rfl, _, _, wq⟩ := open_int Try.underlying23 ok2 h2
  obtain ⟨ms, rfl, hms⟩ := u16_nat wq
  obtain ⟨A, na, c, rfl⟩ := okWide_slice Try.underlying22 ok0
  obtain ⟨f0, hx⟩ := h0
  obtain ⟨_, _, _, za, hca, _, _, _, ha, ra, wa⟩ := open_flat_ints Try.underlying22 Try.underlying5 cells5 hx
  simp [Value.cells] at hca
  obtain ⟨rfl, rfl, rfl⟩ := hca
  obtain ⟨la, ea, la'⟩ := bytes_of_ints wa
  rw [ea] at ra
  obtain ⟨B, nb, d, rfl⟩ := okWide_slice Try.underlying22 ok1
  obtain ⟨f1, hy⟩ := h1
  obtain ⟨_, _, _, zb, hcb, _, _, _, hb, rb, wb⟩ := open_flat_ints Try.underlying22 Try.underlying5 cells5 hy
  simp [Value.cells] at hcb
  obtain ⟨rfl, rfl, rfl⟩ := hcb
  obtain ⟨lb, eb, lb'⟩ := bytes_of_ints wb
  rw [eb] at rb
  by_cases hl : (12 : Int) < na ∨ (12 : Int) < nb
  · exact walk_long A B na c nb d ms W hl
  · exact walk_short A B c na d nb la lb ms W (by omega) ra (by omega) (by omega) rb (by omega) hms
end Go.Proofs.Ytpbenpkgbhmldaa.tileSubset
