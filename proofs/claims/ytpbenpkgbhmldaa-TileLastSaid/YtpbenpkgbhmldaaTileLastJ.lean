/- TileLast: the arguments opened. -/
import Derived.Test.YtpbenpkgbhmldaaTileLastW
namespace Go.Proofs.Ytpbenpkgbhmldaa.tileLast
open Go.ChangeShapes Go.WideShapes Go.ChangeAt Go.RowKit
set_option linter.unusedVariables false

theorem cells23 : Try.prog.cellsOf 23 = 1 := by kernel_rfl
theorem u16_of {x : Int} (h : (Lit.int .u16 x).wf = true) : 0 ≤ x ∧ x ≤ 65535 := by
  simpa [Lit.wf, IntKind.min, IntKind.max, IntKind.signed, IntKind.bits] using h
theorem u32_nat {z : Int} (h : (Lit.int .u32 z).wf = true) : ∃ n : Nat, z = (n : Int) ∧ n < 4294967296 := by
  have hb : 0 ≤ z ∧ z ≤ 4294967295 := by simpa [Lit.wf, IntKind.min, IntKind.max, IntKind.signed, IntKind.bits] using h
  exact ⟨z.toNat, by omega, by omega⟩
set_option maxRecDepth 100000 in
theorem walk_long (A : Option Addr) (n c : Nat) (b : Int) (w : World) (h1 : (20 : Int) < n) : Calls Try.prog 4 #[.slice A n c, .int .u32 b] w fun e w' => e = .returned (.bool true) ∧ Ext w w' := by
  go_enter Try.func4, Try.ntmps4
  go_wp2_with (go_at_call 10; refine (begun_any _).mono ?_; rintro e w1 ⟨rfl, b1⟩)
  go_ret
  exact ⟨rfl, b1⟩
set_option maxRecDepth 100000 in
theorem walk {H : Type} {enc : TypeId × Value → H} (W : World) (base : Nat) (v0 v1 : Value) (d0 d1 : DataW H) (p0 p1 : List MemPlace)
    (ok0 : Value.okWide Try.prog W .any base 38 v0) (h0 : DataW.Trod enc Try.prog W 0 (fun _ => true) true 38 v0 d0 p0)
    (ok1 : Value.okWide Try.prog W .any base 39 v1) (h1 : DataW.Trod enc Try.prog W 0 (fun _ => true) true 39 v1 d1 p1) :
    Calls Try.prog 4 #[v0, v1] W fun e w' => e = .returned (.bool true) ∧ Below W.heap.size W w' := by
  obtain ⟨b, rfl, _, _, wb⟩ := open_int Try.underlying39 ok1 h1
  obtain ⟨m, rfl, hm⟩ := u32_nat wb
  obtain ⟨A, n, c, rfl⟩ := okWide_slice Try.underlying38 ok0
  obtain ⟨fuel, hx⟩ := h0
  obtain ⟨A', n', c', zs, hcs, _, _, _, hz, hr, hw⟩ := open_flat_ints Try.underlying38 Try.underlying23 cells23 hx
  simp [Value.cells] at hcs
  obtain ⟨rfl, rfl, rfl⟩ := hcs
  by_cases hl : (20 : Int) < n
  · exact walk_long A n c m W hl
  · exact walk_short A c n zs m W hr hz (fun z hz' => u16_of (hw z hz')) (by omega) hm
end Go.Proofs.Ytpbenpkgbhmldaa.tileLast
