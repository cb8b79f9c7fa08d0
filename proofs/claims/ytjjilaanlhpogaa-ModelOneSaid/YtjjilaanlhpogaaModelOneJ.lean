/- ModelOne: the argument opened. -/
import Derived.Test.YtjjilaanlhpogaaModelOneW
namespace Go.Proofs.Ytjjilaanlhpogaa.modelOne
open Go.ChangeShapes Go.WideShapes Go.ChangeAt Go.RowKit
set_option linter.unusedVariables false

theorem cells45 : Try.prog.cellsOf 45 = 1 := by kernel_rfl
theorem u16_of {x : Int} (h : (Lit.int .u16 x).wf = true) : 0 ≤ x ∧ x ≤ 65535 := by
  simpa [Lit.wf, IntKind.min, IntKind.max, IntKind.signed, IntKind.bits] using h
set_option maxRecDepth 100000 in
theorem walk_long (A : Option Addr) (n c : Nat) (w : World) (h1 : (40 : Int) < n) : Calls Try.prog 4 #[.slice A n c] w fun e w' => e = .returned (.bool true) ∧ Ext w w' := by
  go_enter Try.func4, Try.ntmps4
  go_wp2_with (go_at_call 7; refine (begun_any _).mono ?_; rintro e w1 ⟨rfl, b1⟩)
  go_ret
  exact ⟨rfl, b1⟩
set_option maxRecDepth 100000 in
theorem walk {H : Type} {enc : TypeId × Value → H} (W : World) (base : Nat) (v0 : Value) (d0 : DataW H) (p0 : List MemPlace)
    (ok0 : Value.okWide Try.prog W .any base 43 v0) (h0 : DataW.Trod enc Try.prog W 0 (fun _ => true) true 43 v0 d0 p0) :
    Calls Try.prog 4 #[v0] W fun e w' => e = .returned (.bool true) ∧ Below W.heap.size W w' := by
  obtain ⟨A, n, c, rfl⟩ := okWide_slice Try.underlying43 ok0
  obtain ⟨fuel, hx⟩ := h0
  obtain ⟨A', n', c', zs, hcs, _, _, _, hz, hr, hw⟩ := open_flat_ints Try.underlying43 Try.underlying45 cells45 hx
  simp [Value.cells] at hcs
  obtain ⟨rfl, rfl, rfl⟩ := hcs
  by_cases hl : (40 : Int) < n
  · exact walk_long A n c W hl
  · exact walk_short A c n zs W hr hz (fun z hz' => u16_of (hw z hz')) (by omega)
end Go.Proofs.Ytjjilaanlhpogaa.modelOne
