/- MarkSays: the walk, at whatever arguments. -/
import Derived.Test.YtmleneljmcikdaaMarkSaysW
import Derived.Deep.Slices
namespace Go.Proofs.Ytmleneljmcikdaa.markSays
open Go.ChangeShapes Go.WideShapes Go.ChangeAt Go.RowKit
set_option linter.unusedVariables false

theorem cells39 : Try.prog.cellsOf 39 = 1 := by kernel_rfl
set_option maxRecDepth 100000 in
theorem walk_long (A : Option Addr) (n c : Nat) (f : Int) (w : World) (hl : (10 : Int) < n) : Calls Try.prog 4 #[.slice A n c, .int .u16 f] w fun e w' => e = .returned (.bool true) ∧ Ext w w' := by
  go_enter Try.func4, Try.ntmps4
  go_wp2_with (go_at_call 5; refine (begun_any _).mono ?_; rintro e w1 ⟨rfl, b1⟩)
  go_ret
  exact ⟨rfl, b1⟩
theorem u16_of {x : Int} (h : (Lit.int .u16 x).wf = true) : 0 ≤ x ∧ x ≤ 65535 := by
  simpa [Lit.wf, IntKind.min, IntKind.max, IntKind.signed, IntKind.bits] using h
theorem walk {H : Type} {enc : TypeId × Value → H} (W : World) (base : Nat) (v0 v1 : Value) (d0 d1 : DataW H) (p0 p1 : List MemPlace)
    (ok0 : Value.okWide Try.prog W .any base 38 v0) (h0 : DataW.Trod enc Try.prog W 0 (fun _ => true) true 38 v0 d0 p0)
    (ok1 : Value.okWide Try.prog W .any base 39 v1) (h1 : DataW.Trod enc Try.prog W 0 (fun _ => true) true 39 v1 d1 p1) :
    Calls Try.prog 4 #[v0, v1] W fun e w' => e = .returned (.bool true) ∧ Below W.heap.size W w' := by
  obtain ⟨f, rfl, _, _, hf⟩ := open_int Try.underlying39 ok1 h1
  obtain ⟨A, n, c, rfl⟩ := okWide_slice Try.underlying38 ok0
  obtain ⟨fuel, hx⟩ := h0
  obtain ⟨A', n', c', zs, hcs, _, _, _, hz, hr, hw⟩ := open_flat_ints Try.underlying38 Try.underlying39 cells39 hx
  simp [Value.cells] at hcs
  obtain ⟨rfl, rfl, rfl⟩ := hcs
  by_cases hl : (10 : Int) < n
  · exact walk_long A n c f W hl
  · exact walk_short A n c zs f W hr hz (fun z hz' => u16_of (hw z hz')) (by omega) (u16_of hf).1 (u16_of hf).2
end Go.Proofs.Ytmleneljmcikdaa.markSays
