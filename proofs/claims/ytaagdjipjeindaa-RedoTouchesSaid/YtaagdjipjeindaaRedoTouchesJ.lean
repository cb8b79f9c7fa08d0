/- RedoTouches: the arguments opened. -/
import Derived.Test.YtaagdjipjeindaaRedoTouchesW
namespace Go.Proofs.Ytaagdjipjeindaa.redoTouches
open Go.ChangeShapes Go.WideShapes Go.ChangeAt Go.RowKit
set_option linter.unusedVariables false

theorem cells5 : Try.prog.cellsOf 5 = 1 := by kernel_rfl
theorem u8_nat {z : Int} (h : (Lit.int .u8 z).wf = true) : ∃ n : Nat, z = (n : Int) ∧ n ≤ 255 := by
  have hb : 0 ≤ z ∧ z ≤ 255 := by simpa [Lit.wf, IntKind.min, IntKind.max, IntKind.signed, IntKind.bits] using h
  exact ⟨z.toNat, by omega, by omega⟩
theorem u16_nat {z : Int} (h : (Lit.int .u16 z).wf = true) : ∃ n : Nat, z = (n : Int) ∧ n ≤ 65535 := by
  have hb : 0 ≤ z ∧ z ≤ 65535 := by simpa [Lit.wf, IntKind.min, IntKind.max, IntKind.signed, IntKind.bits] using h
  exact ⟨z.toNat, by omega, by omega⟩
set_option maxRecDepth 1000000 in
theorem walk_long (A : Option Addr) (n c : Nat) (x y : Int) (w : World) (h1 : (4 : Int) < n) : Calls Try.prog 5 #[.int .u16 x, .slice A n c, .int .u8 y] w fun e w' => e = .returned (.bool true) ∧ Ext w w' := by
  go_enter Try.func5, Try.ntmps5
  go_wp2_with (go_at_call 7; refine (begun_any _).mono ?_; rintro e w1 ⟨rfl, b1⟩)
  go_ret
  exact ⟨rfl, b1⟩
set_option maxRecDepth 100000 in
theorem walk {H : Type} {enc : TypeId × Value → H} (W : World) (base : Nat) (v0 v1 v2 : Value) (d0 d1 d2 : DataW H) (p0 p1 p2 : List MemPlace)
    (ok0 : Value.okWide Try.prog W .any base 23 v0) (h0 : DataW.Trod enc Try.prog W 0 (fun _ => true) true 23 v0 d0 p0)
    (ok1 : Value.okWide Try.prog W .any base 22 v1) (h1 : DataW.Trod enc Try.prog W 0 (fun _ => true) true 22 v1 d1 p1)
    (ok2 : Value.okWide Try.prog W .any base 5 v2) (h2 : DataW.Trod enc Try.prog W 0 (fun _ => true) true 5 v2 d2 p2) :
    Calls Try.prog 5 #[v0, v1, v2] W fun e w' => e = .returned (.bool true) ∧ Below W.heap.size W w' := by
  obtain ⟨_, rfl, _, _, wk⟩ := open_int Try.underlying23 ok0 h0
  obtain ⟨k, rfl, hk⟩ := u16_nat wk
  obtain ⟨_, rfl, _, _, wq⟩ := open_int Try.underlying5 ok2 h2
  obtain ⟨q, rfl, hq⟩ := u8_nat wq
  obtain ⟨A, n, c, rfl⟩ := okWide_slice Try.underlying22 ok1
  obtain ⟨fuel, hx⟩ := h1
  obtain ⟨A', n', c', zs, hcs, _, _, _, hz, hr, hw⟩ := open_flat_ints Try.underlying22 Try.underlying5 cells5 hx
  simp [Value.cells] at hcs
  obtain ⟨rfl, rfl, rfl⟩ := hcs
  by_cases hl : (4 : Int) < n
  · exact walk_long A n c _ _ W hl
  · obtain ⟨l, e, hl'⟩ := bytes_of_ints hw
    rw [e] at hr
    exact walk_short A c n l k q W hr (by omega) (by omega) hk hq
end Go.Proofs.Ytaagdjipjeindaa.redoTouches
