/- DeedSaves: the arguments opened. -/
import Derived.Test.YtkicocaejfhgiaaDeedSavesW
namespace Go.Proofs.Ytkicocaejfhgiaa.deedSaves
open Go.ChangeShapes Go.WideShapes Go.ChangeAt Go.RowKit
set_option linter.unusedVariables false

theorem Try.cells5 : Try.prog.cellsOf 5 = 1 := by kernel_rfl
theorem u8_bounds {z : Int} (h : (Lit.int .u8 z).wf = true) : 0 ≤ z ∧ z ≤ 255 := by simpa [Lit.wf, IntKind.min, IntKind.max, IntKind.signed, IntKind.bits] using h
theorem walk {H : Type} {enc : TypeId × Value → H} (W : World) (base : Nat) (v0 v1 : Value) (d0 d1 : DataW H) (p0 p1 : List MemPlace)
    (ok0 : Value.okWide Try.prog W .any base 43 v0) (h0 : DataW.Trod enc Try.prog W 0 (fun _ => true) true 43 v0 d0 p0)
    (ok1 : Value.okWide Try.prog W .any base 5 v1) (h1 : DataW.Trod enc Try.prog W 0 (fun _ => true) true 5 v1 d1 p1) :
    Calls Try.prog 5 #[v0, v1] W fun e w' => e = .returned (.bool true) ∧ Below W.heap.size W w' := by
  obtain ⟨A', n', c', rfl⟩ := okWide_slice Try.underlying43 ok0
  obtain ⟨f5, g5⟩ := h0
  obtain ⟨A, n, c, zs, hcs, _, _, hA, hz, hr, hw⟩ := open_flat_ints Try.underlying43 Try.underlying5 Try.cells5 g5
  simp [Value.cells] at hcs
  obtain ⟨rfl, rfl, rfl⟩ := hcs
  obtain ⟨l, hl, hn⟩ := bytes_of_ints hw
  rw [hl] at hr
  obtain rfl : l.length = n' := by omega
  obtain ⟨m, rfl, _, _, wm⟩ := open_int Try.underlying5 ok1 h1
  obtain ⟨m0, m1⟩ := u8_bounds wm
  by_cases hlong : (12 : Int) < l.length
  · exact deedSavesW.walk_long A' _ c' m W hlong
  · exact deedSavesW.walk_short A' c' l m W hr (by omega) m0 m1
end Go.Proofs.Ytkicocaejfhgiaa.deedSaves
