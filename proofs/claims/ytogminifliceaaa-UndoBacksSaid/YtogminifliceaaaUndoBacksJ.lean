/- UndoBacks: the arguments opened, the walks joined. -/
import Derived.Test.YtogminifliceaaaUndoBacksW
namespace Go.Proofs.Ytogminifliceaaa.undoBacks
open Go.ChangeShapes Go.WideShapes Go.ChangeAt Go.RowKit
set_option linter.unusedVariables false

theorem u8_bounds {z : Int} (h : (Lit.int .u8 z).wf = true) : 0 ≤ z ∧ z ≤ 255 := by simpa [Lit.wf, IntKind.min, IntKind.max, IntKind.signed, IntKind.bits] using h
theorem u16_bounds {z : Int} (h : (Lit.int .u16 z).wf = true) : 0 ≤ z ∧ z ≤ 65535 := by simpa [Lit.wf, IntKind.min, IntKind.max, IntKind.signed, IntKind.bits] using h
theorem walk {H : Type} {enc : TypeId × Value → H} (W : World) (base : Nat) (v0 v1 v2 v3 v4 v5 v6 : Value) (d0 d1 d2 d3 d4 d5 d6 : DataW H) (p0 p1 p2 p3 p4 p5 p6 : List MemPlace)
    (ok0 : Value.okWide Try.prog W .any base 5 v0) (h0 : DataW.Trod enc Try.prog W 0 (fun _ => true) true 5 v0 d0 p0)
    (ok1 : Value.okWide Try.prog W .any base 5 v1) (h1 : DataW.Trod enc Try.prog W 0 (fun _ => true) true 5 v1 d1 p1)
    (ok2 : Value.okWide Try.prog W .any base 5 v2) (h2 : DataW.Trod enc Try.prog W 0 (fun _ => true) true 5 v2 d2 p2)
    (ok3 : Value.okWide Try.prog W .any base 41 v3) (h3 : DataW.Trod enc Try.prog W 0 (fun _ => true) true 41 v3 d3 p3)
    (ok4 : Value.okWide Try.prog W .any base 41 v4) (h4 : DataW.Trod enc Try.prog W 0 (fun _ => true) true 41 v4 d4 p4)
    (ok5 : Value.okWide Try.prog W .any base 24 v5) (h5 : DataW.Trod enc Try.prog W 0 (fun _ => true) true 24 v5 d5 p5)
    (ok6 : Value.okWide Try.prog W .any base 24 v6) (h6 : DataW.Trod enc Try.prog W 0 (fun _ => true) true 24 v6 d6 p6) :
    Calls Try.prog 6 #[v0, v1, v2, v3, v4, v5, v6] W fun e w' => e = .returned (.bool true) ∧ Below W.heap.size W w' := by
  obtain ⟨t, rfl, _, _, wt⟩ := open_int Try.underlying5 ok0 h0
  obtain ⟨a0, rfl, _, _, wa0⟩ := open_int Try.underlying5 ok1 h1
  obtain ⟨a1, rfl, _, _, wa1⟩ := open_int Try.underlying5 ok2 h2
  obtain ⟨p, rfl, _, _, wp⟩ := open_int Try.underlying41 ok3 h3
  obtain ⟨q, rfl, _, _, wq⟩ := open_int Try.underlying41 ok4 h4
  obtain ⟨A', n', c', rfl⟩ := okWide_slice Try.underlying24 ok5
  obtain ⟨B', m', d', rfl⟩ := okWide_slice Try.underlying24 ok6
  obtain ⟨f5, g5⟩ := h5
  obtain ⟨A, n, c, zs, hcs, _, _, hA, hz, hr, hw⟩ := open_flat_ints Try.underlying24 Try.underlying5 Try.cells5 g5
  simp [Value.cells] at hcs
  obtain ⟨rfl, rfl, rfl⟩ := hcs
  obtain ⟨l, hl, hn⟩ := bytes_of_ints hw
  rw [hl] at hr
  obtain rfl : l.length = n' := by omega
  obtain ⟨b0, b1⟩ := u8_bounds wt
  obtain ⟨b2, b3⟩ := u8_bounds wa0
  obtain ⟨b4, b5⟩ := u8_bounds wa1
  obtain ⟨b6, b7⟩ := u16_bounds wp
  obtain ⟨b8, b9⟩ := u16_bounds wq
  by_cases hlong : 30 < l.length ∨ 30 < m'
  · exact walk_long t a0 a1 p q A' B' _ m' c' d' W hlong
  · exact walk_short t a0 a1 p q A' B' m' c' d' l W b0 b1 b2 b3 b4 b5 b6 b7 b8 b9 (fun e => (hA e).2) hr (by omega) (by omega)
end Go.Proofs.Ytogminifliceaaa.undoBacks
