/- DeedBack: the arguments opened. -/
import Derived.Test.YtkicocaejfhgiaaDeedBackW
namespace Go.Proofs.Ytkicocaejfhgiaa.deedBack
open Go.ChangeShapes Go.WideShapes Go.ChangeAt Go.RowKit
set_option linter.unusedVariables false

theorem u8_bounds {z : Int} (h : (Lit.int .u8 z).wf = true) : 0 ≤ z ∧ z ≤ 255 := by simpa [Lit.wf, IntKind.min, IntKind.max, IntKind.signed, IntKind.bits] using h
theorem walk {H : Type} {enc : TypeId × Value → H} (W : World) (base : Nat) (v0 v1 v2 v3 : Value) (d0 d1 d2 d3 : DataW H) (p0 p1 p2 p3 : List MemPlace)
    (ok0 : Value.okWide Try.prog W .any base 5 v0) (h0 : DataW.Trod enc Try.prog W 0 (fun _ => true) true 5 v0 d0 p0)
    (ok1 : Value.okWide Try.prog W .any base 5 v1) (h1 : DataW.Trod enc Try.prog W 0 (fun _ => true) true 5 v1 d1 p1)
    (ok2 : Value.okWide Try.prog W .any base 5 v2) (h2 : DataW.Trod enc Try.prog W 0 (fun _ => true) true 5 v2 d2 p2)
    (ok3 : Value.okWide Try.prog W .any base 4 v3) (h3 : DataW.Trod enc Try.prog W 0 (fun _ => true) true 4 v3 d3 p3) :
    Calls Try.prog 4 #[v0, v1, v2, v3] W fun e w' => e = .returned (.bool true) ∧ Below W.heap.size W w' := by
  obtain ⟨a, rfl, _, _, wa⟩ := open_int Try.underlying5 ok0 h0
  obtain ⟨b, rfl, _, _, wb⟩ := open_int Try.underlying5 ok1 h1
  obtain ⟨c, rfl, _, _, wc⟩ := open_int Try.underlying5 ok2 h2
  obtain ⟨s, rfl, _, _⟩ := open_bool Try.underlying4 ok3 h3
  obtain ⟨a0, a1⟩ := u8_bounds wa
  obtain ⟨b0, b1⟩ := u8_bounds wb
  obtain ⟨c0, c1⟩ := u8_bounds wc
  exact deedBackW.walk a b c s W a0 a1 b0 b1 c0 c1
end Go.Proofs.Ytkicocaejfhgiaa.deedBack
