/- RedoMoves: the arguments opened. -/
import Derived.Test.YtaagdjipjeindaaRedoMovesW
namespace Go.Proofs.Ytaagdjipjeindaa.redoMoves
open Go.ChangeShapes Go.WideShapes Go.ChangeAt Go.RowKit
set_option linter.unusedVariables false

theorem u8_nat {z : Int} (h : (Lit.int .u8 z).wf = true) : ∃ n : Nat, z = (n : Int) ∧ n ≤ 255 := by
  have hb : 0 ≤ z ∧ z ≤ 255 := by simpa [Lit.wf, IntKind.min, IntKind.max, IntKind.signed, IntKind.bits] using h
  exact ⟨z.toNat, by omega, by omega⟩
set_option maxRecDepth 100000 in
theorem walk {H : Type} {enc : TypeId × Value → H} (W : World) (base : Nat) (v0 v1 v2 : Value) (d0 d1 d2 : DataW H) (p0 p1 p2 : List MemPlace)
    (ok0 : Value.okWide Try.prog W .any base 5 v0) (h0 : DataW.Trod enc Try.prog W 0 (fun _ => true) true 5 v0 d0 p0)
    (ok1 : Value.okWide Try.prog W .any base 5 v1) (h1 : DataW.Trod enc Try.prog W 0 (fun _ => true) true 5 v1 d1 p1)
    (ok2 : Value.okWide Try.prog W .any base 5 v2) (h2 : DataW.Trod enc Try.prog W 0 (fun _ => true) true 5 v2 d2 p2) :
    Calls Try.prog 6 #[v0, v1, v2] W fun e w' => e = .returned (.bool true) ∧ Below W.heap.size W w' := by
  obtain ⟨_, rfl, _, _, w0⟩ := open_int Try.underlying5 ok0 h0
  obtain ⟨x, rfl, hx⟩ := u8_nat w0
  obtain ⟨_, rfl, _, _, w1⟩ := open_int Try.underlying5 ok1 h1
  obtain ⟨y, rfl, hy⟩ := u8_nat w1
  obtain ⟨_, rfl, _, _, w2⟩ := open_int Try.underlying5 ok2 h2
  obtain ⟨z, rfl, hz⟩ := u8_nat w2
  exact walk_main x y z W hx hy hz
end Go.Proofs.Ytaagdjipjeindaa.redoMoves
