/- TileArms: the arguments opened. -/
import Derived.Test.YtpbenpkgbhmldaaTileArmsW
namespace Go.Proofs.Ytpbenpkgbhmldaa.tileArms
open Go.ChangeShapes Go.WideShapes Go.ChangeAt Go.RowKit
set_option linter.unusedVariables false

theorem u8_nat' {z : Int} (h : (Lit.int .u8 z).wf = true) : ∃ n : Nat, z = (n : Int) ∧ n < 256 := by
  have hb : 0 ≤ z ∧ z ≤ 255 := by simpa [Lit.wf, IntKind.min, IntKind.max, IntKind.signed, IntKind.bits] using h
  exact ⟨z.toNat, by omega, by omega⟩
set_option maxRecDepth 100000 in
theorem walk {H : Type} {enc : TypeId × Value → H} (W : World) (base : Nat) (v0 v1 : Value) (d0 d1 : DataW H) (p0 p1 : List MemPlace)
    (ok0 : Value.okWide Try.prog W .any base 5 v0) (h0 : DataW.Trod enc Try.prog W 0 (fun _ => true) true 5 v0 d0 p0)
    (ok1 : Value.okWide Try.prog W .any base 5 v1) (h1 : DataW.Trod enc Try.prog W 0 (fun _ => true) true 5 v1 d1 p1) :
    Calls Try.prog 7 #[v0, v1] W fun e w' => e = .returned (.bool true) ∧ Below W.heap.size W w' := by
  obtain ⟨a, rfl, _, _, wa⟩ := open_int Try.underlying5 ok0 h0
  obtain ⟨b, rfl, _, _, wb⟩ := open_int Try.underlying5 ok1 h1
  obtain ⟨n, rfl, hn⟩ := u8_nat' wa
  obtain ⟨m, rfl, hm⟩ := u8_nat' wb
  exact walk_any n m W hn hm
end Go.Proofs.Ytpbenpkgbhmldaa.tileArms
