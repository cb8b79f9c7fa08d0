/- TileNone: the argument opened. -/
import Derived.Test.YtpbenpkgbhmldaaTileNoneW
namespace Go.Proofs.Ytpbenpkgbhmldaa.tileNone
open Go.ChangeShapes Go.WideShapes Go.ChangeAt Go.RowKit
set_option linter.unusedVariables false

set_option maxRecDepth 100000 in
theorem walk {H : Type} {enc : TypeId × Value → H} (W : World) (base : Nat) (v0 : Value) (d0 : DataW H) (p0 : List MemPlace)
    (ok0 : Value.okWide Try.prog W .any base 3 v0) (h0 : DataW.Trod enc Try.prog W 0 (fun _ => true) true 3 v0 d0 p0) :
    Calls Try.prog 8 #[v0] W fun e w' => e = .returned (.bool true) ∧ Below W.heap.size W w' := by
  obtain ⟨a, rfl, _, _, wa⟩ := open_int Try.underlying3 ok0 h0
  exact walk_any a W
end Go.Proofs.Ytpbenpkgbhmldaa.tileNone
