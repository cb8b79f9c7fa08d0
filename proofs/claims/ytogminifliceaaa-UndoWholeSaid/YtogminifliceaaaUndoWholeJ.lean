/- UndoWhole: the arguments opened. -/
import Derived.Test.YtogminifliceaaaUndoWholeW
namespace Go.Proofs.Ytogminifliceaaa.undoWhole
open Go.ChangeShapes Go.WideShapes Go.ChangeAt Go.RowKit
set_option linter.unusedVariables false

set_option maxRecDepth 100000 in
theorem walk_long (A B : Option Addr) (n c m d : Nat) (w : World) (h1 : (10 : Int) < n ∨ (10 : Int) < m) : Calls Try.prog 4 #[.slice A n c, .slice B m d] w fun e w' => e = .returned (.bool true) ∧ Below w.heap.size w w' := by
  by_cases hn : (10 : Int) < n
  · have d1 : decide ((10 : Int) < (n : Int)) = true := decide_eq_true hn
    clear h1
    go_enter Try.func4, Try.ntmps4
    go_wp2_with (go_at_call 7; refine (begun_any _).mono ?_; rintro e w1 ⟨rfl, b1⟩)
    go_ret
    exact ⟨rfl, b1⟩
  · have d1 : decide ((10 : Int) < (n : Int)) = false := decide_eq_false hn
    have hm : (10 : Int) < m := by omega
    have d2 : decide ((10 : Int) < (m : Int)) = true := decide_eq_true hm
    clear h1
    go_enter Try.func4, Try.ntmps4
    go_wp2_with (go_at_call 7; refine (begun_any _).mono ?_; rintro e w1 ⟨rfl, b1⟩)
    go_ret
    exact ⟨rfl, b1⟩
set_option maxRecDepth 100000 in
theorem walk {H : Type} {enc : TypeId × Value → H} (W : World) (base : Nat) (v0 v1 : Value) (d0 d1 : DataW H) (p0 p1 : List MemPlace)
    (ok0 : Value.okWide Try.prog W .any base 24 v0) (h0 : DataW.Trod enc Try.prog W 0 (fun _ => true) true 24 v0 d0 p0)
    (ok1 : Value.okWide Try.prog W .any base 24 v1) (h1 : DataW.Trod enc Try.prog W 0 (fun _ => true) true 24 v1 d1 p1) :
    Calls Try.prog 4 #[v0, v1] W fun e w' => e = .returned (.bool true) ∧ Below W.heap.size W w' := by
  obtain ⟨A', n', c', rfl⟩ := okWide_slice Try.underlying24 ok0
  obtain ⟨B', m', d', rfl⟩ := okWide_slice Try.underlying24 ok1
  obtain ⟨f0, g0⟩ := h0
  obtain ⟨f1, g1⟩ := h1
  obtain ⟨v, L, hv, A, c, rfl, _, rL⟩ := open_bytes g0
  obtain ⟨u, S, hu, B, d, rfl, _, rS⟩ := open_bytes g1
  simp [Value.cells] at hv hu
  obtain ⟨rfl, rfl, rfl⟩ := hv
  obtain ⟨rfl, rfl, rfl⟩ := hu
  by_cases hl : (10 : Int) < L.length ∨ (10 : Int) < S.length
  · exact walk_long _ _ _ _ _ _ W hl
  · exact walk_short _ _ _ _ L S W rL rS (by omega) (by omega)
end Go.Proofs.Ytogminifliceaaa.undoWhole
