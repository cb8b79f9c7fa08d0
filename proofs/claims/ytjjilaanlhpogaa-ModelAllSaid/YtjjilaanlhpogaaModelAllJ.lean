/- ModelAll: the argument opened. -/
import Derived.Test.YtjjilaanlhpogaaModelAllW
import Derived.Test.YtjjilaanlhpogaaModelO
namespace Go.Proofs.Ytjjilaanlhpogaa.modelAll
open Go.ChangeShapes Go.WideShapes Go.ChangeAt Go.RowKit
set_option linter.unusedVariables false

set_option maxRecDepth 100000 in
theorem walk_long (A : Option Addr) (n c : Nat) (w : World) (h1 : (40 : Int) < n) : Calls Try.prog 3 #[.slice A n c] w fun e w' => e = .returned (.bool true) ∧ Ext w w' := by
  go_enter Try.func3, Try.ntmps3
  go_wp2_with (go_at_call 7; refine (begun_any _).mono ?_; rintro e w1 ⟨rfl, b1⟩)
  go_ret
  exact ⟨rfl, b1⟩
set_option maxRecDepth 100000 in
theorem walk {H : Type} {enc : TypeId × Value → H} (W : World) (base : Nat) (v0 : Value) (d0 : DataW H) (p0 : List MemPlace)
    (ok0 : Value.okWide Try.prog W .any base 22 v0) (h0 : DataW.Trod enc Try.prog W 0 (fun _ => true) true 22 v0 d0 p0) :
    Calls Try.prog 3 #[v0] W fun e w' => e = .returned (.bool true) ∧ Below W.heap.size W w' := by
  obtain ⟨A, n, c, rfl⟩ := okWide_slice Try.underlying22 ok0
  obtain ⟨fuel, hx⟩ := h0
  obtain ⟨A', n', c', xs, hcs, _, _, _, hr, hi⟩ := open_slice_flat Try.underlying22 cells34 (by omega) hx
  simp [Value.cells] at hcs
  obtain ⟨rfl, rfl, rfl⟩ := hcs
  by_cases hl : (40 : Int) < n
  · exact walk_long A n c W hl
  · refine walk_short A c n xs W hr (fun i hin => ?_) (by omega)
    obtain ⟨f, y, hy⟩ := hi i hin
    obtain ⟨kind, t, m, r, B, l, cc, hcs, z1, z2, z3⟩ := open_step hy
    have key : ∀ j u, ([.int .i64 kind, .int .i64 t, .int .i64 m, .string r.k, .string r.s, .string r.v, .slice B l cc] : List Value)[j]? = some u → xs[i * 7 + j]? = some u := fun j u hu => by
      rw [← hcs, List.getElem?_take] at hu
      split at hu
      · rwa [List.getElem?_drop] at hu
      · cases hu
    exact ⟨kind, t, m, r, B, l, cc, ⟨z1, z2, z3⟩, key 0 _ rfl, key 1 _ rfl, key 2 _ rfl, key 3 _ rfl, key 4 _ rfl, key 5 _ rfl, key 6 _ rfl⟩
end Go.Proofs.Ytjjilaanlhpogaa.modelAll
