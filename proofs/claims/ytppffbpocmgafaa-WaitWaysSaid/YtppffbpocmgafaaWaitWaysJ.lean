/- WaitWays: the walk, at whatever arguments. -/
import Derived.Test.YtppffbpocmgafaaWaitWaysW
namespace Go.Proofs.Ytppffbpocmgafaa.waitWays
open Go.ChangeShapes Go.WideShapes Go.ChangeAt Go.RowKit
set_option linter.unusedVariables false

theorem cells5 : Try.prog.cellsOf 5 = 1 := by kernel_rfl
theorem cells30 : Try.prog.cellsOf 30 = 2 := by kernel_rfl
set_option maxRecDepth 100000 in
theorem walk_long (A : Option Addr) (na c : Nat) (w : World) (hl : ¬ (na : Int) ≤ 30) : Calls Try.prog 3 #[.slice A na c] w fun e w' => e = .returned (.bool true) ∧ Ext w w' := by
  have hl' : (30 : Int) < na := by omega
  clear hl
  go_enter Try.func3, Try.ntmps3
  go_wp2_with (go_at_call 7; refine (begun_any _).mono ?_; rintro e w1 ⟨rfl, b1⟩)
  go_ret
  exact ⟨rfl, b1⟩
theorem walk {H : Type} {enc : TypeId × Value → H} (W : World) (base : Nat) (v0 : Value) (d0 : DataW H) (p0 : List MemPlace)
    (ok0 : Value.okWide Try.prog W .any base 22 v0) (h0 : DataW.Trod enc Try.prog W 0 (fun _ => true) true 22 v0 d0 p0) :
    Calls Try.prog 3 #[v0] W fun e w' => e = .returned (.bool true) ∧ Below W.heap.size W w' := by
  obtain ⟨A, na, c, rfl⟩ := okWide_slice Try.underlying22 ok0
  obtain ⟨f0, hx⟩ := h0
  obtain ⟨_, _, _, xs, hca, _, _, _, ra, he⟩ := open_slice_flat Try.underlying22 cells30 (by omega) hx
  simp [Value.cells] at hca
  obtain ⟨rfl, rfl, rfl⟩ := hca
  by_cases hl : (na : Int) ≤ 30
  · refine walk_short A c xs na W ra (fun j hj => ?_) hl
    obtain ⟨f, y, hy⟩ := he (j / 2) (by omega)
    obtain ⟨zs, n, _, _, hlen, hxl, hf⟩ := DataW.trod_array Try.underlying30 hy
    rw [cells30] at hlen
    have h1 := hf (j % 2) (by omega)
    rw [cells5] at h1
    rw [List.getElem?_eq_getElem (by omega)] at h1
    obtain ⟨a, ha, _, wa⟩ := DataW.trod_int Try.underlying5 h1
    have hb : 0 ≤ a ∧ a ≤ 255 := by simpa [Lit.wf, IntKind.min, IntKind.max, IntKind.signed, IntKind.bits] using wa
    refine ⟨a.toNat, ?_, by omega⟩
    rw [show ((a.toNat : Nat) : Int) = a by omega]
    have e2 := congrArg (fun l => l[0]?) ha
    simp only [List.getElem?_take, List.getElem?_drop, List.getElem?_cons_zero] at e2
    rw [if_pos (by omega), if_pos (by omega)] at e2
    rw [← e2]
    congr 1
    omega
  · exact walk_long A na c W hl
end Go.Proofs.Ytppffbpocmgafaa.waitWays
