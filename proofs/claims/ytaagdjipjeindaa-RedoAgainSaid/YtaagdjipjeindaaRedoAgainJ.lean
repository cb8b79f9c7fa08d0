/- RedoAgain: the arguments opened. -/
import Derived.Test.YtaagdjipjeindaaRedoAgainW
namespace Go.Proofs.Ytaagdjipjeindaa.redoAgain
open Go.ChangeShapes Go.WideShapes Go.ChangeAt Go.RowKit
set_option linter.unusedVariables false

theorem cells23 : Try.prog.cellsOf 23 = 1 := by kernel_rfl
theorem u8_nat {z : Int} (h : (Lit.int .u8 z).wf = true) : ∃ n : Nat, z = (n : Int) ∧ n ≤ 255 := by
  have hb : 0 ≤ z ∧ z ≤ 255 := by simpa [Lit.wf, IntKind.min, IntKind.max, IntKind.signed, IntKind.bits] using h
  exact ⟨z.toNat, by omega, by omega⟩
theorem u16_of {x : Int} (h : (Lit.int .u16 x).wf = true) : 0 ≤ x ∧ x ≤ 65535 := by
  simpa [Lit.wf, IntKind.min, IntKind.max, IntKind.signed, IntKind.bits] using h
theorem nats_of : ∀ (zs : List Int), (∀ z ∈ zs, 0 ≤ z ∧ z ≤ 65535) → ∃ ns : List Nat, zs.map (Value.int .u16) = nv ns ∧ ns.length = zs.length ∧ ∀ x ∈ ns, x ≤ 65535
  | [], _ => ⟨[], rfl, rfl, fun _ h => absurd h List.not_mem_nil⟩
  | z :: zs, h => by
    obtain ⟨ns, e, hl, hb⟩ := nats_of zs (fun x hx => h x (List.mem_cons_of_mem _ hx))
    have hz := h z List.mem_cons_self
    refine ⟨z.toNat :: ns, ?_, by simp [hl], fun x hx => ?_⟩
    · have e2 : ((z.toNat : Nat) : Int) = z := by omega
      simp only [nv, List.map_cons, e2] at e ⊢
      rw [e]
    · rcases List.mem_cons.1 hx with rfl | hx
      · omega
      · exact hb x hx
set_option maxRecDepth 1000000 in
theorem walk_long (A : Option Addr) (n c : Nat) (x y : Int) (w : World) (h1 : (12 : Int) < n) : Calls Try.prog 4 #[.slice A n c, .int .u8 x, .int .u8 y] w fun e w' => e = .returned (.bool true) ∧ Ext w w' := by
  go_enter Try.func4, Try.ntmps4
  go_wp2_with (go_at_call 7; refine (begun_any _).mono ?_; rintro e w1 ⟨rfl, b1⟩)
  go_ret
  exact ⟨rfl, b1⟩
set_option maxRecDepth 100000 in
theorem walk {H : Type} {enc : TypeId × Value → H} (W : World) (base : Nat) (v0 v1 v2 : Value) (d0 d1 d2 : DataW H) (p0 p1 p2 : List MemPlace)
    (ok0 : Value.okWide Try.prog W .any base 43 v0) (h0 : DataW.Trod enc Try.prog W 0 (fun _ => true) true 43 v0 d0 p0)
    (ok1 : Value.okWide Try.prog W .any base 5 v1) (h1 : DataW.Trod enc Try.prog W 0 (fun _ => true) true 5 v1 d1 p1)
    (ok2 : Value.okWide Try.prog W .any base 5 v2) (h2 : DataW.Trod enc Try.prog W 0 (fun _ => true) true 5 v2 d2 p2) :
    Calls Try.prog 4 #[v0, v1, v2] W fun e w' => e = .returned (.bool true) ∧ Below W.heap.size W w' := by
  obtain ⟨_, rfl, _, _, wk⟩ := open_int Try.underlying5 ok1 h1
  obtain ⟨k, rfl, hk⟩ := u8_nat wk
  obtain ⟨_, rfl, _, _, wq⟩ := open_int Try.underlying5 ok2 h2
  obtain ⟨q, rfl, hq⟩ := u8_nat wq
  obtain ⟨A, n, c, rfl⟩ := okWide_slice Try.underlying43 ok0
  obtain ⟨fuel, hx⟩ := h0
  obtain ⟨A', n', c', zs, hcs, _, _, _, hz, hr, hw⟩ := open_flat_ints Try.underlying43 Try.underlying23 cells23 hx
  simp [Value.cells] at hcs
  obtain ⟨rfl, rfl, rfl⟩ := hcs
  by_cases hl : (12 : Int) < n
  · exact walk_long A n c _ _ W hl
  · obtain ⟨ns, e, hlen, hb⟩ := nats_of zs (fun z hz' => u16_of (hw z hz'))
    rw [e] at hr
    exact walk_short A c n ns k q W hr (by omega) hb (by omega) hk hq
end Go.Proofs.Ytaagdjipjeindaa.redoAgain
