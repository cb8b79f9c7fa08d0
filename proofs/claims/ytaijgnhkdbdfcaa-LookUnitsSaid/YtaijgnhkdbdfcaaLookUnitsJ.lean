/- LookUnits: the argument opened. -/
import Derived.Test.YtaijgnhkdbdfcaaLookUnitsW
namespace Go.Proofs.Ytaijgnhkdbdfcaa.lookUnits
open Go.ChangeShapes Go.WideShapes Go.ChangeAt Go.RowKit
set_option linter.unusedVariables false

theorem cells5 : Try.prog.cellsOf 5 = 1 := by kernel_rfl
theorem u8_of {x : Int} (h : (Lit.int .u8 x).wf = true) : 0 ≤ x ∧ x ≤ 255 := by
  simpa [Lit.wf, IntKind.min, IntKind.max, IntKind.signed, IntKind.bits] using h
theorem nats_of : ∀ (zs : List Int), (∀ z ∈ zs, 0 ≤ z ∧ z ≤ 255) → ∃ ns : List Nat, zs.map (Value.int .u8) = nb ns ∧ ns.length = zs.length ∧ ∀ x ∈ ns, x ≤ 255
  | [], _ => ⟨[], rfl, rfl, fun _ h => absurd h List.not_mem_nil⟩
  | z :: zs, h => by
    obtain ⟨ns, e, hl, hb⟩ := nats_of zs (fun x hx => h x (List.mem_cons_of_mem _ hx))
    have hz := h z List.mem_cons_self
    refine ⟨z.toNat :: ns, ?_, by simp [hl], fun x hx => ?_⟩
    · have e2 : ((z.toNat : Nat) : Int) = z := by omega
      simp only [nb, List.map_cons, e2] at e ⊢
      rw [e]
    · rcases List.mem_cons.1 hx with rfl | hx
      · omega
      · exact hb x hx
set_option maxRecDepth 100000 in
theorem walk {H : Type} {enc : TypeId × Value → H} (W : World) (base : Nat) (v0 : Value) (d0 : DataW H) (p0 : List MemPlace)
    (ok0 : Value.okWide Try.prog W .any base 29 v0) (h0 : DataW.Trod enc Try.prog W 0 (fun _ => true) true 29 v0 d0 p0) :
    Calls Try.prog 6 #[v0] W fun e w' => e = .returned (.bool true) ∧ Below W.heap.size W w' := by
  obtain ⟨A, n, c, rfl⟩ := okWide_slice Try.underlying29 ok0
  obtain ⟨fuel, hx⟩ := h0
  obtain ⟨A', n', c', zs, hcs, _, _, _, hz, hr, hw⟩ := open_flat_ints Try.underlying29 Try.underlying5 cells5 hx
  simp [Value.cells] at hcs
  obtain ⟨rfl, rfl, rfl⟩ := hcs
  by_cases hl : (12 : Int) < n
  · exact walk_long A n c W hl
  · obtain ⟨ns, e, hlen, hb⟩ := nats_of zs (fun z hz' => u8_of (hw z hz'))
    rw [e] at hr
    exact walk_short A c n ns W hr (by omega) hb (by omega)
end Go.Proofs.Ytaijgnhkdbdfcaa.lookUnits
