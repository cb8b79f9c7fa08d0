/- LookMarks: the arguments opened. -/
import Derived.Test.YtaijgnhkdbdfcaaLookMarksW
namespace Go.Proofs.Ytaijgnhkdbdfcaa.lookMarks
open Go.ChangeShapes Go.WideShapes Go.ChangeAt Go.RowKit
set_option linter.unusedVariables false

theorem cells59 : Try.prog.cellsOf 59 = 1 := by kernel_rfl
theorem u16_of {x : Int} (h : (Lit.int .u16 x).wf = true) : 0 ≤ x ∧ x ≤ 65535 := by
  simpa [Lit.wf, IntKind.min, IntKind.max, IntKind.signed, IntKind.bits] using h
theorem nats_of : ∀ (zs : List Int), (∀ z ∈ zs, 0 ≤ z ∧ z ≤ 65535) → ∃ ns : List Nat, zs.map (Value.int .u16) = nv ns ∧ ns.length = zs.length ∧ ∀ x ∈ ns, x ≤ 65535
  | [], _ => ⟨[], rfl, rfl, fun _ h => absurd h List.not_mem_nil⟩
  | z :: zs, h => by
    obtain ⟨ns, e, hl, hb⟩ := nats_of zs (fun x hx => h x (List.mem_cons_of_mem _ hx))
    have hz := h z List.mem_cons_self
    refine ⟨z.toNat :: ns, ?_, by simp [hl], fun x hx => ?_⟩
    · have e2 : ((z.toNat : Nat) : Int) = z := by omega
      simp only [nv, List.map_cons, e2] at e ⊢
      rw [e]
    · rcases List.mem_cons.1 hx with rfl | hx
      · omega
      · exact hb x hx
theorem u32_of {x : Int} (h : (Lit.int .u32 x).wf = true) : 0 ≤ x ∧ x ≤ 4294967295 := by
  simpa [Lit.wf, IntKind.min, IntKind.max, IntKind.signed, IntKind.bits] using h
theorem u8_of {x : Int} (h : (Lit.int .u8 x).wf = true) : 0 ≤ x ∧ x ≤ 255 := by
  simpa [Lit.wf, IntKind.min, IntKind.max, IntKind.signed, IntKind.bits] using h
set_option maxRecDepth 100000 in
theorem walk {H : Type} {enc : TypeId × Value → H} (W : World) (base : Nat) (v0 v1 v2 : Value) (d0 d1 d2 : DataW H) (p0 p1 p2 : List MemPlace)
    (ok0 : Value.okWide Try.prog W .any base 22 v0) (h0 : DataW.Trod enc Try.prog W 0 (fun _ => true) true 22 v0 d0 p0)
    (ok1 : Value.okWide Try.prog W .any base 23 v1) (h1 : DataW.Trod enc Try.prog W 0 (fun _ => true) true 23 v1 d1 p1)
    (ok2 : Value.okWide Try.prog W .any base 5 v2) (h2 : DataW.Trod enc Try.prog W 0 (fun _ => true) true 5 v2 d2 p2) :
    Calls Try.prog 3 #[v0, v1, v2] W fun e w' => e = .returned (.bool true) ∧ Below W.heap.size W w' := by
  obtain ⟨x, rfl, _, _, wk⟩ := open_int Try.underlying23 ok1 h1
  obtain ⟨y, rfl, _, _, wq⟩ := open_int Try.underlying5 ok2 h2
  obtain ⟨hm0, hm1⟩ := u32_of wk
  obtain ⟨hc0, hc1⟩ := u8_of wq
  obtain ⟨A, n, c, rfl⟩ := okWide_slice Try.underlying22 ok0
  obtain ⟨fuel, hx⟩ := h0
  obtain ⟨A', n', c', zs, hcs, _, _, _, hz, hr, hw⟩ := open_flat_ints Try.underlying22 Try.underlying59 cells59 hx
  simp [Value.cells] at hcs
  obtain ⟨rfl, rfl, rfl⟩ := hcs
  by_cases hl : (30 : Int) < n
  · exact walk_long A n c x y W hl
  · obtain ⟨ns, e, hlen, hb⟩ := nats_of zs (fun z hz' => u16_of (hw z hz'))
    rw [e] at hr
    exact walk_short A c n ns x y W hr (by omega) hb (by omega) hm0 hm1 hc0 hc1
end Go.Proofs.Ytaijgnhkdbdfcaa.lookMarks
