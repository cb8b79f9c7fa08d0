/- WaitAll: the deeds as they came in. -/
import Derived.Test.YtppffbpocmgafaaWaitU
import Derived.Test.YtppffbpocmgafaaWaitX
namespace Go.Proofs.Ytppffbpocmgafaa.waitAll
open Go.ChangeShapes Go.WideShapes Go.ChangeAt Go.RowKit Go.Maps
set_option linter.unusedVariables false

theorem cells3 : Try.prog.cellsOf 3 = 1 := by kernel_rfl
theorem cells26 : Try.prog.cellsOf 26 = 1 := by kernel_rfl
theorem cells45 : Try.prog.cellsOf 45 = 3 := by kernel_rfl
/-- the deeds: three cells each; a list of its own that is read -/
def Deeds (W : World) (xs : List Value) (n : Nat) : Prop := ∀ i, i < n → ∃ (kind who : Int) (A : Option Addr) (m c : Nat) (l : List Int),
  xs[i * 3]? = some (.int .i64 kind) ∧ xs[i * 3 + 1]? = some (.int .i64 who) ∧ xs[i * 3 + 2]? = some (.slice A m c) ∧ Wf who ∧ Wf kind ∧ l.length = m ∧ Reads W W.heap.size 1 A m (iv l) ∧ ∀ x ∈ l, Wf x
theorem open_deed {H : Type} {enc : TypeId × Value → H} {w : World} {base fuel : Nat} {spare : Nat → Bool} {held : Bool} {cs : List Value} {x : DataW H × List MemPlace} (h : DataW.trod enc Try.prog w base spare held fuel 45 cs = some x) :
    ∃ (kind who : Int) (A : Option Addr) (m c : Nat) (l : List Int), cs = [.int .i64 kind, .int .i64 who, .slice A m c] ∧ Wf who ∧ Wf kind ∧ l.length = m ∧ Reads w w.heap.size 1 A m (iv l) ∧ ∀ x ∈ l, Wf x := by
  obtain ⟨xs, n, _, _, hlen, hxl, hf⟩ := DataW.trod_struct Try.underlying45 h
  rw [cells45] at hlen
  match cs, hlen with
  | [a, b, c], _ =>
    have s : ∀ i, i < 3 → ∃ y, xs[i]? = some y := fun i hi => ⟨_, List.getElem?_eq_getElem (by rw [hxl]; exact hi)⟩
    obtain ⟨y0, h0⟩ := s 0 (by decide)
    obtain ⟨y1, h1⟩ := s 1 (by decide)
    obtain ⟨y2, h2⟩ := s 2 (by decide)
    have g0 := (hf 0 _ rfl).trans h0
    have g1 := (hf 1 _ rfl).trans h1
    have g2 := (hf 2 _ rfl).trans h2
    simp [cells3, cells26] at g0 g1 g2
    obtain ⟨k, hk, _, wk⟩ := DataW.trod_int Try.underlying3 g0
    obtain ⟨o, ho, _, wo⟩ := DataW.trod_int Try.underlying3 g1
    obtain ⟨A, m, cc, zs, hc, _, _, _, hr, ra, wa⟩ := open_flat_ints Try.underlying26 Try.underlying3 cells3 g2
    simp at hk ho hc
    subst hk ho hc
    exact ⟨k, o, A, m, cc, zs, rfl, wo, wk, hr, ra, wa⟩
theorem deeds_of {H : Type} {enc : TypeId × Value → H} {W : World} {base : Nat} {spare : Nat → Bool} {held : Bool} {xs : List Value} {n : Nat} (hl : xs.length = n * 3)
    (h : ∀ i, i < n → ∃ (f : Nat) (y : DataW H × List MemPlace), DataW.trod enc Try.prog W base spare held f 45 ((xs.drop (i * 3)).take 3) = some y) : Deeds W xs n := fun i hi => by
  obtain ⟨f, y, hy⟩ := h i hi
  obtain ⟨kind, who, A, m, c, l, e, r⟩ := open_deed hy
  have at_ : ∀ j, j < 3 → xs[i * 3 + j]? = ((xs.drop (i * 3)).take 3)[j]? := fun j hj => by rw [List.getElem?_take, if_pos hj, List.getElem?_drop]
  refine ⟨kind, who, A, m, c, l, ?_, ?_, ?_, r⟩
  · have := at_ 0 (by decide); rw [e] at this; simpa using this
  · have := at_ 1 (by decide); rw [e] at this; simpa using this
  · have := at_ 2 (by decide); rw [e] at this; simpa using this
end Go.Proofs.Ytppffbpocmgafaa.waitAll
