/- DeedAll: the arguments opened. -/
import Derived.Test.YtkicocaejfhgiaaDeedAllW
namespace Go.Proofs.Ytkicocaejfhgiaa.deedAll
open Go.ChangeShapes Go.WideShapes Go.ChangeAt Go.RowKit
set_option linter.unusedVariables false

theorem Try.cells33 : Try.prog.cellsOf 33 = 2 := by kernel_rfl
theorem Try.cells3 : Try.prog.cellsOf 3 = 1 := by kernel_rfl
section
variable {H : Type} {enc : TypeId × Value → H} {w : World} {base : Nat} {spare : Nat → Bool} {held : Bool}
theorem open_two {fuel : Nat} {cs : List Value} {x : DataW H × List MemPlace} (h : DataW.trod enc Try.prog w base spare held fuel 33 cs = some x) :
    ∃ a b : Int, cs = [.int .i64 a, .int .i64 b] := by
  obtain ⟨xs, n, _, _, hlen, hxl, hf⟩ := DataW.trod_struct Try.underlying33 h
  rw [Try.cells33] at hlen
  have h0 := hf 0 _ rfl
  have h1 := hf 1 _ rfl
  match cs, hlen with
  | [c0, c1], _ =>
    match xs, (show xs.length = 2 from hxl) with
    | [y0, y1], _ =>
      simp [Try.cells3] at h0 h1
      obtain ⟨a, ha, _, wa⟩ := DataW.trod_int Try.underlying3 h0
      obtain ⟨b, hb, _, wb⟩ := DataW.trod_int Try.underlying3 h1
      simp at ha hb
      exact ⟨a, b, by rw [ha, hb]⟩
end
theorem deeds_of {xs : List Value} {n : Nat} (hl : xs.length = n * 2) (h : ∀ i, i < n → ∃ a b : Int, (xs.drop (i * 2)).take 2 = [.int .i64 a, .int .i64 b]) : deedAllW.Deeds xs n := by
  intro i hi
  obtain ⟨a, b, e⟩ := h i hi
  refine ⟨a, b, ?_, ?_⟩
  · have : ((xs.drop (i * 2)).take 2)[0]? = some (.int .i64 a) := by rw [e]; rfl
    rw [List.getElem?_take, if_pos (by decide), List.getElem?_drop] at this
    simpa using this
  · have : ((xs.drop (i * 2)).take 2)[1]? = some (.int .i64 b) := by rw [e]; rfl
    rw [List.getElem?_take, if_pos (by decide), List.getElem?_drop] at this
    simpa using this
theorem walk {H : Type} {enc : TypeId × Value → H} (W : World) (base : Nat) (v0 : Value) (d0 : DataW H) (p0 : List MemPlace)
    (ok0 : Value.okWide Try.prog W .any base 22 v0) (h0 : DataW.Trod enc Try.prog W 0 (fun _ => true) true 22 v0 d0 p0) :
    Calls Try.prog 3 #[v0] W fun e w' => e = .returned (.bool true) ∧ Below W.heap.size W w' := by
  obtain ⟨A', n', c', rfl⟩ := okWide_slice Try.underlying22 ok0
  obtain ⟨f0, g0⟩ := h0
  obtain ⟨A, n, c, xs, hcs, _, _, hA, hr, hi⟩ := open_slice_flat Try.underlying22 Try.cells33 (by decide) g0
  simp [Value.cells] at hcs
  obtain ⟨rfl, rfl, rfl⟩ := hcs
  have hd : deedAllW.Deeds xs n' := deeds_of hr.1 fun i hi' => by
    obtain ⟨f, y, hy⟩ := hi i hi'
    exact open_two hy
  by_cases hlong : (60 : Int) < n'
  · exact deedAllW.walk_long A' n' c' W hlong
  · exact deedAllW.walk_short A' n' c' xs W hr hd (by omega)
end Go.Proofs.Ytkicocaejfhgiaa.deedAll
