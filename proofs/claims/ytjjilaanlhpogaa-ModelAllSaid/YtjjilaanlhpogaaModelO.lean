/- Model: a step that came in, opened. -/
import Derived.Test.YtjjilaanlhpogaaModelB
import Derived.ChangeArms
import Derived.Deep.Slices
namespace Go.Proofs.Ytjjilaanlhpogaa
open Go.ChangeShapes Go.WideShapes Go.ChangeAt Go.RowKit
set_option linter.unusedVariables false

theorem cells3 : Try.prog.cellsOf 3 = 1 := by kernel_rfl
theorem cells9 : Try.prog.cellsOf 9 = 1 := by kernel_rfl
theorem cells31 : Try.prog.cellsOf 31 = 3 := by kernel_rfl
theorem cells32 : Try.prog.cellsOf 32 = 1 := by kernel_rfl
theorem cells34 : Try.prog.cellsOf 34 = 7 := by kernel_rfl
section
variable {H : Type} {enc : TypeId × Value → H} {w : World} {base : Nat} {spare : Nat → Bool} {held : Bool}
theorem open_row {fuel : Nat} {cs : List Value} {x : DataW H × List MemPlace} (h : DataW.trod enc Try.prog w base spare held fuel 31 cs = some x) :
    ∃ r : Rw, cs = [.string r.k, .string r.s, .string r.v] ∧ r.k.size ≤ maxLen ∧ r.s.size ≤ maxLen ∧ r.v.size ≤ maxLen := by
  obtain ⟨xs, n, _, _, hlen, hxl, hf⟩ := DataW.trod_struct Try.underlying31 h
  rw [cells31] at hlen
  match cs, hlen with
  | [a, b, c], _ =>
    have s : ∀ i, i < 3 → ∃ y, xs[i]? = some y := fun i hi => ⟨_, List.getElem?_eq_getElem (by rw [hxl]; exact hi)⟩
    obtain ⟨y0, h0⟩ := s 0 (by decide)
    obtain ⟨y1, h1⟩ := s 1 (by decide)
    obtain ⟨y2, h2⟩ := s 2 (by decide)
    have g0 := (hf 0 _ rfl).trans h0
    have g1 := (hf 1 _ rfl).trans h1
    have g2 := (hf 2 _ rfl).trans h2
    simp [cells9] at g0 g1 g2
    obtain ⟨k, hk, _, zk⟩ := DataW.trod_string Try.underlying9 g0
    obtain ⟨s, hs, _, zs⟩ := DataW.trod_string Try.underlying9 g1
    obtain ⟨v, hv, _, zv⟩ := DataW.trod_string Try.underlying9 g2
    simp at hk hs hv
    subst hk hs hv
    exact ⟨⟨k, s, v⟩, rfl, zk, zs, zv⟩
theorem open_step {fuel : Nat} {cs : List Value} {x : DataW H × List MemPlace} (h : DataW.trod enc Try.prog w base spare held fuel 34 cs = some x) :
    ∃ (kind t n : Int) (r : Rw) (A : Option Addr) (l c : Nat), cs = [.int .i64 kind, .int .i64 t, .int .i64 n, .string r.k, .string r.s, .string r.v, .slice A l c] ∧ r.k.size ≤ maxLen ∧ r.s.size ≤ maxLen ∧ r.v.size ≤ maxLen := by
  obtain ⟨xs, m, _, _, hlen, hxl, hf⟩ := DataW.trod_struct Try.underlying34 h
  rw [cells34] at hlen
  match cs, hlen with
  | [c0, c1, c2, c3, c4, c5, c6], _ =>
    have s : ∀ i, i < 5 → ∃ y, xs[i]? = some y := fun i hi => ⟨_, List.getElem?_eq_getElem (by rw [hxl]; exact hi)⟩
    obtain ⟨y0, h0⟩ := s 0 (by decide)
    obtain ⟨y1, h1⟩ := s 1 (by decide)
    obtain ⟨y2, h2⟩ := s 2 (by decide)
    obtain ⟨y3, h3⟩ := s 3 (by decide)
    obtain ⟨y4, h4⟩ := s 4 (by decide)
    have g0 := (hf 0 _ rfl).trans h0
    have g1 := (hf 1 _ rfl).trans h1
    have g2 := (hf 2 _ rfl).trans h2
    have g3 := (hf 3 _ rfl).trans h3
    have g4 := (hf 4 _ rfl).trans h4
    simp [cells3, cells31, cells32] at g0 g1 g2 g3 g4
    obtain ⟨kd, hk, _, _⟩ := DataW.trod_int Try.underlying3 g0
    obtain ⟨t, ht, _, _⟩ := DataW.trod_int Try.underlying3 g1
    obtain ⟨n, hn, _, _⟩ := DataW.trod_int Try.underlying3 g2
    obtain ⟨r, hr, z1, z2, z3⟩ := open_row g3
    simp at hk ht hn hr
    obtain ⟨rfl, rfl, rfl⟩ := hr
    subst hk ht hn
    rcases Go.Deep.open_slice Try.underlying32 g4 with ⟨e, _⟩ | ⟨a, len, cap, _, _, _, _, e, _⟩
    · simp at e
      subst e
      exact ⟨kd, t, n, r, _, _, _, rfl, z1, z2, z3⟩
    · simp at e
      subst e
      exact ⟨kd, t, n, r, _, _, _, rfl, z1, z2, z3⟩
end
end Go.Proofs.Ytjjilaanlhpogaa
