/- ModelBad: the argument opened. -/
import Derived.Test.YtjjilaanlhpogaaModelBadW
import Derived.Test.YtjjilaanlhpogaaModelO
namespace Go.Proofs.Ytjjilaanlhpogaa.modelBad
open Go.ChangeShapes Go.WideShapes Go.ChangeAt Go.RowKit
set_option linter.unusedVariables false

set_option maxRecDepth 1000000 in
theorem walk_long (kind t n : Int) (r : Rw) (A : Option Addr) (l c : Nat) (w : World) (h : (20 : Int) < r.k.size ∨ (20 : Int) < r.s.size ∨ (20 : Int) < r.v.size) :
    Calls Try.prog 6 #[stv kind t n r A l c] w fun e w' => e = .returned (.bool true) ∧ Ext w w' := by
  obtain ⟨k, s, v⟩ := r
  simp only [stv] at *
  by_cases h1 : (20 : Int) < k.size
  · have d1 : decide ((20 : Int) < (k.size : Int)) = true := decide_eq_true h1
    clear h h1
    go_enter Try.func6, Try.ntmps6
    go_wp2_with (go_at_call 7; refine (begun_any _).mono ?_; rintro e w1 ⟨rfl, b1⟩; have B1 := hide (b1.blk (Blk.new w 34 #[.int .i64 kind, .int .i64 t, .int .i64 n, .string k, .string s, .string v, .slice A l c])); have X1 := hide ((Ext.new w _).trans b1); have y3 := B1.out.cell 3; simp at y3; clear b1)
    go_ret
    exact ⟨rfl, X1.out⟩
  · have d1 : decide ((20 : Int) < (k.size : Int)) = false := decide_eq_false h1
    by_cases h2 : (20 : Int) < s.size
    · have d2 : decide ((20 : Int) < (s.size : Int)) = true := decide_eq_true h2
      clear h h1 h2
      go_enter Try.func6, Try.ntmps6
      go_wp2_with (go_at_call 7; refine (begun_any _).mono ?_; rintro e w1 ⟨rfl, b1⟩; have B1 := hide (b1.blk (Blk.new w 34 #[.int .i64 kind, .int .i64 t, .int .i64 n, .string k, .string s, .string v, .slice A l c])); have X1 := hide ((Ext.new w _).trans b1); have y3 := B1.out.cell 3; have y4 := B1.out.cell 4; simp at y3 y4; clear b1)
      go_ret
      exact ⟨rfl, X1.out⟩
    · have d2 : decide ((20 : Int) < (s.size : Int)) = false := decide_eq_false h2
      have d3 : decide ((20 : Int) < (v.size : Int)) = true := decide_eq_true (by omega)
      clear h h1 h2
      go_enter Try.func6, Try.ntmps6
      go_wp2_with (go_at_call 7; refine (begun_any _).mono ?_; rintro e w1 ⟨rfl, b1⟩; have B1 := hide (b1.blk (Blk.new w 34 #[.int .i64 kind, .int .i64 t, .int .i64 n, .string k, .string s, .string v, .slice A l c])); have X1 := hide ((Ext.new w _).trans b1); have y3 := B1.out.cell 3; have y4 := B1.out.cell 4; have y5 := B1.out.cell 5; simp at y3 y4 y5; clear b1)
      go_ret
      exact ⟨rfl, X1.out⟩
theorem walk {H : Type} {enc : TypeId × Value → H} (W : World) (base : Nat) (v0 : Value) (d0 : DataW H) (p0 : List MemPlace)
    (ok0 : Value.okWide Try.prog W .any base 34 v0) (h0 : DataW.Trod enc Try.prog W 0 (fun _ => true) true 34 v0 d0 p0) :
    Calls Try.prog 6 #[v0] W fun e w' => e = .returned (.bool true) ∧ Below W.heap.size W w' := by
  obtain ⟨cs, rfl, _⟩ := okWide_struct Try.underlying34 ok0
  obtain ⟨fuel, hf⟩ := h0
  obtain ⟨kind, t, n, r, A, l, c, hcs, _, _, _⟩ := open_step hf
  obtain rfl : cs = #[.int .i64 kind, .int .i64 t, .int .i64 n, .string r.k, .string r.s, .string r.v, .slice A l c] := by
    apply Array.ext'
    simpa [Value.cells] using hcs
  by_cases hl : (20 : Int) < r.k.size ∨ (20 : Int) < r.s.size ∨ (20 : Int) < r.v.size
  · exact walk_long kind t n r A l c W hl
  · exact walk_short kind t n r A l c W (by omega) (by omega) (by omega)
end Go.Proofs.Ytjjilaanlhpogaa.modelBad
