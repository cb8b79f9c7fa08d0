/- UndoAll: the walks, joined. -/
import Derived.Test.YtogminifliceaaaUndoAllW
import Derived.Test.YtogminifliceaaaUndoAllN
namespace Go.Proofs.Ytogminifliceaaa.undoAll
open Go.ChangeShapes Go.WideShapes Go.ChangeAt Go.RowKit
set_option linter.unusedVariables false

theorem old_nil {H : Type} {enc : TypeId × Value → H} {w : World} {base : Nat} {spare : Nat → Bool} {held : Bool} {fuel : Nat} {c0 c1 c2 c3 c4 c5 c6 c7 c8 c9 c11 c12 c13 c14 c15 : Value} {A : Option Addr} {n c : Nat} {x : DataW H × List MemPlace}
    (h : DataW.trod enc Try.prog w base spare held fuel 30 [c0, c1, c2, c3, c4, c5, c6, c7, c8, c9, .slice A n c, c11, c12, c13, c14, c15] = some x) : A = none → c = 0 := by
  obtain ⟨xs, m, _, _, hlen, hxl, hf⟩ := DataW.trod_struct Try.underlying30 h
  obtain ⟨y0, y1, y2, y3, y4, y5, y6, y7, y8, y9, y10, y11, y12, y13, rfl⟩ := list14 hxl
  have g8 := hf 8 _ rfl
  simp [Try.cells24] at g8
  obtain ⟨A', n', c', zs, hcs, _, _, h3, _⟩ := open_flat_ints Try.underlying24 Try.underlying5 Try.cells5 g8
  simp at hcs
  obtain ⟨rfl, rfl, rfl⟩ := hcs
  exact fun e => (h3 e).2
theorem walk {H : Type} {enc : TypeId × Value → H} (W : World) (base : Nat) (v0 v1 v2 : Value) (d0 d1 d2 : DataW H) (p0 p1 p2 : List MemPlace)
    (ok0 : Value.okWide Try.prog W .any base 30 v0) (h0 : DataW.Trod enc Try.prog W 0 (fun _ => true) true 30 v0 d0 p0)
    (ok1 : Value.okWide Try.prog W .any base 3 v1) (h1 : DataW.Trod enc Try.prog W 0 (fun _ => true) true 3 v1 d1 p1)
    (ok2 : Value.okWide Try.prog W .any base 3 v2) (h2 : DataW.Trod enc Try.prog W 0 (fun _ => true) true 3 v2 d2 p2) :
    Calls Try.prog 3 #[v0, v1, v2] W fun e w' => e = .returned (.bool true) ∧ Below W.heap.size W w' := by
  obtain ⟨prev, rfl, _, _, _⟩ := open_int Try.underlying3 ok1 h1
  obtain ⟨lsn, rfl, _, _, _⟩ := open_int Try.underlying3 ok2 h2
  obtain ⟨cs, rfl, _⟩ := okWide_struct Try.underlying30 ok0
  obtain ⟨fuel, hf⟩ := h0
  obtain ⟨k, t, u, hh, p, n, a0, a1, b0, b1, so, sn, sm, sl, sd, sp, lo, ln, hcs, ho, hn, hm⟩ := open_entry hf
  obtain ⟨A, c, rfl, hc, hr⟩ := ho
  obtain ⟨B, d, rfl, _, _⟩ := hn
  obtain ⟨D, nd, e, rfl⟩ := hm
  obtain rfl : cs = #[.int .i64 k, .int .i64 t, .int .i64 u, .int .i64 hh, .int .i64 p, .int .i64 n, .int .i64 a0, .int .i64 a1, .int .i64 b0, .int .i64 b1, .slice A lo.length c, .slice B ln.length d, .slice D nd e, sl, sd, sp] := by
    apply Array.ext'
    simpa [Value.cells] using hcs
  have hA := old_nil hf
  by_cases hlong : 40 < lo.length ∨ 40 < ln.length ∨ 20 < nd
  · exact walk_long k t u hh p n a0 a1 b0 b1 prev lsn A B D c d e _ _ _ sl sd sp W hlong
  · by_cases hk : k = 1
    · subst hk
      exact walk_yes t u hh p n a0 a1 b0 b1 prev lsn A B D c d e _ _ sl sd sp lo W hA hr (by omega) (by omega) (by omega)
    · exact walk_no k t u hh p n a0 a1 b0 b1 prev lsn A B D c d e _ _ _ sl sd sp W (by simpa using hk) (by omega) (by omega) (by omega)
end Go.Proofs.Ytogminifliceaaa.undoAll
