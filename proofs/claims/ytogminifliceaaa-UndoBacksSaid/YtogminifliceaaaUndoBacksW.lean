/- UndoBacks: the walk. -/
import Derived.Test.YtogminifliceaaaUndoD
import Derived.Test.YtogminifliceaaaUndoF
namespace Go.Proofs.Ytogminifliceaaa.undoBacks
open Go.ChangeShapes Go.WideShapes Go.ChangeAt Go.RowKit
set_option linter.unusedVariables false

set_option maxRecDepth 100000 in
set_option maxHeartbeats 4000000 in
theorem walk_long (t a0 a1 p q : Int) (A B : Option Addr) (na nb c d : Nat) (w : World) (hlong : 30 < na ∨ 30 < nb) :
    Calls Try.prog 6 #[.int .u8 t, .int .u8 a0, .int .u8 a1, .int .u16 p, .int .u16 q, .slice A na c, .slice B nb d] w fun e w' => e = .returned (.bool true) ∧ Below w.heap.size w w' := by
  by_cases h1 : (30 : Int) < na
  · go_enter Try.func6, Try.ntmps6
    go_wp2_with (go_at_call 7; refine (begun_any _).mono ?_; rintro e w1 ⟨rfl, hb⟩)
    go_ret
    exact ⟨rfl, hb⟩
  · have h2 : (30 : Int) < nb := by omega
    go_enter Try.func6, Try.ntmps6
    go_wp2_with (go_at_call 7; refine (begun_any _).mono ?_; rintro e w1 ⟨rfl, hb⟩)
    go_ret
    exact ⟨rfl, hb⟩

set_option maxRecDepth 100000 in
set_option maxHeartbeats 8000000 in
theorem walk_short (t a0 a1 p q : Int) (A B : Option Addr) (nb c d : Nat) (l : List UInt8) (w : World) (ht : 0 ≤ t) (ht' : t ≤ 255) (h0 : 0 ≤ a0) (h0' : a0 ≤ 255) (h1 : 0 ≤ a1) (h1' : a1 ≤ 255) (hp : 0 ≤ p) (hp' : p ≤ 65535) (hq : 0 ≤ q) (hq' : q ≤ 65535)
    (hA : A = none → c = 0) (hr : Reads w w.heap.size 1 A l.length (bv l)) (hna : (l.length : Int) ≤ 30) (hnb : (nb : Int) ≤ 30) :
    Calls Try.prog 6 #[.int .u8 t, .int .u8 a0, .int .u8 a1, .int .u16 p, .int .u16 q, .slice A l.length c, .slice B nb d] w fun e w' => e = .returned (.bool true) ∧ Below w.heap.size w w' := by
  have hr' := hide hr
  clear hr
  go_enter Try.func6, Try.ntmps6
  go_wp2_with (fail)
  refine (begun_any _).mono ?_
  rintro e w1 ⟨rfl, hb1⟩
  have hz1 : w.heap.size ≤ w1.heap.size := hb1.size
  have kx1 := hide (Blk.new w1 30 #[.int .i64 1, .int .i64 t, .int .i64 0, .int .i64 0, .int .i64 p, .int .i64 0, .int .i64 a0, .int .i64 a1, .int .i64 0, .int .i64 0, .slice A l.length c, .slice B nb d, .slice none 0 0, .slice none 0 0, .slice none 0 0, .slice none 0 0])
  have hb1' := hide (hb1.alloc hz1 (.cells #[.int .i64 1, .int .i64 t, .int .i64 0, .int .i64 0, .int .i64 p, .int .i64 0, .int .i64 a0, .int .i64 a1, .int .i64 0, .int .i64 0, .slice A l.length c, .slice B nb d, .slice none 0 0, .slice none 0 0, .slice none 0 0, .slice none 0 0] 30))
  have hR1 := hide (((hr'.out.below hb1).more (B' := w1.heap.size) hz1).alloc (Nat.le_refl _) (.cells #[.int .i64 1, .int .i64 t, .int .i64 0, .int .i64 0, .int .i64 p, .int .i64 0, .int .i64 a0, .int .i64 a1, .int .i64 0, .int .i64 0, .slice A l.length c, .slice B nb d, .slice none 0 0, .slice none 0 0, .slice none 0 0, .slice none 0 0] 30))
  clear hb1 hr'
  go_wp2_with (fail)
  refine (back_yes t 0 0 p 0 a0 a1 0 0 q _ _ _ _ _ A c l _ hA (hR1.out.more (by simp)) (by omega)).mono ?_
  rintro e w2 ⟨A1, c1, rfl, hA1, hF1, hG1, hb⟩
  have hz2 : w1.heap.size < w2.heap.size := by have := hb.size; simp at this; omega
  obtain ⟨x0, x1, x2, x3, x4, x5, x6, x7, x8, x9, x10, x11, x12, x13, x14, x15⟩ := (kx1.out.below hb (by simp)).cells16
  have kx2 := hide ((kx1.out.below hb (by simp)).alloc (.cells #[.int .i64 2, .int .i64 t, .int .i64 0, .int .i64 0, .int .i64 q, .int .i64 p, .int .i64 a0, .int .i64 a1, .int .i64 0, .int .i64 0, .slice none 0 0, .slice A1 l.length c1, .slice none 0 0, .slice none 0 0, .slice none 0 0, .slice none 0 0] 30))
  have ky2 := hide (Blk.new w2 30 #[.int .i64 2, .int .i64 t, .int .i64 0, .int .i64 0, .int .i64 q, .int .i64 p, .int .i64 a0, .int .i64 a1, .int .i64 0, .int .i64 0, .slice none 0 0, .slice A1 l.length c1, .slice none 0 0, .slice none 0 0, .slice none 0 0, .slice none 0 0])
  have hb2 := hide ((hb1'.out.trans (hb.mono (by simp; omega))).alloc (B := w.heap.size) (by omega) (.cells #[.int .i64 2, .int .i64 t, .int .i64 0, .int .i64 0, .int .i64 q, .int .i64 p, .int .i64 a0, .int .i64 a1, .int .i64 0, .int .i64 0, .slice none 0 0, .slice A1 l.length c1, .slice none 0 0, .slice none 0 0, .slice none 0 0, .slice none 0 0] 30))
  have s1 : (convert 24 9 (.slice A1 l.length c1)).run Try.prog (w2.alloc (.cells #[.int .i64 2, .int .i64 t, .int .i64 0, .int .i64 0, .int .i64 q, .int .i64 p, .int .i64 a0, .int .i64 a1, .int .i64 0, .int .i64 0, .slice none 0 0, .slice A1 l.length c1, .slice none 0 0, .slice none 0 0, .slice none 0 0, .slice none 0 0] 30)) = .ok (.string ⟨l.toArray⟩) (w2.alloc (.cells #[.int .i64 2, .int .i64 t, .int .i64 0, .int .i64 0, .int .i64 q, .int .i64 p, .int .i64 a0, .int .i64 a1, .int .i64 0, .int .i64 0, .slice none 0 0, .slice A1 l.length c1, .slice none 0 0, .slice none 0 0, .slice none 0 0, .slice none 0 0] 30)) :=
    run_string_of_reads 24 9 5 c1 Try.underlying24 Try.underlying5 Try.underlying9 (hG1.alloc (Nat.le_refl _) _)
  have s2 : (convert 24 9 (.slice A l.length c)).run Try.prog (w2.alloc (.cells #[.int .i64 2, .int .i64 t, .int .i64 0, .int .i64 0, .int .i64 q, .int .i64 p, .int .i64 a0, .int .i64 a1, .int .i64 0, .int .i64 0, .slice none 0 0, .slice A1 l.length c1, .slice none 0 0, .slice none 0 0, .slice none 0 0, .slice none 0 0] 30)) = .ok (.string ⟨l.toArray⟩) (w2.alloc (.cells #[.int .i64 2, .int .i64 t, .int .i64 0, .int .i64 0, .int .i64 q, .int .i64 p, .int .i64 a0, .int .i64 a1, .int .i64 0, .int .i64 0, .slice none 0 0, .slice A1 l.length c1, .slice none 0 0, .slice none 0 0, .slice none 0 0, .slice none 0 0] 30)) :=
    run_string_of_reads 24 9 5 c Try.underlying24 Try.underlying5 Try.underlying9 ((hR1.out.below (hb.mono (by simp))).alloc (B := w1.heap.size) (by omega) _)
  clear hb hG1 hF1 hR1 hb1'
  go_wp2_with (fail)
  as_aux_lemma =>
    refine (back_no 2 1 _ _ _ _ _ _ _ _ _ _ _ _ _ _ _ _ (by decide)).mono ?_
    rintro e w3 ⟨rfl, hb⟩
    clear x0 x1 x2 x3 x4 x5 x6 x7 x8 x9 x10 x11 x12 x13 x14 x15 s1 s2
    have hz3 : w2.heap.size < w3.heap.size := by have := hb.size; simp at this; omega
    have hz3' : w1.heap.size < w3.heap.size := by omega
    obtain ⟨x0, x1, x2, x3, x4, x5, x6, x7, x8, x9, x10, x11, x12, x13, x14, x15⟩ := (kx2.out.below hb (by simp; omega)).cells16
    obtain ⟨y0, y1, y2, y3, y4, y5, y6, y7, y8, y9, y10, y11, y12, y13, y14, y15⟩ := (ky2.out.below hb (by simp)).cells16
    have kx3 := hide (((kx2.out.below hb (by simp; omega))).alloc (.cells #[.int .i64 0, .int .i64 0, .int .i64 0, .int .i64 0, .int .i64 0, .int .i64 0, .int .i64 0, .int .i64 0, .int .i64 0, .int .i64 0, .slice none 0 0, .slice none 0 0, .slice none 0 0, .slice none 0 0, .slice none 0 0, .slice none 0 0] 30))
    have hb3 := hide ((hb2.out.trans (hb.mono (by simp; omega))).alloc (B := w.heap.size) (by omega) (.cells #[.int .i64 0, .int .i64 0, .int .i64 0, .int .i64 0, .int .i64 0, .int .i64 0, .int .i64 0, .int .i64 0, .int .i64 0, .int .i64 0, .slice none 0 0, .slice none 0 0, .slice none 0 0, .slice none 0 0, .slice none 0 0, .slice none 0 0] 30))
    have hn1 := nextP_2 q p 9
    have hn2 := nextP_1 p 0 9
    clear hb hb2 kx2 ky2
    go_wp2_with (fail)
    refine (next_any 2 q p 9 _ _ _ _ _ _ _ _ _ _ _ _ _ _).mono ?_
    rintro e w4 ⟨rfl, hb4⟩
    clear x0 x1 x2 x3 x4 x5 x6 x7 x8 x9 x10 x11 x12 x13 x14 x15 y0 y1 y2 y3 y4 y5 y6 y7 y8 y9 y10 y11 y12 y13 y14 y15
    obtain ⟨x0, x1, x2, x3, x4, x5, x6, x7, x8, x9, x10, x11, x12, x13, x14, x15⟩ := (kx3.out.below hb4 (by simp; omega)).cells16
    go_wp2_with (fail)
    refine (next_any 1 p 0 9 _ _ _ _ _ _ _ _ _ _ _ _ _ _).mono ?_
    rintro e w5 ⟨rfl, hb5⟩
    go_wp2
    go_ret
    have hz4 : w3.heap.size < w4.heap.size := by have := hb4.size; simp at this; omega
    exact ⟨rfl, (hb3.out.trans (hb4.mono (by simp; omega))).trans (hb5.mono (by omega))⟩
end Go.Proofs.Ytogminifliceaaa.undoBacks
