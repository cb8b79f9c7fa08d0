/- UndoAll: the walk. -/
import Derived.Test.YtogminifliceaaaUndoD
import Derived.Test.YtogminifliceaaaUndoE
import Derived.Test.YtogminifliceaaaUndoF
namespace Go.Proofs.Ytogminifliceaaa.undoAll
open Go.ChangeShapes Go.WideShapes Go.ChangeAt Go.RowKit
set_option linter.unusedVariables false

set_option maxRecDepth 100000 in
set_option maxHeartbeats 4000000 in
/-- too long: true at once -/
theorem walk_long (k t u hf p n a0 a1 b0 b1 prev lsn : Int) (A B D : Option Addr) (c d e na nb nd : Nat) (sl sd sp : Value) (w : World) (hlong : 40 < na ∨ 40 < nb ∨ 20 < nd) :
    Calls Try.prog 3 #[.agg #[.int .i64 k, .int .i64 t, .int .i64 u, .int .i64 hf, .int .i64 p, .int .i64 n, .int .i64 a0, .int .i64 a1, .int .i64 b0, .int .i64 b1, .slice A na c, .slice B nb d, .slice D nd e, sl, sd, sp], .int .i64 prev, .int .i64 lsn] w fun e w' => e = .returned (.bool true) ∧ Below w.heap.size w w' := by
  by_cases h1 : (40 : Int) < na
  · go_enter Try.func3, Try.ntmps3
    go_wp2_with (go_at_call 7; refine (begun_any _).mono ?_; rintro e w1 ⟨rfl, hb⟩; have hx := (Blk.new w 30 #[.int .i64 k, .int .i64 t, .int .i64 u, .int .i64 hf, .int .i64 p, .int .i64 n, .int .i64 a0, .int .i64 a1, .int .i64 b0, .int .i64 b1, .slice A na c, .slice B nb d, .slice D nd e, sl, sd, sp]).below hb (by simp); have x10 := hx.cell 10; have x11 := hx.cell 11; have x12 := hx.cell 12; simp at x10 x11 x12)
    go_ret
    exact ⟨rfl, ((Below.refl _ _).alloc (Nat.le_refl _) _).trans (hb.mono (by simp))⟩
  · by_cases h2 : (40 : Int) < nb
    · go_enter Try.func3, Try.ntmps3
      go_wp2_with (go_at_call 7; refine (begun_any _).mono ?_; rintro e w1 ⟨rfl, hb⟩; have hx := (Blk.new w 30 #[.int .i64 k, .int .i64 t, .int .i64 u, .int .i64 hf, .int .i64 p, .int .i64 n, .int .i64 a0, .int .i64 a1, .int .i64 b0, .int .i64 b1, .slice A na c, .slice B nb d, .slice D nd e, sl, sd, sp]).below hb (by simp); have x10 := hx.cell 10; have x11 := hx.cell 11; have x12 := hx.cell 12; simp at x10 x11 x12)
      go_ret
      exact ⟨rfl, ((Below.refl _ _).alloc (Nat.le_refl _) _).trans (hb.mono (by simp))⟩
    · have h3 : (20 : Int) < nd := by omega
      go_enter Try.func3, Try.ntmps3
      go_wp2_with (go_at_call 7; refine (begun_any _).mono ?_; rintro e w1 ⟨rfl, hb⟩; have hx := (Blk.new w 30 #[.int .i64 k, .int .i64 t, .int .i64 u, .int .i64 hf, .int .i64 p, .int .i64 n, .int .i64 a0, .int .i64 a1, .int .i64 b0, .int .i64 b1, .slice A na c, .slice B nb d, .slice D nd e, sl, sd, sp]).below hb (by simp); have x10 := hx.cell 10; have x11 := hx.cell 11; have x12 := hx.cell 12; simp at x10 x11 x12)
      go_ret
      exact ⟨rfl, ((Below.refl _ _).alloc (Nat.le_refl _) _).trans (hb.mono (by simp))⟩

set_option maxRecDepth 100000 in
set_option maxHeartbeats 8000000 in
/-- a set -/
theorem walk_yes (t u hf p n a0 a1 b0 b1 prev lsn : Int) (A B D : Option Addr) (c d e nb nd : Nat) (sl sd sp : Value) (l : List UInt8) (w : World) (hA : A = none → c = 0) (hr : Reads w w.heap.size 1 A l.length (bv l)) (h1 : (l.length : Int) ≤ 40) (h2 : (nb : Int) ≤ 40) (h3 : (nd : Int) ≤ 20) :
    Calls Try.prog 3 #[.agg #[.int .i64 1, .int .i64 t, .int .i64 u, .int .i64 hf, .int .i64 p, .int .i64 n, .int .i64 a0, .int .i64 a1, .int .i64 b0, .int .i64 b1, .slice A l.length c, .slice B nb d, .slice D nd e, sl, sd, sp], .int .i64 prev, .int .i64 lsn] w fun e w' => e = .returned (.bool true) ∧ Below w.heap.size w w' := by
  have hr' := hide hr
  clear hr
  go_enter Try.func3, Try.ntmps3
  go_wp2_with (fail)
  refine (begun_any _).mono ?_
  rintro e w1 ⟨rfl, hb⟩
  have hx1 := (Blk.new w 30 #[.int .i64 1, .int .i64 t, .int .i64 u, .int .i64 hf, .int .i64 p, .int .i64 n, .int .i64 a0, .int .i64 a1, .int .i64 b0, .int .i64 b1, .slice A l.length c, .slice B nb d, .slice D nd e, sl, sd, sp]).below hb (by simp)
  have hz1 : w.heap.size < w1.heap.size := hx1.lt
  have hb1 := hide (((Below.refl w.heap.size w).alloc (Nat.le_refl _) _).trans (hb.mono (by simp)))
  have hR1 := hide ((hr'.out.below hb1.out).more (B' := w1.heap.size) (by omega))
  obtain ⟨x0, x1, x2, x3, x4, x5, x6, x7, x8, x9, x10, x11, x12, x13, x14, x15⟩ := hx1.cells16
  have kx1 := hide hx1
  clear hx1 hb hr'
  go_wp2_with (fail)
  refine (back_yes t u hf p n a0 a1 b0 b1 prev _ _ _ _ _ A c l _ hA hR1.out (by omega)).mono ?_
  rintro e w2 ⟨A1, c1, rfl, hA1, hF1, hG1, hb⟩
  clear x0 x1 x2 x3 x4 x5 x6 x7 x8 x9 x10 x11 x12 x13 x14 x15
  have hx2 := kx1.out.below hb hz1
  have hz2 : w.heap.size < w2.heap.size := hx2.lt
  have hb2 := hide (hb1.out.trans (hb.mono (by omega)))
  have hR2 := hide (((hR1.out.below hb).more (B' := w2.heap.size) hb.size).alloc (Nat.le_refl _) (.cells #[.int .i64 2, .int .i64 t, .int .i64 0, .int .i64 0, .int .i64 prev, .int .i64 p, .int .i64 a0, .int .i64 a1, .int .i64 0, .int .i64 0, .slice none 0 0, .slice A1 l.length c1, .slice none 0 0, .slice none 0 0, .slice none 0 0, .slice none 0 0] 30))
  have hG1' := hide (hG1.alloc (Nat.le_refl _) (.cells #[.int .i64 2, .int .i64 t, .int .i64 0, .int .i64 0, .int .i64 prev, .int .i64 p, .int .i64 a0, .int .i64 a1, .int .i64 0, .int .i64 0, .slice none 0 0, .slice A1 l.length c1, .slice none 0 0, .slice none 0 0, .slice none 0 0, .slice none 0 0] 30))
  obtain ⟨x0, x1, x2, x3, x4, x5, x6, x7, x8, x9, x10, x11, x12, x13, x14, x15⟩ := hx2.cells16
  have kx2 := hide (hx2.alloc (.cells #[.int .i64 2, .int .i64 t, .int .i64 0, .int .i64 0, .int .i64 prev, .int .i64 p, .int .i64 a0, .int .i64 a1, .int .i64 0, .int .i64 0, .slice none 0 0, .slice A1 l.length c1, .slice none 0 0, .slice none 0 0, .slice none 0 0, .slice none 0 0] 30))
  have ky2 := hide (Blk.new w2 30 #[.int .i64 2, .int .i64 t, .int .i64 0, .int .i64 0, .int .i64 prev, .int .i64 p, .int .i64 a0, .int .i64 a1, .int .i64 0, .int .i64 0, .slice none 0 0, .slice A1 l.length c1, .slice none 0 0, .slice none 0 0, .slice none 0 0, .slice none 0 0])
  clear hx2 hb kx1 hR1 hF1 hG1
  go_wp2_with (fail)
  as_aux_lemma =>
    refine (rback_yes t u hf p n a0 a1 b0 b1 prev _ _ _ _ _ A c l _ hA (hR2.out.more (by simp)) (by omega)).mono ?_
    rintro e w3 ⟨A2, c2, rfl, hA2, hF2, hG2, hb⟩
    clear x0 x1 x2 x3 x4 x5 x6 x7 x8 x9 x10 x11 x12 x13 x14 x15
    have hz3 : w2.heap.size < w3.heap.size := by have := hb.size; simp at this; omega
    have kx3 := hide ((kx2.out.below hb (by simp; omega)).alloc (.cells #[.int .i64 2, .int .i64 t, .int .i64 0, .int .i64 0, .int .i64 prev, .int .i64 p, .int .i64 a0, .int .i64 a1, .int .i64 0, .int .i64 0, .slice none 0 0, .slice A2 l.length c2, .slice none 0 0, .slice none 0 0, .slice none 0 0, .slice none 0 0] 30))
    have ky3 := hide ((ky2.out.below hb (by simp)).alloc (.cells #[.int .i64 2, .int .i64 t, .int .i64 0, .int .i64 0, .int .i64 prev, .int .i64 p, .int .i64 a0, .int .i64 a1, .int .i64 0, .int .i64 0, .slice none 0 0, .slice A2 l.length c2, .slice none 0 0, .slice none 0 0, .slice none 0 0, .slice none 0 0] 30))
    have kz3 := hide (Blk.new w3 30 #[.int .i64 2, .int .i64 t, .int .i64 0, .int .i64 0, .int .i64 prev, .int .i64 p, .int .i64 a0, .int .i64 a1, .int .i64 0, .int .i64 0, .slice none 0 0, .slice A2 l.length c2, .slice none 0 0, .slice none 0 0, .slice none 0 0, .slice none 0 0])
    have hb3 := hide ((hb2.out.trans ((((Below.refl w.heap.size w2).alloc (by omega) _)).trans (hb.mono (by simp; omega)))).alloc (B := w.heap.size) (by omega) (.cells #[.int .i64 2, .int .i64 t, .int .i64 0, .int .i64 0, .int .i64 prev, .int .i64 p, .int .i64 a0, .int .i64 a1, .int .i64 0, .int .i64 0, .slice none 0 0, .slice A2 l.length c2, .slice none 0 0, .slice none 0 0, .slice none 0 0, .slice none 0 0] 30))
    have hG1 := hide (((hG1'.out.more (B' := w2.heap.size + 1) (by simp)).below (hb.mono (by simp))).alloc (by omega) (.cells #[.int .i64 2, .int .i64 t, .int .i64 0, .int .i64 0, .int .i64 prev, .int .i64 p, .int .i64 a0, .int .i64 a1, .int .i64 0, .int .i64 0, .slice none 0 0, .slice A2 l.length c2, .slice none 0 0, .slice none 0 0, .slice none 0 0, .slice none 0 0] 30))
    have hG2' := hide (hG2.alloc (Nat.le_refl _) (.cells #[.int .i64 2, .int .i64 t, .int .i64 0, .int .i64 0, .int .i64 prev, .int .i64 p, .int .i64 a0, .int .i64 a1, .int .i64 0, .int .i64 0, .slice none 0 0, .slice A2 l.length c2, .slice none 0 0, .slice none 0 0, .slice none 0 0, .slice none 0 0] 30))
    clear hb hb2 hR2 hG1' kx2 ky2 hF2 hG2
    go_wp2_with (fail)
    obtain ⟨W4, hW4⟩ : ∃ W4, W4 = w3.alloc (.cells #[.int .i64 2, .int .i64 t, .int .i64 0, .int .i64 0, .int .i64 prev, .int .i64 p, .int .i64 a0, .int .i64 a1, .int .i64 0, .int .i64 0, .slice none 0 0, .slice A2 l.length c2, .slice none 0 0, .slice none 0 0, .slice none 0 0, .slice none 0 0] 30) := ⟨_, rfl⟩
    rw [← hW4]
    rw [← hW4] at kx3 ky3 kz3 hb3 hG1 hG2'
    have hz4 : w3.heap.size < W4.heap.size := kz3.out.lt
    clear hW4
    obtain ⟨x0, x1, x2, x3, x4, x5, x6, x7, x8, x9, x10, x11, x12, x13, x14, x15⟩ := kx3.out.cells16
    obtain ⟨y0, y1, y2, y3, y4, y5, y6, y7, y8, y9, y10, y11, y12, y13, y14, y15⟩ := ky3.out.cells16
    obtain ⟨z0, z1, z2, z3, z4, z5, z6, z7, z8, z9, z10, z11, z12, z13, z14, z15⟩ := kz3.out.cells16
    have r1 : Hid (Reads W4.drew W4.drew.heap.size 1 A1 l.length (bv l)) := (hG1.out.more (B' := W4.heap.size) (by omega)).drew
    have r2 : Hid (Reads W4.drew W4.drew.heap.size 1 A2 l.length (bv l)) := (hG2'.out.more (B' := W4.heap.size) (by omega)).drew
    have hl1 : w.heap.size < W4.drew.heap.size := by show w.heap.size < W4.heap.size; omega
    have hl2 : w2.heap.size < W4.drew.heap.size := by show w2.heap.size < W4.heap.size; omega
    have hl3 : w3.heap.size < W4.drew.heap.size := by show w3.heap.size < W4.heap.size; omega
    have hN := nextP_1 p n lsn
    as_aux_lemma =>
      go_region_held3 (fun w' => (w'.cell? ⟨w.heap.size, 0, none⟩ = some (.int .i64 1) ∧ w'.cell? ⟨w.heap.size, 1, none⟩ = some (.int .i64 t) ∧ w'.cell? ⟨w.heap.size, 2, none⟩ = some (.int .i64 u) ∧ w'.cell? ⟨w.heap.size, 3, none⟩ = some (.int .i64 hf) ∧ w'.cell? ⟨w.heap.size, 4, none⟩ = some (.int .i64 p) ∧ w'.cell? ⟨w.heap.size, 5, none⟩ = some (.int .i64 n) ∧ w'.cell? ⟨w.heap.size, 6, none⟩ = some (.int .i64 a0) ∧ w'.cell? ⟨w.heap.size, 7, none⟩ = some (.int .i64 a1) ∧ w'.cell? ⟨w.heap.size, 8, none⟩ = some (.int .i64 b0) ∧ w'.cell? ⟨w.heap.size, 9, none⟩ = some (.int .i64 b1) ∧ w'.cell? ⟨w.heap.size, 10, none⟩ = some (.slice A l.length c) ∧ w'.cell? ⟨w.heap.size, 11, none⟩ = some (.slice B nb d) ∧ w'.cell? ⟨w.heap.size, 12, none⟩ = some (.slice D nd e) ∧ w'.cell? ⟨w.heap.size, 13, none⟩ = some (sl) ∧ w'.cell? ⟨w.heap.size, 14, none⟩ = some (sd) ∧ w'.cell? ⟨w.heap.size, 15, none⟩ = some (sp)) ∧ (w'.cell? ⟨w2.heap.size, 0, none⟩ = some (.int .i64 2) ∧ w'.cell? ⟨w2.heap.size, 1, none⟩ = some (.int .i64 t) ∧ w'.cell? ⟨w2.heap.size, 2, none⟩ = some (.int .i64 0) ∧ w'.cell? ⟨w2.heap.size, 3, none⟩ = some (.int .i64 0) ∧ w'.cell? ⟨w2.heap.size, 4, none⟩ = some (.int .i64 prev) ∧ w'.cell? ⟨w2.heap.size, 5, none⟩ = some (.int .i64 p) ∧ w'.cell? ⟨w2.heap.size, 6, none⟩ = some (.int .i64 a0) ∧ w'.cell? ⟨w2.heap.size, 7, none⟩ = some (.int .i64 a1) ∧ w'.cell? ⟨w2.heap.size, 8, none⟩ = some (.int .i64 0) ∧ w'.cell? ⟨w2.heap.size, 9, none⟩ = some (.int .i64 0) ∧ w'.cell? ⟨w2.heap.size, 10, none⟩ = some (.slice none 0 0) ∧ w'.cell? ⟨w2.heap.size, 11, none⟩ = some (.slice A1 l.length c1) ∧ w'.cell? ⟨w2.heap.size, 12, none⟩ = some (.slice none 0 0) ∧ w'.cell? ⟨w2.heap.size, 13, none⟩ = some (.slice none 0 0) ∧ w'.cell? ⟨w2.heap.size, 14, none⟩ = some (.slice none 0 0) ∧ w'.cell? ⟨w2.heap.size, 15, none⟩ = some (.slice none 0 0)) ∧ (w'.cell? ⟨w3.heap.size, 0, none⟩ = some (.int .i64 2) ∧ w'.cell? ⟨w3.heap.size, 1, none⟩ = some (.int .i64 t) ∧ w'.cell? ⟨w3.heap.size, 2, none⟩ = some (.int .i64 0) ∧ w'.cell? ⟨w3.heap.size, 3, none⟩ = some (.int .i64 0) ∧ w'.cell? ⟨w3.heap.size, 4, none⟩ = some (.int .i64 prev) ∧ w'.cell? ⟨w3.heap.size, 5, none⟩ = some (.int .i64 p) ∧ w'.cell? ⟨w3.heap.size, 6, none⟩ = some (.int .i64 a0) ∧ w'.cell? ⟨w3.heap.size, 7, none⟩ = some (.int .i64 a1) ∧ w'.cell? ⟨w3.heap.size, 8, none⟩ = some (.int .i64 0) ∧ w'.cell? ⟨w3.heap.size, 9, none⟩ = some (.int .i64 0) ∧ w'.cell? ⟨w3.heap.size, 10, none⟩ = some (.slice none 0 0) ∧ w'.cell? ⟨w3.heap.size, 11, none⟩ = some (.slice A2 l.length c2) ∧ w'.cell? ⟨w3.heap.size, 12, none⟩ = some (.slice none 0 0) ∧ w'.cell? ⟨w3.heap.size, 13, none⟩ = some (.slice none 0 0) ∧ w'.cell? ⟨w3.heap.size, 14, none⟩ = some (.slice none 0 0) ∧ w'.cell? ⟨w3.heap.size, 15, none⟩ = some (.slice none 0 0))) (first | exact ⟨kx7.cells16, ky7.cells16, kz7.cells16⟩ | exact ⟨kx6.cells16, ky6.cells16, kz6.cells16⟩ | exact ⟨kx5.cells16, ky5.cells16, kz5.cells16⟩ | exact ⟨kx3.out.cells16, ky3.out.cells16, kz3.out.cells16⟩)
        (first | (go_at_call 10; refine (same_any 2 t 0 0 prev p a0 a1 0 0 A1 A2 c1 c2 l _ r1.out r2.out).mono ?_; rintro e w5 ⟨rfl, hb5⟩; have kx5 := kx3.out.drew.below hb5 hl1; have ky5 := ky3.out.drew.below hb5 hl2; have kz5 := kz3.out.drew.below hb5 hl3) | (go_at_call 11; refine (next_any 1 p n lsn _ _ _ _ _ _ _ _ _ _ _ _ _ _).mono ?_; rintro e w6 ⟨rfl, hb6⟩; have kx6 := kx5.below hb6 kx5.lt; have ky6 := ky5.below hb6 ky5.lt; have kz6 := kz5.below hb6 kz5.lt) | (go_at_call 12; refine (rnext_any 1 p n lsn _ _ _ _ _ _ _ _ _ _ _ _ _ _).mono ?_; rintro e w7 ⟨rfl, hb7⟩; have kx7 := kx6.below hb7 kx6.lt; have ky7 := ky6.below hb7 ky6.lt; have kz7 := kz6.below hb7 kz6.lt))
      go_wp2
      go_ret
      exact ⟨rfl, hb3.out.trans ((show Below w.heap.size W4 w5 from (Below.refl w.heap.size W4).drew.trans (hb5.mono (by omega))).trans ((hb6.mono (by have := kx5.lt; omega)).trans (hb7.mono (by have := kx6.lt; omega))))⟩
end Go.Proofs.Ytogminifliceaaa.undoAll
