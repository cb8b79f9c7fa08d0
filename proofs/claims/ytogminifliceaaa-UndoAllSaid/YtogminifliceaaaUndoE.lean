/- Undo: what the reference's Back gives of a set -/
import Derived.Test.YtogminifliceaaaUndo
namespace Go.Proofs.Ytogminifliceaaa
open Go.ChangeShapes Go.WideShapes Go.ChangeAt Go.RowKit
set_option linter.unusedVariables false

theorem own_form {W w1 : World} {l : List UInt8} {v1 : Value} (h : w1.ownsRow W.heap.size 5 1 v1 (0 + l.length) ([] ++ bv l)) (hg : ((W.alloc (.cells #[] 5)).drew).grownBy w1 (Value.slice (some ⟨W.heap.size, 0, none⟩) 0 0).ownBlock) :
    ∃ A' c', v1 = .slice A' l.length c' ∧ (A' = none → c' = 0) ∧ (∀ ad, A' = some ad → W.heap.size ≤ ad.block) ∧ Reads w1 w1.heap.size 1 A' l.length (bv l) ∧ Below W.heap.size W w1 := by
  have hb0 : Below W.heap.size W (W.alloc (.cells #[] 5)).drew := ((Below.refl _ _).alloc (Nat.le_refl _) _).drew
  have hb1 : Below W.heap.size W w1 := hb0.grown hg hb0.size (fun k hk => by simp [Value.ownBlock] at hk; omega)
  obtain ⟨A', c', e, h1, h2, h3, _⟩ := gives_of_own (w := W) (by simpa using h) hb1
  injection e with e
  exact ⟨A', c', e, h1, h2, h3, hb1⟩

set_option maxRecDepth 100000 in
set_option maxHeartbeats 1000000 in
theorem rback_yes (t u hf p n a0 a1 b0 b1 prev : Int) (sn sm sl sd sp : Value) (A : Option Addr) (c : Nat) (l : List UInt8) (w : World) (hn : A = none → c = 0) (hr : Reads w w.heap.size 1 A l.length (bv l)) (hl : l.length ≤ 1048576) :
    Calls Try.prog 9 #[.agg #[.int .i64 1, .int .i64 t, .int .i64 u, .int .i64 hf, .int .i64 p, .int .i64 n, .int .i64 a0, .int .i64 a1, .int .i64 b0, .int .i64 b1, .slice A l.length c, sn, sm, sl, sd, sp], .int .i64 prev] w (GivesBack w t prev p a0 a1 l) := by
  obtain ⟨i0, hi0, iz0, iz1, iz2⟩ := info_parts Try.info5'
  have hr' := hide hr
  clear hr
  go_enter Try.func9, Try.ntmps9
  go_wp2
  obtain ⟨W2, hW2⟩ : ∃ W2, W2 = (w.alloc (.cells #[.int .i64 1, .int .i64 t, .int .i64 u, .int .i64 hf, .int .i64 p, .int .i64 n, .int .i64 a0, .int .i64 a1, .int .i64 b0, .int .i64 b1, .slice A l.length c, sn, sm, sl, sd, sp] 30)).alloc (.cells #[.int .i64 0, .int .i64 0, .int .i64 0, .int .i64 0, .int .i64 0, .int .i64 0, .int .i64 0, .int .i64 0, .int .i64 0, .int .i64 0, .slice none 0 0, .slice none 0 0, .slice none 0 0, .slice none 0 0, .slice none 0 0, .slice none 0 0] 30) := ⟨_, rfl⟩
  rw [← hW2]
  have k0 : Blk W2 w.heap.size 30 #[.int .i64 1, .int .i64 t, .int .i64 u, .int .i64 hf, .int .i64 p, .int .i64 n, .int .i64 a0, .int .i64 a1, .int .i64 b0, .int .i64 b1, .slice A l.length c, sn, sm, sl, sd, sp] := by
    rw [hW2]; exact (Blk.new w 30 _).alloc _
  have k1 : Blk W2 (w.heap.size + 1) 30 #[.int .i64 0, .int .i64 0, .int .i64 0, .int .i64 0, .int .i64 0, .int .i64 0, .int .i64 0, .int .i64 0, .int .i64 0, .int .i64 0, .slice none 0 0, .slice none 0 0, .slice none 0 0, .slice none 0 0, .slice none 0 0, .slice none 0 0] := by
    rw [hW2]
    have := Blk.new (w.alloc (.cells #[.int .i64 1, .int .i64 t, .int .i64 u, .int .i64 hf, .int .i64 p, .int .i64 n, .int .i64 a0, .int .i64 a1, .int .i64 b0, .int .i64 b1, .slice A l.length c, sn, sm, sl, sd, sp] 30)) 30 #[.int .i64 0, .int .i64 0, .int .i64 0, .int .i64 0, .int .i64 0, .int .i64 0, .int .i64 0, .int .i64 0, .int .i64 0, .int .i64 0, .slice none 0 0, .slice none 0 0, .slice none 0 0, .slice none 0 0, .slice none 0 0, .slice none 0 0]
    simpa using this
  have hb2 : Below w.heap.size w W2 := by rw [hW2]; exact ((Below.refl _ _).alloc (Nat.le_refl _) _).alloc (by simp) _
  have hz2 : w.heap.size + 1 < W2.heap.size := k1.lt
  clear hW2
  have c1 := k0.cell 1
  have c4 := k0.cell 4
  have c6 := k0.cell 6
  have c7 := k0.cell 7
  have c10 := k0.cell 10
  simp at c1 c4 c6 c7 c10
  have hR3 : Hid (Reads (W2.alloc (.cells #[] 5)).drew W2.heap.size 1 A l.length (bv l)) := (((hr'.out.below hb2).more (B' := W2.heap.size) (by omega)).alloc (Nat.le_refl _) (.cells #[] 5)).drew
  have hown' : Hid (((W2.alloc (.cells #[] 5)).drew).ownsRow W2.heap.size 5 1 (.slice (some ⟨W2.heap.size, 0, none⟩) 0 0) 0 []) := World.ownsRow_made W2 #[] 0 (Nat.le_refl _) (Nat.zero_le _) rfl
  have K0 := hide k0
  have K1 := hide k1
  have hzz : w.heap.size < W2.heap.size := by show w.heap.size < W2.heap.size; omega
  have hzy : w.heap.size + 1 < W2.heap.size := hz2
  clear k0 k1
  go_region_held3 (fun w' => w'.cell? ⟨w.heap.size, 1, none⟩ = some (.int .i64 t) ∧ w'.cell? ⟨w.heap.size, 4, none⟩ = some (.int .i64 p) ∧ w'.cell? ⟨w.heap.size, 6, none⟩ = some (.int .i64 a0) ∧ w'.cell? ⟨w.heap.size, 7, none⟩ = some (.int .i64 a1) ∧ w'.cell? ⟨w.heap.size, 10, none⟩ = some (.slice A l.length c)) (go_keep)
    (first | (refine step_append_any _ rfl (.tmp 15) (.tmp 17) _ rfl W2.heap.size 5 i0 _ 1 1 Try.underlying24 hi0 iz0 iz1 iz2 rfl (by omega) (.slice (some ⟨W2.heap.size, 0, none⟩) 0 0) 0 [] rfl hown'.out W2.heap.size A l.length c (bv l) rfl hR3.out (bv_one l) (by simp only [maxLen]; omega) (by omega) (by simp) ?_; intro v1 w1 hown1 hg1 hat1; obtain ⟨A', c', hv, hA, hF, hR, hb⟩ := own_form hown1 hg1; rw [hv]; clear hown1 hg1 hat1 hv; have q1 := (hb.cell (p := ⟨w.heap.size, 1, none⟩) hzz).trans c1; have q4 := (hb.cell (p := ⟨w.heap.size, 4, none⟩) hzz).trans c4; have q6 := (hb.cell (p := ⟨w.heap.size, 6, none⟩) hzz).trans c6; have q7 := (hb.cell (p := ⟨w.heap.size, 7, none⟩) hzz).trans c7; have q10 := (hb.cell (p := ⟨w.heap.size, 10, none⟩) hzz).trans c10; have kk := K1.out.below hb hzy; obtain ⟨x0, x1, x2, x3, x4, x5, x6, x7, x8, x9, x10, x11, x12, x13, x14, x15⟩ := kk.cells16; have kf := kk.frozen))
  have kz := kk.set16 (.int .i64 2) (.int .i64 t) (.int .i64 0) (.int .i64 0) (.int .i64 prev) (.int .i64 p) (.int .i64 a0) (.int .i64 a1) (.int .i64 0) (.int .i64 0) (.slice none 0 0) (.slice A' l.length c') (.slice none 0 0) (.slice none 0 0) (.slice none 0 0) (.slice none 0 0)
  have hbz : Below w.heap.size w _ := below_set16 (g := w.heap.size + 1) (hb2.trans (hb.mono (by show w.heap.size ≤ W2.heap.size; omega))) (by omega) (.int .i64 2) (.int .i64 t) (.int .i64 0) (.int .i64 0) (.int .i64 prev) (.int .i64 p) (.int .i64 a0) (.int .i64 a1) (.int .i64 0) (.int .i64 0) (.slice none 0 0) (.slice A' l.length c') (.slice none 0 0) (.slice none 0 0) (.slice none 0 0) (.slice none 0 0)
  have hsz : W2.heap.size ≤ w1.heap.size := hb.size
  have hRz : Reads ((((((((((((((((w1.setCell ⟨w.heap.size + 1, 0, none⟩ (.int .i64 2)).setCell ⟨w.heap.size + 1, 1, none⟩ (.int .i64 t)).setCell ⟨w.heap.size + 1, 2, none⟩ (.int .i64 0)).setCell ⟨w.heap.size + 1, 3, none⟩ (.int .i64 0)).setCell ⟨w.heap.size + 1, 4, none⟩ (.int .i64 prev)).setCell ⟨w.heap.size + 1, 5, none⟩ (.int .i64 p)).setCell ⟨w.heap.size + 1, 6, none⟩ (.int .i64 a0)).setCell ⟨w.heap.size + 1, 7, none⟩ (.int .i64 a1)).setCell ⟨w.heap.size + 1, 8, none⟩ (.int .i64 0)).setCell ⟨w.heap.size + 1, 9, none⟩ (.int .i64 0)).setCell ⟨w.heap.size + 1, 10, none⟩ (.slice none 0 0)).setCell ⟨w.heap.size + 1, 11, none⟩ (.slice A' l.length c')).setCell ⟨w.heap.size + 1, 12, none⟩ (.slice none 0 0)).setCell ⟨w.heap.size + 1, 13, none⟩ (.slice none 0 0)).setCell ⟨w.heap.size + 1, 14, none⟩ (.slice none 0 0)).setCell ⟨w.heap.size + 1, 15, none⟩ (.slice none 0 0)) w1.heap.size 1 A' l.length (bv l) := by
    have hne : ∀ ad, A' = some ad → ad.block ≠ w.heap.size + 1 := fun ad e => by have := hF ad e; have h' : W2.heap.size ≤ ad.block := this; omega
    exact (((((((((((((((hR.far (p := ⟨_, 0, none⟩) hne _).far (p := ⟨_, 1, none⟩) hne _).far (p := ⟨_, 2, none⟩) hne _).far (p := ⟨_, 3, none⟩) hne _).far (p := ⟨_, 4, none⟩) hne _).far (p := ⟨_, 5, none⟩) hne _).far (p := ⟨_, 6, none⟩) hne _).far (p := ⟨_, 7, none⟩) hne _).far (p := ⟨_, 8, none⟩) hne _).far (p := ⟨_, 9, none⟩) hne _).far (p := ⟨_, 10, none⟩) hne _).far (p := ⟨_, 11, none⟩) hne _).far (p := ⟨_, 12, none⟩) hne _).far (p := ⟨_, 13, none⟩) hne _).far (p := ⟨_, 14, none⟩) hne _).far (p := ⟨_, 15, none⟩) hne _
  clear q1 q4 q6 q7 q10 kk x0 x1 x2 x3 x4 x5 x6 x7 x8 x9 x10 x11 x12 x13 x14 x15 kf
  obtain ⟨x0, x1, x2, x3, x4, x5, x6, x7, x8, x9, x10, x11, x12, x13, x14, x15⟩ := kz.cells16
  go_wp2
  refine bodyPost_ret (v := .tuple #[.agg #[.int .i64 2, .int .i64 t, .int .i64 0, .int .i64 0, .int .i64 prev, .int .i64 p, .int .i64 a0, .int .i64 a1, .int .i64 0, .int .i64 0, .slice none 0 0, .slice A' l.length c', .slice none 0 0, .slice none 0 0, .slice none 0 0, .slice none 0 0], .bool true]) (by simp [results, Try.results9, go_sem, x0, x1, x2, x3, x4, x5, x6, x7, x8, x9, x10, x11, x12, x13, x14, x15]) rfl ⟨A', c', rfl, hA, fun ad e => ?_, hRz.more (by simp [World.setCell]), hbz⟩
  have := hF ad e
  have h' : W2.heap.size ≤ ad.block := this
  omega
end Go.Proofs.Ytogminifliceaaa
