/- Undo: what Back gives of a set -/
import Derived.Test.YtogminifliceaaaUndo
namespace Go.Proofs.Ytogminifliceaaa
open Go.ChangeShapes Go.WideShapes Go.ChangeAt Go.RowKit
set_option linter.unusedVariables false

set_option maxRecDepth 100000 in
set_option maxHeartbeats 1000000 in
theorem back_yes (t u hf p n a0 a1 b0 b1 prev : Int) (sn sm sl sd sp : Value) (A : Option Addr) (c : Nat) (l : List UInt8) (w : World) (hn : A = none → c = 0) (hr : Reads w w.heap.size 1 A l.length (bv l)) (hl : l.length ≤ 1048576) :
    Calls Try.prog 8 #[.agg #[.int .i64 1, .int .i64 t, .int .i64 u, .int .i64 hf, .int .i64 p, .int .i64 n, .int .i64 a0, .int .i64 a1, .int .i64 b0, .int .i64 b1, .slice A l.length c, sn, sm, sl, sd, sp], .int .i64 prev] w (GivesBack w t prev p a0 a1 l) := by
  have hr' := hide hr
  clear hr
  go_enter Try.func8, Try.ntmps8
  go_wp2
  obtain ⟨W2, hW2⟩ : ∃ W2, W2 = (w.alloc (.cells #[.int .i64 1, .int .i64 t, .int .i64 u, .int .i64 hf, .int .i64 p, .int .i64 n, .int .i64 a0, .int .i64 a1, .int .i64 b0, .int .i64 b1, .slice A l.length c, sn, sm, sl, sd, sp] 30)).alloc (.cells #[.int .i64 0, .int .i64 0, .int .i64 0, .int .i64 0, .int .i64 0, .int .i64 0, .int .i64 0, .int .i64 0, .int .i64 0, .int .i64 0, .slice none 0 0, .slice none 0 0, .slice none 0 0, .slice none 0 0, .slice none 0 0, .slice none 0 0] 30) := ⟨_, rfl⟩
  rw [← hW2]
  have k0 : Blk W2 w.heap.size 30 #[.int .i64 1, .int .i64 t, .int .i64 u, .int .i64 hf, .int .i64 p, .int .i64 n, .int .i64 a0, .int .i64 a1, .int .i64 b0, .int .i64 b1, .slice A l.length c, sn, sm, sl, sd, sp] := by
    rw [hW2]; exact (Blk.new w 30 _).alloc _
  have k1 : Blk W2 (w.heap.size + 1) 30 #[.int .i64 0, .int .i64 0, .int .i64 0, .int .i64 0, .int .i64 0, .int .i64 0, .int .i64 0, .int .i64 0, .int .i64 0, .int .i64 0, .slice none 0 0, .slice none 0 0, .slice none 0 0, .slice none 0 0, .slice none 0 0, .slice none 0 0] := by
    rw [hW2]
    have := Blk.new (w.alloc (.cells #[.int .i64 1, .int .i64 t, .int .i64 u, .int .i64 hf, .int .i64 p, .int .i64 n, .int .i64 a0, .int .i64 a1, .int .i64 b0, .int .i64 b1, .slice A l.length c, sn, sm, sl, sd, sp] 30)) 30 #[.int .i64 0, .int .i64 0, .int .i64 0, .int .i64 0, .int .i64 0, .int .i64 0, .int .i64 0, .int .i64 0, .int .i64 0, .int .i64 0, .slice none 0 0, .slice none 0 0, .slice none 0 0, .slice none 0 0, .slice none 0 0, .slice none 0 0]
    simpa using this
  have hb2 : Below w.heap.size w W2 := by rw [hW2]; exact ((Below.refl _ _).alloc (Nat.le_refl _) _).alloc (by simp) _
  have hz2 : w.heap.size + 1 < W2.heap.size := k1.lt
  clear hW2
  have c1 := k0.cell 1
  have c4 := k0.cell 4
  have c6 := k0.cell 6
  have c7 := k0.cell 7
  have c10 := k0.cell 10
  simp at c1 c4 c6 c7 c10
  have hR2 : Hid (Reads W2.drew W2.drew.heap.size 1 A l.length (bv l)) := ((hr'.out.below hb2).more (B' := W2.heap.size) (by omega)).drew
  have K0 := hide k0
  have K1 := hide k1
  have hzz : w.heap.size < W2.drew.heap.size := by show w.heap.size < W2.heap.size; omega
  have hzy : w.heap.size + 1 < W2.drew.heap.size := hz2
  clear k0 k1
  go_region_held3 (fun w' => w'.cell? ⟨w.heap.size, 1, none⟩ = some (.int .i64 t) ∧ w'.cell? ⟨w.heap.size, 4, none⟩ = some (.int .i64 p) ∧ w'.cell? ⟨w.heap.size, 6, none⟩ = some (.int .i64 a0) ∧ w'.cell? ⟨w.heap.size, 7, none⟩ = some (.int .i64 a1) ∧ w'.cell? ⟨w.heap.size, 10, none⟩ = some (.slice A l.length c)) (go_keep)
    (first | (go_at_call 13; refine (clone_any A c l _ hn hR2.out hl).mono ?_; rintro e w3 ⟨A', c', rfl, hA, hF, hR, hb⟩; have q1 := (hb.cell (p := ⟨w.heap.size, 1, none⟩) hzz).trans c1; have q4 := (hb.cell (p := ⟨w.heap.size, 4, none⟩) hzz).trans c4; have q6 := (hb.cell (p := ⟨w.heap.size, 6, none⟩) hzz).trans c6; have q7 := (hb.cell (p := ⟨w.heap.size, 7, none⟩) hzz).trans c7; have q10 := (hb.cell (p := ⟨w.heap.size, 10, none⟩) hzz).trans c10; have kk := K1.out.drew.below hb hzy; obtain ⟨x0, x1, x2, x3, x4, x5, x6, x7, x8, x9, x10, x11, x12, x13, x14, x15⟩ := kk.cells16; have kf := kk.frozen))
  have kz := kk.set16 (.int .i64 2) (.int .i64 t) (.int .i64 0) (.int .i64 0) (.int .i64 prev) (.int .i64 p) (.int .i64 a0) (.int .i64 a1) (.int .i64 0) (.int .i64 0) (.slice none 0 0) (.slice A' l.length c') (.slice none 0 0) (.slice none 0 0) (.slice none 0 0) (.slice none 0 0)
  have hbz : Below w.heap.size w _ := below_set16 (g := w.heap.size + 1) ((show Below w.heap.size w W2.drew from hb2.drew).trans (hb.mono (by show w.heap.size ≤ W2.heap.size; omega))) (by omega) (.int .i64 2) (.int .i64 t) (.int .i64 0) (.int .i64 0) (.int .i64 prev) (.int .i64 p) (.int .i64 a0) (.int .i64 a1) (.int .i64 0) (.int .i64 0) (.slice none 0 0) (.slice A' l.length c') (.slice none 0 0) (.slice none 0 0) (.slice none 0 0) (.slice none 0 0)
  have hsz : W2.heap.size ≤ w3.heap.size := hb.size
  have hRz : Reads ((((((((((((((((w3.setCell ⟨w.heap.size + 1, 0, none⟩ (.int .i64 2)).setCell ⟨w.heap.size + 1, 1, none⟩ (.int .i64 t)).setCell ⟨w.heap.size + 1, 2, none⟩ (.int .i64 0)).setCell ⟨w.heap.size + 1, 3, none⟩ (.int .i64 0)).setCell ⟨w.heap.size + 1, 4, none⟩ (.int .i64 prev)).setCell ⟨w.heap.size + 1, 5, none⟩ (.int .i64 p)).setCell ⟨w.heap.size + 1, 6, none⟩ (.int .i64 a0)).setCell ⟨w.heap.size + 1, 7, none⟩ (.int .i64 a1)).setCell ⟨w.heap.size + 1, 8, none⟩ (.int .i64 0)).setCell ⟨w.heap.size + 1, 9, none⟩ (.int .i64 0)).setCell ⟨w.heap.size + 1, 10, none⟩ (.slice none 0 0)).setCell ⟨w.heap.size + 1, 11, none⟩ (.slice A' l.length c')).setCell ⟨w.heap.size + 1, 12, none⟩ (.slice none 0 0)).setCell ⟨w.heap.size + 1, 13, none⟩ (.slice none 0 0)).setCell ⟨w.heap.size + 1, 14, none⟩ (.slice none 0 0)).setCell ⟨w.heap.size + 1, 15, none⟩ (.slice none 0 0)) w3.heap.size 1 A' l.length (bv l) := by
    have hne : ∀ ad, A' = some ad → ad.block ≠ w.heap.size + 1 := fun ad e => by have := hF ad e; have h' : W2.heap.size ≤ ad.block := this; omega
    exact (((((((((((((((hR.far (p := ⟨_, 0, none⟩) hne _).far (p := ⟨_, 1, none⟩) hne _).far (p := ⟨_, 2, none⟩) hne _).far (p := ⟨_, 3, none⟩) hne _).far (p := ⟨_, 4, none⟩) hne _).far (p := ⟨_, 5, none⟩) hne _).far (p := ⟨_, 6, none⟩) hne _).far (p := ⟨_, 7, none⟩) hne _).far (p := ⟨_, 8, none⟩) hne _).far (p := ⟨_, 9, none⟩) hne _).far (p := ⟨_, 10, none⟩) hne _).far (p := ⟨_, 11, none⟩) hne _).far (p := ⟨_, 12, none⟩) hne _).far (p := ⟨_, 13, none⟩) hne _).far (p := ⟨_, 14, none⟩) hne _).far (p := ⟨_, 15, none⟩) hne _
  clear q1 q4 q6 q7 q10 kk x0 x1 x2 x3 x4 x5 x6 x7 x8 x9 x10 x11 x12 x13 x14 x15 kf
  obtain ⟨x0, x1, x2, x3, x4, x5, x6, x7, x8, x9, x10, x11, x12, x13, x14, x15⟩ := kz.cells16
  go_wp2
  refine bodyPost_ret (v := .tuple #[.agg #[.int .i64 2, .int .i64 t, .int .i64 0, .int .i64 0, .int .i64 prev, .int .i64 p, .int .i64 a0, .int .i64 a1, .int .i64 0, .int .i64 0, .slice none 0 0, .slice A' l.length c', .slice none 0 0, .slice none 0 0, .slice none 0 0, .slice none 0 0], .bool true]) (by simp [results, Try.results8, go_sem, x0, x1, x2, x3, x4, x5, x6, x7, x8, x9, x10, x11, x12, x13, x14, x15]) rfl ⟨A', c', rfl, hA, fun ad e => ?_, hRz.more (by simp [World.setCell]), hbz⟩
  have := hF ad e
  have h' : W2.heap.size ≤ ad.block := this
  omega
end Go.Proofs.Ytogminifliceaaa
