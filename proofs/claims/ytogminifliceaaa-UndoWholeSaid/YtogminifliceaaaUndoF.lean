/- Undo: 'begun' answers true. -/
import Derived.Test.YtogminifliceaaaUndoB
import Derived.Test.YtogminifliceaaaUndoC
import Derived.Lib.SlBytesConst
namespace Go.Proofs.Ytogminifliceaaa
open Go.ChangeShapes Go.WideShapes Go.ChangeAt Go.RowKit
set_option linter.unusedVariables false

set_option maxRecDepth 100000 in
set_option maxHeartbeats 4000000 in
theorem begun_any (w : World) : Calls Try.prog 7 #[] w fun e w' => e = .returned (.bool true) ∧ Below w.heap.size w w' := by
  have hx : Reads (w.alloc (.cells #[.int .u8 120] 5 (1, 2))) (w.alloc (.cells #[.int .u8 120] 5 (1, 2))).heap.size 1 (some ⟨w.heap.size, 0, none⟩) 1 (bv [120]) := by
    refine ⟨rfl, fun _ => ⟨_, rfl, by simp, fun j u hu => ?_⟩⟩
    match j, hu with
    | 0, hu => simp [bv] at hu; subst hu; simpa [Addr.add] using World.cell?_alloc_mark w #[.int .u8 120] 5 (1, 2) 0
  have hx' := hide hx
  clear hx
  have kc := fun (w : World) (C : Array Value) (n c : Nat) => Lib.run_convert_bytes_const (P := Try.prog) w 24 5 C n c Try.underlying24 Try.underlying5
  go_enter Try.func7, Try.ntmps7
  go_wp2_with (fail)
  refine (back_yes 2 0 0 3 0 0 0 0 0 9 _ _ _ _ _ _ _ [120] _ (fun h => by cases h) hx'.out (by decide)).mono ?_
  rintro e w1 ⟨A', c', rfl, hA, hF, hR, hb⟩
  have hR' := hide hR
  have hb1 := hide (((Below.refl w.heap.size w).alloc (Nat.le_refl _) (.cells #[.int .u8 120] 5 (1, 2))).trans (hb.mono (by simp)))
  have hz1 : w.heap.size + 1 ≤ w1.heap.size := by have := hb.size; simpa using this
  clear hR hb hA hx'
  go_wp2_with (fail)
  refine (back_no 5 9 _ _ _ _ _ _ _ _ _ _ _ _ _ _ _ _ (by decide)).mono ?_
  rintro e w2 ⟨rfl, hb⟩
  have kk := ((Blk.new w1 30 #[.int .i64 2, .int .i64 2, .int .i64 0, .int .i64 0, .int .i64 9, .int .i64 3, .int .i64 0, .int .i64 0, .int .i64 0, .int .i64 0, .slice none 0 0, .slice A' 1 c', .slice none 0 0, .slice none 0 0, .slice none 0 0, .slice none 0 0]).below hb (by simp))
  obtain ⟨x0, x1, x2, x3, x4, x5, x6, x7, x8, x9, x10, x11, x12, x13, x14, x15⟩ := kk.cells16
  have hz2 : w1.heap.size < w2.heap.size := by have := hb.size; simp at this; omega
  have hs : ∀ o, (convert 24 9 (.slice A' 1 c')).run Try.prog (w2.alloc o) = .ok (.string ⟨#[120]⟩) (w2.alloc o) := fun o =>
    run_string_of_reads (l := [120]) 24 9 5 c' Try.underlying24 Try.underlying5 Try.underlying9 (((hR'.out.alloc (Nat.le_refl _) _).below (hb.mono (by simp))).alloc (B := w1.heap.size) (by omega) o)
  have hb2 := hide (hb1.out.trans (((Below.refl w.heap.size w1).alloc (by omega) _).trans (hb.mono (by simp; omega))))
  have hn : nextP 2 9 3 10 = 3 := rfl
  clear kk hb hb1 hF
  go_wp2_with (go_at_call 11; refine (next_any 2 9 3 10 _ _ _ _ _ _ _ _ _ _ _ _ _ _).mono ?_; rintro e w3 ⟨rfl, hb3⟩)
  go_ret
  have hz0 : w.heap.size ≤ w2.heap.size := by omega
  exact ⟨rfl, (hb2.out.alloc hz0 _).trans (hb3.mono (by simp; omega))⟩
end Go.Proofs.Ytogminifliceaaa
