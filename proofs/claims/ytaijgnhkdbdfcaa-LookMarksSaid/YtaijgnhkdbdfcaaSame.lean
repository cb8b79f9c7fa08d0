/- Look: contracts: what is the same is told to be the same: lives, moves, units. -/
import Derived.Test.YtaijgnhkdbdfcaaActs
import Derived.Laws.StructEq
import Derived.Deep.QuietTactic
import Derived.BigQuiet
namespace Go.Proofs.Ytaijgnhkdbdfcaa
open Go.ChangeShapes Go.WideShapes Go.ChangeAt Go.RowKit
set_option linter.unusedVariables false

theorem eq_live (a b c : Int) (d : Bool) (w : World) : (Op.equalIn 10000 49 (.agg #[.int .i64 a, .int .i64 b, .int .i64 c, .bool d]) (.agg #[.int .i64 a, .int .i64 b, .int .i64 c, .bool d])).run Try.prog w = .ok true w := by
  have u3 := Try.underlying3
  have a3 := Try.isAgg3
  have z3 := Try.sizeOf3
  have u4 := Try.underlying4
  have a4 := Try.isAgg4
  have z4 := Try.sizeOf4
  have hS : Try.prog.underlying 49 = some (.struct (Try.prog.fieldsOf 49)) := by kernel_rfl
  have hp : Try.prog.stoodInHeld 49 = false := by kernel_rfl
  rw [show (10000 : Nat) = 9999 + 1 from rfl, run_equalIn_agg w 9999 49 _ _ hS hp]
  simp only [Program.fieldsOf, Try.underlying49]
  go_simp
theorem eq_move (a b c d : Int) (w : World) : (Op.equalIn 10000 54 (.agg #[.int .i64 a, .int .i64 b, .int .i64 c, .int .i64 d]) (.agg #[.int .i64 a, .int .i64 b, .int .i64 c, .int .i64 d])).run Try.prog w = .ok true w := by
  have u3 := Try.underlying3
  have a3 := Try.isAgg3
  have z3 := Try.sizeOf3
  have u28 := Try.underlying28
  have a28 := Try.isAgg28
  have z28 := Try.sizeOf28
  have hS : Try.prog.underlying 54 = some (.struct (Try.prog.fieldsOf 54)) := by kernel_rfl
  have hp : Try.prog.stoodInHeld 54 = false := by kernel_rfl
  have hS2 : Try.prog.underlying 28 = some (.struct (Try.prog.fieldsOf 28)) := by kernel_rfl
  have hp2 : Try.prog.stoodInHeld 28 = false := by kernel_rfl
  rw [show (10000 : Nat) = 9999 + 1 from rfl, run_equalIn_agg w 9999 54 _ _ hS hp]
  simp only [Program.fieldsOf, Try.underlying54]
  go_simp
/-! lists that are told to be the same -/
set_option maxRecDepth 100000 in
set_option maxHeartbeats 8000000 in
theorem same_lives (w : World) (A B : Option Addr) (c d n : Nat) (L : List Lv) (ha : Reads w w.heap.size 4 A n (lvs L)) (hb : Reads w w.heap.size 4 B n (lvs L)) (hn : n = L.length) (hl : n ≤ 1000) :
    Calls Try.prog 12 #[.slice A n c, .slice B n d] w fun e w' => e = .returned (.bool true) ∧ ∃ m, w' = w.drewN m := by
  have HA := hide ha
  have HB := hide hb
  have HN := hide hn
  have dnn : ((n : Int) != (n : Int)) = false := by simp
  clear ha hb hn
  go_enter Try.func12, Try.ntmps12
  go_wp2_with (fail)
  go_loopw [5] (fun s5 wr => (∃ k : Nat, k ≤ n ∧ s5 = .int .i64 k ∧ Hid (∃ m, wr = w.drewN m))) (fun s5 _ => (n - intOf s5).toNat)
  case atStart => exact ⟨0, by omega, rfl, 0, rfl⟩
  case round =>
    obtain ⟨k, hk, rfl, hX⟩ := hrel
    obtain ⟨m, hm⟩ := hX.out
    subst hm
    clear hX
    by_cases hlt : k < n
    · obtain ⟨x, hx⟩ : ∃ x, L[k]? = some x := ⟨_, List.getElem?_eq_getElem (by rw [← HN.out]; exact hlt)⟩
      obtain ⟨ga, oa, hA, hga, hca⟩ := HA.out.plain (by omega) (by omega)
      obtain ⟨gb, ob, hB, hgb, hcb⟩ := HB.out.plain (by omega) (by omega)
      subst hA hB
      obtain ⟨x0, x1, x2, x3⟩ := lvs_at hx
      have a0 : w.cell? ⟨ga, oa + k * 4, none⟩ = some (.int .i64 x.t) := hca _ _ x0
      have a1 : w.cell? ⟨ga, oa + k * 4 + 1, none⟩ = some (.int .i64 x.l) := hca _ _ x1
      have a2 : w.cell? ⟨ga, oa + k * 4 + 2, none⟩ = some (.int .i64 x.n) := hca _ _ x2
      have a3 : w.cell? ⟨ga, oa + k * 4 + 3, none⟩ = some (.bool x.c) := hca _ _ x3
      have b0 : w.cell? ⟨gb, ob + k * 4, none⟩ = some (.int .i64 x.t) := hcb _ _ x0
      have b1 : w.cell? ⟨gb, ob + k * 4 + 1, none⟩ = some (.int .i64 x.l) := hcb _ _ x1
      have b2 : w.cell? ⟨gb, ob + k * 4 + 2, none⟩ = some (.int .i64 x.n) := hcb _ _ x2
      have b3 : w.cell? ⟨gb, ob + k * 4 + 3, none⟩ = some (.bool x.c) := hcb _ _ x3
      have heq := eq_live x.t x.l x.n x.c
      have dn : decide ((k : Int) < (n : Int)) = true := decide_eq_true (by omega)
      have hki : (k : Int) < (n : Int) := by omega
      clear x0 x1 x2 x3 hx hca hcb
      go_wp2_with (fail)
      go_quiet (fail)
      go_wp2_with (fail)
      go_roundw
      case rel => exact ⟨k + 1, by omega, by go_num, _, rfl⟩
      case measure => simp [intOf]; omega
    · obtain rfl : k = n := by omega
      have dn : decide ((k : Int) < (k : Int)) = false := decide_eq_false (by omega)
      go_wp2_with (fail)
      go_ret
      exact ⟨rfl, m, rfl⟩
set_option maxRecDepth 100000 in
set_option maxHeartbeats 8000000 in
theorem same_moves (w : World) (A B : Option Addr) (c d n : Nat) (L : List Mv) (ha : Reads w w.heap.size 4 A n (mvs L)) (hb : Reads w w.heap.size 4 B n (mvs L)) (hn : n = L.length) (hl : n ≤ 1000) :
    Calls Try.prog 17 #[.slice A n c, .slice B n d] w fun e w' => e = .returned (.bool true) ∧ ∃ m, w' = w.drewN m := by
  have HA := hide ha
  have HB := hide hb
  have HN := hide hn
  have dnn : ((n : Int) != (n : Int)) = false := by simp
  clear ha hb hn
  go_enter Try.func17, Try.ntmps17
  go_wp2_with (fail)
  go_loopw [5] (fun s5 wr => (∃ k : Nat, k ≤ n ∧ s5 = .int .i64 k ∧ Hid (∃ m, wr = w.drewN m))) (fun s5 _ => (n - intOf s5).toNat)
  case atStart => exact ⟨0, by omega, rfl, 0, rfl⟩
  case round =>
    obtain ⟨k, hk, rfl, hX⟩ := hrel
    obtain ⟨m, hm⟩ := hX.out
    subst hm
    clear hX
    by_cases hlt : k < n
    · obtain ⟨x, hx⟩ : ∃ x, L[k]? = some x := ⟨_, List.getElem?_eq_getElem (by rw [← HN.out]; exact hlt)⟩
      obtain ⟨ga, oa, hA, hga, hca⟩ := HA.out.plain (by omega) (by omega)
      obtain ⟨gb, ob, hB, hgb, hcb⟩ := HB.out.plain (by omega) (by omega)
      subst hA hB
      obtain ⟨x0, x1, x2, x3⟩ := mvs_at hx
      have a0 : w.cell? ⟨ga, oa + k * 4, none⟩ = some (.int .i64 x.f0) := hca _ _ x0
      have a1 : w.cell? ⟨ga, oa + k * 4 + 1, none⟩ = some (.int .i64 x.f1) := hca _ _ x1
      have a2 : w.cell? ⟨ga, oa + k * 4 + 2, none⟩ = some (.int .i64 x.t0) := hca _ _ x2
      have a3 : w.cell? ⟨ga, oa + k * 4 + 3, none⟩ = some (.int .i64 x.t1) := hca _ _ x3
      have b0 : w.cell? ⟨gb, ob + k * 4, none⟩ = some (.int .i64 x.f0) := hcb _ _ x0
      have b1 : w.cell? ⟨gb, ob + k * 4 + 1, none⟩ = some (.int .i64 x.f1) := hcb _ _ x1
      have b2 : w.cell? ⟨gb, ob + k * 4 + 2, none⟩ = some (.int .i64 x.t0) := hcb _ _ x2
      have b3 : w.cell? ⟨gb, ob + k * 4 + 3, none⟩ = some (.int .i64 x.t1) := hcb _ _ x3
      have heq := eq_move x.f0 x.f1 x.t0 x.t1
      have dn : decide ((k : Int) < (n : Int)) = true := decide_eq_true (by omega)
      have hki : (k : Int) < (n : Int) := by omega
      clear x0 x1 x2 x3 hx hca hcb
      go_wp2_with (fail)
      go_quiet (fail)
      go_wp2_with (fail)
      go_roundw
      case rel => exact ⟨k + 1, by omega, by go_num, _, rfl⟩
      case measure => simp [intOf]; omega
    · obtain rfl : k = n := by omega
      have dn : decide ((k : Int) < (k : Int)) = false := decide_eq_false (by omega)
      go_wp2_with (fail)
      go_ret
      exact ⟨rfl, m, rfl⟩
set_option maxRecDepth 100000 in
set_option maxHeartbeats 8000000 in
theorem same_opens (w : World) (A B : Option Addr) (ba bb c d n : Nat) (O : List Ou) (ha : OwnO w ba O A n c) (hb : OwnO w bb O B n d) (hn : n = O.length) (hl : n ≤ 1000) (hm : ∀ x ∈ O, x.mv.length ≤ 1000) :
    Calls Try.prog 13 #[.slice A n c, .slice B n d] w fun e w' => e = .returned (.bool true) ∧ ∃ m, w' = w.drewN m := by
  obtain ⟨oa, ha1, ha2⟩ := ha
  obtain ⟨ob, hb1, hb2⟩ := hb
  have HA := hide ha1
  have HB := hide hb1
  have HAO := hide ha2
  have HBO := hide hb2
  have HN := hide hn
  have HM := hide hm
  have dnn : ((n : Int) != (n : Int)) = false := by simp
  clear ha1 ha2 hb1 hb2 hn hm
  go_enter Try.func13, Try.ntmps13
  go_wp2_with (fail)
  go_loopw [5] (fun s5 wr => (∃ k : Nat, k ≤ n ∧ s5 = .int .i64 k ∧ Hid (∃ m, wr = w.drewN m))) (fun s5 _ => (n - intOf s5).toNat)
  case atStart => exact ⟨0, by omega, rfl, 0, rfl⟩
  case round =>
    obtain ⟨k, hk, rfl, hX⟩ := hrel
    obtain ⟨m, hm⟩ := hX.out
    subst hm
    clear hX
    by_cases hlt : k < n
    · obtain ⟨x, hx⟩ : ∃ x, O[k]? = some x := ⟨_, List.getElem?_eq_getElem (by rw [← HN.out]; exact hlt)⟩
      obtain ⟨ga, rfl⟩ := own_some HA.out (by omega)
      obtain ⟨gb, rfl⟩ := own_some HB.out (by omega)
      obtain ⟨Am, cm, x0, x1, x2, x3⟩ := HAO.out.2 k x hx
      obtain ⟨Bm, dm, y0, y1, y2, y3⟩ := HBO.out.2 k x hx
      have a0 : w.cell? ⟨ga, k * 3, none⟩ = some (.int .i64 x.u) := by rw [HA.out.cellAt _ (by omega)]; exact x0
      have a1 : w.cell? ⟨ga, k * 3 + 1, none⟩ = some (.slice Am x.mv.length cm) := by rw [HA.out.cellAt _ (by omega)]; exact x1
      have a2 : w.cell? ⟨ga, k * 3 + 2, none⟩ = some (.int .i64 x.d) := by rw [HA.out.cellAt _ (by omega)]; exact x2
      have b0 : w.cell? ⟨gb, k * 3, none⟩ = some (.int .i64 x.u) := by rw [HB.out.cellAt _ (by omega)]; exact y0
      have b1 : w.cell? ⟨gb, k * 3 + 1, none⟩ = some (.slice Bm x.mv.length dm) := by rw [HB.out.cellAt _ (by omega)]; exact y1
      have b2 : w.cell? ⟨gb, k * 3 + 2, none⟩ = some (.int .i64 x.d) := by rw [HB.out.cellAt _ (by omega)]; exact y2
      have RA := hide (own_reads x3)
      have RB := hide (own_reads y3)
      have hml := HM.out x (List.mem_of_getElem? hx)
      have du : (x.u != x.u) = false := by simp
      have dd : (x.d != x.d) = false := by simp
      have dn : decide ((k : Int) < (n : Int)) = true := decide_eq_true (by omega)
      have hki : (k : Int) < (n : Int) := by omega
      clear x0 x1 x2 x3 y0 y1 y2 y3 hx
      go_wp2_with (fail)
      go_quiet ((go_at_call 17; exact quiet_add (same_moves _ Am Bm cm dm x.mv.length x.mv (RA.out.drewN _) (RB.out.drewN _) rfl hml)))
      go_wp2_with (fail)
      go_roundw
      case rel => exact ⟨k + 1, by omega, by go_num, _, rfl⟩
      case measure => simp [intOf]; omega
    · obtain rfl : k = n := by omega
      have dn : decide ((k : Int) < (k : Int)) = false := decide_eq_false (by omega)
      go_wp2_with (fail)
      go_ret
      exact ⟨rfl, m, rfl⟩
end Go.Proofs.Ytaijgnhkdbdfcaa
