/- Mark: contracts: lists of open units; the reference's mark; what is seen behind a mark; two looks. -/
import Derived.Test.YtmleneljmcikdaaMarkC
namespace Go.Proofs.Ytmleneljmcikdaa
open Go.ChangeShapes Go.WideShapes Go.ChangeAt Go.RowKit
set_option linter.unusedVariables false

/-- two lists of open units that say the same -/
def OpenRows (w : World) (xs ys : List Value) (n : Nat) : Prop := ∀ k, k < n → ∃ (u d : Int) (A1 A2 : Option Addr) (m c1 c2 : Nat) (ms : List Value),
  xs[k * 3]? = some (.int .i64 u) ∧ xs[k * 3 + 1]? = some (.slice A1 m c1) ∧ xs[k * 3 + 2]? = some (.int .i64 d) ∧
  ys[k * 3]? = some (.int .i64 u) ∧ ys[k * 3 + 1]? = some (.slice A2 m c2) ∧ ys[k * 3 + 2]? = some (.int .i64 d) ∧
  MoveRow ms m ∧ Reads w w.heap.size 4 A1 m ms ∧ Reads w w.heap.size 4 A2 m ms ∧ m ≤ maxLen
theorem OpenRows.ext {w w' : World} {xs ys : List Value} {n : Nat} (h : OpenRows w xs ys n) (he : Ext w w') : OpenRows w' xs ys n := fun k hk => by
  obtain ⟨u, d, P1, P2, q, s1, s2, ms, y0, y1, y2, z0, z1, z2, hm, r1, r2, hq⟩ := h k hk
  exact ⟨u, d, P1, P2, q, s1, s2, ms, y0, y1, y2, z0, z1, z2, hm, he.read r1, he.read r2, hq⟩

set_option maxRecDepth 100000 in
set_option maxHeartbeats 2000000 in
theorem same_Opens (A1 A2 : Option Addr) (c1 c2 n B1 B2 : Nat) (xs ys : List Value) (w : World) (hx : OpenRows w xs ys n) (h1 : Reads w B1 3 A1 n xs) (h2 : Reads w B2 3 A2 n ys) (hl : n ≤ maxLen) :
    Calls Try.prog 16 #[.slice A1 n c1, .slice A2 n c2] w fun e w' => e = .returned (.bool true) ∧ ∃ m, w' = w.drewN m := by
  unfold maxLen at hl
  have H1 := hide h1
  have H2 := hide h2
  have HX := hide hx
  clear h1 h2 hx
  go_enter Try.func16, Try.ntmps16
  go_wp2_with (fail)
  go_loopw [5] (fun i wr => (∃ k : Nat, k ≤ n ∧ i = .int .i64 k ∧ Hid (∃ m, wr = w.drewN m))) (fun i _ => (n - intOf i).toNat)
  case atStart => exact ⟨0, by omega, rfl, 0, rfl⟩
  case round =>
    obtain ⟨k, hk, rfl, hw⟩ := hrel
    obtain ⟨m, rfl⟩ := hw.out
    by_cases hlt : k < n
    · obtain ⟨b1, o1, e1, _, d1⟩ := H1.out.plain (by omega) (by omega)
      obtain ⟨b2, o2, e2, _, d2⟩ := H2.out.plain (by omega) (by omega)
      obtain ⟨u, d, P1, P2, q, s1, s2, ms, y0, y1, y2, z0, z1, z2, hm, r1, r2, hq⟩ := HX.out k hlt
      have g10 : w.cell? ⟨b1, o1 + k * 3, none⟩ = some (.int .i64 u) := d1 _ _ y0
      have g11 : w.cell? ⟨b1, o1 + k * 3 + 1, none⟩ = some (.slice P1 q s1) := by rw [Nat.add_assoc]; exact d1 _ _ y1
      have g12 : w.cell? ⟨b1, o1 + k * 3 + 2, none⟩ = some (.int .i64 d) := by rw [Nat.add_assoc]; exact d1 _ _ y2
      have g20 : w.cell? ⟨b2, o2 + k * 3, none⟩ = some (.int .i64 u) := d2 _ _ z0
      have g21 : w.cell? ⟨b2, o2 + k * 3 + 1, none⟩ = some (.slice P2 q s2) := by rw [Nat.add_assoc]; exact d2 _ _ z1
      have g22 : w.cell? ⟨b2, o2 + k * 3 + 2, none⟩ = some (.int .i64 d) := by rw [Nat.add_assoc]; exact d2 _ _ z2
      have e3 : (u != u) = false := by simp
      have e4 : (d != d) = false := by simp
      have HM := hide hm
      have R1 := hide r1
      have R2 := hide r2
      have HQ := hide hq
      subst e1 e2
      clear d1 d2 y0 y1 y2 z0 z1 z2 hw hm r1 r2 hq
      go_wp2_with (fail)
      go_quiet ((go_at_call 13; exact quiet_add (same_Move _ _ _ _ _ _ _ _ _ HM.out (R1.out.drewN _) (R2.out.drewN _) HQ.out)))
      go_wp2
      go_roundw
      case rel => exact ⟨k + 1, by omega, by go_num, m + nq, by simp⟩
      case measure => simp [intOf]; omega
    · obtain rfl : k = n := by omega
      clear hw
      go_wp2
      go_ret
      exact ⟨rfl, m, rfl⟩

set_option maxRecDepth 100000 in
/-- the reference's mark -/
theorem rmark_any (sL sD sO : Value) (u h : Int) (A1 A2 A3 : Option Addr) (n1 n2 n3 c1 c2 c3 : Nat) (w : World) (e1 : sL = .slice A1 n1 c1) (e2 : sD = .slice A2 n2 c2) (e3 : sO = .slice A3 n3 c3) :
    Calls Try.prog 8 #[.agg #[sL, sD, sO, .int .i64 u, .int .i64 h]] w fun e w' => e = .returned (.agg #[.int .i64 9, .int .i64 0, .int .i64 u, .int .i64 h, .int .i64 0, .int .i64 0, .int .i64 0, .int .i64 0, .int .i64 0, .int .i64 0, .slice none 0 0, .slice none 0 0, .slice none 0 0, sL, sD, sO]) ∧ Ext w w' := by
  subst e1 e2 e3
  go_enter Try.func8, Try.ntmps8
  go_wp2
  refine bodyPost_ret (v := .agg #[.int .i64 9, .int .i64 0, .int .i64 u, .int .i64 h, .int .i64 0, .int .i64 0, .int .i64 0, .int .i64 0, .int .i64 0, .int .i64 0, .slice none 0 0, .slice none 0 0, .slice none 0 0, .slice A1 n1 c1, .slice A2 n2 c2, .slice A3 n3 c3]) (by simp [results, Try.results8, go_sem]) rfl ⟨rfl, ((Ext.refl w).alloc _).alloc _⟩

theorem lives_nil (t : Int) (w : World) : Calls Try.prog 21 #[.slice none 0 0, .int .i64 t] w fun e w' => e = .returned (.tuple #[.int .i64 0, .bool false]) ∧ Ext w w' := by
  go_enter Try.func21, Try.ntmps21
  go_wp2
  refine wp_loop_rounds 1 ?_
  rw [rounds_succ]
  go_wp2
  go_quiet (fail)
  go_wp2
  go_ret2
  exact ⟨rfl, (Ext.refl _).drewN _⟩
set_option maxRecDepth 100000 in
set_option maxHeartbeats 2000000 in
/-- what is seen behind a mark -/
theorem on_mark (sL sD sO : Value) (u h l : Int) (A1 A2 A3 : Option Addr) (n1 n2 n3 c1 c2 c3 : Nat) (w : World) (e1 : sL = .slice A1 n1 c1) (e2 : sD = .slice A2 n2 c2) (e3 : sO = .slice A3 n3 c3) :
    Calls Try.prog 11 #[.agg #[.slice none 0 0, .slice none 0 0, .slice none 0 0, .int .i64 0, .int .i64 0], .agg #[.int .i64 9, .int .i64 0, .int .i64 u, .int .i64 h, .int .i64 0, .int .i64 0, .int .i64 0, .int .i64 0, .int .i64 0, .int .i64 0, .slice none 0 0, .slice none 0 0, .slice none 0 0, sL, sD, sO], .int .i64 l] w
      fun e w' => e = .returned (.agg #[sL, sD, sO, .int .i64 u, .int .i64 h]) ∧ Ext w w' := by
  subst e1 e2 e3
  go_enter Try.func11, Try.ntmps11
  go_wp2_with (fail)
  refine (lives_nil _ _).mono ?_
  rintro e w1 ⟨rfl, he⟩
  have k2 := he.blk ((Blk.new (w.alloc (.cells #[.slice none 0 0, .slice none 0 0, .slice none 0 0, .int .i64 0, .int .i64 0] 26)) 34 #[.int .i64 9, .int .i64 0, .int .i64 u, .int .i64 h, .int .i64 0, .int .i64 0, .int .i64 0, .int .i64 0, .int .i64 0, .int .i64 0, .slice none 0 0, .slice none 0 0, .slice none 0 0, .slice A1 n1 c1, .slice A2 n2 c2, .slice A3 n3 c3]).alloc _)
  have k3 := he.blk (Blk.new ((w.alloc (.cells #[.slice none 0 0, .slice none 0 0, .slice none 0 0, .int .i64 0, .int .i64 0] 26)).alloc (.cells #[.int .i64 9, .int .i64 0, .int .i64 u, .int .i64 h, .int .i64 0, .int .i64 0, .int .i64 0, .int .i64 0, .int .i64 0, .int .i64 0, .slice none 0 0, .slice none 0 0, .slice none 0 0, .slice A1 n1 c1, .slice A2 n2 c2, .slice A3 n3 c3] 34)) 26 #[.slice none 0 0, .slice none 0 0, .slice none 0 0, .int .i64 0, .int .i64 0])
  simp at k2 k3
  have hE := hide ((((Ext.refl w).alloc _).alloc _).alloc _ |>.trans he)
  obtain ⟨x0, x1, x2, x3, x4, x5, x6, x7, x8, x9, x10, x11, x12, x13, x14, x15⟩ := k2.cells16
  obtain ⟨y0, y1, y2, y3, y4⟩ := k3.cells5
  have yf := k3.frozen
  have kz := k3.set5 (.slice A1 n1 c1) (.slice A2 n2 c2) (.slice A3 n3 c3) (.int .i64 u) (.int .i64 h)
  obtain ⟨z0, z1, z2, z3, z4⟩ := kz.cells5
  have hT := hide (Touch.ext hE.out (touch_set5 w1 (w.heap.size + 1 + 1) (.slice A1 n1 c1) (.slice A2 n2 c2) (.slice A3 n3 c3) (.int .i64 u) (.int .i64 h)) (by omega))
  clear he k2 k3 kz
  go_wp2_with (fail)
  refine bodyPost_ret (v := .agg #[.slice A1 n1 c1, .slice A2 n2 c2, .slice A3 n3 c3, .int .i64 u, .int .i64 h]) (by simp [results, Try.results11, go_sem, z0, z1, z2, z3, z4]) rfl ⟨rfl, hT.out⟩

set_option maxRecDepth 100000 in
set_option maxHeartbeats 2000000 in
/-- two looks that say the same -/
theorem same_seen (A1 A2 A3 B1 B2 B3 : Option Addr) (n1 n2 n3 c1 c2 c3 d1 d2 d3 : Nat) (u h : Int) (xL xD xO yO : List Value) (w : World)
    (hL : LiveRow xL n1) (rL : Reads w w.heap.size 4 A1 n1 xL) (rL' : Reads w w.heap.size 4 B1 n1 xL) (l1 : n1 ≤ maxLen)
    (hD : DirtyRow xD n2) (rD : Reads w w.heap.size 2 A2 n2 xD) (rD' : Reads w w.heap.size 2 B2 n2 xD) (l2 : n2 ≤ maxLen)
    (hO : OpenRows w xO yO n3) (rO : Reads w w.heap.size 3 A3 n3 xO) (rO' : Reads w w.heap.size 3 B3 n3 yO) (l3 : n3 ≤ maxLen) :
    Calls Try.prog 12 #[.agg #[.slice A1 n1 c1, .slice A2 n2 c2, .slice A3 n3 c3, .int .i64 u, .int .i64 h], .agg #[.slice B1 n1 d1, .slice B2 n2 d2, .slice B3 n3 d3, .int .i64 u, .int .i64 h]] w
      fun e w' => e = .returned (.bool true) ∧ Ext w w' := by
  have hE := ((Ext.refl w).alloc (.cells #[.slice A1 n1 c1, .slice A2 n2 c2, .slice A3 n3 c3, .int .i64 u, .int .i64 h] 26)).alloc (.cells #[.slice B1 n1 d1, .slice B2 n2 d2, .slice B3 n3 d3, .int .i64 u, .int .i64 h] 26)
  have RL := hide (hE.read rL)
  have RL' := hide (hE.read rL')
  have RD := hide (hE.read rD)
  have RD' := hide (hE.read rD')
  have RO := hide (hE.read rO)
  have RO' := hide (hE.read rO')
  have HO := hide (hO.ext hE)
  have HE := hide hE
  have HL := hide hL
  have HD := hide hD
  have L1 := hide l1
  have L2 := hide l2
  have L3 := hide l3
  clear rL rL' rD rD' rO rO' hO hE hL hD l1 l2 l3
  go_enter Try.func12, Try.ntmps12
  go_wp2_with (first | (go_at_call 14; refine (same_Live _ _ _ _ _ _ _ _ _ HL.out RL.out RL'.out L1.out).mono ?_; rintro e w' ⟨rfl, m1, rfl⟩) | (go_at_call 15; refine (same_Dirty _ _ _ _ _ _ _ _ _ HD.out (RD.out.drewN _) (RD'.out.drewN _) L2.out).mono ?_; rintro e w' ⟨rfl, m2, rfl⟩) | (go_at_call 16; refine (same_Opens _ _ _ _ _ _ _ _ _ _ (HO.out.ext ((Ext.refl _).drewN _)) (RO.out.drewN _) (RO'.out.drewN _) L3.out).mono ?_; rintro e w' ⟨rfl, m3, rfl⟩))
  go_ret
  exact ⟨rfl, HE.out.drewN _⟩
end Go.Proofs.Ytmleneljmcikdaa
