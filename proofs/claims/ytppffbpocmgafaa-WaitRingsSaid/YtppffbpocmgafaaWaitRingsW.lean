/- WaitRings: the walk. -/
import Derived.Test.YtppffbpocmgafaaWaitRingsP
namespace Go.Proofs.Ytppffbpocmgafaa.waitRings
open Go.ChangeShapes Go.WideShapes Go.ChangeAt Go.RowKit Go.Maps
set_option linter.unusedVariables false

structure R1 (W wr : World) (g k : Nat) (ring : Bool) (i : Nat) (N : Nat) (ks : List Int) : Prop where
  h : Has W wr g N 1 ks (ringE k ring i)
  n : N ≤ i
  l : ks.length ≤ i
theorem wf_nat {i : Nat} (h : i < 1000) : Wf i := by
  unfold Wf
  simp [Lit.wf, IntKind.min, IntKind.max, IntKind.bits, IntKind.signed]
  omega
set_option maxRecDepth 100000 in
set_option maxHeartbeats 8000000 in
theorem walk_any (n gn : Nat) (ring : Bool) (w : World) (hn : n < 256) (hgn : gn < 256) :
    Calls Try.prog 6 #[.int .u8 n, .int .u8 gn, .bool ring] w fun e w' => e = .returned (.bool true) ∧ Ext w w' := by
  obtain ⟨q, hq⟩ : ∃ q, q = n % 8 := ⟨_, rfl⟩
  have hnq : (n : Int) % 8 = (q : Int) := by omega
  have hq8 : q < 8 := by omega
  clear hq
  go_enter Try.func6, Try.ntmps6
  go_wp2_with (go_at_call 7; refine (begun_any _).mono ?_; rintro e W ⟨rfl, b1⟩)
  refine (has_new W).mono ?_
  rintro e w1 ⟨rfl, hg⟩
  have HG := hide (hg.more (c' := 1) (by omega))
  have BW := hide b1
  clear b1 hg
  go_wp2_with (fail)
  obtain ⟨k, hk⟩ : ∃ k : Nat, k = q + 2 := ⟨_, rfl⟩
  rw [show (2 : Int) + (q : Int) = (k : Int) by omega]
  have hk2 : 2 ≤ k := by omega
  have hk9 : k < 10 := by omega
  clear hk hnq hn hq8
  go_loopw [9] (fun s9 wr => (∃ i : Nat, i ≤ k ∧ s9 = .int .i64 i ∧ Hid (∃ N ks, R1 W wr (W.heap.size + 1) k ring i N ks))) (fun s9 _ => (k - intOf s9).toNat)
  case atStart => exact ⟨0, by omega, rfl, 0, [], by rw [ringE_zero]; exact HG.out, Nat.le_refl _, Nat.le_refl _⟩
  case round =>
    obtain ⟨i, hi, rfl, hs0⟩ := hrel
    obtain ⟨N, ks, hs1⟩ := hs0.out
    have HS := hide hs1
    clear hs1 hs0
    by_cases hlt : i < k
    · have WI := hide (wf_nat (i := i) (by omega))
      obtain ⟨j, hj⟩ : ∃ j : Nat, (j : Int) = if (i : Int) + 1 < k then (i : Int) + 1 else 0 := ⟨if i + 1 < k then i + 1 else 0, by split <;> split <;> omega⟩
      have hjm : ((i : Int) + 1) % (k : Int) = j := by
        rw [hj]
        split
        · exact Int.emod_eq_of_lt (by omega) (by omega)
        · have e : (i : Int) + 1 = k := by omega
          rw [e, Int.emod_self]
      have hj9 : j < 10 := by split at hj <;> omega
      have hk0 : (k : Int) ≠ 0 := by omega
      have WJ := hide (wf_nat (i := j) (by omega))
      have HJ := hide hj
      clear hj
      by_cases hc : (i : Int) + 1 < k
      · have hH := hide (HS.out.h.ext (Ext.new wr (.cells #[.int .i64 j] 3)))
        have RA := hide (reads_blk (m := 1) (Blk.new wr 3 #[.int .i64 j]) rfl)
        go_wp2_with (fail)
        refine (has_set W _ _ N 1 ks (ringE k ring i) i _ 1 1 [(j : Int)] hH.out rfl RA.out WI.out (by intro x hx; simp at hx; rw [hx]; exact WJ.out) (by omega) (by omega) (by have := HS.out.n; omega)).mono ?_
        rintro e w3 ⟨rfl, h3, _⟩
        have hn1 : Hid (R1 W w3 (W.heap.size + 1) k ring (i + 1) (N + 1) ((i : Int) :: ks)) := ⟨by rw [ringE_set hk2 hlt (.inl (by omega)) HJ.out] at h3; exact h3, by have := HS.out.n; omega, by have := HS.out.l; simp; omega⟩
        clear h3
        go_wp2
        go_roundw
        case rel => exact ⟨i + 1, by omega, by go_num, _, _, hn1.out⟩
        case measure => simp [intOf]; omega
      · cases ring with
        | true =>
          have hH := hide (HS.out.h.ext (Ext.new wr (.cells #[.int .i64 j] 3)))
          have RA := hide (reads_blk (m := 1) (Blk.new wr 3 #[.int .i64 j]) rfl)
          go_wp2_with (fail)
          refine (has_set W _ _ N 1 ks (ringE k true i) i _ 1 1 [(j : Int)] hH.out rfl RA.out WI.out (by intro x hx; simp at hx; rw [hx]; exact WJ.out) (by omega) (by omega) (by have := HS.out.n; omega)).mono ?_
          rintro e w3 ⟨rfl, h3, _⟩
          have hn1 : Hid (R1 W w3 (W.heap.size + 1) k true (i + 1) (N + 1) ((i : Int) :: ks)) := ⟨by rw [ringE_set hk2 hlt (.inr rfl) HJ.out] at h3; exact h3, by have := HS.out.n; omega, by have := HS.out.l; simp; omega⟩
          clear h3
          go_wp2
          go_roundw
          case rel => exact ⟨i + 1, by omega, by go_num, _, _, hn1.out⟩
          case measure => simp [intOf]; omega
        | false =>
          have hn1 : Hid (R1 W wr (W.heap.size + 1) k false (i + 1) N ks) := ⟨by rw [ringE_skip (by omega) rfl]; exact HS.out.h, by have := HS.out.n; omega, by have := HS.out.l; omega⟩
          go_wp2
          go_roundw
          case rel => exact ⟨i + 1, by omega, by go_num, _, _, hn1.out⟩
          case measure => simp [intOf]; omega
    · obtain rfl : i = k := by omega
      have HB := hide (HS.out.h.world)
      have HH := hide HS.out.h
      have hl : ks.length ≤ i := HS.out.l
      clear HS HG
      go_wp2_with (fail)
      obtain ⟨w3, hw3⟩ : ∃ w3, w3 = wr := ⟨_, rfl⟩
      subst hw3
      go_loopw [10] (fun s10 wr => (∃ j : Nat, j ≤ i ∧ s10 = .int .i64 j ∧ Hid (Ext w3 wr))) (fun s10 _ => (i - intOf s10).toNat)
      case atStart => exact ⟨0, by omega, rfl, Ext.refl _⟩
      case round =>
        obtain ⟨j, hj, rfl, hs2⟩ := hrel
        by_cases hlt : j < i
        · have WJ := hide (wf_nat (i := j) (by omega))
          have hH := hide (HH.out.ext hs2.out)
          go_wp2_with (fail)
          refine (has_cycle W _ _ N 1 ks (ringE i ring i) j hH.out WJ.out (by omega)).mono ?_
          rintro e w4 ⟨rfl, h4⟩
          rw [ring_any hk2 hlt]
          have hn1 := hide (hs2.out.trans h4)
          clear h4
          go_wp2
          go_roundw
          case rel => exact ⟨j + 1, by omega, by go_num, hn1.out⟩
          case measure => simp [intOf]; omega
        · obtain rfl : j = i := by omega
          obtain ⟨who, hwho⟩ : ∃ who, who = gn % j := ⟨_, rfl⟩
          have hwm : (gn : Int) % (j : Int) = who := by rw [hwho]; simp
          have hwl : who < j := by rw [hwho]; exact Nat.mod_lt _ (by omega)
          have hj0 : (j : Int) ≠ 0 := by omega
          have WW := hide (wf_nat (i := who) (by omega))
          have hH := hide (HH.out.ext hs2.out)
          have hwlI : (who : Int) < (j : Int) := by omega
          clear hwho hs2
          go_wp2_with (fail)
          refine (has_gone W _ _ N 1 ks (ringE j ring j) who hH.out WW.out).mono ?_
          rintro e w4 ⟨rfl, h4, _⟩
          have H4 := hide h4
          clear h4
          go_wp2_with (fail)
          obtain ⟨w5, hw5⟩ : ∃ w5, w5 = w4 := ⟨_, rfl⟩
          subst hw5
          go_loopw [11] (fun s11 wr => (∃ i : Nat, i ≤ j ∧ s11 = .int .i64 i ∧ Hid (Ext w5 wr))) (fun s11 _ => (j - intOf s11).toNat)
          case atStart => exact ⟨0, by omega, rfl, Ext.refl _⟩
          case round =>
            obtain ⟨i, hi, rfl, hs⟩ := hrel
            by_cases hlt : i < j
            · have WJ := hide (wf_nat (i := i) (by omega))
              have hH := hide (H4.out.ext hs.out)
              go_wp2_with (fail)
              refine (has_cycle W _ _ N 1 ks (goneE (ringE j ring j) who) i hH.out WJ.out (by omega)).mono ?_
              rintro e w6 ⟨rfl, h6⟩
              rw [ring_gone hwl]
              have hn1 := hide (hs.out.trans h6)
              clear h6
              go_wp2
              go_roundw
              case rel => exact ⟨i + 1, by omega, by go_num, hn1.out⟩
              case measure => simp [intOf]; omega
            · obtain rfl : i = j := by omega
              have hF := hide (BW.out.trans (H4.out.world.trans hs.out))
              go_wp2
              go_ret
              exact ⟨rfl, hF.out⟩
end Go.Proofs.Ytppffbpocmgafaa.waitRings
