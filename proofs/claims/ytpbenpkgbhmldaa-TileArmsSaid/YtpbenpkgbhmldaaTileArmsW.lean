/- TileArms: the walk. -/
import Derived.Test.YtpbenpkgbhmldaaTileArmsP
namespace Go.Proofs.Ytpbenpkgbhmldaa.tileArms
open Go.ChangeShapes Go.WideShapes Go.ChangeAt Go.RowKit Go.Maps
set_option linter.unusedVariables false

theorem full_one (w : World) : Calls Try.prog 13 #[.int .u8 1] w fun e w' => ∃ b, e = .returned (.slice (some ⟨b, 0, none⟩) 64 64) ∧ (∀ Y w'', Turn Y w' w'' → Reads w'' w''.heap.size 1 (some ⟨b, 0, none⟩) 64 (bv (rep 1))) ∧ Ext w w' := by
  refine (full_any 1 w (by decide)).mono ?_
  rintro e w' ⟨b, he, hb, _, hx⟩
  exact ⟨b, he, fun Y => reads_turn hb (arr_full 1 (by decide)) (arr_size _), hx⟩
theorem and_eq_one (z r : Nat) (hz : z < 256) : (bits .and .u8 ((z : Int) / 2 ^ r) 1 == 1) = decide (z / 2 ^ r % 2 = 1) := by
  have h1 : (z : Int) / 2 ^ r = ((z / 2 ^ r : Nat) : Int) := by simp
  have h2 : z / 2 ^ r < 256 := Nat.lt_of_le_of_lt (Nat.div_le_self _ _) hz
  rw [h1, and_one_u8 _ h2]
  rcases Nat.mod_two_eq_zero_or_one (z / 2 ^ r) with h | h <;> rw [h] <;> rfl
theorem bit_one (mm i : Nat) (hm : mm < 256) (hi : i < 8) : bit [UInt8.ofNat mm] i = decide (mm / 2 ^ i % 2 = 1) := by
  unfold bit
  have h1 : i / 8 = 0 := by omega
  have h2 : i % 8 = i := by omega
  have h3 : (UInt8.ofNat mm).toNat = mm := by simp; omega
  rw [h1, h2]
  simp [h3]
/-- what the disk is at the i-th round's head -/
def St (W : World) (k : Nat) (m : UInt8) (i : Nat) (wr : World) : Prop :=
  Ext W wr ∧ ((i ≤ k ∧ Disk (Fr W) (Fr W) wr (W.heap.size + 1) i false (TF i) (UU i) (some ((k : Int) - i, [m]))) ∨ (k < i ∧ Disk (Fr W) (Fr W) wr (W.heap.size + 1) 0 true (TE k m) (fun _ => none) none))
theorem le_fr {W w : World} (h : Ext W w) : ∀ k, w.heap.size ≤ k → Fr W k := fun k hk => Nat.le_trans h.size hk
/-- a write below the armed one -/
theorem write_below (W w : World) (k i : Nat) (m : UInt8) (b : Nat) (hi : i < k) (hk : k < 8) (hx : Ext W w) (h : Disk (Fr W) (Fr W) w (W.heap.size + 1) i false (TF i) (UU i) (some ((k : Int) - i, [m])))
    (hr : ∀ w', Turn (Fr W) w w' → Reads w' w'.heap.size 1 (some ⟨b, 0, none⟩) 64 (bv (rep 1))) :
    Calls Try.prog 12 #[.pointer (some ⟨W.heap.size + 1, 0, none⟩), .int .i64 i, .slice (some ⟨b, 0, none⟩) 64 64] w fun e w' => e = .returned (.int .i64 0) ∧ Ext W w' ∧ Disk (Fr W) (Fr W) w' (W.heap.size + 1) (i + 1) false (TF (i + 1)) (UU (i + 1)) (some ((k : Int) - ((i + 1 : Nat) : Int), [m])) := by
  refine (write_in (Fr W) (Fr W) w _ i (TF i) (UU i) (some ((k : Int) - i, [m])) i (rep 1) _ 64 h (by rw [TF_len]; omega) (by rw [TF_len]; omega) (by omega) ⟨by omega, by omega, by simp⟩ (le_fr hx) (rep_len 1) (fun h => by cases h) hr).mono ?_
  rintro e w' ⟨t, ⟨he, hn, hd⟩ | ⟨he, M, hM, hd⟩⟩
  · rw [TF_set (by omega), UU_set (by omega)] at hd
    have e2 : (k : Int) - i - 1 = (k : Int) - ((i + 1 : Nat) : Int) := by omega
    simp only [dec] at hd
    rw [e2] at hd
    exact ⟨he, t.ext hx (fun _ _ h => h), hd⟩
  · injection hM with hM
    injection hM with h1 h2
    omega
/-- the armed write -/
theorem write_at (W w : World) (k : Nat) (m : UInt8) (b : Nat) (hk : k < 8) (hx : Ext W w) (h : Disk (Fr W) (Fr W) w (W.heap.size + 1) k false (TF k) (UU k) (some ((k : Int) - k, [m])))
    (hr : ∀ w', Turn (Fr W) w w' → Reads w' w'.heap.size 1 (some ⟨b, 0, none⟩) 64 (bv (rep 1))) :
    Calls Try.prog 12 #[.pointer (some ⟨W.heap.size + 1, 0, none⟩), .int .i64 k, .slice (some ⟨b, 0, none⟩) 64 64] w fun e w' => e = .returned (.int .i64 2) ∧ Ext W w' ∧ Disk (Fr W) (Fr W) w' (W.heap.size + 1) 0 true (TE k m) (fun _ => none) none := by
  refine (write_in (Fr W) (Fr W) w _ k (TF k) (UU k) (some ((k : Int) - k, [m])) k (rep 1) _ 64 h (by rw [TF_len]; omega) (by rw [TF_len]; omega) (by omega) ⟨by omega, by omega, by simp⟩ (le_fr hx) (rep_len 1) (fun h => by cases h) hr).mono ?_
  rintro e w' ⟨t, ⟨he, hn, hd⟩ | ⟨he, M, hM, hd⟩⟩
  · exact absurd (by simp) (hn [m])
  · injection hM with hM
    injection hM with h1 h2
    subst h2
    rw [TF_set hk, UU_set hk, cr_end m hk] at hd
    exact ⟨he, t.ext hx (fun _ _ h => h), hd⟩
set_option maxRecDepth 100000 in
set_option maxHeartbeats 8000000 in
theorem walk_any (at_ mm : Nat) (w : World) (ha : at_ < 256) (hm : mm < 256) : Calls Try.prog 7 #[.int .u8 at_, .int .u8 mm] w fun e w' => e = .returned (.bool true) ∧ Ext w w' := by
  obtain ⟨k, hk⟩ : ∃ k : Nat, at_ % 8 = k := ⟨_, rfl⟩
  have e1 : (at_ : Int) % 8 = (k : Int) := by omega
  have hk1 : (k : Int) < 8 := by omega
  have hk0 : (0 : Int) ≤ (k : Int) := by omega
  have ha1 : (at_ : Int) < 256 := by omega
  have hm1 : (mm : Int) < 256 := by omega
  have HM := hide hm
  obtain ⟨m, hmm⟩ : ∃ m, m = UInt8.ofNat mm := ⟨_, rfl⟩
  have HMM := hide hmm
  have HK := hide (show k < 8 by omega)
  have HB := hide (show [Value.int .u8 (mm : Int)] = bv [m] by rw [hmm]; simp [bv]; omega)
  clear hk hmm hm ha
  go_enter Try.func7, Try.ntmps7
  go_wp2_with (go_at_call 10; refine (begun_any _).mono ?_; rintro e W ⟨rfl, b1⟩)
  refine (new_any 8 8 8 W (by decide) (by decide)).mono ?_
  rintro e wa ⟨rfl, ha, xa⟩
  have BW := hide b1
  have HA := hide ha
  have XA := hide xa
  clear ha xa b1
  go_wp2_with (fail)
  have XA2 := hide (XA.out.alloc (.cells #[.int .u8 (mm : Int)] 5))
  refine (arm_any (Fr W) (Fr W) _ _ 0 false (blanks 8) (fun _ => none) none (k : Int) [m] _ 1 1 (HA.out.ext (Ext.new wa _)) rfl (by omega) (fun h => by cases h) (reads_turn (Blk.new wa 5 #[.int .u8 (mm : Int)]) (by rw [← HB.out]) rfl) (le_fr XA2.out) (le_fr XA2.out)).mono ?_
  rintro e w3 ⟨rfl, h3, t3⟩
  have H3 := hide (show St W k m 0 w3 from ⟨t3.ext XA2.out (fun _ _ h => h), .inl ⟨Nat.zero_le _, by
    have e : armed (k : Int) [m] = some ((k : Int) - ((0 : Nat) : Int), [m]) := by unfold armed; rw [if_neg (by omega)]; simp
    rw [e] at h3
    rw [TF_zero, UU_zero]
    exact h3⟩⟩)
  clear h3 t3 XA XA2 HA
  go_wp2_with (fail)
  go_loopw [7, 8, 9] (fun s7 _ _ wr => (∃ i : Nat, i ≤ 8 ∧ s7 = .int .i64 i ∧ Hid (St W k m i wr))) (fun s7 _ _ _ => (8 - intOf s7).toNat)
  case atStart => exact ⟨0, by omega, rfl, H3.out⟩
  case round =>
    obtain ⟨i, hi, rfl, hs⟩ := hrel
    by_cases hlt : i < 8
    · have hi8 : (i : Int) < 8 := by omega
      go_wp2_with (fail)
      refine (full_one _).mono ?_
      rintro e w4 ⟨b4, rfl, r4, x4⟩
      have R4 := hide r4
      obtain ⟨X4, hd⟩ : Ext W w4 ∧ _ := ⟨hs.out.1.trans x4, hs.out.2⟩
      have XX := hide X4
      have X4' := hide x4
      clear r4 x4 X4
      have hthree : (i < k ∧ Hid (Disk (Fr W) (Fr W) w4 (W.heap.size + 1) i false (TF i) (UU i) (some ((k : Int) - i, [m])))) ∨ (i = k ∧ Hid (Disk (Fr W) (Fr W) w4 (W.heap.size + 1) k false (TF k) (UU k) (some ((k : Int) - k, [m])))) ∨ (k < i ∧ Hid (Disk (Fr W) (Fr W) w4 (W.heap.size + 1) 0 true (TE k m) (fun _ => none) none)) := by
        rcases hd with ⟨hik, hd⟩ | ⟨hki, hd⟩
        · by_cases e : i = k
          · subst e; exact .inr (.inl ⟨rfl, hd.ext X4'.out⟩)
          · exact .inl ⟨by omega, hd.ext X4'.out⟩
        · exact .inr (.inr ⟨hki, hd.ext X4'.out⟩)
      clear hd
      rcases hthree with ⟨hik, HD⟩ | ⟨rfl, HD⟩ | ⟨hki, HD⟩
      · have hi1 : (i : Int) < (k : Int) := by omega
        go_wp2_with (fail)
        refine (write_below W w4 k i m b4 hik HK.out XX.out HD.out (R4.out _)).mono ?_
        rintro e w5 ⟨rfl, x5, h5⟩
        have H5 := hide h5
        have X5 := hide x5
        clear h5 x5 HD hik
        go_wp2_with (fail)
        refine (full_one _).mono ?_
        rintro e w6 ⟨b6, rfl, r6, x6⟩
        have H6 := hide (H5.out.ext x6)
        have X6 := hide (X5.out.trans x6)
        clear r6 x6 H5 X5
        go_wp2_with (fail)
        refine (write_out (Fr W) (Fr W) w6 _ _ _ _ _ 99 _ 64 64 H6.out (.inr (by rw [TF_len]; omega))).mono ?_
        rintro e w' ⟨rfl, rfl⟩
        go_wp2_with (fail)
        refine (write_len (Fr W) (Fr W) w6 _ _ _ _ _ 0 none 0 0 H6.out (by rw [TF_len]; omega) (by decide)).mono ?_
        rintro e w' ⟨rfl, rfl⟩
        go_wp2_with (fail)
        go_roundw
        case rel => exact ⟨i + 1, by omega, by go_num, X6.out, .inl ⟨by omega, H6.out⟩⟩
        case measure => simp [intOf]; omega
      · go_wp2_with (fail)
        refine (write_at W w4 i m b4 HK.out XX.out HD.out (R4.out _)).mono ?_
        rintro e w5 ⟨rfl, x5, h5⟩
        have H5 := hide h5
        have X5 := hide x5
        clear h5 x5 HD
        go_wp2_with (fail)
        refine (full_one _).mono ?_
        rintro e w6 ⟨b6, rfl, r6, x6⟩
        have H6 := hide (H5.out.ext x6)
        have X6 := hide (X5.out.trans x6)
        clear r6 x6 H5 X5
        go_wp2_with (fail)
        refine (write_dead (Fr W) (Fr W) w6 _ _ _ _ _ 99 _ 64 64 H6.out).mono ?_
        rintro e w' ⟨rfl, rfl⟩
        go_wp2_with (fail)
        refine (write_dead (Fr W) (Fr W) w6 _ _ _ _ _ 0 none 0 0 H6.out).mono ?_
        rintro e w' ⟨rfl, rfl⟩
        go_wp2_with (fail)
        go_roundw
        case rel => exact ⟨i + 1, by omega, by go_num, X6.out, .inr ⟨by omega, H6.out⟩⟩
        case measure => simp [intOf]; omega
      · have hi1 : (k : Int) < (i : Int) := by omega
        go_wp2_with (fail)
        refine (write_dead (Fr W) (Fr W) w4 _ _ _ _ _ (i : Int) _ 64 64 HD.out).mono ?_
        rintro e w' ⟨rfl, rfl⟩
        go_wp2_with (fail)
        refine (full_one _).mono ?_
        rintro e w6 ⟨b6, rfl, r6, x6⟩
        have H6 := hide (HD.out.ext x6)
        have X6 := hide (XX.out.trans x6)
        clear r6 x6 HD XX
        go_wp2_with (fail)
        refine (write_dead (Fr W) (Fr W) w6 _ _ _ _ _ 99 _ 64 64 H6.out).mono ?_
        rintro e w' ⟨rfl, rfl⟩
        go_wp2_with (fail)
        refine (write_dead (Fr W) (Fr W) w6 _ _ _ _ _ 0 none 0 0 H6.out).mono ?_
        rintro e w' ⟨rfl, rfl⟩
        go_wp2_with (fail)
        go_roundw
        case rel => exact ⟨i + 1, by omega, by go_num, X6.out, .inr ⟨by omega, H6.out⟩⟩
        case measure => simp [intOf]; omega
    · obtain rfl : i = 8 := by omega
      have hd : Hid (Disk (Fr W) (Fr W) wr (W.heap.size + 1) 0 true (TE k m) (fun _ => none) none) := by
        rcases hs.out.2 with ⟨hik, _⟩ | ⟨_, hd⟩
        · have := HK.out; omega
        · exact hd
      have X0 := hide hs.out.1
      clear hs hlt
      go_wp2_with (fail)
      refine (power_any (Fr W) (Fr W) wr _ 0 true _ _ none hd.out).mono ?_
      rintro e w1 ⟨rfl, h1, t1⟩
      have D1 := hide h1
      have X1 := hide (t1.ext X0.out (fun _ _ h => h))
      clear h1 t1 hd X0
      go_wp2_with (fail)
      go_loopw [10, 11, 12, 13] (fun s10 _ _ _ wr => (∃ i : Nat, i ≤ 8 ∧ s10 = .int .i64 i ∧ Hid (Ext w1 wr))) (fun s10 _ _ _ _ => (8 - intOf s10).toNat)
      case atStart => exact ⟨0, by omega, rfl, Ext.refl _⟩
      case round =>
        obtain ⟨i, hi, rfl, hs⟩ := hrel
        by_cases hlt : i < 8
        · have hi8 : (i : Int) < 8 := by omega
          have hi0 : (0 : Int) ≤ (i : Int) := by omega
          obtain ⟨q, l, hq, hl, hg⟩ : ∃ (q : Bool) (l : List UInt8), q = decide (i ≤ k ∧ bit [m] i = true) ∧ l = (if q then rep 1 else rep 0) ∧ (TE k m)[i]? = some l := by
            refine ⟨_, _, rfl, rfl, ?_⟩
            rw [TE_get, if_pos hlt]
            by_cases h : i ≤ k ∧ bit [m] i = true
            · rw [if_pos h]; simp [h]
            · rw [if_neg h]; simp [h]
          have D2 := hide (D1.out.ext hs.out)
          have HQ := hide hq
          have HL := hide hl
          have HG := hide hg
          have hba := and_eq_one mm i HM.out
          rw [← bit_one mm i HM.out hlt, ← HMM.out] at hba
          clear hq hl hg
          have fin : ∀ (c : Nat), c < 256 → l = rep (UInt8.ofNat c) → Calls Try.prog 17 #[.pointer (some ⟨W.heap.size + 1, 0, none⟩), .int .i64 i] wr fun e w' => ∃ b c', e = .returned (.tuple #[.slice (some ⟨b, 0, none⟩) 64 c', .int .i64 0]) ∧ w'.cell? ⟨b, 0, none⟩ = some (.int .u8 (c : Int)) ∧ Ext wr w' := by
            intro c hc hl
            refine (read_in (Fr W) (Fr W) wr _ 0 _ _ none i l D2.out HG.out).mono ?_
            rintro e w2 ⟨A2, c2, rfl, _, o2, x2⟩
            obtain ⟨b2, rfl, _, y2⟩ := row_at o2
            refine ⟨b2, c2, rfl, ?_, x2⟩
            have y := y2 0 (UInt8.ofNat c) (by rw [hl]; exact rep_at _ (by decide))
            rw [y]
            simp
            omega
          have FIN := hide fin
          clear fin
          cases q with
          | true =>
            have hl1 := HL.out
            simp only [if_true] at hl1
            have hc := hide (FIN.out 1 (by decide) hl1)
            have hqq := HQ.out
            simp only [Bool.true_eq, decide_eq_true_eq] at hqq
            have hik : (i : Int) ≤ (k : Int) := by omega
            rw [hqq.2] at hba
            clear hl1 hqq
            go_wp2_with (fail)
            refine hc.out.mono ?_
            rintro e w2 ⟨b2, c2, rfl, y2, x2⟩
            simp at y2
            have X2 := hide (hs.out.trans x2)
            clear x2
            go_wp2_with (fail)
            go_roundw
            case rel => exact ⟨i + 1, by omega, by go_num, X2.out⟩
            case measure => simp [intOf]; omega
          | false =>
            have hl1 := HL.out
            simp only [Bool.false_eq_true, if_false] at hl1
            have hc := hide (FIN.out 0 (by decide) hl1)
            have hqq := HQ.out
            simp only [Bool.false_eq, decide_eq_false_iff_not, not_and] at hqq
            clear hl1
            by_cases hik : i ≤ k
            · have hik2 : (i : Int) ≤ (k : Int) := by omega
              have hb0 : bit [m] i = false := by have := hqq hik; simpa using this
              rw [hb0] at hba
              clear hqq hb0 hik
              go_wp2_with (fail)
              refine hc.out.mono ?_
              rintro e w2 ⟨b2, c2, rfl, y2, x2⟩
              simp at y2
              have X2 := hide (hs.out.trans x2)
              clear x2
              go_wp2_with (fail)
              go_roundw
              case rel => exact ⟨i + 1, by omega, by go_num, X2.out⟩
              case measure => simp [intOf]; omega
            · have hik2 : (k : Int) < (i : Int) := by omega
              clear hqq hik hba
              go_wp2_with (fail)
              refine hc.out.mono ?_
              rintro e w2 ⟨b2, c2, rfl, y2, x2⟩
              simp at y2
              have X2 := hide (hs.out.trans x2)
              clear x2
              go_wp2_with (fail)
              go_roundw
              case rel => exact ⟨i + 1, by omega, by go_num, X2.out⟩
              case measure => simp [intOf]; omega
        · obtain rfl : i = 8 := by omega
          have D2 := hide (D1.out.ext hs.out)
          have X2 := hide (X1.out.trans hs.out)
          have HC := hide (show cnt (fun _ => none) (TE k m).length = 0 by rw [TE_len]; rfl)
          clear hs hlt
          go_wp2_with (fail)
          refine (loose_to (Fr W) (Fr W) wr _ 0 false (TE k m) _ none D2.out (by omega)).mono ?_
          rw [HC.out]
          rintro e w2 ⟨A2, c2, rfl, _, x2⟩
          go_wp2_with (fail)
          go_ret
          exact ⟨rfl, (BW.out.trans X2.out).trans x2⟩
end Go.Proofs.Ytpbenpkgbhmldaa.tileArms
