/- ModelBad: the walk. -/
import Derived.Test.YtjjilaanlhpogaaModelG
namespace Go.Proofs.Ytjjilaanlhpogaa.modelBad
open Go.ChangeShapes Go.WideShapes Go.ChangeAt Go.RowKit Go.Maps Go.MapKept Go.Sort
set_option linter.unusedVariables false

theorem field0 (x : Int) (A : Option Addr) (n c : Nat) (w : World) : (Instr.field 37 (.agg #[.int .i64 x, .slice A n c]) 0).run Try.prog w = .ok (.int .i64 x) w := by kernel_rfl
/-- what a first step does to an empty table -/
theorem do_first (W w : World) (g m : Nat) (kind t n : Int) (r : Rw) (A : Option Addr) (l c : Nat) (h : Md W w g m 0 (fun _ => none)) (hz : Rz r) :
    Calls Try.prog 10 #[.pointer (some ⟨g, 0, none⟩), stv kind t n r A l c] w fun e w' => ∃ (x : Int) (A2 : Option Addr) (n2 c2 : Nat) (f : ByteArray → Option Rw) (N : Nat), e = .returned (.agg #[.int .i64 x, .slice A2 n2 c2]) ∧ (x != 1) = mayS kind r ∧ N ≤ 1 ∧ Md W w' g m N f ∧ (∀ L, Keys f L → ((rowsL f L).filter fun _ => true).length = if mayS kind r = true ∧ kind = 3 then 1 else 0) ∧ (∀ k t cs, Blk w k t cs → t ≠ 52 → Blk w' k t cs) := by
  have none0 : ∀ L, Keys (fun _ => none) L → ((rowsL (fun _ => none) L).filter fun _ => true).length = 0 := fun L hL => by
    rw [keys_none (fun _ => rfl) hL]; rfl
  cases hm : mayS kind r with
  | false =>
    refine (do_bad w g kind t n r A l c hz hm).mono ?_
    rintro e w' ⟨rfl, hx⟩
    exact ⟨1, _, _, _, _, 0, rfl, rfl, Nat.zero_le _, h.ex hx, fun L hL => by rw [none0 L hL]; simp, fun k t cs hk _ => hx.blk hk⟩
  | true =>
    have hk : kind = 3 ∨ kind = 4 ∨ kind = 2 ∨ kind = 5 ∨ kind = 6 ∨ kind = 7 := by
      unfold mayS at hm
      by_cases a : kind = 3 ∨ kind = 4
      · omega
      · rw [if_neg a] at hm
        by_cases b : kind = 2 ∨ kind = 5
        · omega
        · rw [if_neg b] at hm
          by_cases c : kind = 6
          · omega
          · rw [if_neg c] at hm
            by_cases d : kind = 7
            · omega
            · rw [if_neg d] at hm; cases hm
    rcases hk with rfl | rfl | rfl | rfl | rfl | rfl
    · refine (do_put W w g m 0 _ t n r A l c h (by decide) hz hm rfl).mono ?_
      rintro e w' ⟨rfl, hd, hb⟩
      exact ⟨0, _, _, _, _, 1, rfl, rfl, Nat.le_refl _, hd, fun L hL => by rw [(keys_one (f := putR (fun _ => none) r.k (some r)) (r := r) (fun x => rfl) hL).2]; simp, hb⟩
    · refine (do_upd_none W w g m 0 _ t n r A l c h (by decide) hz hm rfl).mono ?_
      rintro e w' ⟨rfl, hx⟩
      exact ⟨9, _, _, _, _, 0, rfl, rfl, Nat.zero_le _, h.ex hx, fun L hL => by rw [none0 L hL]; simp, fun k t cs hk _ => hx.blk hk⟩
    · refine (do_get_none W w g m 0 _ t n r A l c h (by decide) hz hm rfl).mono ?_
      rintro e w' ⟨rfl, hx⟩
      exact ⟨9, _, _, _, _, 0, rfl, rfl, Nat.zero_le _, h.ex hx, fun L hL => by rw [none0 L hL]; simp, fun k t cs hk _ => hx.blk hk⟩
    · refine (do_del_none W w g m 0 _ t n r A l c h (by decide) hz hm rfl).mono ?_
      rintro e w' ⟨rfl, hx⟩
      exact ⟨9, _, _, _, _, 0, rfl, rfl, Nat.zero_le _, h.ex hx, fun L hL => by rw [none0 L hL]; simp, fun k t cs hk _ => hx.blk hk⟩
    · refine (do_scan W w g m 0 _ t n r A l c h (by decide) hz hm).mono ?_
      rintro e w' ⟨L, hL, _, A2, c2, rfl, _, hx⟩
      exact ⟨0, _, _, _, _, 0, rfl, rfl, Nat.zero_le _, h.ex hx, fun L hL => by rw [none0 L hL]; simp, fun k t cs hk _ => hx.blk hk⟩
    · refine (do_seek W w g m 0 _ t n r A l c h (by decide) hz hm).mono ?_
      rintro e w' ⟨L, hL, _, A2, c2, rfl, _, hx⟩
      exact ⟨0, _, _, _, _, 0, rfl, rfl, Nat.zero_le _, h.ex hx, fun L hL => by rw [none0 L hL]; simp, fun k t cs hk _ => hx.blk hk⟩
theorem may3 (k s v : ByteArray) : mayS 3 ⟨k, s, v⟩ = decide (0 < k.size ∧ k.size ≤ 8 ∧ s.size ≤ 6 ∧ v.size ≤ 8) := by simp [mayS, mayR]
theorem may4 (k s v : ByteArray) : mayS 4 ⟨k, s, v⟩ = decide (0 < k.size ∧ k.size ≤ 8 ∧ s.size ≤ 6 ∧ v.size ≤ 8) := by simp [mayS, mayR]
theorem may2 (k s v : ByteArray) : mayS 2 ⟨k, s, v⟩ = decide (0 < k.size ∧ k.size ≤ 8) := by simp only [mayS]; rfl
theorem may5 (k s v : ByteArray) : mayS 5 ⟨k, s, v⟩ = decide (0 < k.size ∧ k.size ≤ 8) := by simp only [mayS]; rfl
theorem may6 (k s v : ByteArray) : mayS 6 ⟨k, s, v⟩ = decide (k.size ≤ 8) := by simp only [mayS]; rfl
theorem may7 (k s v : ByteArray) : mayS 7 ⟨k, s, v⟩ = decide (s.size ≤ 6) := by simp only [mayS]; rfl
theorem mayn {kind : Int} (k s v : ByteArray) (h : kind ≠ 3 ∧ kind ≠ 4 ∧ kind ≠ 2 ∧ kind ≠ 5 ∧ kind ≠ 6 ∧ kind ≠ 7) : mayS kind ⟨k, s, v⟩ = false := by
  obtain ⟨h3, h4, h2, h5, h6, h7⟩ := h
  simp [mayS, h3, h4, h2, h5, h6, h7]
set_option maxRecDepth 1000000 in
set_option maxHeartbeats 8000000 in
theorem walk_short (kind t n : Int) (r : Rw) (A : Option Addr) (l c : Nat) (w : World) (h1 : r.k.size ≤ 20) (h2 : r.s.size ≤ 20) (h3 : r.v.size ≤ 20) :
    Calls Try.prog 6 #[stv kind t n r A l c] w fun e w' => e = .returned (.bool true) ∧ Ext w w' := by
  have HRZ := hide (show Rz r by unfold Rz maxLen; omega)
  obtain ⟨k, s, v⟩ := r
  obtain ⟨wt, hwt⟩ : ∃ wt, wt = mayS kind ⟨k, s, v⟩ := ⟨_, rfl⟩
  have HWT := hide hwt
  simp only at h1 h2 h3
  have d1 : decide ((20 : Int) < (k.size : Int)) = false := decide_eq_false (by omega)
  have d2 : decide ((20 : Int) < (s.size : Int)) = false := decide_eq_false (by omega)
  have d3 : decide ((20 : Int) < (v.size : Int)) = false := decide_eq_false (by omega)
  have H1 := hide h1
  have H2 := hide h2
  have H3 := hide h3
  clear h1 h2 h3 hwt
  simp only [stv]
  have three : (k.size = 0 ∧ Hid (k.size = 0)) ∨ (0 < k.size ∧ k.size ≤ 8) ∨ 8 < k.size := by
    by_cases h0 : k.size = 0
    · exact .inl ⟨h0, h0⟩
    · omega
  rcases three with ⟨h0, hk0⟩ | ⟨hk0, hk8⟩ | hk8
  · have e1 : decide ((k.size : Int) ≤ 8) = true := decide_eq_true (by omega)
    have e2 : decide ((0 : Int) < (k.size : Int)) = false := decide_eq_false (by omega)
    have e3 : decide (0 < k.size) = false := decide_eq_false (by omega)
    have HK := hk0
    clear h0 hk0
    go_enter Try.func6, Try.ntmps6
    go_upto_block 0 with (go_at_call 7; refine (begun_any _).mono ?_; rintro e w1 ⟨rfl, b1⟩; have B1 := hide (b1.blk (Blk.new w 34 #[.int .i64 kind, .int .i64 t, .int .i64 n, .string k, .string s, .string v, .slice A l c])); have X1 := hide ((Ext.new w _).trans b1); have y0 := B1.out.cell 0; have y3 := B1.out.cell 3; have y4 := B1.out.cell 4; have y5 := B1.out.cell 5; simp at y0 y3 y4 y5; clear b1)
    go_cut [5] (fun s5 wx => s5 = .bool wt ∧ w1 = wx)
    case first =>
      have hne : kind = 3 ∨ kind = 4 ∨ kind = 2 ∨ kind = 5 ∨ kind = 6 ∨ kind = 7 ∨ (kind ≠ 3 ∧ kind ≠ 4 ∧ kind ≠ 2 ∧ kind ≠ 5 ∧ kind ≠ 6 ∧ kind ≠ 7) := by omega
      rcases hne with rfl | rfl | rfl | rfl | rfl | rfl | hne
      · go_wp2_with (fail)
        all_goals
          go_meet
          case rel => exact ⟨congrArg Value.bool (by have hK := HK.out; rw [HWT.out, may3]; first | exact (decide_eq_true (by omega)).symm | exact (decide_eq_false (by omega)).symm | (rw [Bool.eq_iff_iff]; simp only [decide_eq_true_eq]; omega)), rfl⟩
      · go_wp2_with (fail)
        all_goals
          go_meet
          case rel => exact ⟨congrArg Value.bool (by have hK := HK.out; rw [HWT.out, may4]; first | exact (decide_eq_true (by omega)).symm | exact (decide_eq_false (by omega)).symm | (rw [Bool.eq_iff_iff]; simp only [decide_eq_true_eq]; omega)), rfl⟩
      · go_wp2_with (fail)
        all_goals
          go_meet
          case rel => exact ⟨congrArg Value.bool (by have hK := HK.out; rw [HWT.out, may2]; first | exact (decide_eq_true (by omega)).symm | exact (decide_eq_false (by omega)).symm | (rw [Bool.eq_iff_iff]; simp only [decide_eq_true_eq]; omega)), rfl⟩
      · go_wp2_with (fail)
        all_goals
          go_meet
          case rel => exact ⟨congrArg Value.bool (by have hK := HK.out; rw [HWT.out, may5]; first | exact (decide_eq_true (by omega)).symm | exact (decide_eq_false (by omega)).symm | (rw [Bool.eq_iff_iff]; simp only [decide_eq_true_eq]; omega)), rfl⟩
      · go_wp2_with (fail)
        all_goals
          go_meet
          case rel => exact ⟨congrArg Value.bool (by have hK := HK.out; rw [HWT.out, may6]; first | exact (decide_eq_true (by omega)).symm | exact (decide_eq_false (by omega)).symm | (rw [Bool.eq_iff_iff]; simp only [decide_eq_true_eq]; omega)), rfl⟩
      · go_wp2_with (fail)
        all_goals
          go_meet
          case rel => exact ⟨congrArg Value.bool (by have hK := HK.out; rw [HWT.out, may7]; first | exact (decide_eq_true (by omega)).symm | exact (decide_eq_false (by omega)).symm | (rw [Bool.eq_iff_iff]; simp only [decide_eq_true_eq]; omega)), rfl⟩
      · have HN := hide hne
        have b3 : (kind == 3) = false := by simpa using hne.1
        have b4 : (kind == 4) = false := by simpa using hne.2.1
        have b2 : (kind == 2) = false := by simpa using hne.2.2.1
        have b5 : (kind == 5) = false := by simpa using hne.2.2.2.1
        have b6 : (kind == 6) = false := by simpa using hne.2.2.2.2.1
        have b7 : (kind == 7) = false := by simpa using hne.2.2.2.2.2
        clear hne
        go_wp2_with (fail)
        go_meet
        case rel => exact ⟨congrArg Value.bool (by rw [HWT.out, mayn k s v HN.out]), rfl⟩
    case rest =>
      obtain ⟨rfl, rfl⟩ := hcut
      have y1 := B1.out.cell 1
      have y2 := B1.out.cell 2
      have y6 := B1.out.cell 6
      simp at y1 y2 y6
      go_wp2_with (go_at_call 8; refine (new_any _).mono ?_; rintro e w2 ⟨rfl, m2⟩; have M2 := hide m2; have B2 := hide (m2.ext.blk B1.out); have z0 := B2.out.cell 0; have z1 := B2.out.cell 1; have z2 := B2.out.cell 2; have z3 := B2.out.cell 3; have z4 := B2.out.cell 4; have z5 := B2.out.cell 5; have z6 := B2.out.cell 6; simp at z0 z1 z2 z3 z4 z5 z6; clear m2)
      refine (do_first w1 w2 _ _ kind t n ⟨k, s, v⟩ A l c M2.out HRZ.out).mono ?_
      rintro e w3 ⟨x, A8, n8, c8, f, N, rfl, hx, hN, hm, hrows, hblk⟩
      rw [← HWT.out] at hx
      have HROWS := hide hrows
      have HMD := hide hm
      have HN := hide hN
      have u0 := (hblk _ _ _ B2.out (by decide)).cell 0
      have HB3 := hide (hblk _ _ _ B2.out (by decide))
      simp at u0
      clear hrows hm hN hblk
      have hfd := field0 x A8 n8 c8
      go_wp2_with (fail)
      refine (rows_any w1 w3 _ _ N f HMD.out (by have := HN.out; omega)).mono ?_
      rintro e w4 ⟨v4, L, rfl, hK, hL, ho, hx4⟩
      obtain ⟨A5, c5, hv5, _⟩ := own_form ho
      subst hv5
      rw [HROWS.out L hK, ← HWT.out]
      have u4 := (hx4.blk HB3.out).cell 0
      simp at u4
      have X4 := hide (X1.out.trans (HMD.out.ext.trans hx4))
      clear hK hL ho hx4
      by_cases h3 : kind = 3
      · subst h3
        cases wt with
        | true =>
          simp only [and_self, if_true]
          go_wp2_with (fail)
          go_ret
          exact ⟨rfl, X4.out⟩
        | false =>
          simp only [Bool.false_eq_true, false_and, if_false]
          go_wp2_with (fail)
          go_ret
          exact ⟨rfl, X4.out⟩
      · have b3 : (kind == 3) = false := by simpa using h3
        rw [if_neg (fun e => h3 e.2)]
        clear h3
        cases wt with
        | true =>
          go_wp2_with (fail)
          go_ret
          exact ⟨rfl, X4.out⟩
        | false =>
          go_wp2_with (fail)
          go_ret
          exact ⟨rfl, X4.out⟩
  · have e1 : decide ((k.size : Int) ≤ 8) = true := decide_eq_true (by omega)
    have e2 : decide ((0 : Int) < (k.size : Int)) = true := decide_eq_true (by omega)
    have e3 : decide (0 < k.size) = true := decide_eq_true (by omega)
    have HK := hide (And.intro hk0 hk8)
    clear hk0 hk8
    go_enter Try.func6, Try.ntmps6
    go_upto_block 0 with (go_at_call 7; refine (begun_any _).mono ?_; rintro e w1 ⟨rfl, b1⟩; have B1 := hide (b1.blk (Blk.new w 34 #[.int .i64 kind, .int .i64 t, .int .i64 n, .string k, .string s, .string v, .slice A l c])); have X1 := hide ((Ext.new w _).trans b1); have y0 := B1.out.cell 0; have y3 := B1.out.cell 3; have y4 := B1.out.cell 4; have y5 := B1.out.cell 5; simp at y0 y3 y4 y5; clear b1)
    go_cut [5] (fun s5 wx => s5 = .bool wt ∧ w1 = wx)
    case first =>
      have hne : kind = 3 ∨ kind = 4 ∨ kind = 2 ∨ kind = 5 ∨ kind = 6 ∨ kind = 7 ∨ (kind ≠ 3 ∧ kind ≠ 4 ∧ kind ≠ 2 ∧ kind ≠ 5 ∧ kind ≠ 6 ∧ kind ≠ 7) := by omega
      rcases hne with rfl | rfl | rfl | rfl | rfl | rfl | hne
      · go_wp2_with (fail)
        all_goals
          go_meet
          case rel => exact ⟨congrArg Value.bool (by have hK := HK.out; rw [HWT.out, may3]; first | exact (decide_eq_true (by omega)).symm | exact (decide_eq_false (by omega)).symm | (rw [Bool.eq_iff_iff]; simp only [decide_eq_true_eq]; omega)), rfl⟩
      · go_wp2_with (fail)
        all_goals
          go_meet
          case rel => exact ⟨congrArg Value.bool (by have hK := HK.out; rw [HWT.out, may4]; first | exact (decide_eq_true (by omega)).symm | exact (decide_eq_false (by omega)).symm | (rw [Bool.eq_iff_iff]; simp only [decide_eq_true_eq]; omega)), rfl⟩
      · go_wp2_with (fail)
        all_goals
          go_meet
          case rel => exact ⟨congrArg Value.bool (by have hK := HK.out; rw [HWT.out, may2]; first | exact (decide_eq_true (by omega)).symm | exact (decide_eq_false (by omega)).symm | (rw [Bool.eq_iff_iff]; simp only [decide_eq_true_eq]; omega)), rfl⟩
      · go_wp2_with (fail)
        all_goals
          go_meet
          case rel => exact ⟨congrArg Value.bool (by have hK := HK.out; rw [HWT.out, may5]; first | exact (decide_eq_true (by omega)).symm | exact (decide_eq_false (by omega)).symm | (rw [Bool.eq_iff_iff]; simp only [decide_eq_true_eq]; omega)), rfl⟩
      · go_wp2_with (fail)
        all_goals
          go_meet
          case rel => exact ⟨congrArg Value.bool (by have hK := HK.out; rw [HWT.out, may6]; first | exact (decide_eq_true (by omega)).symm | exact (decide_eq_false (by omega)).symm | (rw [Bool.eq_iff_iff]; simp only [decide_eq_true_eq]; omega)), rfl⟩
      · go_wp2_with (fail)
        all_goals
          go_meet
          case rel => exact ⟨congrArg Value.bool (by have hK := HK.out; rw [HWT.out, may7]; first | exact (decide_eq_true (by omega)).symm | exact (decide_eq_false (by omega)).symm | (rw [Bool.eq_iff_iff]; simp only [decide_eq_true_eq]; omega)), rfl⟩
      · have HN := hide hne
        have b3 : (kind == 3) = false := by simpa using hne.1
        have b4 : (kind == 4) = false := by simpa using hne.2.1
        have b2 : (kind == 2) = false := by simpa using hne.2.2.1
        have b5 : (kind == 5) = false := by simpa using hne.2.2.2.1
        have b6 : (kind == 6) = false := by simpa using hne.2.2.2.2.1
        have b7 : (kind == 7) = false := by simpa using hne.2.2.2.2.2
        clear hne
        go_wp2_with (fail)
        go_meet
        case rel => exact ⟨congrArg Value.bool (by rw [HWT.out, mayn k s v HN.out]), rfl⟩
    case rest =>
      obtain ⟨rfl, rfl⟩ := hcut
      have y1 := B1.out.cell 1
      have y2 := B1.out.cell 2
      have y6 := B1.out.cell 6
      simp at y1 y2 y6
      go_wp2_with (go_at_call 8; refine (new_any _).mono ?_; rintro e w2 ⟨rfl, m2⟩; have M2 := hide m2; have B2 := hide (m2.ext.blk B1.out); have z0 := B2.out.cell 0; have z1 := B2.out.cell 1; have z2 := B2.out.cell 2; have z3 := B2.out.cell 3; have z4 := B2.out.cell 4; have z5 := B2.out.cell 5; have z6 := B2.out.cell 6; simp at z0 z1 z2 z3 z4 z5 z6; clear m2)
      refine (do_first w1 w2 _ _ kind t n ⟨k, s, v⟩ A l c M2.out HRZ.out).mono ?_
      rintro e w3 ⟨x, A8, n8, c8, f, N, rfl, hx, hN, hm, hrows, hblk⟩
      rw [← HWT.out] at hx
      have HROWS := hide hrows
      have HMD := hide hm
      have HN := hide hN
      have u0 := (hblk _ _ _ B2.out (by decide)).cell 0
      have HB3 := hide (hblk _ _ _ B2.out (by decide))
      simp at u0
      clear hrows hm hN hblk
      have hfd := field0 x A8 n8 c8
      go_wp2_with (fail)
      refine (rows_any w1 w3 _ _ N f HMD.out (by have := HN.out; omega)).mono ?_
      rintro e w4 ⟨v4, L, rfl, hK, hL, ho, hx4⟩
      obtain ⟨A5, c5, hv5, _⟩ := own_form ho
      subst hv5
      rw [HROWS.out L hK, ← HWT.out]
      have u4 := (hx4.blk HB3.out).cell 0
      simp at u4
      have X4 := hide (X1.out.trans (HMD.out.ext.trans hx4))
      clear hK hL ho hx4
      by_cases h3 : kind = 3
      · subst h3
        cases wt with
        | true =>
          simp only [and_self, if_true]
          go_wp2_with (fail)
          go_ret
          exact ⟨rfl, X4.out⟩
        | false =>
          simp only [Bool.false_eq_true, false_and, if_false]
          go_wp2_with (fail)
          go_ret
          exact ⟨rfl, X4.out⟩
      · have b3 : (kind == 3) = false := by simpa using h3
        rw [if_neg (fun e => h3 e.2)]
        clear h3
        cases wt with
        | true =>
          go_wp2_with (fail)
          go_ret
          exact ⟨rfl, X4.out⟩
        | false =>
          go_wp2_with (fail)
          go_ret
          exact ⟨rfl, X4.out⟩
  · have e1 : decide ((k.size : Int) ≤ 8) = false := decide_eq_false (by omega)
    have HK := hide hk8
    clear hk8
    go_enter Try.func6, Try.ntmps6
    go_upto_block 0 with (go_at_call 7; refine (begun_any _).mono ?_; rintro e w1 ⟨rfl, b1⟩; have B1 := hide (b1.blk (Blk.new w 34 #[.int .i64 kind, .int .i64 t, .int .i64 n, .string k, .string s, .string v, .slice A l c])); have X1 := hide ((Ext.new w _).trans b1); have y0 := B1.out.cell 0; have y3 := B1.out.cell 3; have y4 := B1.out.cell 4; have y5 := B1.out.cell 5; simp at y0 y3 y4 y5; clear b1)
    go_cut [5] (fun s5 wx => s5 = .bool wt ∧ w1 = wx)
    case first =>
      have hne : kind = 3 ∨ kind = 4 ∨ kind = 2 ∨ kind = 5 ∨ kind = 6 ∨ kind = 7 ∨ (kind ≠ 3 ∧ kind ≠ 4 ∧ kind ≠ 2 ∧ kind ≠ 5 ∧ kind ≠ 6 ∧ kind ≠ 7) := by omega
      rcases hne with rfl | rfl | rfl | rfl | rfl | rfl | hne
      · go_wp2_with (fail)
        all_goals
          go_meet
          case rel => exact ⟨congrArg Value.bool (by have hK := HK.out; rw [HWT.out, may3]; first | exact (decide_eq_true (by omega)).symm | exact (decide_eq_false (by omega)).symm | (rw [Bool.eq_iff_iff]; simp only [decide_eq_true_eq]; omega)), rfl⟩
      · go_wp2_with (fail)
        all_goals
          go_meet
          case rel => exact ⟨congrArg Value.bool (by have hK := HK.out; rw [HWT.out, may4]; first | exact (decide_eq_true (by omega)).symm | exact (decide_eq_false (by omega)).symm | (rw [Bool.eq_iff_iff]; simp only [decide_eq_true_eq]; omega)), rfl⟩
      · go_wp2_with (fail)
        all_goals
          go_meet
          case rel => exact ⟨congrArg Value.bool (by have hK := HK.out; rw [HWT.out, may2]; first | exact (decide_eq_true (by omega)).symm | exact (decide_eq_false (by omega)).symm | (rw [Bool.eq_iff_iff]; simp only [decide_eq_true_eq]; omega)), rfl⟩
      · go_wp2_with (fail)
        all_goals
          go_meet
          case rel => exact ⟨congrArg Value.bool (by have hK := HK.out; rw [HWT.out, may5]; first | exact (decide_eq_true (by omega)).symm | exact (decide_eq_false (by omega)).symm | (rw [Bool.eq_iff_iff]; simp only [decide_eq_true_eq]; omega)), rfl⟩
      · go_wp2_with (fail)
        all_goals
          go_meet
          case rel => exact ⟨congrArg Value.bool (by have hK := HK.out; rw [HWT.out, may6]; first | exact (decide_eq_true (by omega)).symm | exact (decide_eq_false (by omega)).symm | (rw [Bool.eq_iff_iff]; simp only [decide_eq_true_eq]; omega)), rfl⟩
      · go_wp2_with (fail)
        all_goals
          go_meet
          case rel => exact ⟨congrArg Value.bool (by have hK := HK.out; rw [HWT.out, may7]; first | exact (decide_eq_true (by omega)).symm | exact (decide_eq_false (by omega)).symm | (rw [Bool.eq_iff_iff]; simp only [decide_eq_true_eq]; omega)), rfl⟩
      · have HN := hide hne
        have b3 : (kind == 3) = false := by simpa using hne.1
        have b4 : (kind == 4) = false := by simpa using hne.2.1
        have b2 : (kind == 2) = false := by simpa using hne.2.2.1
        have b5 : (kind == 5) = false := by simpa using hne.2.2.2.1
        have b6 : (kind == 6) = false := by simpa using hne.2.2.2.2.1
        have b7 : (kind == 7) = false := by simpa using hne.2.2.2.2.2
        clear hne
        go_wp2_with (fail)
        go_meet
        case rel => exact ⟨congrArg Value.bool (by rw [HWT.out, mayn k s v HN.out]), rfl⟩
    case rest =>
      obtain ⟨rfl, rfl⟩ := hcut
      have y1 := B1.out.cell 1
      have y2 := B1.out.cell 2
      have y6 := B1.out.cell 6
      simp at y1 y2 y6
      go_wp2_with (go_at_call 8; refine (new_any _).mono ?_; rintro e w2 ⟨rfl, m2⟩; have M2 := hide m2; have B2 := hide (m2.ext.blk B1.out); have z0 := B2.out.cell 0; have z1 := B2.out.cell 1; have z2 := B2.out.cell 2; have z3 := B2.out.cell 3; have z4 := B2.out.cell 4; have z5 := B2.out.cell 5; have z6 := B2.out.cell 6; simp at z0 z1 z2 z3 z4 z5 z6; clear m2)
      refine (do_first w1 w2 _ _ kind t n ⟨k, s, v⟩ A l c M2.out HRZ.out).mono ?_
      rintro e w3 ⟨x, A8, n8, c8, f, N, rfl, hx, hN, hm, hrows, hblk⟩
      rw [← HWT.out] at hx
      have HROWS := hide hrows
      have HMD := hide hm
      have HN := hide hN
      have u0 := (hblk _ _ _ B2.out (by decide)).cell 0
      have HB3 := hide (hblk _ _ _ B2.out (by decide))
      simp at u0
      clear hrows hm hN hblk
      have hfd := field0 x A8 n8 c8
      go_wp2_with (fail)
      refine (rows_any w1 w3 _ _ N f HMD.out (by have := HN.out; omega)).mono ?_
      rintro e w4 ⟨v4, L, rfl, hK, hL, ho, hx4⟩
      obtain ⟨A5, c5, hv5, _⟩ := own_form ho
      subst hv5
      rw [HROWS.out L hK, ← HWT.out]
      have u4 := (hx4.blk HB3.out).cell 0
      simp at u4
      have X4 := hide (X1.out.trans (HMD.out.ext.trans hx4))
      clear hK hL ho hx4
      by_cases h3 : kind = 3
      · subst h3
        cases wt with
        | true =>
          simp only [and_self, if_true]
          go_wp2_with (fail)
          go_ret
          exact ⟨rfl, X4.out⟩
        | false =>
          simp only [Bool.false_eq_true, false_and, if_false]
          go_wp2_with (fail)
          go_ret
          exact ⟨rfl, X4.out⟩
      · have b3 : (kind == 3) = false := by simpa using h3
        rw [if_neg (fun e => h3 e.2)]
        clear h3
        cases wt with
        | true =>
          go_wp2_with (fail)
          go_ret
          exact ⟨rfl, X4.out⟩
        | false =>
          go_wp2_with (fail)
          go_ret
          exact ⟨rfl, X4.out⟩
end Go.Proofs.Ytjjilaanlhpogaa.modelBad
