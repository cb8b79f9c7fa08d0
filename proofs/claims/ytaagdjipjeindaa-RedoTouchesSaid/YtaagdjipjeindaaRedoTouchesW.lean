/- RedoTouches: the walk: an entry turns just the pages that it touches, and of these no cells but its own. -/
import Derived.Test.YtaagdjipjeindaaRedoTouchesC
namespace Go.Proofs.Ytaagdjipjeindaa.redoTouches
open Go.ChangeShapes Go.WideShapes Go.ChangeAt Go.RowKit
set_option linter.unusedVariables false

set_option maxRecDepth 1000000 in
set_option maxHeartbeats 8000000 in
theorem walk_short (A : Option Addr) (c n : Nat) (l : List UInt8) (k q : Nat) (w : World) (hr : Reads w w.heap.size 1 A n (bv l)) (hn : n = l.length) (hl : (n : Int) ≤ 4) (hk : k ≤ 65535) (hq : q ≤ 255) :
    Calls Try.prog 5 #[.int .u16 (k : Int), .slice A n c, .int .u8 (q : Int)] w fun e w' => e = .returned (.bool true) ∧ Ext w w' := by
  have HR := hide hr
  have HN := hide hn
  clear hr hn
  obtain ⟨p, hp⟩ : ∃ p : Nat, p = q % 4 := ⟨_, rfl⟩
  have ep : (q : Int) % 4 = (p : Int) := by omega
  have hp1 : p < 4 := by omega
  clear hp
  obtain ⟨E, hE⟩ : ∃ E, E = someE k := ⟨_, rfl⟩
  have OK := hide (show EntOk E by rw [hE]; exact someE_ok k)
  have HSM := hide (show ∀ w1 : World, Calls Try.prog 14 #[.slice (some ⟨w1.heap.size, 0, none⟩) 1 1] (w1.alloc (.cells #[.int .u16 (k : Int)] 23)) fun e w2 => ∃ A8 c8, e = .returned (.slice A8 1 c8) ∧ Ents w2 (.slice A8 1 c8) [E] ∧ Ext (w1.alloc (.cells #[.int .u16 (k : Int)] 23)) w2 from fun w1 => (some_any (some ⟨w1.heap.size, 0, none⟩) 1 1 [k] (w1.alloc (.cells #[.int .u16 (k : Int)] 23)) (reads_blk (m := 1) (Blk.new w1 23 #[.int .u16 (k : Int)]) rfl) rfl (by intro x hx; simp at hx; omega) (by omega)).mono (by
    rintro e w2 ⟨A8, c8, vs8, rfl, ho8, hv8, hx8⟩
    rw [hE]
    exact ⟨A8, c8, rfl, ⟨A8, c8, vs8, rfl, own_base ho8 (Nat.zero_le _), hv8⟩, hx8⟩))
  have HMD := hide (fun w1 hx => made_any A c n l 5 w1 (Ext.read (a := w) hx HR.out) HN.out (by omega))
  have HE := hide hE
  clear hE
  go_enter Try.func5, Try.ntmps5
  go_upto_region 3 with (go_at_call 7; refine (begun_any _).mono ?_; rintro e w1 ⟨rfl, b1⟩; have X1 := hide b1; clear b1)
  go_upto_region 6 with (go_at_call 14; refine (HSM.out _).mono ?_; rintro e w2 ⟨A8, c8, rfl, hv8, hx8⟩; have X2 := hide (X1.out.trans ((Ext.new w1 _).trans hx8)); obtain ⟨g, AN, cN, AM, cM, hA8, hglt, hC, ho1, ho2⟩ := hv8.at_ (i := 0) rfl; subst hA8; obtain ⟨q0, q1, q2, q3, q4, q5, q6, q7, q8, q9, q10, q11, q12, q13, q14, q15⟩ := hC w2 (Ext.refl w2); simp only [Nat.zero_mul, Nat.zero_add] at q0 q1 q2 q3 q4 q5 q6 q7 q8 q9 q10 q11 q12 q13 q14 q15; have O1 := hide ho1; have O2 := hide ho2; clear hv8 hx8 hC ho1 ho2)
  obtain ⟨w3, hw3⟩ : ∃ w3, w3 = w2.alloc (.cells #[.int .i64 E.kind, .int .i64 E.t, .int .i64 E.u, .int .i64 E.h, .int .i64 E.p, .int .i64 E.nx, .int .i64 E.a0, .int .i64 E.a1, .int .i64 E.b0, .int .i64 E.b1, .slice none 0 0, .slice AN E.NL.length cN, .slice AM E.mv.length cM, .slice none 0 0, .slice none 0 0, .slice none 0 0] 31) := ⟨_, rfl⟩
  have X3 := hide (show Ext w2 w3 by rw [hw3]; exact Ext.new w2 _)
  have BE := hide (show Blk w3 w2.heap.size 31 #[.int .i64 E.kind, .int .i64 E.t, .int .i64 E.u, .int .i64 E.h, .int .i64 E.p, .int .i64 E.nx, .int .i64 E.a0, .int .i64 E.a1, .int .i64 E.b0, .int .i64 E.b1, .slice none 0 0, .slice AN E.NL.length cN, .slice AM E.mv.length cM, .slice none 0 0, .slice none 0 0, .slice none 0 0] by rw [hw3]; exact Blk.new w2 31 _)
  obtain ⟨eb, heb⟩ : ∃ eb, eb = w2.heap.size := ⟨_, rfl⟩
  rw [← hw3, ← heb]
  rw [← heb] at BE
  clear hw3 heb q0 q1 q2 q3 q4 q5 q6 q7 q8 q9 q10 q11 q12 q13 q14 q15
  go_upto_region 8 with (go_at_call 8; refine (HMD.out w3 (X2.out.trans X3.out)).mono ?_; rintro e w4 ⟨v4, f, rfl, hp4, hl4, hx4⟩; obtain ⟨A0, c0, A1, c1, A2, c2, A3, c3, rfl⟩ := hp4.form; have X4 := hide hx4; have P4 := hide hp4; have L4 := hide hl4; clear hp4 hl4 hx4)
  obtain ⟨w5, hw5⟩ : ∃ w5, w5 = w4.alloc (.cells #[.slice A0 (f 0).length c0, .slice A1 (f 1).length c1, .slice A2 (f 2).length c2, .slice A3 (f 3).length c3, .int .i64 5] 35) := ⟨_, rfl⟩
  have X5 := hide (show Ext w4 w5 by rw [hw5]; exact Ext.new w4 _)
  have BP := hide (show Blk w5 w4.heap.size 35 #[.slice A0 (f 0).length c0, .slice A1 (f 1).length c1, .slice A2 (f 2).length c2, .slice A3 (f 3).length c3, .int .i64 5] by rw [hw5]; exact Blk.new w4 35 _)
  obtain ⟨pb, hpb⟩ : ∃ pb, pb = w4.heap.size := ⟨_, rfl⟩
  rw [← hw5, ← hpb]
  rw [← hpb] at BP
  have X35 := hide (X4.out.trans X5.out)
  have BE5 := hide (X35.out.blk BE.out)
  obtain ⟨b, hb⟩ : ∃ b, b = decide (actsP 5 (p : Int) E.kind E.a0 E.b0 6 E.mv) := ⟨_, rfl⟩
  obtain ⟨F, hF⟩ : ∃ F, F = (stepP p (f, 5) E 6).1 := ⟨_, rfl⟩
  obtain ⟨ls, hls⟩ : ∃ ls, ls = (stepP p (f, 5) E 6).2 := ⟨_, rfl⟩
  have hap := hide (apply_ent w5 (.agg #[.slice A0 (f 0).length c0, .slice A1 (f 1).length c1, .slice A2 (f 2).length c2, .slice A3 (f 3).length c3, .int .i64 5]) (f, 5) p 6 (P4.out.ext X5.out) L4.out E AN cN AM cM (X35.out.own (X3.out.own O1.out)) (X35.out.own (X3.out.own O2.out)) OK.out)
  rw [← hF, ← hls, ← hb] at hap
  have HBB := hide hb
  have HF := hide hF
  have HLS := hide hls
  clear hw5 hpb hb hF hls
  obtain ⟨q0, q1, q2, q3, q4, q5, q6, q7, q8, q9, q10, q11, q12, q13, q14, q15⟩ := BE5.out.cells16
  obtain ⟨y0, y1, y2, y3, y4⟩ := BP.out.cells5
  go_upto_region 9 with (go_at_call 9; refine hap.out.mono ?_; rintro e w6 ⟨v6, rfl, hp6, hx6⟩; obtain ⟨B0, d0, B1, d1, B2, d2, B3, d3, rfl⟩ := hp6.form; have X6 := hide hx6; have P6 := hide hp6; clear hp6 hx6)
  obtain ⟨w7, hw7⟩ : ∃ w7, w7 = w6.alloc (.cells #[.slice B0 (F 0).length d0, .slice B1 (F 1).length d1, .slice B2 (F 2).length d2, .slice B3 (F 3).length d3, .int .i64 ls] 35) := ⟨_, rfl⟩
  have X7 := hide (show Ext w6 w7 by rw [hw7]; exact Ext.new w6 _)
  have BF := hide (show Blk w7 w6.heap.size 35 #[.slice B0 (F 0).length d0, .slice B1 (F 1).length d1, .slice B2 (F 2).length d2, .slice B3 (F 3).length d3, .int .i64 ls] by rw [hw7]; exact Blk.new w6 35 _)
  obtain ⟨qb, hqb⟩ : ∃ qb, qb = w6.heap.size := ⟨_, rfl⟩
  rw [← hw7, ← hqb]
  rw [← hqb] at BF
  have X57 := hide (X6.out.trans X7.out)
  have BE7 := hide (X57.out.blk BE5.out)
  have BP7 := hide (X57.out.blk BP.out)
  have hpg := hide (pages_ent w7 E AN cN AM cM (X57.out.own (X35.out.own (X3.out.own O2.out))) OK.out)
  obtain ⟨T, hT⟩ : ∃ T, T = pagesOf (touchL E.kind E.a0 E.b0 E.mv) := ⟨_, rfl⟩
  rw [← hT] at hpg
  have HT := hide (show decide ((p : Int) ∈ T) = b by
    rw [hT, HBB.out]
    refine decide_eq_decide.2 ?_
    rw [mem_pagesOf]
    unfold actsP
    constructor
    · rintro ⟨h, _⟩
      exact ⟨by decide, h⟩
    · rintro ⟨_, h⟩
      exact ⟨h, by omega, by omega⟩)
  have HTL := hide (show T.length ≤ 32 by rw [hT]; unfold pagesOf; refine Nat.le_trans (List.length_filter_le _ _) (by simp))
  obtain ⟨m, hm⟩ : ∃ m, m = T.length := ⟨_, rfl⟩
  have HM := hide hm
  unfold GivesN at hpg
  rw [← hm] at hpg HTL
  clear hw7 hqb hT hm hap y0 y1 y2 y3 y4 q0 q1 q2 q3 q4 q5 q6 q7 q8 q9 q10 q11 q12 q13 q14 q15
  obtain ⟨q0, q1, q2, q3, q4, q5, q6, q7, q8, q9, q10, q11, q12, q13, q14, q15⟩ := BE7.out.cells16
  go_upto_region 11 with (go_at_call 12; refine hpg.out.mono ?_; rintro e w8 ⟨A8', c8', rfl, hr8, hx8⟩; have X8 := hide hx8; have R8 := hide hr8; clear hr8 hx8)
  clear q0 q1 q2 q3 q4 q5 q6 q7 q8 q9 q10 q11 q12 q13 q14 q15
  have hm32 := HTL.out
  go_wp2_with (fail)
  go_loopw [12, 14] (fun s12 s14 wr => (∃ i : Nat, i ≤ m ∧ s14 = .int .i64 i ∧ s12 = .bool (decide ((p : Int) ∈ T.take i)) ∧ w8 = wr)) (fun _ s14 _ => (m - intOf s14).toNat)
  case atStart => exact ⟨0, by omega, rfl, rfl, rfl⟩
  case round =>
    obtain ⟨i, hi, rfl, rfl, rfl⟩ := hrel
    by_cases hlt : i < m
    · obtain ⟨bk, off, hAe, hbw, hcell⟩ := R8.out.plain (by omega) (by omega)
      subst hAe
      obtain ⟨y, hy⟩ : ∃ y, T[i]? = some y := ⟨_, List.getElem?_eq_getElem (by rw [← HM.out]; exact hlt)⟩
      have g0 := hcell i (.int .i64 y) (by simp [iv, hy])
      have HY := hide (show decide ((p : Int) ∈ T.take (i + 1)) = (decide ((p : Int) ∈ T.take i) || decide ((p : Int) = y)) by
        obtain ⟨hk, e⟩ := List.getElem?_eq_some_iff.1 hy
        rw [List.take_succ_eq_append_getElem hk, e, ← Bool.decide_or]
        exact decide_eq_decide.2 (by simp))
      obtain ⟨t0, ht0⟩ : ∃ t0, t0 = decide ((p : Int) ∈ T.take i) := ⟨_, rfl⟩
      rw [← ht0] at HY ⊢
      clear hcell hy ht0
      cases t0
      · by_cases hpy : (p : Int) = y
        · subst hpy
          go_wp2_with (fail)
          go_roundw
          case rel => exact ⟨i + 1, by omega, by go_num, by rw [HY.out]; simp, by trivial⟩
          case measure => simp [intOf]; omega
        · have dy : (y == (p : Int)) = false := by simpa using (fun e => hpy e.symm)
          have HY2 := hide (show (false || decide ((p : Int) = y)) = false by simpa using hpy)
          clear hpy
          go_wp2_with (fail)
          go_roundw
          case rel => exact ⟨i + 1, by omega, by go_num, by rw [HY.out, HY2.out], by trivial⟩
          case measure => simp [intOf]; omega
      · go_wp2_with (fail)
        go_roundw
        case rel => exact ⟨i + 1, by omega, by go_num, by rw [HY.out]; rfl, by trivial⟩
        case measure => simp [intOf]; omega
    · have hlt' : i = m := by omega
      have dim : decide ((i : Int) < (m : Int)) = false := decide_eq_false (by omega)
      rw [hlt', List.take_of_length_le (by rw [← HM.out]; exact Nat.le_refl _), HT.out]
      have BF8 := hide (X8.out.blk BF.out)
      have BP8 := hide (X8.out.blk BP7.out)
      have BE8 := hide (X8.out.blk BE7.out)
      have e4 := BF8.out.cell 4
      simp only [List.getElem?_toArray, List.getElem?_cons_succ, List.getElem?_cons_zero] at e4
      have XW := hide (X2.out.trans (X3.out.trans (X35.out.trans (X57.out.trans X8.out))))
      have HL2 := hide (show ls = if b = true then 6 else 5 by
        rw [HLS.out, HBB.out]
        unfold stepP
        split
        · rename_i h
          rw [if_pos (decide_eq_true h)]
        · rename_i h
          rw [if_neg (by simpa using h)])
      have P8 := hide (P6.out.ext (X7.out.trans X8.out))
      have P8' := hide (P4.out.ext (X5.out.trans (X57.out.trans X8.out)))
      have HSO := hide (show ∀ c : Nat, (¬ ownP p c E ∨ b = false) → F c = f c from fun c h => by
        rw [HF.out, HE.out]
        exact step_other (s := (f, 5)) (by rw [HBB.out, HE.out] at h; simpa using h))
      have HFL := hide (show ∀ c, (F c).length ≤ 1000 from fun c => by rw [HF.out]; exact stepP_len (s := (f, 5)) L4.out OK.out c)
      go_upto_region 15 with (fail)
      go_cut [75] (fun s wx => s = .bool false ∧ w8 = wx)
      case first =>
        cases b
        · have els : ls = 5 := HL2.out
          subst els
          go_wp2_with (fail)
          go_meet
          case rel => exact ⟨by trivial, by trivial⟩
        · have els : ls = 6 := HL2.out
          subst els
          go_wp2_with (fail)
          go_meet
          case rel => exact ⟨by trivial, by trivial⟩
      case rest =>
        obtain ⟨rfl, rfl⟩ := hcut
        go_wp2_with (fail)
        go_loopw [15, 16] (fun s15 _ wr => (∃ c : Nat, c ≤ 4 ∧ s15 = .int .i64 c ∧ Ext w8 wr)) (fun s15 _ _ => (4 - intOf s15).toNat)
        case atStart => exact ⟨0, by omega, rfl, Ext.refl _⟩
        case round =>
          obtain ⟨c, hc, rfl, hx⟩ := hrel
          have X9 := hide hx
          clear hx
          by_cases hlt : c < 4
          · go_upto_block 3 with (fail)
            refine cell_blk wr E AN cN AM cM f F ls A0 A1 A2 A3 B0 B1 B2 B3 c0 c1 c2 c3 d0 d1 d2 d3 eb pb qb p c b (X9.out.blk BE8.out) (X9.out.blk BP8.out) (X9.out.blk BF8.out) (P8'.out.ext X9.out) (P8.out.ext X9.out) hlt (HSO.out c) _ _ _ _ _ _ _ _ _ _ _ _ _ _ _ _ _ _ _ _ _ _ _ _ _ _ _ _ _ _ _ _ _ _ _ _ _ _ _ _ _ _ _ _ _ _ _ _ _ _ _ _ _ _ _ _ _ _ _ _ _ _ _ _ _ _ _ _ _ _ _ _ _ _ _ _ _ _ _ _ _ _ _ _ _ _ _ _ _ _ _ _ _ _ _ _ _ _ _ _ _ _ _ _ _ _ _ _ _ _ _ _ _ _ ?_
            intro v16 v80 v81 v82 v83 v84 v85 v86 v87 v88 v89 v90 v91 v92 v93 v94 v95 v96 v97 v98 v99 v100 v101 v102 v103 v104 v105 v106 v107 v108 v109 v110 v111 v112 v113 v114 v115 v116 v117 wx hwx
            have X10 := hide (X9.out.trans hwx)
            clear hwx
            go_wp2_with (fail)
            go_roundw
            case rel => exact ⟨c + 1, by omega, by go_num, X10.out⟩
            case measure => simp [intOf]; omega
          · have hc4 : c = 4 := by omega
            subst hc4
            go_wp2_with (fail)
            go_ret
            exact ⟨rfl, XW.out.trans X9.out⟩
end Go.Proofs.Ytaagdjipjeindaa.redoTouches
