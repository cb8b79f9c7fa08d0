/- RedoMoves: the walk: behind a move and the end of its unit a row is where it went, and nothing whence it came. -/
import Derived.Test.YtaagdjipjeindaaRedoMovesA
import Derived.Test.YtaagdjipjeindaaRedoMovesB
import Derived.Test.YtaagdjipjeindaaRedoMovesC
namespace Go.Proofs.Ytaagdjipjeindaa.redoMoves
open Go.ChangeShapes Go.WideShapes Go.ChangeAt Go.RowKit
set_option linter.unusedVariables false

/-! WALK -/
set_option maxRecDepth 1000000 in
set_option maxHeartbeats 8000000 in
theorem walk_main (x y z : Nat) (w : World) (hx : x ≤ 255) (hy : y ≤ 255) (hz : z ≤ 255) :
    Calls Try.prog 6 #[.int .u8 (x : Int), .int .u8 (y : Int), .int .u8 (z : Int)] w fun e w' => e = .returned (.bool true) ∧ Ext w w' := by
  obtain ⟨a0, ha0⟩ : ∃ q : Nat, x / 4 % 3 = q := ⟨_, rfl⟩
  obtain ⟨a1, ha1⟩ : ∃ q : Nat, x % 4 = q := ⟨_, rfl⟩
  obtain ⟨b0, hb0⟩ : ∃ q : Nat, y / 4 % 3 = q := ⟨_, rfl⟩
  obtain ⟨b1, hb1⟩ : ∃ q : Nat, y % 4 = q := ⟨_, rfl⟩
  obtain ⟨m, hm⟩ : ∃ q : Nat, z % 26 = q := ⟨_, rfl⟩
  have ea0 : (x : Int) / 4 % 3 = (a0 : Int) := by omega
  have ea1 : (x : Int) % 4 = (a1 : Int) := by omega
  have eb0 : (y : Int) / 4 % 3 = (b0 : Int) := by omega
  have eb1 : (y : Int) % 4 = (b1 : Int) := by omega
  have em : (z : Int) % 26 = (m : Int) := by omega
  have hlt : a0 < 3 ∧ a1 < 4 ∧ b0 < 3 ∧ b1 < 4 ∧ m < 26 := by omega
  have HLT := hide hlt
  obtain ⟨ha03, ha14, hb03, hb14, hm26⟩ := hlt
  clear ha0 ha1 hb0 hb1 hm
  go_enter Try.func6, Try.ntmps6
  go_upto_region 5 with (go_at_call 7; refine (begun_any _).mono ?_; rintro e w1 ⟨rfl, hx1⟩; have X1 := hide hx1; clear hx1)
  obtain ⟨w2, hw2⟩ : ∃ w2, w2 = (w1.alloc (.cells #[.int .i64 (a0 : Int), .int .i64 (a1 : Int)] 25)).alloc (.cells #[.int .i64 (b0 : Int), .int .i64 (b1 : Int)] 25) := ⟨_, rfl⟩
  have X2 := hide (show Ext w1 w2 by rw [hw2]; exact ((Ext.refl w1).alloc _).alloc _)
  have KA := hide (show Blk w2 w1.heap.size 25 #[.int .i64 (a0 : Int), .int .i64 (a1 : Int)] by rw [hw2]; exact (Blk.new w1 25 _).alloc _)
  have KB := hide (show Blk w2 (w1.heap.size + 1) 25 #[.int .i64 (b0 : Int), .int .i64 (b1 : Int)] by rw [hw2]; exact blk_new1 w1 _ 25 _)
  obtain ⟨ka, hka⟩ : ∃ ka, ka = w1.heap.size := ⟨_, rfl⟩
  obtain ⟨kb, hkb⟩ : ∃ kb, kb = w1.heap.size + 1 := ⟨_, rfl⟩
  rw [← hw2, ← hkb, ← hka]
  rw [← hka] at KA
  rw [← hkb] at KB
  clear hw2 hka hkb
  obtain ⟨y0, y1⟩ := KA.out.cells2
  obtain ⟨z0, z1⟩ := KB.out.cells2
  by_cases hab : a0 = b0 ∧ a1 = b1
  · obtain ⟨e0, e1⟩ := hab
    subst e0 e1
    go_wp2_with (fail)
    go_ret
    exact ⟨rfl, X1.out.trans X2.out⟩
  · have HAB := hide hab
    go_cut [45] (fun s wx => s = .bool false ∧ w2 = wx)
    case first =>
      by_cases h0 : a0 = b0
      · have h1 : ¬ a1 = b1 := fun e => hab ⟨h0, e⟩
        subst h0
        have d1 : ((a1 : Int) == (b1 : Int)) = false := by simp; omega
        clear h1 hab
        go_wp2_with (fail)
        go_meet
        case rel => exact ⟨by trivial, by trivial⟩
      · have d0 : ((a0 : Int) == (b0 : Int)) = false := by simp; omega
        clear h0 hab
        go_wp2_with (fail)
        go_meet
        case rel => exact ⟨by trivial, by trivial⟩
    case rest =>
      obtain ⟨rfl, rfl⟩ := hcut
      clear y0 y1 z0 z1 hab
      have c0 := conv_lt (Blk.new w2 5 #[.int .u8 (97 + (m : Int))]) hm26
      have w0 : IntKind.u8.wrap (97 + (m : Int)) = 97 + (m : Int) := by simp [IntKind.wrap, IntKind.signed, IntKind.bits]; omega
      obtain ⟨NR, hNR⟩ : ∃ NR, NR = rowL (ltL m) [] [] := ⟨_, rfl⟩
      have hrow := hide (row_any (w2.alloc (.cells #[.int .u8 (97 + (m : Int))] 5)) (ltL m) [] [] (by simp [ltL]) (by simp) (by simp))
      rw [← hNR] at hrow
      have HNR := hide hNR
      clear hNR
      go_upto_region 8 with (go_at_call 15; refine hrow.out.mono ?_; rintro e w3 ⟨AR, cR, rfl, ho3, hx3⟩; have X3 := hide ((Ext.new w2 _).trans hx3); have OR := hide (own_base ho3 (Nat.zero_le _)); clear ho3 hx3)
      have KA3 := hide (X3.out.blk KA.out)
      have KB3 := hide (X3.out.blk KB.out)
      obtain ⟨y0, y1⟩ := KA3.out.cells2
      obtain ⟨z0, z1⟩ := KB3.out.cells2
      clear c0 w0 hrow
      go_upto_region 10 with (fail)
      obtain ⟨w4, hw4⟩ : ∃ w4, w4 = w3.alloc (.cells #[.int .i64 (a0 : Int), .int .i64 (a1 : Int), .int .i64 (b0 : Int), .int .i64 (b1 : Int)] 54) := ⟨_, rfl⟩
      have X4 := hide (show Ext w3 w4 by rw [hw4]; exact Ext.new w3 _)
      have BM := hide (show Blk w4 w3.heap.size 54 #[.int .i64 (a0 : Int), .int .i64 (a1 : Int), .int .i64 (b0 : Int), .int .i64 (b1 : Int)] by rw [hw4]; exact Blk.new w3 54 _)
      obtain ⟨mb, hmb⟩ : ∃ mb, mb = w3.heap.size := ⟨_, rfl⟩
      have sz : w4.heap.size = w3.heap.size + 1 := by rw [hw4]; simp
      rw [← hw4, ← sz, ← hmb]
      rw [← hmb] at BM
      have X24 := hide (X3.out.trans X4.out)
      obtain ⟨w5, hw5⟩ : ∃ w5, w5 = w4.alloc (.cells #[.int .i64 1, .int .i64 0, .int .i64 0, .int .i64 0, .int .i64 0, .int .i64 0, .int .i64 (a0 : Int), .int .i64 (a1 : Int), .int .i64 0, .int .i64 0, .slice none 0 0, .slice AR NR.length cR, .slice none 0 0, .slice none 0 0, .slice none 0 0, .slice none 0 0, .int .i64 7, .int .i64 0, .int .i64 0, .int .i64 0, .int .i64 0, .int .i64 0, .int .i64 (a0 : Int), .int .i64 (a1 : Int), .int .i64 (b0 : Int), .int .i64 (b1 : Int), .slice none 0 0, .slice AR NR.length cR, .slice none 0 0, .slice none 0 0, .slice none 0 0, .slice none 0 0, .int .i64 8, .int .i64 0, .int .i64 0, .int .i64 0, .int .i64 0, .int .i64 0, .int .i64 0, .int .i64 0, .int .i64 0, .int .i64 0, .slice none 0 0, .slice none 0 0, .slice (some ⟨mb, 0, none⟩) 1 1, .slice none 0 0, .slice none 0 0, .slice none 0 0] 31) := ⟨_, rfl⟩
      have X5 := hide (show Ext w4 w5 by rw [hw5]; exact Ext.new w4 _)
      have BE := hide (show Blk w5 w4.heap.size 31 #[.int .i64 1, .int .i64 0, .int .i64 0, .int .i64 0, .int .i64 0, .int .i64 0, .int .i64 (a0 : Int), .int .i64 (a1 : Int), .int .i64 0, .int .i64 0, .slice none 0 0, .slice AR NR.length cR, .slice none 0 0, .slice none 0 0, .slice none 0 0, .slice none 0 0, .int .i64 7, .int .i64 0, .int .i64 0, .int .i64 0, .int .i64 0, .int .i64 0, .int .i64 (a0 : Int), .int .i64 (a1 : Int), .int .i64 (b0 : Int), .int .i64 (b1 : Int), .slice none 0 0, .slice AR NR.length cR, .slice none 0 0, .slice none 0 0, .slice none 0 0, .slice none 0 0, .int .i64 8, .int .i64 0, .int .i64 0, .int .i64 0, .int .i64 0, .int .i64 0, .int .i64 0, .int .i64 0, .int .i64 0, .int .i64 0, .slice none 0 0, .slice none 0 0, .slice (some ⟨mb, 0, none⟩) 1 1, .slice none 0 0, .slice none 0 0, .slice none 0 0] by rw [hw5]; exact Blk.new w4 31 _)
      have sz5 : w5.heap.size = w4.heap.size + 1 := by rw [hw5]; simp
      have V5 := hide (show Ents w5 (.slice (some ⟨w4.heap.size, 0, none⟩) 3 3) (es3 a0 a1 b0 b1 NR) from ⟨_, 3, _, rfl, own_blkN BE.out (Nat.zero_le _) rfl (by decide), ⟨[.int .i64 1, .int .i64 0, .int .i64 0, .int .i64 0, .int .i64 0, .int .i64 0, .int .i64 (a0 : Int), .int .i64 (a1 : Int), .int .i64 0, .int .i64 0, .slice none 0 0, .slice AR NR.length cR, .slice none 0 0, .slice none 0 0, .slice none 0 0, .slice none 0 0], _, rfl, ⟨AR, cR, none, 0, rfl, X5.out.own (X4.out.own OR.out), World.ownsRow_nil _ _ _ _⟩, [.int .i64 7, .int .i64 0, .int .i64 0, .int .i64 0, .int .i64 0, .int .i64 0, .int .i64 (a0 : Int), .int .i64 (a1 : Int), .int .i64 (b0 : Int), .int .i64 (b1 : Int), .slice none 0 0, .slice AR NR.length cR, .slice none 0 0, .slice none 0 0, .slice none 0 0, .slice none 0 0], _, rfl, ⟨AR, cR, none, 0, rfl, X5.out.own (X4.out.own OR.out), World.ownsRow_nil _ _ _ _⟩, [.int .i64 8, .int .i64 0, .int .i64 0, .int .i64 0, .int .i64 0, .int .i64 0, .int .i64 0, .int .i64 0, .int .i64 0, .int .i64 0, .slice none 0 0, .slice none 0 0, .slice (some ⟨mb, 0, none⟩) 1 1, .slice none 0 0, .slice none 0 0, .slice none 0 0], [], rfl, ⟨none, 0, some ⟨mb, 0, none⟩, 1, rfl, World.ownsRow_nil _ _ _ _, own_blkN (X5.out.blk BM.out) (Nat.zero_le _) rfl (by simp [eDone])⟩, rfl⟩⟩)
      rw [← hw5, ← sz5]
      obtain ⟨g, hg⟩ : ∃ g, g = w4.heap.size := ⟨_, rfl⟩
      rw [← hg] at V5 ⊢
      obtain ⟨wq, hwq⟩ : ∃ wq, wq = w5.alloc (.cells #[.slice none 0 0, .slice none 0 0, .slice none 0 0, .slice none 0 0, .int .i64 0, .slice none 0 0, .slice none 0 0, .slice none 0 0, .slice none 0 0, .int .i64 0, .slice none 0 0, .slice none 0 0, .slice none 0 0, .slice none 0 0, .int .i64 0] 55) := ⟨_, rfl⟩
      have XQ := hide (show Ext w5 wq by rw [hwq]; exact Ext.new w5 _)
      have PS := hide (show PgsAt wq w5.heap.size (fun _ => (noP, 0)) by rw [hwq]; exact PgsAt.new w5)
      obtain ⟨pb, hpb⟩ : ∃ pb, pb = w5.heap.size := ⟨_, rfl⟩
      rw [← hwq, ← hpb]
      rw [← hpb] at PS
      have X25 := hide (X24.out.trans X5.out)
      have HPB := hide (show w5.heap.size ≤ pb by omega)
      obtain ⟨es, hes⟩ : ∃ es, es = es3 a0 a1 b0 b1 NR := ⟨_, rfl⟩
      have HES := hide (show es.length = 3 by rw [hes]; rfl)
      have OKS := hide (show ∀ E ∈ es, EntOk E by rw [hes, HNR.out]; exact es3_ok a0 a1 b0 b1 m)
      have HCA := hide (show ∀ i, i < 3 → RdIs ((runP (a0 : Int) es (i + 1)).1 a1) (kA i) (keyA m i) (pA b0 i) (pA b1 i) by
        rw [hes, HNR.out]
        have := HLT.out
        exact cellA (by omega) (by omega) (by omega) HAB.out)
      have HCB := hide (show ∀ i, i < 3 → RdIs ((runP (b0 : Int) es (i + 1)).1 b1) (kB i) (keyB m i) 0 0 by
        rw [hes, HNR.out]
        have := HLT.out
        exact cellB (by omega) HAB.out)
      rw [← hes] at V5
      have ST0 := hide (show St w5 pb ka kb (.slice (some ⟨g, 0, none⟩) 3 3) es a0 a1 b0 b1 (fun j => runP (j : Int) es 0) wq from ⟨PS.out, V5.out.ext XQ.out, XQ.out.blk (X25.out.blk KA.out), XQ.out.blk (X25.out.blk KB.out), XQ.out⟩)
      have XW := hide (X1.out.trans (X2.out.trans X25.out))
      clear hw4 hmb sz hw5 sz5 hg hwq hpb hes y0 y1 z0 z1 BM BE V5 XQ PS KA3 KB3
      go_wp2_with (fail)
      go_loopw [13] (fun s13 wr => (∃ i : Nat, i ≤ 3 ∧ s13 = .int .i64 i ∧ Hid (St w5 pb ka kb (.slice (some ⟨g, 0, none⟩) 3 3) es a0 a1 b0 b1 (fun j => runP (j : Int) es i) wr))) (fun s13 _ => (3 - intOf s13).toNat)
      case atStart => exact ⟨0, by omega, rfl, ST0.out⟩
      case round =>
        clear ST0
        obtain ⟨i, hi, rfl, hs0⟩ := hrel
        have ST := hide hs0.out
        clear hs0
        by_cases hlt : i < 3
        · go_wp2_with (fail)
          go_loopw [14] (fun s14 wx => (∃ n : Nat, n ≤ 3 ∧ s14 = .int .i64 n ∧ Hid (St w5 pb ka kb (.slice (some ⟨g, 0, none⟩) 3 3) es a0 a1 b0 b1 (fun j => if j < n then runP (j : Int) es (i + 1) else runP (j : Int) es i) wx))) (fun s14 _ => (3 - intOf s14).toNat)
          case atStart => exact ⟨0, by omega, rfl, hide (by have h := ST.out; simpa using h)⟩
          case round =>
            clear ST
            obtain ⟨n, hn, rfl, hs0⟩ := hrel
            have ST := hide hs0.out
            clear hs0
            by_cases hlt2 : n < 3
            · go_upto_block 3 with (fail)
              refine page_blk _ w5 pb ka kb g 3 i n es a0 a1 b0 b1 ST.out HES.out OKS.out hlt hlt2 HPB.out _ _ _ _ _ _ _ _ _ _ _ _ _ _ _ _ _ _ _ _ _ _ _ _ _ _ _ _ _ _ _ _ _ _ _ _ _ _ _ _ _ _ _ _ _ _ _ _ _ _ _ _ _ _ _ _ _ _ _ _ _ _ _ _ _ _ _ _ _ _ _ _ _ _ _ _ _ _ _ _ _ _ _ _ _ _ _ _ _ _ _ _ _ _ _ _ _ _ _ _ _ _ _ _ _ _ _ _ _ _ _ _ _ _ _ _ _ _ _ _ _ _ _ _ _ _ _ _ _ _ _ _ _ _ _ _ _ _ _ _ _ _ _ _ _ _ _ _ _ _ _ _ _ _ _ _ _ _ _ _ ?_
              intro v15 v16 v79 v80 v81 v82 v83 v84 v85 v86 v87 v88 v89 v90 v91 v92 v93 v94 v95 wx hst
              have ST2 := hide hst
              clear hst
              go_wp2_with (fail)
              go_roundw
              case rel => exact ⟨n + 1, by omega, by go_num, ST2.out⟩
              case measure => simp [intOf]; omega
            · have hn3 : n = 3 := by omega
              subst hn3
              have ST := hide (show St w5 pb ka kb (.slice (some ⟨g, 0, none⟩) 3 3) es a0 a1 b0 b1 (fun j => runP (j : Int) es (i + 1)) _ from ST.out.congr (fun n hn => if_pos hn))
              obtain ⟨k1, hk1⟩ : ∃ q, q = kA i := ⟨_, rfl⟩
              obtain ⟨y1, hy1⟩ : ∃ q, q = keyA m i := ⟨_, rfl⟩
              obtain ⟨p1, hp1⟩ : ∃ q, q = pA b0 i := ⟨_, rfl⟩
              obtain ⟨q1, hq1⟩ : ∃ q, q = pA b1 i := ⟨_, rfl⟩
              obtain ⟨k2, hk2⟩ : ∃ q, q = kB i := ⟨_, rfl⟩
              obtain ⟨y2, hy2⟩ : ∃ q, q = keyB m i := ⟨_, rfl⟩
              have RA := hide (show RdIs ((runP (a0 : Int) es (i + 1)).1 a1) k1 y1 p1 q1 by rw [hk1, hy1, hp1, hq1]; exact HCA.out i hlt)
              have RB := hide (show RdIs ((runP (b0 : Int) es (i + 1)).1 b1) k2 y2 0 0 by rw [hk2, hy2]; exact HCB.out i hlt)
              have HK := hide (And.intro hk1 (And.intro hy1 (And.intro hp1 (And.intro hq1 (And.intro hk2 hy2)))))
              clear hk1 hy1 hp1 hq1 hk2 hy2
              go_upto_region 18 with (fail)
              obtain ⟨A1, c1, x2, hbb, hpl⟩ := ST.out.cell HLT.out.1 HLT.out.2.1
              obtain ⟨x0, x1⟩ := ST.out.2.2.1.cells2
              refine read_a _ pb ka a0 a1 _ c1 A1 _ k1 y1 p1 q1 HLT.out.1 HLT.out.2.1 x0 x1 x2 ST.out.2.2.1.lt hpl RA.out hbb rfl _ _ _ _ _ _ _ _ _ _ _ _ _ _ _ _ _ _ _ _ _ _ _ _ _ _ _ _ _ _ _ _ _ _ _ _ _ _ _ _ _ _ _ _ _ _ _ _ _ _ _ _ _ _ _ _ _ _ _ _ _ _ _ _ _ _ _ _ _ _ _ _ _ _ _ _ _ _ _ _ _ _ _ _ _ _ _ _ _ _ _ _ _ _ _ _ _ _ _ _ _ _ _ _ _ _ _ _ _ _ _ _ _ _ _ _ _ _ _ _ _ _ _ _ _ _ _ _ _ _ _ _ _ _ _ _ _ _ _ _ _ _ _ _ _ _ _ _ _ _ _ _ _ _ _ _ _ _ _ _ _ _ ?_
              intro v20 v96 v97 v98 v99 v100 v101 v102 v103 v104 v105 v106 v107 v108 v109 rb tb w8 hbr hbt hx8
              clear x0 x1 x2 hbb hpl
              have BR := hide hbr
              have BT := hide hbt
              have ST8 := hide (ST.out.ext hx8)
              clear hbr hbt hx8 ST
              go_upto_region 19 with (fail)
              obtain ⟨A2, c2, x2, hbb, hpl⟩ := ST8.out.cell HLT.out.2.2.1 HLT.out.2.2.2.1
              obtain ⟨x0, x1⟩ := ST8.out.2.2.2.1.cells2
              refine read_b _ pb kb b0 b1 _ c2 A2 _ k2 y2 0 0 HLT.out.2.2.1 HLT.out.2.2.2.1 x0 x1 x2 ST8.out.2.2.2.1.lt hpl RB.out hbb rfl _ _ _ _ _ _ _ _ _ _ _ _ _ _ _ _ _ _ _ _ _ _ _ _ _ _ _ _ _ _ _ _ _ _ _ _ _ _ _ _ _ _ _ _ _ _ _ _ _ _ _ _ _ _ _ _ _ _ _ _ _ _ _ _ _ _ _ _ _ _ _ _ _ _ _ _ _ _ _ _ _ _ _ _ _ _ _ _ _ _ _ _ _ _ _ _ _ _ _ _ _ _ _ _ _ _ _ _ _ _ _ _ _ _ _ _ _ _ _ _ _ _ _ _ _ _ _ _ _ _ _ _ _ _ _ _ _ _ _ _ _ _ _ _ _ _ _ _ _ _ _ _ _ _ _ _ _ _ _ _ _ _ ?_
              intro v24 v110 v111 v112 v113 v114 v115 v116 v117 v118 v119 v120 v121 v122 v123 r2 t2 w9 hbr2 hbt2 hx9
              clear x0 x1 x2 hbb hpl
              have BT9 := hide (hx9.blk BT.out)
              have BR9 := hide hbr2
              have ST9 := hide (ST8.out.ext hx9)
              clear hbr2 hbt2 hx9 ST8 BR BT
              obtain ⟨z0, z1⟩ := BT9.out.cells2
              obtain ⟨x0, x1⟩ := ST9.out.2.2.2.1.cells2
              obtain ⟨s0, s1, s2⟩ := BR9.out.cells3
              obtain ⟨g1, g2, g3, g4, g5, g6⟩ := HK.out
              rcases (show i = 0 ∨ i = 1 ∨ i = 2 by omega) with e | e | e <;> subst e
              · have g1 : k1 = 1 := g1
                have g5 : k2 = 0 := g5
                subst g1 g5
                clear g2 g3 g4 g6
                go_wp2_with (fail)
                go_roundw
                case rel => exact ⟨0 + 1, by omega, rfl, ST9.out⟩
                case measure => simp only [intOf]; omega
              · have g1 : k1 = 2 := g1
                have g5 : k2 = 1 := g5
                have g3 : p1 = (b0 : Int) := g3
                have g4 : q1 = (b1 : Int) := g4
                have g6 : y2 = ltL m := g6
                subst g1 g5 g3 g4 g6
                have c0 := conv_lt (Blk.new w9 5 #[.int .u8 (97 + (m : Int))]) hm26
                have w0 : IntKind.u8.wrap (97 + (m : Int)) = 97 + (m : Int) := by simp [IntKind.wrap, IntKind.signed, IntKind.bits]; omega
                clear g2
                go_wp2_with (fail)
                go_roundw
                case rel => exact ⟨1 + 1, by omega, rfl, ST9.out.ext (Ext.new w9 _)⟩
                case measure => simp only [intOf]; omega
              · have g1 : k1 = 0 := g1
                have g5 : k2 = 1 := g5
                subst g1 g5
                clear g2 g3 g4 g6
                go_wp2_with (fail)
                go_roundw
                case rel => exact ⟨2 + 1, by omega, rfl, ST9.out⟩
                case measure => simp only [intOf]; omega
        · have hi3 : i = 3 := by omega
          subst hi3
          go_wp2_with (fail)
          go_ret
          exact ⟨rfl, XW.out.trans ST.out.2.2.2.2⟩
end Go.Proofs.Ytaagdjipjeindaa.redoMoves
