/- TileAll: the walk. -/
import Derived.Test.YtpbenpkgbhmldaaTileAllP
namespace Go.Proofs.Ytpbenpkgbhmldaa.tileAll
open Go.ChangeShapes Go.WideShapes Go.ChangeAt Go.RowKit Go.Maps
set_option linter.unusedVariables false

/-- a list of deeds -/
def Deeds (W : World) (xs : List Value) (n : Nat) : Prop := ∀ i, i < n → ∃ (kind at_ : Int) (f : Nat) (s : Bool) (Am : Option Addr) (m cm : Nat) (M : List UInt8),
  xs[i * 5]? = some (.int .i64 kind) ∧ xs[i * 5 + 1]? = some (.int .i64 at_) ∧ xs[i * 5 + 2]? = some (.int .u8 (f : Int)) ∧ xs[i * 5 + 3]? = some (.bool s) ∧ xs[i * 5 + 4]? = some (.slice Am m cm) ∧
    at_ ≤ 9223372036854775807 ∧ -9223372036854775808 ≤ kind ∧ kind ≤ 9223372036854775807 ∧ f < 256 ∧ M.length = m ∧ (Am = none → cm = 0) ∧ Reads W W.heap.size 1 Am m (bv M)
/-- the tile that is filled: the first j bytes behind off -/
def fillA (off f j : Nat) : Array Value := ((List.range 64).map fun p => Value.int .u8 ((if off ≤ p ∧ p < off + j then (f + (p - off)) % 256 else 0 : Nat) : Int)).toArray
def fillB (f n : Nat) : List UInt8 := (List.range n).map fun j => UInt8.ofNat ((f + j) % 256)
theorem fillA_get (off f j p : Nat) (hp : p < 64) : (fillA off f j)[p]? = some (.int .u8 ((if off ≤ p ∧ p < off + j then (f + (p - off)) % 256 else 0 : Nat) : Int)) := by
  unfold fillA
  rw [List.getElem?_toArray, List.getElem?_map, List.getElem?_range hp]
  rfl
theorem fillA_size (off f j : Nat) : (fillA off f j).size = 64 := by simp [fillA]
theorem fillA_zero (off f : Nat) : fillA off f 0 = arr 0 64 := by
  apply Array.ext_getElem?
  intro p
  by_cases hp : p < 64
  · rw [fillA_get off f 0 p hp, if_neg (by omega), arr_at 0 hp]
    rfl
  · rw [Array.getElem?_eq_none (by rw [fillA_size]; omega), Array.getElem?_eq_none (by rw [arr_size]; omega)]
theorem fillA_succ (off f j : Nat) (h : off + j < 64) : (fillA off f j).setIfInBounds (off + j) (.int .u8 (((f + j) % 256 : Nat) : Int)) = fillA off f (j + 1) := by
  apply Array.ext_getElem?
  intro p
  rw [Array.getElem?_setIfInBounds]
  by_cases hp : p < 64
  · by_cases e : off + j = p
    · subst e
      rw [if_pos rfl, if_pos (by rw [fillA_size]; exact h), fillA_get off f (j + 1) _ hp, if_pos (by omega)]
      congr 4
      omega
    · rw [if_neg e, fillA_get off f j p hp, fillA_get off f (j + 1) p hp]
      by_cases h1 : off ≤ p ∧ p < off + j
      · rw [if_pos h1, if_pos (by omega)]
      · rw [if_neg h1, if_neg (by omega)]
  · rw [Array.getElem?_eq_none (by rw [fillA_size]; omega)]
    split
    · rw [if_neg (by rw [fillA_size]; omega), Array.getElem?_eq_none (by rw [fillA_size]; omega)]
    · rw [Array.getElem?_eq_none (by rw [fillA_size]; omega)]
theorem fill_reads {w : World} {bb off f n : Nat} (h : Blk w bb 5 (fillA off f n)) (hn : off + n = 64) : Reads w w.heap.size 1 (some ⟨bb, off, none⟩) n (bv (fillB f n)) := by
  refine ⟨by simp [bv, fillB], fun _ => ⟨_, rfl, h.lt, fun j u hu => ?_⟩⟩
  have hj : j < n := by have := (List.getElem?_eq_some_iff.1 hu).1; simpa [bv, fillB] using this
  have e : (⟨bb, off, none⟩ : Addr).add j = ⟨bb, off + j, none⟩ := by unfold Addr.add; split <;> simp_all
  rw [e, h.cell, fillA_get _ _ _ _ (by omega), if_pos (by omega), ← hu]
  have e2 : off + j - off = j := by omega
  rw [e2]
  simp [bv, fillB, hj]
/-- both disks say the same behind i deeds -/
def St (W w : World) (d r k0 i : Nat) : Prop := ∃ dead T U pl N, Disk (Fr W) (Fr W) w d N dead T U pl ∧ Rf W.heap.size w r dead T U pl ∧ Ext W w ∧ T.length = k0 ∧ N ≤ i ∧ Pok pl
theorem St.ext {W w w' : World} {d r k0 i : Nat} (h : St W w d r k0 i) (hx : Ext w w') : St W w' d r k0 i := by
  obtain ⟨dead, T, U, pl, N, h1, h2, h3, h4, h5, h6⟩ := h
  exact ⟨dead, T, U, pl, N, h1.ext hx, h2.ext hx, h3.trans hx, h4, h5, h6⟩
theorem turn_rt {Y : Nat → Prop} {B : Nat} {w w1 w2 : World} {b : Nat} {cs : Array Value} {t : TypeId} (h : Blk w b t cs) (h1 : Turn Y w w1) (h2 : RTurn B w1 w2) (e1 : t ≠ 66) (e2 : t ≠ 22) (e3 : t ≠ 71) (e4 : t ≠ 59) (e5 : t ≠ 9) (e6 : t ≠ 4) : Blk w2 b t cs := h2.blk (h1.blk h e1 e2 e3) e4 e5 e6
set_option maxRecDepth 1000000 in
set_option maxHeartbeats 40000000 in
theorem walk_short (A : Option Addr) (c n : Nat) (xs : List Value) (nb : Nat) (w0 : World) (ha : Reads w0 w0.heap.size 5 A n xs) (hx : Deeds w0 xs n) (h1 : n ≤ 30) (hnb : nb < 256) :
    Calls Try.prog 9 #[.int .u8 nb, .slice A n c] w0 fun e w' => e = .returned (.bool true) ∧ Ext w0 w' := by
  have HA := hide ha
  have HX := hide hx
  obtain ⟨k0, hk0⟩ : ∃ k0 : Nat, (nb : Int) % 20 = (k0 : Int) := ⟨nb % 20, by omega⟩
  have hk20 : k0 < 20 := by omega
  have hnbi : (nb : Int) < 256 := by omega
  have dl : decide ((30 : Int) < (n : Int)) = false := decide_eq_false (by omega)
  have hn30 : n ≤ 30 := h1
  clear ha hx h1 hnb
  go_enter Try.func9, Try.ntmps9
  go_wp2_with (first
    | (go_at_call 10; refine (begun_any _).mono ?_; rintro e W ⟨rfl, b1⟩; have BW := hide b1; clear b1)
    | (go_at_call 11; refine (new_any k0 k0 k0 W (by omega) (by omega)).mono ?_; rintro e w1 ⟨rfl, h1, x1⟩; have D1 := hide h1; have X1 := hide x1; clear h1 x1)
    | (go_at_call 23; refine (rnew_any w1 k0 (by omega)).mono ?_; rintro e w2 ⟨r, rfl, h2, x2⟩; have R2 := hide h2; have X2 := hide x2; clear h2 x2))
  have HS0 := hide (show St W w2 (W.heap.size + 1) r k0 0 from ⟨false, blanks k0, fun _ => none, none, 0, D1.out.ext X2.out, by
    obtain ⟨A1, A2, A3, Am, c1, c2, c3, km, cm, on, pa, M0, h, e⟩ := R2.out
    have hs := X1.out.size
    exact ⟨A1, A2, A3, Am, c1, c2, c3, km, cm, on, pa, M0, ⟨h.blk, World.ownsRow.mono h.now hs, World.ownsRow.mono h.was hs, World.ownsRow.mono h.wet hs, h.ne, World.ownsRow.mono h.mask hs, Nat.le_trans hs h.hb, h.kml⟩, e⟩, X1.out.trans X2.out, by simp [blanks], Nat.le_refl _, trivial⟩)
  clear D1 X1 R2 X2 hk0 hnbi
  go_loopw [6, 8] (fun s6 s8 wr => (∃ i : Nat, i ≤ n ∧ s8 = .int .i64 i ∧ ∃ d : Nat, s6 = .pointer (some ⟨d, 0, none⟩) ∧ Hid (St W wr d r k0 i))) (fun _ s8 _ => (n - intOf s8).toNat)
  case atStart => exact ⟨0, by omega, rfl, _, rfl, HS0.out⟩
  case round =>
    obtain ⟨i, hi, rfl, d, rfl, hs⟩ := hrel
    have HS := hide hs.out
    clear hs HS0
    have XW := hide (show Ext W wr by obtain ⟨_, _, _, _, _, _, _, h, _⟩ := HS.out; exact h)
    by_cases hlt : i < n
    · obtain ⟨bk, off, hAe, hbw, hcell⟩ := HA.out.plain (by omega) (by omega)
      subst hAe
      obtain ⟨kind, at_, f, s, Am, m, cm, M, d0, d1, d2, d3, d4, ha1, hk1, hk2, hf1, hml, hmc, hmr⟩ := HX.out i hlt
      have far : ∀ j u, xs[j]? = some u → wr.cell? ⟨bk, off + j, none⟩ = some u := fun j u hu => ((BW.out.trans XW.out).cell (p := ⟨bk, off + j, none⟩) (show bk < w0.heap.size from hbw)).trans (hcell j u hu)
      have g0 := far _ _ d0
      have g1 := far _ _ d1
      have g2 := far _ _ d2
      have g3 := far _ _ d3
      have g4 := far _ _ d4
      rw [← Nat.add_assoc] at g1 g2 g3 g4
      have HML := hide hml
      have HMC := hide hmc
      have HMR := hide hmr
      have HAT := hide ha1
      have HK := hide (And.intro hk1 hk2)
      have HF := hide hf1
      clear far hcell d0 d1 d2 d3 d4 hml hmc hmr ha1 hk1 hk2 hf1
      have hii : (i : Int) < (n : Int) := by omega
      have hi0 : (0 : Int) ≤ (i : Int) := by omega
      by_cases hm : (10 : Int) < m
      · have HE := hide (BW.out.trans XW.out)
        clear HS
        go_wp2
        go_ret
        exact ⟨rfl, HE.out.alloc _⟩
      · have hm10 : m ≤ 10 := by omega
        have hmk := made
        go_upto_if 41 with (fail)
        go_cut [10] (fun s10 wx => ∃ off : Nat, off ≤ 1 ∧ ∃ cc : Nat, s10 = .slice (some ⟨wr.heap.size + 1, off, none⟩) cc cc ∧ off + cc = 64 ∧ wx = ((wr.alloc (.cells #[.int .i64 kind, .int .i64 at_, .int .u8 (f : Int), .bool s, .slice Am m cm] 55)).alloc (.cells (arr 0 64) 5)))
        case first =>
          cases s with
          | true =>
            go_wp2_with (fail)
            go_meet
            case rel => exact ⟨1, by omega, 63, rfl, by omega, rfl⟩
          | false =>
            go_wp2_with (fail)
            go_meet
            case rel => exact ⟨0, by omega, 64, rfl, by omega, rfl⟩
        case rest =>
          obtain ⟨off2, ho1, cc, rfl, hcc, rfl⟩ := hcut
          have hsz : wr.heap.size + 1 < ((wr.alloc (.cells #[.int .i64 kind, .int .i64 at_, .int .u8 (f : Int), .bool s, .slice Am m cm] 55)).alloc (.cells (arr 0 64) 5)).heap.size := by simp
          obtain ⟨wa, hwa⟩ : ∃ wa, wa = wr.alloc (.cells #[.int .i64 kind, .int .i64 at_, .int .u8 (f : Int), .bool s, .slice Am m cm] 55) := ⟨_, rfl⟩
          obtain ⟨ob, hob⟩ : ∃ ob, ob = wr.heap.size := ⟨_, rfl⟩
          have KO := hide (show Blk wa ob 55 #[.int .i64 kind, .int .i64 at_, .int .u8 (f : Int), .bool s, .slice Am m cm] by rw [hwa, hob]; exact Blk.new wr 55 _)
          have XA := hide (show Ext wr wa by rw [hwa]; exact Ext.new _ _)
          have hbb : wr.heap.size + 1 = wa.heap.size := by rw [hwa]; simp
          obtain ⟨wb, hwb⟩ : ∃ wb, wb = wa.alloc (.cells (arr 0 64) 5) := ⟨_, rfl⟩
          obtain ⟨bb, hbb2⟩ : ∃ bb, bb = wa.heap.size := ⟨_, rfl⟩
          have KB := hide (show Blk wb bb 5 (fillA off2 f 0) by rw [hwb, hbb2, fillA_zero]; exact Blk.new wa 5 _)
          have XB := hide (show Ext wa wb by rw [hwb]; exact Ext.new _ _)
          have LB := hide (show wa.heap.size ≤ bb by omega)
          rw [← hwa, ← hwb, hbb, ← hbb2, ← hob]
          clear hwa hob hbb hwb hbb2 g0 g1 g2 g3 g4 hmk hsz
          go_wp2_with (fail)
          go_loopw [11] (fun s11 wx => (∃ j : Nat, j ≤ cc ∧ s11 = .int .i64 j ∧ Hid (Blk wx bb 5 (fillA off2 f j) ∧ Ext wa wx))) (fun s11 _ => (cc - intOf s11).toNat)
          case atStart => exact ⟨0, by omega, rfl, KB.out, XB.out⟩
          case round =>
            obtain ⟨j, hj, rfl, hs⟩ := hrel
            by_cases hjc : j < cc
            · have hji : (j : Int) < (cc : Int) := by omega
              have hj0 : (0 : Int) ≤ (j : Int) := by omega
              have hcc64 : cc ≤ 64 := by omega
              have y2 := (hs.out.2.blk KO.out).cell 2
              simp only [List.getElem?_toArray, List.getElem?_cons_zero, List.getElem?_cons_succ] at y2
              have yb := hs.out.1.cell (off2 + j)
              rw [fillA_get _ _ _ _ (by omega)] at yb
              have yf := hs.out.1.frozen (off2 + j)
              have hf256 : (f : Int) < 256 := by have := HF.out; omega
              have HN := hide (show Blk (wr.setCell ⟨bb, off2 + j, none⟩ (.int .u8 (((f + j) % 256 : Nat) : Int))) bb 5 (fillA off2 f (j + 1)) ∧ Ext wa (wr.setCell ⟨bb, off2 + j, none⟩ (.int .u8 (((f + j) % 256 : Nat) : Int))) from ⟨by rw [← fillA_succ _ _ _ (by omega)]; exact hs.out.1.set_ _ _, hs.out.2.set_ LB.out _⟩)
              clear hs
              go_wp2_with (fail)
              go_roundw
              case rel => exact ⟨j + 1, by omega, by go_num, HN.out⟩
              case measure => simp [intOf]; omega
            · obtain rfl : j = cc := by omega
              have HS2 := hide hs.out
              clear hs KB XB
              obtain ⟨q, hq⟩ : ∃ q : Int, (wrap64 (kind.tmod 9 + 9)).tmod 9 = q := ⟨_, rfl⟩
              have KO1 := hide (HS2.out.2.blk KO.out)
              have S1 := hide (HS.out.ext (XA.out.trans HS2.out.2))
              have KB1 := hide HS2.out.1
              obtain ⟨y0, y1, y2, y3, y4⟩ := KO1.out.cells5
              go_upto_block 4 with (fail)
              go_cut [6] (fun s6 wx => ∃ d' : Nat, s6 = .pointer (some ⟨d', 0, none⟩) ∧ Hid (St W wx d' r k0 (i + 1)))
              case first =>
                have h9 : q = 4 ∨ q = 5 ∨ q = 6 ∨ q = 7 ∨ (q = 0 ∨ q = 1 ∨ q = 2 ∨ q = 3) ∨ (q ≠ 0 ∧ q ≠ 1 ∧ q ≠ 2 ∧ q ≠ 3 ∧ q ≠ 4 ∧ q ≠ 5 ∧ q ≠ 6 ∧ q ≠ 7) := by omega
                clear hq
                obtain ⟨dead, T, U, pl, N, s1, s2, s3, s4, s5, s6⟩ := S1.out
                have HD := hide s1
                have HR := hide s2
                have XX := hide s3
                have HT := hide s4
                have HP := hide s6
                have hT20 : T.length ≤ 20 := by omega
                have hN30 : N ≤ 30 := by omega
                clear s1 s2 s3 s4 s6 S1 HS2 KO HS XA
                rcases h9 with rfl | rfl | rfl | rfl | h4 | ⟨q0, q1, q2, q3, q4, q5, q6, q7⟩
                · obtain ⟨yy, dead', T', U', pl', N', t1, t2, t3, c1, c2⟩ := sy_both HD.out HR.out HP.out (by omega) (by omega)
                  have C1 := hide c1
                  have C2 := hide c2
                  have T1 := hide t1
                  have T3 := hide t3
                  clear c1 c2 t1 t3
                  go_wp2_with (fail)
                  refine C1.out.mono ?_
                  rintro e w5 ⟨rfl, h5, u5⟩
                  have H5 := hide h5
                  have U5 := hide u5
                  clear h5 u5
                  go_wp2_with (fail)
                  refine (C2.out _ U5.out).mono ?_
                  rintro e w6 ⟨rfl, h6, u6⟩
                  have HF := hide (show St W w6 d r k0 (i + 1) from ⟨dead', T', U', pl', N', H5.out.rturn u6, h6, u6.ext (U5.out.ext XX.out (fun _ _ h => h)), by rw [T1.out, HT.out], by omega, T3.out⟩)
                  clear h6 u6
                  go_wp2_with (fail)
                  go_meet
                  case rel => exact ⟨_, rfl, HF.out⟩
                · have MR := hide (fun w' (hx : Ext W w') => Ext.read (BW.out.trans hx) HMR.out : ∀ w', Ext W w' → Reads w' w'.heap.size 1 Am m (bv M))
                  go_wp2_with (fail)
                  refine (crash_any (Fr W) (Fr W) wr d N dead T U pl Am cm m M HD.out (by omega) (by omega) HML.out (fun w' ht => MR.out w' (ht.ext XX.out (fun _ _ h => h))) (by omega)).mono ?_
                  rintro e w5 ⟨rfl, h5, u5⟩
                  have H5 := hide h5
                  have U5 := hide u5
                  have KO5 := hide (u5.blk KO1.out (by decide) (by decide) (by decide))
                  have X5 := hide (U5.out.ext XX.out (fun _ _ h => h))
                  clear h5 u5 y0 y1 y2 y3 y4
                  obtain ⟨y0, y1, y2, y3, y4⟩ := KO5.out.cells5
                  go_wp2_with (fail)
                  refine (rcrash_rf Am m cm M (HR.out.turn U5.out) HML.out (by omega) (by omega) (fun w' ht => MR.out w' (ht.ext X5.out))).mono ?_
                  rintro e w6 ⟨rfl, h6, u6⟩
                  have HF := hide (show St W w6 d r k0 (i + 1) from ⟨true, crT M U T, fun _ => none, none, 0, H5.out.rturn u6, h6, u6.ext X5.out, by rw [crT_len, HT.out], by omega, trivial⟩)
                  clear h6 u6
                  go_wp2_with (fail)
                  go_meet
                  case rel => exact ⟨_, rfl, HF.out⟩
                · have MR := hide (fun w' (hx : Ext W w') => Ext.read (BW.out.trans hx) HMR.out : ∀ w', Ext W w' → Reads w' w'.heap.size 1 Am m (bv M))
                  go_wp2_with (fail)
                  refine (arm_any (Fr W) (Fr W) wr d N dead T U pl at_ M Am cm m HD.out HML.out (by omega) HMC.out (fun w' ht => MR.out w' (ht.ext XX.out (fun _ _ h => h))) (fun k hk => Nat.le_trans XX.out.size hk) (fun k hk => Nat.le_trans XX.out.size hk)).mono ?_
                  rintro e w5 ⟨rfl, h5, u5⟩
                  have H5 := hide h5
                  have U5 := hide u5
                  have KO5 := hide (u5.blk KO1.out (by decide) (by decide) (by decide))
                  have X5 := hide (U5.out.ext XX.out (fun _ _ h => h))
                  clear h5 u5 y0 y1 y2 y3 y4
                  obtain ⟨y0, y1, y2, y3, y4⟩ := KO5.out.cells5
                  go_wp2_with (fail)
                  refine (rarm_any at_ M Am m cm (HR.out.turn U5.out) HML.out (by omega) (MR.out w5 X5.out)).mono ?_
                  rintro e w6 ⟨rfl, h6, u6⟩
                  have HF := hide (show St W w6 d r k0 (i + 1) from ⟨dead, T, U, armed at_ M, N, H5.out.rturn u6, h6, u6.ext X5.out, HT.out, by omega, pok_armed HAT.out (by rw [HML.out]; omega)⟩)
                  clear h6 u6
                  go_wp2_with (fail)
                  go_meet
                  case rel => exact ⟨_, rfl, HF.out⟩
                · go_wp2_with (fail)
                  refine (power_any (Fr W) (Fr W) wr d N dead T U pl HD.out).mono ?_
                  rintro e w5 ⟨rfl, h5, u5⟩
                  have H5 := hide h5
                  have U5 := hide u5
                  have X5 := hide (U5.out.ext XX.out (fun _ _ h => h))
                  obtain ⟨⟨v, z3⟩, f3, h6, u6⟩ := rpower (HR.out.turn u5)
                  have HF := hide (show St W (w5.setCell ⟨r, 3, none⟩ (.bool false)) d r k0 (i + 1) from ⟨false, T, U, pl, N, H5.out.rturn u6, h6, u6.ext X5.out, HT.out, by omega, HP.out⟩)
                  clear h5 u5 h6 u6
                  go_wp2_with (fail)
                  go_meet
                  case rel => exact ⟨_, rfl, HF.out⟩
                · have QD := Ext.drew (Ext.refl wr)
                  have HD := hide (HD.out.ext QD)
                  have HR := hide (HR.out.ext QD)
                  have XX := hide (XX.out.trans QD)
                  have KB1 := hide (QD.blk KB1.out)
                  have KO1 := hide (QD.blk KO1.out)
                  clear QD
                  obtain ⟨yy, dead', T', U', pl', N', t1, t2, t3, c1, c2⟩ := wr_both HD.out HR.out HP.out (by omega) (by omega) (fun k hk => Nat.le_trans XX.out.size hk) at_ (fillB f j) (some ⟨bb, off2, none⟩) j j (by simp [fillB]) (fun h => by cases h) (fun w' ht => fill_reads (ht.blk KB1.out (by decide) (by decide) (by decide)) hcc) (fun w1 w' ht ht2 => fill_reads (turn_rt KB1.out ht ht2 (by decide) (by decide) (by decide) (by decide) (by decide) (by decide)) hcc)
                  have C1 := hide c1
                  have C2 := hide c2
                  have T1 := hide t1
                  have T3 := hide t3
                  clear c1 c2 t1 t3
                  rcases h4 with rfl | rfl | rfl | rfl
                  all_goals
                    go_wp2_with (fail)
                    go_region_held3 (fun w' => w'.cell? ⟨ob, 1, none⟩ = some (.int .i64 at_)) (first | exact y1 | exact Y5.out | exact Y6.out)
                      (first
                        | (go_at_call 12; refine ((C1.out : _)).mono ?_; rintro e w5 ⟨rfl, h5, u5⟩; have H5 := hide h5; have U5 := hide u5; have KO5 := hide (u5.blk KO1.out (by decide) (by decide) (by decide)); have Y5 := hide (KO5.out.cells5.2.1); clear h5 u5)
                        | (go_at_call 24; refine (C2.out _ U5.out).mono ?_; rintro e w6 ⟨rfl, h6, u6⟩; have Y6 := hide ((u6.blk KO5.out (by decide) (by decide) (by decide)).cells5.2.1); have HF := hide (show St W w6 d r k0 (i + 1) from ⟨dead', T', U', pl', N', H5.out.rturn u6, h6, u6.ext (U5.out.ext XX.out (fun _ _ h => h)), by rw [T1.out, HT.out], by omega, T3.out⟩); clear h6 u6))
                    all_goals
                      go_wp2_with (fail)
                      go_meet
                      case rel => exact ⟨_, rfl, HF.out⟩
                · have hmk := made
                  go_wp2_with (fail)
                  refine (copy_any (Fr W) (Fr W) wr d N dead T U pl HD.out (by omega)).mono ?_
                  rintro e w5 ⟨g', rfl, h5, x5⟩
                  have D5 := hide ((HD.out.to (Y' := fun k => W.heap.size ≤ k ∧ (k < wr.heap.size ∨ w5.heap.size ≤ k)) (fun k hk h => ⟨h, .inl hk⟩) (fun _ _ h => h)).ext x5)
                  have P5 := hide (h5.to (Y' := fun k => wr.heap.size ≤ k ∧ k < w5.heap.size) (fun k hk h => ⟨h, hk⟩) (fun _ _ h => h))
                  have R5 := hide (HR.out.ext x5)
                  have X5 := hide (XX.out.trans x5)
                  have HWr := hide XX.out.size
                  clear h5 x5 HD HR KO1 KB1 y0 y1 y2 y3 y4
                  go_wp2_with (fail)
                  obtain ⟨w6, hw6⟩ : ∃ w6, w6 = w5.alloc (.cells (arr 0 64) 5) := ⟨_, rfl⟩
                  obtain ⟨zb, hzb⟩ : ∃ zb, zb = w5.heap.size := ⟨_, rfl⟩
                  have Q6 := show Ext w5 w6 by rw [hw6]; exact Ext.new _ _
                  have Z6 := hide (show Blk w6 zb 5 (arr 0 64) by rw [hw6, hzb]; exact Blk.new w5 5 _)
                  have D6 := hide (D5.out.ext Q6)
                  have P6 := hide (P5.out.ext Q6)
                  have R6 := hide (R5.out.ext Q6)
                  have X6 := hide (X5.out.trans Q6)
                  have S6 := hide (Q6.size)
                  rw [← hw6, ← hzb]
                  clear hw6 hzb Q6 hmk
                  have DJ := hide (fun (k : Nat) (h1 : wr.heap.size ≤ k ∧ k < w5.heap.size) (h2 : W.heap.size ≤ k ∧ (k < wr.heap.size ∨ w5.heap.size ≤ k)) => (show False by omega) : ∀ k : Nat, (wr.heap.size ≤ k ∧ k < w5.heap.size) → ¬ (W.heap.size ≤ k ∧ (k < wr.heap.size ∨ w5.heap.size ≤ k)))
                  obtain ⟨yy, dead', T', U', pl', N', t1, t2, t3, c1, _⟩ := wr_both D6.out R6.out HP.out (by omega) (by omega) (fun k hk => Nat.le_trans X6.out.size hk) 0 (rep 0) (some ⟨zb, 0, none⟩) 64 64 (rep_len 0) (fun h => by cases h) (fun w' ht => reads_full (c := 0) (ht.blk Z6.out (by decide) (by decide) (by decide)) (by decide)) (fun w1 w' ht ht2 => reads_full (c := 0) (turn_rt Z6.out ht ht2 (by decide) (by decide) (by decide) (by decide) (by decide) (by decide)) (by decide))
                  have C1 := hide c1
                  have T1 := hide t1
                  clear c1 t1 t3
                  refine C1.out.mono ?_
                  rintro e w7 ⟨rfl, h7, u7⟩
                  have D7 := hide h7
                  have U7 := hide u7
                  clear h7 u7
                  go_wp2_with (fail)
                  refine (crash_any _ _ w7 d N' dead' T' U' pl' none 0 0 [] D7.out (by omega) (by have := T1.out; omega) rfl (fun w' ht => Reads.none_) (by omega)).mono ?_
                  rintro e w8 ⟨rfl, _, u8⟩
                  have HF := hide (show St W w8 g' r k0 (i + 1) from ⟨dead, T, U, pl, N, ((P6.out.turn U7.out DJ.out).turn u8 DJ.out).to (fun k _ h => Nat.le_trans HWr.out h.1) (fun _ _ h => h), (R6.out.turn U7.out).turn u8, u8.ext (U7.out.ext X6.out (fun _ _ h => h.1)) (fun _ _ h => h.1), HT.out, by omega, HP.out⟩)
                  clear u8
                  go_wp2_with (fail)
                  go_meet
                  case rel => exact ⟨_, rfl, HF.out⟩
              case rest =>
                obtain ⟨d', rfl, hs⟩ := hcut
                have HS := hide hs.out
                clear hs y0 y1 y2 y3 y4 hq
                obtain ⟨dead, T, U, pl, N, s1, s2, s3, s4, s5, s6⟩ := HS.out
                have HD := hide s1
                have HR := hide s2
                have hT20 : T.length ≤ 20 := by omega
                clear s1 s2 s3 s4 s6
                go_wp2_with (fail)
                refine (same_any HD.out HR.out (by omega) (by omega)).mono ?_
                rintro e w7 ⟨rfl, h7⟩
                have HF := hide (HS.out.ext h7)
                clear h7
                go_wp2_with (fail)
                go_roundw
                case rel => exact ⟨i + 1, by omega, by go_num, _, rfl, HF.out⟩
                case measure => simp [intOf]; omega
    · obtain rfl : i = n := by omega
      have HE := hide (BW.out.trans XW.out)
      clear HS
      go_wp2
      go_ret
      exact ⟨rfl, HE.out⟩
end Go.Proofs.Ytpbenpkgbhmldaa.tileAll
