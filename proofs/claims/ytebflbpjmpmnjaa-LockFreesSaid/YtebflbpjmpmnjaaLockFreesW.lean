/- LockFrees: the walk. -/
import Derived.Test.YtebflbpjmpmnjaaLockC
import Derived.Deep.DeepCutAuto
import Derived.IntWalk
import Derived.Deep.CutBlock
namespace Go.Proofs.Ytebflbpjmpmnjaa.lockFrees
open Go.ChangeShapes Go.WideShapes Go.ChangeAt Go.RowKit Go.Maps
set_option linter.unusedVariables false

/-- the counts, up to one -/
def Cnts (F : ByteArray → Int → Int) (w : World) (h j : Nat) : Prop := ∃ a1 a2 a3 : Nat, Blk w h 47 #[.int .i64 0, .int .i64 (a1 : Int), .int .i64 (a2 : Int), .int .i64 (a3 : Int)] ∧ (1 < j → Cn F 1 a1) ∧ (2 < j → Cn F 2 a2) ∧ (3 < j → Cn F 3 a3)
section
variable {F : ByteArray → Int → Int} {w w' : World} {h j k n : Nat}
theorem Cnts.ext (hc : Cnts F w h j) (he : Ext w w') : Cnts F w' h j := by
  obtain ⟨a1, a2, a3, hb, r⟩ := hc
  exact ⟨a1, a2, a3, he.blk hb, r⟩
theorem Cnts.lt (hc : Cnts F w h j) : h < w.heap.size := by obtain ⟨a1, a2, a3, hb, r⟩ := hc; exact hb.lt
theorem Cnts.frozen (hc : Cnts F w h j) (k : Nat) : w.frozen? ⟨h, k, none⟩ = false := by obtain ⟨a1, a2, a3, hb, r⟩ := hc; exact hb.frozen k
theorem Cnts.blk (hc : Cnts F w h j) : ∃ cs, Blk w h 47 cs := by obtain ⟨a1, a2, a3, hb, r⟩ := hc; exact ⟨_, hb⟩
theorem Cnts.some_ (hc : Cnts F w h j) (hk : k < 4) : ∃ u, w.cell? ⟨h, k, none⟩ = some u := by
  obtain ⟨a1, a2, a3, hb, r⟩ := hc
  rw [hb.cell]
  rcases (show k = 0 ∨ k = 1 ∨ k = 2 ∨ k = 3 by omega) with rfl | rfl | rfl | rfl <;> exact ⟨_, rfl⟩
theorem Cnts.at_ (hc : Cnts F w h j) (hk : k < 4) (h1 : 1 ≤ k) (hj : k < j) : ∃ a : Nat, w.cell? ⟨h, k, none⟩ = some (.int .i64 (a : Int)) ∧ Cn F (k : Int) a := by
  obtain ⟨a1, a2, a3, hb, c1, c2, c3⟩ := hc
  rw [hb.cell]
  rcases (show k = 1 ∨ k = 2 ∨ k = 3 by omega) with rfl | rfl | rfl
  · exact ⟨a1, rfl, c1 (by omega)⟩
  · exact ⟨a2, rfl, c2 (by omega)⟩
  · exact ⟨a3, rfl, c3 (by omega)⟩
theorem Cnts.step (hc : Cnts F w h j) (h1 : 1 ≤ j) (h4 : j < 4) (hn : Cn F (j : Int) n) : Cnts F (w.setCell ⟨h, j, none⟩ (.int .i64 (n : Int))) h (j + 1) := by
  obtain ⟨a1, a2, a3, hb, c1, c2, c3⟩ := hc
  rcases (show j = 1 ∨ j = 2 ∨ j = 3 by omega) with rfl | rfl | rfl
  · exact ⟨n, a2, a3, hb.set_ 1 _, fun _ => hn, by omega, by omega⟩
  · exact ⟨a1, n, a3, hb.set_ 2 _, fun _ => c1 (by omega), fun _ => hn, by omega⟩
  · exact ⟨a1, a2, n, hb.set_ 3 _, fun _ => c1 (by omega), fun _ => c2 (by omega), fun _ => hn⟩
end
set_option maxRecDepth 100000 in
set_option maxHeartbeats 16000000 in
theorem walk_short (A : Option Addr) (c k0 : Nat) (l : List UInt8) (b : Nat) (w : World) (hl : l.length = k0) (hr : Reads w w.heap.size 1 A k0 (bv l)) (hb : b < 256) (h20 : (k0 : Int) ≤ 20) :
    Calls Try.prog 7 #[.slice A k0 c, .int .u8 b] w fun e w' => e = .returned (.bool true) ∧ Ext w w' := by
  have HL := hide hl
  have HR := hide hr
  clear hl hr
  obtain ⟨v, hv⟩ : ∃ v : Nat, v = b % 3 := ⟨_, rfl⟩
  have hv1 : (b : Int) % 3 = (v : Int) := by omega
  have hv3 : (v : Int) < 3 := by omega
  have hv0 : (0 : Int) ≤ (v : Int) := by omega
  clear hv
  obtain ⟨q, hq⟩ : ∃ q : Nat, q = 1 + v := ⟨_, rfl⟩
  have hq1 : 1 + (v : Int) = (q : Int) := by omega
  have hqw := hide (wf_big (x := (q : Int)) (by omega) (by omega))
  have hq0 : 1 ≤ q := by omega
  have hq4 : q ≤ 3 := by omega
  clear hq
  go_enter Try.func7, Try.ntmps7
  go_wp2_with (go_at_call 8; refine (begun_any _).mono ?_; rintro e W ⟨rfl, b1⟩)
  refine (has_new W).mono ?_
  rintro e wa ⟨rfl, ha'⟩
  have BW := hide b1
  have HA := hide ha'
  clear ha' b1
  go_wp2_with (fail)
  go_loopw [6] (fun s6 wr => (∃ i : Nat, i ≤ k0 ∧ s6 = .int .i64 i ∧ Hid (∃ F, Has W wr (W.heap.size + 1) i i F))) (fun s6 _ => (k0 - intOf s6).toNat)
  case atStart => exact ⟨0, by omega, rfl, _, HA.out⟩
  case round =>
    obtain ⟨i, hi, rfl, hs⟩ := hrel
    obtain ⟨F, hF⟩ := hs.out
    have HF := hide hF
    clear hs
    by_cases hlt : i < k0
    · obtain ⟨bk, off, hAe, hbw, hcell⟩ := HR.out.plain (by omega) (by omega)
      subst hAe
      obtain ⟨n, hn⟩ : ∃ n, n = (l.getD i 0).toNat := ⟨_, rfl⟩
      have hn256 : n < 256 := by rw [hn]; exact UInt8.toNat_lt _
      have g0 : wr.cell? ⟨bk, off + i, none⟩ = some (.int .u8 (n : Int)) :=
        ((BW.out.trans hF.world).cell (p := ⟨bk, off + i, none⟩) hbw).trans (hcell i _ (by subst hn; have := HL.out; simp [bv, show i < l.length by omega]))
      have hbW : bk < W.heap.size := Nat.lt_of_lt_of_le hbw BW.out.size
      have hbr : bk < wr.heap.size := Nat.lt_of_lt_of_le hbW hF.world.size
      obtain ⟨x, hx⟩ : ∃ x : Nat, x = n % 3 := ⟨_, rfl⟩
      obtain ⟨y, hy⟩ : ∃ y : Nat, y = n / 3 := ⟨_, rfl⟩
      obtain ⟨z0, hz0⟩ : ∃ z0 : Nat, z0 = n / 15 := ⟨_, rfl⟩
      obtain ⟨z, hz⟩ : ∃ z : Nat, z = z0 % 4 := ⟨_, rfl⟩
      have ex : (n : Int).tmod 3 = (x : Int) := by rw [IntWalk.rem_in _ _ (by omega)]; omega
      have ey : (n : Int) / 3 = (y : Int) := by omega
      have ez0 : (n : Int) / 15 = (z0 : Int) := by omega
      have ez : (z0 : Int).tmod 4 = (z : Int) := by rw [IntWalk.rem_in _ _ (by omega)]; omega
      have hx3 : (x : Int) < 3 := by omega
      have hx0 : (0 : Int) ≤ (x : Int) := by omega
      have hy2 : y < 256 := by omega
      have hz3 : (z : Int) < 4 := by omega
      have hz00 : (0 : Int) ≤ (z : Int) := by omega
      have hz0b : (z0 : Int) ≤ 17 := by omega
      have hz0c : (0 : Int) ≤ (z0 : Int) := by omega
      have hn0 : (0 : Int) ≤ (n : Int) := by omega
      have hni : (n : Int) ≤ 255 := by omega
      have HXW := hide (wf_big (x := 1 + (x : Int)) (by omega) (by omega))
      have HZW := hide (show (0 : Int) < 1 + (z : Int) ∧ 1 + (z : Int) ≤ 4 by omega)
      have Hi := hide (show i ≤ 1000 by omega)
      have ux : IntKind.u8.wrap (x : Int) = (x : Int) := IntWalk.u8_in _ (by omega)
      have ix : IntKind.i64.wrap (x : Int) = (x : Int) := IntWalk.i64_in _ (by omega)
      have uy : IntKind.u8.wrap (y : Int) = (y : Int) := IntWalk.u8_in _ (by omega)
      have iy : IntKind.i64.wrap (y : Int) = (y : Int) := IntWalk.i64_in _ (by omega)
      have uz0 : IntKind.u8.wrap (z0 : Int) = (z0 : Int) := IntWalk.u8_in _ (by omega)
      have iz0 : IntKind.i64.wrap (z0 : Int) = (z0 : Int) := IntWalk.i64_in _ (by omega)
      have uz : IntKind.u8.wrap (z : Int) = (z : Int) := IntWalk.u8_in _ (by omega)
      have iz : IntKind.i64.wrap (z : Int) = (z : Int) := IntWalk.i64_in _ (by omega)
      have jx : IntKind.i64.wrap (1 + (x : Int)) = 1 + (x : Int) := IntWalk.i64_in _ (by omega)
      have jz : IntKind.i64.wrap (1 + (z : Int)) = 1 + (z : Int) := IntWalk.i64_in _ (by omega)
      clear hcell hn hx hy hz0 hz hF
      go_wp2_with (fail)
      go_region_held3 (fun w' => w'.cell? ⟨bk, off + i, none⟩ = some (.int .u8 (n : Int))) (first | with_reducible exact Yb.out | with_reducible exact Ya.out | go_keep)
        (first
          | (go_at_call 15; (with_reducible refine (name_any y (y % 5) _ hy2 rfl).mono ?_); rintro e wa ⟨rfl, a1⟩; have XA := hide ((Ext.refl wr).drew.trans a1); have Ya := hide ((XA.out.cell (p := ⟨bk, off + i, none⟩) hbr).trans g0); clear a1)
          | (go_at_call 10; (with_reducible refine (ask_any W wa _ i i F _ (1 + (x : Int)) (1 + (z : Int)) (HF.out.ext XA.out) HXW.out (nm_size _) HZW.out.1 HZW.out.2 Hi.out Hi.out).mono ?_); rintro e wb ⟨vv, F', rfl, hb'⟩; have HB := hide hb'; have Yb := hide ((HB.out.world.cell (p := ⟨bk, off + i, none⟩) hbW).trans ((HF.out.world.cell (p := ⟨bk, off + i, none⟩) hbW).symm.trans g0)); clear hb'))
      go_wp2
      go_roundw
      case rel => exact ⟨i + 1, by omega, by go_num, F', HB.out⟩
      case measure => simp [intOf]; omega
    · obtain rfl : i = k0 := by omega
      have hi20 : i ≤ 1048576 := by omega
      clear hF
      go_wp2_with (fail)
      rw [hv1]
      obtain ⟨w2, hw2⟩ : ∃ w2, w2 = wr.alloc (.cells #[.int .i64 0, .int .i64 0, .int .i64 0, .int .i64 0] 47) := ⟨_, rfl⟩
      rw [← hw2]
      have HF2 := hide (show Has W w2 (W.heap.size + 1) i i F by rw [hw2]; exact HF.out.ext (Ext.new _ _))
      have KB2 := hide (show Cnts F w2 wr.heap.size 1 from ⟨0, 0, 0, by rw [hw2]; exact Blk.new _ _ _, by omega, by omega, by omega⟩)
      have hWw : W.heap.size ≤ wr.heap.size := HF.out.world.size
      obtain ⟨hb0, hhb⟩ : ∃ hb0, hb0 = wr.heap.size := ⟨_, rfl⟩
      rw [← hhb] at KB2 hWw ⊢
      clear hw2 hhb HF
      go_loopw [9] (fun s9 wr => (∃ j : Nat, 1 ≤ j ∧ j ≤ 4 ∧ s9 = .int .i64 j ∧ Hid (Has W wr (W.heap.size + 1) i i F ∧ Cnts F wr hb0 j))) (fun s9 _ => (4 - intOf s9).toNat)
      case atStart => exact ⟨1, by omega, by omega, rfl, HF2.out, KB2.out⟩
      case round =>
        obtain ⟨j, hj1, hj4, rfl, hs⟩ := hrel
        have hbr : hb0 < wr.heap.size := hs.out.2.lt
        by_cases hlt : j < 4
        · have hw1 := hide (wf_big (x := (j : Int)) (by omega) (by omega))
          have hj3 : (j : Int) ≤ 3 := by omega
          go_wp2_with (go_at_call 18; refine (locks_cnt W _ _ i i F (j : Int) hs.out.1 hw1.out hi20).mono ?_; rintro e w3 ⟨A3, n3, c3, rfl, hn3, hx3⟩; have KB3 := hide (hs.out.2.ext hx3); obtain ⟨u0, y1⟩ := KB3.out.some_ hlt; have f1 := KB3.out.frozen j; have N3 := hide hn3; have H3 := hide (hs.out.1.ext hx3); clear hn3 hx3)
          have hn1 := hide (show Has W (w3.setCell ⟨hb0, j, none⟩ (.int .i64 n3)) (W.heap.size + 1) i i F by obtain ⟨cs, hcs⟩ := KB3.out.blk; exact H3.out.set_ hcs (by decide) hWw)
          have hk1 := hide (KB3.out.step hj1 hlt N3.out)
          go_roundw
          case rel => exact ⟨j + 1, by omega, by omega, by go_num, hn1.out, hk1.out⟩
          case measure => simp [intOf]; omega
        · have hj3 : (3 : Int) < (j : Int) := by omega
          obtain rfl : j = 4 := by omega
          have K4 := hide hs.out.2
          have H4 := hide hs.out.1
          clear hlt hs HF2 KB2 hj3
          go_wp2_with (fail)
          refine (has_free W _ _ i i F (q : Int) H4.out hqw.out).mono ?_
          rintro e w5 ⟨rfl, h5, cel5⟩
          have K5 := hide (show Cnts F w5 hb0 4 by obtain ⟨a1, a2, a3, hb, r⟩ := K4.out; exact ⟨a1, a2, a3, cel5 _ _ _ hb, r⟩)
          have H5 := hide h5
          clear h5 cel5 K4 H4
          go_wp2_with (fail)
          go_loopw [10, 11] (fun s10 _ wr => (∃ j : Nat, 1 ≤ j ∧ j ≤ 4 ∧ s10 = .int .i64 j ∧ Hid (Ext w5 wr))) (fun s10 _ _ => (4 - intOf s10).toNat)
          case atStart => exact ⟨1, by omega, by omega, rfl, Ext.refl _⟩
          case round =>
            obtain ⟨j, hj1, hj4, rfl, hx⟩ := hrel
            by_cases hlt : j < 4
            · have hw1 := hide (wf_big (x := (j : Int)) (by omega) (by omega))
              have hj3 : (j : Int) ≤ 3 := by omega
              obtain ⟨a, ha, hcn⟩ := (K5.out.ext hx.out).at_ hlt hj1 hlt
              have HCN := hide hcn
              have HA5 := hide ha
              have hbl := hide (K5.out.ext hx.out).lt
              clear hcn ha
              by_cases hjq : j = q
              · subst hjq
                go_wp2_with (go_at_call 18; refine (locks_cnt W _ _ i i (freeF F (j : Int)) (j : Int) (H5.out.ext hx.out) hw1.out hi20).mono ?_; rintro e w3 ⟨A3, n3, c3, rfl, hn3, hx3⟩; obtain rfl : n3 = 0 := hn3.none_ (fun s => by unfold freeF; rw [if_pos rfl]); have HX3 := hide (hx.out.trans hx3); clear hn3 hx3)
                go_roundw
                case rel => exact ⟨j + 1, by omega, by omega, by go_num, HX3.out⟩
                case measure => simp [intOf]; omega
              · have e0 : ((j : Int) == (q : Int)) = false := by simp; omega
                have e1 : ((j : Int) != (q : Int)) = true := by simp; omega
                go_wp2_with (go_at_call 18; refine (locks_cnt W _ _ i i (freeF F (q : Int)) (j : Int) (H5.out.ext hx.out) hw1.out hi20).mono ?_; rintro e w3 ⟨A3, n3, c3, rfl, hn3, hx3⟩; obtain rfl : n3 = a := hn3.same HCN.out (fun s => by unfold freeF; rw [if_neg (by omega)]); have y1 := (hx3.cell (p := ⟨hb0, j, none⟩) hbl.out).trans HA5.out; have HX3 := hide (hx.out.trans hx3); clear hn3 hx3)
                go_roundw
                case rel => exact ⟨j + 1, by omega, by omega, by go_num, HX3.out⟩
                case measure => simp [intOf]; omega
            · have hj3 : (3 : Int) < (j : Int) := by omega
              have H6 := hide (H5.out.ext hx.out)
              clear hlt hx K5 H5
              obtain ⟨wz, rfl⟩ : ∃ wz, wz = wr := ⟨_, rfl⟩
              go_wp2_with (fail)
              go_loopw [12, 13, 14] (fun s12 _ _ wr => (∃ m : Nat, m ≤ 5 ∧ s12 = .int .u8 m ∧ Hid (Ext wz wr))) (fun s12 _ _ _ => (5 - intOf s12).toNat)
              case atStart => exact ⟨0, by omega, rfl, Ext.refl _⟩
              case round =>
                obtain ⟨m, hm5, rfl, hx⟩ := hrel
                by_cases hlt : m < 5
                · have hmi : (m : Int) < 5 := by omega
                  have hm0 : (0 : Int) ≤ (m : Int) := by omega
                  go_wp2_with (fail)
                  refine (name_any m (m % 5) _ (by omega) rfl).mono ?_
                  rintro e wb ⟨rfl, x1⟩
                  have X1 := hide (hx.out.trans x1)
                  have hf0 : freeF F (q : Int) (nm (m % 5)) (q : Int) = 0 := by unfold freeF; rw [if_pos rfl]
                  have HF0 := hide hf0
                  clear x1 hf0
                  go_wp2_with (fail)
                  refine (has_held W _ _ i i (freeF F (q : Int)) (q : Int) (nm (m % 5)) (H6.out.ext X1.out) hqw.out (nm_size _)).mono ?_
                  rintro e wc ⟨rfl, rfl⟩
                  rw [HF0.out]
                  go_wp2_with (fail)
                  refine (name_any m (m % 5) _ (by omega) rfl).mono ?_
                  rintro e wc ⟨rfl, x2⟩
                  have X2 := hide (X1.out.trans x2)
                  clear x2
                  go_wp2_with (fail)
                  refine (has_holders W _ _ i i (freeF F (q : Int)) (nm (m % 5)) (H6.out.ext X2.out) (nm_size _) hi20).mono ?_
                  rintro e wd ⟨v9, L, rfl, q1, q2, q3, q4, q5, q6⟩
                  obtain ⟨A9, c9, rfl, _⟩ := own_form q5
                  obtain ⟨p, hp⟩ : ∃ p, p = L.length := ⟨_, rfl⟩
                  rw [← hp] at q3 ⊢
                  have HP := hide hp
                  have Q2 := hide q2
                  have Q4 := hide q4
                  have QR := hide (show Reads wd wd.heap.size 1 A9 p (iv L) by rw [hp]; exact Reads.of_own q5)
                  have X3 := hide (X2.out.trans q6)
                  clear hp q1 q2 q4 q5 q6
                  go_wp2_with (fail)
                  go_loopw [14] (fun s14 wr => (∃ k : Nat, k ≤ p ∧ s14 = .int .i64 k ∧ Hid (Ext wd wr))) (fun s14 _ => (p - intOf s14).toNat)
                  case atStart => exact ⟨0, by omega, rfl, Ext.refl _⟩
                  case round =>
                    obtain ⟨k, hkp, rfl, hy⟩ := hrel
                    by_cases hltk : k < p
                    · obtain ⟨bk, off, hAe, hbw, hcell⟩ := QR.out.plain (by omega) (by omega)
                      subst hAe
                      obtain ⟨x, hxk⟩ : ∃ x, L[k]? = some x := ⟨_, List.getElem?_eq_getElem (by have := HP.out; omega)⟩
                      have hxL := List.mem_of_getElem? hxk
                      have hne := (Q2.out x).1 hxL
                      have hxq : x ≠ (q : Int) := fun e => hne (by rw [e]; exact HF0.out)
                      have e0 : (x == (q : Int)) = false := by simpa using hxq
                      have g0 := (hy.out.cell (p := ⟨bk, off + k, none⟩) hbw).trans (hcell k (.int .i64 x) (by simp [iv, hxk]))
                      have hbr : bk < wr.heap.size := Nat.lt_of_lt_of_le hbw hy.out.size
                      have HXW := hide (Q4.out x hxL)
                      obtain ⟨d, hd⟩ : ∃ d, d = freeF F (q : Int) (nm (m % 5)) x := ⟨_, rfl⟩
                      rw [← hd] at hne
                      have e9 : (d == 0) = false := by simpa using hne
                      have HD := hide hd
                      clear hxk hxL hxq hcell hd hne
                      go_wp2_with (fail)
                      go_region_held3 (fun w' => w'.cell? ⟨bk, off + k, none⟩ = some (.int .i64 x)) (first | with_reducible exact Ya.out | go_keep)
                        (first
                          | (go_at_call 15; (with_reducible refine (name_any m (m % 5) _ (by omega) rfl).mono ?_); rintro e wa ⟨rfl, a1⟩; have XA := hide ((Ext.refl wr).drew.trans a1); have Ya := hide ((XA.out.cell (p := ⟨bk, off + k, none⟩) hbr).trans g0); clear a1)
                          | (go_at_call 12; refine (has_held W wa _ i i (freeF F (q : Int)) x (nm (m % 5)) (H6.out.ext ((X3.out.trans hy.out).trans XA.out)) HXW.out (nm_size _)).mono ?_; rintro e w' ⟨rfl, rfl⟩; rw [← HD.out]))
                      go_wp2
                      go_roundw
                      case rel => exact ⟨k + 1, by omega, by go_num, hy.out.trans XA.out⟩
                      case measure => simp [intOf]; omega
                    · obtain rfl : k = p := by omega
                      have HZ := hide (X3.out.trans hy.out)
                      clear hltk hy
                      go_wp2
                      go_roundw
                      case rel => exact ⟨m + 1, by omega, by go_num, HZ.out⟩
                      case measure => simp [intOf]; omega
                · obtain rfl : m = 5 := by omega
                  have HZ := hide (BW.out.trans (H6.out.world.trans hx.out))
                  clear hlt hx
                  go_wp2
                  go_ret
                  exact ⟨rfl, HZ.out⟩
end Go.Proofs.Ytebflbpjmpmnjaa.lockFrees
