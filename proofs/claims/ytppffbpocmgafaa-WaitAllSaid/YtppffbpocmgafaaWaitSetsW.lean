/- WaitSets: the walk. -/
import Derived.Test.YtppffbpocmgafaaWaitSetsP
import Derived.RegionTactic
import Derived.Outline
namespace Go.Proofs.Ytppffbpocmgafaa.waitSets
open Go.ChangeShapes Go.WideShapes Go.ChangeAt Go.RowKit Go.Maps
set_option linter.unusedVariables false

theorem _root_.Go.Proofs.Ytppffbpocmgafaa.Has.far {W w w' : World} {g N c ib : Nat} {ks : List Int} {E : Int → Int → Bool} {t : TypeId} {cs : Array Value} (h : Has W w g N c ks E) (hb : Blk w ib t cs) (ht : t ≠ 50) (hi : W.heap.size ≤ ib) (T : Touch w w' (fun k => k = ib)) : Has W w' g N c ks E := by
  obtain ⟨m, f, h1, h2⟩ := h
  have hg : ¬ g = ib := fun e => Blk.ne_ h1.blk (e ▸ hb) (fun e => ht e.symm) rfl
  have hm : ¬ m = ib := fun e => by obtain ⟨D, h', _⟩ := h1.out; exact map_ne hb (e ▸ h') rfl
  refine ⟨m, f, ⟨T.blk h1.blk hg, h1.out.touch T hm, h1.no, fun x b hx => ⟨(h1.yes x b hx).1.touch T (fun e => ?_), (h1.yes x b hx).2⟩, h1.inj, h1.fin, h1.hg, h1.hm⟩, Touch.ext h2 T hi⟩
  obtain ⟨D, h', _⟩ := (h1.yes x b hx).1
  exact map_ne hb (e ▸ h') rfl
/-- the first list is being read -/
structure S1 (W w0 wr : World) (ib : Nat) (la : List UInt8) (v : Value) (k : Nat) : Prop where
  arr : Blk wr ib 35 (inA fun _ => false)
  own : wr.ownsRow w0.heap.size 3 1 v k (iv (ml la k))
  ext : Ext w0 wr
theorem S1.step {W w0 wr w2 : World} {ib : Nat} {la : List UInt8} {v v1 : Value} {k d : Nat} (h : S1 W w0 wr ib la v k) (hd : d = dg la k)
    (ho : w2.ownsRow w0.heap.size 3 1 v1 (k + 1) (iv (ml la k) ++ [.int .i64 (d : Int)])) (hg : (wr.alloc (.cells #[.int .i64 (d : Int)] 3)).grownBy w2 v.ownBlock) : S1 W w0 w2 ib la v1 (k + 1) := by
  subst hd
  refine ⟨(h.arr.alloc _).grown hg (fun e => own_blk_ne h.own h.arr (by decide) e.symm), ?_, Ext.grown (h.ext.alloc _) hg (fun z hz => (h.own.lt z hz).1)⟩
  rw [ml_succ]
  simpa [iv] using ho
/-- the second list is being read -/
structure S2 (w0 wr : World) (ib : Nat) (lb : List UInt8) (v : Value) (k : Nat) : Prop where
  arr : Blk wr ib 35 (inA (inF lb k))
  own : wr.ownsRow w0.heap.size 3 1 v k (iv (ml lb k))
  to : Touch w0 wr (fun x => x = ib)
theorem S2.step {w0 wr w2 : World} {ib : Nat} {lb : List UInt8} {v v1 : Value} {k d : Nat} (h : S2 w0 wr ib lb v k) (hd : d = dg lb k)
    (ho : w2.ownsRow w0.heap.size 3 1 v1 (k + 1) (iv (ml lb k) ++ [.int .i64 (d : Int)])) (hg : (wr.alloc (.cells #[.int .i64 (d : Int)] 3)).grownBy w2 v.ownBlock) :
    Blk w2 ib 35 (inA (inF lb k)) ∧ S2 w0 (w2.drew.setCell ⟨ib, d, none⟩ (.bool (decide (d ≠ 3)))) ib lb v1 (k + 1) := by
  have b2 := (h.arr.alloc (.cells #[.int .i64 (d : Int)] 3)).grown hg (fun e => own_blk_ne h.own h.arr (by decide) e.symm)
  have t2 : Touch w0 w2 (fun x => x = ib) := (h.to.alloc _).grown hg (fun z hz hlt => by have := (h.own.lt z hz).1; omega)
  refine ⟨b2, ?_, ?_, Touch.setCell (p := ⟨ib, d, none⟩) t2.drew (fun _ => rfl) _⟩
  · have := b2.drew.set_ d (.bool (decide (d ≠ 3)))
    rw [inA_set (inF lb k) (inF lb (k + 1)) (by rw [hd]; exact dg_lt lb k) (decide (d ≠ 3)) (by rw [inF_succ, if_pos hd, hd]) (fun e he => by rw [inF_succ, if_neg (by rw [← hd]; exact he)])] at this
    exact this
  · subst hd
    rw [ml_succ]
    refine own_far (w := w2.drew) (p := ⟨ib, dg lb k, none⟩) ?_ (fun e => own_blk_ne ho b2 (by decide) e) _
    exact (show w2.ownsRow _ _ _ _ _ _ by simpa [iv] using ho)
set_option maxRecDepth 100000 in
set_option maxHeartbeats 8000000 in
theorem walk_short (A B : Option Addr) (c d : Nat) (la lb : List UInt8) (na nb : Nat) (w : World) (ha : Reads w w.heap.size 1 A na (bv la)) (hb : Reads w w.heap.size 1 B nb (bv lb)) (hna : la.length = na) (hnb : lb.length = nb) (h1 : (na : Int) ≤ 8) (h2 : (nb : Int) ≤ 8) :
    Calls Try.prog 4 #[.slice A na c, .slice B nb d] w fun e w' => e = .returned (.bool true) ∧ Ext w w' := by
  obtain ⟨i0, hi0, iz0, iz1, iz2⟩ := info_parts Try.info3'
  have HA := hide ha
  have HB := hide hb
  have LA := hide hna
  have LB := hide hnb
  clear ha hb hna hnb
  go_enter Try.func4, Try.ntmps4
  go_wp2_with (go_at_call 7; refine (begun_any _).mono ?_; rintro e W ⟨rfl, b1⟩)
  refine (has_new W).mono ?_
  rintro e w1 ⟨rfl, hg⟩
  have HG := hide ((hg.ext (Ext.new w1 (.cells (inA fun _ => false) 35))).more (c' := 8) (by omega))
  have EW := hide (b1.trans (hg.world.alloc (.cells (inA fun _ => false) 35)))
  have hzW : W.heap.size ≤ w1.heap.size := hg.world.size
  have hzw : w.heap.size ≤ W.heap.size := b1.size
  have BW := hide b1
  have K0 := hide (Blk.new w1 35 (inA fun _ => false))
  clear b1 hg
  go_wp2_with (fail)
  obtain ⟨w0, hw0⟩ : ∃ w0, w0 = w1.alloc (.cells (inA fun _ => false) 35) := ⟨_, rfl⟩
  have e0 : w1.alloc (.cells #[.bool false, .bool false, .bool false, .bool false, .bool false, .bool false, .bool false, .bool false, .bool false, .bool false] 35) = w0 := hw0.symm
  rw [e0]
  rw [← hw0] at HG EW K0
  have hz0 : w1.heap.size < w0.heap.size := K0.out.lt
  clear e0 hw0
  go_loopw [6, 9] (fun s6 s9 wr => (∃ k : Nat, k ≤ na ∧ s9 = .int .i64 k ∧ Hid (S1 W w0 wr w1.heap.size la s6 k))) (fun _ s9 _ => (na - intOf s9).toNat)
  case atStart => exact ⟨0, by omega, rfl, K0.out, World.ownsRow_nil _ _ _ _, Ext.refl _⟩
  case round =>
    obtain ⟨k, hk, rfl, hs⟩ := hrel
    by_cases hlt : k < na
    · obtain ⟨b, off, hAe, hbw, hcell⟩ := HA.out.plain (by omega) (by omega)
      subst hAe
      have hkl : k < la.length := by have := LA.out; omega
      obtain ⟨n, hn⟩ : ∃ n, n = (la.getD k 0).toNat := ⟨_, rfl⟩
      obtain ⟨q, hq⟩ : ∃ q, q = dg la k := ⟨_, rfl⟩
      have hnq : (n : Int) % 10 = (q : Int) := by subst hn hq; simp [dg]
      have hn256 : n < 256 := by subst hn; exact UInt8.toNat_lt _
      have hq10 : q < 10 := by subst hq; exact dg_lt la k
      have g0 : wr.cell? ⟨b, off + k, none⟩ = some (.int .u8 (n : Int)) := ((EW.out.trans hs.out.ext).cell (p := ⟨b, off + k, none⟩) (show b < w.heap.size from hbw)).trans (hcell k _ (by subst hn; simp [bv, hkl]))
      have own1 := hide (hs.out.own.alloc (.cells #[.int .i64 (q : Int)] 3))
      have news := hide (reads_blk (m := 1) (Blk.new wr 3 #[.int .i64 (q : Int)]) rfl)
      have HQ := hide hq
      have hz : w0.heap.size ≤ wr.heap.size := hs.out.ext.size
      clear hcell hn hq hkl
      go_wp2_with (at_builtin; refine wpList_append_any _ rfl (.tmp 31) (.tmp 38) _ rfl w0.heap.size 3 i0 _ 1 8 Try.underlying26 hi0 iz0 iz1 iz2 rfl (by omega) u6 k (iv (ml la k)) rfl own1.out _ _ 1 1 [.int .i64 (q : Int)] rfl news.out (by simp [Value.oneCell']) (by unfold maxLen; omega) (by omega) (by simp; omega) ?_; intro v4 w4 ho4 hg4 hat4)
      have hn1 := hide (hs.out.step HQ.out ho4 hg4)
      clear ho4 hg4 hat4
      go_wp2
      go_roundw
      case rel => first | exact ⟨k + 1, by omega, by go_num, hn1.out⟩ | ((repeat apply Exists.intro); exact ⟨⟨k + 1, by omega, by go_num, hn1.out⟩, rfl⟩)
      case measure => simp [intOf]; omega
    · obtain rfl : k = na := by omega
      go_wp2_with (fail)
      have KR := hide hs.out.arr
      have HG1 := hide (HG.out.ext hs.out.ext)
      have EW1 := hide (EW.out.trans hs.out.ext)
      obtain ⟨Ax, cx, hvx, _⟩ := own_form hs.out.own
      subst hvx
      have RX := hide (Reads.of_own hs.out.own)
      have OX := hide hs.out.own
      have hz : w0.heap.size ≤ wr.heap.size := hs.out.ext.size
      have KA := hide (show inA (fun _ => false) = inA (inF lb 0) from congrArg inA (funext fun d => (inF_zero lb d).symm))
      have KR0 := hide (show Blk wr w1.heap.size 35 (inA (inF lb 0)) from KA.out ▸ KR.out)
      clear hs
      obtain ⟨w3, hw3⟩ : ∃ w3, w3 = wr := ⟨_, rfl⟩
      subst hw3
      go_loopw [7, 10] (fun s7 s10 wr => (∃ k : Nat, k ≤ nb ∧ s10 = .int .i64 k ∧ Hid (S2 w3 wr w1.heap.size lb s7 k))) (fun _ s10 _ => (nb - intOf s10).toNat)
      case atStart => exact ⟨0, by omega, rfl, KR0.out, World.ownsRow_nil _ _ _ _, Touch.refl _ _⟩
      case round =>
        obtain ⟨j, hj, rfl, hs⟩ := hrel
        by_cases hlt : j < nb
        · obtain ⟨b, off, hAe, hbw, hcell⟩ := HB.out.plain (by omega) (by omega)
          subst hAe
          have hkl : j < lb.length := by have := LB.out; omega
          obtain ⟨n, hn⟩ : ∃ n, n = (lb.getD j 0).toNat := ⟨_, rfl⟩
          obtain ⟨q, hq⟩ : ∃ q, q = dg lb j := ⟨_, rfl⟩
          have hnq : (n : Int) % 10 = (q : Int) := by subst hn hq; simp [dg]
          have hn256 : n < 256 := by subst hn; exact UInt8.toNat_lt _
          have hq10 : q < 10 := by subst hq; exact dg_lt lb j
          have hb3 : b < w3.heap.size := Nat.lt_of_lt_of_le hbw EW1.out.size
          have hbi : b ≠ w1.heap.size := by omega
          have g0 : wr.cell? ⟨b, off + j, none⟩ = some (.int .u8 (n : Int)) := by
            have h1 : w3.cell? ⟨b, off + j, none⟩ = some (.int .u8 (n : Int)) := (EW1.out.cell (p := ⟨b, off + j, none⟩) (show b < w.heap.size from hbw)).trans (hcell j _ (by subst hn; simp [bv, hkl]))
            exact (World.cell?_of_block (hs.out.to.block b hb3 hbi)).trans h1
          have own1 := hide (hs.out.own.alloc (.cells #[.int .i64 (q : Int)] 3))
          have news := hide (reads_blk (m := 1) (Blk.new wr 3 #[.int .i64 (q : Int)]) rfl)
          have HQ := hide hq
          have hz3 : w3.heap.size ≤ wr.heap.size := hs.out.to.size
          have hbr : b < wr.heap.size := by omega
          have hir : w1.heap.size < wr.heap.size := hs.out.arr.lt
          obtain ⟨Ay, cy, hvy, _⟩ := own_form hs.out.own
          subst hvy
          clear hcell hn hq hkl
          go_wp2_with (at_builtin; refine wpList_append_any _ rfl (.tmp 46) (.tmp 53) _ rfl w3.heap.size 3 i0 _ 1 8 Try.underlying26 hi0 iz0 iz1 iz2 rfl (by omega) (.slice Ay j cy) j (iv (ml lb j)) rfl own1.out _ _ 1 1 [.int .i64 (q : Int)] rfl news.out (by simp [Value.oneCell']) (by unfold maxLen; omega) (by omega) (by simp; omega) ?_; intro v4 w4 ho4 hg4 hat4)
          have hstep := hs.out.step HQ.out ho4 hg4
          have hn1 := hide hstep.2
          have x1 := hstep.1.cell q
          have xf := hstep.1.frozen q
          rw [inA_at _ hq10] at x1
          have x2 : w4.cell? ⟨b, off + j, none⟩ = some (.int .u8 (n : Int)) := by
            have hne : (Value.slice Ay j cy).ownBlock ≠ some b := fun e => by have := (hs.out.own.lt b e).1; omega
            exact (World.cell?_of_block ((hg4.block b (by simp; omega) (fun e => hne e.symm)).trans (Below.heap_alloc wr _ b hbr))).trans g0
          obtain ⟨Az, cz, hvz, _⟩ := own_form ho4
          subst hvz
          clear hstep ho4 hg4 hat4 hs
          have hne3 : ((q : Int) != 3) = decide (q ≠ 3) := by
            rw [Bool.eq_iff_iff]
            simp
            omega
          obtain ⟨b3, hb3'⟩ : ∃ b3, b3 = decide (q ≠ 3) := ⟨_, rfl⟩
          rw [← hb3'] at hne3 hn1
          have hq0 : (0 : Int) ≤ (q : Int) := by omega
          have hq1 : (q : Int) < 10 := by omega
          clear hb3'
          go_region
          all_goals
            go_wp2
            go_roundw
            case rel => first | exact ⟨j + 1, by omega, by go_num, hn1.out⟩ | ((repeat apply Exists.intro); exact ⟨⟨j + 1, by omega, by go_num, hn1.out⟩, rfl⟩)
            case measure => simp [intOf]; omega
        · obtain rfl : j = nb := by omega
          obtain ⟨Ay, cy, hvy, _⟩ := own_form hs.out.own
          subst hvy
          have HG2 := hide (HG1.out.far KR.out (by decide) hzW hs.out.to)
          have EW2 := hide (Touch.ext EW1.out hs.out.to (by omega))
          have KI := hide hs.out.arr
          have OY := hide hs.out.own
          have RX2 := hide ((RX.out.touch hs.out.to (Nat.le_refl _) (fun ad e => by have := OX.out.lt ad.block (by rw [e]; rfl); omega)).more hs.out.to.size)
          have hir : w1.heap.size < wr.heap.size := hs.out.arr.lt
          clear hs
          have w3' : Wf 3 := by unfold Wf; decide
          have W3 := hide w3'
          clear w3'
          go_wp2_with (fail)
          refine (has_set W _ _ 0 8 [] (fun _ _ => false) 3 _ _ k (ml la k) HG2.out (ml_length la k) RX2.out W3.out (ml_wf la k) (by omega) (by omega) (by omega)).mono ?_
          rintro e w5 ⟨rfl, hg5, k5⟩
          have HG5 := hide hg5
          have OY5 := hide (k5.own OY.out)
          have KI5 := hide (k5 _ _ _ KI.out)
          have RY5 := hide (Reads.of_own OY5.out)
          clear hg5 k5
          go_wp2_with (fail)
          refine (has_set W _ _ 1 8 [3] (setE (fun _ _ => false) 3 (ml la k)) 3 _ _ j (ml lb j) HG5.out (ml_length lb j) RY5.out W3.out (ml_wf lb j) (by omega) (by omega) (by omega)).mono ?_
          rintro e w6 ⟨rfl, hg6, k6⟩
          have HG6 := hide hg6
          have KI6 := hide (k6 _ _ _ KI5.out)
          clear hg6 k6
          go_wp2_with (fail)
          refine (has_on W _ _ 2 8 [3, 3] (setE (setE (fun _ _ => false) 3 (ml la k)) 3 (ml lb j)) 3 HG6.out W3.out (by omega)).mono ?_
          rintro e w7 ⟨v, L, rfl, q1, q2, q3, q4, q5, q6⟩
          obtain ⟨AL, cL, hvL, _⟩ := own_form q5
          subst hvL
          have hmem : ∀ d : Nat, d < 10 → (((d : Nat) : Int) ∈ L ↔ inF lb j d = true) := fun d _ => by
            rw [q2]
            unfold setE but inF
            simp
            intro _
            omega
          have hrange : ∀ x ∈ L, 0 ≤ x ∧ x < 10 := fun x hx => by
            have h := (q2 x).1 hx
            unfold setE but at h
            simp at h
            obtain ⟨i, _, rfl⟩ := List.mem_map.1 h.1
            have := dg_lt lb i
            omega
          obtain ⟨n, hn⟩ : ∃ n, n = L.length := ⟨_, rfl⟩
          rw [← hn]
          have HM := hide hmem
          have HRg := hide hrange
          have Q1 := hide q1
          have HN := hide hn
          have QL := hide (Reads.of_own q5)
          have HG7 := hide (HG6.out.ext q6)
          have KI7 := hide (q6.blk KI6.out)
          have hn8 : n ≤ 8 := by omega
          have hi7 : w1.heap.size < w7.heap.size := (q6.blk KI6.out).lt
          clear q1 q2 q3 q4 q5 q6 hn hmem hrange
          go_wp2_with (fail)
          go_loop [12, 13] (fun s12 s13 => (∃ i : Nat, i ≤ 10 ∧ s13 = .int .i64 i ∧ s12 = .int .i64 (cnt L i))) (fun _ s13 => (10 - intOf s13).toNat)
          case atStart => exact ⟨0, by omega, rfl, by rw [show ((0 : Nat) : Int) = 0 from rfl, cnt_zero (fun x hx => (HRg.out x hx).1)]; rfl⟩
          case round =>
            obtain ⟨i, hi, rfl, rfl⟩ := hrel
            have hcl := cnt_le L i
            rw [← HN.out] at hcl
            obtain ⟨q, hq⟩ : ∃ q, q = cnt L i := ⟨_, rfl⟩
            rw [← hq] at hcl
            rw [← hq]
            have HQ := hide hq
            clear hq
            by_cases hlt : i < 10
            · have g0 := KI7.out.cell i
              rw [inA_at _ hlt] at g0
              cases hf : inF lb j i with
              | false =>
                rw [hf] at g0
                have hout : (i : Int) ∉ L := fun h => by have := (HM.out i hlt).1 h; rw [hf] at this; cases this
                have hn1 := hide (show q = cnt L ((i + 1 : Nat) : Int) by rw [HQ.out]; exact (cnt_out hout).symm)
                clear hf hout
                go_wp2
                go_round
                case rel => exact ⟨i + 1, by omega, by go_num, by rw [hn1.out]⟩
                case measure => simp [intOf]; omega
              | true =>
                rw [hf] at g0
                obtain ⟨hat, hsu⟩ := cnt_in Q1.out ((HM.out i hlt).2 hf)
                rw [← HQ.out] at hat hsu
                have hn1 := hide (show q + 1 = cnt L ((i + 1 : Nat) : Int) from hsu.symm)
                have hqn : q < n := by rw [HN.out]; exact (List.getElem?_eq_some_iff.1 hat).1
                obtain ⟨b, off, hAe, hbw, hcell⟩ := QL.out.plain (show 0 < L.length by rw [← HN.out]; omega) (by omega)
                subst hAe
                have g1 := hcell q (.int .i64 i) (by simp [iv, hat])
                clear hf hat hsu hcell
                go_wp2
                go_round
                case rel => exact ⟨i + 1, by omega, by go_num, by rw [← hn1.out]; go_num⟩
                case measure => simp [intOf]; omega
            · obtain rfl : i = 10 := by omega
              have hqn : q = n := by rw [HQ.out, HN.out]; exact cnt_all (fun x hx => by have := (HRg.out x hx).2; simpa using this)
              subst hqn
              go_wp2_with (fail)
              refine (has_clear W _ _ 2 8 [3, 3] (setE (setE (fun _ _ => false) 3 (ml la k)) 3 (ml lb j)) 3 HG7.out W3.out).mono ?_
              rintro e w8 ⟨rfl, hg8, k8⟩
              have HG8 := hide hg8
              clear hg8 k8
              obtain ⟨E', hE⟩ : ∃ E', E' = cutE (setE (setE (fun _ _ => false) 3 (ml la k)) 3 (ml lb j)) 3 := ⟨_, rfl⟩
              rw [← hE] at HG8
              have HE3 := hide (show ∀ y, E' 3 y = false by intro y; rw [hE]; simp [cutE])
              clear hE
              go_wp2_with (fail)
              refine (has_on W _ _ 2 8 [3, 3] E' 3 HG8.out W3.out (by omega)).mono ?_
              rintro e w9 ⟨v, L', rfl, q1, q2, q3, q4, q5, q6⟩
              obtain rfl : L' = [] := rises_nil (fun x => by rw [q2, HE3.out]; simp)
              obtain ⟨A9, c9, hv9, _⟩ := own_form q5
              subst hv9
              have HG9 := hide (HG8.out.ext q6)
              clear q1 q2 q3 q4 q5 q6
              go_wp2_with (fail)
              refine (has_cycle W _ _ 2 8 [3, 3] E' 3 HG9.out W3.out (by simp)).mono ?_
              rintro e w10 ⟨rfl, h10⟩
              have hcy : cyc E' 3 = false := cyc_false (fun h => by
                cases h with
                | one h => rw [HE3.out] at h; cases h
                | step h _ => rw [HE3.out] at h; cases h)
              rw [hcy]
              have HF := hide (BW.out.trans (HG9.out.world.trans h10))
              clear h10 hcy
              go_wp2
              go_ret
              exact ⟨rfl, HF.out⟩
end Go.Proofs.Ytppffbpocmgafaa.waitSets
