/- WaitAll: the walk. -/
import Derived.Test.YtppffbpocmgafaaWaitAllP
import Derived.Test.YtppffbpocmgafaaWaitN
import Derived.Test.YtppffbpocmgafaaWaitSetsW
import Derived.RegionTactic
import Derived.Deep.QuietTactic
import Derived.BigQuiet
import Derived.Deep.RegionHeld3
import Derived.Outline
import Derived.Deep.DeepCutAuto
import Derived.Deep.CutBlock
namespace Go.Proofs.Ytppffbpocmgafaa.waitAll
open Go.ChangeShapes Go.WideShapes Go.ChangeAt Go.RowKit Go.Maps
set_option linter.unusedVariables false

/-- the graph and the reference, side by side, k deeds done -/
structure Two (W wr : World) (g r k N : Nat) (ks : List Int) (E : Int → Int → Bool) (el : List (Int × Int)) : Prop where
  h : Has W wr g N 6 ks E
  rf : Rf wr W.heap.size r el
  n : N ≤ k
  l : ks.length ≤ k
  eq : ∀ x y, E x y = true ↔ (x, y) ∈ el
  le : el.length ≤ 6 * k
section
variable {W w w' : World} {g r k N : Nat} {ks : List Int} {E E' : Int → Int → Bool} {el el' : List (Int × Int)} {who : Int} {l : List Int}
theorem rf_cells {base : Nat} (h : Rf w base r el) (hc : Cells w w') : Rf w' base r el := by
  obtain ⟨v, h1, h2, h3⟩ := h
  exact ⟨v, hc _ _ _ h1, hc.own h2, h3⟩
theorem has_rf {N c : Nat} (h : Has W w g N c ks E) (hr : Rf w W.heap.size r el) (T : Touch w w' (fun k => k = r)) : Has W w' g N c ks E := by
  obtain ⟨v, h1, h2, h3⟩ := hr
  exact h.far h1 (by decide) h3 T
theorem eq_clear (h : ∀ x y, E x y = true ↔ (x, y) ∈ el) : ∀ x y, cutE E who x y = true ↔ (x, y) ∈ el.filter fun p => p.1 != who := fun x y => by
  unfold cutE
  rw [List.mem_filter]
  by_cases e : x = who
  · simp [e]
  · simp [e, h]
theorem eq_gone (h : ∀ x y, E x y = true ↔ (x, y) ∈ el) : ∀ x y, goneE E who x y = true ↔ (x, y) ∈ (el.filter fun p => p.1 != who).filter fun p => p.2 != who := fun x y => by
  unfold goneE
  rw [List.mem_filter, List.mem_filter]
  by_cases e : x = who <;> by_cases e' : y = who <;> simp [e, e', h]
theorem eq_set (h : ∀ x y, E x y = true ↔ (x, y) ∈ el) : ∀ x y, setE E who l x y = true ↔ (x, y) ∈ (el.filter fun p => p.1 != who) ++ adds who l l.length := fun x y => by
  unfold setE but adds
  rw [List.mem_append, List.mem_filter, List.take_length]
  by_cases e : x = who
  · simp [e]
  · rw [if_neg e, h]
    constructor
    · exact fun hm => .inl ⟨hm, by simp [e]⟩
    · rintro (h1 | h1)
      · exact h1.1
      · obtain ⟨z, _, hz⟩ := List.mem_map.1 h1
        injection hz with hz _
        exact absurd hz.symm e
theorem reach_eq (h : ∀ x y, E x y = true ↔ (x, y) ∈ el) : E = elE el := by
  funext x y
  rw [Bool.eq_iff_iff, h, elE_iff]
theorem rises_same {L M : List Int} (hL : Rises L) (hM : Rises M) (h : ∀ x, x ∈ L ↔ x ∈ M) : L = M := by
  refine List.Perm.eq_of_pairwise (le := fun a b => a ≤ b) (fun a b _ _ h1 h2 => by omega) (hL.imp (fun h => by omega)) (hM.imp (fun h => by omega)) ?_
  exact (List.perm_ext_iff_of_nodup hL.nodup hM.nodup).2 h
end
set_option maxRecDepth 100000 in
set_option maxHeartbeats 16000000 in
theorem walk_short (A : Option Addr) (c n : Nat) (xs : List Value) (w : World) (ha : Reads w w.heap.size 3 A n xs) (hx : Deeds w xs n) (h1 : (n : Int) ≤ 30) :
    Calls Try.prog 5 #[.slice A n c] w fun e w' => e = .returned (.bool true) ∧ Ext w w' := by
  have HA := hide ha
  have HX := hide hx
  clear ha hx
  go_enter Try.func5, Try.ntmps5
  go_wp2_with (go_at_call 7; refine (begun_any _).mono ?_; rintro e W ⟨rfl, b1⟩)
  refine (has_new W).mono ?_
  rintro e w1 ⟨rfl, hg⟩
  have HG := hide (hg.more (c' := 6) (by omega))
  have BW := hide b1
  have hzW : W.heap.size ≤ w1.heap.size := hg.world.size
  have hzw : w.heap.size ≤ W.heap.size := b1.size
  clear b1 hg
  go_wp2_with (fail)
  obtain ⟨w0, hw0⟩ : ∃ w0, w0 = w1.alloc (.cells #[.slice none 0 0] 43) := ⟨_, rfl⟩
  rw [← hw0]
  have T0 := hide (show Two W w0 (W.heap.size + 1) w1.heap.size 0 0 [] (fun _ _ => false) [] from by
    rw [hw0]
    exact ⟨HG.out.ext (Ext.new _ _), ⟨_, Blk.new w1 43 _, World.ownsRow_nil _ _ _ _, hzW⟩, Nat.le_refl _, Nat.le_refl _, (fun x y => by simp), Nat.zero_le _⟩)
  clear hw0
  go_loopw [5, 6, 7, 8, 9] (fun s5 s6 s7 s8 s9 wr => (∃ k : Nat, k ≤ n ∧ s5 = .int .i64 k ∧ Hid (∃ N ks E el, Two W wr (W.heap.size + 1) w1.heap.size k N ks E el))) (fun s5 _ _ _ _ _ => (n - intOf s5).toNat)
  case atStart => exact ⟨0, by omega, rfl, _, _, _, _, T0.out⟩
  case round =>
    obtain ⟨k, hk, rfl, hs0⟩ := hrel
    obtain ⟨N, ks, E, el, hs1⟩ := hs0.out
    have HS := hide hs1
    clear hs1 hs0
    by_cases hlt : k < n
    · obtain ⟨bk, off, hAe, hbw, hcell⟩ := HA.out.plain (by omega) (by omega)
      subst hAe
      obtain ⟨kind, who, Al, m, cl, l, d0, d1, d2, hwho, hkind, hlm, hl, hlw⟩ := HX.out k hlt
      have far : ∀ j u, xs[j]? = some u → wr.cell? ⟨bk, off + j, none⟩ = some u := fun j u hu => ((BW.out.trans HS.out.h.world).cell (p := ⟨bk, off + j, none⟩) (show bk < w.heap.size from hbw)).trans (hcell j u hu)
      have g0 := far _ _ d0
      have g1 := far _ _ d1
      have g2 := far _ _ d2
      rw [← Nat.add_assoc] at g1 g2
      have HLm := hide hlm
      have HRl := hide hl
      have HWl := hide hlw
      have HWw := hide hwho
      have HWk := hide hkind
      clear far hcell d0 d1 d2 hlm hl hlw hwho hkind
      by_cases hm : (6 : Int) < m
      · have hF := hide (BW.out.trans HS.out.h.world)
        clear HS HG T0
        go_wp2
        go_ret
        exact ⟨rfl, hF.out.alloc _⟩
      · obtain ⟨r, hr⟩ : ∃ r : Int, (wrap64 (kind.tmod 7 + 7)).tmod 7 = r := ⟨_, rfl⟩
        have hm6 : m ≤ 6 := by omega
        have hrw : w1.heap.size < wr.heap.size := by obtain ⟨v, h1, _, _⟩ := HS.out.rf; exact h1.lt
        go_upto_block 2 with (fail)
        have KO := hide (Blk.new wr 45 #[.int .i64 kind, .int .i64 who, .slice Al m cl])
        have T1 := hide (show Two W (wr.alloc (.cells #[.int .i64 kind, .int .i64 who, .slice Al m cl] 45)) (W.heap.size + 1) w1.heap.size k N ks E el from ⟨HS.out.h.ext (Ext.new _ _), HS.out.rf.ext (Ext.new _ _), HS.out.n, HS.out.l, HS.out.eq, HS.out.le⟩)
        go_cut [] (fun wx => ∃ N ks E el, Two W wx (W.heap.size + 1) w1.heap.size (k + 1) N ks E el ∧ Blk wx wr.heap.size 45 #[.int .i64 kind, .int .i64 who, .slice Al m cl])
        case first =>
          have h3 : r = 5 ∨ r = 6 ∨ (r ≠ 5 ∧ r ≠ 6) := by omega
          clear hr
          rcases h3 with rfl | rfl | ⟨q5, q6⟩
          · go_wp2_with (fail)
            refine (has_clear W _ _ N 6 ks E who T1.out.h HWw.out).mono ?_
            rintro e w5 ⟨rfl, h5, c5⟩
            have H5 := hide h5
            have R5 := hide (rf_cells T1.out.rf c5)
            have KO5 := hide (c5 _ _ _ KO.out)
            have y1 := KO5.out.cell 1
            have y2 := KO5.out.cell 2
            simp at y1 y2
            have z5 : W.heap.size ≤ w5.heap.size := h5.world.size
            clear h5 c5
            go_wp2_with (fail)
            refine (rclear_any W.heap.size w1.heap.size el who w5 R5.out z5 (by have := T1.out.le; omega)).mono ?_
            rintro e w6 ⟨rfl, r6, t6⟩
            have hn1 : Hid (Two W w6 (W.heap.size + 1) w1.heap.size (k + 1) N ks (cutE E who) (el.filter fun p => p.1 != who)) := ⟨has_rf H5.out R5.out t6, r6, by have := T1.out.n; omega, by have := T1.out.l; simp; omega, eq_clear T1.out.eq, by have := T1.out.le; have := List.length_filter_le (fun p : Int × Int => p.1 != who) el; omega⟩
            have KO6 := hide (t6.blk KO5.out (by omega))
            clear r6 t6
            go_wp2_with (fail)
            go_meet
            case rel => exact ⟨_, _, _, _, hn1.out, KO6.out⟩
          · go_wp2_with (fail)
            refine (has_gone W _ _ N 6 ks E who T1.out.h HWw.out).mono ?_
            rintro e w5 ⟨rfl, h5, c5⟩
            have H5 := hide h5
            have R5 := hide (rf_cells T1.out.rf c5)
            have KO5 := hide (c5 _ _ _ KO.out)
            have y1 := KO5.out.cell 1
            have y2 := KO5.out.cell 2
            simp at y1 y2
            have z5 : W.heap.size ≤ w5.heap.size := h5.world.size
            clear h5 c5
            go_wp2_with (fail)
            refine (rgone_any W.heap.size w1.heap.size el who w5 R5.out z5 (by have := T1.out.le; omega)).mono ?_
            rintro e w6 ⟨rfl, r6, t6⟩
            have hn1 : Hid (Two W w6 (W.heap.size + 1) w1.heap.size (k + 1) N ks (goneE E who) ((el.filter fun p => p.1 != who).filter fun p => p.2 != who)) := ⟨has_rf H5.out R5.out t6, r6, by have := T1.out.n; omega, by have := T1.out.l; simp; omega, eq_gone T1.out.eq, by have := T1.out.le; have := List.length_filter_le (fun p : Int × Int => p.1 != who) el; have := List.length_filter_le (fun p : Int × Int => p.2 != who) (el.filter fun p => p.1 != who); omega⟩
            have KO6 := hide (t6.blk KO5.out (by omega))
            clear r6 t6
            go_wp2_with (fail)
            go_meet
            case rel => exact ⟨_, _, _, _, hn1.out, KO6.out⟩
          · go_wp2_with (fail)
            refine (has_set W _ _ N 6 ks E who Al cl m l T1.out.h HLm.out (((BW.out.trans T1.out.h.world).reads HRl.out (Nat.le_refl _)).more (BW.out.trans T1.out.h.world).size) HWw.out HWl.out (by omega) (by omega) (by have := T1.out.n; omega)).mono ?_
            rintro e w5 ⟨rfl, h5, c5⟩
            have H5 := hide h5
            have R5 := hide (rf_cells T1.out.rf c5)
            have KO5 := hide (c5 _ _ _ KO.out)
            have y1 := KO5.out.cell 1
            have y2 := KO5.out.cell 2
            simp at y1 y2
            have z5 : W.heap.size ≤ w5.heap.size := h5.world.size
            clear h5 c5
            go_wp2_with (fail)
            refine (rset_any W.heap.size w1.heap.size el who Al cl m l w5 R5.out z5 (by have := T1.out.le; omega) HLm.out (((BW.out.trans H5.out.world).reads HRl.out (Nat.le_refl _)).more hzw)).mono ?_
            rintro e w6 ⟨rfl, r6, t6⟩
            have hn1 : Hid (Two W w6 (W.heap.size + 1) w1.heap.size (k + 1) (N + 1) (who :: ks) (setE E who l) ((el.filter fun p => p.1 != who) ++ adds who l m)) := ⟨has_rf H5.out R5.out t6, r6, by have := T1.out.n; omega, by have := T1.out.l; simp; omega, (by rw [← HLm.out]; exact eq_set T1.out.eq), by have := T1.out.le; have := List.length_filter_le (fun p : Int × Int => p.1 != who) el; have := adds_le who l m; rw [List.length_append]; omega⟩
            have KO6 := hide (t6.blk KO5.out (by omega))
            clear r6 t6
            go_wp2_with (fail)
            go_meet
            case rel => exact ⟨_, _, _, _, hn1.out, KO6.out⟩
        case rest =>
          clear hr g0 g1 g2 KO T1 HS
          obtain ⟨N2, ks2, E2, el2, t6, k6⟩ := hcut
          have T6 := hide t6
          have K6 := hide k6
          have hob : wr.heap.size < wc.heap.size := k6.lt
          have y1 := k6.cell 1
          simp at y1
          have Y1 := hide y1
          clear t6 k6
          go_wp2_with (fail)
          go_region_held3 (fun w' => w'.cell? ⟨wr.heap.size, 1, none⟩ = some (.int .i64 who)) (first | exact Ya.out | exact Yb.out | exact Y1.out)
            (first
              | (go_at_call 11; refine (has_on W _ _ N2 6 ks2 E2 who (T6.out.h.ext (Ext.refl wc).drew) HWw.out (by omega)).mono ?_; rintro e wa ⟨va, La, rfl, a1, a2, a3, a4, a5, a6⟩; obtain ⟨Aa, ca, hva, _⟩ := own_form a5; subst hva; have RA := hide (Reads.of_own a5); have MA := hide a2; have SA := hide a1; have XA := hide ((Ext.refl wc).drew.trans a6); have Ya := hide (((Ext.refl wc).drew.trans a6).cell (p := ⟨wr.heap.size, 1, none⟩) hob |>.trans Y1.out); clear a1 a2 a4 a5 a6)
              | (go_at_call 17; refine (ron_any W.heap.size w1.heap.size el2 who wa (T6.out.rf.ext XA.out) (by have := T6.out.le; omega)).mono ?_; rintro e wb ⟨Ab, cb, rfl, b1, b2, b3, b4, b5⟩; have RB := hide b1; have XB := hide b5; have Yb := hide ((b5.cell (p := ⟨wr.heap.size, 1, none⟩) (Nat.lt_of_lt_of_le hob XA.out.size)).trans Ya.out); clear b1 b2 b3 b4 b5))
          have hLe : La = onL el2 who el2.length := rises_same SA.out (onL_rises _ _ _) (fun x => by rw [MA.out, T6.out.eq, onL_mem, List.take_length])
          have hEe := hide (reach_eq T6.out.eq)
          clear SA MA
          obtain ⟨M, hM⟩ : ∃ M, M = onL el2 who el2.length := ⟨_, rfl⟩
          rw [← hM] at hLe RB ⊢
          subst hLe
          clear hM
          obtain ⟨q, hq⟩ : ∃ q, q = La.length := ⟨_, rfl⟩
          rw [← hq] at RA RB a3 ⊢
          have HQ := hide hq
          clear hq
          have RA2 := hide ((Ext.reads XB.out RA.out (Nat.le_refl _)).more XB.out.size)
          have T7 := hide (T6.out.h.ext (XA.out.trans XB.out))
          have Rf7 := hide (T6.out.rf.ext (XA.out.trans XB.out))
          have hob2 : wr.heap.size < wb.heap.size := Nat.lt_of_lt_of_le hob (XA.out.trans XB.out).size
          go_wp2_with (fail)
          go_region_held3 (fun w' => w'.cell? ⟨wr.heap.size, 1, none⟩ = some (.int .i64 who)) (first | exact Yd.out | exact Yc.out | exact Yb.out)
            (first
              | (go_at_call 10; refine (has_cycle W _ _ N2 6 ks2 E2 who (T7.out.ext (Ext.refl wb).drew) HWw.out (by have := T6.out.l; omega)).mono ?_; rintro e wd ⟨rfl, x1⟩; have XC := hide ((Ext.refl wb).drew.trans x1); have Yc := hide ((XC.out.cell (p := ⟨wr.heap.size, 1, none⟩) hob2).trans Yb.out); clear x1)
              | (go_at_call 18; refine (rcycle_any W.heap.size w1.heap.size el2 who wd (Rf7.out.ext XC.out) (by have := T6.out.le; omega)).mono ?_; rintro e we ⟨rfl, x2⟩; have XD := hide x2; have Yd := hide ((x2.cell (p := ⟨wr.heap.size, 1, none⟩) (Nat.lt_of_lt_of_le hob2 XC.out.size)).trans Yc.out); rw [← hEe.out]; clear x2))
          have R8a := hide (((XC.out.trans XD.out).reads RA2.out (Nat.le_refl _)).more (XC.out.trans XD.out).size)
          have R8b := hide (((XC.out.trans XD.out).reads RB.out (Nat.le_refl _)).more (XC.out.trans XD.out).size)
          have T8 := hide (T7.out.ext (XC.out.trans XD.out))
          have Rf8 := hide (Rf7.out.ext (XC.out.trans XD.out))
          have HE8 := hide (show ∀ x y, E2 x y = true ↔ (x, y) ∈ el2 from T6.out.eq)
          have b1 := T6.out.n
          have b2 := T6.out.l
          have b3 := T6.out.le
          clear XA XB XC XD Ya Yb Yc Yd Y1 T6 T7 Rf7 RA RA2 RB hEe K6 hob hob2
          go_wp2_with (fail)
          go_loopw [9] (fun s9 wr => (∃ j : Nat, j ≤ q ∧ s9 = .int .i64 j ∧ Hid (Ext we wr))) (fun s9 _ => (q - intOf s9).toNat)
          case atStart => exact ⟨0, by omega, rfl, Ext.refl _⟩
          case round =>
            obtain ⟨j, hj, rfl, hx⟩ := hrel
            by_cases hlj : j < q
            · obtain ⟨ba, oa, hAa, hba, hca⟩ := R8a.out.plain (by omega) (by omega)
              obtain ⟨bb, ob, hAb, hbb, hcb⟩ := R8b.out.plain (by omega) (by omega)
              subst hAa hAb
              obtain ⟨x, hxx⟩ : ∃ x, La[j]? = some x := ⟨_, List.getElem?_eq_getElem (by have := HQ.out; omega)⟩
              have g0 := (hx.out.cell (p := ⟨ba, oa + j, none⟩) hba).trans (hca j (.int .i64 x) (by simp [iv, hxx]))
              have g1 := (hx.out.cell (p := ⟨bb, ob + j, none⟩) hbb).trans (hcb j (.int .i64 x) (by simp [iv, hxx]))
              clear hca hcb hxx
              go_wp2_with (fail)
              go_region
              all_goals
                go_wp2
                go_roundw
                case rel => first | exact ⟨j + 1, by omega, by go_num, hx.out.drewN _⟩ | exact ⟨j + 1, by omega, by go_num, hx.out.drew⟩ | exact ⟨j + 1, by omega, by go_num, hx.out⟩
                case measure => simp [intOf]; omega
            · obtain rfl : j = q := by omega
              have hn1 := hide (show Two W wr (W.heap.size + 1) w1.heap.size (k + 1) N2 ks2 E2 el2 from ⟨T8.out.ext hx.out, Rf8.out.ext hx.out, b1, b2, HE8.out, b3⟩)
              go_wp2
              go_roundw
              case rel => exact ⟨k + 1, by omega, by go_num, _, _, _, _, hn1.out⟩
              case measure => simp [intOf]; omega
    · obtain rfl : k = n := by omega
      have hF := hide (BW.out.trans HS.out.h.world)
      clear HS HG T0
      go_wp2_with (first | (go_at_call 9; refine (set_nil _ _ _ _ _).mono ?_; rintro e w' ⟨rfl, rfl⟩) | (go_at_call 12; refine (clear_nil _ _).mono ?_; rintro e w' ⟨rfl, rfl⟩) | (go_at_call 14; refine (gone_nil _ _).mono ?_; rintro e w' ⟨rfl, rfl⟩) | (go_at_call 10; refine (cycle_nil _ _).mono ?_; rintro e wc ⟨rfl, hc⟩) | (go_at_call 11; refine (on_nil _ _).mono ?_; rintro e wd ⟨A9, c9, rfl, hd⟩))
      go_ret
      exact ⟨rfl, ((hF.out.alloc _).trans hc).trans hd⟩
end Go.Proofs.Ytppffbpocmgafaa.waitAll
