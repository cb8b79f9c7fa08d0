/- Wait: the reference graph: Set. -/
import Derived.Test.YtppffbpocmgafaaWaitS
import Derived.RegionTactic
import Derived.BigRegion
import Derived.Deep.RegionLaw
import Derived.Outline
namespace Go.Proofs.Ytppffbpocmgafaa
open Go.ChangeShapes Go.WideShapes Go.ChangeAt Go.RowKit Go.Maps
set_option linter.unusedVariables false

def adds (who : Int) (l : List Int) (k : Nat) : List (Int × Int) := ((l.take k).filter fun y => y != who).map fun y => (who, y)
theorem adds_succ {who x : Int} {l : List Int} {k : Nat} (h : l[k]? = some x) : adds who l (k + 1) = adds who l k ++ (if x != who then [(who, x)] else []) := by
  unfold adds
  rw [List.take_add_one, h, List.filter_append, List.map_append]
  cases hP : x != who <;> simp [hP]
theorem adds_le (who : Int) (l : List Int) (k : Nat) : (adds who l k).length ≤ k := by
  unfold adds
  rw [List.length_map]
  exact Nat.le_trans (List.length_filter_le _ _) (by simp; omega)
set_option maxRecDepth 100000 in
set_option maxHeartbeats 8000000 in
theorem rset_any (base r : Nat) (el : List (Int × Int)) (who : Int) (A : Option Addr) (c n : Nat) (l : List Int) (w : World) (h : Rf w base r el) (hb : base ≤ w.heap.size) (hl0 : el.length + n ≤ 100000) (hn : l.length = n) (hr : Reads w base 1 A n (iv l)) :
    Calls Try.prog 16 #[.pointer (some ⟨r, 0, none⟩), .int .i64 who, .slice A n c] w fun e w' => e = .returned (.tuple #[]) ∧ Rf w' base r ((el.filter fun p => p.1 != who) ++ adds who l n) ∧ Touch w w' (fun x => x = r) := by
  obtain ⟨i0, hi0, iz0, iz1, iz2⟩ := info_parts info56
  have HR := hide hr
  have HN := hide hn
  have hbr : base ≤ r := by obtain ⟨v, h1, h2, h3⟩ := h; exact h3
  have H0 := hide h
  clear hr hn h
  go_enter Try.func16, Try.ntmps16
  go_wp2_with (fail)
  refine (rclear_any base r el who w H0.out hb (by omega)).mono ?_
  rintro e w1 ⟨rfl, hr1, ht1⟩
  obtain ⟨el1, hel⟩ : ∃ el1, el1 = el.filter fun p => p.1 != who := ⟨_, rfl⟩
  have hl : el1.length + n ≤ 100000 := by
    have : el1.length ≤ el.length := by rw [hel]; exact List.length_filter_le _ _
    omega
  rw [← hel] at hr1
  have HEL := hide hel
  have HF := hide hr1
  have T1 := hide ht1
  clear ht1 hr1 hel H0
  go_wp2_with (fail)
  go_loopw [6] (fun s6 wr => (∃ k : Nat, k ≤ n ∧ s6 = .int .i64 k ∧ Hid (Rf wr base r (el1 ++ adds who l k) ∧ Touch w wr (fun x => x = r)))) (fun s6 _ => (n - intOf s6).toNat)
  case atStart => exact ⟨0, by omega, rfl, by simpa [adds] using HF.out, T1.out⟩
  case round =>
    obtain ⟨k, hk, rfl, hs⟩ := hrel
    by_cases hlt : k < n
    · obtain ⟨b, off, hAe, hbw, hcell⟩ := HR.out.plain (by omega) (by omega)
      subst hAe
      have hkl : k < l.length := by have := HN.out; omega
      obtain ⟨x, hx⟩ : ∃ x, l[k]? = some x := ⟨_, List.getElem?_eq_getElem hkl⟩
      have hbwr : b < wr.heap.size := by have := hs.out.2.size; omega
      have g0 : wr.cell? ⟨b, off + k, none⟩ = some (.int .i64 x) := (World.cell?_of_block (hs.out.2.block b (by omega) (by omega))).trans (hcell k _ (by simp [iv, hx]))
      have HX := hide hx
      clear hcell hkl hx
      by_cases hxe : x = who
      · have hn1 := hide (show Rf wr base r (el1 ++ adds who l (k + 1)) ∧ Touch w wr (fun x => x = r) by rw [adds_succ HX.out]; simpa [hxe] using hs.out)
        have e0 : (x != who) = false := by simp [hxe]
        clear hxe hs
        go_wp2
        go_roundw
        case rel => exact ⟨k + 1, by omega, by go_num, hn1.out⟩
        case measure => simp [intOf]; omega
      · have e0 : (x != who) = true := by simp [hxe]
        have HE := hide (show adds who l (k + 1) = adds who l k ++ [(who, x)] by rw [adds_succ HX.out, e0]; rfl)
        obtain ⟨v, h1, h2, h3⟩ := hs.out.1
        obtain ⟨q, hq⟩ : ∃ q, q = (el1 ++ adds who l k).length := ⟨_, rfl⟩
        have hqn : q ≤ 100000 := by rw [hq, List.length_append]; have := adds_le who l k; omega
        have HQ := hide hq
        rw [← hq] at h2
        obtain ⟨Aq, cq, hv, _⟩ := own_form h2
        subst hv
        have HB := hide h1
        have RE := hide (Reads.of_own h2)
        have c0 := h1.cell 0
        have ff := h1.frozen 0
        have hrl := h1.lt
        simp at c0
        have hbl : base ≤ wr.heap.size := Nat.le_trans hb hs.out.2.size
        clear hxe h1 h2 h3 hq
        go_wp2_with (fail)
        go_region_law (first
            | (refine step_append_any _ rfl (.tmp 23) (.tmp 27) _ rfl wr.heap.size 56 i0 _ 2 16 Try.underlying41 hi0 iz0 iz1 iz2 rfl (by omega) (.slice (some ⟨_, 0, none⟩) 0 0) 0 [] rfl (by first | exact World.ownsRow_made wr #[] 0 (Nat.le_refl _) (Nat.zero_le _) rfl | exact (World.ownsRow_made wr #[] 0 (Nat.le_refl _) (Nat.zero_le _) rfl).alloc _ | (have h := World.ownsRow_made (base := wr.heap.size) (e := 56) (size := 2) (wr.alloc (.cells #[.int .i64 who, .int .i64 x] 56)) #[] 0 (by simp) (Nat.zero_le _) rfl; have e : (wr.alloc (.cells #[.int .i64 who, .int .i64 x] 56)).heap.size = wr.heap.size + 1 := (by simp); rw [e] at h; exact h)) wr.heap.size Aq q cq (fl (el1 ++ adds who l k)) rfl (Ext.reads (a := wr) (by (repeat (first | with_reducible exact Ext.refl _ | with_reducible refine Ext.drew ?_ | with_reducible refine Ext.alloc ?_ _))) RE.out (Nat.le_refl _)) (fl_one _) (by unfold maxLen; omega) (by omega) (by simp; try omega) ?_; intro v1 w4 ho1 hg1 hat1; rw [Nat.zero_add, List.nil_append] at ho1; have E1 := hide (Ext.grown (a := wr) (by (repeat (first | with_reducible exact Ext.refl _ | with_reducible refine Ext.drew ?_ | with_reducible refine Ext.alloc ?_ _))) hg1 (fun z hz => by simp [Value.ownBlock] at hz; omega)); (first | (have KX := hide (show Blk w4 (wr.heap.size + 1) 56 #[.int .i64 who, .int .i64 x] from (by have h := Blk.grown (Blk.drew (Blk.new (wr.alloc (.cells #[] 56)) 56 #[.int .i64 who, .int .i64 x])) hg1 (by simp [Value.ownBlock]); have e : (wr.alloc (.cells #[] 56)).heap.size = wr.heap.size + 1 := (by simp); rw [e] at h; exact h))) | (have KX := hide (Blk.grown (Blk.drew (Blk.alloc (Blk.new wr 56 #[.int .i64 who, .int .i64 x]) (.cells #[] 56))) hg1 (by simp [Value.ownBlock]))) | skip); have g1 := (E1.out.cell (p := ⟨b, off + k, none⟩) hbwr).trans g0; obtain ⟨A1, c1, hv1, _⟩ := own_form ho1; subst hv1; have O1 := hide ho1; clear ho1 hg1 hat1)
            | (refine step_append_any _ rfl (.tmp 28) (.tmp 35) _ rfl wr.heap.size 56 i0 _ 2 16 Try.underlying41 hi0 iz0 iz1 iz2 rfl (by omega) (.slice A1 q c1) q (fl (el1 ++ adds who l k)) rfl (by first | exact O1.out | exact O1.out.alloc _) _ _ 1 1 [.int .i64 who, .int .i64 x] rfl (by first | exact reads_blk (m := 2) KX.out rfl | exact reads_blk (m := 2) (Blk.new w4 56 #[.int .i64 who, .int .i64 x]) rfl) (by simp [Value.oneCell']) (by unfold maxLen; omega) (by omega) (by have := E1.out.size; simp; try omega) ?_; intro v2 w5 ho2 hg2 hat2; have E2 := hide (Ext.grown (a := wr) (b := _) (E1.out.trans (by (repeat (first | with_reducible exact Ext.refl _ | with_reducible refine Ext.drew ?_ | with_reducible refine Ext.alloc ?_ _)))) hg2 (fun z hz => (O1.out.lt z hz).1)); have s0 := (E2.out.blk HB.out).cell 0; have sf := (E2.out.blk HB.out).frozen 0; simp at s0; obtain ⟨A2, c2, hv2, _⟩ := own_form ho2; subst hv2; have O2 := hide ho2; clear ho2 hg2 hat2))
        all_goals
          have hn1 : Hid (Rf (w5.setCell ⟨r, 0, none⟩ (.slice A2 (q + 1) c2)) base r (el1 ++ adds who l (k + 1)) ∧ Touch w (w5.setCell ⟨r, 0, none⟩ (.slice A2 (q + 1) c2)) (fun x => x = r)) := by
            have hp := rf_put (el' := el1 ++ adds who l (k + 1)) (v := .slice A2 (q + 1) c2) hs.out.1 (wr := w5) (by
              rw [HE.out, ← List.append_assoc, fl_app, List.length_append, ← HQ.out]
              exact O2.out) E2.out hbl
            exact ⟨hp.1, hs.out.2.trans hp.2 (fun _ _ h => h)⟩
          clear hs
          go_wp2
          go_roundw
          case rel => exact ⟨k + 1, by omega, by go_num, hn1.out⟩
          case measure => simp [intOf]; omega
    · obtain rfl : k = n := by omega
      have hF := hide hs.out
      clear hs
      go_wp2_with (fail)
      go_end0
      exact ⟨rfl, by rw [← HEL.out]; exact hF.out.1, hF.out.2⟩
end Go.Proofs.Ytppffbpocmgafaa
