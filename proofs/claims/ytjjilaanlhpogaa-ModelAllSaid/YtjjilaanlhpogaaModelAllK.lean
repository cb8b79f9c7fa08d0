/- ModelAll: the document's Do: seek. -/
import Derived.Test.YtjjilaanlhpogaaModelAllD
namespace Go.Proofs.Ytjjilaanlhpogaa
open Go.ChangeShapes Go.WideShapes Go.ChangeAt Go.RowKit Go.Maps Go.MapKept Go.Sort
set_option linter.unusedVariables false

theorem take_yes {R : List Rw} {i : Nat} {q r : Rw} (hq : R[i]? = some q) (he : eqS q r = true) : (R.take (i + 1)).filter (fun q => eqS q r) = (R.take i).filter (fun q => eqS q r) ++ [q] := by
  have := take_snoc hq (fun q => eqS q r)
  rw [if_pos he] at this
  exact this
theorem take_no {R : List Rw} {i : Nat} {q r : Rw} (hq : R[i]? = some q) (he : ¬ eqS q r = true) : (R.take (i + 1)).filter (fun q => eqS q r) = (R.take i).filter (fun q => eqS q r) := by
  have := take_snoc hq (fun q => eqS q r)
  rw [if_neg he, List.append_nil] at this
  exact this
set_option maxRecDepth 100000 in
set_option maxHeartbeats 4000000 in
theorem rdo_seek (W w : World) (rb : Nat) (A0 : Option Addr) (c0 : Nat) (R : List Rw) (f : ByteArray → Option Rw) (t n : Int) (r : Rw) (A : Option Addr) (l c : Nat) (h : Rf W w rb A0 c0 R) (hn : R.length ≤ 1000) (hz : Rz r) (hm : mayS 7 r = true) (hrep : Rep f R) (hkd : Kd f)  :
    Calls Try.prog 12 #[.pointer (some ⟨rb, 0, none⟩), stv 7 t n r A l c] w (RTells W w rb 0 (R.filter fun q => eqS q r) R) := by
  have hM := hide (fun w => rbad_any 7 t n r A l c w hz.1 hz.2.1 hz.2.2)
  have HM := hide hm
  have H := hide h
  have HP := hide hrep
  have HKD := hide hkd
  have HN := hide hn
  skip
  obtain ⟨N, hNL⟩ : ∃ N, N = R.length := ⟨_, rfl⟩
  have HNL := hide hNL
  have hN : N ≤ 1000 := by omega
  obtain ⟨i0, hi0, iz0, iz1, iz2⟩ := info_parts Try.info31'
  clear hm hz h hrep hkd hn hNL
  simp only [stv] at hM ⊢
  go_enter Try.func12, Try.ntmps12
  go_wp2_with (first
    | (go_at_call 21; refine (hM.out _).mono ?_; rintro e w1 ⟨rfl, x1⟩; rw [HM.out]; have HH := hide (Rh.start (n := n) (r := r) (A := A) (l := l) (c := c) H.out x1); have hk3 := HH.out.stp.cell 3; simp at hk3; clear x1)
    | (go_at_call 22; refine (rfind_any w1 rb _ A0 c0 R r.k HH.out.rf.blk (Reads.of_own HH.out.rf.own) HN.out).mono ?_; rintro e w2 ⟨k, b, m, rfl, hat, hb, hw2⟩; have HC := hide (HH.out.ex (show Ext w1 w2 from by rw [hw2]; exact (Ext.refl w1).drewN m)); obtain ⟨hbe, CA, CB, hcut⟩ := found_b HP.out HKD.out hat hb; skip; have HCUT := hide hcut; have hkN : k ≤ N := (by rw [HNL.out]; exact hat.1); have hs0 := HC.out.stp.cell 0; have hc0 := HC.out.rf.blk.cell 0; have ha0 := HC.out.ans.cell 0; have ha1 := HC.out.ans.cell 1; simp at hs0 hc0 ha0 ha1; rw [← HNL.out] at hc0; have fa0 := HC.out.ans.frozen 0; have fa1 := HC.out.ans.frozen 1; have hlt2 : w.heap.size + 1 < w2.heap.size := HC.out.ans.lt; have hrb2 : rb < w2.heap.size := HC.out.rf.blk.lt; clear hat hb hw2 hcut hk3 HH hM HM))
  go_loopw [7, 8] (fun s7 s8 wr => (∃ i : Nat, i ≤ N ∧ s8 = .int .i64 i ∧ Hid (Ext w2 wr ∧ wr.ownsRow w2.heap.size 31 3 s7 ((R.take i).filter fun q => eqS q r).length (rcs ((R.take i).filter fun q => eqS q r))))) (fun _ s8 _ => (N - intOf s8).toNat)
  case atStart => exact ⟨0, by omega, rfl, Ext.refl _, World.ownsRow_nil _ _ _ _⟩
  case round =>
    obtain ⟨i, hi, rfl, hs⟩ := hrel
    have HW := hide (HC.out.ex hs.out.1)
    have XW := hide hs.out.1
    have hw0 := HW.out.rf.blk.cell 0
    simp at hw0
    rw [← HNL.out] at hw0
    have hrb3 : rb < wr.heap.size := HW.out.rf.blk.lt
    have hlt3 : w.heap.size + 1 < wr.heap.size := HW.out.ans.lt
    have ho := hs.out.2
    obtain ⟨A7, c7, hv7, _⟩ := own_form ho
    subst hv7
    have HO := hide ho
    clear ho hs hc0
    by_cases hlt : i < N
    · obtain ⟨q, hq⟩ : ∃ q, R[i]? = some q := ⟨_, List.getElem?_eq_getElem (by rw [← HNL.out]; exact hlt)⟩
      have HQ := hide hq
      obtain ⟨g, hA, hcN, hcM⟩ := Rf.some_ H.out (by rw [← HNL.out]; omega)
      subst hA
      obtain ⟨g0, g1, g2⟩ := own_row_at HW.out.own hq
      have hs4 := HW.out.stp.cell 4
      simp at hs4
      have hcnt : ((R.take i).filter fun q => eqS q r).length ≤ 1000 := Nat.le_trans (List.length_filter_le _ _) (by rw [List.length_take]; omega)
      obtain ⟨T, hT⟩ : ∃ T, T = (R.take i).filter fun q => eqS q r := ⟨_, rfl⟩
      have HT := hide hT
      rw [← hT] at HO hcnt ⊢
      have hgl : g < wr.heap.size := by
        have := World.block_lt_of_cell? wr _ g0
        exact this
      clear hq hT
      by_cases he : q.s = r.s
      · have d2 : (q.s.toList == r.s.toList) = true := by rw [be_eq]; exact decide_eq_true he
        have HE := hide (show eqS q r = true from decide_eq_true he)
        clear he
        go_upto_region 12 with (fail)
        go_quiet (fail)
        go_wp2_with (at_builtin; refine wpList_append_any _ rfl (.tmp 56) (.tmp 64) _ rfl w2.heap.size 31 i0 _ 3 48 Try.underlying27 hi0 iz0 iz1 iz2 rfl (by omega) (.slice A7 T.length c7) T.length (rcs T) rfl (Ext.own (((Ext.refl wr).drewN nq).alloc _) HO.out) _ (some ⟨wr.heap.size, 0, none⟩) 1 1 (rc q) rfl (reads_blk (m := 3) (Blk.new (wr.drewN nq) 31 #[.string q.k, .string q.s, .string q.v]) rfl) (by have := rcs_one [q]; simpa [rcs] using this) (by unfold maxLen; omega) (by omega) (by have := XW.out.size; simp; omega) ?_; intro v3 w3 ho3 hg3 hat3; have E3 := hide (Ext.grown (((Ext.refl w2).trans XW.out |>.drewN nq).alloc _) hg3 (fun z hz => (HO.out.lt z hz).1)); rw [← rcs_snoc] at ho3; have O3 := hide ho3; clear ho3 hg3 hat3)
        go_roundw
        case rel => exact ⟨i + 1, by omega, by go_num, E3.out, by
          rw [take_yes HQ.out HE.out, ← HT.out]
          have e : (T ++ [q]).length = T.length + 1 := by simp
          rw [e]
          exact O3.out⟩
        case measure => simp [intOf]; omega
      · have d2 : (q.s.toList == r.s.toList) = false := by rw [be_eq]; exact decide_eq_false he
        have HE := hide (show ¬ eqS q r = true from fun h => he (of_decide_eq_true h))
        clear he
        go_upto_region 12 with (fail)
        go_quiet (fail)
        go_wp2_with (fail)
        go_roundw
        case rel => exact ⟨i + 1, by omega, by go_num, XW.out.drewN nq, by rw [take_no HQ.out HE.out, ← HT.out]; exact Ext.own ((Ext.refl wr).drewN nq) HO.out⟩
        case measure => simp [intOf]; omega
    · obtain rfl : i = N := by omega
      have b0 := HW.out.ans.cell 0
      have b1 := HW.out.ans.cell 1
      simp at b0 b1
      have fb0 := HW.out.ans.frozen 0
      have fb1 := HW.out.ans.frozen 1
      have eT : R.take i = R := List.take_of_length_le (by rw [← HNL.out]; exact Nat.le_refl _)
      rw [eT] at HO ⊢
      go_wp2_with (fail)
      have hE := ans_end (w := w) HW.out.ans HW.out.ext (.int .i64 0) (.slice A7 (R.filter fun q => eqS q r).length c7)
      have q0 := hE.1.cell 0
      have q1 := hE.1.cell 1
      simp only [List.getElem?_toArray, List.getElem?_cons_zero, List.getElem?_cons_succ] at q0 q1
      refine bodyPost_ret (v := .agg #[.int .i64 0, .slice A7 (R.filter fun q => eqS q r).length c7]) (by simp [results, Try.results12, go_sem, q0, q1]) rfl ?_
      exact rtells_of (ls := R.filter fun q => eqS q r) (x := 0) (A := A7) (c := c7) H.out (ownsRow_touch (touch_set2 wr (w.heap.size + 1) _ _) (World.ownsRow.mono HO.out HC.out.ext.size) (fun z hz e => by subst e; exact own_blk_ne HO.out HW.out.ans (by decide) hz)) hE.2
end Go.Proofs.Ytjjilaanlhpogaa
