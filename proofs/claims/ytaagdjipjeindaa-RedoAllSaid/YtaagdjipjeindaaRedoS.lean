/- Redo: the document's Pages. -/
import Derived.Test.YtaagdjipjeindaaRedoR
namespace Go.Proofs.Ytaagdjipjeindaa
open Go.ChangeShapes Go.WideShapes Go.ChangeAt Go.RowKit
set_option linter.unusedVariables false

/-- the pages below k among the numbers -/
def pgs (L : List Int) (k : Nat) : List Int := ((List.range k).map Int.ofNat).filter (fun n => decide (n ∈ L))
theorem pgs_in {L : List Int} {k : Nat} (h : (k : Int) ∈ L) : pgs L (k + 1) = pgs L k ++ [(k : Int)] := by
  unfold pgs
  rw [List.range_succ, List.map_append, List.filter_append]
  simp [h]
theorem pgs_out {L : List Int} {k : Nat} (h : (k : Int) ∉ L) : pgs L (k + 1) = pgs L k := by
  unfold pgs
  rw [List.range_succ, List.map_append, List.filter_append]
  simp [h]
theorem pgs_len (L : List Int) (k : Nat) : (pgs L k).length ≤ k := by
  unfold pgs
  refine Nat.le_trans (List.length_filter_le _ _) ?_
  simp
set_option maxRecDepth 1000000 in
set_option maxHeartbeats 8000000 in
theorem rpages_any (kind a0 a1 b0 b1 t u h p nx : Int) (AN : Option Addr) (cN : Nat) (NL : List UInt8) (AO : Option Addr) (nO cO : Nat) (AM : Option Addr) (cM : Nat) (mv : List Mv) (A13 A14 A15 : Option Addr) (n13 c13 n14 c14 n15 c15 : Nat) (w : World)
    (hN : BB w (.slice AN NL.length cN) NL) (hr : Reads w w.heap.size 4 AM mv.length (mvs mv)) (hl : mv.length ≤ 1000) :
    Calls Try.prog 13 #[.agg #[.int .i64 kind, .int .i64 t, .int .i64 u, .int .i64 h, .int .i64 p, .int .i64 nx, .int .i64 a0, .int .i64 a1, .int .i64 b0, .int .i64 b1, .slice AO nO cO, .slice AN NL.length cN, .slice AM mv.length cM, .slice A13 n13 c13, .slice A14 n14 c14, .slice A15 n15 c15]] w (GivesN w (pagesOf (touchL kind a0 b0 mv))) := by
  obtain ⟨i0, hi0, hz0, hz1, hz2⟩ := info_parts Try.info3'
  obtain ⟨T, hT⟩ : ∃ T, T = touchesL kind a0 a1 b0 b1 NL mv := ⟨_, rfl⟩
  have hTL : T.length ≤ 1000 := by
    rw [hT]; unfold touchesL
    split
    · simp
    · split
      · simp
      · split
        · simpa using hl
        · simp
  obtain ⟨L, hL⟩ : ∃ L, L = touchL kind a0 b0 mv := ⟨_, rfl⟩
  have HLT := hide (show L = T.map (·.a0) by rw [hL, hT, touches_pages])
  have HT := hide (fun w1 (hx : Ext w w1) => touches_any kind a0 a1 b0 b1 t u h p nx AN cN NL AO nO cO AM cM mv A13 A14 A15 n13 c13 n14 c14 n15 c15 w1 (hN.ext hx) (hx.read hr) hl)
  rw [← hT] at HT
  rw [← hL]
  obtain ⟨m, hm⟩ : ∃ m, m = T.length := ⟨_, rfl⟩
  have HM := hide hm
  rw [← hm] at hTL
  unfold GivesT at HT
  rw [← hm] at HT
  clear hm hT hL hN hr
  go_enter Try.func13, Try.ntmps13
  go_upto_region 3 with (go_at_call 23; refine (HT.out _ (Ext.new w _)).mono ?_; rintro e w2 ⟨A4, c4, vs, rfl, hr4, ht4, hx4⟩; have X2 := hide ((Ext.new w _).trans hx4); have R2 := hide hr4; have T2 := hide ht4; clear hr4 ht4 hx4)
  go_wp2_with (fail)
  go_loopw [3, 5, 6] (fun s3 s5 _ wr => (∃ k : Nat, k ≤ 32 ∧ s5 = .int .i64 k ∧ Hid (Ext w2 wr ∧ wr.ownsRow w2.heap.size 3 1 s3 (pgs L k).length (iv (pgs L k))))) (fun _ s5 _ _ => (32 - intOf s5).toNat)
  case atStart => exact ⟨0, by omega, rfl, Ext.refl _, World.ownsRow_nil _ _ _ _⟩
  case round =>
    obtain ⟨k, hk, rfl, hs⟩ := hrel
    have X := hide hs.out.1
    have ho := hs.out.2
    obtain ⟨A3, c3, hv3, _⟩ := own_form ho
    subst hv3
    have HO := hide ho
    clear hs ho
    obtain ⟨q, hq⟩ : ∃ q, q = (pgs L k).length := ⟨_, rfl⟩
    have hqk : q ≤ k := by rw [hq]; exact pgs_len L k
    rw [← hq] at HO ⊢
    have HQ := hide hq
    clear hq
    by_cases hlt : k < 32
    · go_wp2_with (fail)
      go_loopw [3, 6] (fun s3 s6 wx => (∃ j : Nat, j ≤ m ∧ s6 = .int .i64 j ∧ s3 = .slice A3 q c3 ∧ wr = wx ∧ Hid (∀ j', j' < j → ∀ x, T[j']? = some x → x.a0 ≠ (k : Int)))) (fun _ s6 _ => (m - intOf s6).toNat)
      case atStart => exact ⟨0, by omega, rfl, rfl, rfl, fun j' h => absurd h (by omega)⟩
      case round =>
        obtain ⟨j, hj, rfl, rfl, rfl, hno⟩ := hrel
        by_cases hjm : j < m
        · obtain ⟨bk, off, hAe, hbw, hcell⟩ := R2.out.plain (by omega) (by omega)
          subst hAe
          obtain ⟨x, hx⟩ : ∃ x, T[j]? = some x := ⟨_, List.getElem?_eq_getElem (by rw [← HM.out]; exact hjm)⟩
          obtain ⟨A5, c5, q0, _, _, _⟩ := T2.out.at_ hx
          have g0 := (X.out.cell (p := ⟨bk, off + j * 3, none⟩) hbw).trans (hcell _ _ q0)
          have HX := hide hx
          clear q0 hcell hx
          by_cases hxk : x.a0 = (k : Int)
          · have d1 : (x.a0 == (k : Int)) = true := by simpa using hxk
            have HIN := hide (show (k : Int) ∈ L by
              rw [HLT.out, List.mem_map]
              exact ⟨x, List.mem_of_getElem? HX.out, hxk⟩)
            have hsz : w2.heap.size ≤ wr.heap.size := X.out.size
            have HB := hide (fun z (hz : Value.ownBlock (.slice A3 q c3) = some z) => own_ge HO.out hz)
            clear hxk
            go_wp2_with (at_builtin; refine wpList_append_any _ rfl (.tmp 27) (.tmp 29) _ rfl w2.heap.size 3 i0 _ 1 8 Try.underlying40 hi0 hz0 hz1 hz2 rfl (by omega) (.slice A3 q c3) q (iv (pgs L k)) rfl (Ext.own (Ext.new wr _) HO.out) _ (some ⟨wr.heap.size, 0, none⟩) 1 1 [.int .i64 (k : Int)] rfl (by have := reads_blk (m := 1) (Blk.new wr 3 #[.int .i64 (k : Int)]) rfl; exact this) (by intro u hu; simp at hu; subst hu; rfl) (by simp only [maxLen]; omega) (by omega) (by simp; omega) ?_; intro v4 w4 ho4 hg4 hat4; have E4 := hide (Ext.grown (X.out.alloc _) hg4 HB.out); obtain ⟨A4', c4', hv4, _⟩ := own_form ho4; subst hv4; have O4 := hide ho4; clear ho4 hg4 hat4)
            go_roundw
            case rel => exact ⟨k + 1, by omega, by go_num, E4.out, by
              rw [pgs_in HIN.out]
              have := O4.out
              rw [HQ.out] at this ⊢
              simpa [iv] using this⟩
            case measure => simp [intOf]; omega
          · have d1 : (x.a0 == (k : Int)) = false := by simpa using hxk
            have HXK := hide hxk
            clear hxk
            go_wp2_with (fail)
            go_roundw
            case rel => exact ⟨j + 1, by omega, by go_num, by trivial, by trivial, fun j' hj' y hy => by
              rcases Nat.lt_or_ge j' j with h' | h'
              · exact hno.out j' h' y hy
              · obtain rfl : j' = j := by omega
                rw [HX.out] at hy
                injection hy with hy
                subst hy
                exact HXK.out⟩
            case measure => simp [intOf]; omega
        · have djm : decide ((j : Int) < (m : Int)) = false := decide_eq_false (by omega)
          have HNO := hide (show (k : Int) ∉ L by
            rw [HLT.out, List.mem_map]
            rintro ⟨x, hx, hxk⟩
            obtain ⟨j', hj', e⟩ := List.mem_iff_getElem.1 hx
            exact hno.out j' (by have := HM.out; omega) x (by rw [← e]; exact List.getElem?_eq_getElem _) hxk)
          go_wp2_with (fail)
          go_roundw
          case rel => exact ⟨k + 1, by omega, by go_num, X.out, by
            rw [pgs_out HNO.out, ← HQ.out]
            exact HO.out⟩
          case measure => simp [intOf]; omega
    · obtain rfl : k = 32 := by omega
      go_wp2_with (fail)
      go_ret
      have e : pagesOf L = pgs L 32 := rfl
      unfold GivesN
      rw [e, ← HQ.out]
      exact ⟨A3, c3, rfl, Reads.of_own HO.out, X2.out.trans X.out⟩
end Go.Proofs.Ytaagdjipjeindaa
