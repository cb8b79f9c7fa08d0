/- Tile: the document's disk: contracts: cut, Crash, done, Arm. -/
import Derived.Test.YtpbenpkgbhmldaaTileQ
import Derived.Deep.RegionHeld3
namespace Go.Proofs.Ytpbenpkgbhmldaa
open Go.ChangeShapes Go.WideShapes Go.ChangeAt Go.RowKit Go.Maps
set_option linter.unusedVariables false

section
variable {B : Nat} {w w' : World} {b n : Nat} {A1 A2 A3 Am : Option Addr} {c1 c2 c3 km cm : Nat} {T V : List (List UInt8)} {L : List Bool} {dead on : Bool} {pa : Int} {M : List UInt8}
theorem rcut_off (h : Rk B w b n A1 A2 A3 Am c1 c2 c3 km cm T V L dead false pa M) :
    Calls Try.prog 37 #[.pointer (some ⟨b, 0, none⟩)] w fun e w' => e = .returned (.bool false) ∧ w = w' := by
  obtain ⟨y0, y1, y2, y3, y4, y5, y6⟩ := h.cells
  clear h
  go_enter Try.func37, Try.ntmps37
  go_wp2
  go_ret
  exact ⟨rfl, rfl⟩
theorem Rk.count (h : Rk B w b n A1 A2 A3 Am c1 c2 c3 km cm T V L dead on pa M) (x : Int) :
    Rk B (w.setCell ⟨b, 5, none⟩ (.int .i64 x)) b n A1 A2 A3 Am c1 c2 c3 km cm T V L dead on x M ∧ RTurn B w (w.setCell ⟨b, 5, none⟩ (.int .i64 x)) :=
  h.set_ (by have := h.blk.set_ 5 (.int .i64 x); simpa using this) (tset' w b 5 _)
theorem rcut_no (h : Rk B w b n A1 A2 A3 Am c1 c2 c3 km cm T V L dead true pa M) (h0 : 0 < pa) (h1 : pa ≤ 9223372036854775807) :
    Calls Try.prog 37 #[.pointer (some ⟨b, 0, none⟩)] w fun e w' => e = .returned (.bool false) ∧ Rk B w' b n A1 A2 A3 Am c1 c2 c3 km cm T V L dead true (pa - 1) M ∧ RTurn B w w' := by
  obtain ⟨y0, y1, y2, y3, y4, y5, y6⟩ := h.cells
  have yf := h.blk.frozen 5
  have HC := hide (h.count (pa - 1))
  have e1 : ¬ pa - 1 < 0 := by omega
  clear h
  go_enter Try.func37, Try.ntmps37
  go_wp2
  go_ret
  exact ⟨rfl, HC.out⟩
theorem rcut_yes (h : Rk B w b n A1 A2 A3 Am c1 c2 c3 km cm T V L dead true 0 M) :
    Calls Try.prog 37 #[.pointer (some ⟨b, 0, none⟩)] w fun e w' => e = .returned (.bool true) ∧ Rk B w' b n A1 A2 A3 Am c1 c2 c3 km cm T V L dead true (-1) M ∧ RTurn B w w' := by
  obtain ⟨y0, y1, y2, y3, y4, y5, y6⟩ := h.cells
  have yf := h.blk.frozen 5
  have HC := hide (h.count (-1))
  clear h
  go_enter Try.func37, Try.ntmps37
  go_wp2
  go_ret
  exact ⟨rfl, HC.out⟩
end
theorem and_zero (z r : Nat) (hz : z < 256) : (bits .and .u8 ((z : Int) / 2 ^ r) 1 == 0) = !decide (z / 2 ^ r % 2 = 1) := by
  have := and_one z r hz
  rw [bne] at this
  rw [← this]
  simp
set_option maxRecDepth 100000 in
set_option maxHeartbeats 16000000 in
theorem rcrash_any {B : Nat} {w : World} {b n : Nat} {A1 A2 A3 Am : Option Addr} {c1 c2 c3 km cm : Nat} {T : List (List UInt8)} {U : Int → Option (List UInt8)} {dead on : Bool} {pa : Int} {M0 : List UInt8} (A : Option Addr) (m c : Nat) (M : List UInt8)
    (h : Rk B w b n A1 A2 A3 Am c1 c2 c3 km cm T (vL T U) (lL T U) dead on pa M0) (hl : M.length = m) (hm : m ≤ 1048576) (hn : n ≤ 2000) (hr : ∀ w', RTurn B w w' → Reads w' w'.heap.size 1 A m (bv M)) :
    Calls Try.prog 26 #[.pointer (some ⟨b, 0, none⟩), .slice A m c] w fun e w' => e = .returned (.tuple #[]) ∧ Rk B w' b n A1 A2 A3 Am c1 c2 c3 km cm (crT M U T) (crT M U T) (lL (crT M U T) (fun _ => none)) true false pa M0 ∧ RTurn B w w' := by
  obtain ⟨hlt1, _, _⟩ := h.lt_
  have HL := hide hl
  have HT := hide hlt1
  have HR := hide hr
  have H := hide h
  have hmi : (m : Int) ≤ 1048576 := by omega
  have hni : (n : Int) ≤ 2000 := by omega
  clear hr hl hlt1 h
  go_enter Try.func26, Try.ntmps26
  go_wp2_with (fail)
  go_loopw [4, 5] (fun s4 s5 wr => (∃ i : Nat, i ≤ n ∧ s5 = .int .i64 i ∧ s4 = .int .i64 (cnt U i) ∧ Hid (Rk B wr b n A1 A2 A3 Am c1 c2 c3 km cm (mix i (crT M U T) T) (mix i (crT M U T) (vL T U)) (mix i (lL (crT M U T) (fun _ => none)) (lL T U)) dead on pa M0 ∧ RTurn B w wr))) (fun _ s5 _ => (n - intOf s5).toNat)
  case atStart => exact ⟨0, by omega, rfl, rfl, by rw [mix_zero, mix_zero, mix_zero]; exact H.out, RTurn.refl _ _⟩
  case round =>
    obtain ⟨i, hi, rfl, rfl, hs⟩ := hrel
    obtain ⟨k, hk⟩ : ∃ k, k = cnt U i := ⟨_, rfl⟩
    rw [← hk]
    have HK := hide hk
    have hkn : k ≤ i := by rw [hk]; exact cnt_le _ _
    clear hk
    by_cases hlt : i < n
    · obtain ⟨g1, g2, g3, t, v, l, rfl, rfl, rfl, p1, p2, p3, z1, z2, z3, f1, f2, f3, n12, n13, n23, nb1, nb2, nb3⟩ := hs.out.1.at_ hlt
      obtain ⟨y0, y1, y2, y3, y4, y5, y6⟩ := hs.out.1.cells
      have hiT : i < T.length := by rw [HT.out]; exact hlt
      obtain ⟨t0, ht0⟩ : ∃ t0, T[i]? = some t0 := ⟨_, List.getElem?_eq_getElem hiT⟩
      have lc : (crT M U T).length = T.length := crT_len _ _ _
      have lv : (vL T U).length = T.length := vL_len _ _
      have ll : (lL T U).length = T.length := lL_len _ _
      have lc' : (lL (crT M U T) (fun _ => none)).length = T.length := by rw [lL_len, lc]
      have q1 : T[i]? = some t := by rw [mix_get (by rw [lc]) (by omega), if_neg (by omega)] at p1; exact p1
      have q2 : (vL T U)[i]? = some v := by rw [mix_get (by omega) (by omega), if_neg (by omega)] at p2; exact p2
      have q3 : (lL T U)[i]? = some l := by rw [mix_get (by omega) (by omega), if_neg (by omega)] at p3; exact p3
      have hii : (i : Int) < (n : Int) := by omega
      have hi0 : (0 : Int) ≤ (i : Int) := by omega
      have HS := hide hs
      have hTi := hide (And.intro q1 (And.intro q2 q3))
      clear hs p1 p2 p3 ht0 t0 lc lv ll lc' q1 q2 q3
      have hk0 : (0 : Int) ≤ (k : Int) := by omega
      cases l with
      | false =>
        have hU : U (i : Nat) = none := by
          have := hTi.out.2.2
          rw [lL_get, if_pos hiT] at this
          injection this with this
          exact Option.not_isSome_iff_eq_none.1 (by rw [this]; simp)
        have HD := hide (cr_dry (M := M) hiT hU)
        clear hU
        go_wp2_with (fail)
        go_roundw
        case rel => exact ⟨i + 1, by omega, by go_num, by rw [HD.out.2.2.2, ← HK.out], by
          rw [mix_skip (by rw [crT_len]) (by rw [crT_len]; exact hiT) HD.out.1, mix_skip (by rw [crT_len, vL_len]) (by rw [crT_len]; exact hiT) HD.out.2.1, mix_skip (by rw [lL_len, lL_len, crT_len]) (by rw [lL_len, crT_len]; exact hiT) HD.out.2.2.1]
          exact HS.out.1, HS.out.2⟩
        case measure => simp [intOf]; omega
      | true =>
        have hU : U (i : Nat) = some v := by
          have h3 := hTi.out.2.2
          have h2 := hTi.out.2.1
          rw [lL_get, if_pos hiT] at h3
          rw [vL_get, if_pos hiT] at h2
          injection h3 with h3
          injection h2 with h2
          obtain ⟨u, hu⟩ := Option.isSome_iff_exists.1 h3
          rw [hu] at h2 ⊢
          exact congrArg some h2
        have HW := hide (cr_wet (M := M) hTi.out.1 hU)
        rw [← HK.out] at HW
        clear hU
        obtain ⟨q, hq⟩ : ∃ q : Nat, q = k / 8 := ⟨_, rfl⟩
        obtain ⟨r, hr8⟩ : ∃ r : Nat, r = k % 8 := ⟨_, rfl⟩
        have e0 : (k : Int) / 8 = (q : Int) := by omega
        have e1 : (k : Int) % 8 = (r : Int) := by omega
        have er : (r : Int) < 8 := by omega
        have HRW := hide (HR.out wr HS.out.2)
        have HQ := hide (And.intro hq hr8)
        clear hq hr8
        -- what the round leaves
        have HN0 := hide (HS.out.1.was_ i t)
        have HN1 := hide (HN0.out.1.wet_ i false)
        have HM0 := hide (HS.out.1.now_ i v)
        have HM1 := hide (HM0.out.1.was_ i v)
        have HM2 := hide (HM1.out.1.wet_ i false)
        have KEEP := hide (show (mix (i + 1) (crT M U T) (vL T U)) = (mix i (crT M U T) (vL T U)).set i (if bit M k then t else v) from mix_succ (by rw [crT_len, vL_len]) (by rw [crT_len]; exact hiT) HW.out.1)
        have KEPL := hide (show (mix (i + 1) (lL (crT M U T) (fun _ => none)) (lL T U)) = (mix i (lL (crT M U T) (fun _ => none)) (lL T U)).set i false from mix_succ (by rw [lL_len, lL_len, crT_len]) (by rw [lL_len, crT_len]; exact hiT) (by rw [lL_get, crT_len, if_pos hiT]; rfl))
        have KEPT := hide (show (mix (i + 1) (crT M U T) T) = (mix i (crT M U T) T).set i (if bit M k then t else v) from mix_succ (by rw [crT_len]) (by rw [crT_len]; exact hiT) HW.out.1)
        have KEPS := hide (show bit M k = true → mix (i + 1) (crT M U T) T = mix i (crT M U T) T from fun hb => mix_skip (by rw [crT_len]) (by rw [crT_len]; exact hiT) (by rw [HW.out.1, hb, hTi.out.1]; rfl))
        by_cases hqm : q < m
        · obtain ⟨bk, off, hA, hbw, hcell⟩ := HRW.out.plain (by omega) (by omega)
          subst hA
          obtain ⟨x, hx⟩ : ∃ x, M[q]? = some x := ⟨_, List.getElem?_eq_getElem (by rw [HL.out]; omega)⟩
          have gx := hcell q (.int .u8 (x.toNat : Int)) (by simp [bv, hx])
          have hb : bit M k = decide ((x.toNat / 2 ^ r) % 2 = 1) := by
            unfold bit
            rw [HL.out, ← HQ.out.1, ← HQ.out.2, List.getD_eq_getElem?_getD, hx]
            simp [hqm]
          have HB := hide hb
          obtain ⟨z, hz⟩ : ∃ z, z = x.toNat := ⟨_, rfl⟩
          have hz8 : z < 256 := by rw [hz]; exact x.toNat_lt
          rw [← hz] at gx HB
          have h1 : (q : Int) < (m : Int) := by omega
          have h2 : (0 : Int) ≤ (q : Int) := by omega
          have dq : decide (m ≤ q) = false := decide_eq_false (by omega)
          have hbt := and_zero z r hz8
          rw [← HB.out] at hbt
          clear hcell hx hb hz
          cases hbm : bit M k with
          | true =>
            have HBM := hide hbm
            rw [hbm, Bool.not_true] at hbt
            clear hbm
            go_wp2_with (fail)
            go_region
            all_goals
              go_wp2_with (fail)
              go_roundw
              case rel => exact ⟨i + 1, by omega, by go_num, by rw [HW.out.2.2.2]; go_num, by
                rw [KEPS.out HBM.out, KEEP.out, HBM.out, if_pos rfl, KEPL.out]
                exact HN1.out.1.ext (by (repeat (first | with_reducible exact Ext.refl _ | with_reducible refine Ext.drew ?_))), ((HS.out.2.trans HN0.out.2).trans HN1.out.2).trans (RTurn.of_ext (by (repeat (first | with_reducible exact Ext.refl _ | with_reducible refine Ext.drew ?_))))⟩
              case measure => simp [intOf]; omega
          | false =>
            have HBM := hide hbm
            rw [hbm, Bool.not_false] at hbt
            clear hbm
            go_wp2_with (fail)
            go_region
            all_goals
              go_wp2_with (fail)
              go_region
              all_goals
                go_wp2_with (fail)
                go_roundw
                case rel => exact ⟨i + 1, by omega, by go_num, by rw [HW.out.2.2.2]; go_num, by
                  rw [KEPT.out, KEEP.out, HBM.out, if_neg (by simp), KEPL.out]
                  exact HM2.out.1.ext (by (repeat (first | with_reducible exact Ext.refl _ | with_reducible refine Ext.drew ?_))), (((HS.out.2.trans HM0.out.2).trans HM1.out.2).trans HM2.out.2).trans (RTurn.of_ext (by (repeat (first | with_reducible exact Ext.refl _ | with_reducible refine Ext.drew ?_))))⟩
                case measure => simp [intOf]; omega
        · have hb : bit M k = false := by
            unfold bit
            rw [HL.out, ← HQ.out.1]
            simp [hqm]
          have HBM := hide hb
          have dq : decide (m ≤ q) = true := decide_eq_true (by omega)
          have h1 : (m : Int) ≤ (q : Int) := by omega
          clear hb hqm
          go_wp2_with (fail)
          go_region
          all_goals
            go_wp2_with (fail)
            go_region
            all_goals
              go_wp2_with (fail)
              go_roundw
              case rel => exact ⟨i + 1, by omega, by go_num, by rw [HW.out.2.2.2]; go_num, by
                rw [KEPT.out, KEEP.out, HBM.out, if_neg (by simp), KEPL.out]
                exact HM2.out.1.ext (by (repeat (first | with_reducible exact Ext.refl _ | with_reducible refine Ext.drew ?_))), (((HS.out.2.trans HM0.out.2).trans HM1.out.2).trans HM2.out.2).trans (RTurn.of_ext (by (repeat (first | with_reducible exact Ext.refl _ | with_reducible refine Ext.drew ?_))))⟩
              case measure => simp [intOf]; omega
    · obtain rfl : i = n := by omega
      have HF := hide (show Rk B wr b i A1 A2 A3 Am c1 c2 c3 km cm (crT M U T) (crT M U T) (lL (crT M U T) (fun _ => none)) dead on pa M0 ∧ RTurn B w wr from ⟨by
        have h1 : mix i (crT M U T) T = crT M U T := by
          have := mix_all (a := crT M U T) (b := T) (by rw [crT_len]); rwa [crT_len, HT.out] at this
        have h2 : mix i (crT M U T) (vL T U) = crT M U T := by
          have := mix_all (a := crT M U T) (b := vL T U) (by rw [crT_len, vL_len]); rwa [crT_len, HT.out] at this
        have h3 : mix i (lL (crT M U T) (fun _ => none)) (lL T U) = lL (crT M U T) (fun _ => none) := by
          have := mix_all (a := lL (crT M U T) (fun _ => none)) (b := lL T U) (by rw [lL_len, lL_len, crT_len]); rwa [lL_len, crT_len, HT.out] at this
        have := hs.out.1
        rwa [h1, h2, h3] at this, hs.out.2⟩)
      clear hs
      obtain ⟨y0, y1, y2, y3, y4, y5, y6⟩ := HF.out.1.cells
      have f3 := HF.out.1.blk.frozen 3
      have f4 := HF.out.1.blk.frozen 4
      have HE := hide (HF.out.1.set_ (d' := true) (o' := false) (a' := pa) (w' := (wr.setCell ⟨b, 4, none⟩ (.bool false)).setCell ⟨b, 3, none⟩ (.bool true)) (by have := (HF.out.1.blk.set_ 4 (.bool false)).set_ 3 (.bool true); simpa using this) (Touch.setCell (p := ⟨b, 3, none⟩) (tset' wr b 4 _) (fun _ => rfl) _))
      go_wp2_with (fail)
      go_end0
      exact ⟨rfl, HE.out.1, HF.out.2.trans HE.out.2⟩
end Go.Proofs.Ytpbenpkgbhmldaa
