/- Redo: the painter's part of Apply. -/
import Derived.Test.YtaagdjipjeindaaRedoF
namespace Go.Proofs.Ytaagdjipjeindaa
open Go.ChangeShapes Go.WideShapes Go.ChangeAt Go.RowKit
set_option linter.unusedVariables false

theorem stub_all (w : World) (b0 b1 : Int) : Calls Try.prog 22 #[.agg #[.int .i64 b0, .int .i64 b1]] w fun e w' => ∃ v er, e = .returned (.tuple #[v, .int .i64 er]) ∧ BB w' v (stubOf b0 b1) ∧ (stubOf b0 b1).length ≤ 1048576 ∧ Ext w w' := by
  refine (stub_any w b0 b1).mono ?_
  rintro e w' ⟨hx, ⟨hn, rfl⟩ | ⟨hy, v, rfl, hb⟩⟩
  · exact ⟨_, _, rfl, by rw [stubOf, if_neg hn]; exact BB.nil w', by rw [stubOf, if_neg hn]; decide, hx⟩
  · exact ⟨_, _, rfl, by rw [stubOf, if_pos hy]; exact hb, by rw [stubOf, if_pos hy]; simp [stubL], hx⟩
set_option maxRecDepth 1000000 in
set_option maxHeartbeats 8000000 in
theorem paint_blk (w2 : World) (xb eb : Nat) (f : Nat → List UInt8) (ls n kind a0 a1 b0 b1 t u h p nx : Int) (AN : Option Addr) (cN : Nat) (NL : List UInt8) (AO : Option Addr) (nO cO : Nat) (AM : Option Addr) (cM : Nat) (mv : List Mv) (A13 A14 A15 : Option Addr) (n13 c13 n14 c14 n15 c15 : Nat)
    (hP : PgB w2 xb f ls n) (hE : Blk w2 eb 31 #[.int .i64 kind, .int .i64 t, .int .i64 u, .int .i64 h, .int .i64 p, .int .i64 nx, .int .i64 a0, .int .i64 a1, .int .i64 b0, .int .i64 b1, .slice AO nO cO, .slice AN NL.length cN, .slice AM mv.length cM, .slice A13 n13 c13, .slice A14 n14 c14, .slice A15 n15 c15]) (hne : eb ≠ xb) (hN : BBx w2 xb (.slice AN NL.length cN) NL) (hNL : NL.length ≤ 1000)
    (hM : Reads w2 w2.heap.size 4 AM mv.length (mvs mv)) (hMx : mv ≠ [] → ∀ ad, AM = some ad → ad.block ≠ xb) (hml : mv.length ≤ 1000)
    (u0 u1 u2 u3 u4 u5 u7 u8 u9 u11 u12 u13 u14 u15 u16 u17 u18 u19 u20 u21 u22 u23 u24 u25 u26 u27 u28 u29 u30 u31 u32 u33 u34 u35 u36 u37 u38 u39 u40 u41 u42 u43 u44 u45 u46 u47 u48 u49 u50 u51 u52 u53 u54 u55 u56 u58 u59 u60 u61 u62 u63 u64 u65 u66 u67 u68 u69 u70 u71 u72 u73 u74 u75 u76 u77 u78 u79 u80 u81 u82 u83 u84 u85 u86 u87 u88 u89 u90 u91 u92 u93 u94 u95 u96 u97 u98 u99 u100 u101 u102 u103 : Value) (KK : Act → World → Prop) (Q : Exit → Act → World → Prop)
    (hKK : ∀ (v13 v14 v16 v58 v59 v60 v61 v62 v63 v64 v65 v66 v67 v68 v69 v70 v71 v72 v73 v74 v75 v76 v77 v78 v79 v80 v81 v82 v83 v84 v85 v86 v87 v88 v89 v90 v91 v92 v93 v94 v95 v96 v97 v98 v99 : Value) (wx : World), (PgB wx xb (paintF kind a0 a1 b0 b1 n NL mv f) ls n ∧ Touch w2 wx (fun a => a = xb)) → KK ⟨(u0 :: u1 :: u2 :: u3 :: u4 :: u5 :: Value.pointer (some ⟨eb, 0, none⟩) :: u7 :: u8 :: u9 :: Value.pointer (some ⟨xb, 0, none⟩) :: u11 :: u12 :: v13 :: v14 :: u15 :: v16 :: u17 :: u18 :: u19 :: u20 :: u21 :: u22 :: u23 :: u24 :: u25 :: u26 :: u27 :: u28 :: u29 :: u30 :: u31 :: u32 :: u33 :: u34 :: u35 :: u36 :: u37 :: u38 :: u39 :: u40 :: u41 :: u42 :: u43 :: u44 :: u45 :: u46 :: u47 :: u48 :: u49 :: u50 :: u51 :: u52 :: u53 :: u54 :: u55 :: u56 :: Value.int .i64 kind :: v58 :: v59 :: v60 :: v61 :: v62 :: v63 :: v64 :: v65 :: v66 :: v67 :: v68 :: v69 :: v70 :: v71 :: v72 :: v73 :: v74 :: v75 :: v76 :: v77 :: v78 :: v79 :: v80 :: v81 :: v82 :: v83 :: v84 :: v85 :: v86 :: v87 :: v88 :: v89 :: v90 :: v91 :: v92 :: v93 :: v94 :: v95 :: v96 :: v97 :: v98 :: v99 :: u100 :: u101 :: u102 :: u103 :: []).toArray, []⟩ wx) :
    Code.wp Try.prog (blockAt Try.f9 2) (Exit.then KK Q) ⟨(u0 :: u1 :: u2 :: u3 :: u4 :: u5 :: Value.pointer (some ⟨eb, 0, none⟩) :: u7 :: u8 :: u9 :: Value.pointer (some ⟨xb, 0, none⟩) :: u11 :: u12 :: u13 :: u14 :: u15 :: u16 :: u17 :: u18 :: u19 :: u20 :: u21 :: u22 :: u23 :: u24 :: u25 :: u26 :: u27 :: u28 :: u29 :: u30 :: u31 :: u32 :: u33 :: u34 :: u35 :: u36 :: u37 :: u38 :: u39 :: u40 :: u41 :: u42 :: u43 :: u44 :: u45 :: u46 :: u47 :: u48 :: u49 :: u50 :: u51 :: u52 :: u53 :: u54 :: u55 :: u56 :: Value.int .i64 kind :: u58 :: u59 :: u60 :: u61 :: u62 :: u63 :: u64 :: u65 :: u66 :: u67 :: u68 :: u69 :: u70 :: u71 :: u72 :: u73 :: u74 :: u75 :: u76 :: u77 :: u78 :: u79 :: u80 :: u81 :: u82 :: u83 :: u84 :: u85 :: u86 :: u87 :: u88 :: u89 :: u90 :: u91 :: u92 :: u93 :: u94 :: u95 :: u96 :: u97 :: u98 :: u99 :: u100 :: u101 :: u102 :: u103 :: []).toArray, []⟩ w2 := by
  have HP := hide hP
  have HE := hide hE
  have HN := hide hN
  have HNL := hide (And.intro hNL hml)
  have HM := hide hM
  have HMX := hide hMx
  have HNE := hide hne
  clear hP hE hN hNL hM hMx hml hne
  conv => arg 2; whnf
  obtain ⟨e0, e1, e2, e3, e4, e5, e6, e7, e8, e9, e10, e11, e12, e13, e14, e15⟩ := HE.out.cells16
  have hk : kind = 1 ∨ kind = 2 ∨ kind = 7 ∨ kind = 8 ∨ (kind ≠ 1 ∧ kind ≠ 2 ∧ kind ≠ 7 ∧ kind ≠ 8) := by omega
  rcases hk with rfl | rfl | rfl | rfl | ⟨k1, k2, k7, k8⟩
  · have eF := hide (show paintF 1 a0 a1 b0 b1 n NL mv f = setP f a0 a1 n NL by simp [paintF])
    go_wp2_with (go_at_call 21; refine (paint_any w2 xb f ls n a0 a1 _ NL HP.out HN.out.bb (by have := HNL.out.1; omega)).mono ?_; rintro e w3 ⟨rfl, hp3, ht3⟩; have HP3 := hide hp3; have HT3 := hide ht3; clear hp3 ht3)
    rw [eF.out]
    exact ⟨HP3.out, HT3.out⟩
  · have eF := hide (show paintF 2 a0 a1 b0 b1 n NL mv f = setP f a0 a1 n NL by simp [paintF])
    go_wp2_with (go_at_call 21; refine (paint_any w2 xb f ls n a0 a1 _ NL HP.out HN.out.bb (by have := HNL.out.1; omega)).mono ?_; rintro e w3 ⟨rfl, hp3, ht3⟩; have HP3 := hide hp3; have HT3 := hide ht3; clear hp3 ht3)
    rw [eF.out]
    exact ⟨HP3.out, HT3.out⟩
  · have eF := hide (show paintF 7 a0 a1 b0 b1 n NL mv f = setP (setP f a0 a1 n (stubOf b0 b1)) b0 b1 n NL by simp [paintF])
    go_upto_region 16 with (go_at_call 22; refine (stub_all w2 b0 b1).mono ?_; rintro e w3 ⟨sv, er, rfl, hb3, hl3, hx3⟩; have HB3 := hide hb3; have HL3 := hide hl3; have X3 := hide hx3; clear hb3 hl3 hx3)
    have HE3 := hide (X3.out.blk HE.out)
    clear e0 e1 e2 e3 e4 e5 e6 e7 e8 e9 e10 e11 e12 e13 e14 e15
    obtain ⟨e0, e1, e2, e3, e4, e5, e6, e7, e8, e9, e10, e11, e12, e13, e14, e15⟩ := HE3.out.cells16
    go_upto_region 17 with (go_at_call 21; refine (paint_any w3 xb f ls n a0 a1 _ (stubOf b0 b1) (HP.out.ext X3.out) HB3.out HL3.out).mono ?_; rintro e w4 ⟨rfl, hp4, ht4⟩; have HP4 := hide hp4; have HT4 := hide ht4; clear hp4 ht4)
    have HE4 := hide (HT4.out.blk HE3.out HNE.out)
    clear e0 e1 e2 e3 e4 e5 e6 e7 e8 e9 e10 e11 e12 e13 e14 e15
    obtain ⟨e0, e1, e2, e3, e4, e5, e6, e7, e8, e9, e10, e11, e12, e13, e14, e15⟩ := HE4.out.cells16
    go_wp2_with (go_at_call 21; refine (paint_any w4 xb (setP f a0 a1 n (stubOf b0 b1)) ls n b0 b1 _ NL HP4.out ((HN.out.ext X3.out).touch HT4.out).bb (by have := HNL.out.1; omega)).mono ?_; rintro e w5 ⟨rfl, hp5, ht5⟩; have HP5 := hide hp5; have HT5 := hide ht5; clear hp5 ht5)
    rw [eF.out]
    exact ⟨HP5.out, ((Touch.of_below X3.out (fun a => a = xb)).trans HT4.out (fun _ _ h => h)).trans HT5.out (fun _ _ h => h)⟩
  · have eF := hide (show paintF 8 a0 a1 b0 b1 n NL mv f = mv.foldl (fun f x => setP f x.f0 x.f1 n []) f by simp [paintF])
    obtain ⟨N, hN⟩ : ∃ N, N = mv.length := ⟨_, rfl⟩
    have HNN := hide hN
    have hNb : N ≤ 1000 := by have := HNL.out.2; omega
    rw [← hN] at e12
    clear hN
    go_wp2_with (fail)
    go_loopw [16, 91] (fun _ s91 wr => (∃ i : Nat, i ≤ N ∧ s91 = .int .i64 i ∧ Hid (PgB wr xb ((mv.take i).foldl (fun f x => setP f x.f0 x.f1 n []) f) ls n ∧ Touch w2 wr (fun a => a = xb)))) (fun _ s91 _ => (N - intOf s91).toNat)
    case atStart => exact ⟨0, by omega, rfl, HP.out, Touch.refl _ _⟩
    case round =>
      obtain ⟨i, hi, rfl, hs⟩ := hrel
      have PR := hide hs.out.1
      have HT := hide hs.out.2
      clear hs
      by_cases hlt : i < N
      · have hne0 := hide (show mv ≠ [] from fun e => by have := HNN.out; rw [e] at this; simp at this; omega)
        have RM := hide (HM.out.touch HT.out (Nat.le_refl _) (fun ad had e => HMX.out hne0.out ad had e))
        obtain ⟨bk, off, hAe, hbw, hcell⟩ := RM.out.plain (by rw [← HNN.out]; omega) (by omega)
        subst hAe
        obtain ⟨x, hx⟩ : ∃ x, mv[i]? = some x := ⟨_, List.getElem?_eq_getElem (by rw [← HNN.out]; exact hlt)⟩
        obtain ⟨y0, y1, y2, y3⟩ := mvs_at hx
        have g0 := hcell _ _ y0
        have g1 := hcell _ _ y1
        have g2 := hcell _ _ y2
        have g3 := hcell _ _ y3
        rw [← Nat.add_assoc] at g1 g2 g3
        have hbr : bk < wr.heap.size := Nat.lt_of_lt_of_le hbw HT.out.size
        have HX := hide hx
        clear y0 y1 y2 y3 hcell hx
        go_wp2_with (go_at_call 21; refine (paint_any _ xb _ ls n x.f0 x.f1 _ [] (PR.out.ext (Ext.new wr _)) (BB.nil _) (by decide)).mono ?_; rintro e w5 ⟨rfl, hp5, ht5⟩; have HP5 := hide hp5; have HT5 := hide ht5; clear hp5 ht5)
        go_roundw
        case rel => exact ⟨i + 1, by omega, by go_num, by
          have hk := (List.getElem?_eq_some_iff.1 HX.out).1
          have e : mv[i] = x := (List.getElem?_eq_some_iff.1 HX.out).2
          rw [List.take_succ_eq_append_getElem hk, List.foldl_append, e]
          exact HP5.out, (HT.out.alloc _).trans HT5.out (fun _ _ h => h)⟩
        case measure => simp [intOf]; omega
      · obtain rfl : i = N := by omega
        have eT : mv.take i = mv := List.take_of_length_le (by rw [← HNN.out]; exact Nat.le_refl _)
        rw [eT] at PR
        go_wp2_with (fail)
        rw [eF.out]
        exact ⟨PR.out, HT.out⟩
  · have g1 : (kind == 1) = false := by simpa using k1
    have g2 : (kind == 2) = false := by simpa using k2
    have g7 : (kind == 7) = false := by simpa using k7
    have g8 : (kind == 8) = false := by simpa using k8
    have eF := hide (show paintF kind a0 a1 b0 b1 n NL mv f = f by simp [paintF, k1, k2, k7, k8])
    clear k1 k2 k7 k8
    go_wp2_with (fail)
    rw [eF.out]
    exact ⟨HP.out, Touch.refl _ _⟩
end Go.Proofs.Ytaagdjipjeindaa
