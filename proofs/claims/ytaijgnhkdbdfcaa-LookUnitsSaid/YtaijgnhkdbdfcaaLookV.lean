/- Look: contracts: On. (Printed by mk_lookv.py.) -/
import Derived.Test.YtaijgnhkdbdfcaaLookU
namespace Go.Proofs.Ytaijgnhkdbdfcaa
open Go.ChangeShapes Go.WideShapes Go.ChangeAt Go.RowKit
set_option linter.unusedVariables false

theorem twin_lit (w : World) (b : Nat) (s : Sn) (AL : Option Addr) (cL : Nat) (AD : Option Addr) (cD : Nat) (AO : Option Addr) (cO nl nd no : Nat) (h : SnAt w b s AL cL AD cD AO cO) (hk : s.Ok 1000) (hnl : nl = s.L.length) (hnd : nd = s.D.length) (hno : no = s.O.length) :
    Calls Try.prog 19 #[.agg #[.slice AL nl cL, .slice AD nd cD, .slice AO no cO, .int .i64 s.u, .int .i64 s.h]] w fun e w' => ∃ A2 c2 A3 c3 A4 c4, e = .returned (.agg #[.slice A2 nl c2, .slice A3 nd c3, .slice A4 no c4, .int .i64 s.u, .int .i64 s.h]) ∧ SnAt w' w.heap.size s A2 c2 A3 c3 A4 c4 ∧ Ext w w' :=
  (twin_any w b s AL cL AD cD AO cO nl nd no h hk hnl hnd hno).mono fun e w' ⟨cs, he, ⟨A2, c2, A3, c3, A4, c4, hcs, hs⟩, hx⟩ => ⟨A2, c2, A3, c3, A4, c4, by rw [he, hcs, hnl, hnd, hno]; rfl, hs, hx⟩
theorem pages_lit (kind a0 a1 b0 b1 t u h p n : Int) (A11 : Option Addr) (n11 c11 : Nat) (A12 A13 A14 A15 : Option Addr) (n12 c12 n13 c13 n14 c14 n15 c15 : Nat) (mv : List Mv) (w : World) (hr : w.ownsRow 0 54 4 (.slice A12 n12 c12) n12 (mvs mv)) (hl : mv.length ≤ 1000) (hn : n12 = mv.length) (np : Nat) (hnp : np = (pagesOf (touchL kind a0 b0 mv)).length) :
    Calls Try.prog 30 #[.agg #[.int .i64 kind, .int .i64 t, .int .i64 u, .int .i64 h, .int .i64 p, .int .i64 n, .int .i64 a0, .int .i64 a1, .int .i64 b0, .int .i64 b1, .slice none 0 0, .slice A11 n11 c11, .slice A12 n12 c12, .slice A13 n13 c13, .slice A14 n14 c14, .slice A15 n15 c15]] w fun e w' => ∃ A c, e = .returned (.slice A np c) ∧ w'.ownsRow w.heap.size 3 1 (.slice A np c) np (iv (pagesOf (touchL kind a0 b0 mv))) ∧ Ext w w' := by
  subst hn hnp
  exact (pages_any kind a0 a1 b0 b1 t u h p n A11 n11 c11 none 0 0 A12 A13 A14 A15 c12 n13 c13 n14 c14 n15 c15 mv w (own_reads hr) hl).mono fun e w' ⟨A, c, he, ho, hx⟩ => ⟨A, c, he, ho, hx⟩
theorem pagesOf_len (L : List Int) : (pagesOf L).length ≤ 32 := by
  unfold pagesOf
  have := List.length_filter_le (fun n => decide (n ∈ L)) ((List.range 32).map Int.ofNat)
  simpa using this
/-- bounds that On asks -/
structure OnPre (s : Sn) (X : En) : Prop where
  kl : s.L.length ≤ 800
  kd : s.D.length ≤ 800
  ko : s.O.length ≤ 800
  km : ∀ x ∈ s.O, x.mv.length ≤ 1000
  kx : ∀ x ∈ s.O, 0 ≤ x.d ∧ x.d ≤ 1000000
  jl : X.L.length ≤ 800
  jd : X.D.length ≤ 800
  jo : X.O.length ≤ 800
  jm : ∀ x ∈ X.O, x.mv.length ≤ 1000
  jv : X.E.mv.length ≤ 1000
theorem dirtyN_len (D : List Dt) (n lsn : Int) : (dirtyN D n lsn).length ≤ D.length + 1 := by
  unfold dirtyN
  split
  · split
    · omega
    · unfold putD
      simp only [List.length_append, List.length_take, List.length_cons, List.length_drop]
      omega
  · unfold putD
    simp only [List.length_append, List.length_take, List.length_cons, List.length_drop]
    omega
theorem fold_len (lsn : Int) : ∀ (P : List Int) (D : List Dt), (P.foldl (fun D n => dirtyN D n lsn) D).length ≤ D.length + P.length
  | [], D => by simp
  | n :: P, D => by
    have h1 := fold_len lsn P (dirtyN D n lsn)
    have h2 := dirtyN_len D n lsn
    simp only [List.foldl_cons, List.length_cons]
    omega
theorem swN_D (s : Sn) (X : En) (lsn : Int) (h1 : s.D.length ≤ 800) (h2 : X.D.length ≤ 800) : (swN s X lsn).D.length ≤ 800 := by
  unfold swN
  repeat' split
  all_goals assumption
/-- what is seen while the pages are noted -/
def DirtAt (w wr : World) (base sb : Nat) (s1 : Sn) (P : List Int) (k : Nat) (lsn : Int) : Prop := SwPost w base sb { s1 with D := (P.take k).foldl (fun D n => dirtyN D n lsn) s1.D } wr
theorem SwPost.trans {w w1 wx : World} {base sb : Nat} {s : Sn} (h : Tch base sb w w1) (k : SwPost w1 base sb s wx) : SwPost w base sb s wx := by
  obtain ⟨AL, cL, AD, cD, AO, cO, h1, h2, h3⟩ := k
  exact ⟨AL, cL, AD, cD, AO, cO, h1, h2, h.trans h3⟩
theorem SwPost.ext {w w1 wx : World} {base sb : Nat} {s : Sn} (k : SwPost w base sb s wx) (h : Ext wx w1) : SwPost w base sb s w1 := by
  obtain ⟨AL, cL, AD, cD, AO, cO, h1, h2, h3⟩ := k
  exact ⟨AL, cL, AD, cD, AO, cO, h.blk h1, h2.ext h, h3.trans (Tch.ext h)⟩
theorem SwPost.tch {w wx : World} {base sb : Nat} {s : Sn} (k : SwPost w base sb s wx) : Tch base sb w wx := by
  obtain ⟨AL, cL, AD, cD, AO, cO, h1, h2, h3⟩ := k
  exact h3
theorem on_fin {w w3 w4 wr w8 : World} {sb : Nat} {s : Sn} {cs : Array Value} {AL cL AD cD AO cO} (hsb : sb = w.heap.size) (x3 : Ext w w3) (x4 : Ext w3 w4) (t : Tch sb sb w4 wr) (rr : Blk wr (sb + 1 + 1) 37 cs) (t6 : Touch wr w8 (fun k => k = sb + 1 + 1)) (hs : SnAt wr sb s AL cL AD cD AO cO) :
    SnAt w8 w.heap.size s AL cL AD cD AO cO ∧ Ext w w8 := by
  subst hsb
  have hx : Ext w wr := Below.trans (Ext.trans x3 x4) (t.below (Ext.size (Ext.trans x3 x4)))
  exact ⟨touch_ne t6 rr hs rfl, Touch.ext hx t6 (by omega)⟩
theorem on_round {w wr w7 : World} {base sb : Nat} {s1 : Sn} {P : List Int} {k : Nat} {lsn x : Int} (hx : P[k]? = some x) (h : Tch base sb w wr) (h7 : SwPost wr base sb { s1 with D := dirtyN ((P.take k).foldl (fun D n => dirtyN D n lsn) s1.D) x lsn } w7) : DirtAt w w7 base sb s1 P (k + 1) lsn := by
  have hk := (List.getElem?_eq_some_iff.1 hx).1
  have e : P[k] = x := (List.getElem?_eq_some_iff.1 hx).2
  have e2 : (P.take (k + 1)).foldl (fun D n => dirtyN D n lsn) s1.D = dirtyN ((P.take k).foldl (fun D n => dirtyN D n lsn) s1.D) x lsn := by
    rw [List.take_succ_eq_append_getElem hk, List.foldl_append, e]
    rfl
  unfold DirtAt
  rw [e2]
  exact SwPost.trans h h7
theorem on_end {w wr : World} {base sb : Nat} {s1 : Sn} {P : List Int} {k : Nat} {lsn : Int} (hk : P.length = k) (h : DirtAt w wr base sb s1 P k lsn) : SwPost w base sb { s1 with D := P.foldl (fun D n => dirtyN D n lsn) s1.D } wr := by
  unfold DirtAt at h
  rw [List.take_of_length_le (by omega)] at h
  exact h
set_option maxRecDepth 1000000 in
set_option maxHeartbeats 40000000 in
theorem on_any (w : World) (b : Nat) (s : Sn) (X : En) (lsn : Int) (AL : Option Addr) (cL : Nat) (AD : Option Addr) (cD : Nat) (AO : Option Addr) (cO nl nd no : Nat) (AN : Option Addr) (nn cN : Nat) (AM : Option Addr) (nm cM : Nat) (EL : Option Addr) (el cEL : Nat) (ED : Option Addr) (ed cED : Nat) (EO : Option Addr) (eo cEO : Nat)
    (hS : SnAt w b s AL cL AD cD AO cO) (hX : EnAt w X AN cN AM cM EL cEL ED cED EO cEO) (hp : OnPre s X) (hnl : nl = s.L.length) (hnd : nd = s.D.length) (hno : no = s.O.length) (hnn : nn = X.E.NL.length) (hnm : nm = X.E.mv.length) (hel : el = X.L.length) (hed : ed = X.D.length) (heo : eo = X.O.length) :
    Calls Try.prog 15 #[.agg #[.slice AL nl cL, .slice AD nd cD, .slice AO no cO, .int .i64 s.u, .int .i64 s.h], .agg #[.int .i64 X.E.kind, .int .i64 X.E.t, .int .i64 X.E.u, .int .i64 X.E.h, .int .i64 X.E.p, .int .i64 X.E.nx, .int .i64 X.E.a0, .int .i64 X.E.a1, .int .i64 X.E.b0, .int .i64 X.E.b1, .slice none 0 0, .slice AN nn cN, .slice AM nm cM, .slice EL el cEL, .slice ED ed cED, .slice EO eo cEO], .int .i64 lsn] w (GivesSn w (onN s X lsn)) := by
  have HS := hide hS
  have HX := hide hX
  have HP := hide hp
  have NL := hide hnl
  have ND := hide hnd
  have NO := hide hno
  have NN := hide hnn
  have NM := hide hnm
  have HEL := hide hel
  have HED := hide hed
  have HEO := hide heo
  clear hS hX hp hnl hnd hno hnn hnm hel hed heo
  go_enter Try.func15, Try.ntmps15
  go_upto_region 1 with (fail)
  obtain ⟨w1, hw1⟩ : ∃ w1, w1 = ((w.alloc (.cells #[.slice AL nl cL, .slice AD nd cD, .slice AO no cO, .int .i64 s.u, .int .i64 s.h] 37)).alloc (.cells #[.int .i64 X.E.kind, .int .i64 X.E.t, .int .i64 X.E.u, .int .i64 X.E.h, .int .i64 X.E.p, .int .i64 X.E.nx, .int .i64 X.E.a0, .int .i64 X.E.a1, .int .i64 X.E.b0, .int .i64 X.E.b1, .slice none 0 0, .slice AN nn cN, .slice AM nm cM, .slice EL el cEL, .slice ED ed cED, .slice EO eo cEO] 35)).alloc (.cells #[.slice none 0 0, .slice none 0 0, .slice none 0 0, .int .i64 0, .int .i64 0] 37) := ⟨_, rfl⟩
  rw [← hw1]
  obtain ⟨sb, hsb⟩ : ∃ sb, sb = w.heap.size := ⟨_, rfl⟩
  rw [← hsb]
  have X1 := hide (show Ext w w1 by rw [hw1]; exact ((Ext.new w _).alloc _).alloc _)
  have B1 := hide (show Blk w1 sb 37 #[.slice AL nl cL, .slice AD nd cD, .slice AO no cO, .int .i64 s.u, .int .i64 s.h] by rw [hw1, hsb]; exact ((Blk.new w 37 _).alloc _).alloc _)
  have E1 := hide (show Blk w1 (sb + 1) 35 #[.int .i64 X.E.kind, .int .i64 X.E.t, .int .i64 X.E.u, .int .i64 X.E.h, .int .i64 X.E.p, .int .i64 X.E.nx, .int .i64 X.E.a0, .int .i64 X.E.a1, .int .i64 X.E.b0, .int .i64 X.E.b1, .slice none 0 0, .slice AN nn cN, .slice AM nm cM, .slice EL el cEL, .slice ED ed cED, .slice EO eo cEO] by rw [hw1, hsb]; exact (blk_new1 w _ 35 _).alloc _)
  have R1 := hide (show Blk w1 (sb + 1 + 1) 37 #[.slice none 0 0, .slice none 0 0, .slice none 0 0, .int .i64 0, .int .i64 0] by rw [hw1, hsb]; have := Blk.new ((w.alloc (.cells #[.slice AL nl cL, .slice AD nd cD, .slice AO no cO, .int .i64 s.u, .int .i64 s.h] 37)).alloc (.cells #[.int .i64 X.E.kind, .int .i64 X.E.t, .int .i64 X.E.u, .int .i64 X.E.h, .int .i64 X.E.p, .int .i64 X.E.nx, .int .i64 X.E.a0, .int .i64 X.E.a1, .int .i64 X.E.b0, .int .i64 X.E.b1, .slice none 0 0, .slice AN nn cN, .slice AM nm cM, .slice EL el cEL, .slice ED ed cED, .slice EO eo cEO] 35)) 37 #[.slice none 0 0, .slice none 0 0, .slice none 0 0, .int .i64 0, .int .i64 0]; simpa using this)
  have HSB := hide hsb
  clear hw1 hsb
  obtain ⟨g0, g1, g2, g3, g4⟩ := B1.out.cells5
  go_upto_region 2 with (go_at_call 19; refine (twin_lit w1 b s AL cL AD cD AO cO nl nd no (HS.out.ext X1.out) ⟨by have := HP.out.kl; omega, by have := HP.out.kd; omega, by have := HP.out.ko; omega, HP.out.km⟩ NL.out ND.out NO.out).mono ?_; rintro e w2 ⟨A2, c2, A3, c3, A4, c4, rfl, hs2, hx2⟩; have S2 := hide hs2; have X2 := hide hx2; have f0 := (hx2.blk B1.out).frozen 0; have f1 := (hx2.blk B1.out).frozen 1; have f2 := (hx2.blk B1.out).frozen 2; have f3 := (hx2.blk B1.out).frozen 3; have f4 := (hx2.blk B1.out).frozen 4; have k0 : w2.cell? ⟨sb, 0, none⟩ = some (.slice AL nl cL) := ((hx2.blk B1.out).cell 0).trans rfl; have k1 : w2.cell? ⟨sb, 1, none⟩ = some (.slice AD nd cD) := ((hx2.blk B1.out).cell 1).trans rfl; have k2 : w2.cell? ⟨sb, 2, none⟩ = some (.slice AO no cO) := ((hx2.blk B1.out).cell 2).trans rfl; have k3 : w2.cell? ⟨sb, 3, none⟩ = some (.int .i64 s.u) := ((hx2.blk B1.out).cell 3).trans rfl; have k4 : w2.cell? ⟨sb, 4, none⟩ = some (.int .i64 s.h) := ((hx2.blk B1.out).cell 4).trans rfl; clear hs2 hx2)
  have B3 := hide ((X2.out.blk B1.out).set5 (.slice A2 nl c2) (.slice A3 nd c3) (.slice A4 no c4) (.int .i64 s.u) (.int .i64 s.h))
  have T3 := hide (touch_set5 w2 sb (.slice A2 nl c2) (.slice A3 nd c3) (.slice A4 no c4) (.int .i64 s.u) (.int .i64 s.h))
  obtain ⟨w3, hw3⟩ : ∃ w3, w3 = ((((w2.setCell ⟨sb, 0, none⟩ (.slice A2 nl c2)).setCell ⟨sb, 1, none⟩ (.slice A3 nd c3)).setCell ⟨sb, 2, none⟩ (.slice A4 no c4)).setCell ⟨sb, 3, none⟩ (.int .i64 s.u)).setCell ⟨sb, 4, none⟩ (.int .i64 s.h) := ⟨_, rfl⟩
  rw [← hw3] at B3 T3
  rw [← hw3]
  clear hw3 f0 f1 f2 f3 f4 k0 k1 k2 k3 k4 g0 g1 g2 g3 g4
  have X3 := hide (show Ext w w3 from Touch.ext (X1.out.trans X2.out) T3.out (by rw [HSB.out]; exact Nat.le_refl _))
  have S3 := hide (show SnAt w3 sb s A2 c2 A3 c3 A4 c4 from (touch_ne T3.out (X2.out.blk B1.out) S2.out rfl).base (by rw [HSB.out]; exact X1.out.size))
  have E3 := hide (T3.out.blk (X2.out.blk E1.out) (by omega))
  have R3 := hide (T3.out.blk (X2.out.blk R1.out) (by omega))
  have p2 : w3.cell? ⟨sb, 2, none⟩ = some (.slice A4 no c4) := (B3.out.cell 2).trans rfl
  have pe : w3.cell? ⟨sb + 1, 2, none⟩ = some (.int .i64 X.E.u) := (E3.out.cell 2).trans rfl
  have HO3 := hide (show OwnO w3 sb s.O A4 no c4 by obtain ⟨os, h1, h2⟩ := S3.out.o; rw [NO.out]; exact ⟨os, h1, h2⟩)
  go_upto_region 3 with (go_at_call 20; refine (index_any w3 sb (sb + 1) A4 c4 no s.O X.E.u NO.out HO3.out (by have := HP.out.ko; have := NO.out; omega) pe).mono ?_; rintro e w4 ⟨rfl, hx4⟩; have X4 := hide hx4; clear hx4)
  obtain ⟨ui, hui⟩ : ∃ ui, ui = idxI (idxO s.O X.E.u) := ⟨_, rfl⟩
  rw [← hui]
  have HUI := hide hui
  clear hui p2 pe
  have E4 := hide (X4.out.blk E3.out)
  have R4 := hide (X4.out.blk R3.out)
  have e0 : w4.cell? ⟨sb + 1, 0, none⟩ = some (.int .i64 X.E.kind) := (E4.out.cell 0).trans rfl
  go_upto_block 0 with (fail)
  have HPRE := hide (show SwPre w4 sb sb (sb + 1) s X A2 c2 A3 c3 A4 c4 nl nd no AN nn cN AM nm cM EL el cEL ED ed cED EO eo cEO from ⟨X4.out.blk B3.out, S3.out.ext X4.out, E4.out, HX.out.ext (X3.out.trans X4.out), NL.out, ND.out, NO.out, NN.out, NM.out, HEL.out, HED.out, HEO.out, Nat.le_refl _, by have := HP.out.kl; omega, by have := HP.out.kd; omega, by have := HP.out.ko; omega, HP.out.km, HP.out.kx, by have := HP.out.jl; omega, by have := HP.out.jd; omega, by have := HP.out.jo; omega, HP.out.jm, HP.out.jv⟩)
  have HPL := hide (pagesOf_len (touchL X.E.kind X.E.a0 X.E.b0 X.E.mv))
  obtain ⟨np, hnp⟩ : ∃ np, np = (pagesOf (touchL X.E.kind X.E.a0 X.E.b0 X.E.mv)).length := ⟨_, rfl⟩
  have HNP := hide hnp
  have hnp32 : np ≤ 32 := by rw [hnp]; exact HPL.out
  clear hnp
  go_cut [] (fun wx => SwPost w4 sb sb (swN s X lsn) wx)
  case first =>
    refine sw_any w4 sb sb (sb + 1) s X lsn ui A2 c2 A3 c3 A4 c4 nl nd no AN nn cN AM nm cM EL el cEL ED ed cED EO eo cEO HPRE.out HUI.out trivial _ _ _ _ _ _ _ _ _ _ _ _ _ _ _ _ _ _ _ _ _ _ _ _ _ _ _ _ _ _ _ _ _ _ _ _ _ _ _ _ _ _ _ _ _ _ _ _ _ _ _ _ _ _ _ _ _ _ _ _ _ _ _ _ _ _ _ _ _ _ _ _ _ _ _ _ _ _ _ _ _ _ _ _ _ _ _ _ _ _ _ _ _ _ _ _ _ _ _ _ _ _ _ _ _ _ _ _ _ _ _ _ _ _ _ _ _ _ _ _ _ _ _ ?_
    intro v8 v9 v20 v21 v22 v23 v24 v25 v26 v27 v28 v29 v30 v31 v32 v33 v34 v35 v36 v37 v38 v39 v40 v41 v42 v43 v44 v45 v46 v47 v48 v49 v50 v51 v52 v53 v54 v55 v56 v57 v58 v59 v60 v61 v62 v63 v64 v65 v66 v67 v68 v69 v70 v71 v72 v73 v74 v75 v76 v77 v78 v79 v80 v81 v82 v83 v84 v85 v86 v87 v88 v89 v90 v91 v92 v93 v94 v95 v96 v97 v98 v99 v100 v101 v102 v103 v104 v105 v106 v107 v108 v109 v110 v111 v112 v113 wx hpost
    go_wp2_with (fail)
    go_meet
    case rel => exact hpost
  case rest =>
    have HC := hide hcut
    have E5 := hide (HC.out.tch.blk E4.out (by decide))
    have R5 := hide (HC.out.tch.blk37 R4.out (by omega))
    have HM5 := hide (HC.out.tch.row (HX.out.ext (X3.out.trans X4.out)).m (by decide))
    clear hcut e0
    obtain ⟨y0, y1, y2, y3, y4, y5, y6, y7, y8, y9, y10, y11, y12, y13, y14, y15⟩ := E5.out.cells16
    go_wp2_with (go_at_call 30; refine (pages_lit X.E.kind X.E.a0 X.E.a1 X.E.b0 X.E.b1 X.E.t X.E.u X.E.h X.E.p X.E.nx AN nn cN AM EL ED EO nm cM el cEL ed cED eo cEO X.E.mv wc (by rw [NM.out]; exact HM5.out) HP.out.jv NM.out np HNP.out).mono ?_; rintro e w6 ⟨AP, cP, rfl, ho6, hx6⟩; have O6 := hide ho6; have X6 := hide hx6; clear ho6 hx6)
    clear y0 y1 y2 y3 y4 y5 y6 y7 y8 y9 y10 y11 y12 y13 y14 y15
    have HPL2 := hide (show (pagesOf (touchL X.E.kind X.E.a0 X.E.b0 X.E.mv)).length = np from HNP.out.symm)
    obtain ⟨PL, hPL⟩ : ∃ PL, PL = pagesOf (touchL X.E.kind X.E.a0 X.E.b0 X.E.mv) := ⟨_, rfl⟩
    rw [← hPL] at O6 HPL2
    have HPLE := hide hPL
    clear hPL
    obtain ⟨s1, hs1⟩ : ∃ s1, s1 = swN s X lsn := ⟨_, rfl⟩
    rw [← hs1] at HC
    have HS1 := hide hs1
    have HD1 := hide (show s1.D.length ≤ 800 by rw [hs1]; exact swN_D s X lsn HP.out.kd HP.out.jd)
    clear hs1
    have P0 := hide (show DirtAt w4 w6 sb sb s1 PL 0 lsn from HC.out.ext X6.out)
    go_loopw [117] (fun s117 wr => (∃ k : Nat, k ≤ np ∧ s117 = .int .i64 k ∧ Hid (DirtAt w4 wr sb sb s1 PL k lsn ∧ Tch sb sb w6 wr))) (fun s117 _ => (np - intOf s117).toNat)
    case atStart => exact ⟨0, by omega, rfl, P0.out, Tch.refl _ _ _⟩
    case round =>
      obtain ⟨k, hk, rfl, hrel⟩ := hrel
      by_cases hlt : k < np
      · obtain ⟨x, hx⟩ : ∃ x, PL[k]? = some x := ⟨_, List.getElem?_eq_getElem (by rw [HPL2.out]; exact hlt)⟩
        have OR := hide (hrel.out.2.row O6.out (by decide))
        obtain ⟨g, rfl⟩ : ∃ g, AP = some ⟨g, 0, none⟩ := by
          obtain ⟨g, cp, hv', _, _⟩ := OR.out.form (by omega)
          injection hv' with hv1 _ _
          exact ⟨g, hv1⟩
        have gx : wr.cell? ⟨g, k, none⟩ = some (.int .i64 x) := by rw [OR.out.cellAt _ (by omega)]; simp [iv, hx]
        have dn : decide ((k : Int) < (np : Int)) = true := decide_eq_true (by omega)
        have HXK := hide hx
        clear hx
        obtain ⟨BL, bL, BD, bD, BO, bO, q1, q2, q3⟩ := hrel.out.1
        have Q1 := hide q1
        have Q2 := hide q2
        have Q3 := hide q3
        have QL := hide (show ((PL.take k).foldl (fun D n => dirtyN D n lsn) s1.D).length ≤ 900 by
          have h1 := fold_len lsn (PL.take k) s1.D
          have h2 : (PL.take k).length ≤ k := List.length_take_le _ _
          have := HD1.out
          omega)
        clear q1 q2 q3
        go_wp2_with (go_at_call 31; refine (dirty_any wr sb sb { s1 with D := (PL.take k).foldl (fun D n => dirtyN D n lsn) s1.D } BL bL BD bD BO bO _ _ _ x lsn Q1.out Q2.out rfl rfl rfl (Nat.le_refl _) QL.out).mono ?_; intro e w7 hg; obtain ⟨rfl, hp7⟩ := SwPost.of_live hg rfl; have HP7 := hide hp7; clear hp7 hg)
        go_roundw
        case rel => exact ⟨k + 1, by omega, by go_num, on_round HXK.out Q3.out HP7.out, hrel.out.2.trans HP7.out.tch⟩
        case measure => simp [intOf]; omega
      · obtain rfl : k = np := by omega
        have dn : decide ((k : Int) < (k : Int)) = false := decide_eq_false (by omega)
        obtain ⟨BL, bL, BD, bD, BO, bO, q1, q2, q3⟩ := on_end HPL2.out hrel.out.1
        have RR := hide (hrel.out.2.blk37 (X6.out.blk R5.out) (by omega))
        have Q1 := hide q1
        have Q2 := hide q2
        have Q3 := hide q3
        clear q1 q2 q3
        obtain ⟨s9, hs9⟩ : ∃ s9, s9 = { s1 with D := PL.foldl (fun D n => dirtyN D n lsn) s1.D } := ⟨_, rfl⟩
        rw [← hs9] at Q1 Q2
        have HS9 := hide (show s9 = onN s X lsn by rw [hs9, HS1.out, HPLE.out]; rfl)
        clear hs9
        obtain ⟨l0, hl0⟩ : ∃ l0, l0 = s9.L.length := ⟨_, rfl⟩
        obtain ⟨l1, hl1⟩ : ∃ l1, l1 = s9.D.length := ⟨_, rfl⟩
        obtain ⟨l2, hl2⟩ : ∃ l2, l2 = s9.O.length := ⟨_, rfl⟩
        obtain ⟨u9, hu9⟩ : ∃ u9, u9 = s9.u := ⟨_, rfl⟩
        obtain ⟨h9, hh9⟩ : ∃ h9, h9 = s9.h := ⟨_, rfl⟩
        rw [← hl0, ← hl1, ← hl2, ← hu9, ← hh9] at Q1
        have L0 := hide hl0
        have L1 := hide hl1
        have L2 := hide hl2
        have U9 := hide hu9
        have H9 := hide hh9
        clear hl0 hl1 hl2 hu9 hh9
        obtain ⟨k0, k1, k2, k3, k4⟩ := Q1.out.cells5
        obtain ⟨z0, z1, z2, z3, z4⟩ := RR.out.cells5
        have f0 := RR.out.frozen 0
        have f1 := RR.out.frozen 1
        have f2 := RR.out.frozen 2
        have f3 := RR.out.frozen 3
        have f4 := RR.out.frozen 4
        go_wp2_with (fail)
        have Z6 := hide (RR.out.set5 (.slice BL l0 bL) (.slice BD l1 bD) (.slice BO l2 bO) (.int .i64 u9) (.int .i64 h9))
        have T6 := hide (touch_set5 wr (sb + 1 + 1) (.slice BL l0 bL) (.slice BD l1 bD) (.slice BO l2 bO) (.int .i64 u9) (.int .i64 h9))
        obtain ⟨w8, hw8⟩ : ∃ w8, w8 = ((((wr.setCell ⟨sb + 1 + 1, 0, none⟩ (.slice BL l0 bL)).setCell ⟨sb + 1 + 1, 1, none⟩ (.slice BD l1 bD)).setCell ⟨sb + 1 + 1, 2, none⟩ (.slice BO l2 bO)).setCell ⟨sb + 1 + 1, 3, none⟩ (.int .i64 u9)).setCell ⟨sb + 1 + 1, 4, none⟩ (.int .i64 h9) := ⟨_, rfl⟩
        rw [← hw8] at Z6 T6
        rw [← hw8]
        clear hw8 z0 z1 z2 z3 z4 f0 f1 f2 f3 f4 k0 k1 k2 k3 k4
        obtain ⟨z0, z1, z2, z3, z4⟩ := Z6.out.cells5
        have SA := hide (on_fin HSB.out X3.out X4.out Q3.out RR.out T6.out Q2.out)
        exact bodyPost_ret (v := .agg #[.slice BL l0 bL, .slice BD l1 bD, .slice BO l2 bO, .int .i64 u9, .int .i64 h9]) (by simp [results, Try.results15, go_sem, z0, z1, z2, z3, z4]) rfl ⟨_, rfl, ⟨BL, bL, BD, bD, BO, bO, by rw [← HS9.out, L0.out, L1.out, L2.out, U9.out, H9.out]; rfl, by rw [← HS9.out]; exact SA.out.1⟩, SA.out.2⟩
end Go.Proofs.Ytaijgnhkdbdfcaa
