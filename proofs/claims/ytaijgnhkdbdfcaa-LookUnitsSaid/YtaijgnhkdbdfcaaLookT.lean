/- Look: what an entry turns of what is seen: words, and the walks of On's switch. (Printed by mk_lookt.py.) -/
import Derived.Test.YtaijgnhkdbdfcaaLookS
import Derived.Test.YtaijgnhkdbdfcaaLookJ
import Derived.Deep.Cut
import Derived.Deep.DeepCutAuto
import Derived.Deep.CutBlock
import Derived.BigQuiet
namespace Go.Proofs.Ytaijgnhkdbdfcaa
open Go.ChangeShapes Go.WideShapes Go.ChangeAt Go.RowKit
set_option linter.unusedVariables false

def endN (L : List Lv) (t : Int) : List Lv := if (findN L t).2 then L.take (findN L t).1 ++ L.drop ((findN L t).1 + 1) else L
def moveN (O : List Ou) (u : Int) : List Ou := match idxO O u with
  | some i => (match O[i]? with | some x => O.set i { x with d := x.d + 1 } | none => O)
  | none => O
def doneN (O : List Ou) (u : Int) : List Ou := match idxO O u with
  | some i => O.take i ++ O.drop (i + 1)
  | none => O
/-- what an entry turns, but for the dirty pages -/
def swN (s : Sn) (X : En) (lsn : Int) : Sn :=
  if X.E.kind = 1 ∨ X.E.kind = 2 ∨ X.E.kind = 3 ∨ X.E.kind = 4 then { s with L := liveN s.L X.E.kind X.E.t X.E.nx lsn }
  else if X.E.kind = 5 then { s with L := endN s.L X.E.t }
  else if X.E.kind = 6 then { s with O := s.O ++ [⟨X.E.u, X.E.mv, 0⟩], u := max s.u X.E.u }
  else if X.E.kind = 7 then { s with O := moveN s.O X.E.u }
  else if X.E.kind = 8 then { s with O := doneN s.O X.E.u }
  else if X.E.kind = 10 then { s with h := X.E.h }
  else if X.E.kind = 9 then ⟨X.L, X.D, X.O, X.E.u, X.E.h⟩
  else s
/-- what is seen behind one entry more -/
def onN (s : Sn) (X : En) (lsn : Int) : Sn := { swN s X lsn with D := (pagesOf (touchL X.E.kind X.E.a0 X.E.b0 X.E.mv)).foldl (fun D n => dirtyN D n lsn) (swN s X lsn).D }
/-- what the switch leaves -/
def SwPost (w : World) (base sb : Nat) (s : Sn) (wx : World) : Prop := ∃ AL cL AD cD AO cO, Blk wx sb 37 #[.slice AL s.L.length cL, .slice AD s.D.length cD, .slice AO s.O.length cO, .int .i64 s.u, .int .i64 s.h] ∧ SnAt wx base s AL cL AD cD AO cO ∧ Tch base sb w wx
/-- what the switch finds -/
structure SwPre (w : World) (base sb eb : Nat) (s : Sn) (X : En) (AL : Option Addr) (cL : Nat) (AD : Option Addr) (cD : Nat) (AO : Option Addr) (cO nl nd no : Nat) (AN : Option Addr) (nn cN : Nat) (AM : Option Addr) (nm cM : Nat) (EL : Option Addr) (el cEL : Nat) (ED : Option Addr) (ed cED : Nat) (EO : Option Addr) (eo cEO : Nat) : Prop where
  hB : Blk w sb 37 #[.slice AL nl cL, .slice AD nd cD, .slice AO no cO, .int .i64 s.u, .int .i64 s.h]
  hs : SnAt w base s AL cL AD cD AO cO
  he : Blk w eb 35 #[.int .i64 X.E.kind, .int .i64 X.E.t, .int .i64 X.E.u, .int .i64 X.E.h, .int .i64 X.E.p, .int .i64 X.E.nx, .int .i64 X.E.a0, .int .i64 X.E.a1, .int .i64 X.E.b0, .int .i64 X.E.b1, .slice none 0 0, .slice AN nn cN, .slice AM nm cM, .slice EL el cEL, .slice ED ed cED, .slice EO eo cEO]
  hx : EnAt w X AN cN AM cM EL cEL ED cED EO cEO
  nl : nl = s.L.length
  nd : nd = s.D.length
  no : no = s.O.length
  nn : nn = X.E.NL.length
  nm : nm = X.E.mv.length
  el : el = X.L.length
  ed : ed = X.D.length
  eo : eo = X.O.length
  hb : base ≤ sb
  kl : s.L.length ≤ 900
  kd : s.D.length ≤ 900
  ko : s.O.length ≤ 900
  km : ∀ x ∈ s.O, x.mv.length ≤ 1000
  kx : ∀ x ∈ s.O, 0 ≤ x.d ∧ x.d ≤ 1000000
  jl : X.L.length ≤ 900
  jd : X.D.length ≤ 900
  jo : X.O.length ≤ 900
  jm : ∀ x ∈ X.O, x.mv.length ≤ 1000
  jv : X.E.mv.length ≤ 1000
theorem SwPost.of_live {w w' : World} {base sb : Nat} {s s' : Sn} {e : Ending} (h : GivesLive w base sb s e w') (he : s = s') : e = .returned (.tuple #[]) ∧ SwPost w base sb s' w' := by
  subst he
  obtain ⟨h1, cs, hB, ⟨AL, cL, AD, cD, AO, cO, rfl, h3⟩, h4⟩ := h
  exact ⟨h1, AL, cL, AD, cD, AO, cO, hB, h3, h4⟩
theorem SnAt.as {w : World} {base : Nat} {s s' : Sn} {AL cL AD cD AO cO} (h : SnAt w base s AL cL AD cD AO cO) (h1 : s'.L = s.L) (h2 : s'.D = s.D) (h3 : s'.O = s.O) : SnAt w base s' AL cL AD cD AO cO := by
  obtain ⟨os, ho, hos⟩ := h.o
  exact ⟨by rw [h1]; exact h.l, by rw [h2]; exact h.d, os, by rw [h3]; exact ho, by rw [h3]; exact hos⟩
/-- one has one move more done -/
theorem SnAt.setD {w : World} {base sb : Nat} {s : Sn} {g cO : Nat} {AL AD : Option Addr} {cL cD : Nat} (h : SnAt w base s AL cL AD cD (some ⟨g, 0, none⟩) cO) {i : Nat} {x : Ou} (hx : s.O[i]? = some x) {os : List Value} (ho : w.ownsRow base 56 3 (.slice (some ⟨g, 0, none⟩) s.O.length cO) s.O.length os) (hos : OusAre w s.O os) {cs : Array Value} (hB : Blk w sb 37 cs) :
    SnAt (w.setCell ⟨g, i * 3 + 2, none⟩ (.int .i64 (x.d + 1))) base { s with O := s.O.set i { x with d := x.d + 1 } } AL cL AD cD (some ⟨g, 0, none⟩) cO ∧ Tch base sb w (w.setCell ⟨g, i * 3 + 2, none⟩ (.int .i64 (x.d + 1))) ∧ Blk (w.setCell ⟨g, i * 3 + 2, none⟩ (.int .i64 (x.d + 1))) sb 37 cs := by
  obtain ⟨cs', hB'⟩ := own_block ho rfl
  have ht := touch_set w g (i * 3 + 2) (.int .i64 (x.d + 1))
  have hst := (ho.stored (i * 3 + 2) (.int .i64 (x.d + 1))).1
  have hT : Tch base sb w (w.setCell ⟨g, i * 3 + 2, none⟩ (.int .i64 (x.d + 1))) := Tch.of ht hB' (own_ge ho rfl) (.inr (.inr (.inl rfl)))
  refine ⟨⟨row_apart1 ht hB' h.l (by decide), row_apart1 ht hB' h.d (by decide), _, ?_, hT.ous (hos.setD i x hx (x.d + 1))⟩, hT, hB.far (p := ⟨g, i * 3 + 2, none⟩) (Blk.ne_ hB hB' (by decide)) _⟩
  simp only [List.length_set]
  exact hst
theorem SnAt.insO {w w1 : World} {base sb : Nat} {s : Sn} {AL AD AO : Option Addr} {cL cD cO : Nat} {O' : List Ou} {A' : Option Addr} {c' : Nat} (h : SnAt w base s AL cL AD cD AO cO) {os xs : List Value} (ho : w.ownsRow base 56 3 (.slice AO s.O.length cO) s.O.length os) (ht : Touch w w1 (fun k => (Value.slice AO s.O.length cO).ownBlock = some k)) (ho' : w1.ownsRow base 56 3 (.slice A' O'.length c') O'.length xs) (hos : Tch base sb w w1 → OusAre w1 O' xs) :
    SnAt w1 base { s with O := O' } AL cL AD cD A' c' ∧ Tch base sb w w1 := by
  have hT : Tch base sb w w1 := Tch.own ht ho (.inr (.inr rfl))
  exact ⟨⟨row_apart ht ho h.l (by decide), row_apart ht ho h.d (by decide), xs, ho', hos hT⟩, hT⟩
theorem mark_at {w w2 w3 w4 : World} {base el ed c2 c3 c4 : Nat} {X : En} {A2 A3 A4 : Option Addr} {u h : Int} (hl : el = X.L.length) (hd : ed = X.D.length) (o2 : w4.ownsRow w.drew.heap.size 49 4 (.slice A2 el c2) el (lvs X.L)) (o3 : w4.ownsRow w2.heap.size 40 2 (.slice A3 ed c3) ed (dts X.D)) (o4 : OwnO w4 w3.heap.size X.O A4 X.O.length c4) (hb : base ≤ w.heap.size) (x2 : Ext w w2) (x3 : Ext w w3) : SnAt w4 base ⟨X.L, X.D, X.O, u, h⟩ A2 c2 A3 c3 A4 c4 := by
  subst hl hd
  obtain ⟨os, ho, hos⟩ := o4
  exact ⟨own_base o2 hb, own_base o3 (Nat.le_trans hb x2.size), os, own_base ho (Nat.le_trans hb x3.size), hos⟩
set_option maxRecDepth 1000000 in
set_option maxHeartbeats 40000000 in
theorem sw_1 (w : World) (base sb eb : Nat) (s : Sn) (X : En) (lsn ui : Int) (AL : Option Addr) (cL : Nat) (AD : Option Addr) (cD : Nat) (AO : Option Addr) (cO nl nd no : Nat) (AN : Option Addr) (nn cN : Nat) (AM : Option Addr) (nm cM : Nat) (EL : Option Addr) (el cEL : Nat) (ED : Option Addr) (ed cED : Nat) (EO : Option Addr) (eo cEO : Nat) (hP : SwPre w base sb eb s X AL cL AD cD AO cO nl nd no AN nn cN AM nm cM EL el cEL ED ed cED EO eo cEO) (hui : ui = idxI (idxO s.O X.E.u)) (hk : X.E.kind = 1)
    (u0 u1 u5 u6 u8 u9 u10 u11 u12 u13 u14 u15 u16 u17 u18 u20 u21 u22 u23 u24 u25 u26 u27 u28 u29 u30 u31 u32 u33 u34 u35 u36 u37 u38 u39 u40 u41 u42 u43 u44 u45 u46 u47 u48 u49 u50 u51 u52 u53 u54 u55 u56 u57 u58 u59 u60 u61 u62 u63 u64 u65 u66 u67 u68 u69 u70 u71 u72 u73 u74 u75 u76 u77 u78 u79 u80 u81 u82 u83 u84 u85 u86 u87 u88 u89 u90 u91 u92 u93 u94 u95 u96 u97 u98 u99 u100 u101 u102 u103 u104 u105 u106 u107 u108 u109 u110 u111 u112 u113 u114 u115 u116 u117 u118 u119 u120 u121 u122 u123 u124 u125 : Value) (KK : Act → World → Prop) (Q : Exit → Act → World → Prop)
    (hKK : ∀ (v8 v9 v20 v21 v22 v23 v24 v25 v26 v27 v28 v29 v30 v31 v32 v33 v34 v35 v36 v37 v38 v39 v40 v41 v42 v43 v44 v45 v46 v47 v48 v49 v50 v51 v52 v53 v54 v55 v56 v57 v58 v59 v60 v61 v62 v63 v64 v65 v66 v67 v68 v69 v70 v71 v72 v73 v74 v75 v76 v77 v78 v79 v80 v81 v82 v83 v84 v85 v86 v87 v88 v89 v90 v91 v92 v93 v94 v95 v96 v97 v98 v99 v100 v101 v102 v103 v104 v105 v106 v107 v108 v109 v110 v111 v112 v113 : Value) (wx : World), SwPost w base sb (swN s X lsn) wx → KK ⟨(u0 :: u1 :: Value.int .i64 lsn :: Value.pointer (some ⟨sb, 0, none⟩) :: Value.pointer (some ⟨eb, 0, none⟩) :: u5 :: u6 :: Value.int .i64 ui :: v8 :: v9 :: u10 :: u11 :: u12 :: u13 :: u14 :: u15 :: u16 :: u17 :: u18 :: Value.int .i64 1 :: v20 :: v21 :: v22 :: v23 :: v24 :: v25 :: v26 :: v27 :: v28 :: v29 :: v30 :: v31 :: v32 :: v33 :: v34 :: v35 :: v36 :: v37 :: v38 :: v39 :: v40 :: v41 :: v42 :: v43 :: v44 :: v45 :: v46 :: v47 :: v48 :: v49 :: v50 :: v51 :: v52 :: v53 :: v54 :: v55 :: v56 :: v57 :: v58 :: v59 :: v60 :: v61 :: v62 :: v63 :: v64 :: v65 :: v66 :: v67 :: v68 :: v69 :: v70 :: v71 :: v72 :: v73 :: v74 :: v75 :: v76 :: v77 :: v78 :: v79 :: v80 :: v81 :: v82 :: v83 :: v84 :: v85 :: v86 :: v87 :: v88 :: v89 :: v90 :: v91 :: v92 :: v93 :: v94 :: v95 :: v96 :: v97 :: v98 :: v99 :: v100 :: v101 :: v102 :: v103 :: v104 :: v105 :: v106 :: v107 :: v108 :: v109 :: v110 :: v111 :: v112 :: v113 :: u114 :: u115 :: u116 :: u117 :: u118 :: u119 :: u120 :: u121 :: u122 :: u123 :: u124 :: u125 :: []).toArray, []⟩ wx) :
    Code.wp Try.prog (blockAt Try.f15 0) (Exit.then KK Q) ⟨(u0 :: u1 :: Value.int .i64 lsn :: Value.pointer (some ⟨sb, 0, none⟩) :: Value.pointer (some ⟨eb, 0, none⟩) :: u5 :: u6 :: Value.int .i64 ui :: u8 :: u9 :: u10 :: u11 :: u12 :: u13 :: u14 :: u15 :: u16 :: u17 :: u18 :: Value.int .i64 1 :: u20 :: u21 :: u22 :: u23 :: u24 :: u25 :: u26 :: u27 :: u28 :: u29 :: u30 :: u31 :: u32 :: u33 :: u34 :: u35 :: u36 :: u37 :: u38 :: u39 :: u40 :: u41 :: u42 :: u43 :: u44 :: u45 :: u46 :: u47 :: u48 :: u49 :: u50 :: u51 :: u52 :: u53 :: u54 :: u55 :: u56 :: u57 :: u58 :: u59 :: u60 :: u61 :: u62 :: u63 :: u64 :: u65 :: u66 :: u67 :: u68 :: u69 :: u70 :: u71 :: u72 :: u73 :: u74 :: u75 :: u76 :: u77 :: u78 :: u79 :: u80 :: u81 :: u82 :: u83 :: u84 :: u85 :: u86 :: u87 :: u88 :: u89 :: u90 :: u91 :: u92 :: u93 :: u94 :: u95 :: u96 :: u97 :: u98 :: u99 :: u100 :: u101 :: u102 :: u103 :: u104 :: u105 :: u106 :: u107 :: u108 :: u109 :: u110 :: u111 :: u112 :: u113 :: u114 :: u115 :: u116 :: u117 :: u118 :: u119 :: u120 :: u121 :: u122 :: u123 :: u124 :: u125 :: []).toArray, []⟩ w := by
  have HP := hide hP
  have HU := hide hui
  have B0 := hide hP.hB
  have E0 := hide hP.he
  have S0 := hide hP.hs
  have NL := hide hP.nl
  have ND := hide hP.nd
  have NO := hide hP.no
  clear hP hui
  obtain ⟨su, hsu⟩ : ∃ su, su = s.u := ⟨_, rfl⟩
  obtain ⟨sh, hsh⟩ : ∃ sh, sh = s.h := ⟨_, rfl⟩
  have B0 : Hid (Blk w sb 37 #[.slice AL nl cL, .slice AD nd cD, .slice AO no cO, .int .i64 su, .int .i64 sh]) := by rw [hsu, hsh]; exact B0.out
  have HSU := hide hsu
  have HSH := hide hsh
  clear hsu hsh
  have HK := hide hk
  clear hk
  obtain ⟨et, het⟩ : ∃ et, et = X.E.t := ⟨_, rfl⟩
  obtain ⟨eu, heu⟩ : ∃ eu, eu = X.E.u := ⟨_, rfl⟩
  obtain ⟨eh, heh⟩ : ∃ eh, eh = X.E.h := ⟨_, rfl⟩
  obtain ⟨ep, hep⟩ : ∃ ep, ep = X.E.p := ⟨_, rfl⟩
  obtain ⟨en, hen⟩ : ∃ en, en = X.E.nx := ⟨_, rfl⟩
  obtain ⟨e6, he6⟩ : ∃ e6, e6 = X.E.a0 := ⟨_, rfl⟩
  obtain ⟨e7, he7⟩ : ∃ e7, e7 = X.E.a1 := ⟨_, rfl⟩
  obtain ⟨e8, he8⟩ : ∃ e8, e8 = X.E.b0 := ⟨_, rfl⟩
  obtain ⟨e9, he9⟩ : ∃ e9, e9 = X.E.b1 := ⟨_, rfl⟩
  have E0 : Hid (Blk w eb 35 #[.int .i64 (1), .int .i64 et, .int .i64 eu, .int .i64 eh, .int .i64 ep, .int .i64 en, .int .i64 e6, .int .i64 e7, .int .i64 e8, .int .i64 e9, .slice none 0 0, .slice AN nn cN, .slice AM nm cM, .slice EL el cEL, .slice ED ed cED, .slice EO eo cEO]) := by rw [het, heu, heh, hep, hen, he6, he7, he8, he9, ← HK.out]; exact E0.out
  have HET := hide het
  have HEU := hide heu
  have HEH := hide heh
  have HEN := hide hen
  clear het heu heh hep hen he6 he7 he8 he9
  have HSW := hide (show swN s X lsn = { s with L := liveN s.L 1 et en lsn } by
    unfold swN
    rw [if_pos (by rw [HK.out]; decide), HK.out, HET.out, HEN.out])
  rw [HSW.out] at hKK
  obtain ⟨y0, y1, y2, y3, y4, y5, y6, y7, y8, y9, y10, y11, y12, y13, y14, y15⟩ := E0.out.cells16
  have HL := hide (live_any w base sb s AL cL AD cD AO cO nl nd no 1 et eu eh ep en e6 e7 e8 e9 lsn none 0 0 AN nn cN AM nm cM EL el cEL ED ed cED EO eo cEO (by rw [← HSU.out, ← HSH.out]; exact B0.out) S0.out NL.out ND.out NO.out HP.out.hb HP.out.kl)
  conv => arg 2; whnf
  go_wp2_with (go_at_call 22; refine HL.out.mono ?_; intro e wx hg; obtain ⟨rfl, hp⟩ := SwPost.of_live hg rfl; have HPO := hide hp; clear hp hg)
  exact HPO.out
set_option maxRecDepth 1000000 in
set_option maxHeartbeats 40000000 in
theorem sw_2 (w : World) (base sb eb : Nat) (s : Sn) (X : En) (lsn ui : Int) (AL : Option Addr) (cL : Nat) (AD : Option Addr) (cD : Nat) (AO : Option Addr) (cO nl nd no : Nat) (AN : Option Addr) (nn cN : Nat) (AM : Option Addr) (nm cM : Nat) (EL : Option Addr) (el cEL : Nat) (ED : Option Addr) (ed cED : Nat) (EO : Option Addr) (eo cEO : Nat) (hP : SwPre w base sb eb s X AL cL AD cD AO cO nl nd no AN nn cN AM nm cM EL el cEL ED ed cED EO eo cEO) (hui : ui = idxI (idxO s.O X.E.u)) (hk : X.E.kind = 2)
    (u0 u1 u5 u6 u8 u9 u10 u11 u12 u13 u14 u15 u16 u17 u18 u20 u21 u22 u23 u24 u25 u26 u27 u28 u29 u30 u31 u32 u33 u34 u35 u36 u37 u38 u39 u40 u41 u42 u43 u44 u45 u46 u47 u48 u49 u50 u51 u52 u53 u54 u55 u56 u57 u58 u59 u60 u61 u62 u63 u64 u65 u66 u67 u68 u69 u70 u71 u72 u73 u74 u75 u76 u77 u78 u79 u80 u81 u82 u83 u84 u85 u86 u87 u88 u89 u90 u91 u92 u93 u94 u95 u96 u97 u98 u99 u100 u101 u102 u103 u104 u105 u106 u107 u108 u109 u110 u111 u112 u113 u114 u115 u116 u117 u118 u119 u120 u121 u122 u123 u124 u125 : Value) (KK : Act → World → Prop) (Q : Exit → Act → World → Prop)
    (hKK : ∀ (v8 v9 v20 v21 v22 v23 v24 v25 v26 v27 v28 v29 v30 v31 v32 v33 v34 v35 v36 v37 v38 v39 v40 v41 v42 v43 v44 v45 v46 v47 v48 v49 v50 v51 v52 v53 v54 v55 v56 v57 v58 v59 v60 v61 v62 v63 v64 v65 v66 v67 v68 v69 v70 v71 v72 v73 v74 v75 v76 v77 v78 v79 v80 v81 v82 v83 v84 v85 v86 v87 v88 v89 v90 v91 v92 v93 v94 v95 v96 v97 v98 v99 v100 v101 v102 v103 v104 v105 v106 v107 v108 v109 v110 v111 v112 v113 : Value) (wx : World), SwPost w base sb (swN s X lsn) wx → KK ⟨(u0 :: u1 :: Value.int .i64 lsn :: Value.pointer (some ⟨sb, 0, none⟩) :: Value.pointer (some ⟨eb, 0, none⟩) :: u5 :: u6 :: Value.int .i64 ui :: v8 :: v9 :: u10 :: u11 :: u12 :: u13 :: u14 :: u15 :: u16 :: u17 :: u18 :: Value.int .i64 2 :: v20 :: v21 :: v22 :: v23 :: v24 :: v25 :: v26 :: v27 :: v28 :: v29 :: v30 :: v31 :: v32 :: v33 :: v34 :: v35 :: v36 :: v37 :: v38 :: v39 :: v40 :: v41 :: v42 :: v43 :: v44 :: v45 :: v46 :: v47 :: v48 :: v49 :: v50 :: v51 :: v52 :: v53 :: v54 :: v55 :: v56 :: v57 :: v58 :: v59 :: v60 :: v61 :: v62 :: v63 :: v64 :: v65 :: v66 :: v67 :: v68 :: v69 :: v70 :: v71 :: v72 :: v73 :: v74 :: v75 :: v76 :: v77 :: v78 :: v79 :: v80 :: v81 :: v82 :: v83 :: v84 :: v85 :: v86 :: v87 :: v88 :: v89 :: v90 :: v91 :: v92 :: v93 :: v94 :: v95 :: v96 :: v97 :: v98 :: v99 :: v100 :: v101 :: v102 :: v103 :: v104 :: v105 :: v106 :: v107 :: v108 :: v109 :: v110 :: v111 :: v112 :: v113 :: u114 :: u115 :: u116 :: u117 :: u118 :: u119 :: u120 :: u121 :: u122 :: u123 :: u124 :: u125 :: []).toArray, []⟩ wx) :
    Code.wp Try.prog (blockAt Try.f15 0) (Exit.then KK Q) ⟨(u0 :: u1 :: Value.int .i64 lsn :: Value.pointer (some ⟨sb, 0, none⟩) :: Value.pointer (some ⟨eb, 0, none⟩) :: u5 :: u6 :: Value.int .i64 ui :: u8 :: u9 :: u10 :: u11 :: u12 :: u13 :: u14 :: u15 :: u16 :: u17 :: u18 :: Value.int .i64 2 :: u20 :: u21 :: u22 :: u23 :: u24 :: u25 :: u26 :: u27 :: u28 :: u29 :: u30 :: u31 :: u32 :: u33 :: u34 :: u35 :: u36 :: u37 :: u38 :: u39 :: u40 :: u41 :: u42 :: u43 :: u44 :: u45 :: u46 :: u47 :: u48 :: u49 :: u50 :: u51 :: u52 :: u53 :: u54 :: u55 :: u56 :: u57 :: u58 :: u59 :: u60 :: u61 :: u62 :: u63 :: u64 :: u65 :: u66 :: u67 :: u68 :: u69 :: u70 :: u71 :: u72 :: u73 :: u74 :: u75 :: u76 :: u77 :: u78 :: u79 :: u80 :: u81 :: u82 :: u83 :: u84 :: u85 :: u86 :: u87 :: u88 :: u89 :: u90 :: u91 :: u92 :: u93 :: u94 :: u95 :: u96 :: u97 :: u98 :: u99 :: u100 :: u101 :: u102 :: u103 :: u104 :: u105 :: u106 :: u107 :: u108 :: u109 :: u110 :: u111 :: u112 :: u113 :: u114 :: u115 :: u116 :: u117 :: u118 :: u119 :: u120 :: u121 :: u122 :: u123 :: u124 :: u125 :: []).toArray, []⟩ w := by
  have HP := hide hP
  have HU := hide hui
  have B0 := hide hP.hB
  have E0 := hide hP.he
  have S0 := hide hP.hs
  have NL := hide hP.nl
  have ND := hide hP.nd
  have NO := hide hP.no
  clear hP hui
  obtain ⟨su, hsu⟩ : ∃ su, su = s.u := ⟨_, rfl⟩
  obtain ⟨sh, hsh⟩ : ∃ sh, sh = s.h := ⟨_, rfl⟩
  have B0 : Hid (Blk w sb 37 #[.slice AL nl cL, .slice AD nd cD, .slice AO no cO, .int .i64 su, .int .i64 sh]) := by rw [hsu, hsh]; exact B0.out
  have HSU := hide hsu
  have HSH := hide hsh
  clear hsu hsh
  have HK := hide hk
  clear hk
  obtain ⟨et, het⟩ : ∃ et, et = X.E.t := ⟨_, rfl⟩
  obtain ⟨eu, heu⟩ : ∃ eu, eu = X.E.u := ⟨_, rfl⟩
  obtain ⟨eh, heh⟩ : ∃ eh, eh = X.E.h := ⟨_, rfl⟩
  obtain ⟨ep, hep⟩ : ∃ ep, ep = X.E.p := ⟨_, rfl⟩
  obtain ⟨en, hen⟩ : ∃ en, en = X.E.nx := ⟨_, rfl⟩
  obtain ⟨e6, he6⟩ : ∃ e6, e6 = X.E.a0 := ⟨_, rfl⟩
  obtain ⟨e7, he7⟩ : ∃ e7, e7 = X.E.a1 := ⟨_, rfl⟩
  obtain ⟨e8, he8⟩ : ∃ e8, e8 = X.E.b0 := ⟨_, rfl⟩
  obtain ⟨e9, he9⟩ : ∃ e9, e9 = X.E.b1 := ⟨_, rfl⟩
  have E0 : Hid (Blk w eb 35 #[.int .i64 (2), .int .i64 et, .int .i64 eu, .int .i64 eh, .int .i64 ep, .int .i64 en, .int .i64 e6, .int .i64 e7, .int .i64 e8, .int .i64 e9, .slice none 0 0, .slice AN nn cN, .slice AM nm cM, .slice EL el cEL, .slice ED ed cED, .slice EO eo cEO]) := by rw [het, heu, heh, hep, hen, he6, he7, he8, he9, ← HK.out]; exact E0.out
  have HET := hide het
  have HEU := hide heu
  have HEH := hide heh
  have HEN := hide hen
  clear het heu heh hep hen he6 he7 he8 he9
  have HSW := hide (show swN s X lsn = { s with L := liveN s.L 2 et en lsn } by
    unfold swN
    rw [if_pos (by rw [HK.out]; decide), HK.out, HET.out, HEN.out])
  rw [HSW.out] at hKK
  obtain ⟨y0, y1, y2, y3, y4, y5, y6, y7, y8, y9, y10, y11, y12, y13, y14, y15⟩ := E0.out.cells16
  have HL := hide (live_any w base sb s AL cL AD cD AO cO nl nd no 2 et eu eh ep en e6 e7 e8 e9 lsn none 0 0 AN nn cN AM nm cM EL el cEL ED ed cED EO eo cEO (by rw [← HSU.out, ← HSH.out]; exact B0.out) S0.out NL.out ND.out NO.out HP.out.hb HP.out.kl)
  conv => arg 2; whnf
  go_wp2_with (go_at_call 22; refine HL.out.mono ?_; intro e wx hg; obtain ⟨rfl, hp⟩ := SwPost.of_live hg rfl; have HPO := hide hp; clear hp hg)
  exact HPO.out
set_option maxRecDepth 1000000 in
set_option maxHeartbeats 40000000 in
theorem sw_3 (w : World) (base sb eb : Nat) (s : Sn) (X : En) (lsn ui : Int) (AL : Option Addr) (cL : Nat) (AD : Option Addr) (cD : Nat) (AO : Option Addr) (cO nl nd no : Nat) (AN : Option Addr) (nn cN : Nat) (AM : Option Addr) (nm cM : Nat) (EL : Option Addr) (el cEL : Nat) (ED : Option Addr) (ed cED : Nat) (EO : Option Addr) (eo cEO : Nat) (hP : SwPre w base sb eb s X AL cL AD cD AO cO nl nd no AN nn cN AM nm cM EL el cEL ED ed cED EO eo cEO) (hui : ui = idxI (idxO s.O X.E.u)) (hk : X.E.kind = 3)
    (u0 u1 u5 u6 u8 u9 u10 u11 u12 u13 u14 u15 u16 u17 u18 u20 u21 u22 u23 u24 u25 u26 u27 u28 u29 u30 u31 u32 u33 u34 u35 u36 u37 u38 u39 u40 u41 u42 u43 u44 u45 u46 u47 u48 u49 u50 u51 u52 u53 u54 u55 u56 u57 u58 u59 u60 u61 u62 u63 u64 u65 u66 u67 u68 u69 u70 u71 u72 u73 u74 u75 u76 u77 u78 u79 u80 u81 u82 u83 u84 u85 u86 u87 u88 u89 u90 u91 u92 u93 u94 u95 u96 u97 u98 u99 u100 u101 u102 u103 u104 u105 u106 u107 u108 u109 u110 u111 u112 u113 u114 u115 u116 u117 u118 u119 u120 u121 u122 u123 u124 u125 : Value) (KK : Act → World → Prop) (Q : Exit → Act → World → Prop)
    (hKK : ∀ (v8 v9 v20 v21 v22 v23 v24 v25 v26 v27 v28 v29 v30 v31 v32 v33 v34 v35 v36 v37 v38 v39 v40 v41 v42 v43 v44 v45 v46 v47 v48 v49 v50 v51 v52 v53 v54 v55 v56 v57 v58 v59 v60 v61 v62 v63 v64 v65 v66 v67 v68 v69 v70 v71 v72 v73 v74 v75 v76 v77 v78 v79 v80 v81 v82 v83 v84 v85 v86 v87 v88 v89 v90 v91 v92 v93 v94 v95 v96 v97 v98 v99 v100 v101 v102 v103 v104 v105 v106 v107 v108 v109 v110 v111 v112 v113 : Value) (wx : World), SwPost w base sb (swN s X lsn) wx → KK ⟨(u0 :: u1 :: Value.int .i64 lsn :: Value.pointer (some ⟨sb, 0, none⟩) :: Value.pointer (some ⟨eb, 0, none⟩) :: u5 :: u6 :: Value.int .i64 ui :: v8 :: v9 :: u10 :: u11 :: u12 :: u13 :: u14 :: u15 :: u16 :: u17 :: u18 :: Value.int .i64 3 :: v20 :: v21 :: v22 :: v23 :: v24 :: v25 :: v26 :: v27 :: v28 :: v29 :: v30 :: v31 :: v32 :: v33 :: v34 :: v35 :: v36 :: v37 :: v38 :: v39 :: v40 :: v41 :: v42 :: v43 :: v44 :: v45 :: v46 :: v47 :: v48 :: v49 :: v50 :: v51 :: v52 :: v53 :: v54 :: v55 :: v56 :: v57 :: v58 :: v59 :: v60 :: v61 :: v62 :: v63 :: v64 :: v65 :: v66 :: v67 :: v68 :: v69 :: v70 :: v71 :: v72 :: v73 :: v74 :: v75 :: v76 :: v77 :: v78 :: v79 :: v80 :: v81 :: v82 :: v83 :: v84 :: v85 :: v86 :: v87 :: v88 :: v89 :: v90 :: v91 :: v92 :: v93 :: v94 :: v95 :: v96 :: v97 :: v98 :: v99 :: v100 :: v101 :: v102 :: v103 :: v104 :: v105 :: v106 :: v107 :: v108 :: v109 :: v110 :: v111 :: v112 :: v113 :: u114 :: u115 :: u116 :: u117 :: u118 :: u119 :: u120 :: u121 :: u122 :: u123 :: u124 :: u125 :: []).toArray, []⟩ wx) :
    Code.wp Try.prog (blockAt Try.f15 0) (Exit.then KK Q) ⟨(u0 :: u1 :: Value.int .i64 lsn :: Value.pointer (some ⟨sb, 0, none⟩) :: Value.pointer (some ⟨eb, 0, none⟩) :: u5 :: u6 :: Value.int .i64 ui :: u8 :: u9 :: u10 :: u11 :: u12 :: u13 :: u14 :: u15 :: u16 :: u17 :: u18 :: Value.int .i64 3 :: u20 :: u21 :: u22 :: u23 :: u24 :: u25 :: u26 :: u27 :: u28 :: u29 :: u30 :: u31 :: u32 :: u33 :: u34 :: u35 :: u36 :: u37 :: u38 :: u39 :: u40 :: u41 :: u42 :: u43 :: u44 :: u45 :: u46 :: u47 :: u48 :: u49 :: u50 :: u51 :: u52 :: u53 :: u54 :: u55 :: u56 :: u57 :: u58 :: u59 :: u60 :: u61 :: u62 :: u63 :: u64 :: u65 :: u66 :: u67 :: u68 :: u69 :: u70 :: u71 :: u72 :: u73 :: u74 :: u75 :: u76 :: u77 :: u78 :: u79 :: u80 :: u81 :: u82 :: u83 :: u84 :: u85 :: u86 :: u87 :: u88 :: u89 :: u90 :: u91 :: u92 :: u93 :: u94 :: u95 :: u96 :: u97 :: u98 :: u99 :: u100 :: u101 :: u102 :: u103 :: u104 :: u105 :: u106 :: u107 :: u108 :: u109 :: u110 :: u111 :: u112 :: u113 :: u114 :: u115 :: u116 :: u117 :: u118 :: u119 :: u120 :: u121 :: u122 :: u123 :: u124 :: u125 :: []).toArray, []⟩ w := by
  have HP := hide hP
  have HU := hide hui
  have B0 := hide hP.hB
  have E0 := hide hP.he
  have S0 := hide hP.hs
  have NL := hide hP.nl
  have ND := hide hP.nd
  have NO := hide hP.no
  clear hP hui
  obtain ⟨su, hsu⟩ : ∃ su, su = s.u := ⟨_, rfl⟩
  obtain ⟨sh, hsh⟩ : ∃ sh, sh = s.h := ⟨_, rfl⟩
  have B0 : Hid (Blk w sb 37 #[.slice AL nl cL, .slice AD nd cD, .slice AO no cO, .int .i64 su, .int .i64 sh]) := by rw [hsu, hsh]; exact B0.out
  have HSU := hide hsu
  have HSH := hide hsh
  clear hsu hsh
  have HK := hide hk
  clear hk
  obtain ⟨et, het⟩ : ∃ et, et = X.E.t := ⟨_, rfl⟩
  obtain ⟨eu, heu⟩ : ∃ eu, eu = X.E.u := ⟨_, rfl⟩
  obtain ⟨eh, heh⟩ : ∃ eh, eh = X.E.h := ⟨_, rfl⟩
  obtain ⟨ep, hep⟩ : ∃ ep, ep = X.E.p := ⟨_, rfl⟩
  obtain ⟨en, hen⟩ : ∃ en, en = X.E.nx := ⟨_, rfl⟩
  obtain ⟨e6, he6⟩ : ∃ e6, e6 = X.E.a0 := ⟨_, rfl⟩
  obtain ⟨e7, he7⟩ : ∃ e7, e7 = X.E.a1 := ⟨_, rfl⟩
  obtain ⟨e8, he8⟩ : ∃ e8, e8 = X.E.b0 := ⟨_, rfl⟩
  obtain ⟨e9, he9⟩ : ∃ e9, e9 = X.E.b1 := ⟨_, rfl⟩
  have E0 : Hid (Blk w eb 35 #[.int .i64 (3), .int .i64 et, .int .i64 eu, .int .i64 eh, .int .i64 ep, .int .i64 en, .int .i64 e6, .int .i64 e7, .int .i64 e8, .int .i64 e9, .slice none 0 0, .slice AN nn cN, .slice AM nm cM, .slice EL el cEL, .slice ED ed cED, .slice EO eo cEO]) := by rw [het, heu, heh, hep, hen, he6, he7, he8, he9, ← HK.out]; exact E0.out
  have HET := hide het
  have HEU := hide heu
  have HEH := hide heh
  have HEN := hide hen
  clear het heu heh hep hen he6 he7 he8 he9
  have HSW := hide (show swN s X lsn = { s with L := liveN s.L 3 et en lsn } by
    unfold swN
    rw [if_pos (by rw [HK.out]; decide), HK.out, HET.out, HEN.out])
  rw [HSW.out] at hKK
  obtain ⟨y0, y1, y2, y3, y4, y5, y6, y7, y8, y9, y10, y11, y12, y13, y14, y15⟩ := E0.out.cells16
  have HL := hide (live_any w base sb s AL cL AD cD AO cO nl nd no 3 et eu eh ep en e6 e7 e8 e9 lsn none 0 0 AN nn cN AM nm cM EL el cEL ED ed cED EO eo cEO (by rw [← HSU.out, ← HSH.out]; exact B0.out) S0.out NL.out ND.out NO.out HP.out.hb HP.out.kl)
  conv => arg 2; whnf
  go_wp2_with (go_at_call 22; refine HL.out.mono ?_; intro e wx hg; obtain ⟨rfl, hp⟩ := SwPost.of_live hg rfl; have HPO := hide hp; clear hp hg)
  exact HPO.out
set_option maxRecDepth 1000000 in
set_option maxHeartbeats 40000000 in
theorem sw_4 (w : World) (base sb eb : Nat) (s : Sn) (X : En) (lsn ui : Int) (AL : Option Addr) (cL : Nat) (AD : Option Addr) (cD : Nat) (AO : Option Addr) (cO nl nd no : Nat) (AN : Option Addr) (nn cN : Nat) (AM : Option Addr) (nm cM : Nat) (EL : Option Addr) (el cEL : Nat) (ED : Option Addr) (ed cED : Nat) (EO : Option Addr) (eo cEO : Nat) (hP : SwPre w base sb eb s X AL cL AD cD AO cO nl nd no AN nn cN AM nm cM EL el cEL ED ed cED EO eo cEO) (hui : ui = idxI (idxO s.O X.E.u)) (hk : X.E.kind = 4)
    (u0 u1 u5 u6 u8 u9 u10 u11 u12 u13 u14 u15 u16 u17 u18 u20 u21 u22 u23 u24 u25 u26 u27 u28 u29 u30 u31 u32 u33 u34 u35 u36 u37 u38 u39 u40 u41 u42 u43 u44 u45 u46 u47 u48 u49 u50 u51 u52 u53 u54 u55 u56 u57 u58 u59 u60 u61 u62 u63 u64 u65 u66 u67 u68 u69 u70 u71 u72 u73 u74 u75 u76 u77 u78 u79 u80 u81 u82 u83 u84 u85 u86 u87 u88 u89 u90 u91 u92 u93 u94 u95 u96 u97 u98 u99 u100 u101 u102 u103 u104 u105 u106 u107 u108 u109 u110 u111 u112 u113 u114 u115 u116 u117 u118 u119 u120 u121 u122 u123 u124 u125 : Value) (KK : Act → World → Prop) (Q : Exit → Act → World → Prop)
    (hKK : ∀ (v8 v9 v20 v21 v22 v23 v24 v25 v26 v27 v28 v29 v30 v31 v32 v33 v34 v35 v36 v37 v38 v39 v40 v41 v42 v43 v44 v45 v46 v47 v48 v49 v50 v51 v52 v53 v54 v55 v56 v57 v58 v59 v60 v61 v62 v63 v64 v65 v66 v67 v68 v69 v70 v71 v72 v73 v74 v75 v76 v77 v78 v79 v80 v81 v82 v83 v84 v85 v86 v87 v88 v89 v90 v91 v92 v93 v94 v95 v96 v97 v98 v99 v100 v101 v102 v103 v104 v105 v106 v107 v108 v109 v110 v111 v112 v113 : Value) (wx : World), SwPost w base sb (swN s X lsn) wx → KK ⟨(u0 :: u1 :: Value.int .i64 lsn :: Value.pointer (some ⟨sb, 0, none⟩) :: Value.pointer (some ⟨eb, 0, none⟩) :: u5 :: u6 :: Value.int .i64 ui :: v8 :: v9 :: u10 :: u11 :: u12 :: u13 :: u14 :: u15 :: u16 :: u17 :: u18 :: Value.int .i64 4 :: v20 :: v21 :: v22 :: v23 :: v24 :: v25 :: v26 :: v27 :: v28 :: v29 :: v30 :: v31 :: v32 :: v33 :: v34 :: v35 :: v36 :: v37 :: v38 :: v39 :: v40 :: v41 :: v42 :: v43 :: v44 :: v45 :: v46 :: v47 :: v48 :: v49 :: v50 :: v51 :: v52 :: v53 :: v54 :: v55 :: v56 :: v57 :: v58 :: v59 :: v60 :: v61 :: v62 :: v63 :: v64 :: v65 :: v66 :: v67 :: v68 :: v69 :: v70 :: v71 :: v72 :: v73 :: v74 :: v75 :: v76 :: v77 :: v78 :: v79 :: v80 :: v81 :: v82 :: v83 :: v84 :: v85 :: v86 :: v87 :: v88 :: v89 :: v90 :: v91 :: v92 :: v93 :: v94 :: v95 :: v96 :: v97 :: v98 :: v99 :: v100 :: v101 :: v102 :: v103 :: v104 :: v105 :: v106 :: v107 :: v108 :: v109 :: v110 :: v111 :: v112 :: v113 :: u114 :: u115 :: u116 :: u117 :: u118 :: u119 :: u120 :: u121 :: u122 :: u123 :: u124 :: u125 :: []).toArray, []⟩ wx) :
    Code.wp Try.prog (blockAt Try.f15 0) (Exit.then KK Q) ⟨(u0 :: u1 :: Value.int .i64 lsn :: Value.pointer (some ⟨sb, 0, none⟩) :: Value.pointer (some ⟨eb, 0, none⟩) :: u5 :: u6 :: Value.int .i64 ui :: u8 :: u9 :: u10 :: u11 :: u12 :: u13 :: u14 :: u15 :: u16 :: u17 :: u18 :: Value.int .i64 4 :: u20 :: u21 :: u22 :: u23 :: u24 :: u25 :: u26 :: u27 :: u28 :: u29 :: u30 :: u31 :: u32 :: u33 :: u34 :: u35 :: u36 :: u37 :: u38 :: u39 :: u40 :: u41 :: u42 :: u43 :: u44 :: u45 :: u46 :: u47 :: u48 :: u49 :: u50 :: u51 :: u52 :: u53 :: u54 :: u55 :: u56 :: u57 :: u58 :: u59 :: u60 :: u61 :: u62 :: u63 :: u64 :: u65 :: u66 :: u67 :: u68 :: u69 :: u70 :: u71 :: u72 :: u73 :: u74 :: u75 :: u76 :: u77 :: u78 :: u79 :: u80 :: u81 :: u82 :: u83 :: u84 :: u85 :: u86 :: u87 :: u88 :: u89 :: u90 :: u91 :: u92 :: u93 :: u94 :: u95 :: u96 :: u97 :: u98 :: u99 :: u100 :: u101 :: u102 :: u103 :: u104 :: u105 :: u106 :: u107 :: u108 :: u109 :: u110 :: u111 :: u112 :: u113 :: u114 :: u115 :: u116 :: u117 :: u118 :: u119 :: u120 :: u121 :: u122 :: u123 :: u124 :: u125 :: []).toArray, []⟩ w := by
  have HP := hide hP
  have HU := hide hui
  have B0 := hide hP.hB
  have E0 := hide hP.he
  have S0 := hide hP.hs
  have NL := hide hP.nl
  have ND := hide hP.nd
  have NO := hide hP.no
  clear hP hui
  obtain ⟨su, hsu⟩ : ∃ su, su = s.u := ⟨_, rfl⟩
  obtain ⟨sh, hsh⟩ : ∃ sh, sh = s.h := ⟨_, rfl⟩
  have B0 : Hid (Blk w sb 37 #[.slice AL nl cL, .slice AD nd cD, .slice AO no cO, .int .i64 su, .int .i64 sh]) := by rw [hsu, hsh]; exact B0.out
  have HSU := hide hsu
  have HSH := hide hsh
  clear hsu hsh
  have HK := hide hk
  clear hk
  obtain ⟨et, het⟩ : ∃ et, et = X.E.t := ⟨_, rfl⟩
  obtain ⟨eu, heu⟩ : ∃ eu, eu = X.E.u := ⟨_, rfl⟩
  obtain ⟨eh, heh⟩ : ∃ eh, eh = X.E.h := ⟨_, rfl⟩
  obtain ⟨ep, hep⟩ : ∃ ep, ep = X.E.p := ⟨_, rfl⟩
  obtain ⟨en, hen⟩ : ∃ en, en = X.E.nx := ⟨_, rfl⟩
  obtain ⟨e6, he6⟩ : ∃ e6, e6 = X.E.a0 := ⟨_, rfl⟩
  obtain ⟨e7, he7⟩ : ∃ e7, e7 = X.E.a1 := ⟨_, rfl⟩
  obtain ⟨e8, he8⟩ : ∃ e8, e8 = X.E.b0 := ⟨_, rfl⟩
  obtain ⟨e9, he9⟩ : ∃ e9, e9 = X.E.b1 := ⟨_, rfl⟩
  have E0 : Hid (Blk w eb 35 #[.int .i64 (4), .int .i64 et, .int .i64 eu, .int .i64 eh, .int .i64 ep, .int .i64 en, .int .i64 e6, .int .i64 e7, .int .i64 e8, .int .i64 e9, .slice none 0 0, .slice AN nn cN, .slice AM nm cM, .slice EL el cEL, .slice ED ed cED, .slice EO eo cEO]) := by rw [het, heu, heh, hep, hen, he6, he7, he8, he9, ← HK.out]; exact E0.out
  have HET := hide het
  have HEU := hide heu
  have HEH := hide heh
  have HEN := hide hen
  clear het heu heh hep hen he6 he7 he8 he9
  have HSW := hide (show swN s X lsn = { s with L := liveN s.L 4 et en lsn } by
    unfold swN
    rw [if_pos (by rw [HK.out]; decide), HK.out, HET.out, HEN.out])
  rw [HSW.out] at hKK
  obtain ⟨y0, y1, y2, y3, y4, y5, y6, y7, y8, y9, y10, y11, y12, y13, y14, y15⟩ := E0.out.cells16
  have HL := hide (live_any w base sb s AL cL AD cD AO cO nl nd no 4 et eu eh ep en e6 e7 e8 e9 lsn none 0 0 AN nn cN AM nm cM EL el cEL ED ed cED EO eo cEO (by rw [← HSU.out, ← HSH.out]; exact B0.out) S0.out NL.out ND.out NO.out HP.out.hb HP.out.kl)
  conv => arg 2; whnf
  go_wp2_with (go_at_call 22; refine HL.out.mono ?_; intro e wx hg; obtain ⟨rfl, hp⟩ := SwPost.of_live hg rfl; have HPO := hide hp; clear hp hg)
  exact HPO.out
set_option maxRecDepth 1000000 in
set_option maxHeartbeats 40000000 in
theorem sw_5 (w : World) (base sb eb : Nat) (s : Sn) (X : En) (lsn ui : Int) (AL : Option Addr) (cL : Nat) (AD : Option Addr) (cD : Nat) (AO : Option Addr) (cO nl nd no : Nat) (AN : Option Addr) (nn cN : Nat) (AM : Option Addr) (nm cM : Nat) (EL : Option Addr) (el cEL : Nat) (ED : Option Addr) (ed cED : Nat) (EO : Option Addr) (eo cEO : Nat) (hP : SwPre w base sb eb s X AL cL AD cD AO cO nl nd no AN nn cN AM nm cM EL el cEL ED ed cED EO eo cEO) (hui : ui = idxI (idxO s.O X.E.u)) (hk : X.E.kind = 5)
    (u0 u1 u5 u6 u8 u9 u10 u11 u12 u13 u14 u15 u16 u17 u18 u20 u21 u22 u23 u24 u25 u26 u27 u28 u29 u30 u31 u32 u33 u34 u35 u36 u37 u38 u39 u40 u41 u42 u43 u44 u45 u46 u47 u48 u49 u50 u51 u52 u53 u54 u55 u56 u57 u58 u59 u60 u61 u62 u63 u64 u65 u66 u67 u68 u69 u70 u71 u72 u73 u74 u75 u76 u77 u78 u79 u80 u81 u82 u83 u84 u85 u86 u87 u88 u89 u90 u91 u92 u93 u94 u95 u96 u97 u98 u99 u100 u101 u102 u103 u104 u105 u106 u107 u108 u109 u110 u111 u112 u113 u114 u115 u116 u117 u118 u119 u120 u121 u122 u123 u124 u125 : Value) (KK : Act → World → Prop) (Q : Exit → Act → World → Prop)
    (hKK : ∀ (v8 v9 v20 v21 v22 v23 v24 v25 v26 v27 v28 v29 v30 v31 v32 v33 v34 v35 v36 v37 v38 v39 v40 v41 v42 v43 v44 v45 v46 v47 v48 v49 v50 v51 v52 v53 v54 v55 v56 v57 v58 v59 v60 v61 v62 v63 v64 v65 v66 v67 v68 v69 v70 v71 v72 v73 v74 v75 v76 v77 v78 v79 v80 v81 v82 v83 v84 v85 v86 v87 v88 v89 v90 v91 v92 v93 v94 v95 v96 v97 v98 v99 v100 v101 v102 v103 v104 v105 v106 v107 v108 v109 v110 v111 v112 v113 : Value) (wx : World), SwPost w base sb (swN s X lsn) wx → KK ⟨(u0 :: u1 :: Value.int .i64 lsn :: Value.pointer (some ⟨sb, 0, none⟩) :: Value.pointer (some ⟨eb, 0, none⟩) :: u5 :: u6 :: Value.int .i64 ui :: v8 :: v9 :: u10 :: u11 :: u12 :: u13 :: u14 :: u15 :: u16 :: u17 :: u18 :: Value.int .i64 5 :: v20 :: v21 :: v22 :: v23 :: v24 :: v25 :: v26 :: v27 :: v28 :: v29 :: v30 :: v31 :: v32 :: v33 :: v34 :: v35 :: v36 :: v37 :: v38 :: v39 :: v40 :: v41 :: v42 :: v43 :: v44 :: v45 :: v46 :: v47 :: v48 :: v49 :: v50 :: v51 :: v52 :: v53 :: v54 :: v55 :: v56 :: v57 :: v58 :: v59 :: v60 :: v61 :: v62 :: v63 :: v64 :: v65 :: v66 :: v67 :: v68 :: v69 :: v70 :: v71 :: v72 :: v73 :: v74 :: v75 :: v76 :: v77 :: v78 :: v79 :: v80 :: v81 :: v82 :: v83 :: v84 :: v85 :: v86 :: v87 :: v88 :: v89 :: v90 :: v91 :: v92 :: v93 :: v94 :: v95 :: v96 :: v97 :: v98 :: v99 :: v100 :: v101 :: v102 :: v103 :: v104 :: v105 :: v106 :: v107 :: v108 :: v109 :: v110 :: v111 :: v112 :: v113 :: u114 :: u115 :: u116 :: u117 :: u118 :: u119 :: u120 :: u121 :: u122 :: u123 :: u124 :: u125 :: []).toArray, []⟩ wx) :
    Code.wp Try.prog (blockAt Try.f15 0) (Exit.then KK Q) ⟨(u0 :: u1 :: Value.int .i64 lsn :: Value.pointer (some ⟨sb, 0, none⟩) :: Value.pointer (some ⟨eb, 0, none⟩) :: u5 :: u6 :: Value.int .i64 ui :: u8 :: u9 :: u10 :: u11 :: u12 :: u13 :: u14 :: u15 :: u16 :: u17 :: u18 :: Value.int .i64 5 :: u20 :: u21 :: u22 :: u23 :: u24 :: u25 :: u26 :: u27 :: u28 :: u29 :: u30 :: u31 :: u32 :: u33 :: u34 :: u35 :: u36 :: u37 :: u38 :: u39 :: u40 :: u41 :: u42 :: u43 :: u44 :: u45 :: u46 :: u47 :: u48 :: u49 :: u50 :: u51 :: u52 :: u53 :: u54 :: u55 :: u56 :: u57 :: u58 :: u59 :: u60 :: u61 :: u62 :: u63 :: u64 :: u65 :: u66 :: u67 :: u68 :: u69 :: u70 :: u71 :: u72 :: u73 :: u74 :: u75 :: u76 :: u77 :: u78 :: u79 :: u80 :: u81 :: u82 :: u83 :: u84 :: u85 :: u86 :: u87 :: u88 :: u89 :: u90 :: u91 :: u92 :: u93 :: u94 :: u95 :: u96 :: u97 :: u98 :: u99 :: u100 :: u101 :: u102 :: u103 :: u104 :: u105 :: u106 :: u107 :: u108 :: u109 :: u110 :: u111 :: u112 :: u113 :: u114 :: u115 :: u116 :: u117 :: u118 :: u119 :: u120 :: u121 :: u122 :: u123 :: u124 :: u125 :: []).toArray, []⟩ w := by
  have HP := hide hP
  have HU := hide hui
  have B0 := hide hP.hB
  have E0 := hide hP.he
  have S0 := hide hP.hs
  have NL := hide hP.nl
  have ND := hide hP.nd
  have NO := hide hP.no
  clear hP hui
  obtain ⟨su, hsu⟩ : ∃ su, su = s.u := ⟨_, rfl⟩
  obtain ⟨sh, hsh⟩ : ∃ sh, sh = s.h := ⟨_, rfl⟩
  have B0 : Hid (Blk w sb 37 #[.slice AL nl cL, .slice AD nd cD, .slice AO no cO, .int .i64 su, .int .i64 sh]) := by rw [hsu, hsh]; exact B0.out
  have HSU := hide hsu
  have HSH := hide hsh
  clear hsu hsh
  have HK := hide hk
  clear hk
  obtain ⟨et, het⟩ : ∃ et, et = X.E.t := ⟨_, rfl⟩
  obtain ⟨eu, heu⟩ : ∃ eu, eu = X.E.u := ⟨_, rfl⟩
  obtain ⟨eh, heh⟩ : ∃ eh, eh = X.E.h := ⟨_, rfl⟩
  obtain ⟨ep, hep⟩ : ∃ ep, ep = X.E.p := ⟨_, rfl⟩
  obtain ⟨en, hen⟩ : ∃ en, en = X.E.nx := ⟨_, rfl⟩
  obtain ⟨e6, he6⟩ : ∃ e6, e6 = X.E.a0 := ⟨_, rfl⟩
  obtain ⟨e7, he7⟩ : ∃ e7, e7 = X.E.a1 := ⟨_, rfl⟩
  obtain ⟨e8, he8⟩ : ∃ e8, e8 = X.E.b0 := ⟨_, rfl⟩
  obtain ⟨e9, he9⟩ : ∃ e9, e9 = X.E.b1 := ⟨_, rfl⟩
  have E0 : Hid (Blk w eb 35 #[.int .i64 (5), .int .i64 et, .int .i64 eu, .int .i64 eh, .int .i64 ep, .int .i64 en, .int .i64 e6, .int .i64 e7, .int .i64 e8, .int .i64 e9, .slice none 0 0, .slice AN nn cN, .slice AM nm cM, .slice EL el cEL, .slice ED ed cED, .slice EO eo cEO]) := by rw [het, heu, heh, hep, hen, he6, he7, he8, he9, ← HK.out]; exact E0.out
  have HET := hide het
  have HEU := hide heu
  have HEH := hide heh
  have HEN := hide hen
  clear het heu heh hep hen he6 he7 he8 he9
  obtain ⟨y0, y1, y2, y3, y4, y5, y6, y7, y8, y9, y10, y11, y12, y13, y14, y15⟩ := E0.out.cells16
  obtain ⟨b0, b1, b2, b3, b4⟩ := B0.out.cells5
  have HSW := hide (show swN s X lsn = { s with L := endN s.L et } by
    unfold swN
    rw [if_neg (by rw [HK.out]; decide), if_pos (by rw [HK.out]), HET.out])
  rw [HSW.out] at hKK
  obtain ⟨i, b, hf⟩ : ∃ i b, findN s.L et = (i, b) := ⟨_, _, rfl⟩
  have HF := hide hf
  have HFI := hide (find_any w AL cL nl _ s.L et (own_reads (by rw [NL.out]; exact S0.out.l : w.ownsRow base 49 4 (.slice AL nl cL) nl (lvs s.L))) NL.out (by have := HP.out.kl; have := NL.out; omega))
  clear hf
  cases b with
  | false =>
    have HE := hide (show endN s.L et = s.L by unfold endN; rw [HF.out]; rfl)
    rw [HE.out] at hKK
    conv => arg 2; whnf
    go_wp2_with (go_at_call 23; refine HFI.out.mono ?_; rintro e w2 ⟨he0, he⟩; rw [HF.out] at he0; subst he0; have X2 := hide he; clear he)
    exact ⟨AL, cL, AD, cD, AO, cO, by rw [← NL.out, ← ND.out, ← NO.out, ← HSU.out, ← HSH.out]; exact X2.out.blk B0.out, S0.out.ext X2.out, Tch.ext X2.out⟩
  | true =>
    obtain ⟨x, hx, _⟩ := findN_mem s.L et i HF.out
    have hil := (List.getElem?_eq_some_iff.1 hx).1
    obtain ⟨m, rfl⟩ : ∃ m, nl = m + 1 := ⟨nl - 1, by have := NL.out; omega⟩
    have him : i ≤ m := by have := NL.out; omega
    have hm9 : m ≤ 900 := by have := NL.out; have := HP.out.kl; omega
    have HE := hide (show endN s.L et = s.L.take i ++ s.L.drop (i + 1) by unfold endN; rw [HF.out]; rfl)
    rw [HE.out] at hKK
    obtain ⟨g, rfl⟩ : ∃ g, AL = some ⟨g, 0, none⟩ := by
      obtain ⟨g, cp, hv', _, _⟩ := S0.out.l.form (by omega)
      injection hv' with hv1 _ _
      exact ⟨g, hv1⟩
    clear hx hil
    conv => arg 2; whnf
    go_wp2_with (first | (go_at_call 23; refine HFI.out.mono ?_; rintro e w2 ⟨he0, he⟩; rw [HF.out] at he0; subst he0; have X2 := hide he; have q0 : w2.cell? ⟨sb, 0, none⟩ = some (.slice (some ⟨g, 0, none⟩) (m + 1) cL) := ((X2.out.blk B0.out).cell 0).trans rfl; clear he) | (go_at_call 24; refine (delete_one w2 base g m cL i (lvs s.L) (by rw [NL.out]; exact X2.out.own S0.out.l) (lvs_one s.L) (by have h1 := B0.out.lt; have h2 := X2.out.size; have := HP.out.hb; omega) (by omega) him).mono ?_; rintro e w3 ⟨rfl, ho3, ht3⟩; have O3 := hide ho3; have T3 := hide ht3; have B3 := hide (T3.out.blk (X2.out.blk B0.out) (fun e => own_blk_ne S0.out.l B0.out (by decide) (by rw [e]; rfl))); have q1 : w3.cell? ⟨sb, 0, none⟩ = some (.slice (some ⟨g, 0, none⟩) (m + 1) cL) := (B3.out.cell 0).trans rfl; have q2 := B3.out.frozen 0; clear ho3 ht3))
    have LN := hide (show m = (s.L.take i ++ s.L.drop (i + 1)).length by rw [List.length_append, List.length_take, List.length_drop]; have := NL.out; omega)
    have EL := hide (show (lvs s.L).take (i * 4) ++ (lvs s.L).drop ((i + 1) * 4) = lvs (s.L.take i ++ s.L.drop (i + 1)) by rw [(lvs_take_drop s.L i).1, (lvs_take_drop s.L (i + 1)).2]; simp [lvs])
    have S3 := hide ((S0.out.ext X2.out).insL (sb := sb) (L' := s.L.take i ++ s.L.drop (i + 1)) (A' := some ⟨g, 0, none⟩) (c' := cL) (w1 := w3) (T3.out.more (fun k _ e => by rw [e]; rfl)) (by rw [← LN.out, ← EL.out]; exact O3.out))
    have S4 := hide (S3.out.1.box B3.out HP.out.hb 0 (.slice (some ⟨g, 0, none⟩) m cL))
    exact ⟨some ⟨g, 0, none⟩, cL, AD, cD, AO, cO, by rw [← LN.out, ← ND.out, ← NO.out, ← HSU.out, ← HSH.out]; exact S4.out.2.2, S4.out.1, (Tch.ext X2.out).trans (S3.out.2.trans S4.out.2.1)⟩
set_option maxRecDepth 1000000 in
set_option maxHeartbeats 40000000 in
theorem sw_10 (w : World) (base sb eb : Nat) (s : Sn) (X : En) (lsn ui : Int) (AL : Option Addr) (cL : Nat) (AD : Option Addr) (cD : Nat) (AO : Option Addr) (cO nl nd no : Nat) (AN : Option Addr) (nn cN : Nat) (AM : Option Addr) (nm cM : Nat) (EL : Option Addr) (el cEL : Nat) (ED : Option Addr) (ed cED : Nat) (EO : Option Addr) (eo cEO : Nat) (hP : SwPre w base sb eb s X AL cL AD cD AO cO nl nd no AN nn cN AM nm cM EL el cEL ED ed cED EO eo cEO) (hui : ui = idxI (idxO s.O X.E.u)) (hk : X.E.kind = 10)
    (u0 u1 u5 u6 u8 u9 u10 u11 u12 u13 u14 u15 u16 u17 u18 u20 u21 u22 u23 u24 u25 u26 u27 u28 u29 u30 u31 u32 u33 u34 u35 u36 u37 u38 u39 u40 u41 u42 u43 u44 u45 u46 u47 u48 u49 u50 u51 u52 u53 u54 u55 u56 u57 u58 u59 u60 u61 u62 u63 u64 u65 u66 u67 u68 u69 u70 u71 u72 u73 u74 u75 u76 u77 u78 u79 u80 u81 u82 u83 u84 u85 u86 u87 u88 u89 u90 u91 u92 u93 u94 u95 u96 u97 u98 u99 u100 u101 u102 u103 u104 u105 u106 u107 u108 u109 u110 u111 u112 u113 u114 u115 u116 u117 u118 u119 u120 u121 u122 u123 u124 u125 : Value) (KK : Act → World → Prop) (Q : Exit → Act → World → Prop)
    (hKK : ∀ (v8 v9 v20 v21 v22 v23 v24 v25 v26 v27 v28 v29 v30 v31 v32 v33 v34 v35 v36 v37 v38 v39 v40 v41 v42 v43 v44 v45 v46 v47 v48 v49 v50 v51 v52 v53 v54 v55 v56 v57 v58 v59 v60 v61 v62 v63 v64 v65 v66 v67 v68 v69 v70 v71 v72 v73 v74 v75 v76 v77 v78 v79 v80 v81 v82 v83 v84 v85 v86 v87 v88 v89 v90 v91 v92 v93 v94 v95 v96 v97 v98 v99 v100 v101 v102 v103 v104 v105 v106 v107 v108 v109 v110 v111 v112 v113 : Value) (wx : World), SwPost w base sb (swN s X lsn) wx → KK ⟨(u0 :: u1 :: Value.int .i64 lsn :: Value.pointer (some ⟨sb, 0, none⟩) :: Value.pointer (some ⟨eb, 0, none⟩) :: u5 :: u6 :: Value.int .i64 ui :: v8 :: v9 :: u10 :: u11 :: u12 :: u13 :: u14 :: u15 :: u16 :: u17 :: u18 :: Value.int .i64 10 :: v20 :: v21 :: v22 :: v23 :: v24 :: v25 :: v26 :: v27 :: v28 :: v29 :: v30 :: v31 :: v32 :: v33 :: v34 :: v35 :: v36 :: v37 :: v38 :: v39 :: v40 :: v41 :: v42 :: v43 :: v44 :: v45 :: v46 :: v47 :: v48 :: v49 :: v50 :: v51 :: v52 :: v53 :: v54 :: v55 :: v56 :: v57 :: v58 :: v59 :: v60 :: v61 :: v62 :: v63 :: v64 :: v65 :: v66 :: v67 :: v68 :: v69 :: v70 :: v71 :: v72 :: v73 :: v74 :: v75 :: v76 :: v77 :: v78 :: v79 :: v80 :: v81 :: v82 :: v83 :: v84 :: v85 :: v86 :: v87 :: v88 :: v89 :: v90 :: v91 :: v92 :: v93 :: v94 :: v95 :: v96 :: v97 :: v98 :: v99 :: v100 :: v101 :: v102 :: v103 :: v104 :: v105 :: v106 :: v107 :: v108 :: v109 :: v110 :: v111 :: v112 :: v113 :: u114 :: u115 :: u116 :: u117 :: u118 :: u119 :: u120 :: u121 :: u122 :: u123 :: u124 :: u125 :: []).toArray, []⟩ wx) :
    Code.wp Try.prog (blockAt Try.f15 0) (Exit.then KK Q) ⟨(u0 :: u1 :: Value.int .i64 lsn :: Value.pointer (some ⟨sb, 0, none⟩) :: Value.pointer (some ⟨eb, 0, none⟩) :: u5 :: u6 :: Value.int .i64 ui :: u8 :: u9 :: u10 :: u11 :: u12 :: u13 :: u14 :: u15 :: u16 :: u17 :: u18 :: Value.int .i64 10 :: u20 :: u21 :: u22 :: u23 :: u24 :: u25 :: u26 :: u27 :: u28 :: u29 :: u30 :: u31 :: u32 :: u33 :: u34 :: u35 :: u36 :: u37 :: u38 :: u39 :: u40 :: u41 :: u42 :: u43 :: u44 :: u45 :: u46 :: u47 :: u48 :: u49 :: u50 :: u51 :: u52 :: u53 :: u54 :: u55 :: u56 :: u57 :: u58 :: u59 :: u60 :: u61 :: u62 :: u63 :: u64 :: u65 :: u66 :: u67 :: u68 :: u69 :: u70 :: u71 :: u72 :: u73 :: u74 :: u75 :: u76 :: u77 :: u78 :: u79 :: u80 :: u81 :: u82 :: u83 :: u84 :: u85 :: u86 :: u87 :: u88 :: u89 :: u90 :: u91 :: u92 :: u93 :: u94 :: u95 :: u96 :: u97 :: u98 :: u99 :: u100 :: u101 :: u102 :: u103 :: u104 :: u105 :: u106 :: u107 :: u108 :: u109 :: u110 :: u111 :: u112 :: u113 :: u114 :: u115 :: u116 :: u117 :: u118 :: u119 :: u120 :: u121 :: u122 :: u123 :: u124 :: u125 :: []).toArray, []⟩ w := by
  have HP := hide hP
  have HU := hide hui
  have B0 := hide hP.hB
  have E0 := hide hP.he
  have S0 := hide hP.hs
  have NL := hide hP.nl
  have ND := hide hP.nd
  have NO := hide hP.no
  clear hP hui
  obtain ⟨su, hsu⟩ : ∃ su, su = s.u := ⟨_, rfl⟩
  obtain ⟨sh, hsh⟩ : ∃ sh, sh = s.h := ⟨_, rfl⟩
  have B0 : Hid (Blk w sb 37 #[.slice AL nl cL, .slice AD nd cD, .slice AO no cO, .int .i64 su, .int .i64 sh]) := by rw [hsu, hsh]; exact B0.out
  have HSU := hide hsu
  have HSH := hide hsh
  clear hsu hsh
  have HK := hide hk
  clear hk
  obtain ⟨et, het⟩ : ∃ et, et = X.E.t := ⟨_, rfl⟩
  obtain ⟨eu, heu⟩ : ∃ eu, eu = X.E.u := ⟨_, rfl⟩
  obtain ⟨eh, heh⟩ : ∃ eh, eh = X.E.h := ⟨_, rfl⟩
  obtain ⟨ep, hep⟩ : ∃ ep, ep = X.E.p := ⟨_, rfl⟩
  obtain ⟨en, hen⟩ : ∃ en, en = X.E.nx := ⟨_, rfl⟩
  obtain ⟨e6, he6⟩ : ∃ e6, e6 = X.E.a0 := ⟨_, rfl⟩
  obtain ⟨e7, he7⟩ : ∃ e7, e7 = X.E.a1 := ⟨_, rfl⟩
  obtain ⟨e8, he8⟩ : ∃ e8, e8 = X.E.b0 := ⟨_, rfl⟩
  obtain ⟨e9, he9⟩ : ∃ e9, e9 = X.E.b1 := ⟨_, rfl⟩
  have E0 : Hid (Blk w eb 35 #[.int .i64 (10), .int .i64 et, .int .i64 eu, .int .i64 eh, .int .i64 ep, .int .i64 en, .int .i64 e6, .int .i64 e7, .int .i64 e8, .int .i64 e9, .slice none 0 0, .slice AN nn cN, .slice AM nm cM, .slice EL el cEL, .slice ED ed cED, .slice EO eo cEO]) := by rw [het, heu, heh, hep, hen, he6, he7, he8, he9, ← HK.out]; exact E0.out
  have HET := hide het
  have HEU := hide heu
  have HEH := hide heh
  have HEN := hide hen
  clear het heu heh hep hen he6 he7 he8 he9
  obtain ⟨y0, y1, y2, y3, y4, y5, y6, y7, y8, y9, y10, y11, y12, y13, y14, y15⟩ := E0.out.cells16
  obtain ⟨b0, b1, b2, b3, b4⟩ := B0.out.cells5
  have HSW := hide (show swN s X lsn = { s with h := eh } by
    unfold swN
    rw [if_neg (by rw [HK.out]; decide), if_neg (by rw [HK.out]; decide), if_neg (by rw [HK.out]; decide), if_neg (by rw [HK.out]; decide), if_neg (by rw [HK.out]; decide), if_pos (by rw [HK.out]), HEH.out])
  rw [HSW.out] at hKK
  have f4 := B0.out.frozen 4
  have S4 := hide (S0.out.box B0.out HP.out.hb 4 (.int .i64 eh))
  conv => arg 2; whnf
  go_wp2_with (fail)
  exact ⟨AL, cL, AD, cD, AO, cO, by rw [← NL.out, ← ND.out, ← NO.out, ← HSU.out]; exact S4.out.2.2, S4.out.1.as rfl rfl rfl, S4.out.2.1⟩
end Go.Proofs.Ytaijgnhkdbdfcaa
