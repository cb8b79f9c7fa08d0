/- Look: the walks of On's switch, the rest of them, and whatever kind it is. (Printed by mk_lookt.py.) -/
import Derived.Test.YtaijgnhkdbdfcaaLookT
namespace Go.Proofs.Ytaijgnhkdbdfcaa
open Go.ChangeShapes Go.WideShapes Go.ChangeAt Go.RowKit
set_option linter.unusedVariables false
set_option maxRecDepth 1000000 in
set_option maxHeartbeats 40000000 in
theorem sw_7 (w : World) (base sb eb : Nat) (s : Sn) (X : En) (lsn ui : Int) (AL : Option Addr) (cL : Nat) (AD : Option Addr) (cD : Nat) (AO : Option Addr) (cO nl nd no : Nat) (AN : Option Addr) (nn cN : Nat) (AM : Option Addr) (nm cM : Nat) (EL : Option Addr) (el cEL : Nat) (ED : Option Addr) (ed cED : Nat) (EO : Option Addr) (eo cEO : Nat) (hP : SwPre w base sb eb s X AL cL AD cD AO cO nl nd no AN nn cN AM nm cM EL el cEL ED ed cED EO eo cEO) (hui : ui = idxI (idxO s.O X.E.u)) (hk : X.E.kind = 7)
    (u0 u1 u5 u6 u8 u9 u10 u11 u12 u13 u14 u15 u16 u17 u18 u20 u21 u22 u23 u24 u25 u26 u27 u28 u29 u30 u31 u32 u33 u34 u35 u36 u37 u38 u39 u40 u41 u42 u43 u44 u45 u46 u47 u48 u49 u50 u51 u52 u53 u54 u55 u56 u57 u58 u59 u60 u61 u62 u63 u64 u65 u66 u67 u68 u69 u70 u71 u72 u73 u74 u75 u76 u77 u78 u79 u80 u81 u82 u83 u84 u85 u86 u87 u88 u89 u90 u91 u92 u93 u94 u95 u96 u97 u98 u99 u100 u101 u102 u103 u104 u105 u106 u107 u108 u109 u110 u111 u112 u113 u114 u115 u116 u117 u118 u119 u120 u121 u122 u123 u124 u125 : Value) (KK : Act → World → Prop) (Q : Exit → Act → World → Prop)
    (hKK : ∀ (v8 v9 v20 v21 v22 v23 v24 v25 v26 v27 v28 v29 v30 v31 v32 v33 v34 v35 v36 v37 v38 v39 v40 v41 v42 v43 v44 v45 v46 v47 v48 v49 v50 v51 v52 v53 v54 v55 v56 v57 v58 v59 v60 v61 v62 v63 v64 v65 v66 v67 v68 v69 v70 v71 v72 v73 v74 v75 v76 v77 v78 v79 v80 v81 v82 v83 v84 v85 v86 v87 v88 v89 v90 v91 v92 v93 v94 v95 v96 v97 v98 v99 v100 v101 v102 v103 v104 v105 v106 v107 v108 v109 v110 v111 v112 v113 : Value) (wx : World), SwPost w base sb (swN s X lsn) wx → KK ⟨(u0 :: u1 :: Value.int .i64 lsn :: Value.pointer (some ⟨sb, 0, none⟩) :: Value.pointer (some ⟨eb, 0, none⟩) :: u5 :: u6 :: Value.int .i64 ui :: v8 :: v9 :: u10 :: u11 :: u12 :: u13 :: u14 :: u15 :: u16 :: u17 :: u18 :: Value.int .i64 7 :: v20 :: v21 :: v22 :: v23 :: v24 :: v25 :: v26 :: v27 :: v28 :: v29 :: v30 :: v31 :: v32 :: v33 :: v34 :: v35 :: v36 :: v37 :: v38 :: v39 :: v40 :: v41 :: v42 :: v43 :: v44 :: v45 :: v46 :: v47 :: v48 :: v49 :: v50 :: v51 :: v52 :: v53 :: v54 :: v55 :: v56 :: v57 :: v58 :: v59 :: v60 :: v61 :: v62 :: v63 :: v64 :: v65 :: v66 :: v67 :: v68 :: v69 :: v70 :: v71 :: v72 :: v73 :: v74 :: v75 :: v76 :: v77 :: v78 :: v79 :: v80 :: v81 :: v82 :: v83 :: v84 :: v85 :: v86 :: v87 :: v88 :: v89 :: v90 :: v91 :: v92 :: v93 :: v94 :: v95 :: v96 :: v97 :: v98 :: v99 :: v100 :: v101 :: v102 :: v103 :: v104 :: v105 :: v106 :: v107 :: v108 :: v109 :: v110 :: v111 :: v112 :: v113 :: u114 :: u115 :: u116 :: u117 :: u118 :: u119 :: u120 :: u121 :: u122 :: u123 :: u124 :: u125 :: []).toArray, []⟩ wx) :
    Code.wp Try.prog (blockAt Try.f15 0) (Exit.then KK Q) ⟨(u0 :: u1 :: Value.int .i64 lsn :: Value.pointer (some ⟨sb, 0, none⟩) :: Value.pointer (some ⟨eb, 0, none⟩) :: u5 :: u6 :: Value.int .i64 ui :: u8 :: u9 :: u10 :: u11 :: u12 :: u13 :: u14 :: u15 :: u16 :: u17 :: u18 :: Value.int .i64 7 :: u20 :: u21 :: u22 :: u23 :: u24 :: u25 :: u26 :: u27 :: u28 :: u29 :: u30 :: u31 :: u32 :: u33 :: u34 :: u35 :: u36 :: u37 :: u38 :: u39 :: u40 :: u41 :: u42 :: u43 :: u44 :: u45 :: u46 :: u47 :: u48 :: u49 :: u50 :: u51 :: u52 :: u53 :: u54 :: u55 :: u56 :: u57 :: u58 :: u59 :: u60 :: u61 :: u62 :: u63 :: u64 :: u65 :: u66 :: u67 :: u68 :: u69 :: u70 :: u71 :: u72 :: u73 :: u74 :: u75 :: u76 :: u77 :: u78 :: u79 :: u80 :: u81 :: u82 :: u83 :: u84 :: u85 :: u86 :: u87 :: u88 :: u89 :: u90 :: u91 :: u92 :: u93 :: u94 :: u95 :: u96 :: u97 :: u98 :: u99 :: u100 :: u101 :: u102 :: u103 :: u104 :: u105 :: u106 :: u107 :: u108 :: u109 :: u110 :: u111 :: u112 :: u113 :: u114 :: u115 :: u116 :: u117 :: u118 :: u119 :: u120 :: u121 :: u122 :: u123 :: u124 :: u125 :: []).toArray, []⟩ w := by
  have HP := hide hP
  have HU := hide hui
  have B0 := hide hP.hB
  have E0 := hide hP.he
  have S0 := hide hP.hs
  have NL := hide hP.nl
  have ND := hide hP.nd
  have NO := hide hP.no
  clear hP hui
  obtain ⟨su, hsu⟩ : ∃ su, su = s.u := ⟨_, rfl⟩
  obtain ⟨sh, hsh⟩ : ∃ sh, sh = s.h := ⟨_, rfl⟩
  have B0 : Hid (Blk w sb 37 #[.slice AL nl cL, .slice AD nd cD, .slice AO no cO, .int .i64 su, .int .i64 sh]) := by rw [hsu, hsh]; exact B0.out
  have HSU := hide hsu
  have HSH := hide hsh
  clear hsu hsh
  have HK := hide hk
  clear hk
  obtain ⟨et, het⟩ : ∃ et, et = X.E.t := ⟨_, rfl⟩
  obtain ⟨eu, heu⟩ : ∃ eu, eu = X.E.u := ⟨_, rfl⟩
  obtain ⟨eh, heh⟩ : ∃ eh, eh = X.E.h := ⟨_, rfl⟩
  obtain ⟨ep, hep⟩ : ∃ ep, ep = X.E.p := ⟨_, rfl⟩
  obtain ⟨en, hen⟩ : ∃ en, en = X.E.nx := ⟨_, rfl⟩
  obtain ⟨e6, he6⟩ : ∃ e6, e6 = X.E.a0 := ⟨_, rfl⟩
  obtain ⟨e7, he7⟩ : ∃ e7, e7 = X.E.a1 := ⟨_, rfl⟩
  obtain ⟨e8, he8⟩ : ∃ e8, e8 = X.E.b0 := ⟨_, rfl⟩
  obtain ⟨e9, he9⟩ : ∃ e9, e9 = X.E.b1 := ⟨_, rfl⟩
  have E0 : Hid (Blk w eb 35 #[.int .i64 (7), .int .i64 et, .int .i64 eu, .int .i64 eh, .int .i64 ep, .int .i64 en, .int .i64 e6, .int .i64 e7, .int .i64 e8, .int .i64 e9, .slice none 0 0, .slice AN nn cN, .slice AM nm cM, .slice EL el cEL, .slice ED ed cED, .slice EO eo cEO]) := by rw [het, heu, heh, hep, hen, he6, he7, he8, he9, ← HK.out]; exact E0.out
  have HET := hide het
  have HEU := hide heu
  have HEH := hide heh
  have HEN := hide hen
  clear het heu heh hep hen he6 he7 he8 he9
  obtain ⟨y0, y1, y2, y3, y4, y5, y6, y7, y8, y9, y10, y11, y12, y13, y14, y15⟩ := E0.out.cells16
  obtain ⟨b0, b1, b2, b3, b4⟩ := B0.out.cells5
  have HSW := hide (show swN s X lsn = { s with O := moveN s.O eu } by
    unfold swN
    rw [if_neg (by rw [HK.out]; decide), if_neg (by rw [HK.out]; decide), if_neg (by rw [HK.out]; decide), if_pos (by rw [HK.out]), HEU.out])
  rw [HSW.out] at hKK
  obtain ⟨r, hr⟩ : ∃ r, idxO s.O X.E.u = r := ⟨_, rfl⟩
  rw [hr] at HU
  rw [← HEU.out] at hr
  have HR := hide hr
  clear hr
  cases r with
  | none =>
    have HE := hide (show moveN s.O eu = s.O by unfold moveN; rw [HR.out])
    rw [HE.out] at hKK
    obtain rfl : ui = -1 := HU.out
    conv => arg 2; whnf
    go_wp2_with (fail)
    exact ⟨AL, cL, AD, cD, AO, cO, by rw [← NL.out, ← ND.out, ← NO.out, ← HSU.out, ← HSH.out]; exact B0.out, S0.out.as rfl rfl rfl, Tch.refl _ _ _⟩
  | some i =>
    obtain rfl : ui = (i : Int) := HU.out
    obtain ⟨x, hx, _⟩ := idxO_at s.O eu i HR.out
    have hil : i < no := by have := (List.getElem?_eq_some_iff.1 hx).1; have := NO.out; omega
    have hno : no ≤ 900 := by have := NO.out; have := HP.out.ko; omega
    have HE := hide (show moveN s.O eu = s.O.set i { x with d := x.d + 1 } by unfold moveN; rw [HR.out]; simp only [hx])
    rw [HE.out] at hKK
    obtain ⟨os, ho, hos⟩ := S0.out.o
    obtain ⟨g, rfl⟩ : ∃ g, AO = some ⟨g, 0, none⟩ := by
      obtain ⟨g, cp, hv', _, _⟩ := ho.form (by rw [← NO.out]; omega)
      injection hv' with hv1 _ _
      exact ⟨g, hv1⟩
    obtain ⟨xd0, xd1⟩ := HP.out.kx x (List.mem_of_getElem? hx)
    obtain ⟨Ax, cx, q0, q1, q2, q3⟩ := hos.2 i x hx
    have c2 : w.cell? ⟨g, i * 3 + 2, none⟩ = some (.int .i64 x.d) := by rw [ho.cellAt _ (by rw [← NO.out]; omega)]; exact q2
    have f2 := ho.frozenAt (i * 3 + 2)
    have hO : OwnO w base s.O (some ⟨g, 0, none⟩) s.O.length cO := ⟨os, ho, hos⟩
    have S4 := hide (S0.out.setD (sb := sb) hx ho hos B0.out)
    have hii : (i : Int) < (no : Int) := by omega
    clear ho hos q0 q1 q2 q3 hx hO
    conv => arg 2; whnf
    go_wp2_with (fail)
    exact ⟨AL, cL, AD, cD, some ⟨g, 0, none⟩, cO, by rw [← NL.out, ← ND.out, ← HSU.out, ← HSH.out]; rw [List.length_set, ← NO.out]; exact S4.out.2.2, S4.out.1, S4.out.2.1⟩
set_option maxRecDepth 1000000 in
set_option maxHeartbeats 40000000 in
theorem sw_8 (w : World) (base sb eb : Nat) (s : Sn) (X : En) (lsn ui : Int) (AL : Option Addr) (cL : Nat) (AD : Option Addr) (cD : Nat) (AO : Option Addr) (cO nl nd no : Nat) (AN : Option Addr) (nn cN : Nat) (AM : Option Addr) (nm cM : Nat) (EL : Option Addr) (el cEL : Nat) (ED : Option Addr) (ed cED : Nat) (EO : Option Addr) (eo cEO : Nat) (hP : SwPre w base sb eb s X AL cL AD cD AO cO nl nd no AN nn cN AM nm cM EL el cEL ED ed cED EO eo cEO) (hui : ui = idxI (idxO s.O X.E.u)) (hk : X.E.kind = 8)
    (u0 u1 u5 u6 u8 u9 u10 u11 u12 u13 u14 u15 u16 u17 u18 u20 u21 u22 u23 u24 u25 u26 u27 u28 u29 u30 u31 u32 u33 u34 u35 u36 u37 u38 u39 u40 u41 u42 u43 u44 u45 u46 u47 u48 u49 u50 u51 u52 u53 u54 u55 u56 u57 u58 u59 u60 u61 u62 u63 u64 u65 u66 u67 u68 u69 u70 u71 u72 u73 u74 u75 u76 u77 u78 u79 u80 u81 u82 u83 u84 u85 u86 u87 u88 u89 u90 u91 u92 u93 u94 u95 u96 u97 u98 u99 u100 u101 u102 u103 u104 u105 u106 u107 u108 u109 u110 u111 u112 u113 u114 u115 u116 u117 u118 u119 u120 u121 u122 u123 u124 u125 : Value) (KK : Act → World → Prop) (Q : Exit → Act → World → Prop)
    (hKK : ∀ (v8 v9 v20 v21 v22 v23 v24 v25 v26 v27 v28 v29 v30 v31 v32 v33 v34 v35 v36 v37 v38 v39 v40 v41 v42 v43 v44 v45 v46 v47 v48 v49 v50 v51 v52 v53 v54 v55 v56 v57 v58 v59 v60 v61 v62 v63 v64 v65 v66 v67 v68 v69 v70 v71 v72 v73 v74 v75 v76 v77 v78 v79 v80 v81 v82 v83 v84 v85 v86 v87 v88 v89 v90 v91 v92 v93 v94 v95 v96 v97 v98 v99 v100 v101 v102 v103 v104 v105 v106 v107 v108 v109 v110 v111 v112 v113 : Value) (wx : World), SwPost w base sb (swN s X lsn) wx → KK ⟨(u0 :: u1 :: Value.int .i64 lsn :: Value.pointer (some ⟨sb, 0, none⟩) :: Value.pointer (some ⟨eb, 0, none⟩) :: u5 :: u6 :: Value.int .i64 ui :: v8 :: v9 :: u10 :: u11 :: u12 :: u13 :: u14 :: u15 :: u16 :: u17 :: u18 :: Value.int .i64 8 :: v20 :: v21 :: v22 :: v23 :: v24 :: v25 :: v26 :: v27 :: v28 :: v29 :: v30 :: v31 :: v32 :: v33 :: v34 :: v35 :: v36 :: v37 :: v38 :: v39 :: v40 :: v41 :: v42 :: v43 :: v44 :: v45 :: v46 :: v47 :: v48 :: v49 :: v50 :: v51 :: v52 :: v53 :: v54 :: v55 :: v56 :: v57 :: v58 :: v59 :: v60 :: v61 :: v62 :: v63 :: v64 :: v65 :: v66 :: v67 :: v68 :: v69 :: v70 :: v71 :: v72 :: v73 :: v74 :: v75 :: v76 :: v77 :: v78 :: v79 :: v80 :: v81 :: v82 :: v83 :: v84 :: v85 :: v86 :: v87 :: v88 :: v89 :: v90 :: v91 :: v92 :: v93 :: v94 :: v95 :: v96 :: v97 :: v98 :: v99 :: v100 :: v101 :: v102 :: v103 :: v104 :: v105 :: v106 :: v107 :: v108 :: v109 :: v110 :: v111 :: v112 :: v113 :: u114 :: u115 :: u116 :: u117 :: u118 :: u119 :: u120 :: u121 :: u122 :: u123 :: u124 :: u125 :: []).toArray, []⟩ wx) :
    Code.wp Try.prog (blockAt Try.f15 0) (Exit.then KK Q) ⟨(u0 :: u1 :: Value.int .i64 lsn :: Value.pointer (some ⟨sb, 0, none⟩) :: Value.pointer (some ⟨eb, 0, none⟩) :: u5 :: u6 :: Value.int .i64 ui :: u8 :: u9 :: u10 :: u11 :: u12 :: u13 :: u14 :: u15 :: u16 :: u17 :: u18 :: Value.int .i64 8 :: u20 :: u21 :: u22 :: u23 :: u24 :: u25 :: u26 :: u27 :: u28 :: u29 :: u30 :: u31 :: u32 :: u33 :: u34 :: u35 :: u36 :: u37 :: u38 :: u39 :: u40 :: u41 :: u42 :: u43 :: u44 :: u45 :: u46 :: u47 :: u48 :: u49 :: u50 :: u51 :: u52 :: u53 :: u54 :: u55 :: u56 :: u57 :: u58 :: u59 :: u60 :: u61 :: u62 :: u63 :: u64 :: u65 :: u66 :: u67 :: u68 :: u69 :: u70 :: u71 :: u72 :: u73 :: u74 :: u75 :: u76 :: u77 :: u78 :: u79 :: u80 :: u81 :: u82 :: u83 :: u84 :: u85 :: u86 :: u87 :: u88 :: u89 :: u90 :: u91 :: u92 :: u93 :: u94 :: u95 :: u96 :: u97 :: u98 :: u99 :: u100 :: u101 :: u102 :: u103 :: u104 :: u105 :: u106 :: u107 :: u108 :: u109 :: u110 :: u111 :: u112 :: u113 :: u114 :: u115 :: u116 :: u117 :: u118 :: u119 :: u120 :: u121 :: u122 :: u123 :: u124 :: u125 :: []).toArray, []⟩ w := by
  have HP := hide hP
  have HU := hide hui
  have B0 := hide hP.hB
  have E0 := hide hP.he
  have S0 := hide hP.hs
  have NL := hide hP.nl
  have ND := hide hP.nd
  have NO := hide hP.no
  clear hP hui
  obtain ⟨su, hsu⟩ : ∃ su, su = s.u := ⟨_, rfl⟩
  obtain ⟨sh, hsh⟩ : ∃ sh, sh = s.h := ⟨_, rfl⟩
  have B0 : Hid (Blk w sb 37 #[.slice AL nl cL, .slice AD nd cD, .slice AO no cO, .int .i64 su, .int .i64 sh]) := by rw [hsu, hsh]; exact B0.out
  have HSU := hide hsu
  have HSH := hide hsh
  clear hsu hsh
  have HK := hide hk
  clear hk
  obtain ⟨et, het⟩ : ∃ et, et = X.E.t := ⟨_, rfl⟩
  obtain ⟨eu, heu⟩ : ∃ eu, eu = X.E.u := ⟨_, rfl⟩
  obtain ⟨eh, heh⟩ : ∃ eh, eh = X.E.h := ⟨_, rfl⟩
  obtain ⟨ep, hep⟩ : ∃ ep, ep = X.E.p := ⟨_, rfl⟩
  obtain ⟨en, hen⟩ : ∃ en, en = X.E.nx := ⟨_, rfl⟩
  obtain ⟨e6, he6⟩ : ∃ e6, e6 = X.E.a0 := ⟨_, rfl⟩
  obtain ⟨e7, he7⟩ : ∃ e7, e7 = X.E.a1 := ⟨_, rfl⟩
  obtain ⟨e8, he8⟩ : ∃ e8, e8 = X.E.b0 := ⟨_, rfl⟩
  obtain ⟨e9, he9⟩ : ∃ e9, e9 = X.E.b1 := ⟨_, rfl⟩
  have E0 : Hid (Blk w eb 35 #[.int .i64 (8), .int .i64 et, .int .i64 eu, .int .i64 eh, .int .i64 ep, .int .i64 en, .int .i64 e6, .int .i64 e7, .int .i64 e8, .int .i64 e9, .slice none 0 0, .slice AN nn cN, .slice AM nm cM, .slice EL el cEL, .slice ED ed cED, .slice EO eo cEO]) := by rw [het, heu, heh, hep, hen, he6, he7, he8, he9, ← HK.out]; exact E0.out
  have HET := hide het
  have HEU := hide heu
  have HEH := hide heh
  have HEN := hide hen
  clear het heu heh hep hen he6 he7 he8 he9
  obtain ⟨y0, y1, y2, y3, y4, y5, y6, y7, y8, y9, y10, y11, y12, y13, y14, y15⟩ := E0.out.cells16
  obtain ⟨b0, b1, b2, b3, b4⟩ := B0.out.cells5
  have HSW := hide (show swN s X lsn = { s with O := doneN s.O eu } by
    unfold swN
    rw [if_neg (by rw [HK.out]; decide), if_neg (by rw [HK.out]; decide), if_neg (by rw [HK.out]; decide), if_neg (by rw [HK.out]; decide), if_pos (by rw [HK.out]), HEU.out])
  rw [HSW.out] at hKK
  obtain ⟨r, hr⟩ : ∃ r, idxO s.O X.E.u = r := ⟨_, rfl⟩
  rw [hr] at HU
  rw [← HEU.out] at hr
  have HR := hide hr
  clear hr
  cases r with
  | none =>
    have HE := hide (show doneN s.O eu = s.O by unfold doneN; rw [HR.out])
    rw [HE.out] at hKK
    obtain rfl : ui = -1 := HU.out
    conv => arg 2; whnf
    go_wp2_with (fail)
    exact ⟨AL, cL, AD, cD, AO, cO, by rw [← NL.out, ← ND.out, ← NO.out, ← HSU.out, ← HSH.out]; exact B0.out, S0.out.as rfl rfl rfl, Tch.refl _ _ _⟩
  | some i =>
    obtain rfl : ui = (i : Int) := HU.out
    obtain ⟨x, hx, _⟩ := idxO_at s.O eu i HR.out
    have hil : i < no := by have := (List.getElem?_eq_some_iff.1 hx).1; have := NO.out; omega
    obtain ⟨m, rfl⟩ : ∃ m, no = m + 1 := ⟨no - 1, by omega⟩
    have him : i ≤ m := by omega
    have hm9 : m ≤ 900 := by have := NO.out; have := HP.out.ko; omega
    have HE := hide (show doneN s.O eu = s.O.take i ++ s.O.drop (i + 1) by unfold doneN; rw [HR.out])
    rw [HE.out] at hKK
    obtain ⟨os, ho, hos⟩ := S0.out.o
    obtain ⟨g, rfl⟩ : ∃ g, AO = some ⟨g, 0, none⟩ := by
      obtain ⟨g, cp, hv', _, _⟩ := ho.form (by rw [← NO.out]; omega)
      injection hv' with hv1 _ _
      exact ⟨g, hv1⟩
    have HO := hide ho
    have HOS := hide hos
    have HIL := hide (show i < s.O.length from (List.getElem?_eq_some_iff.1 hx).1)
    clear ho hos hx hil
    have hbs : base ≤ w.heap.size := by have h1 := B0.out.lt; have := HP.out.hb; omega
    conv => arg 2; whnf
    go_wp2_with (go_at_call 26; refine (delete_oneO w base g m cO i os (by rw [NO.out]; exact HO.out) HOS.out.one hbs (by omega) him).mono ?_; rintro e w3 ⟨rfl, ho3, ht3⟩; have O3 := hide ho3; have T3 := hide ht3; have B3 := hide (T3.out.blk B0.out (fun e => own_blk_ne HO.out B0.out (by decide) (by rw [e]; rfl))); have q1 : w3.cell? ⟨sb, 2, none⟩ = some (.slice (some ⟨g, 0, none⟩) (m + 1) cO) := (B3.out.cell 2).trans rfl; have q2 := B3.out.frozen 2; clear ho3 ht3)
    have LN := hide (show m = (s.O.take i ++ s.O.drop (i + 1)).length by rw [List.length_append, List.length_take, List.length_drop]; have := NO.out; have := HIL.out; omega)
    have S3 := hide (S0.out.insO (sb := sb) (O' := s.O.take i ++ s.O.drop (i + 1)) (A' := some ⟨g, 0, none⟩) (c' := cO) (w1 := w3) HO.out (T3.out.more (fun k _ e => by rw [e]; rfl)) (by rw [← LN.out]; exact O3.out) (fun hT => (hT.ous HOS.out).del i HIL.out))
    have S4 := hide (S3.out.1.box B3.out HP.out.hb 2 (.slice (some ⟨g, 0, none⟩) m cO))
    exact ⟨AL, cL, AD, cD, some ⟨g, 0, none⟩, cO, by rw [← NL.out, ← ND.out, ← LN.out, ← HSU.out, ← HSH.out]; exact S4.out.2.2, S4.out.1, S3.out.2.trans S4.out.2.1⟩
set_option maxRecDepth 1000000 in
set_option maxHeartbeats 40000000 in
theorem sw_0 (w : World) (base sb eb : Nat) (s : Sn) (X : En) (lsn ui : Int) (AL : Option Addr) (cL : Nat) (AD : Option Addr) (cD : Nat) (AO : Option Addr) (cO nl nd no : Nat) (AN : Option Addr) (nn cN : Nat) (AM : Option Addr) (nm cM : Nat) (EL : Option Addr) (el cEL : Nat) (ED : Option Addr) (ed cED : Nat) (EO : Option Addr) (eo cEO : Nat) (hP : SwPre w base sb eb s X AL cL AD cD AO cO nl nd no AN nn cN AM nm cM EL el cEL ED ed cED EO eo cEO) (hui : ui = idxI (idxO s.O X.E.u)) (kd : Int) (hk : X.E.kind = kd) (h1 : kd ≠ 1) (h2 : kd ≠ 2) (h3 : kd ≠ 3) (h4 : kd ≠ 4) (h5 : kd ≠ 5) (h6 : kd ≠ 6) (h7 : kd ≠ 7) (h8 : kd ≠ 8) (h9 : kd ≠ 9) (h10 : kd ≠ 10)
    (u0 u1 u5 u6 u8 u9 u10 u11 u12 u13 u14 u15 u16 u17 u18 u20 u21 u22 u23 u24 u25 u26 u27 u28 u29 u30 u31 u32 u33 u34 u35 u36 u37 u38 u39 u40 u41 u42 u43 u44 u45 u46 u47 u48 u49 u50 u51 u52 u53 u54 u55 u56 u57 u58 u59 u60 u61 u62 u63 u64 u65 u66 u67 u68 u69 u70 u71 u72 u73 u74 u75 u76 u77 u78 u79 u80 u81 u82 u83 u84 u85 u86 u87 u88 u89 u90 u91 u92 u93 u94 u95 u96 u97 u98 u99 u100 u101 u102 u103 u104 u105 u106 u107 u108 u109 u110 u111 u112 u113 u114 u115 u116 u117 u118 u119 u120 u121 u122 u123 u124 u125 : Value) (KK : Act → World → Prop) (Q : Exit → Act → World → Prop)
    (hKK : ∀ (v8 v9 v20 v21 v22 v23 v24 v25 v26 v27 v28 v29 v30 v31 v32 v33 v34 v35 v36 v37 v38 v39 v40 v41 v42 v43 v44 v45 v46 v47 v48 v49 v50 v51 v52 v53 v54 v55 v56 v57 v58 v59 v60 v61 v62 v63 v64 v65 v66 v67 v68 v69 v70 v71 v72 v73 v74 v75 v76 v77 v78 v79 v80 v81 v82 v83 v84 v85 v86 v87 v88 v89 v90 v91 v92 v93 v94 v95 v96 v97 v98 v99 v100 v101 v102 v103 v104 v105 v106 v107 v108 v109 v110 v111 v112 v113 : Value) (wx : World), SwPost w base sb (swN s X lsn) wx → KK ⟨(u0 :: u1 :: Value.int .i64 lsn :: Value.pointer (some ⟨sb, 0, none⟩) :: Value.pointer (some ⟨eb, 0, none⟩) :: u5 :: u6 :: Value.int .i64 ui :: v8 :: v9 :: u10 :: u11 :: u12 :: u13 :: u14 :: u15 :: u16 :: u17 :: u18 :: Value.int .i64 kd :: v20 :: v21 :: v22 :: v23 :: v24 :: v25 :: v26 :: v27 :: v28 :: v29 :: v30 :: v31 :: v32 :: v33 :: v34 :: v35 :: v36 :: v37 :: v38 :: v39 :: v40 :: v41 :: v42 :: v43 :: v44 :: v45 :: v46 :: v47 :: v48 :: v49 :: v50 :: v51 :: v52 :: v53 :: v54 :: v55 :: v56 :: v57 :: v58 :: v59 :: v60 :: v61 :: v62 :: v63 :: v64 :: v65 :: v66 :: v67 :: v68 :: v69 :: v70 :: v71 :: v72 :: v73 :: v74 :: v75 :: v76 :: v77 :: v78 :: v79 :: v80 :: v81 :: v82 :: v83 :: v84 :: v85 :: v86 :: v87 :: v88 :: v89 :: v90 :: v91 :: v92 :: v93 :: v94 :: v95 :: v96 :: v97 :: v98 :: v99 :: v100 :: v101 :: v102 :: v103 :: v104 :: v105 :: v106 :: v107 :: v108 :: v109 :: v110 :: v111 :: v112 :: v113 :: u114 :: u115 :: u116 :: u117 :: u118 :: u119 :: u120 :: u121 :: u122 :: u123 :: u124 :: u125 :: []).toArray, []⟩ wx) :
    Code.wp Try.prog (blockAt Try.f15 0) (Exit.then KK Q) ⟨(u0 :: u1 :: Value.int .i64 lsn :: Value.pointer (some ⟨sb, 0, none⟩) :: Value.pointer (some ⟨eb, 0, none⟩) :: u5 :: u6 :: Value.int .i64 ui :: u8 :: u9 :: u10 :: u11 :: u12 :: u13 :: u14 :: u15 :: u16 :: u17 :: u18 :: Value.int .i64 kd :: u20 :: u21 :: u22 :: u23 :: u24 :: u25 :: u26 :: u27 :: u28 :: u29 :: u30 :: u31 :: u32 :: u33 :: u34 :: u35 :: u36 :: u37 :: u38 :: u39 :: u40 :: u41 :: u42 :: u43 :: u44 :: u45 :: u46 :: u47 :: u48 :: u49 :: u50 :: u51 :: u52 :: u53 :: u54 :: u55 :: u56 :: u57 :: u58 :: u59 :: u60 :: u61 :: u62 :: u63 :: u64 :: u65 :: u66 :: u67 :: u68 :: u69 :: u70 :: u71 :: u72 :: u73 :: u74 :: u75 :: u76 :: u77 :: u78 :: u79 :: u80 :: u81 :: u82 :: u83 :: u84 :: u85 :: u86 :: u87 :: u88 :: u89 :: u90 :: u91 :: u92 :: u93 :: u94 :: u95 :: u96 :: u97 :: u98 :: u99 :: u100 :: u101 :: u102 :: u103 :: u104 :: u105 :: u106 :: u107 :: u108 :: u109 :: u110 :: u111 :: u112 :: u113 :: u114 :: u115 :: u116 :: u117 :: u118 :: u119 :: u120 :: u121 :: u122 :: u123 :: u124 :: u125 :: []).toArray, []⟩ w := by
  have HP := hide hP
  have HU := hide hui
  have B0 := hide hP.hB
  have E0 := hide hP.he
  have S0 := hide hP.hs
  have NL := hide hP.nl
  have ND := hide hP.nd
  have NO := hide hP.no
  clear hP hui
  obtain ⟨su, hsu⟩ : ∃ su, su = s.u := ⟨_, rfl⟩
  obtain ⟨sh, hsh⟩ : ∃ sh, sh = s.h := ⟨_, rfl⟩
  have B0 : Hid (Blk w sb 37 #[.slice AL nl cL, .slice AD nd cD, .slice AO no cO, .int .i64 su, .int .i64 sh]) := by rw [hsu, hsh]; exact B0.out
  have HSU := hide hsu
  have HSH := hide hsh
  clear hsu hsh
  have HSW := hide (show swN s X lsn = s by
    unfold swN
    rw [if_neg (by rw [hk]; omega), if_neg (by rw [hk]; omega), if_neg (by rw [hk]; omega), if_neg (by rw [hk]; omega), if_neg (by rw [hk]; omega), if_neg (by rw [hk]; omega), if_neg (by rw [hk]; omega)])
  rw [HSW.out] at hKK
  have d1 : (kd == 1) = false := by simpa using h1
  have d2 : (kd == 2) = false := by simpa using h2
  have d3 : (kd == 3) = false := by simpa using h3
  have d4 : (kd == 4) = false := by simpa using h4
  have d5 : (kd == 5) = false := by simpa using h5
  have d6 : (kd == 6) = false := by simpa using h6
  have d7 : (kd == 7) = false := by simpa using h7
  have d8 : (kd == 8) = false := by simpa using h8
  have d9 : (kd == 9) = false := by simpa using h9
  have d10 : (kd == 10) = false := by simpa using h10
  clear hk h1 h2 h3 h4 h5 h6 h7 h8 h9 h10
  conv => arg 2; whnf
  go_wp2_with (fail)
  exact ⟨AL, cL, AD, cD, AO, cO, by rw [← NL.out, ← ND.out, ← NO.out, ← HSU.out, ← HSH.out]; exact B0.out, S0.out.as rfl rfl rfl, Tch.refl _ _ _⟩
set_option maxRecDepth 1000000 in
set_option maxHeartbeats 40000000 in
theorem sw_6 (w : World) (base sb eb : Nat) (s : Sn) (X : En) (lsn ui : Int) (AL : Option Addr) (cL : Nat) (AD : Option Addr) (cD : Nat) (AO : Option Addr) (cO nl nd no : Nat) (AN : Option Addr) (nn cN : Nat) (AM : Option Addr) (nm cM : Nat) (EL : Option Addr) (el cEL : Nat) (ED : Option Addr) (ed cED : Nat) (EO : Option Addr) (eo cEO : Nat) (hP : SwPre w base sb eb s X AL cL AD cD AO cO nl nd no AN nn cN AM nm cM EL el cEL ED ed cED EO eo cEO) (hui : ui = idxI (idxO s.O X.E.u)) (hk : X.E.kind = 6)
    (u0 u1 u5 u6 u8 u9 u10 u11 u12 u13 u14 u15 u16 u17 u18 u20 u21 u22 u23 u24 u25 u26 u27 u28 u29 u30 u31 u32 u33 u34 u35 u36 u37 u38 u39 u40 u41 u42 u43 u44 u45 u46 u47 u48 u49 u50 u51 u52 u53 u54 u55 u56 u57 u58 u59 u60 u61 u62 u63 u64 u65 u66 u67 u68 u69 u70 u71 u72 u73 u74 u75 u76 u77 u78 u79 u80 u81 u82 u83 u84 u85 u86 u87 u88 u89 u90 u91 u92 u93 u94 u95 u96 u97 u98 u99 u100 u101 u102 u103 u104 u105 u106 u107 u108 u109 u110 u111 u112 u113 u114 u115 u116 u117 u118 u119 u120 u121 u122 u123 u124 u125 : Value) (KK : Act → World → Prop) (Q : Exit → Act → World → Prop)
    (hKK : ∀ (v8 v9 v20 v21 v22 v23 v24 v25 v26 v27 v28 v29 v30 v31 v32 v33 v34 v35 v36 v37 v38 v39 v40 v41 v42 v43 v44 v45 v46 v47 v48 v49 v50 v51 v52 v53 v54 v55 v56 v57 v58 v59 v60 v61 v62 v63 v64 v65 v66 v67 v68 v69 v70 v71 v72 v73 v74 v75 v76 v77 v78 v79 v80 v81 v82 v83 v84 v85 v86 v87 v88 v89 v90 v91 v92 v93 v94 v95 v96 v97 v98 v99 v100 v101 v102 v103 v104 v105 v106 v107 v108 v109 v110 v111 v112 v113 : Value) (wx : World), SwPost w base sb (swN s X lsn) wx → KK ⟨(u0 :: u1 :: Value.int .i64 lsn :: Value.pointer (some ⟨sb, 0, none⟩) :: Value.pointer (some ⟨eb, 0, none⟩) :: u5 :: u6 :: Value.int .i64 ui :: v8 :: v9 :: u10 :: u11 :: u12 :: u13 :: u14 :: u15 :: u16 :: u17 :: u18 :: Value.int .i64 6 :: v20 :: v21 :: v22 :: v23 :: v24 :: v25 :: v26 :: v27 :: v28 :: v29 :: v30 :: v31 :: v32 :: v33 :: v34 :: v35 :: v36 :: v37 :: v38 :: v39 :: v40 :: v41 :: v42 :: v43 :: v44 :: v45 :: v46 :: v47 :: v48 :: v49 :: v50 :: v51 :: v52 :: v53 :: v54 :: v55 :: v56 :: v57 :: v58 :: v59 :: v60 :: v61 :: v62 :: v63 :: v64 :: v65 :: v66 :: v67 :: v68 :: v69 :: v70 :: v71 :: v72 :: v73 :: v74 :: v75 :: v76 :: v77 :: v78 :: v79 :: v80 :: v81 :: v82 :: v83 :: v84 :: v85 :: v86 :: v87 :: v88 :: v89 :: v90 :: v91 :: v92 :: v93 :: v94 :: v95 :: v96 :: v97 :: v98 :: v99 :: v100 :: v101 :: v102 :: v103 :: v104 :: v105 :: v106 :: v107 :: v108 :: v109 :: v110 :: v111 :: v112 :: v113 :: u114 :: u115 :: u116 :: u117 :: u118 :: u119 :: u120 :: u121 :: u122 :: u123 :: u124 :: u125 :: []).toArray, []⟩ wx) :
    Code.wp Try.prog (blockAt Try.f15 0) (Exit.then KK Q) ⟨(u0 :: u1 :: Value.int .i64 lsn :: Value.pointer (some ⟨sb, 0, none⟩) :: Value.pointer (some ⟨eb, 0, none⟩) :: u5 :: u6 :: Value.int .i64 ui :: u8 :: u9 :: u10 :: u11 :: u12 :: u13 :: u14 :: u15 :: u16 :: u17 :: u18 :: Value.int .i64 6 :: u20 :: u21 :: u22 :: u23 :: u24 :: u25 :: u26 :: u27 :: u28 :: u29 :: u30 :: u31 :: u32 :: u33 :: u34 :: u35 :: u36 :: u37 :: u38 :: u39 :: u40 :: u41 :: u42 :: u43 :: u44 :: u45 :: u46 :: u47 :: u48 :: u49 :: u50 :: u51 :: u52 :: u53 :: u54 :: u55 :: u56 :: u57 :: u58 :: u59 :: u60 :: u61 :: u62 :: u63 :: u64 :: u65 :: u66 :: u67 :: u68 :: u69 :: u70 :: u71 :: u72 :: u73 :: u74 :: u75 :: u76 :: u77 :: u78 :: u79 :: u80 :: u81 :: u82 :: u83 :: u84 :: u85 :: u86 :: u87 :: u88 :: u89 :: u90 :: u91 :: u92 :: u93 :: u94 :: u95 :: u96 :: u97 :: u98 :: u99 :: u100 :: u101 :: u102 :: u103 :: u104 :: u105 :: u106 :: u107 :: u108 :: u109 :: u110 :: u111 :: u112 :: u113 :: u114 :: u115 :: u116 :: u117 :: u118 :: u119 :: u120 :: u121 :: u122 :: u123 :: u124 :: u125 :: []).toArray, []⟩ w := by
  have HP := hide hP
  have HU := hide hui
  have B0 := hide hP.hB
  have E0 := hide hP.he
  have S0 := hide hP.hs
  have NL := hide hP.nl
  have ND := hide hP.nd
  have NO := hide hP.no
  clear hP hui
  obtain ⟨su, hsu⟩ : ∃ su, su = s.u := ⟨_, rfl⟩
  obtain ⟨sh, hsh⟩ : ∃ sh, sh = s.h := ⟨_, rfl⟩
  have B0 : Hid (Blk w sb 37 #[.slice AL nl cL, .slice AD nd cD, .slice AO no cO, .int .i64 su, .int .i64 sh]) := by rw [hsu, hsh]; exact B0.out
  have HSU := hide hsu
  have HSH := hide hsh
  clear hsu hsh
  have HK := hide hk
  clear hk
  obtain ⟨et, het⟩ : ∃ et, et = X.E.t := ⟨_, rfl⟩
  obtain ⟨eu, heu⟩ : ∃ eu, eu = X.E.u := ⟨_, rfl⟩
  obtain ⟨eh, heh⟩ : ∃ eh, eh = X.E.h := ⟨_, rfl⟩
  obtain ⟨ep, hep⟩ : ∃ ep, ep = X.E.p := ⟨_, rfl⟩
  obtain ⟨en, hen⟩ : ∃ en, en = X.E.nx := ⟨_, rfl⟩
  obtain ⟨e6, he6⟩ : ∃ e6, e6 = X.E.a0 := ⟨_, rfl⟩
  obtain ⟨e7, he7⟩ : ∃ e7, e7 = X.E.a1 := ⟨_, rfl⟩
  obtain ⟨e8, he8⟩ : ∃ e8, e8 = X.E.b0 := ⟨_, rfl⟩
  obtain ⟨e9, he9⟩ : ∃ e9, e9 = X.E.b1 := ⟨_, rfl⟩
  have E0 : Hid (Blk w eb 35 #[.int .i64 (6), .int .i64 et, .int .i64 eu, .int .i64 eh, .int .i64 ep, .int .i64 en, .int .i64 e6, .int .i64 e7, .int .i64 e8, .int .i64 e9, .slice none 0 0, .slice AN nn cN, .slice AM nm cM, .slice EL el cEL, .slice ED ed cED, .slice EO eo cEO]) := by rw [het, heu, heh, hep, hen, he6, he7, he8, he9, ← HK.out]; exact E0.out
  have HET := hide het
  have HEU := hide heu
  have HEH := hide heh
  have HEN := hide hen
  clear het heu heh hep hen he6 he7 he8 he9
  obtain ⟨y0, y1, y2, y3, y4, y5, y6, y7, y8, y9, y10, y11, y12, y13, y14, y15⟩ := E0.out.cells16
  obtain ⟨b0, b1, b2, b3, b4⟩ := B0.out.cells5
  have HSW := hide (show swN s X lsn = { s with O := s.O ++ [⟨eu, X.E.mv, 0⟩], u := max s.u eu } by
    unfold swN
    rw [if_neg (by rw [HK.out]; decide), if_neg (by rw [HK.out]; decide), if_pos (by rw [HK.out]), HEU.out])
  rw [HSW.out] at hKK
  obtain ⟨os, ho, hos⟩ := S0.out.o
  have HO := hide ho
  have HOS := hide hos
  have NM := hide HP.out.nm
  have HRM := hide (show w.ownsRow 0 54 4 (.slice AM nm cM) nm (mvs X.E.mv) by rw [NM.out]; exact HP.out.hx.m)
  have hnm : nm ≤ 1000 := by have := NM.out; have := HP.out.jv; omega
  have hno : no ≤ 900 := by have := NO.out; have := HP.out.ko; omega
  obtain ⟨i0, z0, hi0, hz0, hzs0, hs0, hb0⟩ := info_parts2 Try.info56'
  clear ho hos
  conv => arg 2; whnf
  go_upto_region 14 with (fail)
  refine wp_region_noPanic ?_
  refine wp_region_F (S := (fun w' => w'.cell? ⟨sb, 2, none⟩ = some (.slice AO no cO) ∧ w'.cell? ⟨eb, 2, none⟩ = some (.int .i64 eu) ∧ w'.cell? ⟨eb, 12, none⟩ = some (.slice AM nm cM))) 11 (by kernel_rfl) (by kernel_rfl) ⟨b2, y2, y12⟩ (fun hHeld => ?_)
  refine GoF.take 0 (some 48) (v := ?_) rfl rfl (by kernel_rfl) (by kernel_rfl) (by kernel_rfl) (fun _ _ _ h => h) (Or.inl ⟨by rfl, ?_⟩) (by assumption) ?_
  rotate_left
  · intro w' hSw
    try dsimp only at hSw
    go_simp
    try with_reducible rfl
  try simp only [Act.put, List.setIfInBounds_toArray, List.set_cons_zero, List.set_cons_succ]
  refine GoF.take 1 (some 49) (v := ?_) rfl rfl (by kernel_rfl) (by kernel_rfl) (by kernel_rfl) (fun _ _ _ h => h) (Or.inl ⟨by rfl, ?_⟩) (by assumption) ?_
  rotate_left
  · intro w' hSw
    try dsimp only at hSw
    go_simp
    try with_reducible rfl
  try simp only [Act.put, List.setIfInBounds_toArray, List.set_cons_zero, List.set_cons_succ]
  refine GoF.take 2 (some 50) (v := ?_) rfl rfl (by kernel_rfl) (by kernel_rfl) (by kernel_rfl) (fun _ _ _ h => h) (Or.inl ⟨by rfl, ?_⟩) (by assumption) ?_
  rotate_left
  · intro w' hSw
    try dsimp only at hSw
    go_simp
    try with_reducible rfl
  try simp only [Act.put, List.setIfInBounds_toArray, List.set_cons_zero, List.set_cons_succ]
  refine GoF.take 3 (some 51) (v := ?_) rfl rfl (by kernel_rfl) (by kernel_rfl) (by kernel_rfl) (fun _ _ _ h => h) (Or.inl ⟨by rfl, ?_⟩) (by assumption) ?_
  rotate_left
  · intro w' hSw
    try dsimp only at hSw
    go_simp
    try with_reducible rfl
  try simp only [Act.put, List.setIfInBounds_toArray, List.set_cons_zero, List.set_cons_succ]
  refine GoF.take 4 (some 52) (v := ?_) rfl rfl (by kernel_rfl) (by kernel_rfl) (by kernel_rfl) (fun _ _ _ h => h) (Or.inl ⟨by rfl, ?_⟩) (by assumption) ?_
  rotate_left
  · intro w' hSw
    try dsimp only at hSw
    go_simp
    try with_reducible rfl
  try simp only [Act.put, List.setIfInBounds_toArray, List.set_cons_zero, List.set_cons_succ]
  refine GoF.take 5 (some 53) (v := ?_) rfl rfl (by kernel_rfl) (by kernel_rfl) (by kernel_rfl) (fun _ _ _ h => h) (Or.inl ⟨by rfl, ?_⟩) (by assumption) ?_
  rotate_left
  · intro w' hSw
    try dsimp only at hSw
    go_simp
    try with_reducible rfl
  try simp only [Act.put, List.setIfInBounds_toArray, List.set_cons_zero, List.set_cons_succ]
  refine GoF.each (rs := [6]) (by kernel_rfl) (by kernel_rfl) (by kernel_rfl) ?_
  refine EachF.cons (i := 6) rfl (fun K hK => ?_) EachF.nil
  go_simp
  refine (clone_moves AM cM nm (mvs X.E.mv) w.drew (no_cap HRM.out) (own_reads (show w.drew.ownsRow 0 54 4 (.slice AM nm cM) nm (mvs X.E.mv) from HRM.out)) (mvs_one X.E.mv) (by omega)).mono ?_
  rintro e w6 ⟨A6, c6, rfl, ho6, he6⟩
  have O6 := hide ho6
  have X6 := hide (show Ext w w6 from (Ext.drew (Ext.refl w)).trans he6)
  have B6 := hide (X6.out.blk B0.out)
  have E6 := hide (X6.out.blk E0.out)
  refine hK.out _ _ ⟨(B6.out.cell 2).trans rfl, (E6.out.cell 2).trans rfl, (E6.out.cell 12).trans rfl⟩ (fun hHeld => ?_)
  clear hK K ho6 he6
  refine GoF.take 7 (some 55) (v := ?_) rfl rfl (by kernel_rfl) (by kernel_rfl) (by kernel_rfl) (fun _ _ _ h => h) (Or.inl ⟨by rfl, ?_⟩) (by assumption) ?_
  rotate_left
  · intro w' hSw
    try dsimp only at hSw
    go_simp
    try with_reducible rfl
  try simp only [Act.put, List.setIfInBounds_toArray, List.set_cons_zero, List.set_cons_succ]
  refine GoF.each (rs := [8]) (by kernel_rfl) (by kernel_rfl) (by kernel_rfl) ?_
  refine EachF.cons (i := 8) rfl (fun K hK => ?_) EachF.nil
  go_simp
  obtain ⟨w7, hw7⟩ : ∃ w7, w7 = w6.alloc (.cells #[.int .i64 eu, .slice A6 nm c6, .int .i64 0] 56) := ⟨_, rfl⟩
  obtain ⟨vb, hvb⟩ : ∃ vb, vb = w6.heap.size := ⟨_, rfl⟩
  have V7 := hide (show Blk w7 vb 56 #[.int .i64 eu, .slice A6 nm c6, .int .i64 0] by rw [hw7, hvb]; exact Blk.new w6 56 _)
  have X67 := hide (show Ext w6 w7 by rw [hw7]; exact Ext.new w6 _)
  have X7 := hide (X6.out.trans X67.out)
  have B7 := hide (X67.out.blk B6.out)
  have E7 := hide (X67.out.blk E6.out)
  have O7 := hide (X67.out.own O6.out)
  rw [← hw7, ← hvb]
  clear hw7 hvb
  refine hK.out _ _ ⟨(B7.out.cell 2).trans rfl, (E7.out.cell 2).trans rfl, (E7.out.cell 12).trans rfl⟩ (fun hHeld => ?_)
  clear hK K
  refine GoF.each (rs := [9]) (by kernel_rfl) (by kernel_rfl) (by kernel_rfl) ?_
  refine EachF.cons (i := 9) rfl (fun K hK => ?_) EachF.nil
  have RO7 := hide (X7.out.own HO.out)
  have HR7 := hide (show Reads w7 w7.heap.size 3 (some ⟨vb, 0, none⟩) 1 [.int .i64 eu, .slice A6 nm c6, .int .i64 0] from reads_blk V7.out rfl)
  have HBS := hide (show base ≤ w7.heap.size by have h1 := B7.out.lt; have := HP.out.hb; omega)
  have H17 := hide (show ∀ u ∈ [Value.int .i64 eu, .slice A6 nm c6, .int .i64 0], u.oneCell' = true by intro u hu; simp only [List.mem_cons, List.not_mem_nil, or_false] at hu; rcases hu with rfl | rfl | rfl <;> rfl)
  refine step_append_any _ rfl (.tmp 49) (.tmp 56) 33 rfl base 56 i0 z0 3 40 Try.underlying33 hi0 hz0 hs0 hb0 hzs0 (by omega) (.slice AO no cO) no os (by rfl) (by rw [NO.out]; exact RO7.out) _ (some ⟨vb, 0, none⟩) 1 1 [.int .i64 eu, .slice A6 nm c6, .int .i64 0] (by rfl) HR7.out H17.out (by simp only [maxLen]; omega) (by omega) HBS.out ?_
  intro v9 w9 ho9 hg9 hat9
  obtain ⟨A9, c9, hv9, _⟩ := own_form ho9
  subst hv9
  have O9 := hide ho9
  have T9 := hide ((Touch.refl w7 (fun k => Value.ownBlock (.slice AO no cO) = some k)).grown hg9 (fun k hk _ => hk))
  have B9 := hide (T9.out.blk B7.out (by rw [NO.out]; exact own_blk_ne RO7.out B7.out (by decide)))
  have E9 := hide (T9.out.blk E7.out (by rw [NO.out]; exact own_blk_ne RO7.out E7.out (by decide)))
  have f9 := B9.out.frozen 2
  refine hK.out _ _ ⟨(B9.out.cell 2).trans rfl, (E9.out.cell 2).trans rfl, (E9.out.cell 12).trans rfl⟩ (fun hHeld => ?_)
  clear hK K ho9 hg9 hat9
  have h9 := hHeld.1
  change GoF _ _ _ _ _ _ _ _ (Act.put _ (some 57) _) _
  simp only [Act.put, List.setIfInBounds_toArray, List.set_cons_zero, List.set_cons_succ]
  refine GoF.take 10 (some 58) (v := ?_) rfl rfl (by kernel_rfl) (by kernel_rfl) (by kernel_rfl) (fun _ _ _ h => h) (Or.inl ⟨by rfl, ?_⟩) (by assumption) ?_
  rotate_left
  · intro w' hSw
    try dsimp only at hSw
    go_simp
    try with_reducible rfl
  try simp only [Act.put, List.setIfInBounds_toArray, List.set_cons_zero, List.set_cons_succ]
  refine GoF.last (by kernel_rfl) (by kernel_rfl) rfl (fun K hK => ?_)
  go_simp
  refine hK.out _ _ (NoPanic.normal ?_)
  clear hK K hHeld h9 f9
  have LN := hide (show no + 1 = (s.O ++ [(⟨eu, X.E.mv, 0⟩ : Ou)]).length by rw [List.length_append, NO.out]; rfl)
  have S9 := hide ((S0.out.ext X7.out).insO (sb := sb) (O' := s.O ++ [⟨eu, X.E.mv, 0⟩]) (A' := A9) (c' := c9) (w1 := w9) RO7.out (by rw [← NO.out]; exact T9.out) (by rw [← LN.out]; exact O9.out) (fun hT => by
    have h1 := (hT.ous (HOS.out.ext X7.out)).snoc (x := ⟨eu, X.E.mv, 0⟩) (A := A6) (c := c6) (hT.row (own_base (by rw [← NM.out]; exact O7.out) (Nat.zero_le _)) (by decide))
    rw [NM.out]
    exact h1))
  have S10 := hide (S9.out.1.box B9.out HP.out.hb 2 (.slice A9 (no + 1) c9))
  have E10 := hide (E9.out.far (p := ⟨sb, 2, none⟩) (Ne.symm (Blk.ne_ B9.out E9.out (by decide))) (.slice A9 (no + 1) c9))
  obtain ⟨wt, hwt⟩ : ∃ wt, wt = w9.setCell ⟨sb, 2, none⟩ (.slice A9 (no + 1) c9) := ⟨_, rfl⟩
  rw [← hwt] at S10 E10
  rw [← hwt]
  clear hwt
  have B10 := hide S10.out.2.2
  simp only [List.set_cons_zero, List.set_cons_succ, List.setIfInBounds_toArray] at B10
  clear y0 y1 y2 y3 y4 y5 y6 y7 y8 y9 y10 y11 y12 y13 y14 y15 b0 b1 b2 b3 b4
  have p3 : wt.cell? ⟨sb, 3, none⟩ = some (.int .i64 su) := (B10.out.cell 3).trans rfl
  have p2 : wt.cell? ⟨eb, 2, none⟩ = some (.int .i64 eu) := (E10.out.cell 2).trans rfl
  have fp := B10.out.frozen 3
  have S11 := hide (S10.out.1.box B10.out HP.out.hb 3 (.int .i64 (max su eu)))
  go_wp2_with (fail)
  exact ⟨AL, cL, AD, cD, A9, c9, by rw [← NL.out, ← ND.out, ← LN.out, ← HSU.out, ← HSH.out]; exact S11.out.2.2, S11.out.1.as rfl rfl rfl, ((Tch.ext X7.out).trans S9.out.2).trans (S10.out.2.1.trans S11.out.2.1)⟩
set_option maxRecDepth 1000000 in
set_option maxHeartbeats 40000000 in
theorem sw_9 (w : World) (base sb eb : Nat) (s : Sn) (X : En) (lsn ui : Int) (AL : Option Addr) (cL : Nat) (AD : Option Addr) (cD : Nat) (AO : Option Addr) (cO nl nd no : Nat) (AN : Option Addr) (nn cN : Nat) (AM : Option Addr) (nm cM : Nat) (EL : Option Addr) (el cEL : Nat) (ED : Option Addr) (ed cED : Nat) (EO : Option Addr) (eo cEO : Nat) (hP : SwPre w base sb eb s X AL cL AD cD AO cO nl nd no AN nn cN AM nm cM EL el cEL ED ed cED EO eo cEO) (hui : ui = idxI (idxO s.O X.E.u)) (hk : X.E.kind = 9)
    (u0 u1 u5 u6 u8 u9 u10 u11 u12 u13 u14 u15 u16 u17 u18 u20 u21 u22 u23 u24 u25 u26 u27 u28 u29 u30 u31 u32 u33 u34 u35 u36 u37 u38 u39 u40 u41 u42 u43 u44 u45 u46 u47 u48 u49 u50 u51 u52 u53 u54 u55 u56 u57 u58 u59 u60 u61 u62 u63 u64 u65 u66 u67 u68 u69 u70 u71 u72 u73 u74 u75 u76 u77 u78 u79 u80 u81 u82 u83 u84 u85 u86 u87 u88 u89 u90 u91 u92 u93 u94 u95 u96 u97 u98 u99 u100 u101 u102 u103 u104 u105 u106 u107 u108 u109 u110 u111 u112 u113 u114 u115 u116 u117 u118 u119 u120 u121 u122 u123 u124 u125 : Value) (KK : Act → World → Prop) (Q : Exit → Act → World → Prop)
    (hKK : ∀ (v8 v9 v20 v21 v22 v23 v24 v25 v26 v27 v28 v29 v30 v31 v32 v33 v34 v35 v36 v37 v38 v39 v40 v41 v42 v43 v44 v45 v46 v47 v48 v49 v50 v51 v52 v53 v54 v55 v56 v57 v58 v59 v60 v61 v62 v63 v64 v65 v66 v67 v68 v69 v70 v71 v72 v73 v74 v75 v76 v77 v78 v79 v80 v81 v82 v83 v84 v85 v86 v87 v88 v89 v90 v91 v92 v93 v94 v95 v96 v97 v98 v99 v100 v101 v102 v103 v104 v105 v106 v107 v108 v109 v110 v111 v112 v113 : Value) (wx : World), SwPost w base sb (swN s X lsn) wx → KK ⟨(u0 :: u1 :: Value.int .i64 lsn :: Value.pointer (some ⟨sb, 0, none⟩) :: Value.pointer (some ⟨eb, 0, none⟩) :: u5 :: u6 :: Value.int .i64 ui :: v8 :: v9 :: u10 :: u11 :: u12 :: u13 :: u14 :: u15 :: u16 :: u17 :: u18 :: Value.int .i64 9 :: v20 :: v21 :: v22 :: v23 :: v24 :: v25 :: v26 :: v27 :: v28 :: v29 :: v30 :: v31 :: v32 :: v33 :: v34 :: v35 :: v36 :: v37 :: v38 :: v39 :: v40 :: v41 :: v42 :: v43 :: v44 :: v45 :: v46 :: v47 :: v48 :: v49 :: v50 :: v51 :: v52 :: v53 :: v54 :: v55 :: v56 :: v57 :: v58 :: v59 :: v60 :: v61 :: v62 :: v63 :: v64 :: v65 :: v66 :: v67 :: v68 :: v69 :: v70 :: v71 :: v72 :: v73 :: v74 :: v75 :: v76 :: v77 :: v78 :: v79 :: v80 :: v81 :: v82 :: v83 :: v84 :: v85 :: v86 :: v87 :: v88 :: v89 :: v90 :: v91 :: v92 :: v93 :: v94 :: v95 :: v96 :: v97 :: v98 :: v99 :: v100 :: v101 :: v102 :: v103 :: v104 :: v105 :: v106 :: v107 :: v108 :: v109 :: v110 :: v111 :: v112 :: v113 :: u114 :: u115 :: u116 :: u117 :: u118 :: u119 :: u120 :: u121 :: u122 :: u123 :: u124 :: u125 :: []).toArray, []⟩ wx) :
    Code.wp Try.prog (blockAt Try.f15 0) (Exit.then KK Q) ⟨(u0 :: u1 :: Value.int .i64 lsn :: Value.pointer (some ⟨sb, 0, none⟩) :: Value.pointer (some ⟨eb, 0, none⟩) :: u5 :: u6 :: Value.int .i64 ui :: u8 :: u9 :: u10 :: u11 :: u12 :: u13 :: u14 :: u15 :: u16 :: u17 :: u18 :: Value.int .i64 9 :: u20 :: u21 :: u22 :: u23 :: u24 :: u25 :: u26 :: u27 :: u28 :: u29 :: u30 :: u31 :: u32 :: u33 :: u34 :: u35 :: u36 :: u37 :: u38 :: u39 :: u40 :: u41 :: u42 :: u43 :: u44 :: u45 :: u46 :: u47 :: u48 :: u49 :: u50 :: u51 :: u52 :: u53 :: u54 :: u55 :: u56 :: u57 :: u58 :: u59 :: u60 :: u61 :: u62 :: u63 :: u64 :: u65 :: u66 :: u67 :: u68 :: u69 :: u70 :: u71 :: u72 :: u73 :: u74 :: u75 :: u76 :: u77 :: u78 :: u79 :: u80 :: u81 :: u82 :: u83 :: u84 :: u85 :: u86 :: u87 :: u88 :: u89 :: u90 :: u91 :: u92 :: u93 :: u94 :: u95 :: u96 :: u97 :: u98 :: u99 :: u100 :: u101 :: u102 :: u103 :: u104 :: u105 :: u106 :: u107 :: u108 :: u109 :: u110 :: u111 :: u112 :: u113 :: u114 :: u115 :: u116 :: u117 :: u118 :: u119 :: u120 :: u121 :: u122 :: u123 :: u124 :: u125 :: []).toArray, []⟩ w := by
  have HP := hide hP
  have HU := hide hui
  have B0 := hide hP.hB
  have E0 := hide hP.he
  have S0 := hide hP.hs
  have NL := hide hP.nl
  have ND := hide hP.nd
  have NO := hide hP.no
  clear hP hui
  obtain ⟨su, hsu⟩ : ∃ su, su = s.u := ⟨_, rfl⟩
  obtain ⟨sh, hsh⟩ : ∃ sh, sh = s.h := ⟨_, rfl⟩
  have B0 : Hid (Blk w sb 37 #[.slice AL nl cL, .slice AD nd cD, .slice AO no cO, .int .i64 su, .int .i64 sh]) := by rw [hsu, hsh]; exact B0.out
  have HSU := hide hsu
  have HSH := hide hsh
  clear hsu hsh
  have HK := hide hk
  clear hk
  obtain ⟨et, het⟩ : ∃ et, et = X.E.t := ⟨_, rfl⟩
  obtain ⟨eu, heu⟩ : ∃ eu, eu = X.E.u := ⟨_, rfl⟩
  obtain ⟨eh, heh⟩ : ∃ eh, eh = X.E.h := ⟨_, rfl⟩
  obtain ⟨ep, hep⟩ : ∃ ep, ep = X.E.p := ⟨_, rfl⟩
  obtain ⟨en, hen⟩ : ∃ en, en = X.E.nx := ⟨_, rfl⟩
  obtain ⟨e6, he6⟩ : ∃ e6, e6 = X.E.a0 := ⟨_, rfl⟩
  obtain ⟨e7, he7⟩ : ∃ e7, e7 = X.E.a1 := ⟨_, rfl⟩
  obtain ⟨e8, he8⟩ : ∃ e8, e8 = X.E.b0 := ⟨_, rfl⟩
  obtain ⟨e9, he9⟩ : ∃ e9, e9 = X.E.b1 := ⟨_, rfl⟩
  have E0 : Hid (Blk w eb 35 #[.int .i64 (9), .int .i64 et, .int .i64 eu, .int .i64 eh, .int .i64 ep, .int .i64 en, .int .i64 e6, .int .i64 e7, .int .i64 e8, .int .i64 e9, .slice none 0 0, .slice AN nn cN, .slice AM nm cM, .slice EL el cEL, .slice ED ed cED, .slice EO eo cEO]) := by rw [het, heu, heh, hep, hen, he6, he7, he8, he9, ← HK.out]; exact E0.out
  have HET := hide het
  have HEU := hide heu
  have HEH := hide heh
  have HEN := hide hen
  clear het heu heh hep hen he6 he7 he8 he9
  obtain ⟨y0, y1, y2, y3, y4, y5, y6, y7, y8, y9, y10, y11, y12, y13, y14, y15⟩ := E0.out.cells16
  obtain ⟨b0, b1, b2, b3, b4⟩ := B0.out.cells5
  have HSW := hide (show swN s X lsn = ⟨X.L, X.D, X.O, eu, eh⟩ by
    unfold swN
    rw [if_neg (by rw [HK.out]; decide), if_neg (by rw [HK.out]; decide), if_neg (by rw [HK.out]; decide), if_neg (by rw [HK.out]; decide), if_neg (by rw [HK.out]; decide), if_neg (by rw [HK.out]; decide), if_pos (by rw [HK.out]), HEU.out, HEH.out])
  rw [HSW.out] at hKK
  have HRL := hide (show w.ownsRow 0 49 4 (.slice EL el cEL) el (lvs X.L) by rw [HP.out.el]; exact HP.out.hx.s.l)
  have HRD := hide (show w.ownsRow 0 40 2 (.slice ED ed cED) ed (dts X.D) by rw [HP.out.ed]; exact HP.out.hx.s.d)
  have hel : el ≤ 900 := by have := HP.out.el; have := HP.out.jl; omega
  have hed : ed ≤ 900 := by have := HP.out.ed; have := HP.out.jd; omega
  have heo : eo ≤ 900 := by have := HP.out.eo; have := HP.out.jo; omega
  have hse := Blk.ne_ B0.out E0.out (by decide)
  have hes := Ne.symm hse
  conv => arg 2; whnf
  go_upto_region 25 with (fail)
  clear b0 b1 b2 b3 b4 y0 y1 y4 y5 y6 y7 y8 y9 y10 y11 y12
  refine wp_region_noPanic ?_
  refine wp_region_F (S := (fun w' => w'.cell? ⟨eb, 13, none⟩ = some (.slice EL el cEL) ∧ w'.cell? ⟨eb, 14, none⟩ = some (.slice ED ed cED) ∧ w'.cell? ⟨eb, 15, none⟩ = some (.slice EO eo cEO) ∧ w'.cell? ⟨eb, 2, none⟩ = some (.int .i64 eu) ∧ w'.cell? ⟨eb, 3, none⟩ = some (.int .i64 eh))) 22 (by kernel_rfl) (by kernel_rfl) ⟨y13, y14, y15, y2, y3⟩ (fun hHeld => ?_)
  refine GoF.take 0 (some 96) (v := ?_) rfl rfl (by kernel_rfl) (by kernel_rfl) (by kernel_rfl) (fun _ _ _ h => h) (Or.inl ⟨by rfl, ?_⟩) (by assumption) ?_
  rotate_left
  · intro w' hSw
    try dsimp only at hSw
    go_simp
    try with_reducible rfl
  try simp only [Act.put, List.setIfInBounds_toArray, List.set_cons_zero, List.set_cons_succ]
  refine GoF.take 1 (some 97) (v := ?_) rfl rfl (by kernel_rfl) (by kernel_rfl) (by kernel_rfl) (fun _ _ _ h => h) (Or.inl ⟨by rfl, ?_⟩) (by assumption) ?_
  rotate_left
  · intro w' hSw
    try dsimp only at hSw
    go_simp
    try with_reducible rfl
  try simp only [Act.put, List.setIfInBounds_toArray, List.set_cons_zero, List.set_cons_succ]
  refine GoF.take 3 (some 99) (v := ?_) rfl rfl (by kernel_rfl) (by kernel_rfl) (by kernel_rfl) (fun _ _ _ h => h) (Or.inl ⟨by rfl, ?_⟩) (by assumption) ?_
  rotate_left
  · intro w' hSw
    try dsimp only at hSw
    go_simp
    try with_reducible rfl
  try simp only [Act.put, List.setIfInBounds_toArray, List.set_cons_zero, List.set_cons_succ]
  refine GoF.take 4 (some 100) (v := ?_) rfl rfl (by kernel_rfl) (by kernel_rfl) (by kernel_rfl) (fun _ _ _ h => h) (Or.inl ⟨by rfl, ?_⟩) (by assumption) ?_
  rotate_left
  · intro w' hSw
    try dsimp only at hSw
    go_simp
    try with_reducible rfl
  try simp only [Act.put, List.setIfInBounds_toArray, List.set_cons_zero, List.set_cons_succ]
  refine GoF.take 6 (some 102) (v := ?_) rfl rfl (by kernel_rfl) (by kernel_rfl) (by kernel_rfl) (fun _ _ _ h => h) (Or.inl ⟨by rfl, ?_⟩) (by assumption) ?_
  rotate_left
  · intro w' hSw
    try dsimp only at hSw
    go_simp
    try with_reducible rfl
  try simp only [Act.put, List.setIfInBounds_toArray, List.set_cons_zero, List.set_cons_succ]
  refine GoF.take 7 (some 103) (v := ?_) rfl rfl (by kernel_rfl) (by kernel_rfl) (by kernel_rfl) (fun _ _ _ h => h) (Or.inl ⟨by rfl, ?_⟩) (by assumption) ?_
  rotate_left
  · intro w' hSw
    try dsimp only at hSw
    go_simp
    try with_reducible rfl
  try simp only [Act.put, List.setIfInBounds_toArray, List.set_cons_zero, List.set_cons_succ]
  refine GoF.take 9 (some 105) (v := ?_) rfl rfl (by kernel_rfl) (by kernel_rfl) (by kernel_rfl) (fun _ _ _ h => h) (Or.inl ⟨by rfl, ?_⟩) (by assumption) ?_
  rotate_left
  · intro w' hSw
    try dsimp only at hSw
    go_simp
    try with_reducible rfl
  try simp only [Act.put, List.setIfInBounds_toArray, List.set_cons_zero, List.set_cons_succ]
  refine GoF.take 10 (some 106) (v := ?_) rfl rfl (by kernel_rfl) (by kernel_rfl) (by kernel_rfl) (fun _ _ _ h => h) (Or.inl ⟨by rfl, ?_⟩) (by assumption) ?_
  rotate_left
  · intro w' hSw
    try dsimp only at hSw
    go_simp
    try with_reducible rfl
  try simp only [Act.put, List.setIfInBounds_toArray, List.set_cons_zero, List.set_cons_succ]
  refine GoF.take 11 (some 107) (v := ?_) rfl rfl (by kernel_rfl) (by kernel_rfl) (by kernel_rfl) (fun _ _ _ h => h) (Or.inl ⟨by rfl, ?_⟩) (by assumption) ?_
  rotate_left
  · intro w' hSw
    try dsimp only at hSw
    go_simp
    try with_reducible rfl
  try simp only [Act.put, List.setIfInBounds_toArray, List.set_cons_zero, List.set_cons_succ]
  refine GoF.take 12 (some 108) (v := ?_) rfl rfl (by kernel_rfl) (by kernel_rfl) (by kernel_rfl) (fun _ _ _ h => h) (Or.inl ⟨by rfl, ?_⟩) (by assumption) ?_
  rotate_left
  · intro w' hSw
    try dsimp only at hSw
    go_simp
    try with_reducible rfl
  try simp only [Act.put, List.setIfInBounds_toArray, List.set_cons_zero, List.set_cons_succ]
  refine GoF.each (rs := [2]) (by kernel_rfl) (by kernel_rfl) (by kernel_rfl) ?_
  refine EachF.cons (i := 2) rfl (fun K hK => ?_) EachF.nil
  go_simp
  refine (clone_lives EL cEL el (lvs X.L) w.drew (no_cap HRL.out) (own_reads (show w.drew.ownsRow 0 49 4 (.slice EL el cEL) el (lvs X.L) from HRL.out)) (lvs_one X.L) (by omega)).mono ?_
  rintro e w2 ⟨A2, c2, rfl, ho2, he2⟩
  have O2 := hide ho2
  have X2 := hide (show Ext w w2 from (Ext.drew (Ext.refl w)).trans he2)
  have B2 := hide (X2.out.blk B0.out)
  have E2 := hide (X2.out.blk E0.out)
  refine hK.out _ _ ⟨(E2.out.cell 13).trans rfl, (E2.out.cell 14).trans rfl, (E2.out.cell 15).trans rfl, (E2.out.cell 2).trans rfl, (E2.out.cell 3).trans rfl⟩ (fun hHeld => ?_)
  clear hK K ho2 he2
  refine GoF.each (rs := [5]) (by kernel_rfl) (by kernel_rfl) (by kernel_rfl) ?_
  refine EachF.cons (i := 5) rfl (fun K hK => ?_) EachF.nil
  go_simp
  refine (clone_dirties ED cED ed (dts X.D) w2 (no_cap HRD.out) (own_reads (X2.out.own HRD.out)) (dts_one X.D) (by omega)).mono ?_
  rintro e w3 ⟨A3, c3, rfl, ho3, he3⟩
  have O3 := hide ho3
  have X3 := hide (X2.out.trans he3)
  have B3 := hide (X3.out.blk B0.out)
  have E3 := hide (X3.out.blk E0.out)
  have O32 := hide (he3.own O2.out)
  refine hK.out _ _ ⟨(E3.out.cell 13).trans rfl, (E3.out.cell 14).trans rfl, (E3.out.cell 15).trans rfl, (E3.out.cell 2).trans rfl, (E3.out.cell 3).trans rfl⟩ (fun hHeld => ?_)
  clear hK K ho3 he3
  refine GoF.each (rs := [8]) (by kernel_rfl) (by kernel_rfl) (by kernel_rfl) ?_
  refine EachF.cons (i := 8) rfl (fun K hK => ?_) EachF.nil
  go_simp
  refine (openTwin_any w3 0 EO cEO eo X.O HP.out.eo (by obtain ⟨os, h1, h2⟩ := (HP.out.hx.s.ext X3.out).o; rw [HP.out.eo]; exact ⟨os, h1, h2⟩) HP.out.jm (by omega)).mono ?_
  rintro e w4 ⟨A4, c4, rfl, ho4, he4⟩
  have O4 := hide ho4
  have X4 := hide (X3.out.trans he4)
  have B4 := hide (X4.out.blk B0.out)
  have E4 := hide (X4.out.blk E0.out)
  have O42 := hide (he4.own O32.out)
  have O43 := hide (he4.own O3.out)
  have SA := hide (show SnAt w4 base ⟨X.L, X.D, X.O, su, sh⟩ A2 c2 A3 c3 A4 c4 from mark_at HP.out.el HP.out.ed O42.out O43.out O4.out (by have h1 := B0.out.lt; have := HP.out.hb; omega) X2.out X3.out)
  have f0 := B4.out.frozen 0
  have f1 := B4.out.frozen 1
  have f2 := B4.out.frozen 2
  have f3 := B4.out.frozen 3
  have f4 := B4.out.frozen 4
  have p0 : w4.cell? ⟨sb, 0, none⟩ = some (.slice AL nl cL) := (B4.out.cell 0).trans rfl
  have p1 : w4.cell? ⟨sb, 1, none⟩ = some (.slice AD nd cD) := (B4.out.cell 1).trans rfl
  have p2 : w4.cell? ⟨sb, 2, none⟩ = some (.slice AO no cO) := (B4.out.cell 2).trans rfl
  have p3 : w4.cell? ⟨sb, 3, none⟩ = some (.int .i64 su) := (B4.out.cell 3).trans rfl
  have p4 : w4.cell? ⟨sb, 4, none⟩ = some (.int .i64 sh) := (B4.out.cell 4).trans rfl
  refine hK.out _ _ ⟨(E4.out.cell 13).trans rfl, (E4.out.cell 14).trans rfl, (E4.out.cell 15).trans rfl, (E4.out.cell 2).trans rfl, (E4.out.cell 3).trans rfl⟩ (fun hHeld => ?_)
  clear hK K ho4 he4
  have ⟨n0, n1, n2, n3, n4⟩ := hHeld
  refine GoF.take 13 (some 109) (v := ?_) rfl rfl (by kernel_rfl) (by kernel_rfl) (by kernel_rfl) (fun _ _ _ h => h) (Or.inl ⟨by rfl, ?_⟩) (by assumption) ?_
  rotate_left
  · intro w' hSw
    try dsimp only at hSw
    go_simp
    try with_reducible rfl
  try simp only [Act.put, List.setIfInBounds_toArray, List.set_cons_zero, List.set_cons_succ]
  refine GoF.each (rs := [14]) (by kernel_rfl) (by kernel_rfl) (by kernel_rfl) ?_
  refine EachF.cons (i := 14) rfl (fun K hK => ?_) EachF.nil
  go_simp
  refine hK.out _ _ (by go_keep) (fun hHeld => ?_)
  clear hK K
  refine GoF.take 15 (some 110) (v := ?_) rfl rfl (by kernel_rfl) (by kernel_rfl) (by kernel_rfl) (fun _ _ _ h => h) (Or.inl ⟨by rfl, ?_⟩) (by assumption) ?_
  rotate_left
  · intro w' hSw
    try dsimp only at hSw
    go_simp
    try with_reducible rfl
  try simp only [Act.put, List.setIfInBounds_toArray, List.set_cons_zero, List.set_cons_succ]
  refine GoF.each (rs := [16]) (by kernel_rfl) (by kernel_rfl) (by kernel_rfl) ?_
  refine EachF.cons (i := 16) rfl (fun K hK => ?_) EachF.nil
  go_simp
  refine hK.out _ _ (by go_keep) (fun hHeld => ?_)
  clear hK K
  refine GoF.take 17 (some 111) (v := ?_) rfl rfl (by kernel_rfl) (by kernel_rfl) (by kernel_rfl) (fun _ _ _ h => h) (Or.inl ⟨by rfl, ?_⟩) (by assumption) ?_
  rotate_left
  · intro w' hSw
    try dsimp only at hSw
    go_simp
    try with_reducible rfl
  try simp only [Act.put, List.setIfInBounds_toArray, List.set_cons_zero, List.set_cons_succ]
  refine GoF.each (rs := [18]) (by kernel_rfl) (by kernel_rfl) (by kernel_rfl) ?_
  refine EachF.cons (i := 18) rfl (fun K hK => ?_) EachF.nil
  go_simp
  refine hK.out _ _ (by go_keep) (fun hHeld => ?_)
  clear hK K
  refine GoF.take 19 (some 112) (v := ?_) rfl rfl (by kernel_rfl) (by kernel_rfl) (by kernel_rfl) (fun _ _ _ h => h) (Or.inl ⟨by rfl, ?_⟩) (by assumption) ?_
  rotate_left
  · intro w' hSw
    try dsimp only at hSw
    go_simp
    try with_reducible rfl
  try simp only [Act.put, List.setIfInBounds_toArray, List.set_cons_zero, List.set_cons_succ]
  refine GoF.each (rs := [20]) (by kernel_rfl) (by kernel_rfl) (by kernel_rfl) ?_
  refine EachF.cons (i := 20) rfl (fun K hK => ?_) EachF.nil
  go_simp
  refine hK.out _ _ (by go_keep) (fun hHeld => ?_)
  clear hK K
  refine GoF.take 21 (some 113) (v := ?_) rfl rfl (by kernel_rfl) (by kernel_rfl) (by kernel_rfl) (fun _ _ _ h => h) (Or.inl ⟨by rfl, ?_⟩) (by assumption) ?_
  rotate_left
  · intro w' hSw
    try dsimp only at hSw
    go_simp
    try with_reducible rfl
  try simp only [Act.put, List.setIfInBounds_toArray, List.set_cons_zero, List.set_cons_succ]
  refine GoF.last (by kernel_rfl) (by kernel_rfl) rfl (fun K hK => ?_)
  go_simp
  refine hK.out _ _ (NoPanic.normal ?_)
  clear hK K
  have B9 := hide (B4.out.set5 (.slice A2 el c2) (.slice A3 ed c3) (.slice A4 X.O.length c4) (.int .i64 eu) (.int .i64 eh))
  have T9 := hide (touch_set5 w4 sb (.slice A2 el c2) (.slice A3 ed c3) (.slice A4 X.O.length c4) (.int .i64 eu) (.int .i64 eh))
  have S9 := hide (touch_ne T9.out B4.out (SA.out.as (s' := ⟨X.L, X.D, X.O, eu, eh⟩) rfl rfl rfl) rfl)
  go_wp2_with (fail)
  exact ⟨A2, c2, A3, c3, A4, c4, by rw [← HP.out.el, ← HP.out.ed]; exact B9.out, S9.out, (Tch.ext X4.out).trans (Tch.of T9.out B4.out HP.out.hb (.inr (.inr (.inr ⟨rfl, rfl⟩))))⟩
set_option maxRecDepth 1000000 in
set_option maxHeartbeats 40000000 in
theorem sw_any (w : World) (base sb eb : Nat) (s : Sn) (X : En) (lsn ui : Int) (AL : Option Addr) (cL : Nat) (AD : Option Addr) (cD : Nat) (AO : Option Addr) (cO nl nd no : Nat) (AN : Option Addr) (nn cN : Nat) (AM : Option Addr) (nm cM : Nat) (EL : Option Addr) (el cEL : Nat) (ED : Option Addr) (ed cED : Nat) (EO : Option Addr) (eo cEO : Nat) (hP : SwPre w base sb eb s X AL cL AD cD AO cO nl nd no AN nn cN AM nm cM EL el cEL ED ed cED EO eo cEO) (hui : ui = idxI (idxO s.O X.E.u)) (hz : True)
    (u0 u1 u5 u6 u8 u9 u10 u11 u12 u13 u14 u15 u16 u17 u18 u20 u21 u22 u23 u24 u25 u26 u27 u28 u29 u30 u31 u32 u33 u34 u35 u36 u37 u38 u39 u40 u41 u42 u43 u44 u45 u46 u47 u48 u49 u50 u51 u52 u53 u54 u55 u56 u57 u58 u59 u60 u61 u62 u63 u64 u65 u66 u67 u68 u69 u70 u71 u72 u73 u74 u75 u76 u77 u78 u79 u80 u81 u82 u83 u84 u85 u86 u87 u88 u89 u90 u91 u92 u93 u94 u95 u96 u97 u98 u99 u100 u101 u102 u103 u104 u105 u106 u107 u108 u109 u110 u111 u112 u113 u114 u115 u116 u117 u118 u119 u120 u121 u122 u123 u124 u125 : Value) (KK : Act → World → Prop) (Q : Exit → Act → World → Prop)
    (hKK : ∀ (v8 v9 v20 v21 v22 v23 v24 v25 v26 v27 v28 v29 v30 v31 v32 v33 v34 v35 v36 v37 v38 v39 v40 v41 v42 v43 v44 v45 v46 v47 v48 v49 v50 v51 v52 v53 v54 v55 v56 v57 v58 v59 v60 v61 v62 v63 v64 v65 v66 v67 v68 v69 v70 v71 v72 v73 v74 v75 v76 v77 v78 v79 v80 v81 v82 v83 v84 v85 v86 v87 v88 v89 v90 v91 v92 v93 v94 v95 v96 v97 v98 v99 v100 v101 v102 v103 v104 v105 v106 v107 v108 v109 v110 v111 v112 v113 : Value) (wx : World), SwPost w base sb (swN s X lsn) wx → KK ⟨(u0 :: u1 :: Value.int .i64 lsn :: Value.pointer (some ⟨sb, 0, none⟩) :: Value.pointer (some ⟨eb, 0, none⟩) :: u5 :: u6 :: Value.int .i64 ui :: v8 :: v9 :: u10 :: u11 :: u12 :: u13 :: u14 :: u15 :: u16 :: u17 :: u18 :: Value.int .i64 X.E.kind :: v20 :: v21 :: v22 :: v23 :: v24 :: v25 :: v26 :: v27 :: v28 :: v29 :: v30 :: v31 :: v32 :: v33 :: v34 :: v35 :: v36 :: v37 :: v38 :: v39 :: v40 :: v41 :: v42 :: v43 :: v44 :: v45 :: v46 :: v47 :: v48 :: v49 :: v50 :: v51 :: v52 :: v53 :: v54 :: v55 :: v56 :: v57 :: v58 :: v59 :: v60 :: v61 :: v62 :: v63 :: v64 :: v65 :: v66 :: v67 :: v68 :: v69 :: v70 :: v71 :: v72 :: v73 :: v74 :: v75 :: v76 :: v77 :: v78 :: v79 :: v80 :: v81 :: v82 :: v83 :: v84 :: v85 :: v86 :: v87 :: v88 :: v89 :: v90 :: v91 :: v92 :: v93 :: v94 :: v95 :: v96 :: v97 :: v98 :: v99 :: v100 :: v101 :: v102 :: v103 :: v104 :: v105 :: v106 :: v107 :: v108 :: v109 :: v110 :: v111 :: v112 :: v113 :: u114 :: u115 :: u116 :: u117 :: u118 :: u119 :: u120 :: u121 :: u122 :: u123 :: u124 :: u125 :: []).toArray, []⟩ wx) :
    Code.wp Try.prog (blockAt Try.f15 0) (Exit.then KK Q) ⟨(u0 :: u1 :: Value.int .i64 lsn :: Value.pointer (some ⟨sb, 0, none⟩) :: Value.pointer (some ⟨eb, 0, none⟩) :: u5 :: u6 :: Value.int .i64 ui :: u8 :: u9 :: u10 :: u11 :: u12 :: u13 :: u14 :: u15 :: u16 :: u17 :: u18 :: Value.int .i64 X.E.kind :: u20 :: u21 :: u22 :: u23 :: u24 :: u25 :: u26 :: u27 :: u28 :: u29 :: u30 :: u31 :: u32 :: u33 :: u34 :: u35 :: u36 :: u37 :: u38 :: u39 :: u40 :: u41 :: u42 :: u43 :: u44 :: u45 :: u46 :: u47 :: u48 :: u49 :: u50 :: u51 :: u52 :: u53 :: u54 :: u55 :: u56 :: u57 :: u58 :: u59 :: u60 :: u61 :: u62 :: u63 :: u64 :: u65 :: u66 :: u67 :: u68 :: u69 :: u70 :: u71 :: u72 :: u73 :: u74 :: u75 :: u76 :: u77 :: u78 :: u79 :: u80 :: u81 :: u82 :: u83 :: u84 :: u85 :: u86 :: u87 :: u88 :: u89 :: u90 :: u91 :: u92 :: u93 :: u94 :: u95 :: u96 :: u97 :: u98 :: u99 :: u100 :: u101 :: u102 :: u103 :: u104 :: u105 :: u106 :: u107 :: u108 :: u109 :: u110 :: u111 :: u112 :: u113 :: u114 :: u115 :: u116 :: u117 :: u118 :: u119 :: u120 :: u121 :: u122 :: u123 :: u124 :: u125 :: []).toArray, []⟩ w := by
  by_cases h1 : X.E.kind = 1
  · rw [h1] at hKK ⊢
    exact sw_1 w base sb eb s X lsn ui AL cL AD cD AO cO nl nd no AN nn cN AM nm cM EL el cEL ED ed cED EO eo cEO hP hui h1 u0 u1 u5 u6 u8 u9 u10 u11 u12 u13 u14 u15 u16 u17 u18 u20 u21 u22 u23 u24 u25 u26 u27 u28 u29 u30 u31 u32 u33 u34 u35 u36 u37 u38 u39 u40 u41 u42 u43 u44 u45 u46 u47 u48 u49 u50 u51 u52 u53 u54 u55 u56 u57 u58 u59 u60 u61 u62 u63 u64 u65 u66 u67 u68 u69 u70 u71 u72 u73 u74 u75 u76 u77 u78 u79 u80 u81 u82 u83 u84 u85 u86 u87 u88 u89 u90 u91 u92 u93 u94 u95 u96 u97 u98 u99 u100 u101 u102 u103 u104 u105 u106 u107 u108 u109 u110 u111 u112 u113 u114 u115 u116 u117 u118 u119 u120 u121 u122 u123 u124 u125 KK Q hKK
  by_cases h2 : X.E.kind = 2
  · rw [h2] at hKK ⊢
    exact sw_2 w base sb eb s X lsn ui AL cL AD cD AO cO nl nd no AN nn cN AM nm cM EL el cEL ED ed cED EO eo cEO hP hui h2 u0 u1 u5 u6 u8 u9 u10 u11 u12 u13 u14 u15 u16 u17 u18 u20 u21 u22 u23 u24 u25 u26 u27 u28 u29 u30 u31 u32 u33 u34 u35 u36 u37 u38 u39 u40 u41 u42 u43 u44 u45 u46 u47 u48 u49 u50 u51 u52 u53 u54 u55 u56 u57 u58 u59 u60 u61 u62 u63 u64 u65 u66 u67 u68 u69 u70 u71 u72 u73 u74 u75 u76 u77 u78 u79 u80 u81 u82 u83 u84 u85 u86 u87 u88 u89 u90 u91 u92 u93 u94 u95 u96 u97 u98 u99 u100 u101 u102 u103 u104 u105 u106 u107 u108 u109 u110 u111 u112 u113 u114 u115 u116 u117 u118 u119 u120 u121 u122 u123 u124 u125 KK Q hKK
  by_cases h3 : X.E.kind = 3
  · rw [h3] at hKK ⊢
    exact sw_3 w base sb eb s X lsn ui AL cL AD cD AO cO nl nd no AN nn cN AM nm cM EL el cEL ED ed cED EO eo cEO hP hui h3 u0 u1 u5 u6 u8 u9 u10 u11 u12 u13 u14 u15 u16 u17 u18 u20 u21 u22 u23 u24 u25 u26 u27 u28 u29 u30 u31 u32 u33 u34 u35 u36 u37 u38 u39 u40 u41 u42 u43 u44 u45 u46 u47 u48 u49 u50 u51 u52 u53 u54 u55 u56 u57 u58 u59 u60 u61 u62 u63 u64 u65 u66 u67 u68 u69 u70 u71 u72 u73 u74 u75 u76 u77 u78 u79 u80 u81 u82 u83 u84 u85 u86 u87 u88 u89 u90 u91 u92 u93 u94 u95 u96 u97 u98 u99 u100 u101 u102 u103 u104 u105 u106 u107 u108 u109 u110 u111 u112 u113 u114 u115 u116 u117 u118 u119 u120 u121 u122 u123 u124 u125 KK Q hKK
  by_cases h4 : X.E.kind = 4
  · rw [h4] at hKK ⊢
    exact sw_4 w base sb eb s X lsn ui AL cL AD cD AO cO nl nd no AN nn cN AM nm cM EL el cEL ED ed cED EO eo cEO hP hui h4 u0 u1 u5 u6 u8 u9 u10 u11 u12 u13 u14 u15 u16 u17 u18 u20 u21 u22 u23 u24 u25 u26 u27 u28 u29 u30 u31 u32 u33 u34 u35 u36 u37 u38 u39 u40 u41 u42 u43 u44 u45 u46 u47 u48 u49 u50 u51 u52 u53 u54 u55 u56 u57 u58 u59 u60 u61 u62 u63 u64 u65 u66 u67 u68 u69 u70 u71 u72 u73 u74 u75 u76 u77 u78 u79 u80 u81 u82 u83 u84 u85 u86 u87 u88 u89 u90 u91 u92 u93 u94 u95 u96 u97 u98 u99 u100 u101 u102 u103 u104 u105 u106 u107 u108 u109 u110 u111 u112 u113 u114 u115 u116 u117 u118 u119 u120 u121 u122 u123 u124 u125 KK Q hKK
  by_cases h5 : X.E.kind = 5
  · rw [h5] at hKK ⊢
    exact sw_5 w base sb eb s X lsn ui AL cL AD cD AO cO nl nd no AN nn cN AM nm cM EL el cEL ED ed cED EO eo cEO hP hui h5 u0 u1 u5 u6 u8 u9 u10 u11 u12 u13 u14 u15 u16 u17 u18 u20 u21 u22 u23 u24 u25 u26 u27 u28 u29 u30 u31 u32 u33 u34 u35 u36 u37 u38 u39 u40 u41 u42 u43 u44 u45 u46 u47 u48 u49 u50 u51 u52 u53 u54 u55 u56 u57 u58 u59 u60 u61 u62 u63 u64 u65 u66 u67 u68 u69 u70 u71 u72 u73 u74 u75 u76 u77 u78 u79 u80 u81 u82 u83 u84 u85 u86 u87 u88 u89 u90 u91 u92 u93 u94 u95 u96 u97 u98 u99 u100 u101 u102 u103 u104 u105 u106 u107 u108 u109 u110 u111 u112 u113 u114 u115 u116 u117 u118 u119 u120 u121 u122 u123 u124 u125 KK Q hKK
  by_cases h6 : X.E.kind = 6
  · rw [h6] at hKK ⊢
    exact sw_6 w base sb eb s X lsn ui AL cL AD cD AO cO nl nd no AN nn cN AM nm cM EL el cEL ED ed cED EO eo cEO hP hui h6 u0 u1 u5 u6 u8 u9 u10 u11 u12 u13 u14 u15 u16 u17 u18 u20 u21 u22 u23 u24 u25 u26 u27 u28 u29 u30 u31 u32 u33 u34 u35 u36 u37 u38 u39 u40 u41 u42 u43 u44 u45 u46 u47 u48 u49 u50 u51 u52 u53 u54 u55 u56 u57 u58 u59 u60 u61 u62 u63 u64 u65 u66 u67 u68 u69 u70 u71 u72 u73 u74 u75 u76 u77 u78 u79 u80 u81 u82 u83 u84 u85 u86 u87 u88 u89 u90 u91 u92 u93 u94 u95 u96 u97 u98 u99 u100 u101 u102 u103 u104 u105 u106 u107 u108 u109 u110 u111 u112 u113 u114 u115 u116 u117 u118 u119 u120 u121 u122 u123 u124 u125 KK Q hKK
  by_cases h7 : X.E.kind = 7
  · rw [h7] at hKK ⊢
    exact sw_7 w base sb eb s X lsn ui AL cL AD cD AO cO nl nd no AN nn cN AM nm cM EL el cEL ED ed cED EO eo cEO hP hui h7 u0 u1 u5 u6 u8 u9 u10 u11 u12 u13 u14 u15 u16 u17 u18 u20 u21 u22 u23 u24 u25 u26 u27 u28 u29 u30 u31 u32 u33 u34 u35 u36 u37 u38 u39 u40 u41 u42 u43 u44 u45 u46 u47 u48 u49 u50 u51 u52 u53 u54 u55 u56 u57 u58 u59 u60 u61 u62 u63 u64 u65 u66 u67 u68 u69 u70 u71 u72 u73 u74 u75 u76 u77 u78 u79 u80 u81 u82 u83 u84 u85 u86 u87 u88 u89 u90 u91 u92 u93 u94 u95 u96 u97 u98 u99 u100 u101 u102 u103 u104 u105 u106 u107 u108 u109 u110 u111 u112 u113 u114 u115 u116 u117 u118 u119 u120 u121 u122 u123 u124 u125 KK Q hKK
  by_cases h8 : X.E.kind = 8
  · rw [h8] at hKK ⊢
    exact sw_8 w base sb eb s X lsn ui AL cL AD cD AO cO nl nd no AN nn cN AM nm cM EL el cEL ED ed cED EO eo cEO hP hui h8 u0 u1 u5 u6 u8 u9 u10 u11 u12 u13 u14 u15 u16 u17 u18 u20 u21 u22 u23 u24 u25 u26 u27 u28 u29 u30 u31 u32 u33 u34 u35 u36 u37 u38 u39 u40 u41 u42 u43 u44 u45 u46 u47 u48 u49 u50 u51 u52 u53 u54 u55 u56 u57 u58 u59 u60 u61 u62 u63 u64 u65 u66 u67 u68 u69 u70 u71 u72 u73 u74 u75 u76 u77 u78 u79 u80 u81 u82 u83 u84 u85 u86 u87 u88 u89 u90 u91 u92 u93 u94 u95 u96 u97 u98 u99 u100 u101 u102 u103 u104 u105 u106 u107 u108 u109 u110 u111 u112 u113 u114 u115 u116 u117 u118 u119 u120 u121 u122 u123 u124 u125 KK Q hKK
  by_cases h9 : X.E.kind = 9
  · rw [h9] at hKK ⊢
    exact sw_9 w base sb eb s X lsn ui AL cL AD cD AO cO nl nd no AN nn cN AM nm cM EL el cEL ED ed cED EO eo cEO hP hui h9 u0 u1 u5 u6 u8 u9 u10 u11 u12 u13 u14 u15 u16 u17 u18 u20 u21 u22 u23 u24 u25 u26 u27 u28 u29 u30 u31 u32 u33 u34 u35 u36 u37 u38 u39 u40 u41 u42 u43 u44 u45 u46 u47 u48 u49 u50 u51 u52 u53 u54 u55 u56 u57 u58 u59 u60 u61 u62 u63 u64 u65 u66 u67 u68 u69 u70 u71 u72 u73 u74 u75 u76 u77 u78 u79 u80 u81 u82 u83 u84 u85 u86 u87 u88 u89 u90 u91 u92 u93 u94 u95 u96 u97 u98 u99 u100 u101 u102 u103 u104 u105 u106 u107 u108 u109 u110 u111 u112 u113 u114 u115 u116 u117 u118 u119 u120 u121 u122 u123 u124 u125 KK Q hKK
  by_cases h10 : X.E.kind = 10
  · rw [h10] at hKK ⊢
    exact sw_10 w base sb eb s X lsn ui AL cL AD cD AO cO nl nd no AN nn cN AM nm cM EL el cEL ED ed cED EO eo cEO hP hui h10 u0 u1 u5 u6 u8 u9 u10 u11 u12 u13 u14 u15 u16 u17 u18 u20 u21 u22 u23 u24 u25 u26 u27 u28 u29 u30 u31 u32 u33 u34 u35 u36 u37 u38 u39 u40 u41 u42 u43 u44 u45 u46 u47 u48 u49 u50 u51 u52 u53 u54 u55 u56 u57 u58 u59 u60 u61 u62 u63 u64 u65 u66 u67 u68 u69 u70 u71 u72 u73 u74 u75 u76 u77 u78 u79 u80 u81 u82 u83 u84 u85 u86 u87 u88 u89 u90 u91 u92 u93 u94 u95 u96 u97 u98 u99 u100 u101 u102 u103 u104 u105 u106 u107 u108 u109 u110 u111 u112 u113 u114 u115 u116 u117 u118 u119 u120 u121 u122 u123 u124 u125 KK Q hKK
  exact sw_0 w base sb eb s X lsn ui AL cL AD cD AO cO nl nd no AN nn cN AM nm cM EL el cEL ED ed cED EO eo cEO hP hui X.E.kind rfl h1 h2 h3 h4 h5 h6 h7 h8 h9 h10 u0 u1 u5 u6 u8 u9 u10 u11 u12 u13 u14 u15 u16 u17 u18 u20 u21 u22 u23 u24 u25 u26 u27 u28 u29 u30 u31 u32 u33 u34 u35 u36 u37 u38 u39 u40 u41 u42 u43 u44 u45 u46 u47 u48 u49 u50 u51 u52 u53 u54 u55 u56 u57 u58 u59 u60 u61 u62 u63 u64 u65 u66 u67 u68 u69 u70 u71 u72 u73 u74 u75 u76 u77 u78 u79 u80 u81 u82 u83 u84 u85 u86 u87 u88 u89 u90 u91 u92 u93 u94 u95 u96 u97 u98 u99 u100 u101 u102 u103 u104 u105 u106 u107 u108 u109 u110 u111 u112 u113 u114 u115 u116 u117 u118 u119 u120 u121 u122 u123 u124 u125 KK Q hKK
end Go.Proofs.Ytaijgnhkdbdfcaa
