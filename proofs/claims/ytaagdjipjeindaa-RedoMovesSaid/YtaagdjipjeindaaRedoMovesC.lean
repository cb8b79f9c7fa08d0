/- RedoMoves: a cell of the second place is read. -/
import Derived.Test.YtaagdjipjeindaaRedoX
namespace Go.Proofs.Ytaagdjipjeindaa.redoMoves
open Go.ChangeShapes Go.WideShapes Go.ChangeAt Go.RowKit
set_option linter.unusedVariables false

set_option maxRecDepth 1000000 in
set_option maxHeartbeats 40000000 in
theorem read_b (wr : World) (pb kb b0 b1 nl c : Nat) (A : Option Addr) (l : List UInt8) (kk : Int) (key : List UInt8) (pp qq : Int) (h03 : b0 < 3) (h14 : b1 < 4) (x0 : wr.cell? ⟨kb, 0, none⟩ = some (.int .i64 (b0 : Int))) (x1 : wr.cell? ⟨kb, 1, none⟩ = some (.int .i64 (b1 : Int))) (x2 : wr.cell? ⟨pb, b0 * 5 + b1, none⟩ = some (.slice A nl c)) (hkl : kb < wr.heap.size) (hpl : pb < wr.heap.size)
    (hrd : RdIs l kk key pp qq) (hbl : BB wr (.slice A nl c) l) (hnl : nl = l.length)
    (u0 u1 u2 u3 u4 u5 u6 u7 u9 u10 u11 u13 u14 u15 u16 u17 u18 u19 u20 u21 u22 u23 u24 u25 u26 u27 u28 u29 u30 u31 u32 u33 u34 u35 u36 u37 u38 u39 u40 u41 u42 u43 u44 u45 u46 u47 u48 u49 u50 u51 u52 u53 u54 u55 u56 u57 u58 u59 u60 u61 u62 u63 u64 u65 u66 u67 u68 u69 u70 u71 u72 u73 u74 u75 u76 u77 u78 u79 u80 u81 u82 u83 u84 u85 u86 u87 u88 u89 u90 u91 u92 u93 u94 u95 u96 u97 u98 u99 u100 u101 u102 u103 u104 u105 u106 u107 u108 u109 u110 u111 u112 u113 u114 u115 u116 u117 u118 u119 u120 u121 u122 u123 u124 u125 u126 u127 u128 u129 u130 u131 u132 u133 u134 u135 u136 u137 u138 u139 u140 u141 u142 u143 u144 u145 u146 u147 u148 u149 u150 u151 u152 u153 u154 u155 u156 u157 u158 u159 u160 u161 : Value) (KK : Act → World → Prop) (Q : Exit → Act → World → Prop)
    (hKK : ∀ (v24 v110 v111 v112 v113 v114 v115 v116 v117 v118 v119 v120 v121 v122 v123 : Value) (rb tb : Nat) (wx : World), Blk wx rb 52 #[.string ⟨key.toArray⟩, .string ⟨#[]⟩, .string ⟨#[]⟩] → Blk wx tb 25 #[.int .i64 pp, .int .i64 qq] → Ext wr wx → KK ⟨(u0 :: u1 :: u2 :: u3 :: u4 :: u5 :: u6 :: u7 :: Value.pointer (some ⟨kb, 0, none⟩) :: u9 :: u10 :: u11 :: Value.pointer (some ⟨pb, 0, none⟩) :: u13 :: u14 :: u15 :: u16 :: u17 :: u18 :: u19 :: u20 :: Value.int .i64 kk :: Value.pointer (some ⟨rb, 0, none⟩) :: Value.pointer (some ⟨tb, 0, none⟩) :: v24 :: u25 :: u26 :: u27 :: u28 :: u29 :: u30 :: u31 :: u32 :: u33 :: u34 :: u35 :: u36 :: u37 :: u38 :: u39 :: u40 :: u41 :: u42 :: u43 :: u44 :: u45 :: u46 :: u47 :: u48 :: u49 :: u50 :: u51 :: u52 :: u53 :: u54 :: u55 :: u56 :: u57 :: u58 :: u59 :: u60 :: u61 :: u62 :: u63 :: u64 :: u65 :: u66 :: u67 :: u68 :: u69 :: u70 :: u71 :: u72 :: u73 :: u74 :: u75 :: u76 :: u77 :: u78 :: u79 :: u80 :: u81 :: u82 :: u83 :: u84 :: u85 :: u86 :: u87 :: u88 :: u89 :: u90 :: u91 :: u92 :: u93 :: u94 :: u95 :: u96 :: u97 :: u98 :: u99 :: u100 :: u101 :: u102 :: u103 :: u104 :: u105 :: u106 :: u107 :: u108 :: u109 :: v110 :: v111 :: v112 :: v113 :: v114 :: v115 :: v116 :: v117 :: v118 :: v119 :: v120 :: v121 :: v122 :: v123 :: u124 :: u125 :: u126 :: u127 :: u128 :: u129 :: u130 :: u131 :: u132 :: u133 :: u134 :: u135 :: u136 :: u137 :: u138 :: u139 :: u140 :: u141 :: u142 :: u143 :: u144 :: u145 :: u146 :: u147 :: u148 :: u149 :: u150 :: u151 :: u152 :: u153 :: u154 :: u155 :: u156 :: u157 :: u158 :: u159 :: u160 :: u161 :: []).toArray, []⟩ wx) :
    Code.wp Try.prog (regionAt Try.f6 19) (Exit.then KK Q) ⟨(u0 :: u1 :: u2 :: u3 :: u4 :: u5 :: u6 :: u7 :: Value.pointer (some ⟨kb, 0, none⟩) :: u9 :: u10 :: u11 :: Value.pointer (some ⟨pb, 0, none⟩) :: u13 :: u14 :: u15 :: u16 :: u17 :: u18 :: u19 :: u20 :: u21 :: u22 :: u23 :: u24 :: u25 :: u26 :: u27 :: u28 :: u29 :: u30 :: u31 :: u32 :: u33 :: u34 :: u35 :: u36 :: u37 :: u38 :: u39 :: u40 :: u41 :: u42 :: u43 :: u44 :: u45 :: u46 :: u47 :: u48 :: u49 :: u50 :: u51 :: u52 :: u53 :: u54 :: u55 :: u56 :: u57 :: u58 :: u59 :: u60 :: u61 :: u62 :: u63 :: u64 :: u65 :: u66 :: u67 :: u68 :: u69 :: u70 :: u71 :: u72 :: u73 :: u74 :: u75 :: u76 :: u77 :: u78 :: u79 :: u80 :: u81 :: u82 :: u83 :: u84 :: u85 :: u86 :: u87 :: u88 :: u89 :: u90 :: u91 :: u92 :: u93 :: u94 :: u95 :: u96 :: u97 :: u98 :: u99 :: u100 :: u101 :: u102 :: u103 :: u104 :: u105 :: u106 :: u107 :: u108 :: u109 :: u110 :: u111 :: u112 :: u113 :: u114 :: u115 :: u116 :: u117 :: u118 :: u119 :: u120 :: u121 :: u122 :: u123 :: u124 :: u125 :: u126 :: u127 :: u128 :: u129 :: u130 :: u131 :: u132 :: u133 :: u134 :: u135 :: u136 :: u137 :: u138 :: u139 :: u140 :: u141 :: u142 :: u143 :: u144 :: u145 :: u146 :: u147 :: u148 :: u149 :: u150 :: u151 :: u152 :: u153 :: u154 :: u155 :: u156 :: u157 :: u158 :: u159 :: u160 :: u161 :: []).toArray, []⟩ wr := by
  have RD := hide hrd
  have BBL := hide hbl
  have NL := hide hnl
  have h03i : (b0 : Int) < 3 := by omega
  have h14i : (b1 : Int) < 4 := by omega
  have HS := hide (show ∀ w' : World, Ext wr w' → (fun w' => w'.cell? ⟨kb, 0, none⟩ = some (.int .i64 (b0 : Int)) ∧ w'.cell? ⟨kb, 1, none⟩ = some (.int .i64 (b1 : Int)) ∧ w'.cell? ⟨pb, b0 * 5 + b1, none⟩ = some (.slice A nl c)) w' from fun w' hx => ⟨(hx.cell hkl).trans x0, (hx.cell hkl).trans x1, (hx.cell hpl).trans x2⟩)
  clear hrd hbl hnl x0 x1 x2 hkl hpl
  conv => arg 2; whnf
  refine wp_region_noPanic ?_
  refine wp_region_F (S := (fun w' => w'.cell? ⟨kb, 0, none⟩ = some (.int .i64 (b0 : Int)) ∧ w'.cell? ⟨kb, 1, none⟩ = some (.int .i64 (b1 : Int)) ∧ w'.cell? ⟨pb, b0 * 5 + b1, none⟩ = some (.slice A nl c))) 19 (by kernel_rfl) (by kernel_rfl) (HS.out _ (Ext.drew (Ext.refl wr))) (fun hHeld => ?_)
  obtain ⟨wd, hwd⟩ : ∃ wd, wd = wr.drew := ⟨_, rfl⟩
  have Xd := hide (show Ext wr wd by rw [hwd]; exact Ext.drew (Ext.refl wr))
  rw [← hwd] at hHeld ⊢
  clear hwd
  refine GoF.take 0 (some 111) (v := ?_) rfl rfl (by kernel_rfl) (by kernel_rfl) (by kernel_rfl) (fun _ _ _ h => h) (Or.inl ⟨by rfl, ?_⟩) (by assumption) ?_
  rotate_left
  · intro w' hSw
    try dsimp only at hSw
    go_simp
    try with_reducible rfl
  try simp only [Act.put, List.setIfInBounds_toArray, List.set_cons_zero, List.set_cons_succ]
  refine GoF.take 1 (some 112) (v := ?_) rfl rfl (by kernel_rfl) (by kernel_rfl) (by kernel_rfl) (fun _ _ _ h => h) (Or.inl ⟨by rfl, ?_⟩) (by assumption) ?_
  rotate_left
  · intro w' hSw
    try dsimp only at hSw
    go_simp
    try with_reducible rfl
  try simp only [Act.put, List.setIfInBounds_toArray, List.set_cons_zero, List.set_cons_succ]
  refine GoF.take 2 (some 113) (v := ?_) rfl rfl (by kernel_rfl) (by kernel_rfl) (by kernel_rfl) (fun _ _ _ h => h) (Or.inl ⟨by rfl, ?_⟩) (by assumption) ?_
  rotate_left
  · intro w' hSw
    try dsimp only at hSw
    go_simp
    try with_reducible rfl
  try simp only [Act.put, List.setIfInBounds_toArray, List.set_cons_zero, List.set_cons_succ]
  refine GoF.take 3 (some 114) (v := ?_) rfl rfl (by kernel_rfl) (by kernel_rfl) (by kernel_rfl) (fun _ _ _ h => h) (Or.inl ⟨by rfl, ?_⟩) (by assumption) ?_
  rotate_left
  · intro w' hSw
    try dsimp only at hSw
    go_simp
    try with_reducible rfl
  try simp only [Act.put, List.setIfInBounds_toArray, List.set_cons_zero, List.set_cons_succ]
  refine GoF.take 4 (some 115) (v := ?_) rfl rfl (by kernel_rfl) (by kernel_rfl) (by kernel_rfl) (fun _ _ _ h => h) (Or.inl ⟨by rfl, ?_⟩) (by assumption) ?_
  rotate_left
  · intro w' hSw
    try dsimp only at hSw
    go_simp
    try with_reducible rfl
  try simp only [Act.put, List.setIfInBounds_toArray, List.set_cons_zero, List.set_cons_succ]
  refine GoF.take 5 (some 116) (v := ?_) rfl rfl (by kernel_rfl) (by kernel_rfl) (by kernel_rfl) (fun _ _ _ h => h) (Or.inl ⟨by rfl, ?_⟩) (by assumption) ?_
  rotate_left
  · intro w' hSw
    try dsimp only at hSw
    go_simp
    try with_reducible rfl
  try simp only [Act.put, List.setIfInBounds_toArray, List.set_cons_zero, List.set_cons_succ]
  refine GoF.take 6 (some 117) (v := ?_) rfl rfl (by kernel_rfl) (by kernel_rfl) (by kernel_rfl) (fun _ _ _ h => h) (Or.inl ⟨by rfl, ?_⟩) (by assumption) ?_
  rotate_left
  · intro w' hSw
    try dsimp only at hSw
    go_simp
    try with_reducible rfl
  try simp only [Act.put, List.setIfInBounds_toArray, List.set_cons_zero, List.set_cons_succ]
  refine GoF.take 7 (some 118) (v := ?_) rfl rfl (by kernel_rfl) (by kernel_rfl) (by kernel_rfl) (fun _ _ _ h => h) (Or.inl ⟨by rfl, ?_⟩) (by assumption) ?_
  rotate_left
  · intro w' hSw
    try dsimp only at hSw
    go_simp
    try with_reducible rfl
  try simp only [Act.put, List.setIfInBounds_toArray, List.set_cons_zero, List.set_cons_succ]
  refine GoF.each (rs := [8, 14, 15]) (by kernel_rfl) (by kernel_rfl) (by kernel_rfl) ?_
  refine EachF.cons (i := 8) rfl (fun K hK => ?_) ?_
  · go_simp
    refine (read_any wd A c nl l kk key pp qq RD.out (BBL.out.ext Xd.out) NL.out).mono ?_
    rintro e w1 ⟨rfl, hxx⟩
    have X1 := hide (Xd.out.trans hxx)

    clear hxx
    try go_simp
    refine hK.out _ _ (HS.out _ X1.out) (fun hHeld => ?_)
    clear hK K
    try simp only [Act.put, List.setIfInBounds_toArray, List.set_cons_zero, List.set_cons_succ]
    refine GoF.take 9 (some 110) (v := ?_) rfl rfl (by kernel_rfl) (by kernel_rfl) (by kernel_rfl) (fun _ _ _ h => h) (Or.inl ⟨by rfl, ?_⟩) (by assumption) ?_
    rotate_left
    · intro w' hSw
      try dsimp only at hSw
      go_simp
      try with_reducible rfl
    try simp only [Act.put, List.setIfInBounds_toArray, List.set_cons_zero, List.set_cons_succ]
    refine GoF.take 10 (some 120) (v := ?_) rfl rfl (by kernel_rfl) (by kernel_rfl) (by kernel_rfl) (fun _ _ _ h => h) (Or.inl ⟨by rfl, ?_⟩) (by assumption) ?_
    rotate_left
    · intro w' hSw
      try dsimp only at hSw
      go_simp
      try with_reducible rfl
    try simp only [Act.put, List.setIfInBounds_toArray, List.set_cons_zero, List.set_cons_succ]
    refine GoF.take 11 (some 121) (v := ?_) rfl rfl (by kernel_rfl) (by kernel_rfl) (by kernel_rfl) (fun _ _ _ h => h) (Or.inl ⟨by rfl, ?_⟩) (by assumption) ?_
    rotate_left
    · intro w' hSw
      try dsimp only at hSw
      go_simp
      try with_reducible rfl
    try simp only [Act.put, List.setIfInBounds_toArray, List.set_cons_zero, List.set_cons_succ]
    refine GoF.take 12 (some 122) (v := ?_) rfl rfl (by kernel_rfl) (by kernel_rfl) (by kernel_rfl) (fun _ _ _ h => h) (Or.inl ⟨by rfl, ?_⟩) (by assumption) ?_
    rotate_left
    · intro w' hSw
      try dsimp only at hSw
      go_simp
      try with_reducible rfl
    try simp only [Act.put, List.setIfInBounds_toArray, List.set_cons_zero, List.set_cons_succ]
    refine GoF.take 13 (some 123) (v := ?_) rfl rfl (by kernel_rfl) (by kernel_rfl) (by kernel_rfl) (fun _ _ _ h => h) (Or.inl ⟨by rfl, ?_⟩) (by assumption) ?_
    rotate_left
    · intro w' hSw
      try dsimp only at hSw
      go_simp
      try with_reducible rfl
    try simp only [Act.put, List.setIfInBounds_toArray, List.set_cons_zero, List.set_cons_succ]
    refine GoF.each (rs := [14, 15]) (by kernel_rfl) (by kernel_rfl) (by kernel_rfl) ?_
    refine EachF.cons (i := 14) rfl (fun K hK => ?_) ?_
    · go_simp
      refine hK.out _ _ (HS.out _ (X1.out.alloc _)) (fun hHeld => ?_)
      clear hK K
      try simp only [Act.put, List.setIfInBounds_toArray, List.set_cons_zero, List.set_cons_succ]
      obtain ⟨w2, hxw⟩ : ∃ wx, wx = w1.alloc (.cells #[.string ⟨#[]⟩, .string ⟨#[]⟩, .string ⟨#[]⟩] 52) := ⟨_, rfl⟩
      have hxx : Ext w1 w2 := by rw [hxw]; exact Ext.new w1 _
      have X2 := hide (X1.out.trans hxx)
      have BR := hide (show Blk w2 w1.heap.size 52 #[.string ⟨#[]⟩, .string ⟨#[]⟩, .string ⟨#[]⟩] by rw [hxw]; exact Blk.new w1 52 _)
      obtain ⟨rb, hrb⟩ : ∃ xb, xb = w1.heap.size := ⟨_, rfl⟩
      have Hrb := hide (show wr.heap.size ≤ rb by rw [hrb]; exact X1.out.size)

      rw [← hxw] at hHeld ⊢
      rw [← hrb]
      rw [← hrb] at BR
      clear hxw hxx hrb
      refine GoF.each (rs := [15]) (by kernel_rfl) (by kernel_rfl) (by kernel_rfl) ?_
      refine EachF.cons (i := 15) rfl (fun K hK => ?_) EachF.nil
      have hold := BR.out.lt
      go_simp
      refine hK.out _ _ (HS.out _ (X2.out.alloc _)) (fun hHeld => ?_)
      clear hK K
      try simp only [Act.put, List.setIfInBounds_toArray, List.set_cons_zero, List.set_cons_succ]
      obtain ⟨w3, hxw⟩ : ∃ wx, wx = w2.alloc (.cells #[.int .i64 0, .int .i64 0] 25) := ⟨_, rfl⟩
      have hxx : Ext w2 w3 := by rw [hxw]; exact Ext.new w2 _
      have X3 := hide (X2.out.trans hxx)
      have BT := hide (show Blk w3 w2.heap.size 25 #[.int .i64 0, .int .i64 0] by rw [hxw]; exact Blk.new w2 25 _)
      obtain ⟨tb, htb⟩ : ∃ xb, xb = w2.heap.size := ⟨_, rfl⟩
      have Htb := hide (show wr.heap.size ≤ tb by rw [htb]; exact X2.out.size)
      have BR := hide (hxx.blk BR.out)
      have HNE := hide (show rb ≠ tb by omega)
      clear hold
      rw [← hxw] at hHeld ⊢
      rw [← htb]
      rw [← htb] at BT
      clear hxw hxx htb
      refine GoF.take 16 (some 21) (v := ?_) rfl rfl (by kernel_rfl) (by kernel_rfl) (by kernel_rfl) (fun _ _ _ h => h) (Or.inl ⟨by rfl, ?_⟩) (by assumption) ?_
      rotate_left
      · intro w' hSw
        try dsimp only at hSw
        go_simp
        try with_reducible rfl
      try simp only [Act.put, List.setIfInBounds_toArray, List.set_cons_zero, List.set_cons_succ]
      refine GoF.each (rs := [17]) (by kernel_rfl) (by kernel_rfl) (by kernel_rfl) ?_
      refine EachF.cons (i := 17) rfl (fun K hK => ?_) EachF.nil
      obtain ⟨y0, y1, y2⟩ := BR.out.cells3
      have f0 := BR.out.frozen 0
      have f1 := BR.out.frozen 1
      have f2 := BR.out.frozen 2
      have T6 := touch_set3 w3 rb (.string ⟨key.toArray⟩) (.string ⟨#[]⟩) (.string ⟨#[]⟩)
      have hxx := Touch.ext X3.out T6 Hrb.out
      have BR := hide (BR.out.set3 (.string ⟨key.toArray⟩) (.string ⟨#[]⟩) (.string ⟨#[]⟩))
      have BT := hide (T6.blk BT.out (Ne.symm HNE.out))
      go_simp
      refine hK.out _ _ (HS.out _ hxx) (fun hHeld => ?_)
      clear hK K y0 y1 y2 f0 f1 f2 T6
      try simp only [Act.put, List.setIfInBounds_toArray, List.set_cons_zero, List.set_cons_succ]
      obtain ⟨w4, hxw⟩ : ∃ wx, wx = ((w3.setCell ⟨rb, 0, none⟩ (.string ⟨key.toArray⟩)).setCell ⟨rb, 1, none⟩ (.string ⟨#[]⟩)).setCell ⟨rb, 2, none⟩ (.string ⟨#[]⟩) := ⟨_, rfl⟩
      rw [← hxw] at hxx BR BT hHeld ⊢
      have X4 := hide hxx
      clear hxw hxx
      refine GoF.each (rs := [18]) (by kernel_rfl) (by kernel_rfl) (by kernel_rfl) ?_
      refine EachF.cons (i := 18) rfl (fun K hK => ?_) EachF.nil
      obtain ⟨x0, x1⟩ := BT.out.cells2
      have f0 := BT.out.frozen 0
      have f1 := BT.out.frozen 1
      have T6 := touch_set2 w4 tb (.int .i64 pp) (.int .i64 qq)
      have hxx := Touch.ext X4.out T6 Htb.out
      have BT := hide (BT.out.set2 (.int .i64 pp) (.int .i64 qq))
      have BR := hide (T6.blk BR.out HNE.out)
      go_simp
      refine hK.out _ _ (HS.out _ hxx) (fun hHeld => ?_)
      clear hK K x0 x1 f0 f1 T6
      try simp only [Act.put, List.setIfInBounds_toArray, List.set_cons_zero, List.set_cons_succ]
      obtain ⟨w5, hxw⟩ : ∃ wx, wx = (w4.setCell ⟨tb, 0, none⟩ (.int .i64 pp)).setCell ⟨tb, 1, none⟩ (.int .i64 qq) := ⟨_, rfl⟩
      rw [← hxw] at hxx BR BT hHeld ⊢
      have X5 := hide hxx
      clear hxw hxx
      refine GoF.last (by kernel_rfl) (by kernel_rfl) rfl (fun K hK => ?_)
      go_simp
      refine hK.out _ _ (NoPanic.normal ?_)
      clear hK K hHeld
      go_wp2_with (fail)
      exact hKK _ _ _ _ _ _ _ _ _ _ _ _ _ _ _ _ _ _ BR.out BT.out X5.out
    refine EachF.cons (i := 15) rfl (fun K hK => ?_) ?_
    · go_simp
      refine hK.out _ _ (HS.out _ (X1.out.alloc _)) (fun hHeld => ?_)
      clear hK K
      try simp only [Act.put, List.setIfInBounds_toArray, List.set_cons_zero, List.set_cons_succ]
      obtain ⟨w2, hxw⟩ : ∃ wx, wx = w1.alloc (.cells #[.int .i64 0, .int .i64 0] 25) := ⟨_, rfl⟩
      have hxx : Ext w1 w2 := by rw [hxw]; exact Ext.new w1 _
      have X2 := hide (X1.out.trans hxx)
      have BT := hide (show Blk w2 w1.heap.size 25 #[.int .i64 0, .int .i64 0] by rw [hxw]; exact Blk.new w1 25 _)
      obtain ⟨tb, htb⟩ : ∃ xb, xb = w1.heap.size := ⟨_, rfl⟩
      have Htb := hide (show wr.heap.size ≤ tb by rw [htb]; exact X1.out.size)

      rw [← hxw] at hHeld ⊢
      rw [← htb]
      rw [← htb] at BT
      clear hxw hxx htb
      refine GoF.each (rs := [14]) (by kernel_rfl) (by kernel_rfl) (by kernel_rfl) ?_
      refine EachF.cons (i := 14) rfl (fun K hK => ?_) EachF.nil
      have hold := BT.out.lt
      go_simp
      refine hK.out _ _ (HS.out _ (X2.out.alloc _)) (fun hHeld => ?_)
      clear hK K
      try simp only [Act.put, List.setIfInBounds_toArray, List.set_cons_zero, List.set_cons_succ]
      obtain ⟨w3, hxw⟩ : ∃ wx, wx = w2.alloc (.cells #[.string ⟨#[]⟩, .string ⟨#[]⟩, .string ⟨#[]⟩] 52) := ⟨_, rfl⟩
      have hxx : Ext w2 w3 := by rw [hxw]; exact Ext.new w2 _
      have X3 := hide (X2.out.trans hxx)
      have BR := hide (show Blk w3 w2.heap.size 52 #[.string ⟨#[]⟩, .string ⟨#[]⟩, .string ⟨#[]⟩] by rw [hxw]; exact Blk.new w2 52 _)
      obtain ⟨rb, hrb⟩ : ∃ xb, xb = w2.heap.size := ⟨_, rfl⟩
      have Hrb := hide (show wr.heap.size ≤ rb by rw [hrb]; exact X2.out.size)
      have BT := hide (hxx.blk BT.out)
      have HNE := hide (show rb ≠ tb by omega)
      clear hold
      rw [← hxw] at hHeld ⊢
      rw [← hrb]
      rw [← hrb] at BR
      clear hxw hxx hrb
      refine GoF.take 16 (some 21) (v := ?_) rfl rfl (by kernel_rfl) (by kernel_rfl) (by kernel_rfl) (fun _ _ _ h => h) (Or.inl ⟨by rfl, ?_⟩) (by assumption) ?_
      rotate_left
      · intro w' hSw
        try dsimp only at hSw
        go_simp
        try with_reducible rfl
      try simp only [Act.put, List.setIfInBounds_toArray, List.set_cons_zero, List.set_cons_succ]
      refine GoF.each (rs := [17]) (by kernel_rfl) (by kernel_rfl) (by kernel_rfl) ?_
      refine EachF.cons (i := 17) rfl (fun K hK => ?_) EachF.nil
      obtain ⟨y0, y1, y2⟩ := BR.out.cells3
      have f0 := BR.out.frozen 0
      have f1 := BR.out.frozen 1
      have f2 := BR.out.frozen 2
      have T6 := touch_set3 w3 rb (.string ⟨key.toArray⟩) (.string ⟨#[]⟩) (.string ⟨#[]⟩)
      have hxx := Touch.ext X3.out T6 Hrb.out
      have BR := hide (BR.out.set3 (.string ⟨key.toArray⟩) (.string ⟨#[]⟩) (.string ⟨#[]⟩))
      have BT := hide (T6.blk BT.out (Ne.symm HNE.out))
      go_simp
      refine hK.out _ _ (HS.out _ hxx) (fun hHeld => ?_)
      clear hK K y0 y1 y2 f0 f1 f2 T6
      try simp only [Act.put, List.setIfInBounds_toArray, List.set_cons_zero, List.set_cons_succ]
      obtain ⟨w4, hxw⟩ : ∃ wx, wx = ((w3.setCell ⟨rb, 0, none⟩ (.string ⟨key.toArray⟩)).setCell ⟨rb, 1, none⟩ (.string ⟨#[]⟩)).setCell ⟨rb, 2, none⟩ (.string ⟨#[]⟩) := ⟨_, rfl⟩
      rw [← hxw] at hxx BR BT hHeld ⊢
      have X4 := hide hxx
      clear hxw hxx
      refine GoF.each (rs := [18]) (by kernel_rfl) (by kernel_rfl) (by kernel_rfl) ?_
      refine EachF.cons (i := 18) rfl (fun K hK => ?_) EachF.nil
      obtain ⟨x0, x1⟩ := BT.out.cells2
      have f0 := BT.out.frozen 0
      have f1 := BT.out.frozen 1
      have T6 := touch_set2 w4 tb (.int .i64 pp) (.int .i64 qq)
      have hxx := Touch.ext X4.out T6 Htb.out
      have BT := hide (BT.out.set2 (.int .i64 pp) (.int .i64 qq))
      have BR := hide (T6.blk BR.out HNE.out)
      go_simp
      refine hK.out _ _ (HS.out _ hxx) (fun hHeld => ?_)
      clear hK K x0 x1 f0 f1 T6
      try simp only [Act.put, List.setIfInBounds_toArray, List.set_cons_zero, List.set_cons_succ]
      obtain ⟨w5, hxw⟩ : ∃ wx, wx = (w4.setCell ⟨tb, 0, none⟩ (.int .i64 pp)).setCell ⟨tb, 1, none⟩ (.int .i64 qq) := ⟨_, rfl⟩
      rw [← hxw] at hxx BR BT hHeld ⊢
      have X5 := hide hxx
      clear hxw hxx
      refine GoF.last (by kernel_rfl) (by kernel_rfl) rfl (fun K hK => ?_)
      go_simp
      refine hK.out _ _ (NoPanic.normal ?_)
      clear hK K hHeld
      go_wp2_with (fail)
      exact hKK _ _ _ _ _ _ _ _ _ _ _ _ _ _ _ _ _ _ BR.out BT.out X5.out
    exact EachF.nil
  refine EachF.cons (i := 14) rfl (fun K hK => ?_) ?_
  · go_simp
    refine hK.out _ _ (HS.out _ (Xd.out.alloc _)) (fun hHeld => ?_)
    clear hK K
    try simp only [Act.put, List.setIfInBounds_toArray, List.set_cons_zero, List.set_cons_succ]
    obtain ⟨w1, hxw⟩ : ∃ wx, wx = wd.alloc (.cells #[.string ⟨#[]⟩, .string ⟨#[]⟩, .string ⟨#[]⟩] 52) := ⟨_, rfl⟩
    have hxx : Ext wd w1 := by rw [hxw]; exact Ext.new wd _
    have X1 := hide (Xd.out.trans hxx)
    have BR := hide (show Blk w1 wd.heap.size 52 #[.string ⟨#[]⟩, .string ⟨#[]⟩, .string ⟨#[]⟩] by rw [hxw]; exact Blk.new wd 52 _)
    obtain ⟨rb, hrb⟩ : ∃ xb, xb = wd.heap.size := ⟨_, rfl⟩
    have Hrb := hide (show wr.heap.size ≤ rb by rw [hrb]; exact Xd.out.size)

    rw [← hxw] at hHeld ⊢
    rw [← hrb]
    rw [← hrb] at BR
    clear hxw hxx hrb
    refine GoF.each (rs := [8, 15]) (by kernel_rfl) (by kernel_rfl) (by kernel_rfl) ?_
    refine EachF.cons (i := 8) rfl (fun K hK => ?_) ?_
    · go_simp
      refine (read_any w1 A c nl l kk key pp qq RD.out (BBL.out.ext X1.out) NL.out).mono ?_
      rintro e w2 ⟨rfl, hxx⟩
      have X2 := hide (X1.out.trans hxx)
      have BR := hide (hxx.blk BR.out)

      clear hxx
      try go_simp
      refine hK.out _ _ (HS.out _ X2.out) (fun hHeld => ?_)
      clear hK K
      try simp only [Act.put, List.setIfInBounds_toArray, List.set_cons_zero, List.set_cons_succ]
      refine GoF.take 9 (some 110) (v := ?_) rfl rfl (by kernel_rfl) (by kernel_rfl) (by kernel_rfl) (fun _ _ _ h => h) (Or.inl ⟨by rfl, ?_⟩) (by assumption) ?_
      rotate_left
      · intro w' hSw
        try dsimp only at hSw
        go_simp
        try with_reducible rfl
      try simp only [Act.put, List.setIfInBounds_toArray, List.set_cons_zero, List.set_cons_succ]
      refine GoF.take 10 (some 120) (v := ?_) rfl rfl (by kernel_rfl) (by kernel_rfl) (by kernel_rfl) (fun _ _ _ h => h) (Or.inl ⟨by rfl, ?_⟩) (by assumption) ?_
      rotate_left
      · intro w' hSw
        try dsimp only at hSw
        go_simp
        try with_reducible rfl
      try simp only [Act.put, List.setIfInBounds_toArray, List.set_cons_zero, List.set_cons_succ]
      refine GoF.take 11 (some 121) (v := ?_) rfl rfl (by kernel_rfl) (by kernel_rfl) (by kernel_rfl) (fun _ _ _ h => h) (Or.inl ⟨by rfl, ?_⟩) (by assumption) ?_
      rotate_left
      · intro w' hSw
        try dsimp only at hSw
        go_simp
        try with_reducible rfl
      try simp only [Act.put, List.setIfInBounds_toArray, List.set_cons_zero, List.set_cons_succ]
      refine GoF.take 12 (some 122) (v := ?_) rfl rfl (by kernel_rfl) (by kernel_rfl) (by kernel_rfl) (fun _ _ _ h => h) (Or.inl ⟨by rfl, ?_⟩) (by assumption) ?_
      rotate_left
      · intro w' hSw
        try dsimp only at hSw
        go_simp
        try with_reducible rfl
      try simp only [Act.put, List.setIfInBounds_toArray, List.set_cons_zero, List.set_cons_succ]
      refine GoF.take 13 (some 123) (v := ?_) rfl rfl (by kernel_rfl) (by kernel_rfl) (by kernel_rfl) (fun _ _ _ h => h) (Or.inl ⟨by rfl, ?_⟩) (by assumption) ?_
      rotate_left
      · intro w' hSw
        try dsimp only at hSw
        go_simp
        try with_reducible rfl
      try simp only [Act.put, List.setIfInBounds_toArray, List.set_cons_zero, List.set_cons_succ]
      refine GoF.each (rs := [15]) (by kernel_rfl) (by kernel_rfl) (by kernel_rfl) ?_
      refine EachF.cons (i := 15) rfl (fun K hK => ?_) EachF.nil
      have hold := BR.out.lt
      go_simp
      refine hK.out _ _ (HS.out _ (X2.out.alloc _)) (fun hHeld => ?_)
      clear hK K
      try simp only [Act.put, List.setIfInBounds_toArray, List.set_cons_zero, List.set_cons_succ]
      obtain ⟨w3, hxw⟩ : ∃ wx, wx = w2.alloc (.cells #[.int .i64 0, .int .i64 0] 25) := ⟨_, rfl⟩
      have hxx : Ext w2 w3 := by rw [hxw]; exact Ext.new w2 _
      have X3 := hide (X2.out.trans hxx)
      have BT := hide (show Blk w3 w2.heap.size 25 #[.int .i64 0, .int .i64 0] by rw [hxw]; exact Blk.new w2 25 _)
      obtain ⟨tb, htb⟩ : ∃ xb, xb = w2.heap.size := ⟨_, rfl⟩
      have Htb := hide (show wr.heap.size ≤ tb by rw [htb]; exact X2.out.size)
      have BR := hide (hxx.blk BR.out)
      have HNE := hide (show rb ≠ tb by omega)
      clear hold
      rw [← hxw] at hHeld ⊢
      rw [← htb]
      rw [← htb] at BT
      clear hxw hxx htb
      refine GoF.take 16 (some 21) (v := ?_) rfl rfl (by kernel_rfl) (by kernel_rfl) (by kernel_rfl) (fun _ _ _ h => h) (Or.inl ⟨by rfl, ?_⟩) (by assumption) ?_
      rotate_left
      · intro w' hSw
        try dsimp only at hSw
        go_simp
        try with_reducible rfl
      try simp only [Act.put, List.setIfInBounds_toArray, List.set_cons_zero, List.set_cons_succ]
      refine GoF.each (rs := [17]) (by kernel_rfl) (by kernel_rfl) (by kernel_rfl) ?_
      refine EachF.cons (i := 17) rfl (fun K hK => ?_) EachF.nil
      obtain ⟨y0, y1, y2⟩ := BR.out.cells3
      have f0 := BR.out.frozen 0
      have f1 := BR.out.frozen 1
      have f2 := BR.out.frozen 2
      have T6 := touch_set3 w3 rb (.string ⟨key.toArray⟩) (.string ⟨#[]⟩) (.string ⟨#[]⟩)
      have hxx := Touch.ext X3.out T6 Hrb.out
      have BR := hide (BR.out.set3 (.string ⟨key.toArray⟩) (.string ⟨#[]⟩) (.string ⟨#[]⟩))
      have BT := hide (T6.blk BT.out (Ne.symm HNE.out))
      go_simp
      refine hK.out _ _ (HS.out _ hxx) (fun hHeld => ?_)
      clear hK K y0 y1 y2 f0 f1 f2 T6
      try simp only [Act.put, List.setIfInBounds_toArray, List.set_cons_zero, List.set_cons_succ]
      obtain ⟨w4, hxw⟩ : ∃ wx, wx = ((w3.setCell ⟨rb, 0, none⟩ (.string ⟨key.toArray⟩)).setCell ⟨rb, 1, none⟩ (.string ⟨#[]⟩)).setCell ⟨rb, 2, none⟩ (.string ⟨#[]⟩) := ⟨_, rfl⟩
      rw [← hxw] at hxx BR BT hHeld ⊢
      have X4 := hide hxx
      clear hxw hxx
      refine GoF.each (rs := [18]) (by kernel_rfl) (by kernel_rfl) (by kernel_rfl) ?_
      refine EachF.cons (i := 18) rfl (fun K hK => ?_) EachF.nil
      obtain ⟨x0, x1⟩ := BT.out.cells2
      have f0 := BT.out.frozen 0
      have f1 := BT.out.frozen 1
      have T6 := touch_set2 w4 tb (.int .i64 pp) (.int .i64 qq)
      have hxx := Touch.ext X4.out T6 Htb.out
      have BT := hide (BT.out.set2 (.int .i64 pp) (.int .i64 qq))
      have BR := hide (T6.blk BR.out HNE.out)
      go_simp
      refine hK.out _ _ (HS.out _ hxx) (fun hHeld => ?_)
      clear hK K x0 x1 f0 f1 T6
      try simp only [Act.put, List.setIfInBounds_toArray, List.set_cons_zero, List.set_cons_succ]
      obtain ⟨w5, hxw⟩ : ∃ wx, wx = (w4.setCell ⟨tb, 0, none⟩ (.int .i64 pp)).setCell ⟨tb, 1, none⟩ (.int .i64 qq) := ⟨_, rfl⟩
      rw [← hxw] at hxx BR BT hHeld ⊢
      have X5 := hide hxx
      clear hxw hxx
      refine GoF.last (by kernel_rfl) (by kernel_rfl) rfl (fun K hK => ?_)
      go_simp
      refine hK.out _ _ (NoPanic.normal ?_)
      clear hK K hHeld
      go_wp2_with (fail)
      exact hKK _ _ _ _ _ _ _ _ _ _ _ _ _ _ _ _ _ _ BR.out BT.out X5.out
    refine EachF.cons (i := 15) rfl (fun K hK => ?_) ?_
    · have hold := BR.out.lt
      go_simp
      refine hK.out _ _ (HS.out _ (X1.out.alloc _)) (fun hHeld => ?_)
      clear hK K
      try simp only [Act.put, List.setIfInBounds_toArray, List.set_cons_zero, List.set_cons_succ]
      obtain ⟨w2, hxw⟩ : ∃ wx, wx = w1.alloc (.cells #[.int .i64 0, .int .i64 0] 25) := ⟨_, rfl⟩
      have hxx : Ext w1 w2 := by rw [hxw]; exact Ext.new w1 _
      have X2 := hide (X1.out.trans hxx)
      have BT := hide (show Blk w2 w1.heap.size 25 #[.int .i64 0, .int .i64 0] by rw [hxw]; exact Blk.new w1 25 _)
      obtain ⟨tb, htb⟩ : ∃ xb, xb = w1.heap.size := ⟨_, rfl⟩
      have Htb := hide (show wr.heap.size ≤ tb by rw [htb]; exact X1.out.size)
      have BR := hide (hxx.blk BR.out)
      have HNE := hide (show rb ≠ tb by omega)
      clear hold
      rw [← hxw] at hHeld ⊢
      rw [← htb]
      rw [← htb] at BT
      clear hxw hxx htb
      refine GoF.each (rs := [8]) (by kernel_rfl) (by kernel_rfl) (by kernel_rfl) ?_
      refine EachF.cons (i := 8) rfl (fun K hK => ?_) EachF.nil
      go_simp
      refine (read_any w2 A c nl l kk key pp qq RD.out (BBL.out.ext X2.out) NL.out).mono ?_
      rintro e w3 ⟨rfl, hxx⟩
      have X3 := hide (X2.out.trans hxx)
      have BR := hide (hxx.blk BR.out)
      have BT := hide (hxx.blk BT.out)

      clear hxx
      try go_simp
      refine hK.out _ _ (HS.out _ X3.out) (fun hHeld => ?_)
      clear hK K
      try simp only [Act.put, List.setIfInBounds_toArray, List.set_cons_zero, List.set_cons_succ]
      refine GoF.take 9 (some 110) (v := ?_) rfl rfl (by kernel_rfl) (by kernel_rfl) (by kernel_rfl) (fun _ _ _ h => h) (Or.inl ⟨by rfl, ?_⟩) (by assumption) ?_
      rotate_left
      · intro w' hSw
        try dsimp only at hSw
        go_simp
        try with_reducible rfl
      try simp only [Act.put, List.setIfInBounds_toArray, List.set_cons_zero, List.set_cons_succ]
      refine GoF.take 10 (some 120) (v := ?_) rfl rfl (by kernel_rfl) (by kernel_rfl) (by kernel_rfl) (fun _ _ _ h => h) (Or.inl ⟨by rfl, ?_⟩) (by assumption) ?_
      rotate_left
      · intro w' hSw
        try dsimp only at hSw
        go_simp
        try with_reducible rfl
      try simp only [Act.put, List.setIfInBounds_toArray, List.set_cons_zero, List.set_cons_succ]
      refine GoF.take 11 (some 121) (v := ?_) rfl rfl (by kernel_rfl) (by kernel_rfl) (by kernel_rfl) (fun _ _ _ h => h) (Or.inl ⟨by rfl, ?_⟩) (by assumption) ?_
      rotate_left
      · intro w' hSw
        try dsimp only at hSw
        go_simp
        try with_reducible rfl
      try simp only [Act.put, List.setIfInBounds_toArray, List.set_cons_zero, List.set_cons_succ]
      refine GoF.take 12 (some 122) (v := ?_) rfl rfl (by kernel_rfl) (by kernel_rfl) (by kernel_rfl) (fun _ _ _ h => h) (Or.inl ⟨by rfl, ?_⟩) (by assumption) ?_
      rotate_left
      · intro w' hSw
        try dsimp only at hSw
        go_simp
        try with_reducible rfl
      try simp only [Act.put, List.setIfInBounds_toArray, List.set_cons_zero, List.set_cons_succ]
      refine GoF.take 13 (some 123) (v := ?_) rfl rfl (by kernel_rfl) (by kernel_rfl) (by kernel_rfl) (fun _ _ _ h => h) (Or.inl ⟨by rfl, ?_⟩) (by assumption) ?_
      rotate_left
      · intro w' hSw
        try dsimp only at hSw
        go_simp
        try with_reducible rfl
      try simp only [Act.put, List.setIfInBounds_toArray, List.set_cons_zero, List.set_cons_succ]
      refine GoF.take 16 (some 21) (v := ?_) rfl rfl (by kernel_rfl) (by kernel_rfl) (by kernel_rfl) (fun _ _ _ h => h) (Or.inl ⟨by rfl, ?_⟩) (by assumption) ?_
      rotate_left
      · intro w' hSw
        try dsimp only at hSw
        go_simp
        try with_reducible rfl
      try simp only [Act.put, List.setIfInBounds_toArray, List.set_cons_zero, List.set_cons_succ]
      refine GoF.each (rs := [17]) (by kernel_rfl) (by kernel_rfl) (by kernel_rfl) ?_
      refine EachF.cons (i := 17) rfl (fun K hK => ?_) EachF.nil
      obtain ⟨y0, y1, y2⟩ := BR.out.cells3
      have f0 := BR.out.frozen 0
      have f1 := BR.out.frozen 1
      have f2 := BR.out.frozen 2
      have T6 := touch_set3 w3 rb (.string ⟨key.toArray⟩) (.string ⟨#[]⟩) (.string ⟨#[]⟩)
      have hxx := Touch.ext X3.out T6 Hrb.out
      have BR := hide (BR.out.set3 (.string ⟨key.toArray⟩) (.string ⟨#[]⟩) (.string ⟨#[]⟩))
      have BT := hide (T6.blk BT.out (Ne.symm HNE.out))
      go_simp
      refine hK.out _ _ (HS.out _ hxx) (fun hHeld => ?_)
      clear hK K y0 y1 y2 f0 f1 f2 T6
      try simp only [Act.put, List.setIfInBounds_toArray, List.set_cons_zero, List.set_cons_succ]
      obtain ⟨w4, hxw⟩ : ∃ wx, wx = ((w3.setCell ⟨rb, 0, none⟩ (.string ⟨key.toArray⟩)).setCell ⟨rb, 1, none⟩ (.string ⟨#[]⟩)).setCell ⟨rb, 2, none⟩ (.string ⟨#[]⟩) := ⟨_, rfl⟩
      rw [← hxw] at hxx BR BT hHeld ⊢
      have X4 := hide hxx
      clear hxw hxx
      refine GoF.each (rs := [18]) (by kernel_rfl) (by kernel_rfl) (by kernel_rfl) ?_
      refine EachF.cons (i := 18) rfl (fun K hK => ?_) EachF.nil
      obtain ⟨x0, x1⟩ := BT.out.cells2
      have f0 := BT.out.frozen 0
      have f1 := BT.out.frozen 1
      have T6 := touch_set2 w4 tb (.int .i64 pp) (.int .i64 qq)
      have hxx := Touch.ext X4.out T6 Htb.out
      have BT := hide (BT.out.set2 (.int .i64 pp) (.int .i64 qq))
      have BR := hide (T6.blk BR.out HNE.out)
      go_simp
      refine hK.out _ _ (HS.out _ hxx) (fun hHeld => ?_)
      clear hK K x0 x1 f0 f1 T6
      try simp only [Act.put, List.setIfInBounds_toArray, List.set_cons_zero, List.set_cons_succ]
      obtain ⟨w5, hxw⟩ : ∃ wx, wx = (w4.setCell ⟨tb, 0, none⟩ (.int .i64 pp)).setCell ⟨tb, 1, none⟩ (.int .i64 qq) := ⟨_, rfl⟩
      rw [← hxw] at hxx BR BT hHeld ⊢
      have X5 := hide hxx
      clear hxw hxx
      refine GoF.last (by kernel_rfl) (by kernel_rfl) rfl (fun K hK => ?_)
      go_simp
      refine hK.out _ _ (NoPanic.normal ?_)
      clear hK K hHeld
      go_wp2_with (fail)
      exact hKK _ _ _ _ _ _ _ _ _ _ _ _ _ _ _ _ _ _ BR.out BT.out X5.out
    exact EachF.nil
  refine EachF.cons (i := 15) rfl (fun K hK => ?_) ?_
  · go_simp
    refine hK.out _ _ (HS.out _ (Xd.out.alloc _)) (fun hHeld => ?_)
    clear hK K
    try simp only [Act.put, List.setIfInBounds_toArray, List.set_cons_zero, List.set_cons_succ]
    obtain ⟨w1, hxw⟩ : ∃ wx, wx = wd.alloc (.cells #[.int .i64 0, .int .i64 0] 25) := ⟨_, rfl⟩
    have hxx : Ext wd w1 := by rw [hxw]; exact Ext.new wd _
    have X1 := hide (Xd.out.trans hxx)
    have BT := hide (show Blk w1 wd.heap.size 25 #[.int .i64 0, .int .i64 0] by rw [hxw]; exact Blk.new wd 25 _)
    obtain ⟨tb, htb⟩ : ∃ xb, xb = wd.heap.size := ⟨_, rfl⟩
    have Htb := hide (show wr.heap.size ≤ tb by rw [htb]; exact Xd.out.size)

    rw [← hxw] at hHeld ⊢
    rw [← htb]
    rw [← htb] at BT
    clear hxw hxx htb
    refine GoF.each (rs := [8, 14]) (by kernel_rfl) (by kernel_rfl) (by kernel_rfl) ?_
    refine EachF.cons (i := 8) rfl (fun K hK => ?_) ?_
    · go_simp
      refine (read_any w1 A c nl l kk key pp qq RD.out (BBL.out.ext X1.out) NL.out).mono ?_
      rintro e w2 ⟨rfl, hxx⟩
      have X2 := hide (X1.out.trans hxx)
      have BT := hide (hxx.blk BT.out)

      clear hxx
      try go_simp
      refine hK.out _ _ (HS.out _ X2.out) (fun hHeld => ?_)
      clear hK K
      try simp only [Act.put, List.setIfInBounds_toArray, List.set_cons_zero, List.set_cons_succ]
      refine GoF.take 9 (some 110) (v := ?_) rfl rfl (by kernel_rfl) (by kernel_rfl) (by kernel_rfl) (fun _ _ _ h => h) (Or.inl ⟨by rfl, ?_⟩) (by assumption) ?_
      rotate_left
      · intro w' hSw
        try dsimp only at hSw
        go_simp
        try with_reducible rfl
      try simp only [Act.put, List.setIfInBounds_toArray, List.set_cons_zero, List.set_cons_succ]
      refine GoF.take 10 (some 120) (v := ?_) rfl rfl (by kernel_rfl) (by kernel_rfl) (by kernel_rfl) (fun _ _ _ h => h) (Or.inl ⟨by rfl, ?_⟩) (by assumption) ?_
      rotate_left
      · intro w' hSw
        try dsimp only at hSw
        go_simp
        try with_reducible rfl
      try simp only [Act.put, List.setIfInBounds_toArray, List.set_cons_zero, List.set_cons_succ]
      refine GoF.take 11 (some 121) (v := ?_) rfl rfl (by kernel_rfl) (by kernel_rfl) (by kernel_rfl) (fun _ _ _ h => h) (Or.inl ⟨by rfl, ?_⟩) (by assumption) ?_
      rotate_left
      · intro w' hSw
        try dsimp only at hSw
        go_simp
        try with_reducible rfl
      try simp only [Act.put, List.setIfInBounds_toArray, List.set_cons_zero, List.set_cons_succ]
      refine GoF.take 12 (some 122) (v := ?_) rfl rfl (by kernel_rfl) (by kernel_rfl) (by kernel_rfl) (fun _ _ _ h => h) (Or.inl ⟨by rfl, ?_⟩) (by assumption) ?_
      rotate_left
      · intro w' hSw
        try dsimp only at hSw
        go_simp
        try with_reducible rfl
      try simp only [Act.put, List.setIfInBounds_toArray, List.set_cons_zero, List.set_cons_succ]
      refine GoF.take 13 (some 123) (v := ?_) rfl rfl (by kernel_rfl) (by kernel_rfl) (by kernel_rfl) (fun _ _ _ h => h) (Or.inl ⟨by rfl, ?_⟩) (by assumption) ?_
      rotate_left
      · intro w' hSw
        try dsimp only at hSw
        go_simp
        try with_reducible rfl
      try simp only [Act.put, List.setIfInBounds_toArray, List.set_cons_zero, List.set_cons_succ]
      refine GoF.each (rs := [14]) (by kernel_rfl) (by kernel_rfl) (by kernel_rfl) ?_
      refine EachF.cons (i := 14) rfl (fun K hK => ?_) EachF.nil
      have hold := BT.out.lt
      go_simp
      refine hK.out _ _ (HS.out _ (X2.out.alloc _)) (fun hHeld => ?_)
      clear hK K
      try simp only [Act.put, List.setIfInBounds_toArray, List.set_cons_zero, List.set_cons_succ]
      obtain ⟨w3, hxw⟩ : ∃ wx, wx = w2.alloc (.cells #[.string ⟨#[]⟩, .string ⟨#[]⟩, .string ⟨#[]⟩] 52) := ⟨_, rfl⟩
      have hxx : Ext w2 w3 := by rw [hxw]; exact Ext.new w2 _
      have X3 := hide (X2.out.trans hxx)
      have BR := hide (show Blk w3 w2.heap.size 52 #[.string ⟨#[]⟩, .string ⟨#[]⟩, .string ⟨#[]⟩] by rw [hxw]; exact Blk.new w2 52 _)
      obtain ⟨rb, hrb⟩ : ∃ xb, xb = w2.heap.size := ⟨_, rfl⟩
      have Hrb := hide (show wr.heap.size ≤ rb by rw [hrb]; exact X2.out.size)
      have BT := hide (hxx.blk BT.out)
      have HNE := hide (show rb ≠ tb by omega)
      clear hold
      rw [← hxw] at hHeld ⊢
      rw [← hrb]
      rw [← hrb] at BR
      clear hxw hxx hrb
      refine GoF.take 16 (some 21) (v := ?_) rfl rfl (by kernel_rfl) (by kernel_rfl) (by kernel_rfl) (fun _ _ _ h => h) (Or.inl ⟨by rfl, ?_⟩) (by assumption) ?_
      rotate_left
      · intro w' hSw
        try dsimp only at hSw
        go_simp
        try with_reducible rfl
      try simp only [Act.put, List.setIfInBounds_toArray, List.set_cons_zero, List.set_cons_succ]
      refine GoF.each (rs := [17]) (by kernel_rfl) (by kernel_rfl) (by kernel_rfl) ?_
      refine EachF.cons (i := 17) rfl (fun K hK => ?_) EachF.nil
      obtain ⟨y0, y1, y2⟩ := BR.out.cells3
      have f0 := BR.out.frozen 0
      have f1 := BR.out.frozen 1
      have f2 := BR.out.frozen 2
      have T6 := touch_set3 w3 rb (.string ⟨key.toArray⟩) (.string ⟨#[]⟩) (.string ⟨#[]⟩)
      have hxx := Touch.ext X3.out T6 Hrb.out
      have BR := hide (BR.out.set3 (.string ⟨key.toArray⟩) (.string ⟨#[]⟩) (.string ⟨#[]⟩))
      have BT := hide (T6.blk BT.out (Ne.symm HNE.out))
      go_simp
      refine hK.out _ _ (HS.out _ hxx) (fun hHeld => ?_)
      clear hK K y0 y1 y2 f0 f1 f2 T6
      try simp only [Act.put, List.setIfInBounds_toArray, List.set_cons_zero, List.set_cons_succ]
      obtain ⟨w4, hxw⟩ : ∃ wx, wx = ((w3.setCell ⟨rb, 0, none⟩ (.string ⟨key.toArray⟩)).setCell ⟨rb, 1, none⟩ (.string ⟨#[]⟩)).setCell ⟨rb, 2, none⟩ (.string ⟨#[]⟩) := ⟨_, rfl⟩
      rw [← hxw] at hxx BR BT hHeld ⊢
      have X4 := hide hxx
      clear hxw hxx
      refine GoF.each (rs := [18]) (by kernel_rfl) (by kernel_rfl) (by kernel_rfl) ?_
      refine EachF.cons (i := 18) rfl (fun K hK => ?_) EachF.nil
      obtain ⟨x0, x1⟩ := BT.out.cells2
      have f0 := BT.out.frozen 0
      have f1 := BT.out.frozen 1
      have T6 := touch_set2 w4 tb (.int .i64 pp) (.int .i64 qq)
      have hxx := Touch.ext X4.out T6 Htb.out
      have BT := hide (BT.out.set2 (.int .i64 pp) (.int .i64 qq))
      have BR := hide (T6.blk BR.out HNE.out)
      go_simp
      refine hK.out _ _ (HS.out _ hxx) (fun hHeld => ?_)
      clear hK K x0 x1 f0 f1 T6
      try simp only [Act.put, List.setIfInBounds_toArray, List.set_cons_zero, List.set_cons_succ]
      obtain ⟨w5, hxw⟩ : ∃ wx, wx = (w4.setCell ⟨tb, 0, none⟩ (.int .i64 pp)).setCell ⟨tb, 1, none⟩ (.int .i64 qq) := ⟨_, rfl⟩
      rw [← hxw] at hxx BR BT hHeld ⊢
      have X5 := hide hxx
      clear hxw hxx
      refine GoF.last (by kernel_rfl) (by kernel_rfl) rfl (fun K hK => ?_)
      go_simp
      refine hK.out _ _ (NoPanic.normal ?_)
      clear hK K hHeld
      go_wp2_with (fail)
      exact hKK _ _ _ _ _ _ _ _ _ _ _ _ _ _ _ _ _ _ BR.out BT.out X5.out
    refine EachF.cons (i := 14) rfl (fun K hK => ?_) ?_
    · have hold := BT.out.lt
      go_simp
      refine hK.out _ _ (HS.out _ (X1.out.alloc _)) (fun hHeld => ?_)
      clear hK K
      try simp only [Act.put, List.setIfInBounds_toArray, List.set_cons_zero, List.set_cons_succ]
      obtain ⟨w2, hxw⟩ : ∃ wx, wx = w1.alloc (.cells #[.string ⟨#[]⟩, .string ⟨#[]⟩, .string ⟨#[]⟩] 52) := ⟨_, rfl⟩
      have hxx : Ext w1 w2 := by rw [hxw]; exact Ext.new w1 _
      have X2 := hide (X1.out.trans hxx)
      have BR := hide (show Blk w2 w1.heap.size 52 #[.string ⟨#[]⟩, .string ⟨#[]⟩, .string ⟨#[]⟩] by rw [hxw]; exact Blk.new w1 52 _)
      obtain ⟨rb, hrb⟩ : ∃ xb, xb = w1.heap.size := ⟨_, rfl⟩
      have Hrb := hide (show wr.heap.size ≤ rb by rw [hrb]; exact X1.out.size)
      have BT := hide (hxx.blk BT.out)
      have HNE := hide (show rb ≠ tb by omega)
      clear hold
      rw [← hxw] at hHeld ⊢
      rw [← hrb]
      rw [← hrb] at BR
      clear hxw hxx hrb
      refine GoF.each (rs := [8]) (by kernel_rfl) (by kernel_rfl) (by kernel_rfl) ?_
      refine EachF.cons (i := 8) rfl (fun K hK => ?_) EachF.nil
      go_simp
      refine (read_any w2 A c nl l kk key pp qq RD.out (BBL.out.ext X2.out) NL.out).mono ?_
      rintro e w3 ⟨rfl, hxx⟩
      have X3 := hide (X2.out.trans hxx)
      have BR := hide (hxx.blk BR.out)
      have BT := hide (hxx.blk BT.out)

      clear hxx
      try go_simp
      refine hK.out _ _ (HS.out _ X3.out) (fun hHeld => ?_)
      clear hK K
      try simp only [Act.put, List.setIfInBounds_toArray, List.set_cons_zero, List.set_cons_succ]
      refine GoF.take 9 (some 110) (v := ?_) rfl rfl (by kernel_rfl) (by kernel_rfl) (by kernel_rfl) (fun _ _ _ h => h) (Or.inl ⟨by rfl, ?_⟩) (by assumption) ?_
      rotate_left
      · intro w' hSw
        try dsimp only at hSw
        go_simp
        try with_reducible rfl
      try simp only [Act.put, List.setIfInBounds_toArray, List.set_cons_zero, List.set_cons_succ]
      refine GoF.take 10 (some 120) (v := ?_) rfl rfl (by kernel_rfl) (by kernel_rfl) (by kernel_rfl) (fun _ _ _ h => h) (Or.inl ⟨by rfl, ?_⟩) (by assumption) ?_
      rotate_left
      · intro w' hSw
        try dsimp only at hSw
        go_simp
        try with_reducible rfl
      try simp only [Act.put, List.setIfInBounds_toArray, List.set_cons_zero, List.set_cons_succ]
      refine GoF.take 11 (some 121) (v := ?_) rfl rfl (by kernel_rfl) (by kernel_rfl) (by kernel_rfl) (fun _ _ _ h => h) (Or.inl ⟨by rfl, ?_⟩) (by assumption) ?_
      rotate_left
      · intro w' hSw
        try dsimp only at hSw
        go_simp
        try with_reducible rfl
      try simp only [Act.put, List.setIfInBounds_toArray, List.set_cons_zero, List.set_cons_succ]
      refine GoF.take 12 (some 122) (v := ?_) rfl rfl (by kernel_rfl) (by kernel_rfl) (by kernel_rfl) (fun _ _ _ h => h) (Or.inl ⟨by rfl, ?_⟩) (by assumption) ?_
      rotate_left
      · intro w' hSw
        try dsimp only at hSw
        go_simp
        try with_reducible rfl
      try simp only [Act.put, List.setIfInBounds_toArray, List.set_cons_zero, List.set_cons_succ]
      refine GoF.take 13 (some 123) (v := ?_) rfl rfl (by kernel_rfl) (by kernel_rfl) (by kernel_rfl) (fun _ _ _ h => h) (Or.inl ⟨by rfl, ?_⟩) (by assumption) ?_
      rotate_left
      · intro w' hSw
        try dsimp only at hSw
        go_simp
        try with_reducible rfl
      try simp only [Act.put, List.setIfInBounds_toArray, List.set_cons_zero, List.set_cons_succ]
      refine GoF.take 16 (some 21) (v := ?_) rfl rfl (by kernel_rfl) (by kernel_rfl) (by kernel_rfl) (fun _ _ _ h => h) (Or.inl ⟨by rfl, ?_⟩) (by assumption) ?_
      rotate_left
      · intro w' hSw
        try dsimp only at hSw
        go_simp
        try with_reducible rfl
      try simp only [Act.put, List.setIfInBounds_toArray, List.set_cons_zero, List.set_cons_succ]
      refine GoF.each (rs := [17]) (by kernel_rfl) (by kernel_rfl) (by kernel_rfl) ?_
      refine EachF.cons (i := 17) rfl (fun K hK => ?_) EachF.nil
      obtain ⟨y0, y1, y2⟩ := BR.out.cells3
      have f0 := BR.out.frozen 0
      have f1 := BR.out.frozen 1
      have f2 := BR.out.frozen 2
      have T6 := touch_set3 w3 rb (.string ⟨key.toArray⟩) (.string ⟨#[]⟩) (.string ⟨#[]⟩)
      have hxx := Touch.ext X3.out T6 Hrb.out
      have BR := hide (BR.out.set3 (.string ⟨key.toArray⟩) (.string ⟨#[]⟩) (.string ⟨#[]⟩))
      have BT := hide (T6.blk BT.out (Ne.symm HNE.out))
      go_simp
      refine hK.out _ _ (HS.out _ hxx) (fun hHeld => ?_)
      clear hK K y0 y1 y2 f0 f1 f2 T6
      try simp only [Act.put, List.setIfInBounds_toArray, List.set_cons_zero, List.set_cons_succ]
      obtain ⟨w4, hxw⟩ : ∃ wx, wx = ((w3.setCell ⟨rb, 0, none⟩ (.string ⟨key.toArray⟩)).setCell ⟨rb, 1, none⟩ (.string ⟨#[]⟩)).setCell ⟨rb, 2, none⟩ (.string ⟨#[]⟩) := ⟨_, rfl⟩
      rw [← hxw] at hxx BR BT hHeld ⊢
      have X4 := hide hxx
      clear hxw hxx
      refine GoF.each (rs := [18]) (by kernel_rfl) (by kernel_rfl) (by kernel_rfl) ?_
      refine EachF.cons (i := 18) rfl (fun K hK => ?_) EachF.nil
      obtain ⟨x0, x1⟩ := BT.out.cells2
      have f0 := BT.out.frozen 0
      have f1 := BT.out.frozen 1
      have T6 := touch_set2 w4 tb (.int .i64 pp) (.int .i64 qq)
      have hxx := Touch.ext X4.out T6 Htb.out
      have BT := hide (BT.out.set2 (.int .i64 pp) (.int .i64 qq))
      have BR := hide (T6.blk BR.out HNE.out)
      go_simp
      refine hK.out _ _ (HS.out _ hxx) (fun hHeld => ?_)
      clear hK K x0 x1 f0 f1 T6
      try simp only [Act.put, List.setIfInBounds_toArray, List.set_cons_zero, List.set_cons_succ]
      obtain ⟨w5, hxw⟩ : ∃ wx, wx = (w4.setCell ⟨tb, 0, none⟩ (.int .i64 pp)).setCell ⟨tb, 1, none⟩ (.int .i64 qq) := ⟨_, rfl⟩
      rw [← hxw] at hxx BR BT hHeld ⊢
      have X5 := hide hxx
      clear hxw hxx
      refine GoF.last (by kernel_rfl) (by kernel_rfl) rfl (fun K hK => ?_)
      go_simp
      refine hK.out _ _ (NoPanic.normal ?_)
      clear hK K hHeld
      go_wp2_with (fail)
      exact hKK _ _ _ _ _ _ _ _ _ _ _ _ _ _ _ _ _ _ BR.out BT.out X5.out
    exact EachF.nil
  exact EachF.nil
end Go.Proofs.Ytaagdjipjeindaa.redoMoves
