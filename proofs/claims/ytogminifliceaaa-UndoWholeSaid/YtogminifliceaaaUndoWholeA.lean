/- UndoWhole: the statement that makes a set's entry. -/
import Derived.Test.YtogminifliceaaaUndoWholeX
import Derived.Test.YtogminifliceaaaLast
import Derived.Deep.Cut
import Derived.Deep.DeepCutAuto
import Derived.Deep.CutBlock
import Derived.BigQuiet
namespace Go.Proofs.Ytogminifliceaaa.undoWhole
open Go.ChangeShapes Go.WideShapes Go.ChangeAt Go.RowKit
set_option linter.unusedVariables false

set_option maxRecDepth 1000000 in
set_option maxHeartbeats 40000000 in
theorem set_made (wr : World) (b off n0 c cb j k n : Nat) (q : UInt8) (old : List UInt8) (hn : n = q.toNat) (hj : j < n0) (hn0 : (n0 : Int) ≤ 10) (hk4 : k < 4) (x0 : wr.cell? ⟨b, off + j, none⟩ = some (.int .u8 (n : Int))) (x1 : wr.cell? ⟨cb, k, none⟩ = some (.string ⟨old.toArray⟩)) (hbr : b < wr.heap.size) (hcr : cb < wr.heap.size)
    (u1 u2 u3 u4 u6 u10 u11 u12 u13 u14 u15 u16 u17 u18 u19 u20 u21 u22 u23 u24 u25 u26 u27 u28 u29 u30 u31 u32 u33 u34 u35 u36 u37 u38 u39 u40 u41 u42 u43 u44 u45 u46 u47 u48 u49 u50 u51 u52 u53 u54 u55 u56 u57 u58 u59 u60 u61 u62 u63 u64 u65 u66 u67 u68 u69 u70 u71 u72 u73 u74 u75 u76 u77 u78 u79 u80 u81 u82 u83 u84 u85 u86 u87 u88 u89 u90 u91 u92 u93 u94 u95 u96 u97 u98 u99 u100 u101 u102 u103 u104 u105 u106 u107 u108 u109 u110 u111 u112 u113 u114 u115 u116 u117 u118 u119 u120 u121 u122 u123 u124 u125 u126 u127 u128 u129 u130 u131 u132 u133 u134 u135 u136 u137 u138 u139 u140 u141 u142 u143 u144 u145 u146 u147 u148 u149 u150 u151 u152 u153 u154 u155 u156 u157 u158 u159 u160 u161 u162 u163 u164 u165 u166 u167 u168 u169 u170 u171 u172 u173 u174 : Value) (KK : Act → World → Prop) (Q : Exit → Act → World → Prop)
    (hKK : ∀ (v10 v41 v42 v43 v44 v45 v46 v47 v48 v49 v50 v51 v52 v53 : Value) (wx : World), Made wr wx j k q old v10 → KK ⟨(Value.slice (some ⟨b, off, none⟩) n0 c :: u1 :: u2 :: u3 :: u4 :: Value.pointer (some ⟨cb, 0, none⟩) :: u6 :: Value.int .i64 (j : Nat) :: Value.int .i64 (j : Nat) :: Value.int .i64 (k : Nat) :: v10 :: u11 :: u12 :: u13 :: u14 :: u15 :: u16 :: u17 :: u18 :: u19 :: u20 :: u21 :: u22 :: u23 :: u24 :: u25 :: u26 :: u27 :: u28 :: u29 :: u30 :: u31 :: u32 :: u33 :: u34 :: u35 :: u36 :: u37 :: u38 :: u39 :: u40 :: v41 :: v42 :: v43 :: v44 :: v45 :: v46 :: v47 :: v48 :: v49 :: v50 :: v51 :: v52 :: v53 :: u54 :: u55 :: u56 :: u57 :: u58 :: u59 :: u60 :: u61 :: u62 :: u63 :: u64 :: u65 :: u66 :: u67 :: u68 :: u69 :: u70 :: u71 :: u72 :: u73 :: u74 :: u75 :: u76 :: u77 :: u78 :: u79 :: u80 :: u81 :: u82 :: u83 :: u84 :: u85 :: u86 :: u87 :: u88 :: u89 :: u90 :: u91 :: u92 :: u93 :: u94 :: u95 :: u96 :: u97 :: u98 :: u99 :: u100 :: u101 :: u102 :: u103 :: u104 :: u105 :: u106 :: u107 :: u108 :: u109 :: u110 :: u111 :: u112 :: u113 :: u114 :: u115 :: u116 :: u117 :: u118 :: u119 :: u120 :: u121 :: u122 :: u123 :: u124 :: u125 :: u126 :: u127 :: u128 :: u129 :: u130 :: u131 :: u132 :: u133 :: u134 :: u135 :: u136 :: u137 :: u138 :: u139 :: u140 :: u141 :: u142 :: u143 :: u144 :: u145 :: u146 :: u147 :: u148 :: u149 :: u150 :: u151 :: u152 :: u153 :: u154 :: u155 :: u156 :: u157 :: u158 :: u159 :: u160 :: u161 :: u162 :: u163 :: u164 :: u165 :: u166 :: u167 :: u168 :: u169 :: u170 :: u171 :: u172 :: u173 :: u174 :: []).toArray, []⟩ wx) :
    Code.wp Try.prog (regionAt Try.f4 12) (Exit.then KK Q) ⟨(Value.slice (some ⟨b, off, none⟩) n0 c :: u1 :: u2 :: u3 :: u4 :: Value.pointer (some ⟨cb, 0, none⟩) :: u6 :: Value.int .i64 (j : Nat) :: Value.int .i64 (j : Nat) :: Value.int .i64 (k : Nat) :: u10 :: u11 :: u12 :: u13 :: u14 :: u15 :: u16 :: u17 :: u18 :: u19 :: u20 :: u21 :: u22 :: u23 :: u24 :: u25 :: u26 :: u27 :: u28 :: u29 :: u30 :: u31 :: u32 :: u33 :: u34 :: u35 :: u36 :: u37 :: u38 :: u39 :: u40 :: u41 :: u42 :: u43 :: u44 :: u45 :: u46 :: u47 :: u48 :: u49 :: u50 :: u51 :: u52 :: u53 :: u54 :: u55 :: u56 :: u57 :: u58 :: u59 :: u60 :: u61 :: u62 :: u63 :: u64 :: u65 :: u66 :: u67 :: u68 :: u69 :: u70 :: u71 :: u72 :: u73 :: u74 :: u75 :: u76 :: u77 :: u78 :: u79 :: u80 :: u81 :: u82 :: u83 :: u84 :: u85 :: u86 :: u87 :: u88 :: u89 :: u90 :: u91 :: u92 :: u93 :: u94 :: u95 :: u96 :: u97 :: u98 :: u99 :: u100 :: u101 :: u102 :: u103 :: u104 :: u105 :: u106 :: u107 :: u108 :: u109 :: u110 :: u111 :: u112 :: u113 :: u114 :: u115 :: u116 :: u117 :: u118 :: u119 :: u120 :: u121 :: u122 :: u123 :: u124 :: u125 :: u126 :: u127 :: u128 :: u129 :: u130 :: u131 :: u132 :: u133 :: u134 :: u135 :: u136 :: u137 :: u138 :: u139 :: u140 :: u141 :: u142 :: u143 :: u144 :: u145 :: u146 :: u147 :: u148 :: u149 :: u150 :: u151 :: u152 :: u153 :: u154 :: u155 :: u156 :: u157 :: u158 :: u159 :: u160 :: u161 :: u162 :: u163 :: u164 :: u165 :: u166 :: u167 :: u168 :: u169 :: u170 :: u171 :: u172 :: u173 :: u174 :: []).toArray, []⟩ wr := by
  have HN := hide hn
  have hk4i : (k : Int) < 4 := by omega
  have hji : (j : Int) < (n0 : Int) := by omega
  have HS := hide (show ∀ w' : World, Ext wr w' → w'.cell? ⟨b, off + j, none⟩ = some (.int .u8 (n : Int)) ∧ w'.cell? ⟨cb, k, none⟩ = some (.string ⟨old.toArray⟩) from fun w' hx => ⟨(hx.cell (p := ⟨b, off + j, none⟩) hbr).trans x0, (hx.cell (p := ⟨cb, k, none⟩) hcr).trans x1⟩)
  clear hn
  conv => arg 2; whnf
  refine wp_region_noPanic ?_
  refine wp_region_F (S := fun w' => w'.cell? ⟨b, off + j, none⟩ = some (.int .u8 (n : Int)) ∧ w'.cell? ⟨cb, k, none⟩ = some (.string ⟨old.toArray⟩)) 14 (by kernel_rfl) (by kernel_rfl) (HS.out _ (Ext.drew (Ext.refl wr))) (fun hHeld => ?_)
  have Ewa := hide (show Ext wr wr.drew from Ext.drew (Ext.refl wr))
  obtain ⟨wa, hwa⟩ : ∃ wa, wa = wr.drew := ⟨_, rfl⟩
  rw [← hwa] at hHeld Ewa ⊢
  clear hwa
  refine GoF.take 0 (some 41) (v := ?_) rfl rfl (by kernel_rfl) (by kernel_rfl) (by kernel_rfl) (fun _ _ _ h => h) (Or.inl ⟨by rfl, ?_⟩) (by assumption) ?_
  rotate_left
  · intro w' hSw
    try dsimp only at hSw
    go_simp
    try with_reducible rfl
  try simp only [Act.put, List.setIfInBounds_toArray, List.set_cons_zero, List.set_cons_succ]
  refine GoF.take 1 (some 42) (v := ?_) rfl rfl (by kernel_rfl) (by kernel_rfl) (by kernel_rfl) (fun _ _ _ h => h) (Or.inl ⟨by rfl, ?_⟩) (by assumption) ?_
  rotate_left
  · intro w' hSw
    try dsimp only at hSw
    go_simp
    try with_reducible rfl
  try simp only [Act.put, List.setIfInBounds_toArray, List.set_cons_zero, List.set_cons_succ]
  refine GoF.take 2 (some 43) (v := ?_) rfl rfl (by kernel_rfl) (by kernel_rfl) (by kernel_rfl) (fun _ _ _ h => h) (Or.inl ⟨by rfl, ?_⟩) (by assumption) ?_
  rotate_left
  · intro w' hSw
    try dsimp only at hSw
    go_simp
    try with_reducible rfl
  try simp only [Act.put, List.setIfInBounds_toArray, List.set_cons_zero, List.set_cons_succ]
  refine GoF.take 3 (some 44) (v := ?_) rfl rfl (by kernel_rfl) (by kernel_rfl) (by kernel_rfl) (fun _ _ _ h => h) (Or.inl ⟨by rfl, ?_⟩) (by assumption) ?_
  rotate_left
  · intro w' hSw
    try dsimp only at hSw
    go_simp
    try with_reducible rfl
  try simp only [Act.put, List.setIfInBounds_toArray, List.set_cons_zero, List.set_cons_succ]
  refine GoF.take 4 (some 45) (v := ?_) rfl rfl (by kernel_rfl) (by kernel_rfl) (by kernel_rfl) (fun _ _ _ h => h) (Or.inl ⟨by rfl, ?_⟩) (by assumption) ?_
  rotate_left
  · intro w' hSw
    try dsimp only at hSw
    go_simp
    try with_reducible rfl
  try simp only [Act.put, List.setIfInBounds_toArray, List.set_cons_zero, List.set_cons_succ]
  refine GoF.take 5 (some 46) (v := ?_) rfl rfl (by kernel_rfl) (by kernel_rfl) (by kernel_rfl) (fun _ _ _ h => h) (Or.inl ⟨by rfl, ?_⟩) (by assumption) ?_
  rotate_left
  · intro w' hSw
    try dsimp only at hSw
    go_simp
    try with_reducible rfl
  try simp only [Act.put, List.setIfInBounds_toArray, List.set_cons_zero, List.set_cons_succ]
  refine GoF.take 7 (some 48) (v := ?_) rfl rfl (by kernel_rfl) (by kernel_rfl) (by kernel_rfl) (fun _ _ _ h => h) (Or.inl ⟨by rfl, ?_⟩) (by assumption) ?_
  rotate_left
  · intro w' hSw
    try dsimp only at hSw
    go_simp
    try with_reducible rfl
  try simp only [Act.put, List.setIfInBounds_toArray, List.set_cons_zero, List.set_cons_succ]
  refine GoF.take 8 (some 49) (v := ?_) rfl rfl (by kernel_rfl) (by kernel_rfl) (by kernel_rfl) (fun _ _ _ h => h) (Or.inl ⟨by rfl, ?_⟩) (by assumption) ?_
  rotate_left
  · intro w' hSw
    try dsimp only at hSw
    go_simp
    try with_reducible rfl
  try simp only [Act.put, List.setIfInBounds_toArray, List.set_cons_zero, List.set_cons_succ]
  refine GoF.take 9 (some 50) (v := ?_) rfl rfl (by kernel_rfl) (by kernel_rfl) (by kernel_rfl) (fun _ _ _ h => h) (Or.inl ⟨by rfl, ?_⟩) (by assumption) ?_
  rotate_left
  · intro w' hSw
    try dsimp only at hSw
    go_simp
    try with_reducible rfl
  try simp only [Act.put, List.setIfInBounds_toArray, List.set_cons_zero, List.set_cons_succ]
  refine GoF.take 10 (some 51) (v := ?_) rfl rfl (by kernel_rfl) (by kernel_rfl) (by kernel_rfl) (fun _ _ _ h => h) (Or.inl ⟨by rfl, ?_⟩) (by assumption) ?_
  rotate_left
  · intro w' hSw
    try dsimp only at hSw
    go_simp
    try with_reducible rfl
  try simp only [Act.put, List.setIfInBounds_toArray, List.set_cons_zero, List.set_cons_succ]
  refine GoF.each (rs := [6, 11, 13]) (by kernel_rfl) (by kernel_rfl) (by kernel_rfl) ?_
  refine EachF.cons (i := 6) rfl (fun K hK => ?_) ?_
  · obtain ⟨w1, oc, hrun, hx, hrd, hlo⟩ := conv_bytes wa old
    have Xw1 := hide hx
    have Ew1 := hide (Ewa.out.trans hx)
    have FOH := hide (show FO wr w1 old wa.heap.size from ⟨Ewa.out.size, hlo, hrd⟩)
    have hlo2 := hlo
    clear hx hrd hlo
    go_simp
    refine hK.out _ _ (HS.out _ Ew1.out) (fun hHeld => ?_)
    clear hK K hrun
    try simp only [Act.put, List.setIfInBounds_toArray, List.set_cons_zero, List.set_cons_succ]
    obtain ⟨ob, hob⟩ : ∃ ob, ob = wa.heap.size := ⟨_, rfl⟩
    rw [← hob] at FOH ⊢
    clear hob hlo2
    refine GoF.each (rs := [11, 13]) (by kernel_rfl) (by kernel_rfl) (by kernel_rfl) ?_
    refine EachF.cons (i := 11) rfl (fun K hK => ?_) ?_
    · go_simp
      refine hK.out _ _ (HS.out _ (Ew1.out.alloc _)) (fun hHeld => ?_)
      clear hK K
      try simp only [Act.put, List.setIfInBounds_toArray, List.set_cons_zero, List.set_cons_succ]
      obtain ⟨w2, hw2⟩ : ∃ w2, w2 = w1.alloc (.cells #[.int .u8 (n : Int)] 5) := ⟨_, rfl⟩
      have Xw2 := hide (show Ext w1 w2 by rw [hw2]; exact Ext.new _ _)
      have Ew2 := hide (Ew1.out.trans Xw2.out)
      have FOH := hide (FOH.out.ex Xw2.out)
      have FNH := hide (show FN wr w2 (n : Int) w1.heap.size from ⟨Ew1.out.size, by rw [hw2]; exact Blk.new _ _ _⟩)
      rw [← hw2] at hHeld ⊢
      clear hw2
      obtain ⟨nb, hnb⟩ : ∃ nb, nb = w1.heap.size := ⟨_, rfl⟩
      rw [← hnb] at FNH ⊢
      clear hnb
      refine GoF.take 12 (some 53) (v := ?_) rfl rfl (by kernel_rfl) (by kernel_rfl) (by kernel_rfl) (fun _ _ _ h => h) (Or.inl ⟨by rfl, ?_⟩) (by assumption) ?_
      rotate_left
      · intro w' hSw
        try dsimp only at hSw
        go_simp
        try with_reducible rfl
      try simp only [Act.put, List.setIfInBounds_toArray, List.set_cons_zero, List.set_cons_succ]
      refine GoF.each (rs := [13]) (by kernel_rfl) (by kernel_rfl) (by kernel_rfl) ?_
      refine EachF.cons (i := 13) rfl (fun K hK => ?_) EachF.nil
      have FOH0 := FOH
      go_simp
      refine hK.out _ _ (HS.out _ (Ew2.out.alloc _)) (fun hHeld => ?_)
      clear hK K
      try simp only [Act.put, List.setIfInBounds_toArray, List.set_cons_zero, List.set_cons_succ]
      obtain ⟨w3, hw3⟩ : ∃ w3, w3 = w2.alloc (.cells #[.int .i64 0, .int .i64 0, .int .i64 0, .int .i64 0, .int .i64 0, .int .i64 0, .int .i64 0, .int .i64 0, .int .i64 0, .int .i64 0, .slice none 0 0, .slice none 0 0, .slice none 0 0, .slice none 0 0, .slice none 0 0, .slice none 0 0] 30) := ⟨_, rfl⟩
      have Xw3 := hide (show Ext w2 w3 by rw [hw3]; exact Ext.new _ _)
      have Ew3 := hide (Ew2.out.trans Xw3.out)
      have FOH := hide (FOH.out.ex Xw3.out)
      have FNH := hide (FNH.out.ex Xw3.out)
      have FEH := hide (show FE wr w3 w2.heap.size from ⟨Ew2.out.size, by rw [hw3]; exact Blk.new _ _ _⟩)
      rw [← hw3] at hHeld ⊢
      clear hw3
      obtain ⟨eb, heb⟩ : ∃ eb, eb = w2.heap.size := ⟨_, rfl⟩
      rw [← heb] at FEH ⊢
      have hne : eb ≠ ob := by have h2 := FOH0.out.2.1; rw [heb]; omega
      clear heb
      refine GoF.last (by kernel_rfl) (by kernel_rfl) rfl (fun K hK => ?_)
      clear hHeld x0 x1 hbr hcr
      obtain ⟨z0, z1, z2, z3, z4, z5, z6, z7, z8, z9, z10, z11, z12, z13, z14, z15⟩ := FEH.out.2.cells16
      have fz := FEH.out.2.frozen
      go_simp
      refine hK.out _ _ (NoPanic.normal ?_)
      clear hK K z0 z1 z2 z3 z4 z5 z6 z7 z8 z9 z10 z11 z12 z13 z14 z15 fz
      go_wp2_with (fail)
      exact made_of FOH.out FNH.out FEH.out hne Ew3.out HN.out
    refine EachF.cons (i := 13) rfl (fun K hK => ?_) ?_
    · have FOH0 := FOH
      go_simp
      refine hK.out _ _ (HS.out _ (Ew1.out.alloc _)) (fun hHeld => ?_)
      clear hK K
      try simp only [Act.put, List.setIfInBounds_toArray, List.set_cons_zero, List.set_cons_succ]
      obtain ⟨w2, hw2⟩ : ∃ w2, w2 = w1.alloc (.cells #[.int .i64 0, .int .i64 0, .int .i64 0, .int .i64 0, .int .i64 0, .int .i64 0, .int .i64 0, .int .i64 0, .int .i64 0, .int .i64 0, .slice none 0 0, .slice none 0 0, .slice none 0 0, .slice none 0 0, .slice none 0 0, .slice none 0 0] 30) := ⟨_, rfl⟩
      have Xw2 := hide (show Ext w1 w2 by rw [hw2]; exact Ext.new _ _)
      have Ew2 := hide (Ew1.out.trans Xw2.out)
      have FOH := hide (FOH.out.ex Xw2.out)
      have FEH := hide (show FE wr w2 w1.heap.size from ⟨Ew1.out.size, by rw [hw2]; exact Blk.new _ _ _⟩)
      rw [← hw2] at hHeld ⊢
      clear hw2
      obtain ⟨eb, heb⟩ : ∃ eb, eb = w1.heap.size := ⟨_, rfl⟩
      rw [← heb] at FEH ⊢
      have hne : eb ≠ ob := by have h2 := FOH0.out.2.1; rw [heb]; omega
      clear heb
      refine GoF.each (rs := [11]) (by kernel_rfl) (by kernel_rfl) (by kernel_rfl) ?_
      refine EachF.cons (i := 11) rfl (fun K hK => ?_) EachF.nil
      go_simp
      refine hK.out _ _ (HS.out _ (Ew2.out.alloc _)) (fun hHeld => ?_)
      clear hK K
      try simp only [Act.put, List.setIfInBounds_toArray, List.set_cons_zero, List.set_cons_succ]
      obtain ⟨w3, hw3⟩ : ∃ w3, w3 = w2.alloc (.cells #[.int .u8 (n : Int)] 5) := ⟨_, rfl⟩
      have Xw3 := hide (show Ext w2 w3 by rw [hw3]; exact Ext.new _ _)
      have Ew3 := hide (Ew2.out.trans Xw3.out)
      have FOH := hide (FOH.out.ex Xw3.out)
      have FEH := hide (FEH.out.ex Xw3.out)
      have FNH := hide (show FN wr w3 (n : Int) w2.heap.size from ⟨Ew2.out.size, by rw [hw3]; exact Blk.new _ _ _⟩)
      rw [← hw3] at hHeld ⊢
      clear hw3
      obtain ⟨nb, hnb⟩ : ∃ nb, nb = w2.heap.size := ⟨_, rfl⟩
      rw [← hnb] at FNH ⊢
      clear hnb
      refine GoF.take 12 (some 53) (v := ?_) rfl rfl (by kernel_rfl) (by kernel_rfl) (by kernel_rfl) (fun _ _ _ h => h) (Or.inl ⟨by rfl, ?_⟩) (by assumption) ?_
      rotate_left
      · intro w' hSw
        try dsimp only at hSw
        go_simp
        try with_reducible rfl
      try simp only [Act.put, List.setIfInBounds_toArray, List.set_cons_zero, List.set_cons_succ]
      refine GoF.last (by kernel_rfl) (by kernel_rfl) rfl (fun K hK => ?_)
      clear hHeld x0 x1 hbr hcr
      obtain ⟨z0, z1, z2, z3, z4, z5, z6, z7, z8, z9, z10, z11, z12, z13, z14, z15⟩ := FEH.out.2.cells16
      have fz := FEH.out.2.frozen
      go_simp
      refine hK.out _ _ (NoPanic.normal ?_)
      clear hK K z0 z1 z2 z3 z4 z5 z6 z7 z8 z9 z10 z11 z12 z13 z14 z15 fz
      go_wp2_with (fail)
      exact made_of FOH.out FNH.out FEH.out hne Ew3.out HN.out
    exact EachF.nil
  refine EachF.cons (i := 11) rfl (fun K hK => ?_) ?_
  · go_simp
    refine hK.out _ _ (HS.out _ (Ewa.out.alloc _)) (fun hHeld => ?_)
    clear hK K
    try simp only [Act.put, List.setIfInBounds_toArray, List.set_cons_zero, List.set_cons_succ]
    obtain ⟨w1, hw1⟩ : ∃ w1, w1 = wa.alloc (.cells #[.int .u8 (n : Int)] 5) := ⟨_, rfl⟩
    have Xw1 := hide (show Ext wa w1 by rw [hw1]; exact Ext.new _ _)
    have Ew1 := hide (Ewa.out.trans Xw1.out)
    have FNH := hide (show FN wr w1 (n : Int) wa.heap.size from ⟨Ewa.out.size, by rw [hw1]; exact Blk.new _ _ _⟩)
    rw [← hw1] at hHeld ⊢
    clear hw1
    obtain ⟨nb, hnb⟩ : ∃ nb, nb = wa.heap.size := ⟨_, rfl⟩
    rw [← hnb] at FNH ⊢
    clear hnb
    refine GoF.each (rs := [6, 13]) (by kernel_rfl) (by kernel_rfl) (by kernel_rfl) ?_
    refine EachF.cons (i := 6) rfl (fun K hK => ?_) ?_
    · obtain ⟨w2, oc, hrun, hx, hrd, hlo⟩ := conv_bytes w1 old
      have Xw2 := hide hx
      have Ew2 := hide (Ew1.out.trans hx)
      have FOH := hide (show FO wr w2 old w1.heap.size from ⟨Ew1.out.size, hlo, hrd⟩)
      have FNH := hide (FNH.out.ex Xw2.out)
      have hlo2 := hlo
      clear hx hrd hlo
      go_simp
      refine hK.out _ _ (HS.out _ Ew2.out) (fun hHeld => ?_)
      clear hK K hrun
      try simp only [Act.put, List.setIfInBounds_toArray, List.set_cons_zero, List.set_cons_succ]
      obtain ⟨ob, hob⟩ : ∃ ob, ob = w1.heap.size := ⟨_, rfl⟩
      rw [← hob] at FOH ⊢
      clear hob hlo2
      refine GoF.take 12 (some 53) (v := ?_) rfl rfl (by kernel_rfl) (by kernel_rfl) (by kernel_rfl) (fun _ _ _ h => h) (Or.inl ⟨by rfl, ?_⟩) (by assumption) ?_
      rotate_left
      · intro w' hSw
        try dsimp only at hSw
        go_simp
        try with_reducible rfl
      try simp only [Act.put, List.setIfInBounds_toArray, List.set_cons_zero, List.set_cons_succ]
      refine GoF.each (rs := [13]) (by kernel_rfl) (by kernel_rfl) (by kernel_rfl) ?_
      refine EachF.cons (i := 13) rfl (fun K hK => ?_) EachF.nil
      have FOH0 := FOH
      go_simp
      refine hK.out _ _ (HS.out _ (Ew2.out.alloc _)) (fun hHeld => ?_)
      clear hK K
      try simp only [Act.put, List.setIfInBounds_toArray, List.set_cons_zero, List.set_cons_succ]
      obtain ⟨w3, hw3⟩ : ∃ w3, w3 = w2.alloc (.cells #[.int .i64 0, .int .i64 0, .int .i64 0, .int .i64 0, .int .i64 0, .int .i64 0, .int .i64 0, .int .i64 0, .int .i64 0, .int .i64 0, .slice none 0 0, .slice none 0 0, .slice none 0 0, .slice none 0 0, .slice none 0 0, .slice none 0 0] 30) := ⟨_, rfl⟩
      have Xw3 := hide (show Ext w2 w3 by rw [hw3]; exact Ext.new _ _)
      have Ew3 := hide (Ew2.out.trans Xw3.out)
      have FNH := hide (FNH.out.ex Xw3.out)
      have FOH := hide (FOH.out.ex Xw3.out)
      have FEH := hide (show FE wr w3 w2.heap.size from ⟨Ew2.out.size, by rw [hw3]; exact Blk.new _ _ _⟩)
      rw [← hw3] at hHeld ⊢
      clear hw3
      obtain ⟨eb, heb⟩ : ∃ eb, eb = w2.heap.size := ⟨_, rfl⟩
      rw [← heb] at FEH ⊢
      have hne : eb ≠ ob := by have h2 := FOH0.out.2.1; rw [heb]; omega
      clear heb
      refine GoF.last (by kernel_rfl) (by kernel_rfl) rfl (fun K hK => ?_)
      clear hHeld x0 x1 hbr hcr
      obtain ⟨z0, z1, z2, z3, z4, z5, z6, z7, z8, z9, z10, z11, z12, z13, z14, z15⟩ := FEH.out.2.cells16
      have fz := FEH.out.2.frozen
      go_simp
      refine hK.out _ _ (NoPanic.normal ?_)
      clear hK K z0 z1 z2 z3 z4 z5 z6 z7 z8 z9 z10 z11 z12 z13 z14 z15 fz
      go_wp2_with (fail)
      exact made_of FOH.out FNH.out FEH.out hne Ew3.out HN.out
    refine EachF.cons (i := 13) rfl (fun K hK => ?_) ?_
    · go_simp
      refine hK.out _ _ (HS.out _ (Ew1.out.alloc _)) (fun hHeld => ?_)
      clear hK K
      try simp only [Act.put, List.setIfInBounds_toArray, List.set_cons_zero, List.set_cons_succ]
      obtain ⟨w2, hw2⟩ : ∃ w2, w2 = w1.alloc (.cells #[.int .i64 0, .int .i64 0, .int .i64 0, .int .i64 0, .int .i64 0, .int .i64 0, .int .i64 0, .int .i64 0, .int .i64 0, .int .i64 0, .slice none 0 0, .slice none 0 0, .slice none 0 0, .slice none 0 0, .slice none 0 0, .slice none 0 0] 30) := ⟨_, rfl⟩
      have Xw2 := hide (show Ext w1 w2 by rw [hw2]; exact Ext.new _ _)
      have Ew2 := hide (Ew1.out.trans Xw2.out)
      have FNH := hide (FNH.out.ex Xw2.out)
      have FEH := hide (show FE wr w2 w1.heap.size from ⟨Ew1.out.size, by rw [hw2]; exact Blk.new _ _ _⟩)
      rw [← hw2] at hHeld ⊢
      clear hw2
      obtain ⟨eb, heb⟩ : ∃ eb, eb = w1.heap.size := ⟨_, rfl⟩
      rw [← heb] at FEH ⊢
      clear heb
      refine GoF.each (rs := [6]) (by kernel_rfl) (by kernel_rfl) (by kernel_rfl) ?_
      refine EachF.cons (i := 6) rfl (fun K hK => ?_) EachF.nil
      have FEH0 := FEH
      obtain ⟨w3, oc, hrun, hx, hrd, hlo⟩ := conv_bytes w2 old
      have Xw3 := hide hx
      have Ew3 := hide (Ew2.out.trans hx)
      have FOH := hide (show FO wr w3 old w2.heap.size from ⟨Ew2.out.size, hlo, hrd⟩)
      have FNH := hide (FNH.out.ex Xw3.out)
      have FEH := hide (FEH.out.ex Xw3.out)
      have hlo2 := hlo
      clear hx hrd hlo
      go_simp
      refine hK.out _ _ (HS.out _ Ew3.out) (fun hHeld => ?_)
      clear hK K hrun
      try simp only [Act.put, List.setIfInBounds_toArray, List.set_cons_zero, List.set_cons_succ]
      obtain ⟨ob, hob⟩ : ∃ ob, ob = w2.heap.size := ⟨_, rfl⟩
      rw [← hob] at FOH ⊢
      have hne : eb ≠ ob := by have h2 := FEH0.out.2.lt; rw [hob]; omega
      clear hob hlo2
      refine GoF.take 12 (some 53) (v := ?_) rfl rfl (by kernel_rfl) (by kernel_rfl) (by kernel_rfl) (fun _ _ _ h => h) (Or.inl ⟨by rfl, ?_⟩) (by assumption) ?_
      rotate_left
      · intro w' hSw
        try dsimp only at hSw
        go_simp
        try with_reducible rfl
      try simp only [Act.put, List.setIfInBounds_toArray, List.set_cons_zero, List.set_cons_succ]
      refine GoF.last (by kernel_rfl) (by kernel_rfl) rfl (fun K hK => ?_)
      clear hHeld x0 x1 hbr hcr
      obtain ⟨z0, z1, z2, z3, z4, z5, z6, z7, z8, z9, z10, z11, z12, z13, z14, z15⟩ := FEH.out.2.cells16
      have fz := FEH.out.2.frozen
      go_simp
      refine hK.out _ _ (NoPanic.normal ?_)
      clear hK K z0 z1 z2 z3 z4 z5 z6 z7 z8 z9 z10 z11 z12 z13 z14 z15 fz
      go_wp2_with (fail)
      exact made_of FOH.out FNH.out FEH.out hne Ew3.out HN.out
    exact EachF.nil
  refine EachF.cons (i := 13) rfl (fun K hK => ?_) ?_
  · go_simp
    refine hK.out _ _ (HS.out _ (Ewa.out.alloc _)) (fun hHeld => ?_)
    clear hK K
    try simp only [Act.put, List.setIfInBounds_toArray, List.set_cons_zero, List.set_cons_succ]
    obtain ⟨w1, hw1⟩ : ∃ w1, w1 = wa.alloc (.cells #[.int .i64 0, .int .i64 0, .int .i64 0, .int .i64 0, .int .i64 0, .int .i64 0, .int .i64 0, .int .i64 0, .int .i64 0, .int .i64 0, .slice none 0 0, .slice none 0 0, .slice none 0 0, .slice none 0 0, .slice none 0 0, .slice none 0 0] 30) := ⟨_, rfl⟩
    have Xw1 := hide (show Ext wa w1 by rw [hw1]; exact Ext.new _ _)
    have Ew1 := hide (Ewa.out.trans Xw1.out)
    have FEH := hide (show FE wr w1 wa.heap.size from ⟨Ewa.out.size, by rw [hw1]; exact Blk.new _ _ _⟩)
    rw [← hw1] at hHeld ⊢
    clear hw1
    obtain ⟨eb, heb⟩ : ∃ eb, eb = wa.heap.size := ⟨_, rfl⟩
    rw [← heb] at FEH ⊢
    clear heb
    refine GoF.each (rs := [6, 11]) (by kernel_rfl) (by kernel_rfl) (by kernel_rfl) ?_
    refine EachF.cons (i := 6) rfl (fun K hK => ?_) ?_
    · have FEH0 := FEH
      obtain ⟨w2, oc, hrun, hx, hrd, hlo⟩ := conv_bytes w1 old
      have Xw2 := hide hx
      have Ew2 := hide (Ew1.out.trans hx)
      have FOH := hide (show FO wr w2 old w1.heap.size from ⟨Ew1.out.size, hlo, hrd⟩)
      have FEH := hide (FEH.out.ex Xw2.out)
      have hlo2 := hlo
      clear hx hrd hlo
      go_simp
      refine hK.out _ _ (HS.out _ Ew2.out) (fun hHeld => ?_)
      clear hK K hrun
      try simp only [Act.put, List.setIfInBounds_toArray, List.set_cons_zero, List.set_cons_succ]
      obtain ⟨ob, hob⟩ : ∃ ob, ob = w1.heap.size := ⟨_, rfl⟩
      rw [← hob] at FOH ⊢
      have hne : eb ≠ ob := by have h2 := FEH0.out.2.lt; rw [hob]; omega
      clear hob hlo2
      refine GoF.each (rs := [11]) (by kernel_rfl) (by kernel_rfl) (by kernel_rfl) ?_
      refine EachF.cons (i := 11) rfl (fun K hK => ?_) EachF.nil
      go_simp
      refine hK.out _ _ (HS.out _ (Ew2.out.alloc _)) (fun hHeld => ?_)
      clear hK K
      try simp only [Act.put, List.setIfInBounds_toArray, List.set_cons_zero, List.set_cons_succ]
      obtain ⟨w3, hw3⟩ : ∃ w3, w3 = w2.alloc (.cells #[.int .u8 (n : Int)] 5) := ⟨_, rfl⟩
      have Xw3 := hide (show Ext w2 w3 by rw [hw3]; exact Ext.new _ _)
      have Ew3 := hide (Ew2.out.trans Xw3.out)
      have FEH := hide (FEH.out.ex Xw3.out)
      have FOH := hide (FOH.out.ex Xw3.out)
      have FNH := hide (show FN wr w3 (n : Int) w2.heap.size from ⟨Ew2.out.size, by rw [hw3]; exact Blk.new _ _ _⟩)
      rw [← hw3] at hHeld ⊢
      clear hw3
      obtain ⟨nb, hnb⟩ : ∃ nb, nb = w2.heap.size := ⟨_, rfl⟩
      rw [← hnb] at FNH ⊢
      clear hnb
      refine GoF.take 12 (some 53) (v := ?_) rfl rfl (by kernel_rfl) (by kernel_rfl) (by kernel_rfl) (fun _ _ _ h => h) (Or.inl ⟨by rfl, ?_⟩) (by assumption) ?_
      rotate_left
      · intro w' hSw
        try dsimp only at hSw
        go_simp
        try with_reducible rfl
      try simp only [Act.put, List.setIfInBounds_toArray, List.set_cons_zero, List.set_cons_succ]
      refine GoF.last (by kernel_rfl) (by kernel_rfl) rfl (fun K hK => ?_)
      clear hHeld x0 x1 hbr hcr
      obtain ⟨z0, z1, z2, z3, z4, z5, z6, z7, z8, z9, z10, z11, z12, z13, z14, z15⟩ := FEH.out.2.cells16
      have fz := FEH.out.2.frozen
      go_simp
      refine hK.out _ _ (NoPanic.normal ?_)
      clear hK K z0 z1 z2 z3 z4 z5 z6 z7 z8 z9 z10 z11 z12 z13 z14 z15 fz
      go_wp2_with (fail)
      exact made_of FOH.out FNH.out FEH.out hne Ew3.out HN.out
    refine EachF.cons (i := 11) rfl (fun K hK => ?_) ?_
    · go_simp
      refine hK.out _ _ (HS.out _ (Ew1.out.alloc _)) (fun hHeld => ?_)
      clear hK K
      try simp only [Act.put, List.setIfInBounds_toArray, List.set_cons_zero, List.set_cons_succ]
      obtain ⟨w2, hw2⟩ : ∃ w2, w2 = w1.alloc (.cells #[.int .u8 (n : Int)] 5) := ⟨_, rfl⟩
      have Xw2 := hide (show Ext w1 w2 by rw [hw2]; exact Ext.new _ _)
      have Ew2 := hide (Ew1.out.trans Xw2.out)
      have FEH := hide (FEH.out.ex Xw2.out)
      have FNH := hide (show FN wr w2 (n : Int) w1.heap.size from ⟨Ew1.out.size, by rw [hw2]; exact Blk.new _ _ _⟩)
      rw [← hw2] at hHeld ⊢
      clear hw2
      obtain ⟨nb, hnb⟩ : ∃ nb, nb = w1.heap.size := ⟨_, rfl⟩
      rw [← hnb] at FNH ⊢
      clear hnb
      refine GoF.each (rs := [6]) (by kernel_rfl) (by kernel_rfl) (by kernel_rfl) ?_
      refine EachF.cons (i := 6) rfl (fun K hK => ?_) EachF.nil
      have FEH0 := FEH
      obtain ⟨w3, oc, hrun, hx, hrd, hlo⟩ := conv_bytes w2 old
      have Xw3 := hide hx
      have Ew3 := hide (Ew2.out.trans hx)
      have FOH := hide (show FO wr w3 old w2.heap.size from ⟨Ew2.out.size, hlo, hrd⟩)
      have FEH := hide (FEH.out.ex Xw3.out)
      have FNH := hide (FNH.out.ex Xw3.out)
      have hlo2 := hlo
      clear hx hrd hlo
      go_simp
      refine hK.out _ _ (HS.out _ Ew3.out) (fun hHeld => ?_)
      clear hK K hrun
      try simp only [Act.put, List.setIfInBounds_toArray, List.set_cons_zero, List.set_cons_succ]
      obtain ⟨ob, hob⟩ : ∃ ob, ob = w2.heap.size := ⟨_, rfl⟩
      rw [← hob] at FOH ⊢
      have hne : eb ≠ ob := by have h2 := FEH0.out.2.lt; rw [hob]; omega
      clear hob hlo2
      refine GoF.take 12 (some 53) (v := ?_) rfl rfl (by kernel_rfl) (by kernel_rfl) (by kernel_rfl) (fun _ _ _ h => h) (Or.inl ⟨by rfl, ?_⟩) (by assumption) ?_
      rotate_left
      · intro w' hSw
        try dsimp only at hSw
        go_simp
        try with_reducible rfl
      try simp only [Act.put, List.setIfInBounds_toArray, List.set_cons_zero, List.set_cons_succ]
      refine GoF.last (by kernel_rfl) (by kernel_rfl) rfl (fun K hK => ?_)
      clear hHeld x0 x1 hbr hcr
      obtain ⟨z0, z1, z2, z3, z4, z5, z6, z7, z8, z9, z10, z11, z12, z13, z14, z15⟩ := FEH.out.2.cells16
      have fz := FEH.out.2.frozen
      go_simp
      refine hK.out _ _ (NoPanic.normal ?_)
      clear hK K z0 z1 z2 z3 z4 z5 z6 z7 z8 z9 z10 z11 z12 z13 z14 z15 fz
      go_wp2_with (fail)
      exact made_of FOH.out FNH.out FEH.out hne Ew3.out HN.out
    exact EachF.nil
  exact EachF.nil
end Go.Proofs.Ytogminifliceaaa.undoWhole
