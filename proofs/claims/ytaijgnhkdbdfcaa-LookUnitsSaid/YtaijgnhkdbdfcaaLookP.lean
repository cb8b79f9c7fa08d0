/- Look: contracts: twin. (Printed by mk_lookp.py.) -/
import Derived.Test.YtaijgnhkdbdfcaaLookN
import Derived.Test.YtaijgnhkdbdfcaaTail
namespace Go.Proofs.Ytaijgnhkdbdfcaa
open Go.ChangeShapes Go.WideShapes Go.ChangeAt Go.RowKit
set_option linter.unusedVariables false

/-- what is seen, of its own -/
def GivesSn (w : World) (s : Sn) (e : Ending) (w' : World) : Prop := ∃ cs, e = .returned (.agg cs.toArray) ∧ SnIs w' w.heap.size s cs ∧ Ext w w'
structure Sn.Ok (s : Sn) (m : Nat) : Prop where
  l : s.L.length ≤ m
  d : s.D.length ≤ m
  o : s.O.length ≤ m
  m : ∀ x ∈ s.O, x.mv.length ≤ 1000
theorem touch_ne {w w1 : World} {g : Nat} {t : TypeId} {cs : Array Value} (h : Touch w w1 (fun k => k = g)) (hB : Blk w g t cs) {base : Nat} {s : Sn} {AL cL AD cD AO cO} (ha : SnAt w base s AL cL AD cD AO cO) (ht : t = 37) : SnAt w1 base s AL cL AD cD AO cO :=
  ha.touch h hB (by rw [ht]; decide) (by rw [ht]; decide) (by rw [ht]; decide) (by rw [ht]; decide)
theorem twin_end {w w1 w2 w3 w4 w5 w6 : World} {sb nl nd c2 c3 c4 : Nat} {A2 A3 A4 : Option Addr} {s : Sn} {cs cs' : Array Value} (hsb : sb = w.heap.size) (x1 : Ext w w1) (x2 : Ext w w2) (x3 : Ext w w3) (x4 : Ext w w4) (b4 : Blk w4 sb 37 cs) (t5 : Touch w4 w5 (fun k => k = sb)) (z5 : Blk w5 (sb + 1) 37 cs') (t6 : Touch w5 w6 (fun k => k = sb + 1))
    (p4 : w4.ownsRow w1.drew.heap.size 49 4 (.slice A2 nl c2) nl (lvs s.L)) (p3 : w4.ownsRow w2.heap.size 40 2 (.slice A3 nd c3) nd (dts s.D)) (o4 : OwnO w4 w3.heap.size s.O A4 s.O.length c4) (hl : nl = s.L.length) (hd : nd = s.D.length) : SnAt w6 w.heap.size s A2 c2 A3 c3 A4 c4 ∧ Ext w w6 := by
  subst hl hd
  obtain ⟨os, ho, hos⟩ := o4
  have hA : SnAt w4 w.heap.size s A2 c2 A3 c3 A4 c4 := ⟨own_base p4 x1.size, own_base p3 x2.size, os, own_base ho x3.size, hos⟩
  refine ⟨touch_ne t6 z5 (touch_ne t5 b4 hA rfl) rfl, ?_⟩
  exact Touch.ext (Touch.ext x4 t5 (by omega)) t6 (by omega)
set_option maxRecDepth 100000 in
set_option maxHeartbeats 4000000 in
theorem twin_any (w : World) (b : Nat) (s : Sn) (AL : Option Addr) (cL : Nat) (AD : Option Addr) (cD : Nat) (AO : Option Addr) (cO nl nd no : Nat) (h : SnAt w b s AL cL AD cD AO cO) (hk : s.Ok 1000) (hnl : nl = s.L.length) (hnd : nd = s.D.length) (hno : no = s.O.length) :
    Calls Try.prog 19 #[.agg #[.slice AL nl cL, .slice AD nd cD, .slice AO no cO, .int .i64 s.u, .int .i64 s.h]] w (GivesSn w s) := by
  have HS := hide h
  have HK := hide hk
  have NL := hide hnl
  have ND := hide hnd
  have NO := hide hno
  clear h hk hnl hnd hno
  obtain ⟨u, hu⟩ : ∃ u, u = s.u := ⟨_, rfl⟩
  obtain ⟨hh, hhh⟩ : ∃ hh, hh = s.h := ⟨_, rfl⟩
  rw [← hu, ← hhh]
  have HU := hide hu
  have HHH := hide hhh
  clear hu hhh
  go_enter Try.func19, Try.ntmps19
  go_upto_region 1 with (fail)
  obtain ⟨w1, hw1⟩ : ∃ w1, w1 = (w.alloc (.cells #[.slice AL nl cL, .slice AD nd cD, .slice AO no cO, .int .i64 u, .int .i64 hh] 37)).alloc (.cells #[.slice none 0 0, .slice none 0 0, .slice none 0 0, .int .i64 0, .int .i64 0] 37) := ⟨_, rfl⟩
  rw [← hw1]
  obtain ⟨sb, hsb⟩ : ∃ sb, sb = w.heap.size := ⟨_, rfl⟩
  rw [← hsb]
  have X1 := hide (show Ext w w1 by rw [hw1]; exact (Ext.new w _).alloc _)
  have B1 := hide (show Blk w1 sb 37 #[.slice AL nl cL, .slice AD nd cD, .slice AO no cO, .int .i64 u, .int .i64 hh] by rw [hw1, hsb]; exact (Blk.new w 37 _).alloc _)
  have Z1 := hide (show Blk w1 (sb + 1) 37 #[.slice none 0 0, .slice none 0 0, .slice none 0 0, .int .i64 0, .int .i64 0] by rw [hw1, hsb]; exact blk_new1 w _ 37 _)
  have HSB := hide hsb
  clear hw1 hsb
  obtain ⟨g0, g1, g2, _, _⟩ := B1.out.cells5
  refine wp_region_H (S := (fun w' => w'.cell? ⟨sb, 0, none⟩ = some (.slice AL nl cL) ∧ w'.cell? ⟨sb, 1, none⟩ = some (.slice AD nd cD) ∧ w'.cell? ⟨sb, 2, none⟩ = some (.slice AO no cO))) 10 (by kernel_rfl) (by kernel_rfl) ⟨g0, g1, g2⟩ (fun hHeld => ?_)
  refine GoH.take 0 (some 3) (v := ?_) rfl rfl (by kernel_rfl) (by kernel_rfl) (by kernel_rfl) (fun _ _ _ h => h) (Or.inl ⟨by rfl, ?_⟩) (by assumption) ?_
  rotate_left
  · intro w' hSw
    try dsimp only at hSw
    go_simp
    try with_reducible rfl
  try simp only [Act.put, List.setIfInBounds_toArray, List.set_cons_zero, List.set_cons_succ]
  refine GoH.take 1 (some 4) (v := ?_) rfl rfl (by kernel_rfl) (by kernel_rfl) (by kernel_rfl) (fun _ _ _ h => h) (Or.inl ⟨by rfl, ?_⟩) (by assumption) ?_
  rotate_left
  · intro w' hSw
    try dsimp only at hSw
    go_simp
    try with_reducible rfl
  try simp only [Act.put, List.setIfInBounds_toArray, List.set_cons_zero, List.set_cons_succ]
  refine GoH.take 3 (some 6) (v := ?_) rfl rfl (by kernel_rfl) (by kernel_rfl) (by kernel_rfl) (fun _ _ _ h => h) (Or.inl ⟨by rfl, ?_⟩) (by assumption) ?_
  rotate_left
  · intro w' hSw
    try dsimp only at hSw
    go_simp
    try with_reducible rfl
  try simp only [Act.put, List.setIfInBounds_toArray, List.set_cons_zero, List.set_cons_succ]
  refine GoH.take 4 (some 7) (v := ?_) rfl rfl (by kernel_rfl) (by kernel_rfl) (by kernel_rfl) (fun _ _ _ h => h) (Or.inl ⟨by rfl, ?_⟩) (by assumption) ?_
  rotate_left
  · intro w' hSw
    try dsimp only at hSw
    go_simp
    try with_reducible rfl
  try simp only [Act.put, List.setIfInBounds_toArray, List.set_cons_zero, List.set_cons_succ]
  refine GoH.take 6 (some 9) (v := ?_) rfl rfl (by kernel_rfl) (by kernel_rfl) (by kernel_rfl) (fun _ _ _ h => h) (Or.inl ⟨by rfl, ?_⟩) (by assumption) ?_
  rotate_left
  · intro w' hSw
    try dsimp only at hSw
    go_simp
    try with_reducible rfl
  try simp only [Act.put, List.setIfInBounds_toArray, List.set_cons_zero, List.set_cons_succ]
  refine GoH.take 7 (some 10) (v := ?_) rfl rfl (by kernel_rfl) (by kernel_rfl) (by kernel_rfl) (fun _ _ _ h => h) (Or.inl ⟨by rfl, ?_⟩) (by assumption) ?_
  rotate_left
  · intro w' hSw
    try dsimp only at hSw
    go_simp
    try with_reducible rfl
  try simp only [Act.put, List.setIfInBounds_toArray, List.set_cons_zero, List.set_cons_succ]
  refine GoH.each (rs := [2]) (by kernel_rfl) (by kernel_rfl) (by kernel_rfl) ?_
  refine EachH.cons (i := 2) rfl (fun K hK => ?_) EachH.nil
  go_simp
  have HR := hide (own_reads (X1.out.drew.own (by rw [NL.out]; exact HS.out.l) : w1.drew.ownsRow b 49 4 (.slice AL nl cL) nl (lvs s.L)))
  refine (clone_lives AL cL nl (lvs s.L) _ (no_cap (by rw [NL.out]; exact HS.out.l : w.ownsRow b 49 4 (.slice AL nl cL) nl (lvs s.L))) HR.out (lvs_one s.L) (by have := HK.out.l; rw [NL.out]; omega)).mono ?_
  rintro e w2 ⟨A2, c2, rfl, ho2, he⟩
  have O2 := hide ho2
  have X2 := hide (X1.out.drew.trans he)
  have B2 := hide (Ext.blk he B1.out.drew)
  have Z2 := hide (Ext.blk he Z1.out.drew)
  refine hK.out _ _ ⟨(B2.out.cell 0).trans rfl, (B2.out.cell 1).trans rfl, (B2.out.cell 2).trans rfl⟩ (fun hHeld => ?_)
  clear hK K ho2 he HR
  try simp only [Act.put, List.setIfInBounds_toArray, List.set_cons_zero, List.set_cons_succ]
  refine GoH.take 9 (some 12) (v := ?_) rfl rfl (by kernel_rfl) (by kernel_rfl) (by kernel_rfl) (fun _ _ _ h => h) (Or.inl ⟨by rfl, ?_⟩) (by assumption) ?_
  rotate_left
  · intro w' hSw
    try dsimp only at hSw
    go_simp
    try with_reducible rfl
  try simp only [Act.put, List.setIfInBounds_toArray, List.set_cons_zero, List.set_cons_succ]
  refine GoH.each (rs := [5]) (by kernel_rfl) (by kernel_rfl) (by kernel_rfl) ?_
  refine EachH.cons (i := 5) rfl (fun K hK => ?_) EachH.nil
  go_simp
  have HR := hide (own_reads (X2.out.own (by rw [ND.out]; exact HS.out.d) : w2.ownsRow b 40 2 (.slice AD nd cD) nd (dts s.D)))
  refine (clone_dirties AD cD nd (dts s.D) _ (no_cap (by rw [ND.out]; exact HS.out.d : w.ownsRow b 40 2 (.slice AD nd cD) nd (dts s.D))) HR.out (dts_one s.D) (by have := HK.out.d; rw [ND.out]; omega)).mono ?_
  rintro e w3 ⟨A3, c3, rfl, ho3, he⟩
  have O3 := hide ho3
  have X3 := hide (X2.out.trans he)
  have B3 := hide (Ext.blk he B2.out)
  have Z3 := hide (Ext.blk he Z2.out)
  have P2 := hide (he.own O2.out)
  refine hK.out _ _ ⟨(B3.out.cell 0).trans rfl, (B3.out.cell 1).trans rfl, (B3.out.cell 2).trans rfl⟩ (fun hHeld => ?_)
  clear hK K ho3 he HR
  try simp only [Act.put, List.setIfInBounds_toArray, List.set_cons_zero, List.set_cons_succ]
  refine GoH.each (rs := [8]) (by kernel_rfl) (by kernel_rfl) (by kernel_rfl) ?_
  refine EachH.cons (i := 8) rfl (fun K hK => ?_) EachH.nil
  go_simp
  refine (openTwin_any _ b AO cO no s.O NO.out (by obtain ⟨os, h1, h2⟩ := (HS.out.ext X3.out).o; rw [NO.out]; exact ⟨os, h1, h2⟩) HK.out.m (by have := HK.out.o; rw [NO.out]; omega)).mono ?_
  rintro e w4 ⟨A4, c4, rfl, ho4, he⟩
  have O4 := hide ho4
  have X4 := hide (X3.out.trans he)
  have B4 := hide (Ext.blk he B3.out)
  have Z4 := hide (Ext.blk he Z3.out)
  have P4 := hide (he.own P2.out)
  have P3 := hide (he.own O3.out)
  have f0 := B4.out.frozen 0
  have f1 := B4.out.frozen 1
  have f2 := B4.out.frozen 2
  refine hK.out _ _ ⟨(B4.out.cell 0).trans rfl, (B4.out.cell 1).trans rfl, (B4.out.cell 2).trans rfl⟩ (fun hHeld => ?_)
  clear hK K ho4 he
  obtain ⟨h0, h1, h2⟩ := hHeld
  try simp only [Act.put, List.setIfInBounds_toArray, List.set_cons_zero, List.set_cons_succ]
  refine GoH.tail ?_
  refine GoT.each (rs := [10]) (by kernel_rfl) (by kernel_rfl) (by kernel_rfl) ?_
  refine EachT.cons (i := 10) rfl (fun K hK => ?_) EachT.nil
  go_simp
  refine hK.out _ _ ?_
  clear hK K
  try simp only [Act.put, List.setIfInBounds_toArray, List.set_cons_zero, List.set_cons_succ]
  refine GoT.take 11 (some 13) (v := ?_) rfl rfl (by kernel_rfl) (by kernel_rfl) (by kernel_rfl) (by kernel_rfl) (fun _ _ _ h => h) (Or.inl ⟨by rfl, ?_⟩) ?_
  rotate_left
  · intro w' hSw
    try dsimp only at hSw
    go_simp
    try with_reducible rfl
  try simp only [Act.put, List.setIfInBounds_toArray, List.set_cons_zero, List.set_cons_succ]
  refine GoT.each (rs := [12]) (by kernel_rfl) (by kernel_rfl) (by kernel_rfl) ?_
  refine EachT.cons (i := 12) rfl (fun K hK => ?_) EachT.nil
  go_simp
  refine hK.out _ _ ?_
  clear hK K
  try simp only [Act.put, List.setIfInBounds_toArray, List.set_cons_zero, List.set_cons_succ]
  refine GoT.take 13 (some 14) (v := ?_) rfl rfl (by kernel_rfl) (by kernel_rfl) (by kernel_rfl) (by kernel_rfl) (fun _ _ _ h => h) (Or.inl ⟨by rfl, ?_⟩) ?_
  rotate_left
  · intro w' hSw
    try dsimp only at hSw
    go_simp
    try with_reducible rfl
  try simp only [Act.put, List.setIfInBounds_toArray, List.set_cons_zero, List.set_cons_succ]
  refine GoT.last 14 (by kernel_rfl) (by kernel_rfl) (by kernel_rfl) rfl (fun K hK => ?_)
  go_simp
  refine hK.out _ _ ?_
  clear hK K h0 h1 h2 f0 f1 f2 g0 g1 g2 hHeld
  have B5 := hide (((B4.out.set_ 0 (.slice A2 nl c2)).set_ 1 (.slice A3 nd c3)).set_ 2 (.slice A4 s.O.length c4))
  have Z5 := hide (((Z4.out.far (p := ⟨sb, 0, none⟩) (by simp) (.slice A2 nl c2)).far (p := ⟨sb, 1, none⟩) (by simp) (.slice A3 nd c3)).far (p := ⟨sb, 2, none⟩) (by simp) (.slice A4 s.O.length c4))
  have T5 := hide (((touch_set w4 sb 0 (.slice A2 nl c2)).trans (touch_set _ sb 1 (.slice A3 nd c3)) (fun _ _ e => e)).trans (touch_set _ sb 2 (.slice A4 s.O.length c4)) (fun _ _ e => e))
  obtain ⟨w5, hw5⟩ : ∃ w5, w5 = ((w4.setCell ⟨sb, 0, none⟩ (.slice A2 nl c2)).setCell ⟨sb, 1, none⟩ (.slice A3 nd c3)).setCell ⟨sb, 2, none⟩ (.slice A4 s.O.length c4) := ⟨_, rfl⟩
  rw [← hw5] at B5 Z5 T5
  rw [← hw5]
  clear hw5
  simp only [List.set_cons_zero, List.set_cons_succ, List.setIfInBounds_toArray] at B5
  obtain ⟨k0, k1, k2, k3, k4⟩ := B5.out.cells5
  obtain ⟨z0, z1, z2, z3, z4⟩ := Z5.out.cells5
  have f0 := Z5.out.frozen 0
  have f1 := Z5.out.frozen 1
  have f2 := Z5.out.frozen 2
  have f3 := Z5.out.frozen 3
  have f4 := Z5.out.frozen 4
  go_wp2_with (fail)
  have Z6 := hide (Z5.out.set5 (.slice A2 nl c2) (.slice A3 nd c3) (.slice A4 s.O.length c4) (.int .i64 u) (.int .i64 hh))
  have T6 := hide (touch_set5 w5 (sb + 1) (.slice A2 nl c2) (.slice A3 nd c3) (.slice A4 s.O.length c4) (.int .i64 u) (.int .i64 hh))
  obtain ⟨w6, hw6⟩ : ∃ w6, w6 = ((((w5.setCell ⟨sb + 1, 0, none⟩ (.slice A2 nl c2)).setCell ⟨sb + 1, 1, none⟩ (.slice A3 nd c3)).setCell ⟨sb + 1, 2, none⟩ (.slice A4 s.O.length c4)).setCell ⟨sb + 1, 3, none⟩ (.int .i64 u)).setCell ⟨sb + 1, 4, none⟩ (.int .i64 hh) := ⟨_, rfl⟩
  rw [← hw6] at Z6 T6
  rw [← hw6]
  clear hw6 z0 z1 z2 z3 z4 f0 f1 f2 f3 f4 k0 k1 k2 k3 k4
  obtain ⟨z0, z1, z2, z3, z4⟩ := Z6.out.cells5
  have SA := hide (twin_end HSB.out X1.out X2.out X3.out X4.out B4.out T5.out Z5.out T6.out P4.out P3.out O4.out NL.out ND.out)
  exact bodyPost_ret (v := .agg #[.slice A2 nl c2, .slice A3 nd c3, .slice A4 s.O.length c4, .int .i64 u, .int .i64 hh]) (by simp [results, Try.results19, go_sem, z0, z1, z2, z3, z4]) rfl ⟨_, rfl, ⟨A2, c2, A3, c3, A4, c4, by rw [NL.out, ND.out, HU.out, HHH.out]; rfl, SA.out.1⟩, SA.out.2⟩
end Go.Proofs.Ytaijgnhkdbdfcaa
