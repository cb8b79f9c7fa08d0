/- Mark: the mark of what is seen: its composite. -/
import Derived.Test.YtmleneljmcikdaaMarkL
import Derived.Deep.DeepCutAuto
import Derived.Outline
import Derived.Deep.RegionWith
namespace Go.Proofs.Ytmleneljmcikdaa
open Go.ChangeShapes Go.WideShapes Go.ChangeAt Go.RowKit
set_option linter.unusedVariables false

set_option maxRecDepth 100000 in
set_option maxHeartbeats 40000000 in
/-- the composite -/
theorem make_r1 (A1 A2 A3 : Option Addr) (n1 n2 n3 c1 c2 c3 : Nat) (u h : Int) (xL xD xO : List Value) (w W1 : World)
    (hL : LiveRow xL n1) (rL : Reads w w.heap.size 4 A1 n1 xL) (a1 : A1 = none → c1 = 0) (l1 : n1 ≤ 1048576) (oD : ∀ v ∈ xD, v.oneCell' = true) (rD : Reads w w.heap.size 2 A2 n2 xD) (a2 : A2 = none → c2 = 0) (l2 : n2 ≤ 1048576)
    (hO : OpenIn w xO n3) (rO : Reads w w.heap.size 3 A3 n3 xO) (a3 : A3 = none → c3 = 0) (l3 : n3 ≤ 1048576)
    (E1 : Hid (Ext w W1)) (k0 : Blk W1 w.heap.size 26 #[.slice A1 n1 c1, .slice A2 n2 c2, .slice A3 n3 c3, .int .i64 u, .int .i64 h])
    (kr : Blk W1 (w.heap.size + 1) 34 #[.int .i64 0, .int .i64 0, .int .i64 0, .int .i64 0, .int .i64 0, .int .i64 0, .int .i64 0, .int .i64 0, .int .i64 0, .int .i64 0, .slice none 0 0, .slice none 0 0, .slice none 0 0, .slice none 0 0, .slice none 0 0, .slice none 0 0]) (K : Act → World → Prop) (Q : Exit → Act → World → Prop)
    (hK : ∀ (v u5 u6 u7 u8 u9 u10 u11 u12 u13 u14 u15 u16 u17 u18 : Value) (wx : World), MidV w u h n1 n2 n3 xL xD xO v wx → K ⟨(Value.agg #[.slice A1 n1 c1, .slice A2 n2 c2, .slice A3 n3 c3, .int .i64 u, .int .i64 h] :: Value.pointer (some ⟨w.heap.size, 0, none⟩) :: Value.pointer (some ⟨w.heap.size + 1, 0, none⟩) :: v :: undef :: u5 :: u6 :: u7 :: u8 :: u9 :: u10 :: u11 :: u12 :: u13 :: u14 :: u15 :: u16 :: u17 :: u18 :: undef :: undef :: undef :: undef :: undef :: undef :: undef :: undef :: undef :: undef :: undef :: undef :: undef :: undef :: undef :: undef :: undef :: undef :: undef :: undef :: []).toArray, []⟩ wx) :
    Code.wp Try.prog (regionAt Try.f7 1) (Exit.then K Q) ⟨(Value.agg #[.slice A1 n1 c1, .slice A2 n2 c2, .slice A3 n3 c3, .int .i64 u, .int .i64 h] :: Value.pointer (some ⟨w.heap.size, 0, none⟩) :: Value.pointer (some ⟨w.heap.size + 1, 0, none⟩) :: undef :: undef :: undef :: undef :: undef :: undef :: undef :: undef :: undef :: undef :: undef :: undef :: undef :: undef :: undef :: undef :: undef :: undef :: undef :: undef :: undef :: undef :: undef :: undef :: undef :: undef :: undef :: undef :: undef :: undef :: undef :: undef :: undef :: undef :: undef :: undef :: []).toArray, []⟩ W1 := by
  have OL := hide (lives_one hL rL.1)
  have OO := hide (opens_one hO rO.1)
  have OD := hide oD
  have HO := hide hO
  have RL := hide rL
  have RD := hide rD
  have RO := hide rO
  have N1 := hide a1
  have N2 := hide a2
  have N3 := hide a3
  have M1 := hide (show n1 ≤ maxLen by unfold maxLen; omega)
  have M2 := hide (show n2 ≤ maxLen by unfold maxLen; omega)
  have M3 := hide (show n3 ≤ maxLen by unfold maxLen; omega)
  clear hL rL a1 oD rD a2 hO rO a3
  have K0 := hide k0
  have KR := hide kr
  have hz1 : w.heap.size + 1 < W1.heap.size := kr.lt
  obtain ⟨s0, s1, s2, s3, s4⟩ := k0.cells5
  clear k0 kr
  conv => arg 2; whnf
  go_region_held3 (fun w' => w'.cell? ⟨w.heap.size, 0, none⟩ = some (.slice A1 n1 c1) ∧ w'.cell? ⟨w.heap.size, 1, none⟩ = some (.slice A2 n2 c2) ∧ w'.cell? ⟨w.heap.size, 2, none⟩ = some (.slice A3 n3 c3) ∧ w'.cell? ⟨w.heap.size, 3, none⟩ = some (.int .i64 u) ∧ w'.cell? ⟨w.heap.size, 4, none⟩ = some (.int .i64 h))
    (first | ((refine Blk.cells5 (Ext.blk (a := W1) ?_ K0.out); (repeat (first | with_reducible exact E5.out | with_reducible exact E4.out | with_reducible exact E3.out | with_reducible exact Ext.refl _ | with_reducible refine Ext.drew ?_ | with_reducible refine Ext.alloc ?_ _)); done)) | (exact Blk.cells5 (Touch.blk (touch_set16 _ _ _ _ _ _ _ _ _ _ _ _ _ _ _ _ _ _) (Ext.blk E5.out K0.out) (fun e => Blk.ne_ (Ext.blk E5.out K0.out) kk (by decide) e))))
    (first
      | (go_at_call 17; refine (clone_Live A1 c1 n1 xL _ N1.out (Ext.read (E1.out.trans (by (repeat (first | with_reducible exact E5.out | with_reducible exact E4.out | with_reducible exact E3.out | with_reducible exact Ext.refl _ | with_reducible refine Ext.drew ?_ | with_reducible refine Ext.alloc ?_ _)))) RL.out) OL.out M1.out (by omega)).mono ?_; rintro e w3 ⟨sL, rfl, ho, he⟩; obtain ⟨AL, cL, rfl, _⟩ := own_form ho; have E3 := hide (Ext.trans (show Ext W1 _ from by (repeat (first | with_reducible exact E5.out | with_reducible exact E4.out | with_reducible exact E3.out | with_reducible exact Ext.refl _ | with_reducible refine Ext.drew ?_ | with_reducible refine Ext.alloc ?_ _))) he); have XL := hide (World.ownsRow.mono ho (Ext.size (E1.out.trans (show Ext W1 _ from by (repeat (first | with_reducible exact E5.out | with_reducible exact E4.out | with_reducible exact E3.out | with_reducible exact Ext.refl _ | with_reducible refine Ext.drew ?_ | with_reducible refine Ext.alloc ?_ _)))))); (try (with_reducible have kk := Ext.blk he ((Blk.new W1 34 _).drew); have hkk : w.heap.size + 1 < W1.heap.size := hz1)); clear ho he)
      | (go_at_call 18; refine (clone_Dirty A2 c2 n2 xD _ N2.out (Ext.read (E1.out.trans (by (repeat (first | with_reducible exact E5.out | with_reducible exact E4.out | with_reducible exact E3.out | with_reducible exact Ext.refl _ | with_reducible refine Ext.drew ?_ | with_reducible refine Ext.alloc ?_ _)))) RD.out) OD.out M2.out (by omega)).mono ?_; rintro e w4 ⟨sD, rfl, ho, he⟩; obtain ⟨AD, cD, rfl, _⟩ := own_form ho; have E4 := hide (Ext.trans (show Ext W1 _ from by (repeat (first | with_reducible exact E5.out | with_reducible exact E4.out | with_reducible exact E3.out | with_reducible exact Ext.refl _ | with_reducible refine Ext.drew ?_ | with_reducible refine Ext.alloc ?_ _))) he); have XD := hide (World.ownsRow.mono ho (Ext.size (E1.out.trans (show Ext W1 _ from by (repeat (first | with_reducible exact E5.out | with_reducible exact E4.out | with_reducible exact E3.out | with_reducible exact Ext.refl _ | with_reducible refine Ext.drew ?_ | with_reducible refine Ext.alloc ?_ _)))))); have F3 := hide (Ext.trans (show Ext w3 _ from by first | with_reducible exact Ext.refl _ | with_reducible exact Ext.new _ _) he); (first | (with_reducible have kk := Ext.blk he kk) | (with_reducible have kk := Ext.blk he (Blk.new w3 34 _); have hkk : w.heap.size + 1 < w3.heap.size := Nat.lt_of_lt_of_le hz1 E3.out.size) | skip); clear ho he)
      | (go_at_call 19; refine (clone_Open A3 c3 n3 xO _ N3.out (Ext.read (E1.out.trans (by (repeat (first | with_reducible exact E5.out | with_reducible exact E4.out | with_reducible exact E3.out | with_reducible exact Ext.refl _ | with_reducible refine Ext.drew ?_ | with_reducible refine Ext.alloc ?_ _)))) RO.out) OO.out M3.out (by omega)).mono ?_; rintro e w5 ⟨sO, rfl, ho, he⟩; obtain ⟨AO, cO, rfl, _⟩ := own_form ho; have E5 := hide (Ext.trans (show Ext W1 _ from by (repeat (first | with_reducible exact E5.out | with_reducible exact E4.out | with_reducible exact E3.out | with_reducible exact Ext.refl _ | with_reducible refine Ext.drew ?_ | with_reducible refine Ext.alloc ?_ _))) he); have XO := hide (World.ownsRow.mono ho (Ext.size (E1.out.trans (show Ext W1 _ from by (repeat (first | with_reducible exact E5.out | with_reducible exact E4.out | with_reducible exact E3.out | with_reducible exact Ext.refl _ | with_reducible refine Ext.drew ?_ | with_reducible refine Ext.alloc ?_ _)))))); have F4 := hide (Ext.trans (show Ext w4 _ from by first | with_reducible exact Ext.refl _ | with_reducible exact Ext.new _ _) he); (first | (with_reducible have kk := Ext.blk he kk) | (with_reducible have kk := Ext.blk he (Blk.new w4 34 _); have hkk : w.heap.size + 1 < w4.heap.size := Nat.lt_of_lt_of_le hz1 E4.out.size) | skip); (try (obtain ⟨x0, x1, x2, x3, x4, x5, x6, x7, x8, x9, x10, x11, x12, x13, x14, x15⟩ := kk.cells16; have kf := kk.frozen)); clear ho he))
  all_goals
    go_wp2_with (fail)
    first | (have hk' := kk; exact mid_a E1.out KR.out E5.out XL.out F3.out XD.out F4.out XO.out kk hkk) | exact mid_b E1.out KR.out E5.out XL.out F3.out XD.out F4.out XO.out
end Go.Proofs.Ytmleneljmcikdaa
