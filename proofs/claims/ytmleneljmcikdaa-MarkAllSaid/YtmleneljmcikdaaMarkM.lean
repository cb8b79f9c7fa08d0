/- Mark: the mark of what is seen: the walk. -/
import Derived.Test.YtmleneljmcikdaaMarkN
import Derived.Deep.DeepCutAuto
import Derived.Outline
import Derived.Deep.RegionWith
namespace Go.Proofs.Ytmleneljmcikdaa
open Go.ChangeShapes Go.WideShapes Go.ChangeAt Go.RowKit
set_option linter.unusedVariables false

set_option maxRecDepth 100000 in
set_option maxHeartbeats 40000000 in
theorem make_any (A1 A2 A3 : Option Addr) (n1 n2 n3 c1 c2 c3 : Nat) (u h : Int) (xL xD xO : List Value) (w : World)
    (hL : LiveRow xL n1) (rL : Reads w w.heap.size 4 A1 n1 xL) (a1 : A1 = none → c1 = 0) (l1 : n1 ≤ 1048576) (oD : ∀ v ∈ xD, v.oneCell' = true) (rD : Reads w w.heap.size 2 A2 n2 xD) (a2 : A2 = none → c2 = 0) (l2 : n2 ≤ 1048576)
    (hO : OpenIn w xO n3) (rO : Reads w w.heap.size 3 A3 n3 xO) (a3 : A3 = none → c3 = 0) (l3 : n3 ≤ 1048576) :
    Calls Try.prog 7 #[.agg #[.slice A1 n1 c1, .slice A2 n2 c2, .slice A3 n3 c3, .int .i64 u, .int .i64 h]] w (GivesMark w u h n1 n2 n3 xL xD xO) := by
  have HL0 := hide hL
  have OD := hide oD
  have HO := hide hO
  have RL := hide rL
  have RD := hide rD
  have RO := hide rO
  have N1 := hide a1
  have N2 := hide a2
  have N3 := hide a3
  have M1 := hide (show n1 ≤ maxLen by unfold maxLen; omega)
  have M2 := hide (show n2 ≤ maxLen by unfold maxLen; omega)
  have M3 := hide (show n3 ≤ maxLen by unfold maxLen; omega)
  clear hL rL a1 oD rD a2 hO rO a3
  go_enter Try.func7, Try.ntmps7
  go_upto_region 1 with (fail)
  obtain ⟨W1, hW1⟩ : ∃ W1, W1 = (w.alloc (.cells #[.slice A1 n1 c1, .slice A2 n2 c2, .slice A3 n3 c3, .int .i64 u, .int .i64 h] 26)).alloc (.cells #[.int .i64 0, .int .i64 0, .int .i64 0, .int .i64 0, .int .i64 0, .int .i64 0, .int .i64 0, .int .i64 0, .int .i64 0, .int .i64 0, .slice none 0 0, .slice none 0 0, .slice none 0 0, .slice none 0 0, .slice none 0 0, .slice none 0 0] 34) := ⟨_, rfl⟩
  rw [← hW1]
  have e1 : Ext w W1 := by rw [hW1]; exact ((Ext.refl w).alloc _).alloc _
  have k0 : Blk W1 w.heap.size 26 #[.slice A1 n1 c1, .slice A2 n2 c2, .slice A3 n3 c3, .int .i64 u, .int .i64 h] := by rw [hW1]; exact (Blk.new w 26 _).alloc _
  have kr : Blk W1 (w.heap.size + 1) 34 #[.int .i64 0, .int .i64 0, .int .i64 0, .int .i64 0, .int .i64 0, .int .i64 0, .int .i64 0, .int .i64 0, .int .i64 0, .int .i64 0, .slice none 0 0, .slice none 0 0, .slice none 0 0, .slice none 0 0, .slice none 0 0, .slice none 0 0] := by
    rw [hW1]
    have := Blk.new (w.alloc (.cells #[.slice A1 n1 c1, .slice A2 n2 c2, .slice A3 n3 c3, .int .i64 u, .int .i64 h] 26)) 34 #[.int .i64 0, .int .i64 0, .int .i64 0, .int .i64 0, .int .i64 0, .int .i64 0, .int .i64 0, .int .i64 0, .int .i64 0, .int .i64 0, .slice none 0 0, .slice none 0 0, .slice none 0 0, .slice none 0 0, .slice none 0 0, .slice none 0 0]
    simpa using this
  clear hW1
  have E1 := hide e1
  clear e1
  go_cut [3] (fun v wx => MidV w u h n1 n2 n3 xL xD xO v wx)
  case first =>
    refine make_r1 A1 A2 A3 n1 n2 n3 c1 c2 c3 u h xL xD xO w W1 HL0.out RL.out N1.out l1 OD.out RD.out N2.out l2 HO.out RO.out N3.out l3 E1 k0 kr _ _ ?_
    rintro v u5 u6 u7 u8 u9 u10 u11 u12 u13 u14 u15 u16 u17 u18 wx hm
    go_wp2_with (fail)
    go_meet
    case rel => exact hm
  case rest =>
    obtain ⟨eb, sL, sD, sO, rfl, hmid⟩ := hcut
    clear HL0 OD RL RD RO N1 N2 N3 M1 M2 k0 kr E1
    obtain ⟨AL, cL, rfl, _⟩ := own_form hmid.L
    obtain ⟨AD, cD, rfl, _⟩ := own_form hmid.D
    obtain ⟨AO, cO, rfl, _⟩ := own_form hmid.O
    obtain ⟨x0, x1, x2, x3, x4, x5, x6, x7, x8, x9, x10, x11, x12, x13, x14, x15⟩ := hmid.blk.cells16
    have HM := hide hmid
    clear hmid
    go_wp2_with (fail)
    clear x0 x1 x2 x3 x4 x5 x6 x7 x8 x9 x10 x11 x12 x13 x14 x15
    go_loopw [22] (fun i wr => (∃ k : Nat, k ≤ n3 ∧ i = .int .i64 k ∧ Hid (∃ ys, MidK w wr u h n1 n2 n3 xL xD xO eb (.slice AL n1 cL) (.slice AD n2 cD) (.slice AO n3 cO) ys k))) (fun i _ => (n3 - intOf i).toNat)
    case atStart => exact ⟨0, by omega, rfl, xO, MidK.start HM.out⟩
    case round =>
      obtain ⟨k, hk, rfl, hm⟩ := hrel
      obtain ⟨ys, hmk⟩ := hm.out
      have HK := hide hmk
      clear hm
      by_cases hlt : k < n3
      · obtain ⟨g, cap, hs, _, hgl⟩ := hmk.mid.O.form (by omega)
        injection hs with hs1 hs2 hs3
        subst hs1 hs3
        obtain ⟨u0, d0, A, m, c, ms, y0, y1, y2, hmv, hr, hn, hml, hby⟩ := HO.out k hlt
        have z13 : wr.cell? ⟨eb, 15, none⟩ = some (.slice (some ⟨g, 0, none⟩) n3 cO) := hmk.mid.blk.cell 15
        have zk : wr.cell? ⟨g, k * 3 + 1, none⟩ = some (.slice A m c) := by
          have := hmk.mid.O.cellAt (k * 3 + 1) (by omega)
          rw [this, (hmk.hi k hlt (Nat.le_refl _)).2.1, y1]
        have heb : eb < wr.heap.size := hmk.mid.blk.lt
        have Y0 := hide y0
        have Y1 := hide y1
        have Y2 := hide y2
        have HMV := hide hmv
        have HR := hide hr
        have HN := hide hn
        have HML := hide hml
        have Z13 := hide z13
        have ZK := hide zk
        have hO1 := hide (moves_one hmv hr.1)
        clear hmk y0 y1 y2 hmv hr hn hml
        go_wp2_with (fail)
        go_region_with ((go_at_call 20; refine (clone_Move A c m ms _ HN.out (Ext.read (Ext.drew (HK.out.mid.ext)) HR.out) hO1.out HML.out hby).mono ?_; rintro e w6 ⟨v6, rfl, ho, he⟩; obtain ⟨A6, c6, rfl, _⟩ := own_form ho; have E6 := hide (show Ext wr w6 from Ext.trans (Ext.drew (Ext.refl wr)) he); have XO := hide ho; have z15' := (E6.out.cell (p := ⟨eb, 15, none⟩) heb).trans Z13.out; have zz := (E6.out.cell (p := ⟨g, k * 3 + 1, none⟩) hgl).trans ZK.out; have zf := (E6.out.own HK.out.mid.O).frozenAt (k * 3 + 1); clear ho he))
        all_goals
          have HS := hide (HK.out.step hlt E6.out XO.out HMV.out HR.out HML.out Y0.out Y1.out Y2.out)
          clear zz zf z15'
          go_wp2
          go_roundw
          case rel => first | exact ⟨k + 1, by omega, by go_num, _, HS.out⟩ | ((repeat apply Exists.intro); exact ⟨⟨k + 1, by omega, by go_num, _, HS.out⟩, rfl⟩)
          case measure => simp [intOf]; omega
      · obtain rfl : k = n3 := by omega
        obtain ⟨x0, x1, x2, x3, x4, x5, x6, x7, x8, x9, x10, x11, x12, x13, x14, x15⟩ := hmk.mid.blk.cells16
        obtain ⟨y0, y1, y2, y3, y4, y5, y6, y7, y8, y9, y10, y11, y12, y13, y14, y15⟩ := hmk.mid.res.cells16
        have yf := hmk.mid.res.frozen
        have kz := hmk.mid.res.set16 (.int .i64 9) (.int .i64 0) (.int .i64 u) (.int .i64 h) (.int .i64 0) (.int .i64 0) (.int .i64 0) (.int .i64 0) (.int .i64 0) (.int .i64 0) (.slice none 0 0) (.slice none 0 0) (.slice none 0 0) (.slice AL n1 cL) (.slice AD n2 cD) (.slice AO k cO)
        obtain ⟨z0, z1, z2, z3, z4, z5, z6, z7, z8, z9, z10, z11, z12, z13, z14, z15⟩ := kz.cells16
        clear hmk kz
        go_wp2_with (fail)
        refine bodyPost_ret (v := .agg #[.int .i64 9, .int .i64 0, .int .i64 u, .int .i64 h, .int .i64 0, .int .i64 0, .int .i64 0, .int .i64 0, .int .i64 0, .int .i64 0, .slice none 0 0, .slice none 0 0, .slice none 0 0, .slice AL n1 cL, .slice AD n2 cD, .slice AO k cO]) (by simp [results, Try.results7, go_sem, z0, z1, z2, z3, z4, z5, z6, z7, z8, z9, z10, z11, z12, z13, z14, z15]) rfl (gives_mark HK.out (touch_set16 _ _ _ _ _ _ _ _ _ _ _ _ _ _ _ _ _ _))
end Go.Proofs.Ytmleneljmcikdaa
