/- RedoAll: the walk: what a page is behind an entry, and which pages it touches. -/
import Derived.Test.YtaagdjipjeindaaRedoT
namespace Go.Proofs.Ytaagdjipjeindaa.redoAll
open Go.ChangeShapes Go.WideShapes Go.ChangeAt Go.RowKit
set_option linter.unusedVariables false

theorem pageF_len {ls n kind a0 a1 b0 b1 lsn : Int} {NL : List UInt8} {mv : List Mv} {f : Nat → List UInt8} (hf : ∀ j, (f j).length ≤ 1000) (hN : NL.length ≤ 1000) : ∀ j, (pageF ls n kind a0 a1 b0 b1 lsn NL mv f j).length ≤ 1000 := by
  unfold pageF
  split
  · exact paintF_len hf hN
  · exact hf
set_option maxRecDepth 1000000 in
set_option maxHeartbeats 8000000 in
theorem walk_short (A : Option Addr) (c n : Nat) (l : List UInt8) (ls : Nat) (pn now : Int) (kind a0 a1 b0 b1 t u h p nx : Int) (AN : Option Addr) (cN nN : Nat) (NL : List UInt8) (AO : Option Addr) (nO cO : Nat) (AM : Option Addr) (cM nM : Nat) (mv : List Mv) (A13 A14 A15 : Option Addr) (n13 c13 n14 c14 n15 c15 : Nat) (w : World)
    (hr : Reads w w.heap.size 1 A n (bv l)) (hn : n = l.length) (hl : (n : Int) ≤ 4) (hls : ls ≤ 65535)
    (hN : BB w (.slice AN nN cN) NL) (hnN : nN = NL.length) (hNL : (nN : Int) ≤ 40) (hM : Reads w w.heap.size 4 AM nM (mvs mv)) (hnM : nM = mv.length) (hml : (nM : Int) ≤ 20) :
    Calls Try.prog 3 #[.slice A n c, .int .u16 (ls : Int), .int .i64 pn, .agg #[.int .i64 kind, .int .i64 t, .int .i64 u, .int .i64 h, .int .i64 p, .int .i64 nx, .int .i64 a0, .int .i64 a1, .int .i64 b0, .int .i64 b1, .slice AO nO cO, .slice AN nN cN, .slice AM nM cM, .slice A13 n13 c13, .slice A14 n14 c14, .slice A15 n15 c15], .int .i64 now] w fun e w' => e = .returned (.bool true) ∧ Ext w w' := by
  have HR := hide hr
  have HN := hide hn
  have HBN := hide hN
  have HNN := hide hnN
  have HRM := hide hM
  have HNM := hide hnM
  obtain ⟨L, hL⟩ : ∃ L, L = pagesOf (touchL kind a0 b0 mv) := ⟨_, rfl⟩
  have hLL : L.length ≤ 32 := by rw [hL]; unfold pagesOf; exact Nat.le_trans (List.length_filter_le _ _) (by simp)
  obtain ⟨m, hm⟩ : ∃ m, m = L.length := ⟨_, rfl⟩
  have HPA := hide (show ∀ w1 : World, Ext w w1 → Calls Try.prog 12 #[.agg #[.int .i64 kind, .int .i64 t, .int .i64 u, .int .i64 h, .int .i64 p, .int .i64 nx, .int .i64 a0, .int .i64 a1, .int .i64 b0, .int .i64 b1, .slice AO nO cO, .slice AN nN cN, .slice AM nM cM, .slice A13 n13 c13, .slice A14 n14 c14, .slice A15 n15 c15]] w1 fun e w' => ∃ A c, e = .returned (.slice A m c) ∧ Reads w' w'.heap.size 1 A m (iv L) ∧ Ext w1 w' from fun w1 hx => by
    have h := pages_any kind a0 a1 b0 b1 t u h p nx AN nN cN AO nO cO AM A13 A14 A15 cM n13 c13 n14 c14 n15 c15 mv w1 (by have := hx.read hM; rw [hnM] at this; exact this) (by omega)
    simp only [env] at h
    unfold GivesN at h
    rw [← hL, ← hm, ← hnM] at h
    exact h)
  have HPB := hide (show ∀ w1 : World, Ext w w1 → Calls Try.prog 13 #[.agg #[.int .i64 kind, .int .i64 t, .int .i64 u, .int .i64 h, .int .i64 p, .int .i64 nx, .int .i64 a0, .int .i64 a1, .int .i64 b0, .int .i64 b1, .slice AO nO cO, .slice AN nN cN, .slice AM nM cM, .slice A13 n13 c13, .slice A14 n14 c14, .slice A15 n15 c15]] w1 fun e w' => ∃ A c, e = .returned (.slice A m c) ∧ Reads w' w'.heap.size 1 A m (iv L) ∧ Ext w1 w' from fun w1 hx => by
    have h := rpages_any kind a0 a1 b0 b1 t u h p nx AN cN NL AO nO cO AM cM mv A13 A14 A15 n13 c13 n14 c14 n15 c15 w1 (by have := hN.ext hx; rw [hnN] at this; exact this) (by have := hx.read hM; rw [hnM] at this; exact this) (by omega)
    unfold GivesN at h
    rw [← hL, ← hm, ← hnM, ← hnN] at h
    exact h)
  have HAP := hide (show ∀ (w1 : World) (v : Value) (f : Nat → List UInt8), Ext w w1 → Pg w1 v f ls → (∀ j, (f j).length ≤ 1000) → Calls Try.prog 9 #[v, .int .i64 pn, .agg #[.int .i64 kind, .int .i64 t, .int .i64 u, .int .i64 h, .int .i64 p, .int .i64 nx, .int .i64 a0, .int .i64 a1, .int .i64 b0, .int .i64 b1, .slice AO nO cO, .slice AN nN cN, .slice AM nM cM, .slice A13 n13 c13, .slice A14 n14 c14, .slice A15 n15 c15], .int .i64 now] w1 (GivesPg w1 (pageF ls pn kind a0 a1 b0 b1 now NL mv f) (if actsP ls pn kind a0 b0 now mv then now else (ls : Int)) (decide (actsP ls pn kind a0 b0 now mv))) from fun w1 v f hx hp hlen => by
    have h := apply_pg w1 v f ls pn now hp (fun j _ => hlen j) kind a0 a1 b0 b1 t u h p nx AN cN nN NL AO nO cO AM cM nM mv A13 A14 A15 n13 c13 n14 c14 n15 c15 (hN.ext hx) (by omega) hnM (by have := hx.read hM; rw [hnM] at this; exact this) (by omega)
    simp only [env] at h
    exact h)
  have HAR := hide (show ∀ (w1 : World) (v : Value) (f : Nat → List UInt8), Ext w w1 → Pg w1 v f ls → Calls Try.prog 10 #[v, .int .i64 pn, .agg #[.int .i64 kind, .int .i64 t, .int .i64 u, .int .i64 h, .int .i64 p, .int .i64 nx, .int .i64 a0, .int .i64 a1, .int .i64 b0, .int .i64 b1, .slice AO nO cO, .slice AN nN cN, .slice AM nM cM, .slice A13 n13 c13, .slice A14 n14 c14, .slice A15 n15 c15], .int .i64 now] w1 (GivesPg w1 (pageF ls pn kind a0 a1 b0 b1 now NL mv f) (if actsP ls pn kind a0 b0 now mv then now else (ls : Int)) (decide (actsP ls pn kind a0 b0 now mv))) from fun w1 v f hx hp => by
    have h := rapply_any kind a0 a1 b0 b1 t u h p nx AN cN NL AO nO cO AM cM mv A13 A14 A15 n13 c13 n14 c14 n15 c15 w1 v f ls pn now hp (by have := hN.ext hx; rw [hnN] at this; exact this) (by omega) (by have := hx.read hM; rw [hnM] at this; exact this) (by omega)
    rw [← hnM, ← hnN] at h
    exact h)
  have HMD := hide (fun w1 hx => made_any A c n l ls w1 (Ext.read (a := w) hx HR.out) HN.out (by omega))
  obtain ⟨lo, hlo⟩ : ∃ lo, lo = if actsP ls pn kind a0 b0 now mv then now else (ls : Int) := ⟨_, rfl⟩
  obtain ⟨bo, hbo⟩ : ∃ bo, bo = decide (actsP ls pn kind a0 b0 now mv) := ⟨_, rfl⟩
  rw [← hlo, ← hbo] at HAP HAR
  have HM := hide hm
  have HNL := hide (show NL.length ≤ 1000 by omega)
  rw [← hm] at hLL
  have d0 : decide ((4 : Int) < (n : Int)) = false := decide_eq_false (by omega)
  have d1 : decide ((40 : Int) < (nN : Int)) = false := decide_eq_false (by omega)
  have d2 : decide ((20 : Int) < (nM : Int)) = false := decide_eq_false (by omega)
  clear hr hn hN hnN hM hnM hL hm hlo hbo
  go_enter Try.func3, Try.ntmps3
  go_upto_region 3 with (go_at_call 7; refine (begun_any _).mono ?_; rintro e w1 ⟨rfl, hx1⟩; have X1 := hide ((Ext.new w _).trans hx1); have BE := hide (hx1.blk (Blk.new w 31 #[.int .i64 kind, .int .i64 t, .int .i64 u, .int .i64 h, .int .i64 p, .int .i64 nx, .int .i64 a0, .int .i64 a1, .int .i64 b0, .int .i64 b1, .slice AO nO cO, .slice AN nN cN, .slice AM nM cM, .slice A13 n13 c13, .slice A14 n14 c14, .slice A15 n15 c15])); clear hx1)
  obtain ⟨eb, heb⟩ : ∃ eb, eb = w.heap.size := ⟨_, rfl⟩
  rw [← heb] at BE ⊢
  clear heb
  obtain ⟨q0, q1, q2, q3, q4, q5, q6, q7, q8, q9, q10, q11, q12, q13, q14, q15⟩ := BE.out.cells16
  go_upto_region 5 with (fail)
  clear q0 q1 q2 q3 q4 q5 q6 q7 q8 q9 q10 q11 q12 q13 q14 q15
  go_upto_region 6 with (go_at_call 8; refine (HMD.out w1 X1.out).mono ?_; rintro e w2 ⟨v2, f, rfl, hp2, hl2, hx2⟩; obtain ⟨A0, c0, A1, c1, A2, c2, A3, c3, rfl⟩ := hp2.form; have X2 := hide hx2; have P2 := hide hp2; have LEN := hide hl2; clear hp2 hl2 hx2)
  obtain ⟨w3, hw3⟩ : ∃ w3, w3 = w2.alloc (.cells #[.slice A0 (f 0).length c0, .slice A1 (f 1).length c1, .slice A2 (f 2).length c2, .slice A3 (f 3).length c3, .int .i64 (ls : Int)] 35) := ⟨_, rfl⟩
  have X3 := hide (show Ext w2 w3 by rw [hw3]; exact Ext.new w2 _)
  have BP := hide (show Blk w3 w2.heap.size 35 #[.slice A0 (f 0).length c0, .slice A1 (f 1).length c1, .slice A2 (f 2).length c2, .slice A3 (f 3).length c3, .int .i64 (ls : Int)] by rw [hw3]; exact Blk.new w2 35 _)
  obtain ⟨pb, hpb⟩ : ∃ pb, pb = w2.heap.size := ⟨_, rfl⟩
  rw [← hw3, ← hpb]
  rw [← hpb] at BP
  have X13 := hide (X2.out.trans X3.out)
  have BE3 := hide (X13.out.blk BE.out)
  obtain ⟨F, hF⟩ : ∃ F, F = pageF ls pn kind a0 a1 b0 b1 now NL mv f := ⟨_, rfl⟩
  have HFL := hide (show ∀ j, (F j).length ≤ 1000 by rw [hF]; exact pageF_len LEN.out HNL.out)
  have hap := hide (HAP.out w3 (.agg #[.slice A0 (f 0).length c0, .slice A1 (f 1).length c1, .slice A2 (f 2).length c2, .slice A3 (f 3).length c3, .int .i64 (ls : Int)]) f (X1.out.trans X13.out) (P2.out.ext X3.out) LEN.out)
  have har := hide (fun w5 (hx : Ext w3 w5) => HAR.out w5 (.agg #[.slice A0 (f 0).length c0, .slice A1 (f 1).length c1, .slice A2 (f 2).length c2, .slice A3 (f 3).length c3, .int .i64 (ls : Int)]) f (X1.out.trans (X13.out.trans hx)) ((P2.out.ext X3.out).ext hx))
  rw [← hF] at hap har
  clear hw3 hpb hF
  obtain ⟨q0, q1, q2, q3, q4, q5, q6, q7, q8, q9, q10, q11, q12, q13, q14, q15⟩ := BE3.out.cells16
  obtain ⟨y0, y1, y2, y3, y4⟩ := BP.out.cells5
  go_upto_region 7 with (go_at_call 9; refine hap.out.mono ?_; rintro e w4 ⟨v4, rfl, hp4, hx4⟩; obtain ⟨B0, d0', B1, d1', B2, d2', B3, d3', rfl⟩ := hp4.form; have X4 := hide hx4; have P4 := hide hp4; clear hp4 hx4)
  obtain ⟨w5, hw5⟩ : ∃ w5, w5 = w4.alloc (.cells #[.slice B0 (F 0).length d0', .slice B1 (F 1).length d1', .slice B2 (F 2).length d2', .slice B3 (F 3).length d3', .int .i64 lo] 35) := ⟨_, rfl⟩
  have X5 := hide (show Ext w4 w5 by rw [hw5]; exact Ext.new w4 _)
  have BA := hide (show Blk w5 w4.heap.size 35 #[.slice B0 (F 0).length d0', .slice B1 (F 1).length d1', .slice B2 (F 2).length d2', .slice B3 (F 3).length d3', .int .i64 lo] by rw [hw5]; exact Blk.new w4 35 _)
  obtain ⟨ab, hab⟩ : ∃ ab, ab = w4.heap.size := ⟨_, rfl⟩
  rw [← hw5, ← hab]
  rw [← hab] at BA
  have X35 := hide (X4.out.trans X5.out)
  have BE5 := hide (X35.out.blk BE3.out)
  have BP5 := hide (X35.out.blk BP.out)
  have har5 := hide (har.out w5 X35.out)
  clear hw5 hab q0 q1 q2 q3 q4 q5 q6 q7 q8 q9 q10 q11 q12 q13 q14 q15 y0 y1 y2 y3 y4 hap har
  obtain ⟨q0, q1, q2, q3, q4, q5, q6, q7, q8, q9, q10, q11, q12, q13, q14, q15⟩ := BE5.out.cells16
  obtain ⟨y0, y1, y2, y3, y4⟩ := BP5.out.cells5
  go_upto_region 8 with (go_at_call 10; refine har5.out.mono ?_; rintro e w6 ⟨v6, rfl, hp6, hx6⟩; obtain ⟨D0, e0', D1, e1', D2, e2', D3, e3', rfl⟩ := hp6.form; have X6 := hide hx6; have P6 := hide hp6; clear hp6 hx6)
  obtain ⟨w7, hw7⟩ : ∃ w7, w7 = w6.alloc (.cells #[.slice D0 (F 0).length e0', .slice D1 (F 1).length e1', .slice D2 (F 2).length e2', .slice D3 (F 3).length e3', .int .i64 lo] 35) := ⟨_, rfl⟩
  have X7 := hide (show Ext w6 w7 by rw [hw7]; exact Ext.new w6 _)
  have BB7 := hide (show Blk w7 w6.heap.size 35 #[.slice D0 (F 0).length e0', .slice D1 (F 1).length e1', .slice D2 (F 2).length e2', .slice D3 (F 3).length e3', .int .i64 lo] by rw [hw7]; exact Blk.new w6 35 _)
  obtain ⟨bb, hbb⟩ : ∃ bb, bb = w6.heap.size := ⟨_, rfl⟩
  rw [← hw7, ← hbb]
  rw [← hbb] at BB7
  have X57 := hide (X6.out.trans X7.out)
  have BE7 := hide (X57.out.blk BE5.out)
  have BA7 := hide (X57.out.blk BA.out)
  have hsp := hide (samePage_any w7 (.agg #[.slice B0 (F 0).length d0', .slice B1 (F 1).length d1', .slice B2 (F 2).length d2', .slice B3 (F 3).length d3', .int .i64 lo]) (.agg #[.slice D0 (F 0).length e0', .slice D1 (F 1).length e1', .slice D2 (F 2).length e2', .slice D3 (F 3).length e3', .int .i64 lo]) F lo (P4.out.ext (X5.out.trans X57.out)) (P6.out.ext X7.out) (fun j _ => HFL.out j))
  clear hw7 hbb q0 q1 q2 q3 q4 q5 q6 q7 q8 q9 q10 q11 q12 q13 q14 q15 y0 y1 y2 y3 y4 har5
  obtain ⟨y0, y1, y2, y3, y4⟩ := BA7.out.cells5
  obtain ⟨z0, z1, z2, z3, z4⟩ := BB7.out.cells5
  have dbo : (bo != bo) = false := by cases bo <;> rfl
  go_upto_region 10 with (go_at_call 11; refine hsp.out.mono ?_; rintro e w8 ⟨rfl, hx8⟩; have X8' := hide hx8; clear hx8)
  have X8 := hide (X1.out.trans (X13.out.trans (X35.out.trans (X57.out.trans X8'.out))))
  have BE8 := hide (X8'.out.blk BE7.out)
  have HS := hide (show ∀ w' : World, Ext w8 w' → (fun w' => w'.cell? ⟨eb, 0, none⟩ = some (.int .i64 kind) ∧ w'.cell? ⟨eb, 1, none⟩ = some (.int .i64 t) ∧ w'.cell? ⟨eb, 2, none⟩ = some (.int .i64 u) ∧ w'.cell? ⟨eb, 3, none⟩ = some (.int .i64 h) ∧ w'.cell? ⟨eb, 4, none⟩ = some (.int .i64 p) ∧ w'.cell? ⟨eb, 5, none⟩ = some (.int .i64 nx) ∧ w'.cell? ⟨eb, 6, none⟩ = some (.int .i64 a0) ∧ w'.cell? ⟨eb, 7, none⟩ = some (.int .i64 a1) ∧ w'.cell? ⟨eb, 8, none⟩ = some (.int .i64 b0) ∧ w'.cell? ⟨eb, 9, none⟩ = some (.int .i64 b1) ∧ w'.cell? ⟨eb, 10, none⟩ = some (.slice AO nO cO) ∧ w'.cell? ⟨eb, 11, none⟩ = some (.slice AN nN cN) ∧ w'.cell? ⟨eb, 12, none⟩ = some (.slice AM nM cM) ∧ w'.cell? ⟨eb, 13, none⟩ = some (.slice A13 n13 c13) ∧ w'.cell? ⟨eb, 14, none⟩ = some (.slice A14 n14 c14) ∧ w'.cell? ⟨eb, 15, none⟩ = some (.slice A15 n15 c15)) w' from fun w' hx => (hx.blk BE8.out).cells16)
  clear y0 y1 y2 y3 y4 z0 z1 z2 z3 z4 hsp
  refine wp_region_F (S := (fun w' => w'.cell? ⟨eb, 0, none⟩ = some (.int .i64 kind) ∧ w'.cell? ⟨eb, 1, none⟩ = some (.int .i64 t) ∧ w'.cell? ⟨eb, 2, none⟩ = some (.int .i64 u) ∧ w'.cell? ⟨eb, 3, none⟩ = some (.int .i64 h) ∧ w'.cell? ⟨eb, 4, none⟩ = some (.int .i64 p) ∧ w'.cell? ⟨eb, 5, none⟩ = some (.int .i64 nx) ∧ w'.cell? ⟨eb, 6, none⟩ = some (.int .i64 a0) ∧ w'.cell? ⟨eb, 7, none⟩ = some (.int .i64 a1) ∧ w'.cell? ⟨eb, 8, none⟩ = some (.int .i64 b0) ∧ w'.cell? ⟨eb, 9, none⟩ = some (.int .i64 b1) ∧ w'.cell? ⟨eb, 10, none⟩ = some (.slice AO nO cO) ∧ w'.cell? ⟨eb, 11, none⟩ = some (.slice AN nN cN) ∧ w'.cell? ⟨eb, 12, none⟩ = some (.slice AM nM cM) ∧ w'.cell? ⟨eb, 13, none⟩ = some (.slice A13 n13 c13) ∧ w'.cell? ⟨eb, 14, none⟩ = some (.slice A14 n14 c14) ∧ w'.cell? ⟨eb, 15, none⟩ = some (.slice A15 n15 c15))) 5 (by kernel_rfl) (by kernel_rfl) (HS.out _ (Ext.drew (Ext.refl w8))) (fun hHeld => ?_)
  refine GoF.take 0 (some 65) (v := ?_) rfl rfl (by kernel_rfl) (by kernel_rfl) (by kernel_rfl) (fun _ _ _ h => h) (Or.inl ⟨by rfl, ?_⟩) (by assumption) ?_
  rotate_left
  · intro w' hSw
    try dsimp only at hSw
    go_simp
    try with_reducible rfl
  try simp only [Act.put, List.setIfInBounds_toArray, List.set_cons_zero, List.set_cons_succ]
  refine GoF.take 2 (some 67) (v := ?_) rfl rfl (by kernel_rfl) (by kernel_rfl) (by kernel_rfl) (fun _ _ _ h => h) (Or.inl ⟨by rfl, ?_⟩) (by assumption) ?_
  rotate_left
  · intro w' hSw
    try dsimp only at hSw
    go_simp
    try with_reducible rfl
  try simp only [Act.put, List.setIfInBounds_toArray, List.set_cons_zero, List.set_cons_succ]
  refine GoF.each (rs := [1]) (by kernel_rfl) (by kernel_rfl) (by kernel_rfl) ?_
  refine EachF.cons (i := 1) rfl (fun K hK => ?_) EachF.nil
  go_simp
  refine (HPA.out w8.drew (X8.out.drew)).mono ?_
  rintro e w9 ⟨A9, c9, rfl, hr9, hx9⟩
  have X9 := hide (Ext.trans (Ext.drew (Ext.refl w8)) hx9)
  have R9 := hide hr9
  clear hr9 hx9
  try go_simp
  refine hK.out _ _ (HS.out _ X9.out) (fun hHeld => ?_)
  clear hK K
  try simp only [Act.put, List.setIfInBounds_toArray, List.set_cons_zero, List.set_cons_succ]
  refine GoF.each (rs := [3]) (by kernel_rfl) (by kernel_rfl) (by kernel_rfl) ?_
  refine EachF.cons (i := 3) rfl (fun K hK => ?_) EachF.nil
  go_simp
  refine (HPB.out w9 (X8.out.trans X9.out)).mono ?_
  rintro e w10 ⟨A10, c10, rfl, hr10, hx10⟩
  have X10 := hide (Ext.trans X9.out hx10)
  have R9' := hide (Ext.read hx10 R9.out)
  have R10 := hide hr10
  clear hr10 hx10
  try go_simp
  refine hK.out _ _ (HS.out _ X10.out) (fun hHeld => ?_)
  clear hK K
  try simp only [Act.put, List.setIfInBounds_toArray, List.set_cons_zero, List.set_cons_succ]
  refine GoF.take 4 (some 16) (v := ?_) rfl rfl (by kernel_rfl) (by kernel_rfl) (by kernel_rfl) (fun _ _ _ h => h) (Or.inl ⟨by rfl, ?_⟩) (by assumption) ?_
  rotate_left
  · intro w' hSw
    try dsimp only at hSw
    go_simp
    try with_reducible rfl
  try simp only [Act.put, List.setIfInBounds_toArray, List.set_cons_zero, List.set_cons_succ]
  refine GoF.last (by kernel_rfl) (by kernel_rfl) rfl (fun K hK => ?_)
  go_simp
  refine hK.out _ _ ?_
  clear hK K hHeld HS
  go_wp2_with (fail)
  go_loopw [18] (fun s18 wr => (∃ i : Nat, i ≤ m ∧ s18 = .int .i64 i ∧ Ext w10 wr)) (fun s18 _ => (m - intOf s18).toNat)
  case atStart => exact ⟨0, by omega, rfl, Ext.refl _⟩
  case round =>
    obtain ⟨i, hi, rfl, hx⟩ := hrel
    have XR := hide hx
    clear hx
    by_cases hlt : i < m
    · obtain ⟨y, hy⟩ : ∃ y, L[i]? = some y := ⟨_, List.getElem?_eq_getElem (by rw [← HM.out]; exact hlt)⟩
      obtain ⟨bx, ox, hAx, hbx, hcx⟩ := R9'.out.plain (by omega) (by omega)
      subst hAx
      obtain ⟨by_, oy, hAy, hby, hcy⟩ := R10.out.plain (by omega) (by omega)
      subst hAy
      have g0 := (XR.out.cell (p := ⟨bx, ox + i, none⟩) hbx).trans (hcx i (.int .i64 y) (by simp [iv, hy]))
      have g1 := (XR.out.cell (p := ⟨by_, oy + i, none⟩) hby).trans (hcy i (.int .i64 y) (by simp [iv, hy]))
      clear hcx hcy hy
      go_upto_region 16 with (fail)
      refine wp_region_F (S := (fun w' => w'.cell? ⟨bx, ox + i, none⟩ = some (.int .i64 y) ∧ w'.cell? ⟨by_, oy + i, none⟩ = some (.int .i64 y))) 8 (by kernel_rfl) (by kernel_rfl) ⟨g0, g1⟩ (fun hHeld => ?_)
      refine GoF.take 0 (some 80) (v := ?_) rfl rfl (by kernel_rfl) (by kernel_rfl) (by kernel_rfl) (fun _ _ _ h => h) (Or.inl ⟨by rfl, ?_⟩) (by assumption) ?_
      rotate_left
      · intro w' hSw
        try dsimp only at hSw
        go_simp
        try with_reducible rfl
      try simp only [Act.put, List.setIfInBounds_toArray, List.set_cons_zero, List.set_cons_succ]
      refine GoF.take 1 (some 81) (v := ?_) rfl rfl (by kernel_rfl) (by kernel_rfl) (by kernel_rfl) (fun _ _ _ h => h) (Or.inl ⟨by rfl, ?_⟩) (by assumption) ?_
      rotate_left
      · intro w' hSw
        try dsimp only at hSw
        go_simp
        try with_reducible rfl
      try simp only [Act.put, List.setIfInBounds_toArray, List.set_cons_zero, List.set_cons_succ]
      refine GoF.take 2 (some 82) (v := ?_) rfl rfl (by kernel_rfl) (by kernel_rfl) (by kernel_rfl) (fun _ _ _ h => h) (Or.inl ⟨by rfl, ?_⟩) (by assumption) ?_
      rotate_left
      · intro w' hSw
        try dsimp only at hSw
        go_simp
        try with_reducible rfl
      try simp only [Act.put, List.setIfInBounds_toArray, List.set_cons_zero, List.set_cons_succ]
      refine GoF.take 3 (some 83) (v := ?_) rfl rfl (by kernel_rfl) (by kernel_rfl) (by kernel_rfl) (fun _ _ _ h => h) (Or.inl ⟨by rfl, ?_⟩) (by assumption) ?_
      rotate_left
      · intro w' hSw
        try dsimp only at hSw
        go_simp
        try with_reducible rfl
      try simp only [Act.put, List.setIfInBounds_toArray, List.set_cons_zero, List.set_cons_succ]
      refine GoF.take 4 (some 84) (v := ?_) rfl rfl (by kernel_rfl) (by kernel_rfl) (by kernel_rfl) (fun _ _ _ h => h) (Or.inl ⟨by rfl, ?_⟩) (by assumption) ?_
      rotate_left
      · intro w' hSw
        try dsimp only at hSw
        go_simp
        try with_reducible rfl
      try simp only [Act.put, List.setIfInBounds_toArray, List.set_cons_zero, List.set_cons_succ]
      refine GoF.take 5 (some 85) (v := ?_) rfl rfl (by kernel_rfl) (by kernel_rfl) (by kernel_rfl) (fun _ _ _ h => h) (Or.inl ⟨by rfl, ?_⟩) (by assumption) ?_
      rotate_left
      · intro w' hSw
        try dsimp only at hSw
        go_simp
        try with_reducible rfl
      try simp only [Act.put, List.setIfInBounds_toArray, List.set_cons_zero, List.set_cons_succ]
      refine GoF.take 6 (some 86) (v := ?_) rfl rfl (by kernel_rfl) (by kernel_rfl) (by kernel_rfl) (fun _ _ _ h => h) (Or.inl ⟨by rfl, ?_⟩) (by assumption) ?_
      rotate_left
      · intro w' hSw
        try dsimp only at hSw
        go_simp
        try with_reducible rfl
      try simp only [Act.put, List.setIfInBounds_toArray, List.set_cons_zero, List.set_cons_succ]
      refine GoF.take 7 (some 87) (v := ?_) rfl rfl (by kernel_rfl) (by kernel_rfl) (by kernel_rfl) (fun _ _ _ h => h) (Or.inl ⟨by rfl, ?_⟩) (by assumption) ?_
      rotate_left
      · intro w' hSw
        try dsimp only at hSw
        go_simp
        try with_reducible rfl
      try simp only [Act.put, List.setIfInBounds_toArray, List.set_cons_zero, List.set_cons_succ]
      refine GoF.last (by kernel_rfl) (by kernel_rfl) rfl (fun K hK => ?_)
      go_simp
      refine hK.out _ _ ?_
      clear hK K hHeld
      go_wp2_with (fail)
      go_roundw
      case rel => exact ⟨i + 1, by omega, by go_num, XR.out.drew⟩
      case measure => simp [intOf]; omega
    · have him : i = m := by omega
      subst him
      go_wp2_with (fail)
      go_ret
      exact ⟨rfl, X8.out.trans (X10.out.trans XR.out)⟩
end Go.Proofs.Ytaagdjipjeindaa.redoAll
