/- Redo: Apply on pages; begun. -/
import Derived.Test.YtaagdjipjeindaaRedoE
import Derived.Test.YtaagdjipjeindaaRedoI
import Derived.Test.YtaagdjipjeindaaRedoJ
namespace Go.Proofs.Ytaagdjipjeindaa
open Go.ChangeShapes Go.WideShapes Go.ChangeAt Go.RowKit
set_option linter.unusedVariables false

/-- a page as a value -/
def Pg (w : World) (v : Value) (f : Nat → List UInt8) (ls : Int) : Prop := ∃ u0 u1 u2 u3, v = .agg #[u0, u1, u2, u3, .int .i64 ls] ∧ BB w u0 (f 0) ∧ BB w u1 (f 1) ∧ BB w u2 (f 2) ∧ BB w u3 (f 3)
theorem Pg.ext {w w' : World} {v : Value} {f : Nat → List UInt8} {ls : Int} (h : Pg w v f ls) (hx : Ext w w') : Pg w' v f ls := by
  obtain ⟨u0, u1, u2, u3, rfl, h0, h1, h2, h3⟩ := h
  exact ⟨u0, u1, u2, u3, rfl, h0.ext hx, h1.ext hx, h2.ext hx, h3.ext hx⟩
/-- a page's form: four slices and a number -/
theorem Pg.form {w : World} {v : Value} {f : Nat → List UInt8} {ls : Int} (h : Pg w v f ls) : ∃ A0 c0 A1 c1 A2 c2 A3 c3, v = .agg #[.slice A0 (f 0).length c0, .slice A1 (f 1).length c1, .slice A2 (f 2).length c2, .slice A3 (f 3).length c3, .int .i64 ls] := by
  obtain ⟨u0, u1, u2, u3, rfl, ⟨A0, c0, rfl, _⟩, ⟨A1, c1, rfl, _⟩, ⟨A2, c2, rfl, _⟩, ⟨A3, c3, rfl, _⟩⟩ := h
  exact ⟨A0, c0, A1, c1, A2, c2, A3, c3, rfl⟩
/-- a page given back, and whether it is turned -/
def GivesPg (w : World) (F : Nat → List UInt8) (l : Int) (b : Bool) (e : Ending) (w' : World) : Prop := ∃ v, e = .returned (.tuple #[v, .bool b]) ∧ Pg w' v F l ∧ Ext w w'
/-- a page behind an entry -/
def pageF (ls n kind a0 a1 b0 b1 lsn : Int) (NL : List UInt8) (mv : List Mv) (f : Nat → List UInt8) : Nat → List UInt8 := if actsP ls n kind a0 b0 lsn mv then paintF kind a0 a1 b0 b1 n NL mv f else f
theorem apply_pg (w : World) (v : Value) (f : Nat → List UInt8) (ls n lsn : Int) (hp : Pg w v f ls) (hL : ∀ j, j < 4 → (f j).length ≤ 1000)
    (kind a0 a1 b0 b1 t u h p nx : Int) (AN : Option Addr) (cN nN : Nat) (NL : List UInt8) (AO : Option Addr) (nO cO : Nat) (AM : Option Addr) (cM nM : Nat) (mv : List Mv) (A13 A14 A15 : Option Addr) (n13 c13 n14 c14 n15 c15 : Nat)
    (hN : BB w (.slice AN nN cN) NL) (hNL : NL.length ≤ 1000) (hm : nM = mv.length) (hRM : Reads w w.heap.size 4 AM mv.length (mvs mv)) (hml : mv.length ≤ 1000) :
    Calls Try.prog 9 #[v, .int .i64 n, env kind a0 a1 b0 b1 t u h p nx (.slice AO nO cO) (.slice AN nN cN) (.slice AM nM cM) (.slice A13 n13 c13) (.slice A14 n14 c14) (.slice A15 n15 c15), .int .i64 lsn] w (GivesPg w (pageF ls n kind a0 a1 b0 b1 lsn NL mv f) (if actsP ls n kind a0 b0 lsn mv then lsn else ls) (decide (actsP ls n kind a0 b0 lsn mv))) := by
  subst hm
  obtain ⟨u0, u1, u2, u3, rfl, ⟨A0, c0, rfl, hA0, hR0⟩, ⟨A1, c1, rfl, hA1, hR1⟩, ⟨A2, c2, rfl, hA2, hR2⟩, ⟨A3, c3, rfl, hA3, hR3⟩⟩ := hp
  obtain ⟨AN', cN', e, hAN, hRN⟩ := hN
  injection e with e1 e2 e3
  subst e1 e2 e3
  refine (apply_any w ls n lsn (f 0) (f 1) (f 2) (f 3) A0 A1 A2 A3 c0 c1 c2 c3 hA0 hA1 hA2 hA3 hR0 hR1 hR2 hR3 ⟨hL 0 (by decide), hL 1 (by decide), hL 2 (by decide), hL 3 (by decide)⟩ kind a0 a1 b0 b1 t u h p nx AN cN NL AO nO cO AM cM mv A13 A14 A15 n13 c13 n14 c14 n15 c15 f ⟨rfl, rfl, rfl, rfl⟩ hAN hRN hNL hRM hml).mono ?_
  rintro e w' ⟨u0, u1, u2, u3, rfl, h0, h1, h2, h3, hx⟩
  exact ⟨_, rfl, ⟨u0, u1, u2, u3, rfl, h0, h1, h2, h3⟩, hx⟩
/-- nothing on a page -/
def noP : Nat → List UInt8 := fun _ => []
theorem Pg.none (w : World) : Pg w (.agg #[.slice none 0 0, .slice none 0 0, .slice none 0 0, .slice none 0 0, .int .i64 0]) noP 0 := ⟨_, _, _, _, rfl, BB.nil w, BB.nil w, BB.nil w, BB.nil w⟩
theorem BB.own {w : World} {base : Nat} {A : Option Addr} {c : Nat} {L : List UInt8} (h : w.ownsRow base 5 1 (.slice A L.length c) L.length (bv L)) : BB w (.slice A L.length c) L := by
  obtain ⟨A', c', e, hA, hC, _⟩ := own_form h
  injection e with e1 e2 e3
  subst e1 e3
  exact ⟨A, c, rfl, ⟨hA, hC⟩, Reads.of_own h⟩
set_option maxRecDepth 100000 in
set_option maxHeartbeats 4000000 in
theorem begun_any (w : World) : Calls Try.prog 7 #[] w fun e w' => e = .returned (.bool true) ∧ Ext w w' := by
  have hrow := hide (row_any w [97] [] [] (by simp) (by simp) (by simp))
  obtain ⟨NL, hNL⟩ : ∃ NL, NL = rowL [97] [] [] := ⟨_, rfl⟩
  rw [← hNL] at hrow
  have HNL := hide (show NL.length = 26 by rw [hNL]; rfl)
  clear hNL
  go_enter Try.func7, Try.ntmps7
  go_upto_region 2 with (go_at_call 15; refine hrow.out.mono ?_; rintro e w1 ⟨A1, c1, rfl, ho1, hx1⟩; have X1 := hide hx1; have N1 := hide (BB.own ho1); clear ho1 hx1)
  go_upto_region 3 with (fail)
  obtain ⟨w2, hw2⟩ : ∃ w2, w2 = w1.alloc (.cells #[.int .i64 1, .int .i64 0, .int .i64 0, .int .i64 0, .int .i64 0, .int .i64 0, .int .i64 3, .int .i64 1, .int .i64 0, .int .i64 0, .slice none 0 0, .slice A1 NL.length c1, .slice none 0 0, .slice none 0 0, .slice none 0 0, .slice none 0 0] 31) := ⟨_, rfl⟩
  have X2 := hide (show Ext w1 w2 by rw [hw2]; exact Ext.new w1 _)
  have BE2 := hide (show Blk w2 w1.heap.size 31 #[.int .i64 1, .int .i64 0, .int .i64 0, .int .i64 0, .int .i64 0, .int .i64 0, .int .i64 3, .int .i64 1, .int .i64 0, .int .i64 0, .slice none 0 0, .slice A1 NL.length c1, .slice none 0 0, .slice none 0 0, .slice none 0 0, .slice none 0 0] by rw [hw2]; exact Blk.new w1 31 _)
  obtain ⟨eb, heb⟩ : ∃ eb, eb = w1.heap.size := ⟨_, rfl⟩
  rw [← hw2, ← heb]
  rw [← heb] at BE2
  clear hw2 heb
  obtain ⟨F, hF⟩ : ∃ F, F = pageF 0 3 1 3 1 0 0 5 NL [] noP := ⟨_, rfl⟩
  have eF : F = setP noP 3 1 3 NL := by rw [hF, pageF, if_pos (by decide), paintF, if_pos (.inl rfl)]
  have FL := hide (show (∀ j, j < 4 → (F j).length ≤ 1000) ∧ (F 1).length = 26 from ⟨fun j _ => by rw [eF]; unfold setP; split <;> simp [noP, HNL.out], by rw [eF]; simp [setP, HNL.out]⟩)
  have hap := hide (apply_pg w2 _ noP 0 3 5 (Pg.none w2) (fun _ _ => by simp [noP]) 1 3 1 0 0 0 0 0 0 0 A1 c1 NL.length NL none 0 0 none 0 0 [] none none none 0 0 0 0 0 0 (N1.out.ext X2.out) (by rw [HNL.out]; decide) rfl Reads.none_ (by decide))
  rw [← hF, if_pos (show actsP 0 3 1 3 0 5 [] by decide), decide_eq_true (show actsP 0 3 1 3 0 5 [] by decide)] at hap
  simp only [env] at hap
  clear hF eF
  obtain ⟨e0, e1, e2, e3, e4, e5, e6, e7, e8, e9, e10, e11, e12, e13, e14, e15⟩ := BE2.out.cells16
  go_upto_region 4 with (go_at_call 9; refine hap.out.mono ?_; rintro e w3 ⟨v3, rfl, hp3, hx3⟩; obtain ⟨B0, d0, B1, d1, B2, d2, B3, d3, rfl⟩ := hp3.form; have P3 := hide hp3; have X3 := hide hx3; clear hp3 hx3)
  obtain ⟨w4, hw4⟩ : ∃ w4, w4 = w3.alloc (.cells #[.slice B0 (F 0).length d0, .slice B1 (F 1).length d1, .slice B2 (F 2).length d2, .slice B3 (F 3).length d3, .int .i64 5] 35) := ⟨_, rfl⟩
  have X4 := hide (show Ext w3 w4 by rw [hw4]; exact Ext.new w3 _)
  have BP4 := hide (show Blk w4 w3.heap.size 35 #[.slice B0 (F 0).length d0, .slice B1 (F 1).length d1, .slice B2 (F 2).length d2, .slice B3 (F 3).length d3, .int .i64 5] by rw [hw4]; exact Blk.new w3 35 _)
  obtain ⟨gb, hgb⟩ : ∃ gb, gb = w3.heap.size := ⟨_, rfl⟩
  rw [← hw4, ← hgb]
  rw [← hgb] at BP4
  have BE4 := hide ((X3.out.trans X4.out).blk BE2.out)
  clear hw4 hgb e0 e1 e2 e3 e4 e5 e6 e7 e8 e9 e10 e11 e12 e13 e14 e15 hap
  have hap := hide (apply_pg w4 _ F 5 3 5 (P3.out.ext X4.out) FL.out.1 1 3 1 0 0 0 0 0 0 0 A1 c1 NL.length NL none 0 0 none 0 0 [] none none none 0 0 0 0 0 0 (N1.out.ext (X2.out.trans (X3.out.trans X4.out))) (by rw [HNL.out]; decide) rfl Reads.none_ (by decide))
  rw [pageF, if_neg (show ¬ actsP 5 3 1 3 0 5 [] by decide), if_neg (show ¬ actsP 5 3 1 3 0 5 [] by decide), decide_eq_false (show ¬ actsP 5 3 1 3 0 5 [] by decide)] at hap
  simp only [env] at hap
  obtain ⟨e0, e1, e2, e3, e4, e5, e6, e7, e8, e9, e10, e11, e12, e13, e14, e15⟩ := BE4.out.cells16
  obtain ⟨y0, y1, y2, y3, y4⟩ := BP4.out.cells5
  go_upto_region 5 with (go_at_call 9; refine hap.out.mono ?_; rintro e w5 ⟨v5, rfl, hp5, hx5⟩; obtain ⟨C0, g0, C1, g1, C2, g2, C3, g3, rfl⟩ := hp5.form; have X5 := hide hx5; clear hp5 hx5)
  obtain ⟨w6, hw6⟩ : ∃ w6, w6 = w5.alloc (.cells #[.slice C0 (F 0).length g0, .slice C1 (F 1).length g1, .slice C2 (F 2).length g2, .slice C3 (F 3).length g3, .int .i64 5] 35) := ⟨_, rfl⟩
  have X6 := hide (show Ext w5 w6 by rw [hw6]; exact Ext.new w5 _)
  rw [← hw6]
  have BE6 := hide ((X5.out.trans X6.out).blk BE4.out)
  have BP6 := hide ((X5.out.trans X6.out).blk BP4.out)
  clear hw6 e0 e1 e2 e3 e4 e5 e6 e7 e8 e9 e10 e11 e12 e13 e14 e15 y0 y1 y2 y3 y4 hap
  have hpg := hide (pages_any 1 3 1 0 0 0 0 0 0 0 A1 NL.length c1 none 0 0 none none none none 0 0 0 0 0 0 0 [] w6 Reads.none_ (by decide))
  rw [show pagesOf (touchL 1 3 0 []) = [3] by decide] at hpg
  simp only [env] at hpg
  obtain ⟨e0, e1, e2, e3, e4, e5, e6, e7, e8, e9, e10, e11, e12, e13, e14, e15⟩ := BE6.out.cells16
  go_upto_region 6 with (go_at_call 12; refine hpg.out.mono ?_; rintro e w7 ⟨A7, c7, rfl, hr7, hx7⟩; have X7 := hide hx7; have R7 := hide hr7; clear hr7 hx7)
  obtain ⟨bk, off, hAe, hbw, hcell⟩ := R7.out.plain (by decide) (by decide)
  subst hAe
  have q0 := hcell 0 (.int .i64 3) rfl
  rw [Nat.add_zero] at q0
  have BP7 := X7.out.blk BP6.out
  obtain ⟨y0, y1, y2, y3, y4⟩ := BP7.cells5
  have FL1 := FL.out.2
  rw [FL1] at y1
  clear hcell BP7 e0 e1 e2 e3 e4 e5 e6 e7 e8 e9 e10 e11 e12 e13 e14 e15
  go_wp2_with (fail)
  go_ret
  exact ⟨rfl, X1.out.trans (X2.out.trans (X3.out.trans (X4.out.trans (X5.out.trans (X6.out.trans X7.out)))))⟩
end Go.Proofs.Ytaagdjipjeindaa
