/- Look: contracts: on. (Printed by mk_lookx.py.) -/
import Derived.Test.YtaijgnhkdbdfcaaLookW
namespace Go.Proofs.Ytaijgnhkdbdfcaa
open Go.ChangeShapes Go.WideShapes Go.ChangeAt Go.RowKit
set_option linter.unusedVariables false

/-- what is seen lies in a block of the call's own -/
def RunAt (w wr : World) (sb : Nat) (s : Sn) : Prop := ∃ AL cL AD cD AO cO, Blk wr sb 37 #[.slice AL s.L.length cL, .slice AD s.D.length cD, .slice AO s.O.length cO, .int .i64 s.u, .int .i64 s.h] ∧ SnAt wr w.heap.size s AL cL AD cD AO cO ∧ Ext w wr
theorem RunAt.next {w wr w3 : World} {sb : Nat} {s : Sn} {cs : Array Value} {AL cL AD cD AO cO nl nd no u h} (hsb : sb = w.heap.size) (hB : Blk wr sb 37 cs) (hx : Ext w wr) (hc : cs.size = 5) (h3 : SnAt w3 wr.heap.size s AL cL AD cD AO cO) (x3 : Ext wr w3) (hl : nl = s.L.length) (hd : nd = s.D.length) (ho : no = s.O.length) (hu : u = s.u) (hh : h = s.h) :
    RunAt w (((((w3.setCell ⟨sb, 0, none⟩ (.slice AL nl cL)).setCell ⟨sb, 1, none⟩ (.slice AD nd cD)).setCell ⟨sb, 2, none⟩ (.slice AO no cO)).setCell ⟨sb, 3, none⟩ (.int .i64 u)).setCell ⟨sb, 4, none⟩ (.int .i64 h)) sb s := by
  subst hl hd ho hu hh hsb
  have hB3 := x3.blk hB
  match cs, hc with
  | ⟨[c0, c1, c2, c3, c4]⟩, _ =>
    have hB4 := hB3.set5 (.slice AL s.L.length cL) (.slice AD s.D.length cD) (.slice AO s.O.length cO) (.int .i64 s.u) (.int .i64 s.h)
    have t4 := touch_set5 w3 w.heap.size (.slice AL s.L.length cL) (.slice AD s.D.length cD) (.slice AO s.O.length cO) (.int .i64 s.u) (.int .i64 s.h)
    exact ⟨AL, cL, AD, cD, AO, cO, hB4, (touch_ne t4 hB3 h3 rfl).base hx.size, Touch.ext (hx.trans x3) t4 (Nat.le_refl _)⟩
/-- what a call gives of what is seen, cell by cell -/
theorem gives_lit {f : FuncId} {args : Array Value} {w : World} {s : Sn} (h : Calls Try.prog f args w (GivesSn w s)) : Calls Try.prog f args w fun e w' => ∃ A2 c2 A3 c3 A4 c4 nl nd no u h, e = .returned (.agg #[.slice A2 nl c2, .slice A3 nd c3, .slice A4 no c4, .int .i64 u, .int .i64 h]) ∧ SnAt w' w.heap.size s A2 c2 A3 c3 A4 c4 ∧ Ext w w' ∧ nl = s.L.length ∧ nd = s.D.length ∧ no = s.O.length ∧ u = s.u ∧ h = s.h :=
  h.mono fun e w' ⟨cs, he, ⟨A2, c2, A3, c3, A4, c4, hcs, hs⟩, hx⟩ => ⟨A2, c2, A3, c3, A4, c4, _, _, _, _, _, by rw [he, hcs]; rfl, hs, hx, rfl, rfl, rfl, rfl, rfl⟩
set_option maxRecDepth 1000000 in
set_option maxHeartbeats 40000000 in
theorem run_any (w : World) (A : Option Addr) (c n : Nat) (l : List En) (lsn : Int) (m : Nat) (hl : EnsAt w A n l) (hX : ∀ k X, l[k]? = some X → BdX (m + k) X) (hm : m + n ≤ 80) (h0 : 0 ≤ lsn) (h1 : lsn ≤ 1000) :
    Calls Try.prog 16 #[.slice A n c, .int .i64 lsn] w (GivesSn w (seenN sn0 l lsn)) := by
  have HL := hide hl
  have HX := hide hX
  have HN := hide hl.1
  have hn80 : n ≤ 80 := by omega
  clear hl hX
  go_enter Try.func16, Try.ntmps16
  go_wp2_with (fail)
  obtain ⟨sb, hsb⟩ : ∃ sb, sb = w.heap.size := ⟨_, rfl⟩
  have HSB := hide hsb
  rw [← hsb]
  have P0 := hide (show RunAt w (w.alloc (.cells #[.slice none 0 0, .slice none 0 0, .slice none 0 0, .int .i64 0, .int .i64 0] 37)) sb (seenN sn0 (l.take 0) lsn) from ⟨none, 0, none, 0, none, 0, by rw [hsb]; exact Blk.new w 37 _, ⟨World.ownsRow_nil _ _ _ _, World.ownsRow_nil _ _ _ _, [], World.ownsRow_nil _ _ _ _, OusAre.nil _⟩, Ext.new w _⟩)
  clear hsb
  go_loopw [9] (fun s9 wr => (∃ k : Nat, k ≤ n ∧ s9 = .int .i64 k ∧ Hid (RunAt w wr sb (seenN sn0 (l.take k) lsn)))) (fun s9 _ => (n - intOf s9).toNat)
  case atStart => exact ⟨0, by omega, rfl, P0.out⟩
  case round =>
    obtain ⟨k, hk, rfl, hrel⟩ := hrel
    by_cases hlt : k < n
    · obtain ⟨X, hx⟩ : ∃ X, l[k]? = some X := ⟨_, List.getElem?_eq_getElem (by rw [← HN.out]; exact hlt)⟩
      obtain ⟨BL, bL, BD, bD, BO, bO, hB, hS, hE⟩ := hrel.out
      obtain ⟨g, off, AN, cN, AM, cM, EL, cEL, ED, cED, EO, cEO, hA, hg, hc, he⟩ := (HL.out.ext hE).2 k X hx
      subst hA
      obtain ⟨s, hs⟩ : ∃ s, s = seenN sn0 (l.take k) lsn := ⟨_, rfl⟩
      rw [← hs] at hB hS
      have BB := hide hB
      have SS := hide hS
      have XX := hide hE
      have EE := hide he
      have HXK := hide hx
      have HSS := hide hs
      have PRE := hide (show OnPre s X by rw [hs]; exact (Bd.run HX.out k (by rw [← HN.out]; exact hk)).pre (HX.out k X hx) (by omega))

      have q0 := hc 0 _ rfl
      have q1 := hc 1 _ rfl
      have q2 := hc 2 _ rfl
      have q3 := hc 3 _ rfl
      have q4 := hc 4 _ rfl
      have q5 := hc 5 _ rfl
      have q6 := hc 6 _ rfl
      have q7 := hc 7 _ rfl
      have q8 := hc 8 _ rfl
      have q9 := hc 9 _ rfl
      have q10 := hc 10 _ rfl
      have q11 := hc 11 _ rfl
      have q12 := hc 12 _ rfl
      have q13 := hc 13 _ rfl
      have q14 := hc 14 _ rfl
      have q15 := hc 15 _ rfl
      have dn : decide ((k : Int) < (n : Int)) = true := decide_eq_true (by omega)
      clear hB hS hE he hx hs hc
      simp only [Nat.add_zero] at q0
      go_upto_region 4 with (fail)
      obtain ⟨eb, heb⟩ : ∃ eb, eb = wr.heap.size := ⟨_, rfl⟩
      obtain ⟨w2, hw2⟩ : ∃ w2, w2 = wr.alloc (.cells #[.int .i64 X.E.kind, .int .i64 X.E.t, .int .i64 X.E.u, .int .i64 X.E.h, .int .i64 X.E.p, .int .i64 X.E.nx, .int .i64 X.E.a0, .int .i64 X.E.a1, .int .i64 X.E.b0, .int .i64 X.E.b1, .slice none 0 0, .slice AN X.E.NL.length cN, .slice AM X.E.mv.length cM, .slice EL X.L.length cEL, .slice ED X.D.length cED, .slice EO X.O.length cEO] 35) := ⟨_, rfl⟩
      have X2 := hide (show Ext wr w2 by rw [hw2]; exact Ext.new wr _)
      have E2 := hide (show Blk w2 eb 35 #[.int .i64 X.E.kind, .int .i64 X.E.t, .int .i64 X.E.u, .int .i64 X.E.h, .int .i64 X.E.p, .int .i64 X.E.nx, .int .i64 X.E.a0, .int .i64 X.E.a1, .int .i64 X.E.b0, .int .i64 X.E.b1, .slice none 0 0, .slice AN X.E.NL.length cN, .slice AM X.E.mv.length cM, .slice EL X.L.length cEL, .slice ED X.D.length cED, .slice EO X.O.length cEO] by rw [hw2, heb]; exact Blk.new wr 35 _)
      rw [← hw2, ← heb]
      have B2 := hide (X2.out.blk BB.out)
      obtain ⟨k0, k1, k2, k3, k4⟩ := B2.out.cells5
      obtain ⟨y0, y1, y2, y3, y4, y5, y6, y7, y8, y9, y10, y11, y12, y13, y14, y15⟩ := E2.out.cells16
      have CA := hide (gives_lit (on_any w2 w.heap.size s X (lsn + (k : Int)) BL bL BD bD BO bO _ _ _ AN _ cN AM _ cM EL _ cEL ED _ cED EO _ cEO (SS.out.ext X2.out) (EE.out.ext X2.out) PRE.out rfl rfl rfl rfl rfl rfl rfl rfl))
      clear hw2 heb q0 q1 q2 q3 q4 q5 q6 q7 q8 q9 q10 q11 q12 q13 q14 q15
      go_wp2_with (go_at_call 15; refine CA.out.mono ?_; rintro e w3 ⟨A2, c2, A3, c3, A4, c4, ml, md, mo, mu, mh, rfl, hs3, hx3, hl, hd, ho, hu, hh⟩; have S3 := hide hs3; have X3 := hide hx3; have ML := hide hl; have MD := hide hd; have MO := hide ho; have MU := hide hu; have MH := hide hh; have B3 := hide (hx3.blk B2.out); have f0 := B3.out.frozen 0; have f1 := B3.out.frozen 1; have f2 := B3.out.frozen 2; have f3 := B3.out.frozen 3; have f4 := B3.out.frozen 4; have p0 := (hx3.cell (World.block_lt_of_cell? _ _ k0)).trans k0; have p1 := (hx3.cell (World.block_lt_of_cell? _ _ k1)).trans k1; have p2 := (hx3.cell (World.block_lt_of_cell? _ _ k2)).trans k2; have p3 := (hx3.cell (World.block_lt_of_cell? _ _ k3)).trans k3; have p4 := (hx3.cell (World.block_lt_of_cell? _ _ k4)).trans k4; clear hs3 hx3 hl hd ho hu hh k0 k1 k2 k3 k4)
      go_roundw
      case rel => exact ⟨k + 1, by omega, by go_num, by
        rw [seenN_take HXK.out, ← HSS.out]
        exact RunAt.next HSB.out (X2.out.blk BB.out) (XX.out.trans X2.out) rfl S3.out X3.out ML.out MD.out MO.out MU.out MH.out⟩
      case measure => simp [intOf]; omega
    · obtain rfl : k = n := by omega
      have dn : decide ((k : Int) < (k : Int)) = false := decide_eq_false (by omega)
      obtain ⟨s, hs⟩ : ∃ s, s = seenN sn0 l lsn := ⟨_, rfl⟩
      have e : l.take k = l := List.take_of_length_le (by rw [← HN.out]; exact Nat.le_refl _)
      rw [e, ← hs] at hrel
      have HSE := hide hs
      obtain ⟨BL, bL, BD, bD, BO, bO, hB, hS, hE⟩ := hrel.out
      obtain ⟨l0, hl0⟩ : ∃ l0, l0 = s.L.length := ⟨_, rfl⟩
      obtain ⟨l1, hl1⟩ : ∃ l1, l1 = s.D.length := ⟨_, rfl⟩
      obtain ⟨l2, hl2⟩ : ∃ l2, l2 = s.O.length := ⟨_, rfl⟩
      obtain ⟨u9, hu9⟩ : ∃ u9, u9 = s.u := ⟨_, rfl⟩
      obtain ⟨h9, hh9⟩ : ∃ h9, h9 = s.h := ⟨_, rfl⟩
      rw [← hl0, ← hl1, ← hl2, ← hu9, ← hh9] at hB
      have L0 := hide hl0
      have L1 := hide hl1
      have L2 := hide hl2
      have U9 := hide hu9
      have H9 := hide hh9
      have BB := hide hB
      have SS := hide hS
      have XX := hide hE
      clear hB hS hE hs hl0 hl1 hl2 hu9 hh9 e hrel
      obtain ⟨z0, z1, z2, z3, z4⟩ := BB.out.cells5
      have f0 := BB.out.frozen 0
      have f1 := BB.out.frozen 1
      have f2 := BB.out.frozen 2
      have f3 := BB.out.frozen 3
      have f4 := BB.out.frozen 4
      go_wp2_with (fail)
      have Z6 := hide (BB.out.set5 (.slice BL l0 bL) (.slice BD l1 bD) (.slice BO l2 bO) (.int .i64 u9) (.int .i64 h9))
      have T6 := hide (touch_set5 wr sb (.slice BL l0 bL) (.slice BD l1 bD) (.slice BO l2 bO) (.int .i64 u9) (.int .i64 h9))
      obtain ⟨w8, hw8⟩ : ∃ w8, w8 = ((((wr.setCell ⟨sb, 0, none⟩ (.slice BL l0 bL)).setCell ⟨sb, 1, none⟩ (.slice BD l1 bD)).setCell ⟨sb, 2, none⟩ (.slice BO l2 bO)).setCell ⟨sb, 3, none⟩ (.int .i64 u9)).setCell ⟨sb, 4, none⟩ (.int .i64 h9) := ⟨_, rfl⟩
      rw [← hw8] at Z6 T6
      rw [← hw8]
      clear hw8 z0 z1 z2 z3 z4 f0 f1 f2 f3 f4
      obtain ⟨z0, z1, z2, z3, z4⟩ := Z6.out.cells5
      exact bodyPost_ret (v := .agg #[.slice BL l0 bL, .slice BD l1 bD, .slice BO l2 bO, .int .i64 u9, .int .i64 h9]) (by simp [results, Try.results16, go_sem, z0, z1, z2, z3, z4]) rfl ⟨_, rfl, ⟨BL, bL, BD, bD, BO, bO, by rw [← HSE.out, L0.out, L1.out, L2.out, U9.out, H9.out]; rfl, by rw [← HSE.out]; exact touch_ne T6.out BB.out SS.out rfl⟩, Touch.ext XX.out T6.out (by rw [HSB.out]; exact Nat.le_refl _)⟩
end Go.Proofs.Ytaijgnhkdbdfcaa
