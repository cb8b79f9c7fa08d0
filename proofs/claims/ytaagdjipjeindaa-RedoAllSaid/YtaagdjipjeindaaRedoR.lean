/- Redo: the document's touches: what an entry says of which cells. -/
import Derived.Test.YtaagdjipjeindaaRedoQ
namespace Go.Proofs.Ytaagdjipjeindaa
open Go.ChangeShapes Go.WideShapes Go.ChangeAt Go.RowKit
set_option linter.unusedVariables false

theorem Try.info69' : (Try.prog.info? 69).map (fun i => (i.zero.map (·.cells.size), i.size, i.bytes)) = some (some 3, 3, 40) := by kernel_rfl
/-- what an entry says of a cell -/
structure Tc where
  a0 : Int
  a1 : Int
  l : List UInt8
def touchesL (kind a0 a1 b0 b1 : Int) (NL : List UInt8) (mv : List Mv) : List Tc :=
  if kind = 1 ∨ kind = 2 then [⟨a0, a1, NL⟩] else if kind = 7 then [⟨a0, a1, stubOf b0 b1⟩, ⟨b0, b1, NL⟩] else if kind = 8 then mv.map (fun x => ⟨x.f0, x.f1, []⟩) else []
theorem touches_pages (kind a0 a1 b0 b1 : Int) (NL : List UInt8) (mv : List Mv) : (touchesL kind a0 a1 b0 b1 NL mv).map (·.a0) = touchL kind a0 b0 mv := by
  unfold touchesL touchL
  split
  · rfl
  · split
    · rfl
    · split
      · simp [Function.comp_def]
      · rfl
theorem touches_paint (kind a0 a1 b0 b1 n : Int) (NL : List UInt8) (mv : List Mv) (f : Nat → List UInt8) : (touchesL kind a0 a1 b0 b1 NL mv).foldl (fun f t => setP f t.a0 t.a1 n t.l) f = paintF kind a0 a1 b0 b1 n NL mv f := by
  unfold touchesL paintF
  split
  · rfl
  · split
    · rfl
    · split
      · rw [List.foldl_map]
      · rfl
def TcIs (w : World) (t : Tc) (cs : List Value) : Prop := ∃ A c, cs = [.int .i64 t.a0, .int .i64 t.a1, .slice A t.l.length c] ∧ BB w (.slice A t.l.length c) t.l
def TcsAre (w : World) : List Tc → List Value → Prop
  | [], l => l = []
  | t :: ts, l => ∃ c r, l = c ++ r ∧ TcIs w t c ∧ TcsAre w ts r
theorem TcsAre.ext {w w' : World} : ∀ {es : List Tc} {l : List Value}, TcsAre w es l → Ext w w' → TcsAre w' es l
  | [], _, h, _ => h
  | _ :: _, _, ⟨c, r, e, ⟨A, c', e2, h1⟩, h2⟩, hx => ⟨c, r, e, ⟨A, c', e2, h1.ext hx⟩, h2.ext hx⟩
theorem TcsAre.at_ {w : World} : ∀ {es : List Tc} {l : List Value} {i : Nat} {t : Tc}, TcsAre w es l → es[i]? = some t → ∃ A c, l[i * 3]? = some (.int .i64 t.a0) ∧ l[i * 3 + 1]? = some (.int .i64 t.a1) ∧ l[i * 3 + 2]? = some (.slice A t.l.length c) ∧ BB w (.slice A t.l.length c) t.l
  | [], _, _, _, _, hi => by simp at hi
  | E' :: es, _, 0, t, ⟨cc, r, e, ⟨A, c', ec, h1⟩, h2⟩, hi => by
    subst ec
    simp only [List.getElem?_cons_zero, Option.some.injEq] at hi
    subst hi
    subst e
    exact ⟨A, c', rfl, rfl, rfl, h1⟩
  | E' :: es, _, i + 1, t, ⟨cc, r, e, ⟨A, c', ec, h1⟩, h2⟩, hi => by
    subst ec
    obtain ⟨A2, c2, k0, k1, k2, k3⟩ := h2.at_ (i := i) (t := t) (by simpa using hi)
    subst e
    have hh : ∀ j, ([Value.int .i64 E'.a0, .int .i64 E'.a1, .slice A E'.l.length c'] ++ r)[(i + 1) * 3 + j]? = r[i * 3 + j]? := fun j => by
      rw [List.getElem?_append_right (by simp; omega)]
      congr 1
      simp
      omega
    exact ⟨A2, c2, (hh 0).trans k0, (hh 1).trans k1, (hh 2).trans k2, k3⟩
/-- what says nothing but where -/
def tcn (x : Mv) : List Value := [.int .i64 x.f0, .int .i64 x.f1, .slice none 0 0]
theorem TcsAre.none (w : World) : ∀ mv : List Mv, TcsAre w (mv.map (fun x => (⟨x.f0, x.f1, []⟩ : Tc))) (mv.flatMap tcn)
  | [] => rfl
  | x :: mv => ⟨tcn x, mv.flatMap tcn, by simp, ⟨_, _, rfl, BB.nil w⟩, TcsAre.none w mv⟩
/-- touches in whatever memory -/
def GivesT (w : World) (T : List Tc) (e : Ending) (w' : World) : Prop := ∃ A c vs, e = .returned (.slice A T.length c) ∧ Reads w' w'.heap.size 3 A T.length vs ∧ TcsAre w' T vs ∧ Ext w w'
theorem reads_blkN {w : World} {g : Nat} {t : TypeId} {cs : Array Value} {n m : Nat} (h : Blk w g t cs) (hc : cs.size = n * m) : Reads w w.heap.size m (some ⟨g, 0, none⟩) n cs.toList := by
  refine ⟨by simpa using hc, fun _ => ⟨_, rfl, h.lt, fun j u hu => ?_⟩⟩
  have e : (⟨g, 0, none⟩ : Addr).add j = ⟨g, j, none⟩ := by unfold Addr.add; split <;> simp_all
  rw [e, h.cell]
  simpa using hu
set_option maxRecDepth 1000000 in
set_option maxHeartbeats 8000000 in
theorem touches_any (kind a0 a1 b0 b1 t u h p nx : Int) (AN : Option Addr) (cN : Nat) (NL : List UInt8) (AO : Option Addr) (nO cO : Nat) (AM : Option Addr) (cM : Nat) (mv : List Mv) (A13 A14 A15 : Option Addr) (n13 c13 n14 c14 n15 c15 : Nat) (w : World)
    (hN : BB w (.slice AN NL.length cN) NL) (hr : Reads w w.heap.size 4 AM mv.length (mvs mv)) (hl : mv.length ≤ 1000) :
    Calls Try.prog 23 #[.agg #[.int .i64 kind, .int .i64 t, .int .i64 u, .int .i64 h, .int .i64 p, .int .i64 nx, .int .i64 a0, .int .i64 a1, .int .i64 b0, .int .i64 b1, .slice AO nO cO, .slice AN NL.length cN, .slice AM mv.length cM, .slice A13 n13 c13, .slice A14 n14 c14, .slice A15 n15 c15]] w (GivesT w (touchesL kind a0 a1 b0 b1 NL mv)) := by
  have HR := hide hr
  have QN := hide hN
  clear hr hN
  obtain ⟨N, hNN⟩ : ∃ N, N = NL.length := ⟨_, rfl⟩
  have HNN := hide hNN
  rw [← hNN] at QN ⊢
  clear hNN
  have hk : kind = 1 ∨ kind = 2 ∨ kind = 7 ∨ kind = 8 ∨ (kind ≠ 1 ∧ kind ≠ 2 ∧ kind ≠ 7 ∧ kind ≠ 8) := by omega
  rcases hk with rfl | rfl | rfl | rfl | ⟨e1, e2, e7, e8⟩
  · have eT := hide (show touchesL 1 a0 a1 b0 b1 NL mv = [⟨a0, a1, NL⟩] by simp [touchesL])
    go_enter Try.func23, Try.ntmps23
    go_wp2_with (fail)
    go_ret
    rw [eT.out]
    have hb := blk_new1 w (.cells #[.int .i64 1, .int .i64 t, .int .i64 u, .int .i64 h, .int .i64 p, .int .i64 nx, .int .i64 a0, .int .i64 a1, .int .i64 b0, .int .i64 b1, .slice AO nO cO, .slice AN N cN, .slice AM mv.length cM, .slice A13 n13 c13, .slice A14 n14 c14, .slice A15 n15 c15] 31) 69 #[.int .i64 a0, .int .i64 a1, .slice AN N cN]
    have hx := (Ext.new w (.cells #[.int .i64 1, .int .i64 t, .int .i64 u, .int .i64 h, .int .i64 p, .int .i64 nx, .int .i64 a0, .int .i64 a1, .int .i64 b0, .int .i64 b1, .slice AO nO cO, .slice AN N cN, .slice AM mv.length cM, .slice A13 n13 c13, .slice A14 n14 c14, .slice A15 n15 c15] 31)).alloc (.cells #[.int .i64 a0, .int .i64 a1, .slice AN N cN] 69)
    exact ⟨_, 1, _, rfl, reads_blkN (n := 1) hb rfl, ⟨_, [], rfl, ⟨AN, cN, by rw [← HNN.out], by rw [← HNN.out]; exact QN.out.ext hx⟩, rfl⟩, hx⟩
  · have eT := hide (show touchesL 2 a0 a1 b0 b1 NL mv = [⟨a0, a1, NL⟩] by simp [touchesL])
    go_enter Try.func23, Try.ntmps23
    go_wp2_with (fail)
    go_ret
    rw [eT.out]
    have hb := blk_new1 w (.cells #[.int .i64 2, .int .i64 t, .int .i64 u, .int .i64 h, .int .i64 p, .int .i64 nx, .int .i64 a0, .int .i64 a1, .int .i64 b0, .int .i64 b1, .slice AO nO cO, .slice AN N cN, .slice AM mv.length cM, .slice A13 n13 c13, .slice A14 n14 c14, .slice A15 n15 c15] 31) 69 #[.int .i64 a0, .int .i64 a1, .slice AN N cN]
    have hx := (Ext.new w (.cells #[.int .i64 2, .int .i64 t, .int .i64 u, .int .i64 h, .int .i64 p, .int .i64 nx, .int .i64 a0, .int .i64 a1, .int .i64 b0, .int .i64 b1, .slice AO nO cO, .slice AN N cN, .slice AM mv.length cM, .slice A13 n13 c13, .slice A14 n14 c14, .slice A15 n15 c15] 31)).alloc (.cells #[.int .i64 a0, .int .i64 a1, .slice AN N cN] 69)
    exact ⟨_, 1, _, rfl, reads_blkN (n := 1) hb rfl, ⟨_, [], rfl, ⟨AN, cN, by rw [← HNN.out], by rw [← HNN.out]; exact QN.out.ext hx⟩, rfl⟩, hx⟩
  · have eT := hide (show touchesL 7 a0 a1 b0 b1 NL mv = [⟨a0, a1, stubOf b0 b1⟩, ⟨b0, b1, NL⟩] by simp [touchesL])
    obtain ⟨es, hes⟩ : ∃ es : Array Value, es = #[.int .i64 7, .int .i64 t, .int .i64 u, .int .i64 h, .int .i64 p, .int .i64 nx, .int .i64 a0, .int .i64 a1, .int .i64 b0, .int .i64 b1, .slice AO nO cO, .slice AN N cN, .slice AM mv.length cM, .slice A13 n13 c13, .slice A14 n14 c14, .slice A15 n15 c15] := ⟨_, rfl⟩
    have HBL := hide (Blk.new w 31 es)
    rw [hes] at HBL
    have HXN := hide (Ext.new w (.cells es 31))
    rw [hes] at HXN
    clear hes
    go_enter Try.func23, Try.ntmps23
    go_upto_region 7 with (go_at_call 17; refine (rstub_all _ b0 b1).mono ?_; rintro e w2 ⟨v2, er, rfl, hb2, _, hx2⟩; obtain ⟨A2, c2, rfl⟩ : ∃ A c, v2 = .slice A (stubOf b0 b1).length c := ⟨hb2.choose, hb2.choose_spec.choose, hb2.choose_spec.choose_spec.1⟩; have X2 := hide hx2; have B2 := hide hb2; clear hb2 hx2)
    obtain ⟨y0, y1, y2, y3, y4, y5, y6, y7, y8, y9, y10, y11, y12, y13, y14, y15⟩ := (X2.out.blk HBL.out).cells16
    go_wp2_with (fail)
    go_ret
    rw [eT.out]
    have hb := Blk.new w2 69 #[.int .i64 a0, .int .i64 a1, .slice A2 (stubOf b0 b1).length c2, .int .i64 b0, .int .i64 b1, .slice AN N cN]
    have hx := Ext.new w2 (.cells #[.int .i64 a0, .int .i64 a1, .slice A2 (stubOf b0 b1).length c2, .int .i64 b0, .int .i64 b1, .slice AN N cN] 69)
    exact ⟨_, 2, _, rfl, reads_blkN (n := 2) hb rfl, ⟨[_, _, _], _, rfl, ⟨A2, c2, rfl, B2.out.ext hx⟩, ⟨_, [], rfl, ⟨AN, cN, by rw [← HNN.out], by rw [← HNN.out]; exact QN.out.ext (HXN.out.trans (X2.out.trans hx))⟩, rfl⟩⟩, HXN.out.trans (X2.out.trans hx)⟩
  · have eT := hide (show touchesL 8 a0 a1 b0 b1 NL mv = mv.map (fun x => ⟨x.f0, x.f1, []⟩) by simp [touchesL])
    obtain ⟨i69, z69, hi69, hz69, hzs69, hs69, hb69⟩ := info_parts2 Try.info69'
    obtain ⟨M, hM⟩ : ∃ M, M = mv.length := ⟨_, rfl⟩
    rw [← hM] at hl HR ⊢
    have HM := hide hM
    clear hM
    go_enter Try.func23, Try.ntmps23
    go_wp2_with (fail)
    go_loopw [5, 6] (fun s5 s6 wr => (∃ i : Nat, i ≤ M ∧ s6 = .int .i64 i ∧ Hid (Ext (w.alloc (.cells #[.int .i64 8, .int .i64 t, .int .i64 u, .int .i64 h, .int .i64 p, .int .i64 nx, .int .i64 a0, .int .i64 a1, .int .i64 b0, .int .i64 b1, .slice AO nO cO, .slice AN N cN, .slice AM M cM, .slice A13 n13 c13, .slice A14 n14 c14, .slice A15 n15 c15] 31)) wr ∧ wr.ownsRow (w.heap.size + 1) 69 3 s5 i ((mv.take i).flatMap tcn)))) (fun _ s6 _ => (M - intOf s6).toNat)
    case atStart => exact ⟨0, by omega, rfl, Ext.refl _, World.ownsRow_nil _ _ _ _⟩
    case round =>
      obtain ⟨i, hi, rfl, hs⟩ := hrel
      have X := hide hs.out.1
      have ho := hs.out.2
      obtain ⟨A3, c3, hv3, _⟩ := own_form ho
      subst hv3
      have HO := hide ho
      have BE := hide (X.out.blk (Blk.new w 31 #[.int .i64 8, .int .i64 t, .int .i64 u, .int .i64 h, .int .i64 p, .int .i64 nx, .int .i64 a0, .int .i64 a1, .int .i64 b0, .int .i64 b1, .slice AO nO cO, .slice AN N cN, .slice AM M cM, .slice A13 n13 c13, .slice A14 n14 c14, .slice A15 n15 c15]))
      clear hs ho
      obtain ⟨y0, y1, y2, y3, y4, y5, y6, y7, y8, y9, y10, y11, y12, y13, y14, y15⟩ := BE.out.cells16
      have XW := hide ((Ext.new w _).trans X.out)
      by_cases hlt : i < M
      · obtain ⟨bk, off, hAe, hbw, hcell⟩ := HR.out.plain (by omega) (by omega)
        subst hAe
        obtain ⟨x, hx⟩ : ∃ x, mv[i]? = some x := ⟨_, List.getElem?_eq_getElem (by rw [← HM.out]; exact hlt)⟩
        obtain ⟨q0, q1, q2, q3⟩ := mvs_at hx
        have g0 := (XW.out.cell (p := ⟨bk, off + i * 4, none⟩) hbw).trans (hcell _ _ q0)
        have g1 := (XW.out.cell (p := ⟨bk, off + (i * 4 + 1), none⟩) hbw).trans (hcell _ _ q1)
        rw [← Nat.add_assoc] at g1
        have HX := hide hx
        have hsz := hide (show w.heap.size + 1 ≤ wr.heap.size by have := X.out.size; simpa using this)
        clear q0 q1 q2 q3 hcell hx y0 y1 y2 y3 y4 y5 y6 y7 y8 y9 y10 y11 y13 y14 y15
        have HB := hide (show ∀ k, Value.ownBlock (.slice A3 i c3) = some k → (w.alloc (.cells #[.int .i64 8, .int .i64 t, .int .i64 u, .int .i64 h, .int .i64 p, .int .i64 nx, .int .i64 a0, .int .i64 a1, .int .i64 b0, .int .i64 b1, .slice AO nO cO, .slice AN N cN, .slice (some ⟨bk, off, none⟩) M cM, .slice A13 n13 c13, .slice A14 n14 c14, .slice A15 n15 c15] 31)).heap.size ≤ k from fun k hk => by
          have := own_ge HO.out hk
          simpa using this)
        go_wp2_with (at_builtin; refine wpList_append_any _ rfl (.tmp 45) (.tmp 53) _ rfl (w.heap.size + 1) 69 i69 z69 3 40 Try.underlying66 hi69 hz69 hs69 hb69 hzs69 (by omega) (.slice A3 i c3) i ((mv.take i).flatMap tcn) rfl (Ext.own (Ext.new wr _) HO.out) _ (some ⟨wr.heap.size, 0, none⟩) 1 1 [.int .i64 x.f0, .int .i64 x.f1, .slice none 0 0] rfl (by have := reads_blk (m := 3) (Blk.new wr 69 #[.int .i64 x.f0, .int .i64 x.f1, .slice none 0 0]) rfl; exact this) (by intro u hu; simp at hu; rcases hu with rfl | rfl | rfl <;> rfl) (by simp only [maxLen]; omega) (by omega) (by have := hsz.out; simp; omega) ?_; intro v4 w4 ho4 hg4 hat4; have E4 := hide (Ext.grown (X.out.alloc _) hg4 HB.out); obtain ⟨A4, c4, hv4, _⟩ := own_form ho4; subst hv4; have O4 := hide ho4; clear ho4 hg4 hat4)
        go_roundw
        case rel => exact ⟨i + 1, by omega, by go_num, E4.out, by
          have hk := (List.getElem?_eq_some_iff.1 HX.out).1
          have e : mv[i] = x := (List.getElem?_eq_some_iff.1 HX.out).2
          rw [List.take_succ_eq_append_getElem hk, List.flatMap_append, e]
          simpa [tcn] using O4.out⟩
        case measure => simp [intOf]; omega
      · obtain rfl : i = M := by omega
        have eT2 : mv.take i = mv := List.take_of_length_le (by rw [← HM.out]; exact Nat.le_refl _)
        rw [eT2] at HO
        go_wp2_with (fail)
        go_ret
        rw [eT.out]
        have eL : (mv.map (fun x => (⟨x.f0, x.f1, []⟩ : Tc))).length = i := by simp [HM.out]
        unfold GivesT
        rw [eL]
        exact ⟨A3, c3, _, rfl, Reads.of_own HO.out, TcsAre.none _ mv, XW.out⟩
  · have k1 : (kind == 1) = false := by simpa using e1
    have k2 : (kind == 2) = false := by simpa using e2
    have k7 : (kind == 7) = false := by simpa using e7
    have k8 : (kind == 8) = false := by simpa using e8
    have eT := hide (show touchesL kind a0 a1 b0 b1 NL mv = [] by simp [touchesL, e1, e2, e7, e8])
    clear e1 e2 e7 e8
    go_enter Try.func23, Try.ntmps23
    go_wp2_with (fail)
    go_ret
    rw [eT.out]
    exact ⟨none, 0, [], rfl, Reads.none_, rfl, Ext.new w _⟩
end Go.Proofs.Ytaagdjipjeindaa
