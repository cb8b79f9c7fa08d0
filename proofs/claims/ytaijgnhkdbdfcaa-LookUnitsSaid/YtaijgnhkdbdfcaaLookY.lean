/- Look: contracts: All, Late. -/
import Derived.Test.YtaijgnhkdbdfcaaLookX
namespace Go.Proofs.Ytaijgnhkdbdfcaa
open Go.ChangeShapes Go.WideShapes Go.ChangeAt Go.RowKit
set_option linter.unusedVariables false

set_option maxRecDepth 100000 in
set_option maxHeartbeats 4000000 in
theorem all_any (w : World) (A : Option Addr) (c n : Nat) (l : List En) (m : Nat) (hl : EnsAt w A n l) (hX : ∀ k X, l[k]? = some X → BdX (m + k) X) (hm : m + n ≤ 80) :
    Calls Try.prog 10 #[.slice A n c] w (GivesSn w (seenN sn0 l 1)) := by
  obtain ⟨w1, hw1⟩ : ∃ w1, w1 = w.alloc (.cells #[.slice none 0 0, .slice none 0 0, .slice none 0 0, .int .i64 0, .int .i64 0] 37) := ⟨_, rfl⟩
  obtain ⟨sb, hsb⟩ : ∃ sb, sb = w.heap.size := ⟨_, rfl⟩
  have X1 := hide (show Ext w w1 by rw [hw1]; exact Ext.new w _)
  have B1 := hide (show Blk w1 sb 37 #[.slice none 0 0, .slice none 0 0, .slice none 0 0, .int .i64 0, .int .i64 0] by rw [hw1, hsb]; exact Blk.new w 37 _)
  have CA := hide (gives_lit (run_any w1 A c n l 1 m (hl.ext X1.out) hX hm (by omega) (by omega)))
  have HSB := hide hsb
  obtain ⟨z0, z1, z2, z3, z4⟩ := B1.out.cells5
  clear hl hX
  go_enter Try.func10, Try.ntmps10
  go_upto_region 1 with (fail)
  rw [← hw1, ← hsb]
  clear hw1 hsb
  go_wp2_with (go_at_call 16; refine CA.out.mono ?_; rintro e w3 ⟨A2, c2, A3, c3, A4, c4, ml, md, mo, mu, mh, rfl, hs3, hx3, hl, hd, ho, hu, hh⟩; have S3 := hide hs3; have X3 := hide hx3; have ML := hide hl; have MD := hide hd; have MO := hide ho; have MU := hide hu; have MH := hide hh; have B3 := hide (hx3.blk B1.out); have f0 := B3.out.frozen 0; have f1 := B3.out.frozen 1; have f2 := B3.out.frozen 2; have f3 := B3.out.frozen 3; have f4 := B3.out.frozen 4; have p0 := (hx3.cell (World.block_lt_of_cell? _ _ z0)).trans z0; have p1 := (hx3.cell (World.block_lt_of_cell? _ _ z1)).trans z1; have p2 := (hx3.cell (World.block_lt_of_cell? _ _ z2)).trans z2; have p3 := (hx3.cell (World.block_lt_of_cell? _ _ z3)).trans z3; have p4 := (hx3.cell (World.block_lt_of_cell? _ _ z4)).trans z4; clear hs3 hx3 hl hd ho hu hh z0 z1 z2 z3 z4)
  have RA := hide (RunAt.next HSB.out B1.out X1.out rfl S3.out X3.out ML.out MD.out MO.out MU.out MH.out)
  have Z6 := hide (B3.out.set5 (.slice A2 ml c2) (.slice A3 md c3) (.slice A4 mo c4) (.int .i64 mu) (.int .i64 mh))
  have T6 := hide (touch_set5 w3 sb (.slice A2 ml c2) (.slice A3 md c3) (.slice A4 mo c4) (.int .i64 mu) (.int .i64 mh))
  obtain ⟨w8, hw8⟩ : ∃ w8, w8 = ((((w3.setCell ⟨sb, 0, none⟩ (.slice A2 ml c2)).setCell ⟨sb, 1, none⟩ (.slice A3 md c3)).setCell ⟨sb, 2, none⟩ (.slice A4 mo c4)).setCell ⟨sb, 3, none⟩ (.int .i64 mu)).setCell ⟨sb, 4, none⟩ (.int .i64 mh) := ⟨_, rfl⟩
  rw [← hw8] at Z6 T6
  rw [← hw8]
  clear hw8 p0 p1 p2 p3 p4 f0 f1 f2 f3 f4
  obtain ⟨z0, z1, z2, z3, z4⟩ := Z6.out.cells5
  exact bodyPost_ret (v := .agg #[.slice A2 ml c2, .slice A3 md c3, .slice A4 mo c4, .int .i64 mu, .int .i64 mh]) (by simp [results, Try.results10, go_sem, z0, z1, z2, z3, z4]) rfl ⟨_, rfl, ⟨A2, c2, A3, c3, A4, c4, by rw [ML.out, MD.out, MO.out, MU.out, MH.out]; rfl, touch_ne T6.out B3.out (S3.out.base X1.out.size) rfl⟩, Touch.ext (X1.out.trans X3.out) T6.out (by rw [HSB.out]; exact Nat.le_refl _)⟩
/-- where the last mark is -/
def lateF (l : List En) : Nat → Nat
  | 0 => 0
  | k + 1 => match l[k]? with
    | some X => if X.E.kind = 9 then k + 1 else lateF l k
    | none => 0
theorem lateF_no {l : List En} {k : Nat} {X : En} (hx : l[k]? = some X) (h9 : ¬ X.E.kind = 9) : lateF l (k + 1) = lateF l k := by
  conv => lhs; unfold lateF
  rw [hx]
  exact if_neg h9
def lateS (l : List En) : Sn := if lateF l l.length = 0 then seenN sn0 l 1 else seenN sn0 (l.drop (lateF l l.length - 1)) (lateF l l.length : Int)
def GivesLate (w : World) (l : List En) (e : Ending) (w' : World) : Prop := ∃ cs, e = .returned (.tuple #[.agg cs.toArray, .int .i64 (lateF l l.length : Int)]) ∧ SnIs w' w.heap.size (lateS l) cs ∧ Ext w w'
theorem EnsAt.drop {w : World} {g off n k : Nat} {l : List En} (h : EnsAt w (some ⟨g, off, none⟩) n l) (hk : k ≤ n) : EnsAt w (some ⟨g, off + k * 16, none⟩) (n - k) (l.drop k) := by
  refine ⟨by rw [List.length_drop, ← h.1], fun j X hX => ?_⟩
  rw [List.getElem?_drop] at hX
  obtain ⟨g', off', AN, cN, AM, cM, EL, cEL, ED, cED, EO, cEO, hA, hg, hc, he⟩ := h.2 _ X hX
  injection hA with hA
  injection hA with hA1 hA2
  subst hA1 hA2
  refine ⟨g, off + k * 16, AN, cN, AM, cM, EL, cEL, ED, cED, EO, cEO, rfl, hg, fun i u hi => ?_, he⟩
  have := hc i u hi
  rw [show off + k * 16 + j * 16 + i = off + (k + j) * 16 + i by omega]
  exact this
set_option maxRecDepth 100000 in
set_option maxHeartbeats 4000000 in
theorem late_any (w : World) (A : Option Addr) (c n : Nat) (l : List En) (hl : EnsAt w A n l) (hX : ∀ k X, l[k]? = some X → BdX k X) (hm : n ≤ 80) (hc : n ≤ c) :
    Calls Try.prog 11 #[.slice A n c] w (GivesLate w l) := by
  obtain ⟨w1, hw1⟩ : ∃ w1, w1 = w.alloc (.cells #[.slice none 0 0, .slice none 0 0, .slice none 0 0, .int .i64 0, .int .i64 0] 37) := ⟨_, rfl⟩
  obtain ⟨sb, hsb⟩ : ∃ sb, sb = w.heap.size := ⟨_, rfl⟩
  have X1 := hide (show Ext w w1 by rw [hw1]; exact Ext.new w _)
  have B1 := hide (show Blk w1 sb 37 #[.slice none 0 0, .slice none 0 0, .slice none 0 0, .int .i64 0, .int .i64 0] by rw [hw1, hsb]; exact Blk.new w 37 _)
  have HSB := hide hsb
  have HL := hide (hl.ext X1.out)
  have HN := hide hl.1
  have HX := hide hX
  clear hl hX
  go_enter Try.func11, Try.ntmps11
  go_upto_region 1 with (fail)
  rw [← hw1, ← hsb]
  clear hw1 hsb
  go_wp2_with (fail)
  go_loopw [3] (fun s3 wr => (∃ k : Nat, k ≤ n ∧ s3 = .int .i64 k ∧ w1 = wr ∧ Hid (lateF l l.length = lateF l k))) (fun s3 _ => (intOf s3).toNat)
  case atStart => exact ⟨n, Nat.le_refl _, rfl, rfl, HN.out ▸ rfl⟩
  case round =>
    obtain ⟨k, hk, rfl, rfl, hb⟩ := hrel
    cases k with
    | zero =>
      have d0 : decide ((0 : Int) < ((0 : Nat) : Int)) = false := rfl
      have d1 : (((0 : Nat) : Int) == 0) = true := rfl
      have CA := hide (gives_lit (all_any w1 A c n l 0 HL.out (fun k X h => by simpa using HX.out k X h) (by omega)))
      have HLS := hide (show lateS l = seenN sn0 l 1 by unfold lateS; rw [hb.out]; rfl)
      obtain ⟨z0, z1, z2, z3, z4⟩ := B1.out.cells5
      go_wp2_with (go_at_call 10; refine CA.out.mono ?_; rintro e w3 ⟨A2, c2, A3, c3, A4, c4, ml, md, mo, mu, mh, rfl, hs3, hx3, hl, hd, ho, hu, hh⟩; have S3 := hide hs3; have X3 := hide hx3; have ML := hide hl; have MD := hide hd; have MO := hide ho; have MU := hide hu; have MH := hide hh; have B3 := hide (hx3.blk B1.out); have f0 := B3.out.frozen 0; have f1 := B3.out.frozen 1; have f2 := B3.out.frozen 2; have f3 := B3.out.frozen 3; have f4 := B3.out.frozen 4; have p0 := (hx3.cell (World.block_lt_of_cell? _ _ z0)).trans z0; have p1 := (hx3.cell (World.block_lt_of_cell? _ _ z1)).trans z1; have p2 := (hx3.cell (World.block_lt_of_cell? _ _ z2)).trans z2; have p3 := (hx3.cell (World.block_lt_of_cell? _ _ z3)).trans z3; have p4 := (hx3.cell (World.block_lt_of_cell? _ _ z4)).trans z4; clear hs3 hx3 hl hd ho hu hh z0 z1 z2 z3 z4)
      have Z6 := hide (B3.out.set5 (.slice A2 ml c2) (.slice A3 md c3) (.slice A4 mo c4) (.int .i64 mu) (.int .i64 mh))
      have T6 := hide (touch_set5 w3 sb (.slice A2 ml c2) (.slice A3 md c3) (.slice A4 mo c4) (.int .i64 mu) (.int .i64 mh))
      obtain ⟨w8, hw8⟩ : ∃ w8, w8 = ((((w3.setCell ⟨sb, 0, none⟩ (.slice A2 ml c2)).setCell ⟨sb, 1, none⟩ (.slice A3 md c3)).setCell ⟨sb, 2, none⟩ (.slice A4 mo c4)).setCell ⟨sb, 3, none⟩ (.int .i64 mu)).setCell ⟨sb, 4, none⟩ (.int .i64 mh) := ⟨_, rfl⟩
      rw [← hw8] at Z6 T6
      rw [← hw8]
      clear hw8 p0 p1 p2 p3 p4 f0 f1 f2 f3 f4
      obtain ⟨z0, z1, z2, z3, z4⟩ := Z6.out.cells5
      exact bodyPost_ret (v := .tuple #[.agg #[.slice A2 ml c2, .slice A3 md c3, .slice A4 mo c4, .int .i64 mu, .int .i64 mh], .int .i64 (0)]) (by simp [results, Try.results11, go_sem, z0, z1, z2, z3, z4]) rfl ⟨_, by rw [hb.out]; rfl, ⟨A2, c2, A3, c3, A4, c4, by rw [HLS.out, ML.out, MD.out, MO.out, MU.out, MH.out]; rfl, by rw [HLS.out]; exact touch_ne T6.out B3.out (S3.out.base X1.out.size) rfl⟩, Touch.ext (X1.out.trans X3.out) T6.out (by rw [HSB.out]; exact Nat.le_refl _)⟩
    | succ k =>
      obtain ⟨X, hx⟩ : ∃ X, l[k]? = some X := ⟨_, List.getElem?_eq_getElem (by rw [← HN.out]; omega)⟩
      obtain ⟨g, off, AN, cN, AM, cM, EL, cEL, ED, cED, EO, cEO, hA, hg, hcl, he⟩ := HL.out.2 k X hx
      subst hA
      have q0 := hcl 0 _ rfl
      simp only [Nat.add_zero] at q0
      have d0 : decide ((0 : Int) < (((k + 1 : Nat)) : Int)) = true := decide_eq_true (by omega)
      have d2 : (((k + 1 : Nat) : Int) == 0) = false := by simp; omega
      have hkk : IntKind.i64.wrap (((k + 1 : Nat) : Int) - 1) = (k : Int) := by simp [IntKind.wrap, IntKind.signed, IntKind.bits]; omega
      have hkk2 : IntKind.i64.wrap ((k : Int) + 1 - 1) = (k : Int) := by simp [IntKind.wrap, IntKind.signed, IntKind.bits]; omega
      have hkn : (k : Int) < (n : Int) := by omega
      have HXK := hide hx
      clear hcl he hx
      by_cases hk9 : X.E.kind = 9
      · have HLF := hide (show lateF l l.length = k + 1 by rw [hb.out]; unfold lateF; rw [HXK.out]; exact if_pos hk9)
        have HLS := hide (show lateS l = seenN sn0 (l.drop k) ((k : Int) + 1) by unfold lateS; rw [HLF.out, if_neg (by omega)]; simp)
        have d9 : (X.E.kind != 9) = false := by simpa using hk9
        have hkc : ¬ c = k := by omega
        have CA := hide (gives_lit (run_any w1 (some ⟨g, off + k * 16, none⟩) (c - k) (n - k) (l.drop k) ((k : Int) + 1) k (HL.out.drop (by omega)) (fun j Y h => by rw [List.getElem?_drop] at h; exact HX.out _ Y h) (by omega) (by omega) (by omega)))
        obtain ⟨z0, z1, z2, z3, z4⟩ := B1.out.cells5
        clear hk9
        go_wp2_with (go_at_call 16; refine CA.out.mono ?_; rintro e w3 ⟨A2, c2, A3, c3, A4, c4, ml, md, mo, mu, mh, rfl, hs3, hx3, hl, hd, ho, hu, hh⟩; have S3 := hide hs3; have X3 := hide hx3; have ML := hide hl; have MD := hide hd; have MO := hide ho; have MU := hide hu; have MH := hide hh; have B3 := hide (hx3.blk B1.out); have f0 := B3.out.frozen 0; have f1 := B3.out.frozen 1; have f2 := B3.out.frozen 2; have f3 := B3.out.frozen 3; have f4 := B3.out.frozen 4; have p0 := (hx3.cell (World.block_lt_of_cell? _ _ z0)).trans z0; have p1 := (hx3.cell (World.block_lt_of_cell? _ _ z1)).trans z1; have p2 := (hx3.cell (World.block_lt_of_cell? _ _ z2)).trans z2; have p3 := (hx3.cell (World.block_lt_of_cell? _ _ z3)).trans z3; have p4 := (hx3.cell (World.block_lt_of_cell? _ _ z4)).trans z4; clear hs3 hx3 hl hd ho hu hh z0 z1 z2 z3 z4)
        have Z6 := hide (B3.out.set5 (.slice A2 ml c2) (.slice A3 md c3) (.slice A4 mo c4) (.int .i64 mu) (.int .i64 mh))
        have T6 := hide (touch_set5 w3 sb (.slice A2 ml c2) (.slice A3 md c3) (.slice A4 mo c4) (.int .i64 mu) (.int .i64 mh))
        obtain ⟨w8, hw8⟩ : ∃ w8, w8 = ((((w3.setCell ⟨sb, 0, none⟩ (.slice A2 ml c2)).setCell ⟨sb, 1, none⟩ (.slice A3 md c3)).setCell ⟨sb, 2, none⟩ (.slice A4 mo c4)).setCell ⟨sb, 3, none⟩ (.int .i64 mu)).setCell ⟨sb, 4, none⟩ (.int .i64 mh) := ⟨_, rfl⟩
        rw [← hw8] at Z6 T6
        rw [← hw8]
        clear hw8 p0 p1 p2 p3 p4 f0 f1 f2 f3 f4
        obtain ⟨z0, z1, z2, z3, z4⟩ := Z6.out.cells5
        exact bodyPost_ret (v := .tuple #[.agg #[.slice A2 ml c2, .slice A3 md c3, .slice A4 mo c4, .int .i64 mu, .int .i64 mh], .int .i64 ((k : Int) + 1)]) (by simp [results, Try.results11, go_sem, z0, z1, z2, z3, z4]) rfl ⟨_, by rw [HLF.out]; rfl, ⟨A2, c2, A3, c3, A4, c4, by rw [HLS.out, ML.out, MD.out, MO.out, MU.out, MH.out]; rfl, by rw [HLS.out]; exact touch_ne T6.out B3.out (S3.out.base X1.out.size) rfl⟩, Touch.ext (X1.out.trans X3.out) T6.out (by rw [HSB.out]; exact Nat.le_refl _)⟩
      · have HLF := hide (lateF_no HXK.out hk9)
        have d9 : (X.E.kind != 9) = true := by simpa using hk9
        clear hk9
        go_wp2_with (fail)
        go_roundw
        case rel => exact ⟨k, by omega, by go_num, by trivial, hb.out.trans HLF.out⟩
        case measure => simp [intOf]
end Go.Proofs.Ytaijgnhkdbdfcaa
