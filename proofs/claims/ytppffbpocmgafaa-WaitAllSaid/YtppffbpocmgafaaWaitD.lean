/- Wait: contract: Gone. -/
import Derived.Test.YtppffbpocmgafaaWaitB
import Derived.Maps.RangeWalk
namespace Go.Proofs.Ytppffbpocmgafaa
open Go.ChangeShapes Go.WideShapes Go.ChangeAt Go.RowKit Go.Maps Go.ChangeMaps Go.MapKept
set_option linter.unusedVariables false

theorem del_nil (w : World) (t : TypeId) (x : Int) (hx : Wf x) : (Builtin.delete_ #[51, 3] t #[.map none, .int .i64 x]).run Try.prog w = .ok (.tuple #[]) w := by
  have hkey : IsKey (.int .i64) (.int .i64 x) := rfl
  simp [Builtin.delete_, run_underlying Try.underlying51, run_checkKey Try.underlying3 hkey, Result.andThen]
theorem ranges_touch {w w1 : World} {F : Nat → Prop} {H : Type} {P : Program} {k : TypeId} {R : Value → Option (DataW H × List MemPlace)} {b r n cnt : Nat} {D : DataW H} {left : Lit → Bool} (h : w.ranges P k R b r n D left cnt) (ht : Touch w w1 F) (hb : ¬ F b) (hr : ¬ F r) : w1.ranges P k R b r n D left cnt := by
  have h1 := h.owns.lt
  have h2 := h.lt
  obtain ⟨es, clock, since, seen, c0, hh, F', hs, hD, hr', rest⟩ := h
  exact ⟨es, clock, since, seen, c0, (ht.block b h1 hb).trans hh, F', hs, hD, (ht.block r h2 hr).trans hr', rest⟩
theorem ranges_set {w : World} {H : Type} {P : Program} {k : TypeId} {R : Value → Option (DataW H × List MemPlace)} {b r n cnt s c : Nat} {D : DataW H} {left : Lit → Bool} {S : Int → Bool} (h : w.ranges P k R b r n D left cnt) (hs : SetAt w s c S) : r ≠ s := by
  rintro rfl
  obtain ⟨D', ⟨es, clock, hh, _⟩, _⟩ := hs
  obtain ⟨es', clock', since, seen, c0, _, _, _, _, hr', _⟩ := h
  rw [hh] at hr'
  cases hr'
theorem ranges_blk {w : World} {H : Type} {P : Program} {k : TypeId} {R : Value → Option (DataW H × List MemPlace)} {b r n cnt g : Nat} {D : DataW H} {left : Lit → Bool} {t : TypeId} {cs : Array Value} (h : w.ranges P k R b r n D left cnt) (hs : Blk w g t cs) : g ≠ r := by
  rintro rfl
  obtain ⟨es', clock', since, seen, c0, _, _, _, _, hr', _⟩ := h
  unfold Blk at hs
  rw [hs] at hr'
  cases hr'
theorem key_same (x y : Int) : (K x).sameKey (K y) = decide (x = y) := by
  rw [Bool.eq_iff_iff]
  simp [Lit.sameKey, K]
/-- those who wait, when the sets that have come are without one -/
def goE (E : Int → Int → Bool) (left : Lit → Bool) (who : Int) : Int → Int → Bool := fun x y => if y = who ∧ left (K x) = false then false else E x y
def goneE (E : Int → Int → Bool) (who : Int) : Int → Int → Bool := fun x y => if x = who ∨ y = who then false else E x y
theorem goE_end (E : Int → Int → Bool) (who : Int) : goE (cutE E who) (fun _ => false) who = goneE E who := by
  funext x y
  unfold goE cutE goneE
  by_cases h1 : y = who <;> by_cases h2 : x = who <;> simp [h1, h2]
section
variable {w w1 w2 : World} {base g m N c b : Nat} {ks : List Int} {E : Int → Int → Bool} {f : Int → Option Nat} {x who : Int} {left : Lit → Bool}
theorem goE_nil (h : ∀ y, E x y = false) : goE E (fun z => left z && !z.sameKey (K x)) who = goE E left who := by
  funext z y
  unfold goE
  have hk := key_same z x
  simp only [hk]
  by_cases e : z = x
  · subst e
    simp [h]
  · simp [e]
theorem goE_cut : (fun z => if z = x then cut (goE E left who x) who else goE E left who z) = goE E (fun z => left z && !z.sameKey (K x)) who := by
  funext z y
  unfold goE cut
  have hk := key_same z x
  simp only [hk]
  by_cases e : z = x
  · subst e
    by_cases h1 : y = who <;> simp [h1]
  · simp [e]
theorem gr_turn (h : Gr w base g m N c ks E f) (hx : f x = some b) {s : Int → Bool} (hs : SetAt w2 b c s) (ht : Touch w w2 (fun k => k = b)) : Gr w2 base g m N c ks (fun z => if z = x then s else E z) f := by
  have hb := h.yes x b hx
  refine ⟨ht.blk h.blk (h.gb hx), h.out.touch ht (fun e => hb.2.2 e.symm), fun z hz y => ?_, fun z b' hz => ?_, h.inj, h.fin, h.hg, h.hm⟩
  · by_cases e : z = x
    · subst e; rw [hx] at hz; cases hz
    · simp only [if_neg e]
      exact h.no z hz y
  · by_cases e : z = x
    · subst e
      rw [hx] at hz
      injection hz with hz
      subst hz
      simp only [if_pos trivial]
      exact ⟨hs, hb.2⟩
    · simp only [if_neg e]
      have hz' := h.yes z b' hz
      exact ⟨hz'.1.touch ht (fun e' => e (h.inj z x b' hz (e' ▸ hx))), hz'.2⟩
end
structure Go1 (W w0 wr : World) (g m r N c cnt : Nat) (ks : List Int) (E : Int → Int → Bool) (f : Int → Option Nat) (who : Int) (D : DataW Unit) (left : Lit → Bool) : Prop where
  rg : wr.ranges Try.prog 3 code m r N D left cnt
  gr : Gr wr W.heap.size g m N c ks (goE E left who) f
  ext : Ext W wr
  cel : Cells w0 wr
  dat : ∀ x, D.atKey (K x) (codeOf none) = codeOf (f x)
  lo : W.heap.size ≤ r
section
variable {W w0 wr w1 w2 : World} {g m r N c b cnt cnt1 : Nat} {ks : List Int} {E : Int → Int → Bool} {f : Int → Option Nat} {x who : Int} {D : DataW Unit} {left : Lit → Bool}
theorem Go1.next (h : Go1 W w0 wr g m r N c cnt ks E f who D left) (hg : wr.grownBy w1 (some r)) (hr : w1.ranges Try.prog 3 code m r N D (fun z => left z && !z.sameKey (K x)) cnt1) :
    Gr w1 W.heap.size g m N c ks (goE E left who) f ∧ Ext W w1 ∧ Cells w0 w1 := by
  have ht : Touch wr w1 (fun k => k = r) := (Touch.refl wr _).grown hg (fun k e _ => by injection e with e; exact e.symm)
  have hb := h.rg
  refine ⟨⟨ht.blk h.gr.blk (ranges_blk hb h.gr.blk), h.gr.out.touch ht (fun e => hb.ne e.symm), h.gr.no, fun z b' hz => ?_, h.gr.inj, h.gr.fin, h.gr.hg, h.gr.hm⟩, Touch.ext h.ext ht h.lo, fun k t cs hk => ht.blk (h.cel k t cs hk) (ranges_blk hb (h.cel k t cs hk))⟩
  have hz' := h.gr.yes z b' hz
  exact ⟨hz'.1.touch ht (fun e => ranges_set hb hz'.1 e.symm), hz'.2⟩
theorem Go1.skip (h : Go1 W w0 wr g m r N c cnt ks E f who D left) (hg : wr.grownBy w1 (some r)) (hr : w1.ranges Try.prog 3 code m r N D (fun z => left z && !z.sameKey (K x)) cnt1) (hf : f x = none) (hE : ∀ y, E x y = false) :
    Go1 W w0 w1 g m r N c cnt1 ks E f who D (fun z => left z && !z.sameKey (K x)) := by
  obtain ⟨h1, h2, h3⟩ := h.next hg hr
  exact ⟨hr, by rw [goE_nil hE]; exact h1, h2, h3, h.dat, h.lo⟩
theorem Go1.turn (h : Go1 W w0 wr g m r N c cnt ks E f who D left) (hg : wr.grownBy w1 (some r)) (hr : w1.ranges Try.prog 3 code m r N D (fun z => left z && !z.sameKey (K x)) cnt1) (hf : f x = some b)
    (hs : SetAt w2 b c (cut (goE E left who x) who)) (ht : Touch w1 w2 (fun k => k = b)) :
    Go1 W w0 w2 g m r N c cnt1 ks E f who D (fun z => left z && !z.sameKey (K x)) := by
  obtain ⟨h1, h2, h3⟩ := h.next hg hr
  have hb := h1.yes x b hf
  refine ⟨ranges_touch hr ht (fun e => hb.2.2 e.symm) (fun e => ranges_set hr hb.1 e), ?_, Touch.ext h2 ht hb.2.1, fun k t cs hk => ht.blk (h3 k t cs hk) (fun e => ?_), h.dat, h.lo⟩
  · rw [← goE_cut]
    exact gr_turn h1 hf hs ht
  · obtain ⟨D', h', _⟩ := hb.1
    exact map_ne (h3 k t cs hk) (e ▸ h') rfl
end
set_option maxRecDepth 100000 in
set_option maxHeartbeats 2000000 in
theorem has_gone (W w : World) (g N c : Nat) (ks : List Int) (E : Int → Int → Bool) (who : Int) (h : Has W w g N c ks E) (hw : Wf who) :
    Calls Try.prog 14 #[.pointer (some ⟨g, 0, none⟩), .int .i64 who] w fun e w' => e = .returned (.tuple #[]) ∧ Has W w' g N c ks (goneE E who) ∧ Cells w w' := by
  obtain ⟨m, f0, hg0, hx0⟩ := h
  have HG0 := hide hg0
  have HX0 := hide hx0
  clear hg0 hx0
  go_enter Try.func14, Try.ntmps14
  go_wp2_with (fail)
  refine (clear_any _ g m N c ks E f0 who w HG0.out hw).mono ?_
  rintro e w1 ⟨rfl, hl⟩
  have hc0 := hl.cells HG0.out.out
  obtain ⟨f, hg1, ht1⟩ := hl
  have hx1 := Touch.ext HX0.out ht1 HG0.out.hm
  have HG1 := hide hg1
  have HX1 := hide hx1
  have HC := hide hc0
  have c0 := hg1.blk.cell 0
  simp at c0
  have hms : W.heap.size ≤ w1.heap.size := hx1.size
  obtain ⟨D, hown, hdat⟩ := hg1.out
  have HD := hide hdat
  have HO := hide hown
  clear hg1 hx1 hc0 ht1 hown hdat
  go_wp2_with (first
    | (at_range; refine wpList_range_own _ rfl _ 48 rfl 3 51 keyed3 Try.underlying48 code m N D rfl HO.out ?_; intro w2 hrg0 hgr0 hs0)
    | go_in)
  go_frame
  obtain ⟨r, hr⟩ : ∃ r, r = w1.heap.size := ⟨_, rfl⟩
  rw [← hr] at hrg0 hs0 ⊢
  have hst : Hid (Go1 W w w2 g m r N c (Maps.size D) ks (cutE E who) f who D (Maps.has D)) := by
    have ht : Touch w1 w2 (fun _ => False) := (Touch.refl w1 _).grown hgr0 (fun k e _ => by cases e)
    have he : Ext w1 w2 := Touch.below ht (Nat.le_refl _) (fun k hk => hk.elim)
    have hE : goE (cutE E who) (Maps.has D) who = cutE E who := by
      funext x y
      unfold goE
      by_cases hh : y = who ∧ Maps.has D (K x) = false
      · rw [if_pos hh]
        have hn : f x = none := by
          exact codeOf_inj ((HD.out x).symm.trans (atKey_of_not_has hh.2 _))
        exact (HG1.out.no x hn y).symm
      · rw [if_neg hh]
    exact ⟨hrg0, by rw [hE]; exact HG1.out.ext he, HX1.out.trans he, fun k t cs hk => he.blk (HC.out k t cs hk), HD.out, by omega⟩
  have hr2 : r < w2.heap.size := by omega
  clear hrg0 hgr0 hs0 hr
  go_loopw [5] (fun _ wr => ∃ left cnt, wr.rangeLeft m r = cnt ∧ Hid (Go1 W w wr g m r N c cnt ks (cutE E who) f who D left)) (fun _ wr => wr.rangeLeft m r)
  case atStart => exact ⟨_, _, hst.out.rg.left_eq, hst.out⟩
  case round =>
    obtain ⟨left, cnt, hcnt, hs⟩ := hrel
    go_wp2_with (first
      | (at_next; refine wpList_next_ranges _ rfl _ rfl 3 keyed3 code (Value.int .i64) Value.map (fun key kl hk => by obtain ⟨x, hx, _⟩ := Maps.keyOf_int_inv Try.underlying3 hk; exact ⟨x, hx⟩) (fun v y hv => by obtain ⟨o, ho, _⟩ := code_inv hv; exact ⟨o, ho⟩) m r N _ _ _ rfl hs.out.rg ?_ ?_)
      | go_in)
    · intro hc0 hl0
      have hfin : Hid (Has W wr g N c ks (goneE E who) ∧ Cells w wr) := by
        have : left = fun _ => false := funext hl0
        subst this
        have h1 := hs.out.gr
        rw [goE_end] at h1
        exact ⟨⟨m, f, h1, hs.out.ext⟩, hs.out.cel⟩
      clear hc0 hl0
      go_wp2
      go_end0
      exact ⟨rfl, hfin.out⟩
    · intro x o kl yd yp w3 cnt1 hkey hlk hv hat hrg1 hlt hg1 hs1 hen
      obtain ⟨x', ex, rfl, hxw⟩ := Maps.keyOf_int_inv Try.underlying3 hkey
      obtain rfl : x = x' := by injection ex
      obtain ⟨o', eo, hz⟩ := code_inv hv
      obtain rfl : o = o' := by injection eo
      injection hz with hz1 hz2
      have hfx : o = f x := codeOf_inj (by rw [← hz1, ← HD.out x]; exact (hat _).symm)
      have HRG := hide hrg1
      have HG3 := hide hg1
      have HW := hide hxw
      have HM := hide (show cnt1 < cnt from hlt)
      have HFX := hide hfx
      have HEN := hide hen
      clear hkey hlk hv hat hrg1 hlt hg1 hs1 hxw hz1 hz2 ex eo hfx hen
      have hen := HEN.out
      cases o with
      | none =>
        have hn1 := hide (hs.out.skip HG3.out HRG.out HFX.out.symm (fun y => HG1.out.no x HFX.out.symm y))
        have hdn : ∀ ww t, (Builtin.delete_ #[51, 3] t #[.map none, .int .i64 who]).run Try.prog ww = .ok (.tuple #[]) ww := fun ww t => del_nil ww t who hw
        go_wp2
        go_roundw
        case rel => exact ⟨_, _, hn1.out.rg.left_eq, hn1.out⟩
        case measure => rw [hn1.out.rg.left_eq, hs.out.rg.left_eq]; exact HM.out
      | some b =>
        have hset := hide ((hs.out.next HG3.out HRG.out).1.yes x b HFX.out.symm).1
        go_wp2_with (at_delete; refine SetAt.delete rfl _ _ rfl rfl hset.out who rfl hw ?_; intro w4 hs4 ht4)
        have hn1 := hide (hs.out.turn HG3.out HRG.out HFX.out.symm hs4 ht4)
        clear hs4 ht4
        go_frame
        go_roundw
        case rel => exact ⟨_, _, hn1.out.rg.left_eq, hn1.out⟩
        case measure => rw [hn1.out.rg.left_eq, hs.out.rg.left_eq]; exact HM.out
end Go.Proofs.Ytppffbpocmgafaa
