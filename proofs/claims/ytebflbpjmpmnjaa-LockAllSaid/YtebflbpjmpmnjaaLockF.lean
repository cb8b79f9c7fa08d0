/- Lock: contract: Free. -/
import Derived.Test.YtebflbpjmpmnjaaLockG
namespace Go.Proofs.Ytebflbpjmpmnjaa
open Go.ChangeShapes Go.WideShapes Go.ChangeAt Go.RowKit Go.Maps Go.ChangeMaps Go.MapKept
set_option linter.unusedVariables false

theorem ranges_touch {w w1 : World} {F : Nat → Prop} {H : Type} {P : Program} {k : TypeId} {R : Value → Option (DataW H × List MemPlace)} {b r n cnt : Nat} {D : DataW H} {left : Lit → Bool} (h : w.ranges P k R b r n D left cnt) (ht : Touch w w1 F) (hb : ¬ F b) (hr : ¬ F r) : w1.ranges P k R b r n D left cnt := by
  have h1 := h.owns.lt
  have h2 := h.lt
  obtain ⟨es, clock, since, seen, c0, hh, F', hs, hD, hr', rest⟩ := h
  exact ⟨es, clock, since, seen, c0, (ht.block b h1 hb).trans hh, F', hs, hD, (ht.block r h2 hr).trans hr', rest⟩
theorem ranges_set {w : World} {H : Type} {P : Program} {k : TypeId} {R : Value → Option (DataW H × List MemPlace)} {b r n cnt s c : Nat} {D : DataW H} {left : Lit → Bool} {S : Int → Int} (h : w.ranges P k R b r n D left cnt) (hs : InAt w s c S) : r ≠ s := by
  rintro rfl
  obtain ⟨D', ⟨es, clock, hh, _⟩, _⟩ := hs
  obtain ⟨es', clock', since, seen, c0, _, _, _, _, hr', _⟩ := h
  rw [hh] at hr'
  cases hr'
theorem ranges_blk {w : World} {H : Type} {P : Program} {k : TypeId} {R : Value → Option (DataW H × List MemPlace)} {b r n cnt g : Nat} {D : DataW H} {left : Lit → Bool} {t : TypeId} {cs : Array Value} (h : w.ranges P k R b r n D left cnt) (hs : Blk w g t cs) : g ≠ r := by
  rintro rfl
  obtain ⟨es', clock', since, seen, c0, _, _, _, _, hr', _⟩ := h
  unfold Blk at hs
  rw [hs] at hr'
  cases hr'
theorem keyS_same (x y : ByteArray) : (Sk x).sameKey (Sk y) = decide (x = y) := by
  rw [Bool.eq_iff_iff]
  simp only [decide_eq_true_eq]
  constructor
  · intro h
    have : Sk x = Sk y := by simpa [Lit.sameKey, Sk] using h
    exact Sk_inj this
  · rintro rfl
    simp [Lit.sameKey, Sk]
theorem keyS_inv {x : ByteArray} {kl : Lit} (h : keyOf Try.prog 9 (.string x) = some kl) : kl = Sk x ∧ Sz x := by
  simp [keyOf, Try.underlying9, mapKey] at h
  exact ⟨h.2.symm, h.1⟩
/-- who holds what, when the names that have come are without one -/
def frE (F : ByteArray → Int → Int) (left : Lit → Bool) (who : Int) : ByteArray → Int → Int := fun s y => if y = who ∧ left (Sk s) = false then 0 else F s y
def freeF (F : ByteArray → Int → Int) (who : Int) : ByteArray → Int → Int := fun s y => if y = who then 0 else F s y
theorem frE_end (F : ByteArray → Int → Int) (who : Int) : frE F (fun _ => false) who = freeF F who := by
  funext s y
  unfold frE freeF
  by_cases h1 : y = who <;> simp [h1]
theorem frE_md {F : ByteArray → Int → Int} (left : Lit → Bool) (who : Int) (h : ∀ s y, 0 ≤ F s y ∧ F s y ≤ 4) : ∀ s y, 0 ≤ frE F left who s y ∧ frE F left who s y ≤ 4 := fun s y => by
  unfold frE
  split
  · exact ⟨Int.le_refl _, by decide⟩
  · exact h s y
section
variable {w w1 w2 : World} {base g m N c b : Nat} {F : ByteArray → Int → Int} {f : ByteArray → Option Nat} {x : ByteArray} {who : Int} {left : Lit → Bool}
theorem frE_put : (fun z => if z = x then putI (frE F left who x) who 0 else frE F left who z) = frE F (fun z => left z && !z.sameKey (Sk x)) who := by
  funext z y
  unfold frE putI
  have hk := keyS_same z x
  simp only [hk]
  by_cases e : z = x
  · subst e
    by_cases h1 : y = who <;> simp [h1]
  · simp [e]
/-- one set has turned -/
theorem gr_turn (h : Gr w base g m N c F f) (hx : f x = some b) {s : Int → Int} (hs : InAt w2 b c s) (ht : Touch w w2 (fun k => k = b)) (hmd : ∀ y, 0 ≤ s y ∧ s y ≤ 4) (hwf : ∀ y, s y ≠ 0 → Wf y) : Gr w2 base g m N c (fun z => if z = x then s else F z) f := by
  have hb := h.yes x b hx
  refine ⟨ht.blk h.blk (h.gb hx), h.out.touch ht (fun e => hb.2.2 e.symm), fun z hz y => ?_, fun z b' hz => ?_, h.inj, fun z y => ?_, fun z y => ?_, h.hg, h.hm⟩
  · by_cases e : z = x
    · subst e; rw [hx] at hz; cases hz
    · simp only [if_neg e]
      exact h.no z hz y
  · by_cases e : z = x
    · subst e
      rw [hx] at hz
      injection hz with hz
      subst hz
      simp only [if_pos trivial]
      exact ⟨hs, hb.2⟩
    · simp only [if_neg e]
      have hz' := h.yes z b' hz
      exact ⟨hz'.1.touch ht (fun e' => e (h.inj z x b' hz (e' ▸ hx))), hz'.2⟩
  · by_cases e : z = x
    · simp only [if_pos e]; exact hmd y
    · simp only [if_neg e]; exact h.md z y
  · by_cases e : z = x
    · simp only [if_pos e]; exact hwf y
    · simp only [if_neg e]; exact h.wf z y
/-- an empty set is struck -/
theorem gr_strike (h : Gr w base g m N c F f) (h0 : ∀ y, F x y = 0) (ho : OutAt w2 m N (putO f x none)) (ht : Touch w w2 (fun k => k = m)) : Gr w2 base g m N c F (putO f x none) := by
  refine ⟨ht.blk h.blk h.gm, ho, fun z hz y => ?_, fun z b' hz => ?_, fun z y b' hz hy => ?_, h.md, h.wf, h.hg, h.hm⟩
  · unfold putO at hz
    by_cases e : z = x
    · rw [e]; exact h0 y
    · rw [if_neg e] at hz; exact h.no z hz y
  · unfold putO at hz
    by_cases e : z = x
    · rw [if_pos e] at hz; cases hz
    · rw [if_neg e] at hz
      have := h.yes z b' hz
      exact ⟨this.1.touch ht this.2.2, this.2⟩
  · unfold putO at hz hy
    by_cases e : z = x
    · rw [if_pos e] at hz; cases hz
    · by_cases e' : y = x
      · rw [if_pos e'] at hy; cases hy
      · rw [if_neg e] at hz
        rw [if_neg e'] at hy
        exact h.inj z y b' hz hy
end
structure Fr1 (W w0 wr : World) (g m r N c cnt : Nat) (F : ByteArray → Int → Int) (f : ByteArray → Option Nat) (who : Int) (D : DataW Unit) (left : Lit → Bool) : Prop where
  rg : wr.ranges Try.prog 9 code m r N D left cnt
  gr : Gr wr W.heap.size g m N c (frE F left who) f
  ext : Ext W wr
  cel : Cells w0 wr
  dat : ∀ x, Maps.has D (Sk x) = (f x).isSome ∧ D.atKey (Sk x) (codeOf none) = codeOf (f x)
  lo : W.heap.size ≤ r
section
variable {W w0 wr w1 w2 w3 : World} {g m r N c b cnt cnt1 cnt2 : Nat} {F : ByteArray → Int → Int} {f : ByteArray → Option Nat} {x : ByteArray} {who : Int} {D : DataW Unit} {left : Lit → Bool}
theorem Fr1.next (h : Fr1 W w0 wr g m r N c cnt F f who D left) (hg : wr.grownBy w1 (some r)) (hr : w1.ranges Try.prog 9 code m r N D (fun z => left z && !z.sameKey (Sk x)) cnt1) :
    Gr w1 W.heap.size g m N c (frE F left who) f ∧ Ext W w1 ∧ Cells w0 w1 := by
  have ht : Touch wr w1 (fun k => k = r) := (Touch.refl wr _).grown hg (fun k e _ => by injection e with e; exact e.symm)
  have hb := h.rg
  refine ⟨{ h.gr with blk := ht.blk h.gr.blk (ranges_blk hb h.gr.blk), out := h.gr.out.touch ht (fun e => hb.ne e.symm), yes := fun z b' hz => ?_ }, Touch.ext h.ext ht h.lo, fun k t cs hk => ht.blk (h.cel k t cs hk) (ranges_blk hb (h.cel k t cs hk))⟩
  have hz' := h.gr.yes z b' hz
  exact ⟨hz'.1.touch ht (fun e => ranges_set hb hz'.1 e.symm), hz'.2⟩
/-- the one's own is struck out of a set -/
theorem Fr1.turn (h : Fr1 W w0 wr g m r N c cnt F f who D left) (hg : wr.grownBy w1 (some r)) (hr : w1.ranges Try.prog 9 code m r N D (fun z => left z && !z.sameKey (Sk x)) cnt1) (hf : f x = some b)
    (hs : InAt w2 b c (putI (frE F left who x) who 0)) (ht : Touch w1 w2 (fun k => k = b)) :
    Fr1 W w0 w2 g m r N c cnt1 F f who D (fun z => left z && !z.sameKey (Sk x)) := by
  obtain ⟨h1, h2, h3⟩ := h.next hg hr
  have hb := h1.yes x b hf
  refine ⟨ranges_touch hr ht (fun e => hb.2.2 e.symm) (fun e => ranges_set hr hb.1 e), ?_, Touch.ext h2 ht hb.2.1, fun k t cs hk => ht.blk (h3 k t cs hk) (fun e => ?_), h.dat, h.lo⟩
  · rw [← frE_put]
    refine gr_turn h1 hf hs ht (fun y => ?_) (fun y => ?_)
    · unfold putI
      split
      · exact ⟨Int.le_refl _, by decide⟩
      · exact h1.md x y
    · unfold putI
      split
      · intro h; exact absurd rfl h
      · exact h1.wf x y
  · obtain ⟨D', h', _⟩ := hb.1
    exact map_ne (h3 k t cs hk) (e ▸ h') rfl
theorem Fr1.strike (h : Fr1 W w0 w2 g m r N c cnt1 F f who D (fun z => left z && !z.sameKey (Sk x))) (h0 : ∀ y, frE F (fun z => left z && !z.sameKey (Sk x)) who x y = 0)
    (hr : w3.ranges Try.prog 9 code m r N (D.del (Sk x)) (fun z => (left z && !z.sameKey (Sk x)) && !z.sameKey (Sk x)) cnt2) (ht : w2.mapTurned w3 m) :
    Fr1 W w0 w3 g m r N c cnt2 F (putO f x none) who (D.del (Sk x)) (fun z => left z && !z.sameKey (Sk x)) := by
  have t3 : Touch w2 w3 (fun k => k = m) := (Touch.refl w2 _).grown ht.grown (fun k e _ => by injection e with e; exact e.symm)
  have e1 : (fun z : Lit => (left z && !z.sameKey (Sk x)) && !z.sameKey (Sk x)) = fun z => left z && !z.sameKey (Sk x) := by
    funext z; cases left z <;> cases z.sameKey (Sk x) <;> rfl
  rw [e1] at hr
  have ho : OutD w3 m N (D.del (Sk x)) (putO f x none) := OutD.del (w := w2) ⟨h.rg.owns, h.dat⟩ x hr.owns
  refine ⟨hr, gr_strike h.gr h0 ⟨_, ho⟩ t3, Touch.ext h.ext t3 h.gr.hm, fun k t cs hk => t3.blk (h.cel k t cs hk) (fun e => ?_), ho.2, h.lo⟩
  exact map_ne (h.cel k t cs hk) (e ▸ h.rg.owns) rfl
end
set_option maxRecDepth 100000 in
set_option maxHeartbeats 2000000 in
theorem has_free (W w : World) (g N c : Nat) (F : ByteArray → Int → Int) (who : Int) (h : Has W w g N c F) (hw : Wf who) :
    Calls Try.prog 13 #[.pointer (some ⟨g, 0, none⟩), .int .i64 who] w fun e w' => e = .returned (.tuple #[]) ∧ Has W w' g N c (freeF F who) ∧ Cells w w' := by
  obtain ⟨m, f0, hg1, hx1⟩ := h
  have c0 := hg1.blk.cell 0
  simp at c0
  have hms : W.heap.size ≤ w.heap.size := hx1.size
  have HG1 := hide hg1
  have HX1 := hide hx1
  obtain ⟨D0, hown, hdat⟩ := hg1.out
  have HD := hide hdat
  have HO := hide hown
  clear hg1 hx1 hown hdat
  go_enter Try.func13, Try.ntmps13
  go_wp2_with (first
    | (at_range; refine wpList_range_own _ rfl _ 49 rfl 9 52 keyed9 Try.underlying49 code m N D0 rfl HO.out ?_; intro w2 hrg0 hgr0 hs0)
    | go_in)
  go_frame
  obtain ⟨r, hr⟩ : ∃ r, r = w.heap.size := ⟨_, rfl⟩
  rw [← hr] at hrg0 hs0 ⊢
  have hst : Hid (Fr1 W w w2 g m r N c (Maps.size D0) F f0 who D0 (Maps.has D0)) := by
    have ht : Touch w w2 (fun _ => False) := (Touch.refl w _).grown hgr0 (fun k e _ => by cases e)
    have he : Ext w w2 := Touch.below ht (Nat.le_refl _) (fun k hk => hk.elim)
    have hE : frE F (Maps.has D0) who = F := by
      funext s y
      unfold frE
      by_cases hh : y = who ∧ Maps.has D0 (Sk s) = false
      · rw [if_pos hh]
        have hn : f0 s = none := by
          have := (HD.out s).1
          rw [hh.2] at this
          cases hfs : f0 s with
          | none => rfl
          | some b => rw [hfs] at this; cases this
        exact (HG1.out.no s hn y).symm
      · rw [if_neg hh]
    exact ⟨hrg0, by rw [hE]; exact HG1.out.ext he, HX1.out.trans he, Cells.of_ext he, HD.out, by omega⟩
  have hr2 : r < w2.heap.size := by omega
  clear hrg0 hgr0 hs0 hr
  go_loopw [4, 5] (fun _ _ wr => ∃ left cnt f D, wr.rangeLeft m r = cnt ∧ Hid (Fr1 W w wr g m r N c cnt F f who D left)) (fun _ _ wr => wr.rangeLeft m r)
  case atStart => exact ⟨_, _, _, _, hst.out.rg.left_eq, hst.out⟩
  case round =>
    obtain ⟨left, cnt, f, D, hcnt, hs⟩ := hrel
    go_wp2_with (first
      | (at_next; refine wpList_next_ranges _ rfl _ rfl 9 keyed9 code Value.string Value.map (fun key kl hk => Maps.keyOf_string_inv Try.underlying9 hk) (fun v y hv => by obtain ⟨o, ho, _⟩ := code_inv hv; exact ⟨o, ho⟩) m r N _ _ _ rfl hs.out.rg ?_ ?_)
      | go_in)
    · intro hc0 hl0
      have hfin : Hid (Has W wr g N c (freeF F who) ∧ Cells w wr) := by
        have : left = fun _ => false := funext hl0
        subst this
        have h1 := hs.out.gr
        rw [frE_end] at h1
        exact ⟨⟨m, f, h1, hs.out.ext⟩, hs.out.cel⟩
      clear hc0 hl0
      go_wp2
      go_end0
      exact ⟨rfl, hfin.out⟩
    · intro x o kl yd yp w3 cnt1 hkey hlk hv hat hrg1 hlt hg1 hs1 hen
      obtain ⟨rfl, hxz⟩ := keyS_inv hkey
      obtain ⟨o', eo, hz⟩ := code_inv hv
      obtain rfl : o = o' := by injection eo
      injection hz with hz1 hz2
      have hfx : o = f x := codeOf_inj (by rw [← hz1, ← (hs.out.dat x).2]; exact (hat _).symm)
      have hhas : (f x).isSome = true := by rw [← (hs.out.dat x).1]; exact Maps.has_true_of_atKey hat
      obtain ⟨b, hb⟩ : ∃ b, o = some b := by
        rw [← hfx] at hhas
        cases o with
        | none => cases hhas
        | some b => exact ⟨b, rfl⟩
      subst hb
      have HRG := hide hrg1
      have HG3 := hide hg1
      have HM := hide (show cnt1 < cnt from hlt)
      have HFX := hide hfx.symm
      have HXZ := hide hxz
      have hset := hide ((hs.out.next hg1 hrg1).1.yes x b hfx.symm).1
      have hg3 := hide (hs.out.next hg1 hrg1).1
      clear hkey hlk hv hat hrg1 hlt hg1 hs1 hz1 hz2 eo hfx hhas hxz
      go_wp2_with (first
        | (at_delete; refine InAt.delete rfl _ _ rfl rfl hset.out who rfl hw ?_; intro w4 hs4 ht4; have S4 := hide hs4; have hn1 := hide (hs.out.turn HG3.out HRG.out HFX.out hs4 ht4); have c4 := hn1.out.gr.blk.cell 0; simp at c4; clear hs4 ht4)
        | (at_len; refine InAt.len rfl _ rfl rfl S4.out ?_; intro q hq; have HQ := hide hq; clear hq S4)
        | (at_delete; refine wpList_delete_ranges _ rfl _ _ 49 9 rfl 52 keyed9 Try.underlying49 code m r N D _ cnt1 rfl hn1.out.rg _ (Sk x) rfl (keyS_at HXZ.out) ?_; intro w5 cnt5 hr5 hc5 ht5; have HR5 := hide hr5; have HT5 := hide ht5; have hm5 : cnt5 ≤ cnt1 := hc5; clear hr5 hc5 ht5))
      · have hz := hide (HQ.out.1 (by have h := ‹((q : Int) == 0) = true›; simpa using h))
        have hn2 := hide (hn1.out.strike (by intro y; have := hz.out y; rw [← frE_put (F := F) (left := left)]; simpa using this) HR5.out HT5.out)
        clear HR5 HT5
        go_frame
        go_roundw
        case rel => exact ⟨_, _, _, _, hn2.out.rg.left_eq, hn2.out⟩
        case measure => rw [hn2.out.rg.left_eq, hs.out.rg.left_eq]; exact Nat.lt_of_le_of_lt hm5 HM.out
      · go_roundw
        case rel => exact ⟨_, _, _, _, hn1.out.rg.left_eq, hn1.out⟩
        case measure => rw [hn1.out.rg.left_eq, hs.out.rg.left_eq]; exact HM.out
end Go.Proofs.Ytebflbpjmpmnjaa
