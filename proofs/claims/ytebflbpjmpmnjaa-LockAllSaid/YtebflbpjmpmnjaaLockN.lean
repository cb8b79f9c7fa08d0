/- Lock: contract: Locks. -/
import Derived.Test.YtebflbpjmpmnjaaLockF
import Derived.Sort.OwnSorted
namespace Go.Proofs.Ytebflbpjmpmnjaa
open Go.ChangeShapes Go.WideShapes Go.ChangeAt Go.RowKit Go.Maps Go.ChangeMaps Go.MapKept Go.Sort
set_option linter.unusedVariables false

theorem Try.info9' : (Try.prog.info? 9).map (fun i => (i.zero, i.size, i.bytes)) = some (some (.string .empty), 1, 16) := by kernel_rfl
def sv (l : List (List UInt8)) : List Value := l.map encStr
def bt (l : List UInt8) : ByteArray := ⟨l.toArray⟩
theorem bt_data (l : List UInt8) : (bt l).data.toList = l := by simp [bt]
theorem bt_of (s : ByteArray) : bt s.data.toList = s := by cases s; simp [bt]
theorem sv_one (l : List (List UInt8)) : ∀ u ∈ sv l, u.oneCell' = true := by
  intro u hu
  obtain ⟨b, _, rfl⟩ := List.mem_map.1 hu
  rfl
/-- a list of names, none twice, in order -/
def RisesS (l : List (List UInt8)) : Prop := l.Pairwise (fun x y => decide (x ≤ y) = true) ∧ l.Nodup
/-- the names where one holds something, in order, in new memory -/
def GivesNames (w : World) (n : Nat) (F : ByteArray → Int → Int) (who : Int) (e : Ending) (w' : World) : Prop :=
  ∃ v L, e = .returned v ∧ RisesS L ∧ (∀ l, l ∈ L ↔ F (bt l) who ≠ 0) ∧ L.length ≤ n ∧ w'.ownsRow w.heap.size 9 1 v L.length (sv L) ∧ Ext w w'
theorem le_tr (a b c : List UInt8) : decide (a ≤ b) = true → decide (b ≤ c) = true → decide (a ≤ c) = true := fun h1 h2 => by
  simp only [decide_eq_true_eq] at *
  exact List.le_trans h1 h2
theorem le_to (a b : List UInt8) : (decide (a ≤ b) || decide (b ≤ a)) = true := by
  simp only [Bool.or_eq_true, decide_eq_true_eq]
  exact List.le_total a b
theorem risesS_sorted {ss : List (List UInt8)} (hn : ss.Nodup) : RisesS (ss.mergeSort (fun x y => decide (x ≤ y))) :=
  ⟨List.pairwise_mergeSort le_tr le_to ss, (List.mergeSort_perm ss _).nodup_iff.2 hn⟩
theorem risesS_same {L M : List (List UInt8)} (hL : RisesS L) (hM : RisesS M) (h : ∀ x, x ∈ L ↔ x ∈ M) : L = M := by
  refine List.Perm.eq_of_pairwise (le := fun a b => decide (a ≤ b) = true) (fun a b _ _ h1 h2 => ?_) hL.1 hM.1 ?_
  · simp only [decide_eq_true_eq] at h1 h2
    exact List.le_antisymm h1 h2
  · exact (List.perm_ext_iff_of_nodup hL.2 hM.2).2 h
/-- slices.Sort of a list of one's own -/
theorem sort_own (B n : Nat) (v : Value) (L : List (List UInt8)) (w : World) (h : w.ownsRow B 9 1 v n (sv L)) (hl : L.length = n) (hn : n ≤ 1048576) :
    Calls Try.prog 30 #[v] w fun e w' => e = .returned (.tuple #[]) ∧ w'.ownsRow B 9 1 v n (sv (L.mergeSort fun x y => decide (x ≤ y))) ∧ w.grownBy w' v.ownBlock := by
  subst hl
  rcases h.2 with ⟨rfl, hz⟩ | ⟨gb, cap, cur, rfl, hbase, hgb, r1, r2, r3, r4⟩
  · have hss : L = [] := List.eq_nil_of_length_eq_zero hz
    subst hss
    refine (AnyM.slices_Sort_string_none Try.sortS none 0 w).mono ?_
    rintro e w' ⟨rfl, rfl⟩
    exact ⟨rfl, by simpa using h, World.grownBy.refl _ _⟩
  · have hH : Holds encStr w gb 0 L.toArray := holds_of_block hgb (by simpa [sv] using r4)
    have hgl : gb < w.heap.size := (Array.getElem?_eq_some_iff.1 hgb).1
    refine (AnyM.slices_Sort_string Try.sortS gb 0 cap L w hH hgl (by omega)).mono ?_
    rintro e w' ⟨rfl, nn, os, rfl⟩
    exact ⟨rfl, ownsRow_sorted (by simp) hbase hgb r1 r2 r3, grownBy_sorted _⟩
structure Lk (W w wr : World) (g m r N cnt : Nat) (F : ByteArray → Int → Int) (f : ByteArray → Option Nat) (c : Nat) (who : Int) (D : DataW Unit) (left : Lit → Bool) (v : Value) (L : List (List UInt8)) : Prop where
  rg : wr.ranges Try.prog 9 code m r N D left cnt
  gr : Gr wr W.heap.size g m N c F f
  ext : Ext w wr
  lo : w.heap.size ≤ r
  own : wr.ownsRow w.heap.size 9 1 v L.length (sv L)
  mem : ∀ l, l ∈ L ↔ F (bt l) who ≠ 0 ∧ left (Sk (bt l)) = false
  nd : L.Nodup
  le : L.length + cnt ≤ N
section
variable {W w wr w1 w2 : World} {g m r N c b cnt cnt1 : Nat} {F : ByteArray → Int → Int} {f : ByteArray → Option Nat} {x : ByteArray} {who : Int} {D : DataW Unit} {left : Lit → Bool} {v v2 : Value} {L : List (List UInt8)}
theorem row_map {H : Type} {P : Program} {k : TypeId} {R : Value → Option (DataW H × List MemPlace)} {base e m n nn b : Nat} {D : DataW H} {v : Value} {xs : List Value} (h : w.ownsRow base e m v n xs) (h' : w.ownsMap P k R b nn D) : v.ownBlock ≠ some b := by
  rcases h.2 with ⟨rfl, _⟩ | ⟨g', cap, cur, rfl, _, hh, _⟩
  · simp [Value.ownBlock]
  · intro he
    have : g' = b := by simpa [Value.ownBlock] using he
    subst this
    obtain ⟨es, clock, hh', _⟩ := h'
    rw [hh] at hh'
    cases hh'
theorem row_iter {H : Type} {P : Program} {k : TypeId} {R : Value → Option (DataW H × List MemPlace)} {base e m n nn b r cnt : Nat} {D : DataW H} {left : Lit → Bool} {v : Value} {xs : List Value} (h : w.ownsRow base e m v n xs) (h' : w.ranges P k R b r nn D left cnt) : v.ownBlock ≠ some r := by
  rcases h.2 with ⟨rfl, _⟩ | ⟨g', cap, cur, rfl, _, hh, _⟩
  · simp [Value.ownBlock]
  · intro he
    have : g' = r := by simpa [Value.ownBlock] using he
    subst this
    obtain ⟨es', clock', since, seen, c0, _, _, _, _, hr', _⟩ := h'
    rw [hh] at hr'
    cases hr'
/-- the iterator has gone on; the name is none of the one's -/
theorem Lk.next (h : Lk W w wr g m r N cnt F f c who D left v L) (hg : wr.grownBy w1 (some r)) (hr : w1.ranges Try.prog 9 code m r N D (fun z => left z && !z.sameKey (Sk x)) cnt1) (hc : cnt1 < cnt) :
    Gr w1 W.heap.size g m N c F f ∧ Ext w w1 ∧ w1.ownsRow w.heap.size 9 1 v L.length (sv L) := by
  have ht : Touch wr w1 (fun k => k = r) := (Touch.refl wr _).grown hg (fun k e _ => by injection e with e; exact e.symm)
  have hb := h.rg
  refine ⟨{ h.gr with blk := ht.blk h.gr.blk (ranges_blk hb h.gr.blk), out := h.gr.out.touch ht (fun e => hb.ne e.symm), yes := fun z b' hz => ?_ }, Touch.ext h.ext ht h.lo, ownsRow_touch ht h.own (fun k hk e => row_iter h.own hb (by rw [hk, e]))⟩
  have hz' := h.gr.yes z b' hz
  exact ⟨hz'.1.touch ht (fun e => ranges_set hb hz'.1 e.symm), hz'.2⟩
theorem Lk.skip (h : Lk W w wr g m r N cnt F f c who D left v L) (hg : wr.grownBy w1 (some r)) (hr : w1.ranges Try.prog 9 code m r N D (fun z => left z && !z.sameKey (Sk x)) cnt1) (hc : cnt1 < cnt) (h0 : F x who = 0) :
    Lk W w w1 g m r N cnt1 F f c who D (fun z => left z && !z.sameKey (Sk x)) v L := by
  obtain ⟨h1, h2, h3⟩ := h.next hg hr hc
  refine ⟨hr, h1, h2, h.lo, h3, fun l => ?_, h.nd, by have := h.le; omega⟩
  rw [h.mem l]
  have hk := keyS_same (bt l) x
  by_cases e : bt l = x
  · rw [e, h0]; simp
  · simp only [hk]
    simp [e]
theorem Lk.take (h : Lk W w wr g m r N cnt F f c who D left v L) (hl : left (Sk x) = true) (hg : wr.grownBy w1 (some r)) (hr : w1.ranges Try.prog 9 code m r N D (fun z => left z && !z.sameKey (Sk x)) cnt1) (hc : cnt1 < cnt) (h0 : F x who ≠ 0)
    {o : Obj} (ho : w2.ownsRow w.heap.size 9 1 v2 (L.length + 1) (sv L ++ [Value.string x])) (hw : (w1.alloc o).grownBy w2 v.ownBlock) :
    Lk W w w2 g m r N cnt1 F f c who D (fun z => left z && !z.sameKey (Sk x)) v2 (L ++ [x.data.toList]) := by
  obtain ⟨h1, h2, h3⟩ := h.next hg hr hc
  have t1 : Touch w1 w2 (fun k => v.ownBlock = some k) := ((Touch.refl w1 _).alloc o).grown hw (fun k e _ => e)
  have hown : ∀ k, v.ownBlock = some k → w.heap.size ≤ k := fun k hk => (h3.lt k hk).1
  refine ⟨ranges_touch hr t1 (row_map h3 hr.owns) (row_iter h3 hr), ?_, ?_, h.lo, ?_, fun l => ?_, ?_, by have := h.le; simp; omega⟩
  · refine { h1 with blk := t1.blk h1.blk (fun e => own_blk_ne h3 h1.blk (by decide) e), out := ?_, yes := fun z b' hz => ?_ }
    · obtain ⟨D', h', _⟩ := h1.out
      exact h1.out.touch t1 (row_map h3 h')
    · have hz' := h1.yes z b' hz
      obtain ⟨D', h', _⟩ := hz'.1
      exact ⟨hz'.1.touch t1 (row_map h3 h'), hz'.2⟩
  · exact Below.trans h2 (t1.below h2.size hown)
  · rw [List.length_append]
    simpa [sv, encStr, bt] using ho
  · rw [List.mem_append, h.mem l, List.mem_singleton]
    have hk := keyS_same (bt l) x
    simp only [hk]
    by_cases e : bt l = x
    · have e' : l = x.data.toList := by rw [← e, bt_data]
      rw [e]
      simp [e', h0, hl]
    · have e' : l ≠ x.data.toList := fun e2 => e (by rw [e2, bt_of])
      simp [e, e']
  · rw [List.nodup_append]
    refine ⟨h.nd, by simp, fun a ha b hb e => ?_⟩
    simp at hb
    subst hb
    subst e
    have := (h.mem _).1 ha
    rw [bt_of] at this
    rw [hl] at this
    exact absurd this.2 (by simp)
end
set_option maxRecDepth 100000 in
set_option maxHeartbeats 2000000 in
theorem has_locks (W w : World) (g N c : Nat) (F : ByteArray → Int → Int) (who : Int) (h : Has W w g N c F) (hw : Wf who) (hN : N ≤ 1048576) :
    Calls Try.prog 18 #[.pointer (some ⟨g, 0, none⟩), .int .i64 who] w (GivesNames w N F who) := by
  obtain ⟨i0, hi0, iz0, iz1, iz2⟩ := info_parts Try.info9'
  obtain ⟨m, f, hg1, hx1⟩ := h
  have c0 := hg1.blk.cell 0
  simp at c0
  have HG1 := hide hg1
  obtain ⟨D, hown, hdat⟩ := hg1.out
  have HD := hide hdat
  have HO := hide hown
  clear hg1 hx1 hown hdat
  go_enter Try.func18, Try.ntmps18
  go_wp2_with (first
    | (at_range; refine wpList_range_own _ rfl _ 49 rfl 9 52 keyed9 Try.underlying49 code m N D rfl HO.out ?_; intro w2 hrg0 hgr0 hs0)
    | go_in)
  go_frame
  obtain ⟨r, hr⟩ : ∃ r, r = w.heap.size := ⟨_, rfl⟩
  rw [← hr] at hrg0 hs0 ⊢
  have hst : Hid (Lk W w w2 g m r N (Maps.size D) F f c who D (Maps.has D) (.slice none 0 0) []) := by
    have ht : Touch w w2 (fun _ => False) := (Touch.refl w _).grown hgr0 (fun k e _ => by cases e)
    have he : Ext w w2 := Touch.below ht (Nat.le_refl _) (fun k hk => hk.elim)
    refine ⟨hrg0, HG1.out.ext he, he, by omega, World.ownsRow_nil _ _ _ _, fun l => ?_, List.nodup_nil, by simpa using HO.out.size_le⟩
    simp
    intro hne
    rw [(HD.out (bt l)).1]
    cases hf : f (bt l) with
    | none => exact absurd (HG1.out.no _ hf who) hne
    | some b => rfl
  have hr2 : r < w2.heap.size := by omega
  clear hrg0 hgr0 hs0 hr
  go_loopw [5, 6, 7, 8, 9] (fun s5 _ _ _ _ wr => ∃ left cnt L, wr.rangeLeft m r = cnt ∧ Hid (Lk W w wr g m r N cnt F f c who D left s5 L)) (fun _ _ _ _ _ wr => wr.rangeLeft m r)
  case atStart => exact ⟨_, _, _, hst.out.rg.left_eq, hst.out⟩
  case round =>
    obtain ⟨left, cnt, L, hcnt, hs⟩ := hrel
    obtain ⟨A5, c5, hv5, _⟩ := own_form hs.out.own
    subst hv5
    obtain ⟨nL, hnL⟩ : ∃ nL, nL = L.length := ⟨_, rfl⟩
    have HNL := hide hnL
    rw [← hnL] at hs ⊢
    clear hnL
    go_wp2_with (first
      | (at_next; refine wpList_next_ranges _ rfl _ rfl 9 keyed9 code Value.string Value.map (fun key kl hk => Maps.keyOf_string_inv Try.underlying9 hk) (fun v y hv => by obtain ⟨o, ho, _⟩ := code_inv hv; exact ⟨o, ho⟩) m r N _ _ _ rfl hs.out.rg ?_ ?_)
      | go_in)
    · intro hc0 hl0
      have hfin : Hid ((∀ l, l ∈ L ↔ F (bt l) who ≠ 0) ∧ L.length ≤ N ∧ L.Nodup ∧ Ext w wr) := by
        refine ⟨fun l => ?_, by have := hs.out.le; omega, hs.out.nd, hs.out.ext⟩
        rw [hs.out.mem l, hl0]
        simp
      have hown5 := hide (show wr.ownsRow w.heap.size 9 1 (.slice A5 nL c5) nL (sv L) by have := hs.out.own; rw [← HNL.out] at this; exact this)
      have hNL : nL ≤ N := by rw [HNL.out]; exact hfin.out.2.1
      clear hc0 hl0
      go_wp2_with (go_at_call 30; refine (sort_own w.heap.size nL _ L _ hown5.out HNL.out.symm (by omega)).mono ?_; rintro e w9 ⟨rfl, ho9, hg9⟩)
      go_ret
      refine ⟨_, L.mergeSort fun x y => decide (x ≤ y), rfl, risesS_sorted hfin.out.2.2.1, fun l => ?_, ?_, ?_, ?_⟩
      · rw [List.mem_mergeSort]; exact hfin.out.1 l
      · rw [List.length_mergeSort]; exact hfin.out.2.1
      · rw [List.length_mergeSort, ← HNL.out]; exact ho9
      · exact Ext.grown hfin.out.2.2.2 hg9 (fun k hk => (hown5.out.lt k hk).1)
    · intro x o kl yd yp w3 cnt1 hkey hlk hv hat hrg1 hlt hg1 hs1 hen
      obtain ⟨rfl, hxz⟩ := keyS_inv hkey
      obtain ⟨o', eo, hz⟩ := code_inv hv
      obtain rfl : o = o' := by injection eo
      injection hz with hz1 hz2
      have hfx : o = f x := codeOf_inj (by rw [← hz1, ← (HD.out x).2]; exact (hat _).symm)
      have hhas : (f x).isSome = true := by rw [← (HD.out x).1]; exact Maps.has_true_of_atKey hat
      obtain ⟨b, hb⟩ : ∃ b, o = some b := by
        rw [← hfx] at hhas
        cases o with
        | none => cases hhas
        | some b => exact ⟨b, rfl⟩
      subst hb
      have HRG := hide hrg1
      have HG3 := hide hg1
      have HM := hide (show cnt1 < cnt from hlt)
      have HLK := hide hlk
      have HXZ := hide hxz
      have hnx := hs.out.next hg1 hrg1 hlt
      have hlo := ((hnx.1.yes x b hfx.symm).1).look_ok hw
      have own1 := hide (show (w3.alloc (.cells #[.string x] 9)).ownsRow w.heap.size 9 1 (.slice A5 nL c5) nL (sv L) by have := hnx.2.2.alloc (.cells #[.string x] 9); rw [← HNL.out] at this; exact this)
      have news := hide (reads_blk (m := 1) (Blk.new w3 9 #[.string x]) rfl)
      have hxz3 := hide hnx.2.1.size
      have hNL : nL ≤ N := by rw [HNL.out]; have := hs.out.le; omega
      clear hkey hlk hv hat hrg1 hlt hg1 hs1 hz1 hz2 eo hfx hhas hxz hnx
      by_cases h0 : F x who = 0
      · rw [h0] at hlo
        have hn1 := hide (hs.out.skip HG3.out HRG.out HM.out h0)
        clear h0
        go_wp2
        go_roundw
        case rel => exact ⟨_, _, _, hn1.out.rg.left_eq, hn1.out⟩
        case measure => rw [hn1.out.rg.left_eq, hs.out.rg.left_eq]; exact HM.out
      · have hd : decide (F x who ≠ 0) = true := by simpa using h0
        rw [hd] at hlo
        have H0 := hide h0
        clear h0 hd
        go_wp2_with (at_builtin; refine wpList_append_any _ rfl (.tmp 29) (.tmp 31) _ rfl w.heap.size 9 i0 _ 1 16 Try.underlying41 hi0 iz0 iz1 iz2 rfl (by omega) (.slice A5 nL c5) nL (sv L) rfl own1.out _ _ 1 1 [.string x] rfl news.out (by simp [Value.oneCell']) (by unfold maxLen; omega) (by omega) (by have := hxz3.out; simp; omega) ?_; intro v4 w4 ho4 hg4 hat4)
        have hn1 := hide (Lk.take hs.out HLK.out HG3.out HRG.out HM.out H0.out (by rw [HNL.out] at ho4; exact ho4) hg4)
        clear ho4 hg4 hat4
        go_wp2
        go_roundw
        case rel => exact ⟨_, _, _, hn1.out.rg.left_eq, hn1.out⟩
        case measure => rw [hn1.out.rg.left_eq, hs.out.rg.left_eq]; exact HM.out
end Go.Proofs.Ytebflbpjmpmnjaa
