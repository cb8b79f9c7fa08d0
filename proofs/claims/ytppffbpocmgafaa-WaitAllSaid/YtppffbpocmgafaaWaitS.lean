/- Wait: the reference graph in memory: Clear, Gone. -/
import Derived.Test.YtppffbpocmgafaaWaitD
namespace Go.Proofs.Ytppffbpocmgafaa
open Go.ChangeShapes Go.WideShapes Go.ChangeAt Go.RowKit Go.Maps
set_option linter.unusedVariables false

theorem info56 : (Try.prog.info? 56).map (fun i => (i.zero, i.size, i.bytes)) = some (some (.agg #[.int .i64 0, .int .i64 0]), 2, 16) := by kernel_rfl
def fl (el : List (Int × Int)) : List Value := el.flatMap fun p => [.int .i64 p.1, .int .i64 p.2]
theorem fl_app (a b : List (Int × Int)) : fl (a ++ b) = fl a ++ fl b := by simp [fl]
theorem fl_one : ∀ (el : List (Int × Int)), ∀ u ∈ fl el, u.oneCell' = true := by
  intro el u hu
  obtain ⟨p, _, hp⟩ := List.mem_flatMap.1 hu
  simp at hp
  rcases hp with rfl | rfl <;> rfl
theorem fl_at : ∀ (el : List (Int × Int)) (k : Nat) (p : Int × Int), el[k]? = some p → (fl el)[k * 2]? = some (.int .i64 p.1) ∧ (fl el)[k * 2 + 1]? = some (.int .i64 p.2)
  | [], _, _, h => by simp at h
  | q :: r, 0, p, h => by
    simp at h
    subst h
    exact ⟨rfl, rfl⟩
  | q :: r, k + 1, p, h => by
    have ih := fl_at r k p (by simpa using h)
    have e : fl (q :: r) = .int .i64 q.1 :: .int .i64 q.2 :: fl r := rfl
    rw [e, show (k + 1) * 2 = k * 2 + 1 + 1 by omega]
    exact ⟨by simpa using ih.1, by simpa using ih.2⟩
/-- the reference: its struct in block r, its edges in a row of its own -/
def Rf (w : World) (base r : Nat) (el : List (Int × Int)) : Prop := ∃ v, Blk w r 43 #[v] ∧ w.ownsRow base 56 2 v el.length (fl el) ∧ base ≤ r
theorem Rf.ext {w w' : World} {base r : Nat} {el : List (Int × Int)} (h : Rf w base r el) (he : Ext w w') : Rf w' base r el := by
  obtain ⟨v, h1, h2, h3⟩ := h
  exact ⟨v, he.blk h1, he.own h2, h3⟩
def keep (P : Int × Int → Bool) (el : List (Int × Int)) (k : Nat) : List (Int × Int) := (el.take k).filter P
theorem keep_succ {P : Int × Int → Bool} {el : List (Int × Int)} {k : Nat} {p : Int × Int} (h : el[k]? = some p) : keep P el (k + 1) = keep P el k ++ (if P p then [p] else []) := by
  unfold keep
  rw [List.take_add_one, h, List.filter_append]
  cases hP : P p <;> simp [hP]
theorem keep_le (P : Int × Int → Bool) (el : List (Int × Int)) (k : Nat) : (keep P el k).length ≤ k := by
  unfold keep
  exact Nat.le_trans (List.length_filter_le _ _) (by simp; omega)
theorem keep_all (P : Int × Int → Bool) (el : List (Int × Int)) : keep P el el.length = el.filter P := by unfold keep; rw [List.take_length]
structure Rk (w wr : World) (P : Int × Int → Bool) (el : List (Int × Int)) (v : Value) (k : Nat) : Prop where
  own : wr.ownsRow w.heap.size 56 2 v (keep P el k).length (fl (keep P el k))
  ext : Ext w wr
theorem Rk.skip {w wr : World} {P : Int × Int → Bool} {el : List (Int × Int)} {v : Value} {k : Nat} {p : Int × Int} (h : Rk w wr P el v k) (hp : el[k]? = some p) (hP : P p = false) : Rk w wr P el v (k + 1) := by
  have : keep P el (k + 1) = keep P el k := by rw [keep_succ hp, hP]; simp
  exact ⟨by rw [this]; exact h.own, h.ext⟩
theorem Rk.take {w wr w2 : World} {P : Int × Int → Bool} {el : List (Int × Int)} {v v' : Value} {k : Nat} {x y : Int} {cs : Array Value} {t : TypeId} (h : Rk w wr P el v k) (hp : el[k]? = some (x, y)) (hP : P (x, y) = true)
    (ho : w2.ownsRow w.heap.size 56 2 v' ((keep P el k).length + 1) (fl (keep P el k) ++ [.int .i64 x, .int .i64 y])) (hg : (wr.alloc (.cells cs t)).grownBy w2 v.ownBlock) : Rk w w2 P el v' (k + 1) := by
  have : keep P el (k + 1) = keep P el k ++ [(x, y)] := by rw [keep_succ hp, hP]; simp
  refine ⟨by rw [this, fl_app]; simpa [fl] using ho, Ext.grown (h.ext.alloc _) hg (fun z hz => (h.own.lt z hz).1)⟩
theorem rf_put {w wr : World} {base r : Nat} {el el' : List (Int × Int)} {v : Value} (h : Rf w base r el) (ho : wr.ownsRow w.heap.size 56 2 v el'.length (fl el')) (he : Ext w wr) (hb : base ≤ w.heap.size) : Rf (wr.setCell ⟨r, 0, none⟩ v) base r el' ∧ Touch w (wr.setCell ⟨r, 0, none⟩ v) (fun x => x = r) := by
  obtain ⟨v0, h1, h2, h3⟩ := h
  have hlt := h1.lt
  refine ⟨⟨v, ?_, ?_, h3⟩, Touch.setCell (F := fun x => x = r) (p := ⟨r, 0, none⟩) (Touch.of_below he (fun x => x = r)) (fun _ => rfl) v⟩
  · have := (he.blk h1).set_ 0 v
    simpa using this
  · refine own_far (p := ⟨r, 0, none⟩) (World.ownsRow.mono ho hb) (fun e => ?_) v
    have := (ho.lt r e).1
    omega
set_option maxRecDepth 100000 in
set_option maxHeartbeats 4000000 in
theorem rclear_any (base r : Nat) (el : List (Int × Int)) (who : Int) (w : World) (h : Rf w base r el) (hb : base ≤ w.heap.size) (hl : el.length ≤ 100000) :
    Calls Try.prog 13 #[.pointer (some ⟨r, 0, none⟩), .int .i64 who] w fun e w' => e = .returned (.tuple #[]) ∧ Rf w' base r (el.filter fun p => p.1 != who) ∧ Touch w w' (fun x => x = r) := by
  obtain ⟨i0, hi0, iz0, iz1, iz2⟩ := info_parts info56
  have HF := hide h
  obtain ⟨v, h1, h2, h3⟩ := h
  obtain ⟨n, hn⟩ : ∃ n, n = el.length := ⟨_, rfl⟩
  rw [← hn] at h2 hl
  obtain ⟨A, c, hv, hA, _⟩ := own_form h2
  subst hv
  have HB := hide h1
  have HO := hide h2
  have HN := hide hn
  have ff := h1.frozen 0
  clear h1 h2 hn hA
  go_enter Try.func13, Try.ntmps13
  go_wp2_with (fail)
  go_loopw [4, 5] (fun s4 s5 wr => (∃ k : Nat, k ≤ n ∧ s5 = .int .i64 k ∧ Hid (Rk w wr (fun p => p.1 != who) el s4 k))) (fun _ s5 _ => (n - intOf s5).toNat)
  case atStart => exact ⟨0, by omega, rfl, World.ownsRow_nil _ _ _ _, Ext.refl _⟩
  case round =>
    obtain ⟨k, hk, rfl, hs⟩ := hrel
    have c0 := (hs.out.ext.blk HB.out).cell 0
    simp at c0
    by_cases hlt : k < n
    · obtain ⟨b, cap, hve, _, hbl⟩ := HO.out.form (by omega)
      have hAe : A = some ⟨b, 0, none⟩ := by injection hve
      subst hAe
      have hkl : k < el.length := by have := HN.out; omega
      obtain ⟨x, y, hp⟩ : ∃ x y, el[k]? = some (x, y) := ⟨_, _, List.getElem?_eq_getElem hkl⟩
      have g0 : wr.cell? ⟨b, k * 2, none⟩ = some (.int .i64 x) := by
        have := (hs.out.ext.own HO.out).cells (g := b) rfl (k * 2) _ (fl_at el k _ hp).1
        have e : (⟨b, 0, none⟩ : Addr).add (k * 2) = ⟨b, k * 2, none⟩ := by unfold Addr.add; split <;> simp_all
        rwa [e] at this
      have g1 : wr.cell? ⟨b, k * 2 + 1, none⟩ = some (.int .i64 y) := by
        have := (hs.out.ext.own HO.out).cells (g := b) rfl (k * 2 + 1) _ (fl_at el k _ hp).2
        have e : (⟨b, 0, none⟩ : Addr).add (k * 2 + 1) = ⟨b, k * 2 + 1, none⟩ := by unfold Addr.add; split <;> simp_all
        rwa [e] at this
      have HP := hide hp
      clear hp hkl hve
      by_cases hx : x = who
      · have hn1 := hide (hs.out.skip HP.out (by simp [hx]))
        have e0 : (x != who) = false := by simp [hx]
        clear hx hs
        go_wp2
        go_roundw
        case rel => exact ⟨k + 1, by omega, by go_num, hn1.out⟩
        case measure => simp [intOf]; omega
      · have e0 : (x != who) = true := by simp [hx]
        have HE := hide e0
        obtain ⟨q, hq⟩ : ∃ q, q = (keep (fun p : Int × Int => p.1 != who) el k).length := ⟨_, rfl⟩
        have hqk : q ≤ k := by rw [hq]; exact keep_le _ _ _
        have HQ := hide hq
        have own1 := hide (show (wr.alloc (.cells #[.int .i64 x, .int .i64 y] 56)).ownsRow w.heap.size 56 2 u4 q (fl (keep (fun p => p.1 != who) el k)) by rw [hq]; exact hs.out.own.alloc _)
        have news := hide (reads_blk (m := 2) (Blk.new wr 56 #[.int .i64 x, .int .i64 y]) rfl)
        have hz : w.heap.size ≤ wr.heap.size := hs.out.ext.size
        clear hx hq
        go_wp2_with (at_builtin; refine wpList_append_any _ rfl (.tmp 25) (.tmp 33) _ rfl w.heap.size 56 i0 _ 2 16 Try.underlying41 hi0 iz0 iz1 iz2 rfl (by omega) u4 q (fl (keep (fun p => p.1 != who) el k)) rfl own1.out _ _ 1 1 [.int .i64 x, .int .i64 y] rfl news.out (by simp [Value.oneCell']) (by unfold maxLen; omega) (by omega) (by simp; omega) ?_; intro v4 w4 ho4 hg4 hat4)
        have hn1 := hide (hs.out.take HP.out HE.out (by rw [← HQ.out]; exact ho4) hg4)
        clear ho4 hg4 hat4 hs
        go_wp2
        go_roundw
        case rel => exact ⟨k + 1, by omega, by go_num, hn1.out⟩
        case measure => simp [intOf]; omega
    · obtain rfl : k = n := by omega
      have hf := (hs.out.ext.blk HB.out).frozen 0
      have hfin := hide (fun v (ho : wr.ownsRow w.heap.size 56 2 v _ _) => rf_put (el' := el.filter fun p => p.1 != who) HF.out ho hs.out.ext hb)
      have hk2 : Hid (keep (fun p : Int × Int => p.1 != who) el k = el.filter fun p => p.1 != who) := by rw [show k = el.length from HN.out]; exact keep_all _ _
      have ho := hs.out.own
      rw [hk2.out] at ho
      obtain ⟨Av, cv, hvv, _⟩ := own_form ho
      subst hvv
      have HS := hide ho
      clear hs ff ho
      go_wp2_with (fail)
      go_end0
      exact ⟨rfl, hfin.out _ HS.out⟩
set_option maxRecDepth 100000 in
set_option maxHeartbeats 4000000 in
theorem rgone_any (base r : Nat) (el : List (Int × Int)) (who : Int) (w : World) (h : Rf w base r el) (hb : base ≤ w.heap.size) (hl0 : el.length ≤ 100000) :
    Calls Try.prog 15 #[.pointer (some ⟨r, 0, none⟩), .int .i64 who] w fun e w' => e = .returned (.tuple #[]) ∧ Rf w' base r ((el.filter fun p => p.1 != who).filter fun p => p.2 != who) ∧ Touch w w' (fun x => x = r) := by
  obtain ⟨i0, hi0, iz0, iz1, iz2⟩ := info_parts info56
  go_enter Try.func15, Try.ntmps15
  go_wp2_with (fail)
  refine (rclear_any base r el who w h hb hl0).mono ?_
  rintro e w1 ⟨rfl, hr1, ht1⟩
  obtain ⟨el1, hel⟩ : ∃ el1, el1 = el.filter fun p => p.1 != who := ⟨_, rfl⟩
  have hl : el1.length ≤ 100000 := by rw [hel]; exact Nat.le_trans (List.length_filter_le _ _) hl0
  rw [← hel] at hr1
  have HEL := hide hel
  have HF := hide hr1
  have T1 := hide ht1
  have hb1 : base ≤ w1.heap.size := Nat.le_trans hb ht1.size
  obtain ⟨v, h1, h2, h3⟩ := hr1
  clear ht1 hel h
  obtain ⟨n, hn⟩ : ∃ n, n = el1.length := ⟨_, rfl⟩
  rw [← hn] at h2 hl
  obtain ⟨A, c, hv, hA, _⟩ := own_form h2
  subst hv
  have HB := hide h1
  have HO := hide h2
  have HN := hide hn
  have ff := h1.frozen 0
  clear h1 h2 hn hA
  go_wp2_with (fail)
  go_loopw [4, 5] (fun s4 s5 wr => (∃ k : Nat, k ≤ n ∧ s5 = .int .i64 k ∧ Hid (Rk w1 wr (fun p => p.2 != who) el1 s4 k))) (fun _ s5 _ => (n - intOf s5).toNat)
  case atStart => exact ⟨0, by omega, rfl, World.ownsRow_nil _ _ _ _, Ext.refl _⟩
  case round =>
    obtain ⟨k, hk, rfl, hs⟩ := hrel
    have c0 := (hs.out.ext.blk HB.out).cell 0
    simp at c0
    by_cases hlt : k < n
    · obtain ⟨b, cap, hve, _, hbl⟩ := HO.out.form (by omega)
      have hAe : A = some ⟨b, 0, none⟩ := by injection hve
      subst hAe
      have hkl : k < el1.length := by have := HN.out; omega
      obtain ⟨x, y, hp⟩ : ∃ x y, el1[k]? = some (x, y) := ⟨_, _, List.getElem?_eq_getElem hkl⟩
      have g0 : wr.cell? ⟨b, k * 2, none⟩ = some (.int .i64 x) := by
        have := (hs.out.ext.own HO.out).cells (g := b) rfl (k * 2) _ (fl_at el1 k _ hp).1
        have e : (⟨b, 0, none⟩ : Addr).add (k * 2) = ⟨b, k * 2, none⟩ := by unfold Addr.add; split <;> simp_all
        rwa [e] at this
      have g1 : wr.cell? ⟨b, k * 2 + 1, none⟩ = some (.int .i64 y) := by
        have := (hs.out.ext.own HO.out).cells (g := b) rfl (k * 2 + 1) _ (fl_at el1 k _ hp).2
        have e : (⟨b, 0, none⟩ : Addr).add (k * 2 + 1) = ⟨b, k * 2 + 1, none⟩ := by unfold Addr.add; split <;> simp_all
        rwa [e] at this
      have HP := hide hp
      clear hp hkl hve
      by_cases hx : y = who
      · have hn1 := hide (hs.out.skip HP.out (by simp [hx]))
        have e0 : (y != who) = false := by simp [hx]
        clear hx hs
        go_wp2
        go_roundw
        case rel => exact ⟨k + 1, by omega, by go_num, hn1.out⟩
        case measure => simp [intOf]; omega
      · have e0 : (y != who) = true := by simp [hx]
        have HE := hide e0
        obtain ⟨q, hq⟩ : ∃ q, q = (keep (fun p : Int × Int => p.2 != who) el1 k).length := ⟨_, rfl⟩
        have hqk : q ≤ k := by rw [hq]; exact keep_le _ _ _
        have HQ := hide hq
        have own1 := hide (show (wr.alloc (.cells #[.int .i64 x, .int .i64 y] 56)).ownsRow w1.heap.size 56 2 u4 q (fl (keep (fun p => p.2 != who) el1 k)) by rw [hq]; exact hs.out.own.alloc _)
        have news := hide (reads_blk (m := 2) (Blk.new wr 56 #[.int .i64 x, .int .i64 y]) rfl)
        have hz : w1.heap.size ≤ wr.heap.size := hs.out.ext.size
        clear hx hq
        go_wp2_with (at_builtin; refine wpList_append_any _ rfl (.tmp 28) (.tmp 36) _ rfl w1.heap.size 56 i0 _ 2 16 Try.underlying41 hi0 iz0 iz1 iz2 rfl (by omega) u4 q (fl (keep (fun p => p.2 != who) el1 k)) rfl own1.out _ _ 1 1 [.int .i64 x, .int .i64 y] rfl news.out (by simp [Value.oneCell']) (by unfold maxLen; omega) (by omega) (by simp; omega) ?_; intro v4 w4 ho4 hg4 hat4)
        have hn1 := hide (hs.out.take HP.out HE.out (by rw [← HQ.out]; exact ho4) hg4)
        clear ho4 hg4 hat4 hs
        go_wp2
        go_roundw
        case rel => exact ⟨k + 1, by omega, by go_num, hn1.out⟩
        case measure => simp [intOf]; omega
    · obtain rfl : k = n := by omega
      have hf := (hs.out.ext.blk HB.out).frozen 0
      have hfin := hide (fun v (ho : wr.ownsRow w1.heap.size 56 2 v _ _) => rf_put (el' := el1.filter fun p => p.2 != who) HF.out ho hs.out.ext hb1)
      have hk2 : Hid (keep (fun p : Int × Int => p.2 != who) el1 k = el1.filter fun p => p.2 != who) := by rw [show k = el1.length from HN.out]; exact keep_all _ _
      have ho := hs.out.own
      rw [hk2.out] at ho
      obtain ⟨Av, cv, hvv, _⟩ := own_form ho
      subst hvv
      have HS := hide ho
      clear hs ff ho
      go_wp2_with (fail)
      go_end0
      exact ⟨rfl, by rw [← HEL.out]; exact (hfin.out _ HS.out).1, T1.out.trans (hfin.out _ HS.out).2 (fun _ _ h => h)⟩
end Go.Proofs.Ytppffbpocmgafaa
