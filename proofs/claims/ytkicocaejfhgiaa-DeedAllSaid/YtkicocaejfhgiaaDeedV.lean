/- Deed: the reference's Back. -/
import Derived.Test.YtkicocaejfhgiaaDeedU
namespace Go.Proofs.Ytkicocaejfhgiaa
open Go.ChangeShapes Go.WideShapes Go.ChangeAt Go.RowKit
set_option linter.unusedVariables false

def bcut (b : Nat → Bool) (t : Nat → Int) (h : Int) : Nat → Bool := fun i => if t i > h then false else b i
def bpart (b : Nat → Bool) (t : Nat → Int) (h : Int) (k i : Nat) : Bool := if i < k then bcut b t h i else b i
theorem bpart_0 {b : Nat → Bool} {t : Nat → Int} {h : Int} {i : Nat} : bpart b t h 0 i = b i := by simp [bpart]
theorem bpart_keep {b : Nat → Bool} {t : Nat → Int} {h : Int} {k : Nat} (hk : b k = false ∨ ¬ t k > h) (i : Nat) : bpart b t h (k + 1) i = bpart b t h k i := by
  unfold bpart bcut
  by_cases hi : i = k
  · subst hi
    rcases hk with h1 | h1 <;> simp [h1]
  · by_cases h1 : i < k
    · rw [if_pos h1, if_pos (by omega)]
    · rw [if_neg h1, if_neg (by omega)]
theorem bpart_off {b : Nat → Bool} {t : Nat → Int} {h : Int} {k : Nat} (hk : t k > h) : bpart b t h (k + 1) k = false := by simp [bpart, bcut, hk]
theorem bpart_ne {b : Nat → Bool} {t : Nat → Int} {h : Int} {k i : Nat} (hi : i ≠ k) : bpart b t h (k + 1) i = bpart b t h k i := by
  unfold bpart
  by_cases h1 : i < k
  · rw [if_pos h1, if_pos (by omega)]
  · rw [if_neg h1, if_neg (by omega)]
theorem rback_no (g : Nat) (n : Int) (w : World) (hn : ¬ (0 ≤ n ∧ n < 4)) :
    Calls Try.prog 11 #[.pointer (some ⟨g, 0, none⟩), .int .i64 n] w fun e w' => e = .returned (.tuple #[.slice none 0 0, .bool false]) ∧ w = w' := by
  by_cases h0 : n < 0
  · clear hn
    go_enter Try.func11, Try.ntmps11
    go_wp2
    go_ret2
    exact ⟨rfl, rfl⟩
  · have h1 : 4 ≤ n := by omega
    clear hn
    go_enter Try.func11, Try.ntmps11
    go_wp2
    go_ret2
    exact ⟨rfl, rfl⟩
theorem rback_none (base g : Nat) (v : Value) (l : List Int) (t : Nat → Int) (b : Nat → Bool) (n : Nat) (w : World) (hs : Ref w base g v l t b) (hn : n < 4) (hb : b n = false) :
    Calls Try.prog 11 #[.pointer (some ⟨g, 0, none⟩), .int .i64 n] w fun e w' => e = .returned (.tuple #[.slice none 0 0, .bool false]) ∧ w = w' := by
  have c1 := ref_b hs.blk hn
  rw [hb] at c1
  have hlt := hs.blk.lt
  clear hs hb
  go_enter Try.func11, Try.ntmps11
  go_wp2
  go_ret2
  exact ⟨rfl, rfl⟩
theorem down_at (A : Option Addr) (c n : Nat) (l : List Int) (w : World) (hn : l.length = n) (hr : Reads w w.heap.size 1 A n (iv l)) (hl : n ≤ 1048576) :
    Calls Try.prog 20 #[.slice A n c] w (GivesInts w l.reverse) := by
  subst hn
  exact down_any A c l w hr hl
def RGivesBack (base g : Nat) (v : Value) (l : List Int) (t : Nat → Int) (b : Nat → Bool) (h : Nat) (w : World) (e : Ending) (w' : World) : Prop :=
  ∃ u, e = .returned (.tuple #[u, .bool true]) ∧ w'.ownsRow w.heap.size 3 1 u (l.length - h) (iv (l.drop h).reverse) ∧ RLeaves w base g v (l.take h) t (bcut b t h) w'
/-- what lies behind the append -/
structure Mid (w w1 w2 : World) (g : Nat) (v2 : Value) (l : List Int) (h : Nat) (t : Nat → Int) (b : Nat → Bool) : Prop where
  t2 : Touch w w2 (fun k => k = g)
  o2 : w2.ownsRow w.heap.size 3 1 v2 h (iv (l.take h))
  keep : ∀ u m xs, w1.ownsRow w.heap.size 3 1 u m xs → w2.ownsRow w.heap.size 3 1 u m xs
theorem mid_of {w w1 w2 : World} {g : Nat} {v2 : Value} {l : List Int} {h : Nat} {t : Nat → Int} {b : Nat → Bool} (hb : Below w.heap.size w w1) (h2 : w2.ownsRow w1.heap.size 3 1 v2 h (iv (l.take h)))
    (hg2 : (w1.alloc (.cells #[] 3)).grownBy w2 (Value.slice (some ⟨w1.heap.size, 0, none⟩) 0 0).ownBlock) : Mid w w1 w2 g v2 l h t b := by
  have hz := hb.size
  have t12 : Touch w1 w2 (fun _ => False) := ((Touch.refl w1 _).alloc _).grown hg2 (fun k hk hlt => by simp [Value.ownBlock] at hk; omega)
  exact ⟨(Touch.of_below hb (fun k => k = g)).trans t12 (fun _ _ h => h.elim), ownsRow_base h2 hz, fun u m xs h => ownsRow_touch t12 h (fun _ _ h => h)⟩
theorem rgives_back {base g : Nat} {v v2 : Value} {u : Value} {l : List Int} {t : Nat → Int} {b : Nat → Bool} {h : Nat} {w w1 w2 wr : World} (hs : Ref w base g v l t b) (hhl : h ≤ l.length) (hbase : base ≤ w.heap.size)
    (hm : Mid w w1 w2 g v2 l h t b) (hu : w1.ownsRow w.heap.size 3 1 u (l.length - h) (iv (l.drop h).reverse))
    (hblk : Blk wr g 31 #[v2, .int .i64 (t 0), .int .i64 (t 1), .int .i64 (t 2), .int .i64 (t 3), .bool (bpart b t h 4 0), .bool (bpart b t h 4 1), .bool (bpart b t h 4 2), .bool (bpart b t h 4 3)]) (ht : Touch w2 wr (fun k => k = g)) :
    RGivesBack base g v l t b h w (.returned (.tuple #[u, .bool true])) wr := by
  have hg := hs.blk.lt
  have hu2 := hm.keep _ _ _ hu
  refine ⟨u, rfl, ownsRow_touch ht hu2 (fun k hk e => by have := (hu2.lt k hk).1; omega), v2, ⟨hblk, ?_, hs.hb, hs.lo, fun i hi => ?_⟩, hm.t2.trans ht (fun _ _ h => h), .inr fun k hk => (hm.o2.lt k hk).1⟩
  · have := ownsRow_touch ht hm.o2 (fun k hk e => by have := (hm.o2.lt k hk).1; omega)
    rw [List.length_take, Nat.min_eq_left hhl]
    exact ownsRow_base this hbase
  · rw [List.length_take, Nat.min_eq_left hhl]
    unfold bcut at hi
    by_cases h1 : t i > h
    · simp [h1] at hi
    · omega
theorem bset {wr : World} {g k : Nat} {x : Value} {t : Nat → Int} {b : Nat → Bool} {h : Int}
    (hb : Blk (wr.setCell ⟨g, 5 + k, none⟩ (.bool false)) g 31 (#[x, .int .i64 (t 0), .int .i64 (t 1), .int .i64 (t 2), .int .i64 (t 3), .bool (bpart b t h k 0), .bool (bpart b t h k 1), .bool (bpart b t h k 2), .bool (bpart b t h k 3)].setIfInBounds (5 + k) (.bool false)))
    (hk : k < 4) (hgt : h < t k) : Blk (wr.setCell ⟨g, 5 + k, none⟩ (.bool false)) g 31 #[x, .int .i64 (t 0), .int .i64 (t 1), .int .i64 (t 2), .int .i64 (t 3), .bool (bpart b t h (k + 1) 0), .bool (bpart b t h (k + 1) 1), .bool (bpart b t h (k + 1) 2), .bool (bpart b t h (k + 1) 3)] := by
  have hoff := bpart_off (b := b) hgt
  have hne : ∀ i, i ≠ k → bpart b t h (k + 1) i = bpart b t h k i := fun i hi => bpart_ne hi
  have h4 : k = 0 ∨ k = 1 ∨ k = 2 ∨ k = 3 := by omega
  rcases h4 with rfl | rfl | rfl | rfl
  · rw [hoff, hne 1 (by decide), hne 2 (by decide), hne 3 (by decide)]; exact hb
  · rw [hoff, hne 0 (by decide), hne 2 (by decide), hne 3 (by decide)]; exact hb
  · rw [hoff, hne 0 (by decide), hne 1 (by decide), hne 3 (by decide)]; exact hb
  · rw [hoff, hne 0 (by decide), hne 1 (by decide), hne 2 (by decide)]; exact hb
set_option maxRecDepth 100000 in
set_option maxHeartbeats 8000000 in
theorem rback_yes (base g : Nat) (v : Value) (l : List Int) (t : Nat → Int) (b : Nat → Bool) (n h : Nat) (w : World) (hs : Ref w base g v l t b) (hn : n < 4) (hbn : b n = true) (hh : t n = h) (hl : l.length ≤ 1048576) (hbase : base ≤ w.heap.size) :
    Calls Try.prog 11 #[.pointer (some ⟨g, 0, none⟩), .int .i64 n] w (RGivesBack base g v l t b h w) := by
  obtain ⟨i0, hi0, hz0, hz1, hz2⟩ := info_parts Try.info3'
  obtain ⟨A, c, hv, hlc, hcm, hAn⟩ := hs.form
  subst hv
  have hhl : h ≤ l.length := by have := hs.hi n hbn; omega
  have hr : Reads w w.heap.size 1 A l.length (iv l) := Reads.of_own hs.own
  have hcut := hide (hr.cut (k := h) (cap := c) hhl hlc)
  have HRT : Hid (Reads w w.heap.size 1 A h (iv (l.take h))) := Reads.of_own (own_take hs.own hhl)
  have c0 := hs.blk.cell 0
  have c1 := ref_t hs.blk hn
  have c2 := ref_b hs.blk hn
  have ff := hs.blk.frozen
  have hlt := hs.blk.lt
  rw [hh] at c1
  rw [hbn] at c2
  simp at c0
  have HS := hide hs
  unfold maxLen at hcm
  clear hs hr hh hbn
  by_cases hch : c = h
  · have hR0 : Reads w w.heap.size 1 A (l.length - h) (iv (l.drop h)) := by
      have := hcut.out
      rw [if_pos hch] at this
      simpa [iv, List.map_drop] using this
    subst c
    rw [show l.length - h = 0 by omega] at hR0
    have hR0 := hide hR0
    clear hcut
    go_enter Try.func11, Try.ntmps11
    go_wp2_with (fail)
    refine (down_at _ _ 0 (l.drop h) _ (by simp; omega) hR0.out (by omega)).mono ?_
    rintro e w1 ⟨u, rfl, hu, hb⟩
    have HU := hide hu
    obtain ⟨Au, cu, rfl⟩ := own_form hu
    have HB := hide hb
    have hz : w.heap.size ≤ w1.heap.size := hb.size
    have k1 := HS.out.blk.below hb hlt
    have K1 := hide k1
    have d0 := k1.cell 0
    have hlt1 := k1.lt
    simp at d0
    rw [List.length_reverse, List.length_drop] at HU
    have hr2 : Hid (Reads (w1.alloc (.cells #[] 3)) w1.heap.size 1 A h (iv (l.take h))) := ((HRT.out.below hb).more (B' := w1.heap.size) hz).alloc (Nat.le_refl _) _
    have hown : Hid ((w1.alloc (.cells #[] 3)).ownsRow w1.heap.size 3 1 (.slice (some ⟨w1.heap.size, 0, none⟩) 0 0) 0 []) := World.ownsRow_made w1 #[] 0 (Nat.le_refl _) (Nat.zero_le _) rfl
    clear hu hb k1 c0 c1 c2 ff
    go_wp2_with (at_builtin; refine wpList_append_any _ rfl (.tmp 38) (.tmp 44) _ rfl w1.heap.size 3 i0 _ 1 8 Try.underlying27 hi0 hz0 hz1 hz2 rfl (by omega) (.slice (some ⟨w1.heap.size, 0, none⟩) 0 0) 0 [] rfl hown.out w1.heap.size A h h (iv (l.take h)) rfl hr2.out (iv_one _) (by simp only [maxLen]; omega) (by omega) (by simp) ?_; intro v2 w2 hown2 hg2 hat2; rw [Nat.zero_add, List.nil_append] at hown2; have HM := hide (mid_of (g := g) (t := t) (b := b) HB.out hown2 hg2); have k2 := (K1.out.alloc (.cells #[] 3)).grown hg2 (by simp [Value.ownBlock]; omega); have K2 := hide k2; have e0 := k2.cell 0; have fg := k2.frozen; simp at e0; obtain ⟨A2, c9, hv⟩ := own_form hown2; rw [hv]; rw [hv] at HM; clear hown2 hg2 hat2 hv k2 d0)
    go_loopw [8] (fun i wr => ∃ k : Nat, k ≤ 4 ∧ i = .int .i64 k ∧ Blk wr g 31 #[.slice A2 h c9, .int .i64 (t 0), .int .i64 (t 1), .int .i64 (t 2), .int .i64 (t 3), .bool (bpart b t h k 0), .bool (bpart b t h k 1), .bool (bpart b t h k 2), .bool (bpart b t h k 3)] ∧ Touch w2 wr (fun b => b = g)) (fun i _ => (4 - intOf i).toNat)
    case atStart =>
      refine ⟨0, by omega, rfl, ?_, Touch.setCell (F := fun b => b = g) (p := ⟨g, 0, none⟩) (Touch.refl _ _) (fun _ => rfl) _⟩
      have := K2.out.set_ 0 (.slice A2 h c9)
      simpa [bpart_0] using this
    case round =>
      obtain ⟨k, hk, rfl, hblk, ht⟩ := hrel
      by_cases hk4 : k = 4
      · subst hk4
        have G := hide (rgives_back HS.out hhl hbase HM.out (by simpa using HU.out) hblk ht)
        clear hblk ht
        go_wp2
        go_ret2
        have g2 := G.out
        rw [show l.length - h = 0 by omega] at g2
        exact g2
      · have hk4' : k < 4 := by omega
        have ff := hblk.frozen
        have hltr := hblk.lt
        have e1 := ref_t (b := bpart b t h k) hblk hk4'
        have e2 := ref_b (b := bpart b t h k) hblk hk4'
        have HK := hide hblk
        have HT := hide ht
        have ebk : bpart b t h k k = b k := by simp [bpart]
        rw [ebk] at e2
        clear hblk ht ebk
        by_cases hbk : b k = true
        · rw [hbk] at e2
          by_cases hgt : (h : Int) < t k
          · have hgt' := hide hgt
            have HN := hide (HK.out.set_ (5 + k) (.bool false))
            clear hbk
            go_wp2
            go_roundw
            case rel => exact ⟨k + 1, by omega, by go_num, bset HN.out hk4' hgt'.out, HT.out.setCell (p := ⟨g, 5 + k, none⟩) (fun _ => rfl) _⟩
            case measure => simp [intOf]; omega
          · have hp := hide (bpart_keep (b := b) (t := t) (h := (h : Int)) (k := k) (.inr (by omega)))
            clear hbk
            go_wp2
            go_roundw
            case rel => exact ⟨k + 1, by omega, by go_num, by rw [hp.out 0, hp.out 1, hp.out 2, hp.out 3]; exact HK.out, HT.out⟩
            case measure => simp [intOf]; omega
        · have hbf : b k = false := by simpa using hbk
          rw [hbf] at e2
          have hp := hide (bpart_keep (b := b) (t := t) (h := (h : Int)) (k := k) (.inl hbf))
          clear hbk hbf
          go_wp2
          go_roundw
          case rel => exact ⟨k + 1, by omega, by go_num, by rw [hp.out 0, hp.out 1, hp.out 2, hp.out 3]; exact HK.out, HT.out⟩
          case measure => simp [intOf]; omega
  · have hR0 : Reads w w.heap.size 1 (A.map (·.add h)) (l.length - h) (iv (l.drop h)) := by
      have := hcut.out
      rw [if_neg hch] at this
      simpa [iv, List.map_drop] using this
    have hR0 := hide hR0
    clear hcut
    go_enter Try.func11, Try.ntmps11
    go_wp2_with (fail)
    refine (down_at _ _ (l.length - h) (l.drop h) _ (by simp) hR0.out (by omega)).mono ?_
    rintro e w1 ⟨u, rfl, hu, hb⟩
    have HU := hide hu
    obtain ⟨Au, cu, rfl⟩ := own_form hu
    have HB := hide hb
    have hz : w.heap.size ≤ w1.heap.size := hb.size
    have k1 := HS.out.blk.below hb hlt
    have K1 := hide k1
    have d0 := k1.cell 0
    have hlt1 := k1.lt
    simp at d0
    rw [List.length_reverse, List.length_drop] at HU
    have hr2 : Hid (Reads (w1.alloc (.cells #[] 3)) w1.heap.size 1 A h (iv (l.take h))) := ((HRT.out.below hb).more (B' := w1.heap.size) hz).alloc (Nat.le_refl _) _
    have hown : Hid ((w1.alloc (.cells #[] 3)).ownsRow w1.heap.size 3 1 (.slice (some ⟨w1.heap.size, 0, none⟩) 0 0) 0 []) := World.ownsRow_made w1 #[] 0 (Nat.le_refl _) (Nat.zero_le _) rfl
    clear hu hb k1 c0 c1 c2 ff
    go_wp2_with (at_builtin; refine wpList_append_any _ rfl (.tmp 38) (.tmp 44) _ rfl w1.heap.size 3 i0 _ 1 8 Try.underlying27 hi0 hz0 hz1 hz2 rfl (by omega) (.slice (some ⟨w1.heap.size, 0, none⟩) 0 0) 0 [] rfl hown.out w1.heap.size A h c (iv (l.take h)) rfl hr2.out (iv_one _) (by simp only [maxLen]; omega) (by omega) (by simp) ?_; intro v2 w2 hown2 hg2 hat2; rw [Nat.zero_add, List.nil_append] at hown2; have HM := hide (mid_of (g := g) (t := t) (b := b) HB.out hown2 hg2); have k2 := (K1.out.alloc (.cells #[] 3)).grown hg2 (by simp [Value.ownBlock]; omega); have K2 := hide k2; have e0 := k2.cell 0; have fg := k2.frozen; simp at e0; obtain ⟨A2, c9, hv⟩ := own_form hown2; rw [hv]; rw [hv] at HM; clear hown2 hg2 hat2 hv k2 d0)
    have HC := hide hch
    clear hch
    go_loopw [8] (fun i wr => ∃ k : Nat, k ≤ 4 ∧ i = .int .i64 k ∧ Blk wr g 31 #[.slice A2 h c9, .int .i64 (t 0), .int .i64 (t 1), .int .i64 (t 2), .int .i64 (t 3), .bool (bpart b t h k 0), .bool (bpart b t h k 1), .bool (bpart b t h k 2), .bool (bpart b t h k 3)] ∧ Touch w2 wr (fun b => b = g)) (fun i _ => (4 - intOf i).toNat)
    case atStart =>
      refine ⟨0, by omega, rfl, ?_, Touch.setCell (F := fun b => b = g) (p := ⟨g, 0, none⟩) (Touch.refl _ _) (fun _ => rfl) _⟩
      have := K2.out.set_ 0 (.slice A2 h c9)
      simpa [bpart_0] using this
    case round =>
      obtain ⟨k, hk, rfl, hblk, ht⟩ := hrel
      by_cases hk4 : k = 4
      · subst hk4
        have G := hide (rgives_back HS.out hhl hbase HM.out (by simpa using HU.out) hblk ht)
        clear hblk ht
        go_wp2
        go_ret2
        exact G.out
      · have hk4' : k < 4 := by omega
        have ff := hblk.frozen
        have hltr := hblk.lt
        have e1 := ref_t (b := bpart b t h k) hblk hk4'
        have e2 := ref_b (b := bpart b t h k) hblk hk4'
        have HK := hide hblk
        have HT := hide ht
        have ebk : bpart b t h k k = b k := by simp [bpart]
        rw [ebk] at e2
        clear hblk ht ebk
        by_cases hbk : b k = true
        · rw [hbk] at e2
          by_cases hgt : (h : Int) < t k
          · have hgt' := hide hgt
            have HN := hide (HK.out.set_ (5 + k) (.bool false))
            clear hbk
            go_wp2
            go_roundw
            case rel => exact ⟨k + 1, by omega, by go_num, bset HN.out hk4' hgt'.out, HT.out.setCell (p := ⟨g, 5 + k, none⟩) (fun _ => rfl) _⟩
            case measure => simp [intOf]; omega
          · have hp := hide (bpart_keep (b := b) (t := t) (h := (h : Int)) (k := k) (.inr (by omega)))
            clear hbk
            go_wp2
            go_roundw
            case rel => exact ⟨k + 1, by omega, by go_num, by rw [hp.out 0, hp.out 1, hp.out 2, hp.out 3]; exact HK.out, HT.out⟩
            case measure => simp [intOf]; omega
        · have hbf : b k = false := by simpa using hbk
          rw [hbf] at e2
          have hp := hide (bpart_keep (b := b) (t := t) (h := (h : Int)) (k := k) (.inl hbf))
          clear hbk hbf
          go_wp2
          go_roundw
          case rel => exact ⟨k + 1, by omega, by go_num, by rw [hp.out 0, hp.out 1, hp.out 2, hp.out 3]; exact HK.out, HT.out⟩
          case measure => simp [intOf]; omega
end Go.Proofs.Ytkicocaejfhgiaa
