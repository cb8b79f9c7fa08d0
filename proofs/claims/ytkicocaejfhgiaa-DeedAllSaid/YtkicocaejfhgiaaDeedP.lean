/- Deed: the stack and the reference's, side by side. -/
import Derived.Test.YtkicocaejfhgiaaDeedV
namespace Go.Proofs.Ytkicocaejfhgiaa
open Go.ChangeShapes Go.WideShapes Go.ChangeAt Go.RowKit
set_option linter.unusedVariables false

def Pair (w1 : World) (g2 : Nat) (l : List Int) (s : Nat → Int) (l2 : List Int) (t : Nat → Int) (b : Nat → Bool) (w : World) : Prop :=
  ∃ v v2, Stack w w1.heap.size w1.heap.size v l s ∧ Ref w w1.heap.size g2 v2 l2 t b ∧ Below w1.heap.size w1 w ∧ ∀ k, v.ownBlock = some k → v2.ownBlock ≠ some k
section
variable {w1 w w' : World} {g2 : Nat} {l l' l2 l2' : List Int} {s s' t t' : Nat → Int} {b b' : Nat → Bool}
theorem Pair.bel (h : Pair w1 g2 l s l2 t b w) : Below w1.heap.size w1 w := by obtain ⟨_, _, _, _, h, _⟩ := h; exact h
theorem Pair.size (h : Pair w1 g2 l s l2 t b w) : w1.heap.size ≤ w.heap.size := h.bel.size
theorem Pair.glt (h : Pair w1 g2 l s l2 t b w) : g2 < w.heap.size := by obtain ⟨_, _, _, h, _⟩ := h; exact h.blk.lt
theorem Pair.below (h : Pair w1 g2 l s l2 t b w) (hb : Below w.heap.size w w') : Pair w1 g2 l s l2 t b w' := by
  obtain ⟨v, v2, h1, h2, h3, h4⟩ := h
  have t0 : Touch w w' (fun _ => False) := Touch.of_below hb _
  exact ⟨v, v2, h1.below hb, ⟨t0.blk h2.blk (fun h => h), ownsRow_touch t0 h2.own (fun _ _ h => h), h2.hb, h2.lo, h2.hi⟩, h3.trans (hb.mono h3.size), h4⟩
theorem Pair.same (h : Pair w1 g2 l s l2 t b w) (e1 : l = l') (e2 : s = s') (e3 : l2 = l2') (e4 : t = t') (e5 : b = b') : Pair w1 g2 l' s' l2' t' b' w := by
  subst e1 e2 e3 e4 e5; exact h
theorem pair_left {v v2 : Value} (h1 : Stack w w1.heap.size w1.heap.size v l s) (h2 : Ref w w1.heap.size g2 v2 l2 t b) (h3 : Below w1.heap.size w1 w) (h4 : ∀ k, v.ownBlock = some k → v2.ownBlock ≠ some k)
    (h : Leaves w w1.heap.size w1.heap.size v l' s' w') : Pair w1 g2 l' s' l2 t b w' := by
  obtain ⟨v', k1, ht, hn⟩ := h
  have hg : g2 ≠ w1.heap.size := Blk.ne_ h2.blk h1.blk (by decide)
  refine ⟨v', v2, k1, ⟨ht.blk h2.blk ?_, ownsRow_touch ht h2.own ?_, h2.hb, h2.lo, h2.hi⟩, h3.trans (ht.below h3.size h1.foot_base), fun k hk e => ?_⟩
  · rintro (hf | hf)
    · exact hg hf
    · exact own_blk_ne h1.own h2.blk (by decide) hf
  · rintro k hk (hf | hf)
    · subst hf; exact own_blk_ne h2.own h1.blk (by decide) hk
    · exact h4 k hf hk
  · rcases hn with hn | hn
    · exact h4 k (hn ▸ hk) e
    · have := hn k hk
      have := (h2.own.lt k e).2
      omega
theorem pair_right {v v2 : Value} (h1 : Stack w w1.heap.size w1.heap.size v l s) (h2 : Ref w w1.heap.size g2 v2 l2 t b) (h3 : Below w1.heap.size w1 w) (h4 : ∀ k, v.ownBlock = some k → v2.ownBlock ≠ some k)
    (h : RLeaves w w1.heap.size g2 v2 l2' t' b' w') : Pair w1 g2 l s l2' t' b' w' := by
  obtain ⟨v', k1, ht, hn⟩ := h
  have hg : w1.heap.size ≠ g2 := Blk.ne_ h1.blk h2.blk (by decide)
  refine ⟨v, v', ⟨ht.blk h1.blk hg, ownsRow_touch ht h1.own (fun k hk e => own_blk_ne h1.own h2.blk (by decide) (by rw [hk, e])), h1.hb, h1.lo, h1.hi⟩, k1, h3.trans (ht.below h3.size (fun k hk => by rw [hk]; exact h2.hb)), fun k hk e => ?_⟩
  rcases hn with hn | hn
  · exact h4 k hk (hn ▸ e)
  · have := hn k e
    have := (h1.own.lt k hk).2
    omega
end
/-- how the two go together -/
def Rel (s t : Nat → Int) (b : Nat → Bool) : Prop := ∀ i, s i = if b i then t i else -1
theorem Rel.save {s t : Nat → Int} {b : Nat → Bool} (h : Rel s t b) (n : Nat) (x : Int) : Rel (setAt s n x) (setAt t n x) (setB b n true) := fun i => by
  unfold setAt setB
  by_cases hi : i = n
  · simp [hi]
  · simp [hi, h i]
theorem Rel.cut {s t : Nat → Int} {b : Nat → Bool} (h : Rel s t b) {x : Int} (hx : 0 ≤ x) : Rel (cutAt s x) t (bcut b t x) := fun i => by
  unfold cutAt bcut
  rw [h i]
  cases b i
  · simp only [Bool.false_eq_true, if_false, ite_self]
  · by_cases h1 : t i > x
    · simp [h1]
    · simp [h1]

section
variable (w1 w : World) (g2 : Nat) (l : List Int) (s : Nat → Int) (l2 : List Int) (t : Nat → Int) (b : Nat → Bool)
theorem pair_push (x : Int) (h : Pair w1 g2 l s l2 t b w) (hl : l.length ≤ 1048576) :
    Calls Try.prog 13 #[.pointer (some ⟨w1.heap.size, 0, none⟩), .int .i64 x] w fun e w' => e = .returned (.tuple #[]) ∧ Pair w1 g2 (l ++ [x]) s l2 t b w' := by
  obtain ⟨v, v2, h1, h2, h3, h4⟩ := h
  exact (push_any _ _ v l s x w h1 hl h3.size).mono fun _ _ ⟨e, h5⟩ => ⟨e, pair_left h1 h2 h3 h4 h5⟩
theorem pair_rpush (x : Int) (h : Pair w1 g2 l s l2 t b w) (hl : l2.length ≤ 1048576) :
    Calls Try.prog 14 #[.pointer (some ⟨g2, 0, none⟩), .int .i64 x] w fun e w' => e = .returned (.tuple #[]) ∧ Pair w1 g2 l s (l2 ++ [x]) t b w' := by
  obtain ⟨v, v2, h1, h2, h3, h4⟩ := h
  exact (rpush_any _ _ v2 l2 t b x w h2 hl h3.size).mono fun _ _ ⟨e, h5⟩ => ⟨e, pair_right h1 h2 h3 h4 h5⟩
theorem pair_save (n : Nat) (h : Pair w1 g2 l s l2 t b w) (hn : n < 4) :
    Calls Try.prog 8 #[.pointer (some ⟨w1.heap.size, 0, none⟩), .int .i64 n] w fun e w' => e = .returned (.bool true) ∧ Pair w1 g2 l (setAt s n l.length) l2 t b w' := by
  obtain ⟨v, v2, h1, h2, h3, h4⟩ := h
  exact (save_yes _ _ v l s n w h1 hn).mono fun _ _ ⟨e, h5⟩ => ⟨e, pair_left h1 h2 h3 h4 h5⟩
theorem pair_rsave (n : Nat) (h : Pair w1 g2 l s l2 t b w) (hn : n < 4) :
    Calls Try.prog 9 #[.pointer (some ⟨g2, 0, none⟩), .int .i64 n] w fun e w' => e = .returned (.bool true) ∧ Pair w1 g2 l s l2 (setAt t n l2.length) (setB b n true) w' := by
  obtain ⟨v, v2, h1, h2, h3, h4⟩ := h
  exact (rsave_yes _ _ v2 l2 t b n w h2 hn).mono fun _ _ ⟨e, h5⟩ => ⟨e, pair_right h1 h2 h3 h4 h5⟩
theorem pair_save_no (n : Int) (h : Pair w1 g2 l s l2 t b w) (hn : ¬ (0 ≤ n ∧ n < 4)) :
    Calls Try.prog 8 #[.pointer (some ⟨w1.heap.size, 0, none⟩), .int .i64 n] w fun e w' => e = .returned (.bool false) ∧ w = w' := by
  obtain ⟨v, v2, h1, h2, h3, h4⟩ := h
  exact save_no _ _ v l s n w h1 hn
def PairBack (s' t' : Nat → Int) (b' : Nat → Bool) (ll l' l2' : List Int) (h : Nat) (e : Ending) (w' : World) : Prop :=
  ∃ A c, e = .returned (.tuple #[.slice A (ll.length - h) c, .bool true]) ∧ Reads w' w'.heap.size 1 A (ll.length - h) (iv (ll.drop h).reverse) ∧ (∀ ad, A = some ad → w.heap.size ≤ ad.block) ∧ Pair w1 g2 l' s' l2' t' b' w'
theorem pair_back (n h : Nat) (hp : Pair w1 g2 l s l2 t b w) (hn : n < 4) (hh : s n = h) (hl : l.length ≤ 1048576) :
    Calls Try.prog 10 #[.pointer (some ⟨w1.heap.size, 0, none⟩), .int .i64 n] w (PairBack w1 w g2 (cutAt s h) t b l (l.take h) l2 h) := by
  obtain ⟨v, v2, h1, h2, h3, h4⟩ := hp
  exact (back_yes _ _ v l s n h w h1 hn hh hl h3.size).mono fun _ _ ⟨u, e, hu, h5⟩ => by
    obtain ⟨A, c, rfl⟩ := own_form hu
    exact ⟨A, c, e, Reads.of_own hu, fun ad ea => (hu.lt ad.block (by rw [ea]; rfl)).1, pair_left h1 h2 h3 h4 h5⟩
theorem pair_rback (n h : Nat) (hp : Pair w1 g2 l s l2 t b w) (hn : n < 4) (hbn : b n = true) (hh : t n = h) (hl : l2.length ≤ 1048576) :
    Calls Try.prog 11 #[.pointer (some ⟨g2, 0, none⟩), .int .i64 n] w (fun e w' => PairBack w1 w g2 s t (bcut b t h) l2 l (l2.take h) h e w' ∧ Touch w w' (fun k => k = g2)) := by
  obtain ⟨v, v2, h1, h2, h3, h4⟩ := hp
  exact (rback_yes _ _ v2 l2 t b n h w h2 hn hbn hh hl h3.size).mono fun _ _ ⟨u, e, hu, h5⟩ => by
    obtain ⟨A, c, rfl⟩ := own_form hu
    refine ⟨⟨A, c, e, Reads.of_own hu, fun ad ea => (hu.lt ad.block (by rw [ea]; rfl)).1, pair_right h1 h2 h3 h4 h5⟩, ?_⟩
    obtain ⟨_, _, ht, _⟩ := h5
    exact ht
theorem pair_back_none (n : Nat) (h : Pair w1 g2 l s l2 t b w) (hn : n < 4) (hneg : s n < 0) :
    Calls Try.prog 10 #[.pointer (some ⟨w1.heap.size, 0, none⟩), .int .i64 n] w fun e w' => e = .returned (.tuple #[.slice none 0 0, .bool false]) ∧ w = w' := by
  obtain ⟨v, v2, h1, h2, h3, h4⟩ := h
  exact back_none _ _ v l s n w h1 hn hneg
theorem pair_rback_none (n : Nat) (h : Pair w1 g2 l s l2 t b w) (hn : n < 4) (hneg : b n = false) :
    Calls Try.prog 11 #[.pointer (some ⟨g2, 0, none⟩), .int .i64 n] w fun e w' => e = .returned (.tuple #[.slice none 0 0, .bool false]) ∧ w = w' := by
  obtain ⟨v, v2, h1, h2, h3, h4⟩ := h
  exact rback_none _ _ v2 l2 t b n w h2 hn hneg
theorem pair_back_no (n : Int) (h : Pair w1 g2 l s l2 t b w) (hn : ¬ (0 ≤ n ∧ n < 4)) :
    Calls Try.prog 10 #[.pointer (some ⟨w1.heap.size, 0, none⟩), .int .i64 n] w fun e w' => e = .returned (.tuple #[.slice none 0 0, .bool false]) ∧ w = w' := by
  obtain ⟨v, v2, h1, h2, h3, h4⟩ := h
  exact back_no _ _ v l s n w h1 hn
theorem pair_len (h : Pair w1 g2 l s l2 t b w) : Calls Try.prog 17 #[.pointer (some ⟨w1.heap.size, 0, none⟩)] w fun e w' => e = .returned (.int .i64 l.length) ∧ w = w' := by
  obtain ⟨v, v2, h1, h2, h3, h4⟩ := h
  exact len_any _ _ v l s w h1
def PairAll (ll : List Int) (e : Ending) (w' : World) : Prop :=
  ∃ A c, e = .returned (.slice A ll.length c) ∧ Reads w' w'.heap.size 1 A ll.length (iv ll.reverse) ∧ Pair w1 g2 l s l2 t b w' ∧ Below w.heap.size w w'
theorem pair_all (h : Pair w1 g2 l s l2 t b w) (hl : l.length ≤ 1048576) : Calls Try.prog 15 #[.pointer (some ⟨w1.heap.size, 0, none⟩)] w (PairAll w1 w g2 l s l2 t b l) := by
  have h0 := h
  obtain ⟨v, v2, h1, h2, h3, h4⟩ := h
  exact (all_any _ _ v l s w h1 hl).mono fun _ _ ⟨u, e, hu, hb⟩ => by
    obtain ⟨A, c, rfl⟩ := own_form hu
    rw [List.length_reverse] at hu e
    exact ⟨A, c, e, Reads.of_own hu, h0.below hb, hb⟩
theorem pair_rall (h : Pair w1 g2 l s l2 t b w) (hl : l2.length ≤ 1048576) : Calls Try.prog 16 #[.pointer (some ⟨g2, 0, none⟩)] w (PairAll w1 w g2 l s l2 t b l2) := by
  have h0 := h
  obtain ⟨v, v2, h1, h2, h3, h4⟩ := h
  exact (rall_any _ _ v2 l2 t b w h2 hl).mono fun _ _ ⟨u, e, hu, hb⟩ => by
    obtain ⟨A, c, rfl⟩ := own_form hu
    rw [List.length_reverse] at hu e
    exact ⟨A, c, e, Reads.of_own hu, h0.below hb, hb⟩
end
end Go.Proofs.Ytkicocaejfhgiaa
