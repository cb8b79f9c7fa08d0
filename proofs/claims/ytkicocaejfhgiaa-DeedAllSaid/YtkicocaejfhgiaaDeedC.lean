/- Deed: one stack through a run: the contracts as steps of it. -/
import Derived.Test.YtkicocaejfhgiaaDeedL
namespace Go.Proofs.Ytkicocaejfhgiaa
open Go.ChangeShapes Go.WideShapes Go.ChangeAt Go.RowKit
set_option linter.unusedVariables false

/-- The stack that was made in w1, as it is now. -/
def Cur (w1 : World) (l : List Int) (s : Nat → Int) (w : World) : Prop := ∃ v, Stack w w1.heap.size w1.heap.size v l s ∧ Below w1.heap.size w1 w
theorem Cur.size {w1 w : World} {l : List Int} {s : Nat → Int} (h : Cur w1 l s w) : w1.heap.size ≤ w.heap.size := by
  obtain ⟨_, _, h⟩ := h
  exact h.size
theorem Cur.bel {w1 w : World} {l : List Int} {s : Nat → Int} (h : Cur w1 l s w) : Below w1.heap.size w1 w := by
  obtain ⟨_, _, h⟩ := h
  exact h
theorem Cur.below {w1 w w' : World} {l : List Int} {s : Nat → Int} (h : Cur w1 l s w) (hb : Below w.heap.size w w') : Cur w1 l s w' := by
  obtain ⟨v, h1, h2⟩ := h
  exact ⟨v, h1.below hb, h2.trans (hb.mono h2.size)⟩
theorem Cur.same {w1 w : World} {l l' : List Int} {s s' : Nat → Int} (h : Cur w1 l s w) (hl : l = l') (hs : s = s') : Cur w1 l' s' w := by
  subst hl hs; exact h
/-- a write elsewhere among the call's own blocks -/
theorem Cur.touch {w1 w w' : World} {l : List Int} {s : Nat → Int} {F : Nat → Prop} (h : Cur w1 l s w) (ht : Touch w w' F) (hF : ∀ k, F k → w1.heap.size < k) (hown : ∀ (v : Value) k, w.ownsRow w1.heap.size 3 1 v l.length (iv l) → v.ownBlock = some k → ¬ F k) : Cur w1 l s w' := by
  obtain ⟨v, h1, h2⟩ := h
  refine ⟨v, ⟨ht.blk h1.blk (fun h => by have := hF _ h; omega), ownsRow_touch ht h1.own (fun k hk => hown v k h1.own hk), h1.hb, h1.lo, h1.hi⟩, h2.trans (ht.below h2.size (fun k hk => by have := hF k hk; omega))⟩
theorem cur_new (w : World) : Calls Try.prog 7 #[] w fun e w' => e = .returned (.pointer (some ⟨w.heap.size, 0, none⟩)) ∧ Cur w [] (fun _ => -1) w' :=
  (new_any w).mono fun _ _ ⟨h1, h2, h3⟩ => ⟨h1, _, h2, h3⟩
theorem cur_push (w1 w : World) (l : List Int) (s : Nat → Int) (x : Int) (h : Cur w1 l s w) (hl : l.length ≤ 1048576) :
    Calls Try.prog 13 #[.pointer (some ⟨w1.heap.size, 0, none⟩), .int .i64 x] w fun e w' => e = .returned (.tuple #[]) ∧ Cur w1 (l ++ [x]) s w' := by
  obtain ⟨v, h1, h2⟩ := h
  exact (push_go _ _ v l s x w h1 hl h2.size).mono fun _ _ ⟨h3, v', h4, h5⟩ => ⟨h3, v', h4, h2.trans h5⟩
theorem cur_save (w1 w : World) (l : List Int) (s : Nat → Int) (n : Nat) (h : Cur w1 l s w) (hn : n < 4) :
    Calls Try.prog 8 #[.pointer (some ⟨w1.heap.size, 0, none⟩), .int .i64 n] w fun e w' => e = .returned (.bool true) ∧ Cur w1 l (setAt s n l.length) w' := by
  obtain ⟨v, h1, h2⟩ := h
  exact (save_go _ _ v l s n w h1 hn h2.size).mono fun _ _ ⟨h3, v', h4, h5⟩ => ⟨h3, v', h4, h2.trans h5⟩
theorem cur_save_no (w1 w : World) (l : List Int) (s : Nat → Int) (n : Int) (h : Cur w1 l s w) (hn : ¬ (0 ≤ n ∧ n < 4)) :
    Calls Try.prog 8 #[.pointer (some ⟨w1.heap.size, 0, none⟩), .int .i64 n] w fun e w' => e = .returned (.bool false) ∧ w = w' := by
  obtain ⟨v, h1, h2⟩ := h
  exact save_no _ _ v l s n w h1 hn
/-- what Back gives: the list behind it, in new memory -/
def CurBack (w1 w : World) (l : List Int) (s : Nat → Int) (h : Nat) (e : Ending) (w' : World) : Prop :=
  ∃ A c, e = .returned (.tuple #[.slice A (l.length - h) c, .bool true]) ∧ Reads w' w'.heap.size 1 A (l.length - h) (iv (l.drop h).reverse) ∧ (∀ ad, A = some ad → w.heap.size ≤ ad.block) ∧ Cur w1 (l.take h) (cutAt s h) w'
theorem cur_back (w1 w : World) (l : List Int) (s : Nat → Int) (n h : Nat) (hc : Cur w1 l s w) (hn : n < 4) (hh : s n = h) (hl : l.length ≤ 1048576) :
    Calls Try.prog 10 #[.pointer (some ⟨w1.heap.size, 0, none⟩), .int .i64 n] w (CurBack w1 w l s h) := by
  obtain ⟨v, h1, h2⟩ := hc
  exact (back_go _ _ v l s n h w h1 hn hh hl h2.size).mono fun _ _ ⟨A, c, h3, hu, v', h4, h5⟩ => by
    refine ⟨A, c, h3, Reads.of_own hu, fun ad e => ?_, v', h4, h2.trans h5⟩
    exact (hu.lt ad.block (by rw [e]; rfl)).1
theorem cur_back_none (w1 w : World) (l : List Int) (s : Nat → Int) (n : Nat) (hc : Cur w1 l s w) (hn : n < 4) (hh : s n < 0) :
    Calls Try.prog 10 #[.pointer (some ⟨w1.heap.size, 0, none⟩), .int .i64 n] w fun e w' => e = .returned (.tuple #[.slice none 0 0, .bool false]) ∧ w = w' := by
  obtain ⟨v, h1, h2⟩ := hc
  exact back_none _ _ v l s n w h1 hn hh
theorem cur_back_no (w1 w : World) (l : List Int) (s : Nat → Int) (n : Int) (hc : Cur w1 l s w) (hn : ¬ (0 ≤ n ∧ n < 4)) :
    Calls Try.prog 10 #[.pointer (some ⟨w1.heap.size, 0, none⟩), .int .i64 n] w fun e w' => e = .returned (.tuple #[.slice none 0 0, .bool false]) ∧ w = w' := by
  obtain ⟨v, h1, h2⟩ := hc
  exact back_no _ _ v l s n w h1 hn
theorem cur_len (w1 w : World) (l : List Int) (s : Nat → Int) (h : Cur w1 l s w) : Calls Try.prog 17 #[.pointer (some ⟨w1.heap.size, 0, none⟩)] w fun e w' => e = .returned (.int .i64 l.length) ∧ w = w' := by
  obtain ⟨v, h1, h2⟩ := h
  exact len_any _ _ v l s w h1
end Go.Proofs.Ytkicocaejfhgiaa
