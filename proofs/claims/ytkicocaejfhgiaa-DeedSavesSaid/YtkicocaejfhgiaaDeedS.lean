/- Deed: the steps of one stack, with what stands beside it. -/
import Derived.Test.YtkicocaejfhgiaaDeedC
namespace Go.Proofs.Ytkicocaejfhgiaa
open Go.ChangeShapes Go.WideShapes Go.ChangeAt Go.RowKit
set_option linter.unusedVariables false

/-- Blocks of other types, but for g, are as they were. -/
def Side (g : Nat) (w w' : World) : Prop := ∀ k t cs, k ≠ g → t ≠ 3 → Blk w k t cs → Blk w' k t cs
theorem Side.refl (g : Nat) (w : World) : Side g w w := fun _ _ _ _ _ h => h
theorem Leaves.side {w w' : World} {base g : Nat} {v : Value} {l l' : List Int} {s s' : Nat → Int} (h : Leaves w base g v l' s' w') (hs : Stack w base g v l s) : Side g w w' := by
  obtain ⟨v', _, ht, _⟩ := h
  intro k t cs hk ht3 hb
  refine ht.blk hb fun hf => ?_
  rcases hf with hf | hf
  · exact hk hf
  · exact own_blk_ne hs.own hb (Ne.symm ht3) hf
/-- what a method leaves -/
def CurS (w1 w : World) (l : List Int) (s : Nat → Int) (w' : World) : Prop := Cur w1 l s w' ∧ Side w1.heap.size w w'
theorem curs_of {w1 w w' : World} {v : Value} {l l' : List Int} {s s' : Nat → Int} (h1 : Stack w w1.heap.size w1.heap.size v l s) (h2 : Below w1.heap.size w1 w) (h : Leaves w w1.heap.size w1.heap.size v l' s' w') : CurS w1 w l' s' w' := by
  have hside := h.side h1
  obtain ⟨v', h4, h5⟩ := h.goes h1 h2.size
  exact ⟨⟨v', h4, h2.trans h5⟩, hside⟩
theorem curs_push (w1 w : World) (l : List Int) (s : Nat → Int) (x : Int) (h : Cur w1 l s w) (hl : l.length ≤ 1048576) :
    Calls Try.prog 13 #[.pointer (some ⟨w1.heap.size, 0, none⟩), .int .i64 x] w fun e w' => e = .returned (.tuple #[]) ∧ CurS w1 w (l ++ [x]) s w' := by
  obtain ⟨v, h1, h2⟩ := h
  exact (push_any _ _ v l s x w h1 hl h2.size).mono fun _ _ ⟨h3, h4⟩ => ⟨h3, curs_of h1 h2 h4⟩
theorem curs_save (w1 w : World) (l : List Int) (s : Nat → Int) (n : Nat) (h : Cur w1 l s w) (hn : n < 4) :
    Calls Try.prog 8 #[.pointer (some ⟨w1.heap.size, 0, none⟩), .int .i64 n] w fun e w' => e = .returned (.bool true) ∧ CurS w1 w l (setAt s n l.length) w' := by
  obtain ⟨v, h1, h2⟩ := h
  exact (save_yes _ _ v l s n w h1 hn).mono fun _ _ ⟨h3, h4⟩ => ⟨h3, curs_of h1 h2 h4⟩
def CursBack (w1 w : World) (l : List Int) (s : Nat → Int) (h : Nat) (e : Ending) (w' : World) : Prop :=
  ∃ A c, e = .returned (.tuple #[.slice A (l.length - h) c, .bool true]) ∧ CurS w1 w (l.take h) (cutAt s h) w'
theorem curs_back (w1 w : World) (l : List Int) (s : Nat → Int) (n h : Nat) (hc : Cur w1 l s w) (hn : n < 4) (hh : s n = h) (hl : l.length ≤ 1048576) :
    Calls Try.prog 10 #[.pointer (some ⟨w1.heap.size, 0, none⟩), .int .i64 n] w (CursBack w1 w l s h) := by
  obtain ⟨v, h1, h2⟩ := hc
  exact (back_yes _ _ v l s n h w h1 hn hh hl h2.size).mono fun _ _ ⟨u, h3, hu, h4⟩ => by
    obtain ⟨A, c, rfl⟩ := own_form hu
    exact ⟨A, c, h3, curs_of h1 h2 h4⟩
theorem Cur.lo {w1 w : World} {l : List Int} {s : Nat → Int} (h : Cur w1 l s w) (i : Nat) : -1 ≤ s i := by
  obtain ⟨_, h1, _⟩ := h
  exact h1.lo i
theorem Cur.hi {w1 w : World} {l : List Int} {s : Nat → Int} (h : Cur w1 l s w) (i : Nat) : s i ≤ l.length := by
  obtain ⟨_, h1, _⟩ := h
  exact h1.hi i
/-- a block of another type is written -/
theorem Cur.set {w1 w : World} {l : List Int} {s : Nat → Int} {k : Nat} {t : TypeId} {cs : Array Value} (h : Cur w1 l s w) (hk : w1.heap.size < k) (hb : Blk w k t cs) (ht : t ≠ 3) (i : Nat) (u : Value) : Cur w1 l s (w.setCell ⟨k, i, none⟩ u) := by
  refine h.touch (F := fun b => b = k) (Touch.setCell (F := fun b => b = k) (p := ⟨k, i, none⟩) (Touch.refl _ _) (fun _ => rfl) u) (fun b e => by omega) (fun v b ho hv e => ?_)
  subst e
  exact own_blk_ne ho hb (Ne.symm ht) hv
end Go.Proofs.Ytkicocaejfhgiaa
