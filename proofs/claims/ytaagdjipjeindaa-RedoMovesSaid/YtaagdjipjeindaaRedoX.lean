/- Redo: words for RedoMoves: what a cell reads; three pages in an array; what three notes leave. -/
import Derived.Test.YtaagdjipjeindaaRedoU
namespace Go.Proofs.Ytaagdjipjeindaa
open Go.ChangeShapes Go.WideShapes Go.ChangeAt Go.RowKit
set_option linter.unusedVariables false

/-- a cell's bytes, and what they say -/
def RdIs (l : List UInt8) (k : Int) (key : List UInt8) (p q : Int) : Prop :=
  (l = [] ∧ k = 0 ∧ key = [] ∧ p = 0 ∧ q = 0) ∨ (∃ m, l = rowL (ltL m) [] [] ∧ k = 1 ∧ key = ltL m ∧ p = 0 ∧ q = 0) ∨ (∃ i j : Nat, i < 32 ∧ j < 4 ∧ l = stubL i j ∧ k = 2 ∧ key = [] ∧ p = i ∧ q = j)
theorem read_any (w : World) (A : Option Addr) (c N : Nat) (l : List UInt8) (k : Int) (key : List UInt8) (p q : Int) (h : RdIs l k key p q) (hb : BB w (.slice A N c) l) (hN : N = l.length) : Calls Try.prog 16 #[.slice A N c] w (GivesR w k key p q) := by
  rcases h with ⟨rfl, rfl, rfl, rfl, rfl⟩ | ⟨m, rfl, rfl, rfl, rfl, rfl⟩ | ⟨i, j, hi, hj, rfl, rfl, rfl, rfl, rfl⟩
  · subst hN
    exact read_nil w A c
  · exact read_row w A c N m hb (by rw [hN]; exact rowL_len (by simp [ltL]) (by simp) (by simp))
  · exact read_stub w A c N i j hi hj hb (by rw [hN]; simp [stubL])
/-- a page's five cells in an array's block -/
def P5 (cs : Array Value) (w : World) (n : Nat) (s : (Nat → List UInt8) × Int) : Prop :=
  ∃ A0 c0 A1 c1 A2 c2 A3 c3, cs[n * 5]? = some (.slice A0 (s.1 0).length c0) ∧ cs[n * 5 + 1]? = some (.slice A1 (s.1 1).length c1) ∧ cs[n * 5 + 2]? = some (.slice A2 (s.1 2).length c2) ∧ cs[n * 5 + 3]? = some (.slice A3 (s.1 3).length c3) ∧ cs[n * 5 + 4]? = some (.int .i64 s.2) ∧
    Pg w (.agg #[.slice A0 (s.1 0).length c0, .slice A1 (s.1 1).length c1, .slice A2 (s.1 2).length c2, .slice A3 (s.1 3).length c3, .int .i64 s.2]) s.1 s.2
/-- three pages in a block -/
def PgsAt (w : World) (b : Nat) (S : Nat → (Nat → List UInt8) × Int) : Prop :=
  ∃ cs, Blk w b 55 cs ∧ cs.size = 15 ∧ (∀ u ∈ cs.toList, ∀ z, u ≠ .int .u8 z) ∧ ∀ n, n < 3 → P5 cs w n (S n)
theorem PgsAt.ext {w w' : World} {b : Nat} {S : Nat → (Nat → List UInt8) × Int} (h : PgsAt w b S) (hx : Ext w w') : PgsAt w' b S := by
  obtain ⟨cs, hb, hs, h8, hp⟩ := h
  refine ⟨cs, hx.blk hb, hs, h8, fun n hn => ?_⟩
  obtain ⟨A0, c0, A1, c1, A2, c2, A3, c3, e0, e1, e2, e3, e4, hg⟩ := hp n hn
  exact ⟨A0, c0, A1, c1, A2, c2, A3, c3, e0, e1, e2, e3, e4, hg.ext hx⟩
theorem PgsAt.new (w : World) : PgsAt (w.alloc (.cells #[.slice none 0 0, .slice none 0 0, .slice none 0 0, .slice none 0 0, .int .i64 0, .slice none 0 0, .slice none 0 0, .slice none 0 0, .slice none 0 0, .int .i64 0, .slice none 0 0, .slice none 0 0, .slice none 0 0, .slice none 0 0, .int .i64 0] 55)) w.heap.size (fun _ => (noP, 0)) := by
  refine ⟨_, Blk.new w 55 _, rfl, ?_, fun n hn => ?_⟩
  · intro u hu z e
    simp only [List.mem_cons, List.not_mem_nil, or_false] at hu
    rcases hu with h | h | h | h | h | h | h | h | h | h | h | h | h | h | h <;> rw [h] at e <;> cases e
  · rcases (show n = 0 ∨ n = 1 ∨ n = 2 by omega) with rfl | rfl | rfl <;> exact ⟨none, 0, none, 0, none, 0, none, 0, rfl, rfl, rfl, rfl, rfl, Pg.none _⟩
def updS (S : Nat → (Nat → List UInt8) × Int) (n : Nat) (s : (Nat → List UInt8) × Int) : Nat → (Nat → List UInt8) × Int := fun j => if j = n then s else S j
theorem touch_five (w : World) (b o : Nat) (u0 u1 u2 u3 u4 : Value) : Touch w (((((w.setCell ⟨b, o, none⟩ u0).setCell ⟨b, o + 1, none⟩ u1).setCell ⟨b, o + 2, none⟩ u2).setCell ⟨b, o + 3, none⟩ u3).setCell ⟨b, o + 4, none⟩ u4) (fun a => a = b) := by
  refine Touch.setCell (p := ⟨b, o + 4, none⟩) (Touch.setCell (p := ⟨b, o + 3, none⟩) (Touch.setCell (p := ⟨b, o + 2, none⟩) (Touch.setCell (p := ⟨b, o + 1, none⟩) (Touch.setCell (p := ⟨b, o, none⟩) (Touch.refl w _) ?_ _) ?_ _) ?_ _) ?_ _) ?_ _ <;> exact fun _ => rfl
theorem PgsAt.lay {w : World} {b n : Nat} {S : Nat → (Nat → List UInt8) × Int} {s : (Nat → List UInt8) × Int} {A0 A1 A2 A3 : Option Addr} {c0 c1 c2 c3 : Nat} (h : PgsAt w b S) (hn : n < 3)
    (hp : Pg w (.agg #[.slice A0 (s.1 0).length c0, .slice A1 (s.1 1).length c1, .slice A2 (s.1 2).length c2, .slice A3 (s.1 3).length c3, .int .i64 s.2]) s.1 s.2) :
    PgsAt (((((w.setCell ⟨b, n * 5, none⟩ (.slice A0 (s.1 0).length c0)).setCell ⟨b, n * 5 + 1, none⟩ (.slice A1 (s.1 1).length c1)).setCell ⟨b, n * 5 + 2, none⟩ (.slice A2 (s.1 2).length c2)).setCell ⟨b, n * 5 + 3, none⟩ (.slice A3 (s.1 3).length c3)).setCell ⟨b, n * 5 + 4, none⟩ (.int .i64 s.2)) b (updS S n s) := by
  obtain ⟨cs, hb, hs, h8, hg⟩ := h
  have ht := touch_five w b (n * 5) (.slice A0 (s.1 0).length c0) (.slice A1 (s.1 1).length c1) (.slice A2 (s.1 2).length c2) (.slice A3 (s.1 3).length c3) (.int .i64 s.2)
  have hb2 := ((((hb.set_ (n * 5) (.slice A0 (s.1 0).length c0)).set_ (n * 5 + 1) (.slice A1 (s.1 1).length c1)).set_ (n * 5 + 2) (.slice A2 (s.1 2).length c2)).set_ (n * 5 + 3) (.slice A3 (s.1 3).length c3)).set_ (n * 5 + 4) (.int .i64 s.2)
  refine ⟨_, hb2, by simp [hs], ?_, fun j hj => ?_⟩
  · intro u hu z e
    simp only [Array.toList_setIfInBounds] at hu
    rcases List.mem_or_eq_of_mem_set hu with hu | hu
    · rcases List.mem_or_eq_of_mem_set hu with hu | hu
      · rcases List.mem_or_eq_of_mem_set hu with hu | hu
        · rcases List.mem_or_eq_of_mem_set hu with hu | hu
          · rcases List.mem_or_eq_of_mem_set hu with hu | hu
            · exact h8 u hu z e
            · rw [hu] at e; cases e
          · rw [hu] at e; cases e
        · rw [hu] at e; cases e
      · rw [hu] at e; cases e
    · rw [hu] at e; cases e
  · by_cases ej : j = n
    · subst ej
      unfold updS
      rw [if_pos rfl]
      refine ⟨A0, c0, A1, c1, A2, c2, A3, c3, ?_, ?_, ?_, ?_, ?_, hp.far hb h8 ht⟩ <;> simp only [Array.getElem?_setIfInBounds, Array.size_setIfInBounds, hs] <;> simp <;> omega
    · unfold updS
      rw [if_neg ej]
      obtain ⟨D0, e0, D1, e1, D2, e2, D3, e3, k0, k1, k2, k3, k4, hq⟩ := hg j hj
      refine ⟨D0, e0, D1, e1, D2, e2, D3, e3, ?_, ?_, ?_, ?_, ?_, hq.far hb h8 ht⟩
      · rw [Array.getElem?_setIfInBounds_ne (by omega), Array.getElem?_setIfInBounds_ne (by omega), Array.getElem?_setIfInBounds_ne (by omega), Array.getElem?_setIfInBounds_ne (by omega), Array.getElem?_setIfInBounds_ne (by omega)]; exact k0
      · rw [Array.getElem?_setIfInBounds_ne (by omega), Array.getElem?_setIfInBounds_ne (by omega), Array.getElem?_setIfInBounds_ne (by omega), Array.getElem?_setIfInBounds_ne (by omega), Array.getElem?_setIfInBounds_ne (by omega)]; exact k1
      · rw [Array.getElem?_setIfInBounds_ne (by omega), Array.getElem?_setIfInBounds_ne (by omega), Array.getElem?_setIfInBounds_ne (by omega), Array.getElem?_setIfInBounds_ne (by omega), Array.getElem?_setIfInBounds_ne (by omega)]; exact k2
      · rw [Array.getElem?_setIfInBounds_ne (by omega), Array.getElem?_setIfInBounds_ne (by omega), Array.getElem?_setIfInBounds_ne (by omega), Array.getElem?_setIfInBounds_ne (by omega), Array.getElem?_setIfInBounds_ne (by omega)]; exact k3
      · rw [Array.getElem?_setIfInBounds_ne (by omega), Array.getElem?_setIfInBounds_ne (by omega), Array.getElem?_setIfInBounds_ne (by omega), Array.getElem?_setIfInBounds_ne (by omega), Array.getElem?_setIfInBounds_ne (by omega)]; exact k4
/-- entries stay where a block of another type is written; the array's block too -/
theorem PgsAt.blk {w : World} {b : Nat} {S : Nat → (Nat → List UInt8) × Int} (h : PgsAt w b S) : ∃ cs, Blk w b 55 cs := by
  obtain ⟨cs, hb, _⟩ := h
  exact ⟨cs, hb⟩

/-! ### The plain law -/
def eSet (a0 a1 : Nat) (row : List UInt8) : EntS := { kind := 1, t := 0, u := 0, h := 0, p := 0, nx := 0, a0 := a0, a1 := a1, b0 := 0, b1 := 0, NL := row, mv := [] }
def eMove (a0 a1 b0 b1 : Nat) (row : List UInt8) : EntS := { kind := 7, t := 0, u := 0, h := 0, p := 0, nx := 0, a0 := a0, a1 := a1, b0 := b0, b1 := b1, NL := row, mv := [] }
def eDone (a0 a1 b0 b1 : Nat) : EntS := { kind := 8, t := 0, u := 0, h := 0, p := 0, nx := 0, a0 := 0, a1 := 0, b0 := 0, b1 := 0, NL := [], mv := [⟨a0, a1, b0, b1⟩] }
def es3 (a0 a1 b0 b1 : Nat) (row : List UInt8) : List EntS := [eSet a0 a1 row, eMove a0 a1 b0 b1 row, eDone a0 a1 b0 b1]
section
variable {a0 a1 b0 b1 : Nat} {row : List UInt8}
theorem run1_yes : runP (a0 : Int) (es3 a0 a1 b0 b1 row) 1 = (setP noP a0 a1 a0 row, 1) := by
  simp [runP, es3, stepP, actsP, touchL, eSet, paintF]
theorem run1_no {n : Nat} (h : n ≠ a0) : runP (n : Int) (es3 a0 a1 b0 b1 row) 1 = (noP, 0) := by
  have : ¬ (n : Int) = (a0 : Int) := by omega
  simp [runP, es3, stepP, actsP, touchL, eSet, this]
theorem run2_yes {n : Nat} (h : n = a0 ∨ n = b0) : (runP (n : Int) (es3 a0 a1 b0 b1 row) 2).1 = setP (setP (runP (n : Int) (es3 a0 a1 b0 b1 row) 1).1 a0 a1 n (stubOf b0 b1)) b0 b1 n row := by
  have hle := runP_le (n : Int) (es3 a0 a1 b0 b1 row) 1
  have e : (es3 a0 a1 b0 b1 row)[1]? = some (eMove a0 a1 b0 b1 row) := rfl
  rw [runP_succ e, stepP, if_pos]
  · rfl
  · refine ⟨by simp at hle ⊢; omega, ?_⟩
    simp only [touchL, eMove]
    rcases h with rfl | rfl <;> simp
theorem run3_yes : (runP (a0 : Int) (es3 a0 a1 b0 b1 row) 3).1 = setP (runP (a0 : Int) (es3 a0 a1 b0 b1 row) 2).1 a0 a1 a0 [] := by
  have hle := runP_le (a0 : Int) (es3 a0 a1 b0 b1 row) 2
  have e : (es3 a0 a1 b0 b1 row)[2]? = some (eDone a0 a1 b0 b1) := rfl
  rw [runP_succ e, stepP, if_pos]
  · rfl
  · exact ⟨by simp at hle ⊢; omega, by simp [touchL, eDone]⟩
theorem run3_no {n : Nat} (h : n ≠ a0) : runP (n : Int) (es3 a0 a1 b0 b1 row) 3 = runP (n : Int) (es3 a0 a1 b0 b1 row) 2 := by
  have e : (es3 a0 a1 b0 b1 row)[2]? = some (eDone a0 a1 b0 b1) := rfl
  rw [runP_succ e, stepP, if_neg]
  rintro ⟨_, h2⟩
  simp [touchL, eDone] at h2
  omega
theorem setP_own {f : Nat → List UInt8} {x c : Nat} {l : List UInt8} (hc : c < 4) : setP f x c x l c = l := by
  unfold setP
  rw [if_pos ⟨⟨rfl, by omega, by omega⟩, rfl⟩]
theorem setP_else {f : Nat → List UInt8} {x c n d : Nat} {l : List UInt8} (h : ¬ (x = n ∧ c = d)) : setP f x c n l d = f d := by
  unfold setP
  rw [if_neg]
  rintro ⟨⟨h1, _⟩, h2⟩
  exact h ⟨by omega, by omega⟩
end
end Go.Proofs.Ytaagdjipjeindaa
