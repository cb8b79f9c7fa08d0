/- Redo: a page as the painter has it; a cell set. -/
import Derived.Test.YtaagdjipjeindaaRedoC
namespace Go.Proofs.Ytaagdjipjeindaa
open Go.ChangeShapes Go.WideShapes Go.ChangeAt Go.RowKit
set_option linter.unusedVariables false

/-- a page's cells behind one is set -/
def setP (f : Nat → List UInt8) (a0 a1 n : Int) (l : List UInt8) : Nat → List UInt8 := fun j => if (a0 = n ∧ 0 ≤ a1 ∧ a1 < 4) ∧ (j : Int) = a1 then l else f j
/-- the painter's block -/
def PgB (w : World) (pb : Nat) (f : Nat → List UInt8) (ls n : Int) : Prop :=
  ∃ u0 u1 u2 u3, Blk w pb 62 #[u0, u1, u2, u3, .int .i64 ls, .int .i64 n] ∧ BBx w pb u0 (f 0) ∧ BBx w pb u1 (f 1) ∧ BBx w pb u2 (f 2) ∧ BBx w pb u3 (f 3)
theorem PgB.ext {w w' : World} {pb : Nat} {f : Nat → List UInt8} {ls n : Int} (h : PgB w pb f ls n) (hx : Ext w w') : PgB w' pb f ls n := by
  obtain ⟨u0, u1, u2, u3, hb, h0, h1, h2, h3⟩ := h
  exact ⟨u0, u1, u2, u3, hx.blk hb, h0.ext hx, h1.ext hx, h2.ext hx, h3.ext hx⟩
theorem setP_no {f : Nat → List UInt8} {a0 a1 n : Int} {l : List UInt8} (h : ¬ (a0 = n ∧ 0 ≤ a1 ∧ a1 < 4)) : setP f a0 a1 n l = f := by
  funext j
  unfold setP
  rw [if_neg (fun e => h e.1)]
/-- the painter sets a cell -/
theorem paint_any (w : World) (pb : Nat) (f : Nat → List UInt8) (ls n a0 a1 : Int) (v : Value) (l : List UInt8) (h : PgB w pb f ls n) (hv : BB w v l) (hl : l.length ≤ 1048576) :
    Calls Try.prog 21 #[.pointer (some ⟨pb, 0, none⟩), .agg #[.int .i64 a0, .int .i64 a1], v] w fun e w' => e = .returned (.tuple #[]) ∧ PgB w' pb (setP f a0 a1 n l) ls n ∧ Touch w w' (fun a => a = pb) := by
  obtain ⟨u0, u1, u2, u3, hb, h0, h1, h2, h3⟩ := h
  obtain ⟨A, c, rfl, hA, hr⟩ := hv
  refine (set_any w pb u0 u1 u2 u3 ls n a0 a1 A c l hb hA hr hl).mono ?_
  rintro e w' ⟨rfl, ht, ⟨hn, hb'⟩ | ⟨hy, v, hbv, hb'⟩⟩
  · refine ⟨rfl, ?_, ht⟩
    rw [setP_no hn]
    exact ⟨u0, u1, u2, u3, hb', h0.touch ht, h1.touch ht, h2.touch ht, h3.touch ht⟩
  · refine ⟨rfl, ?_, ht⟩
    obtain ⟨k, rfl⟩ : ∃ k : Nat, a1 = (k : Int) := ⟨a1.toNat, by omega⟩
    rw [Int.toNat_natCast] at hb'
    have at_ : ∀ j : Nat, setP f a0 k n l j = if j = k then l else f j := fun j => by
      unfold setP
      by_cases e : j = k
      · rw [if_pos e, if_pos ⟨hy, by rw [e]⟩]
      · rw [if_neg e, if_neg (fun h => e (by have := h.2; omega))]
    rcases (show k = 0 ∨ k = 1 ∨ k = 2 ∨ k = 3 by omega) with e | e | e | e <;> subst e
    · exact ⟨v, u1, u2, u3, hb', by rw [at_]; exact hbv, by rw [at_]; exact h1.touch ht, by rw [at_]; exact h2.touch ht, by rw [at_]; exact h3.touch ht⟩
    · exact ⟨u0, v, u2, u3, hb', by rw [at_]; exact h0.touch ht, by rw [at_]; exact hbv, by rw [at_]; exact h2.touch ht, by rw [at_]; exact h3.touch ht⟩
    · exact ⟨u0, u1, v, u3, hb', by rw [at_]; exact h0.touch ht, by rw [at_]; exact h1.touch ht, by rw [at_]; exact hbv, by rw [at_]; exact h3.touch ht⟩
    · exact ⟨u0, u1, u2, v, hb', by rw [at_]; exact h0.touch ht, by rw [at_]; exact h1.touch ht, by rw [at_]; exact h2.touch ht, by rw [at_]; exact hbv⟩
end Go.Proofs.Ytaagdjipjeindaa
