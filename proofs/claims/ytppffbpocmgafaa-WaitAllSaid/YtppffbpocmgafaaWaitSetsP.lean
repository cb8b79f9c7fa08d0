/- WaitSets: lists of digits; a rising list against a table of ten. -/
import Derived.Test.YtppffbpocmgafaaWaitB
namespace Go.Proofs.Ytppffbpocmgafaa.waitSets
open Go.ChangeShapes Go.WideShapes Go.ChangeAt Go.RowKit Go.Maps
set_option linter.unusedVariables false

def dg (l : List UInt8) (i : Nat) : Nat := (l.getD i 0).toNat % 10
theorem dg_lt (l : List UInt8) (i : Nat) : dg l i < 10 := Nat.mod_lt _ (by decide)
def ml (l : List UInt8) (k : Nat) : List Int := (List.range k).map fun i : Nat => ((dg l i : Nat) : Int)
theorem ml_length (l : List UInt8) (k : Nat) : (ml l k).length = k := by simp [ml]
theorem ml_succ (l : List UInt8) (k : Nat) : ml l (k + 1) = ml l k ++ [((dg l k : Nat) : Int)] := by
  unfold ml
  rw [List.range_succ, List.map_append]
  rfl
theorem ml_wf (l : List UInt8) (k : Nat) : ∀ x ∈ ml l k, Wf x := by
  intro x hx
  obtain ⟨i, _, rfl⟩ := List.mem_map.1 hx
  have := dg_lt l i
  exact WalkArith.wf_i64 (by omega)
/-- which digits are in, but for 3 -/
def inF (l : List UInt8) (k : Nat) (d : Nat) : Bool := decide (((d : Nat) : Int) ∈ ml l k ∧ d ≠ 3)
theorem inF_zero (l : List UInt8) (d : Nat) : inF l 0 d = false := by simp [inF, ml]
theorem inF_succ (l : List UInt8) (k d : Nat) : inF l (k + 1) d = if d = dg l k then decide (dg l k ≠ 3) else inF l k d := by
  unfold inF
  rw [ml_succ]
  by_cases h : d = dg l k
  · subst h
    simp
  · rw [if_neg h]
    have : ((d : Nat) : Int) ≠ ((dg l k : Nat) : Int) := by omega
    simp [this]
def inA (f : Nat → Bool) : Array Value := #[.bool (f 0), .bool (f 1), .bool (f 2), .bool (f 3), .bool (f 4), .bool (f 5), .bool (f 6), .bool (f 7), .bool (f 8), .bool (f 9)]
theorem inA_at (f : Nat → Bool) {k : Nat} (h : k < 10) : (inA f)[k]? = some (.bool (f k)) := by
  rcases (show k = 0 ∨ k = 1 ∨ k = 2 ∨ k = 3 ∨ k = 4 ∨ k = 5 ∨ k = 6 ∨ k = 7 ∨ k = 8 ∨ k = 9 by omega) with rfl | rfl | rfl | rfl | rfl | rfl | rfl | rfl | rfl | rfl <;> rfl
theorem inA_set (f f' : Nat → Bool) {k : Nat} (h : k < 10) (b : Bool) (hb : f' k = b) (hf : ∀ d, d ≠ k → f' d = f d) : (inA f).setIfInBounds k (.bool b) = inA f' := by
  subst hb
  rcases (show k = 0 ∨ k = 1 ∨ k = 2 ∨ k = 3 ∨ k = 4 ∨ k = 5 ∨ k = 6 ∨ k = 7 ∨ k = 8 ∨ k = 9 by omega) with rfl | rfl | rfl | rfl | rfl | rfl | rfl | rfl | rfl | rfl <;> simp [inA] <;> (repeat' apply And.intro) <;> (exact (hf _ (by decide)).symm)
/-- how many of a list are below -/
def cnt (L : List Int) (i : Int) : Nat := (L.filter fun x => decide (x < i)).length
theorem cnt_le (L : List Int) (i : Int) : cnt L i ≤ L.length := List.length_filter_le _ _
theorem cnt_zero {L : List Int} (h : ∀ x ∈ L, 0 ≤ x) : cnt L 0 = 0 := by
  unfold cnt
  rw [List.filter_eq_nil_iff.2 (fun x hx => by have := h x hx; simp; omega)]
  rfl
theorem cnt_all {L : List Int} {i : Int} (h : ∀ x ∈ L, x < i) : cnt L i = L.length := by
  unfold cnt
  rw [List.filter_eq_self.2 (fun x hx => by have := h x hx; simpa using this)]
theorem cnt_out {L : List Int} {i : Int} (h : i ∉ L) : cnt L (i + 1) = cnt L i := by
  unfold cnt
  congr 1
  refine List.filter_congr (fun x hx => ?_)
  have : x ≠ i := fun e => h (e ▸ hx)
  by_cases h1 : x < i
  · simp [h1]; omega
  · simp [h1]; omega
theorem cnt_in : ∀ {L : List Int} {i : Int}, Rises L → i ∈ L → L[cnt L i]? = some i ∧ cnt L (i + 1) = cnt L i + 1
  | x :: L, i, hr, hi => by
    have hr' : Rises L := List.Pairwise.of_cons hr
    have hx : ∀ y ∈ L, x < y := fun y hy => List.rel_of_pairwise_cons hr hy
    by_cases e : x = i
    · subst e
      have h0 : L.filter (fun y => decide (y < x)) = [] := List.filter_eq_nil_iff.2 (fun y hy => by have := hx y hy; simp; omega)
      have h1 : L.filter (fun y => decide (y < x + 1)) = [] := List.filter_eq_nil_iff.2 (fun y hy => by have := hx y hy; simp; omega)
      have hlt : x < x + 1 := by omega
      unfold cnt
      simp only [List.filter_cons, h0, h1, hlt, decide_true, if_true, Int.lt_irrefl, decide_false, Bool.false_eq_true, if_false]
      exact ⟨rfl, rfl⟩
    · have hi' : i ∈ L := by
        rcases List.mem_cons.1 hi with h | h
        · exact absurd h.symm e
        · exact h
      have hxi := hx i hi'
      obtain ⟨h1, h2⟩ := cnt_in hr' hi'
      have e1 : cnt (x :: L) i = cnt L i + 1 := by unfold cnt; simp [hxi]
      have e2 : cnt (x :: L) (i + 1) = cnt L (i + 1) + 1 := by unfold cnt; rw [List.filter_cons_of_pos (by simp; omega), List.length_cons]
      rw [e1, e2, h2]
      exact ⟨by simpa using h1, rfl⟩
end Go.Proofs.Ytppffbpocmgafaa.waitSets
