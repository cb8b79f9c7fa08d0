/- Mark: from which entry on one does again, as plain numbers. -/
import Derived.Test.YtmleneljmcikdaaKit
namespace Go.Proofs.Ytmleneljmcikdaa
open Go.RowKit
set_option linter.unusedVariables false

/-- The least of the first k, n where there is none. -/
def least (rs : List Int) (n : Int) : Nat → Int
  | 0 => n
  | k + 1 => if k = 0 ∨ rs.getD k 0 < least rs n k then rs.getD k 0 else least rs n k
theorem least_take {rs : List Int} {n : Int} {k : Nat} (h : k = 0 ∨ rs.getD k 0 < least rs n k) : least rs n (k + 1) = rs.getD k 0 := by
  rw [least, if_pos h]
theorem least_keep {rs : List Int} {n : Int} {k : Nat} (h : ¬ (k = 0 ∨ rs.getD k 0 < least rs n k)) : least rs n (k + 1) = least rs n k := by
  rw [least, if_neg h]
theorem least_le {rs : List Int} {n : Int} : ∀ {k j : Nat}, j < k → least rs n k ≤ rs.getD j 0
  | 0, j, h => by omega
  | k + 1, j, h => by
    by_cases hc : k = 0 ∨ rs.getD k 0 < least rs n k
    · rw [least_take hc]
      rcases Nat.lt_or_ge j k with hj | hj
      · rcases hc with rfl | hc
        · omega
        · have := least_le (rs := rs) (n := n) hj
          omega
      · obtain rfl : j = k := by omega
        exact Int.le_refl _
    · rw [least_keep hc]
      rcases Nat.lt_or_ge j k with hj | hj
      · exact least_le hj
      · obtain rfl : j = k := by omega
        omega
theorem least_is {rs : List Int} {n : Int} : ∀ {k : Nat}, 0 < k → ∃ j, j < k ∧ least rs n k = rs.getD j 0
  | 0, h => by omega
  | k + 1, h => by
    by_cases hc : k = 0 ∨ rs.getD k 0 < least rs n k
    · exact ⟨k, by omega, least_take hc⟩
    · obtain ⟨j, hj, e⟩ := least_is (rs := rs) (n := n) (k := k) (by omega)
      exact ⟨j, by omega, by rw [least_keep hc, e]⟩
/-- Redo -/
def redoV (rs : List Int) (f : Int) : Int := if f = 0 then (if least rs (f + 1) rs.length ≤ 1 then least rs (f + 1) rs.length else 1) else least rs (f + 1) rs.length
theorem redo_le {rs : List Int} {f : Int} {j : Nat} (h : j < rs.length) : redoV rs f ≤ rs.getD j 0 := by
  have := least_le (rs := rs) (n := f + 1) h
  unfold redoV
  split
  · split <;> omega
  · exact this
/-- did one of the first k say n? -/
def isA (rs : List Int) (n : Int) : Nat → Bool
  | 0 => rs.isEmpty
  | k + 1 => isA rs n k || (rs.getD k 0 == n)
theorem isA_of {rs : List Int} {n : Int} {j : Nat} (e : rs.getD j 0 = n) : ∀ {k : Nat}, j < k → isA rs n k = true
  | 0, h => by omega
  | k + 1, h => by
    unfold isA
    rcases Nat.lt_or_ge j k with hj | hj
    · rw [isA_of e hj]; rfl
    · obtain rfl : j = k := by omega
      simp only [e, beq_self_eq_true, Bool.or_true]
theorem isA_nil {n : Int} : isA [] n 0 = true := rfl
/-- what comes out in the end -/
theorem says (rs : List Int) (f : Int) : isA rs (redoV rs f) rs.length = true ∨ (f = 0 ∧ redoV rs f = 1) := by
  by_cases h0 : rs.length = 0
  · obtain rfl : rs = [] := List.eq_nil_of_length_eq_zero h0
    exact .inl rfl
  · obtain ⟨j, hj, e⟩ := least_is (rs := rs) (n := f + 1) (k := rs.length) (by omega)
    by_cases hf : f = 0
    · by_cases h1 : least rs (f + 1) rs.length ≤ 1
      · refine .inl (isA_of ?_ hj)
        unfold redoV
        rw [if_pos hf, if_pos h1, e]
      · refine .inr ⟨hf, ?_⟩
        unfold redoV
        rw [if_pos hf, if_neg h1]
    · refine .inl (isA_of ?_ hj)
      unfold redoV
      rw [if_neg hf, e]
end Go.Proofs.Ytmleneljmcikdaa
