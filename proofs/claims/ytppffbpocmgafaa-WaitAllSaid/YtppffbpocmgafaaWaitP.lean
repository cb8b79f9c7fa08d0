/- Wait: who comes round, as plain graphs. -/
import Derived.Test.YtppffbpocmgafaaWait
namespace Go.Proofs.Ytppffbpocmgafaa
set_option linter.unusedVariables false

inductive Reach (E : Int → Int → Bool) : Int → Int → Prop
  | one {a b : Int} : E a b = true → Reach E a b
  | step {a b c : Int} : E a b = true → Reach E b c → Reach E a c
theorem Reach.snoc {E : Int → Int → Bool} {a b c : Int} (h : Reach E a b) (k : E b c = true) : Reach E a c := by
  induction h with
  | one h => exact .step h (.one k)
  | step h _ ih => exact .step h (ih k)
theorem Reach.trans {E : Int → Int → Bool} {a b c : Int} (h : Reach E a b) (k : Reach E b c) : Reach E a c := by
  induction h with
  | one h => exact .step h k
  | step h _ ih => exact .step h (ih k)
open Classical in
noncomputable def cyc (E : Int → Int → Bool) (x : Int) : Bool := if Reach E x x then true else false
theorem cyc_true {E : Int → Int → Bool} {x : Int} (h : Reach E x x) : cyc E x = true := by unfold cyc; rw [if_pos h]
theorem cyc_false {E : Int → Int → Bool} {x : Int} (h : ¬ Reach E x x) : cyc E x = false := by unfold cyc; rw [if_neg h]
/-- how a search stands: what was seen, what is on the pile -/
structure Dfs (E : Int → Int → Bool) (who : Int) (seen : Int → Bool) (l : List Int) : Prop where
  a : ∀ y ∈ l, Reach E who y
  r : ∀ y, seen y = true → Reach E who y
  b : seen who = false
  c : ∀ y, E who y = true → seen y = true ∨ y ∈ l
  d : ∀ x, seen x = true → ∀ y, E x y = true → seen y = true ∨ y ∈ l
section
variable {E : Int → Int → Bool} {who x : Int} {seen : Int → Bool} {l L : List Int}
theorem Dfs.start (h : ∀ y, y ∈ L ↔ E who y = true) : Dfs E who (fun _ => false) L :=
  ⟨fun y hy => .one ((h y).1 hy), (fun y hy => by cases hy), rfl, fun y hy => .inr ((h y).2 hy), (fun x hx => by cases hx)⟩
theorem Dfs.hit (h : Dfs E who seen (l ++ [who])) : cyc E who = true := cyc_true (h.a who (by simp))
theorem Dfs.skip (h : Dfs E who seen (l ++ [x])) (hs : seen x = true) : Dfs E who seen l :=
  ⟨fun y hy => h.a y (by simp [hy]), h.r, h.b, fun y hy => by
    rcases h.c y hy with h1 | h1
    · exact .inl h1
    · simp at h1
      rcases h1 with h1 | h1
      · exact .inr h1
      · exact .inl (h1 ▸ hs), fun z hz y hy => by
    rcases h.d z hz y hy with h1 | h1
    · exact .inl h1
    · simp at h1
      rcases h1 with h1 | h1
      · exact .inr h1
      · exact .inl (h1 ▸ hs)⟩
theorem Dfs.see (h : Dfs E who seen (l ++ [x])) (hx : x ≠ who) (hL : ∀ y, y ∈ L ↔ E x y = true) : Dfs E who (put seen x) (l ++ L) := by
  have hrx : Reach E who x := h.a x (by simp)
  have up : ∀ y, (seen y = true ∨ y ∈ l ++ [x]) → put seen x y = true ∨ y ∈ l ++ L := fun y hy => by
    unfold put
    by_cases e : y = x
    · left; simp [e]
    · rcases hy with h1 | h1
      · left; simp [e, h1]
      · right
        simp [e] at h1
        simp [h1]
  refine ⟨fun y hy => ?_, fun y hy => ?_, ?_, fun y hy => up y (h.c y hy), fun z hz y hy => ?_⟩
  · simp at hy
    rcases hy with h1 | h1
    · exact h.a y (by simp [h1])
    · exact hrx.snoc ((hL y).1 h1)
  · unfold put at hy
    by_cases e : y = x
    · exact e ▸ hrx
    · simp [e] at hy
      exact h.r y hy
  · unfold put
    rw [if_neg (Ne.symm hx)]
    exact h.b
  · unfold put at hz
    by_cases e : z = x
    · right
      simp
      exact .inr ((hL y).2 (e ▸ hy))
    · simp [e] at hz
      exact up y (h.d z hz y hy)
theorem Dfs.done (h : Dfs E who seen []) : cyc E who = false := by
  refine cyc_false fun hr => ?_
  have key : ∀ a b, Reach E a b → (a = who ∨ seen a = true) → seen b = true := by
    intro a b hab
    induction hab with
    | one hE =>
      intro ha
      rcases ha with rfl | ha
      · rcases h.c _ hE with h1 | h1
        · exact h1
        · cases h1
      · rcases h.d _ ha _ hE with h1 | h1
        · exact h1
        · cases h1
    | step hE _ ih =>
      intro ha
      refine ih (.inr ?_)
      rcases ha with rfl | ha
      · rcases h.c _ hE with h1 | h1
        · exact h1
        · cases h1
      · rcases h.d _ ha _ hE with h1 | h1
        · exact h1
        · cases h1
  have := key who who hr (.inl rfl)
  rw [h.b] at this
  cases this
end
/-- how many of a list were not seen -/
def rest (ks : List Int) (seen : Int → Bool) : Nat := (ks.filter fun x => !seen x).length
theorem rest_le (ks : List Int) (seen : Int → Bool) (x : Int) : rest ks (put seen x) ≤ rest ks seen := by
  unfold rest
  induction ks with
  | nil => simp
  | cons k ks ih =>
    simp only [List.filter_cons]
    unfold put at *
    by_cases e : k = x
    · simp only [e, if_true, Bool.not_true, Bool.false_eq_true, if_false]
      split
      · simp only [List.length_cons]; omega
      · exact ih
    · simp only [e, if_false]
      split
      · simp only [List.length_cons]; omega
      · exact ih
theorem rest_lt {ks : List Int} {seen : Int → Bool} {x : Int} (hx : x ∈ ks) (hs : seen x = false) : rest ks (put seen x) < rest ks seen := by
  unfold rest
  induction ks with
  | nil => cases hx
  | cons k ks ih =>
    have hle := rest_le ks seen x
    unfold rest at hle
    simp only [List.filter_cons]
    by_cases e : k = x
    · subst e
      simp only [put, if_pos, Bool.not_true, Bool.false_eq_true, if_false, hs, Bool.not_false, List.length_cons]
      unfold put at hle
      omega
    · have hx' : x ∈ ks := by
        rcases List.mem_cons.1 hx with h | h
        · exact absurd h.symm e
        · exact h
      have := ih hx'
      have e1 : put seen x k = seen k := by unfold put; rw [if_neg e]
      rw [e1]
      split
      · simp only [List.length_cons]; omega
      · exact this
end Go.Proofs.Ytppffbpocmgafaa
