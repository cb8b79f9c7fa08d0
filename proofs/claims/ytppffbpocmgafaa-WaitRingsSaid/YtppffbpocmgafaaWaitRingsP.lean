/- WaitRings: rings and rows, as plain graphs. -/
import Derived.Test.YtppffbpocmgafaaWaitD
namespace Go.Proofs.Ytppffbpocmgafaa
set_option linter.unusedVariables false

/-- a ring or a row of k, its first i laid -/
def ringE (k : Nat) (ring : Bool) (i : Nat) : Int → Int → Bool := fun x y => decide (0 ≤ x ∧ x < i ∧ (x + 1 < k ∨ ring = true) ∧ y = if x + 1 < k then x + 1 else 0)
theorem ringE_zero (k : Nat) (ring : Bool) : ringE k ring 0 = fun _ _ => false := by
  funext x y
  unfold ringE
  rw [decide_eq_false_iff_not]
  omega
theorem ringE_skip {k i : Nat} {ring : Bool} (h1 : ¬ i + 1 < k) (h2 : ring = false) : ringE k ring (i + 1) = ringE k ring i := by
  subst h2
  funext x y
  unfold ringE
  rw [decide_eq_decide]
  simp
  omega
theorem ringE_set {k i : Nat} {ring : Bool} {j : Int} (hk : 2 ≤ k) (hi : i < k) (h1 : i + 1 < k ∨ ring = true) (hj : j = if (i : Int) + 1 < k then (i : Int) + 1 else 0) : setE (ringE k ring i) i [j] = ringE k ring (i + 1) := by
  funext x y
  unfold setE ringE but
  by_cases e : x = i
  · subst e
    rw [if_pos rfl, decide_eq_decide]
    simp only [List.mem_singleton]
    have h1' : (i : Int) + 1 < k ∨ ring = true := h1.imp (fun h => by omega) id
    simp only [h1', true_and]
    rw [← hj]
    split at hj <;> omega
  · rw [if_neg e, decide_eq_decide]
    omega
theorem ring_true {k : Nat} (hk : 2 ≤ k) {i : Nat} (hi : i < k) : cyc (ringE k true k) i = true := by
  refine cyc_true ?_
  have edge : ∀ x : Nat, x < k → ringE k true k x (((x + 1) % k : Nat) : Int) = true := by
    intro x hx
    unfold ringE
    rw [decide_eq_true_iff]
    by_cases h : x + 1 < k
    · rw [Nat.mod_eq_of_lt h]
      simp
      omega
    · obtain rfl : k = x + 1 := by omega
      simp
      omega
  have key : ∀ t : Nat, Reach (ringE k true k) i (((i + 1 + t) % k : Nat) : Int) := by
    intro t
    induction t with
    | zero => exact .one (edge i hi)
    | succ t ih =>
      have := edge ((i + 1 + t) % k) (Nat.mod_lt _ (by omega))
      rw [show ((i + 1 + t) % k + 1) % k = (i + 1 + (t + 1)) % k by rw [Nat.mod_add_mod]; rfl] at this
      exact ih.snoc this
  have := key (k - 1)
  rwa [show i + 1 + (k - 1) = i + k by omega, Nat.add_mod_right, Nat.mod_eq_of_lt hi] at this
theorem ring_false {k : Nat} (i : Int) : cyc (ringE k false k) i = false := by
  refine cyc_false fun h => ?_
  have key : ∀ a b, Reach (ringE k false k) a b → a < b := by
    have edge : ∀ a b, ringE k false k a b = true → a < b := by
      intro a b h
      unfold ringE at h
      rw [decide_eq_true_iff] at h
      simp at h
      obtain ⟨_, _, h3, h4⟩ := h
      rw [if_pos h3] at h4
      omega
    intro a b hab
    induction hab with
    | one h => exact edge _ _ h
    | step h _ ih => have := edge _ _ h; omega
  have := key _ _ h
  omega
theorem ring_any {k : Nat} {ring : Bool} (hk : 2 ≤ k) {i : Nat} (hi : i < k) : cyc (ringE k ring k) i = ring := by
  cases ring with
  | true => exact ring_true hk hi
  | false => exact ring_false i
theorem ring_gone {k : Nat} {ring : Bool} {who : Nat} (hw : who < k) (i : Int) : cyc (goneE (ringE k ring k) who) i = false := by
  refine cyc_false fun h => ?_
  have edge : ∀ a b, goneE (ringE k ring k) who a b = true → (if a > who then a - who else a - who + k) < (if b > who then b - who else b - who + k) := by
    intro a b h
    unfold goneE ringE at h
    split at h
    · cases h
    · rename_i hne
      rw [decide_eq_true_iff] at h
      obtain ⟨h0, h1, _, h4⟩ := h
      split at h4 <;> split <;> split <;> omega
  have key : ∀ a b, Reach (goneE (ringE k ring k) who) a b → (if a > who then a - who else a - who + k) < (if b > who then b - who else b - who + k) := by
    intro a b hab
    induction hab with
    | one h => exact edge _ _ h
    | step h _ ih => exact Int.lt_trans (edge _ _ h) ih
  exact Int.lt_irrefl _ (key _ _ h)
end Go.Proofs.Ytppffbpocmgafaa
