/- Tile: what a crash leaves, in plain lists: the bits of a mask, which tile is the how-manieth loose one. -/
import Derived.Test.YtpbenpkgbhmldaaKit
namespace Go.Proofs.Ytpbenpkgbhmldaa
set_option linter.unusedVariables false

/-- a bit of a mask -/
def bit (M : List UInt8) (i : Nat) : Bool := decide (i / 8 < M.length) && decide (((M.getD (i / 8) 0).toNat / 2 ^ (i % 8)) % 2 = 1)
/-- how many of the tiles below j are loose -/
def cnt (U : Int → Option (List UInt8)) : Nat → Nat
  | 0 => 0
  | j + 1 => cnt U j + (if (U (j : Nat)).isSome then 1 else 0)
/-- the loose tiles below n, rising -/
def keysTo (U : Int → Option (List UInt8)) : Nat → List Int
  | 0 => []
  | j + 1 => keysTo U j ++ (if (U (j : Nat)).isSome then [(j : Int)] else [])
theorem keysTo_len (U : Int → Option (List UInt8)) (n : Nat) : (keysTo U n).length = cnt U n := by
  induction n with
  | zero => rfl
  | succ n ih => simp only [keysTo, cnt, List.length_append, ih]; split <;> rfl
theorem mem_keysTo (U : Int → Option (List UInt8)) (n : Nat) (x : Int) : x ∈ keysTo U n ↔ ∃ j : Nat, j < n ∧ x = j ∧ (U x).isSome = true := by
  induction n with
  | zero => simp [keysTo]
  | succ n ih =>
    rw [keysTo, List.mem_append, ih]
    constructor
    · rintro (⟨j, h1, h2, h3⟩ | h)
      · exact ⟨j, by omega, h2, h3⟩
      · split at h
        · simp at h; subst h; exact ⟨n, by omega, rfl, by assumption⟩
        · simp at h
    · rintro ⟨j, h1, rfl, h3⟩
      by_cases e : j = n
      · subst e; right; rw [if_pos h3]; simp
      · left; exact ⟨j, by omega, rfl, h3⟩
theorem keysTo_rises (U : Int → Option (List UInt8)) (n : Nat) : (keysTo U n).Pairwise (· < ·) := by
  induction n with
  | zero => simp [keysTo]
  | succ n ih =>
    rw [keysTo, List.pairwise_append]
    refine ⟨ih, by split <;> simp, fun a ha b hb => ?_⟩
    obtain ⟨j, h1, rfl, _⟩ := (mem_keysTo U n a).1 ha
    split at hb
    · simp at hb; omega
    · simp at hb
theorem cnt_mono (U : Int → Option (List UInt8)) {i j : Nat} (h : i ≤ j) : cnt U i ≤ cnt U j := by
  induction h with
  | refl => exact Nat.le_refl _
  | step h ih => exact Nat.le_trans ih (by rw [cnt]; omega)
theorem cnt_lt (U : Int → Option (List UInt8)) {i j : Nat} (h : i < j) (hi : (U (i : Nat)).isSome = true) : cnt U i < cnt U j := by
  have h1 : cnt U (i + 1) = cnt U i + 1 := by rw [cnt, if_pos hi]
  have := cnt_mono U (show i + 1 ≤ j by omega)
  omega
theorem cnt_le (U : Int → Option (List UInt8)) (n : Nat) : cnt U n ≤ n := by
  induction n with
  | zero => exact Nat.le_refl _
  | succ n ih => rw [cnt]; split <;> omega
theorem keysTo_at (U : Int → Option (List UInt8)) (n i : Nat) (x : Int) (h : (keysTo U n)[i]? = some x) : ∃ j : Nat, j < n ∧ x = j ∧ (U x).isSome = true ∧ cnt U j = i := by
  induction n with
  | zero => simp [keysTo] at h
  | succ n ih =>
    rw [keysTo] at h
    by_cases hi : i < (keysTo U n).length
    · rw [List.getElem?_append_left hi] at h
      obtain ⟨j, h1, h2⟩ := ih h
      exact ⟨j, by omega, h2⟩
    · rw [List.getElem?_append_right (by omega)] at h
      split at h
      · rename_i hs
        have h0 : i - (keysTo U n).length = 0 := by have := (List.getElem?_eq_some_iff.1 h).1; simp at this; omega
        rw [h0] at h
        simp at h
        subst h
        exact ⟨n, by omega, rfl, hs, by rw [← keysTo_len]; omega⟩
      · simp at h
/-- what the tiles are when the first k loose ones have been looked at -/
def crTo (M : List UInt8) (U : Int → Option (List UInt8)) (T : List (List UInt8)) (k : Nat) : List (List UInt8) :=
  (List.range T.length).map fun j => match U (j : Nat) with
    | some u => if decide (cnt U j < k) && !bit M (cnt U j) then u else T.getD j []
    | none => T.getD j []
/-- what a crash leaves -/
def crT (M : List UInt8) (U : Int → Option (List UInt8)) (T : List (List UInt8)) : List (List UInt8) :=
  (List.range T.length).map fun j => match U (j : Nat) with
    | some u => if bit M (cnt U j) then T.getD j [] else u
    | none => T.getD j []
theorem crTo_len (M : List UInt8) (U : Int → Option (List UInt8)) (T : List (List UInt8)) (k : Nat) : (crTo M U T k).length = T.length := by simp [crTo]
theorem crT_len (M : List UInt8) (U : Int → Option (List UInt8)) (T : List (List UInt8)) : (crT M U T).length = T.length := by simp [crT]
theorem crTo_get (M : List UInt8) (U : Int → Option (List UInt8)) (T : List (List UInt8)) (k j : Nat) : (crTo M U T k)[j]? = if j < T.length then some (match U (j : Nat) with
    | some u => if decide (cnt U j < k) && !bit M (cnt U j) then u else T.getD j []
    | none => T.getD j []) else none := by
  unfold crTo
  rw [List.getElem?_map]
  by_cases h : j < T.length
  · rw [List.getElem?_range h, if_pos h]; rfl
  · rw [if_neg h, List.getElem?_eq_none (by simp; omega)]; rfl
theorem crT_get (M : List UInt8) (U : Int → Option (List UInt8)) (T : List (List UInt8)) (j : Nat) : (crT M U T)[j]? = if j < T.length then some (match U (j : Nat) with
    | some u => if bit M (cnt U j) then T.getD j [] else u
    | none => T.getD j []) else none := by
  unfold crT
  rw [List.getElem?_map]
  by_cases h : j < T.length
  · rw [List.getElem?_range h, if_pos h]; rfl
  · rw [if_neg h, List.getElem?_eq_none (by simp; omega)]; rfl
theorem crTo_zero (M : List UInt8) (U : Int → Option (List UInt8)) (T : List (List UInt8)) : crTo M U T 0 = T := by
  apply List.ext_getElem?
  intro j
  rw [crTo_get]
  by_cases h : j < T.length
  · rw [if_pos h, List.getElem?_eq_getElem h]
    split <;> simp [h]
  · rw [if_neg h, List.getElem?_eq_none (by omega)]
theorem crTo_all (M : List UInt8) (U : Int → Option (List UInt8)) (T : List (List UInt8)) : crTo M U T (cnt U T.length) = crT M U T := by
  apply List.ext_getElem?
  intro j
  rw [crTo_get, crT_get]
  by_cases h : j < T.length
  · rw [if_pos h, if_pos h]
    cases hu : U (j : Nat) with
    | none => rfl
    | some u =>
      have := cnt_lt U h (by rw [hu]; rfl)
      simp only [this, decide_true, Bool.true_and]
      cases bit M (cnt U j) <;> simp
  · rw [if_neg h, if_neg h]
theorem crTo_skip (M : List UInt8) (U : Int → Option (List UInt8)) (T : List (List UInt8)) (k : Nat) (h : bit M k = true) : crTo M U T (k + 1) = crTo M U T k := by
  apply List.ext_getElem?
  intro j
  rw [crTo_get, crTo_get]
  by_cases hj : j < T.length
  · rw [if_pos hj, if_pos hj]
    cases hu : U (j : Nat) with
    | none => rfl
    | some u =>
      by_cases e : cnt U j = k
      · simp [e, h]
      · have e2 : (cnt U j < k + 1) ↔ (cnt U j < k) := by omega
        simp [e2]
  · rw [if_neg hj, if_neg hj]
theorem crTo_set (M : List UInt8) (U : Int → Option (List UInt8)) (T : List (List UInt8)) (k x : Nat) (u : List UInt8) (h : bit M k = false) (hx : x < T.length) (hc : cnt U x = k) (hu : U (x : Nat) = some u) : crTo M U T (k + 1) = (crTo M U T k).set x u := by
  apply List.ext_getElem?
  intro j
  rw [crTo_get, List.getElem?_set, crTo_get, crTo_len]
  by_cases e : x = j
  · subst e
    rw [if_pos hx, if_pos rfl, if_pos hx, hu]
    simp [hc, h]
  · rw [if_neg e]
    by_cases hj : j < T.length
    · rw [if_pos hj, if_pos hj]
      cases hu' : U (j : Nat) with
      | none => rfl
      | some u' =>
        have hne : cnt U j ≠ k := by
          intro e2
          rcases Nat.lt_or_ge j x with hlt | hge
          · have := cnt_lt U hlt (by rw [hu']; rfl); omega
          · have := cnt_lt U (show x < j by omega) (by rw [hu]; rfl); omega
        have e2 : (cnt U j < k + 1) ↔ (cnt U j < k) := by omega
        simp [e2]
    · rw [if_neg hj, if_neg hj]
/-- what is kept of a tile that is written -/
def wrU (T : List (List UInt8)) (U : Int → Option (List UInt8)) (k : Nat) : Int → Option (List UInt8) := fun x => if x = (k : Int) then (match U x with | some u => some u | none => T[k]?) else U x
/-- the plan behind one operation more -/
def dec : Option (Int × List UInt8) → Option (Int × List UInt8)
  | none => none
  | some (a, M) => some (a - 1, M)
end Go.Proofs.Ytpbenpkgbhmldaa
