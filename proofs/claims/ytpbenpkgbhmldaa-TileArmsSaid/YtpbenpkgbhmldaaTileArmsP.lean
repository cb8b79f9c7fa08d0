/- TileArms: the plain law: which tiles are what, round by round. -/
import Derived.Test.YtpbenpkgbhmldaaTileY
namespace Go.Proofs.Ytpbenpkgbhmldaa.tileArms
set_option linter.unusedVariables false

def UU (i : Nat) : Int → Option (List UInt8) := fun x => if 0 ≤ x ∧ x < i then some (rep 0) else none
def TF (i : Nat) : List (List UInt8) := (List.range 8).map fun j => if j < i then rep 1 else rep 0
def TE (k : Nat) (m : UInt8) : List (List UInt8) := (List.range 8).map fun j => if j ≤ k ∧ bit [m] j = true then rep 1 else rep 0
theorem TF_len (i : Nat) : (TF i).length = 8 := by simp [TF]
theorem TE_len (k : Nat) (m : UInt8) : (TE k m).length = 8 := by simp [TE]
theorem TF_get (i j : Nat) : (TF i)[j]? = if j < 8 then some (if j < i then rep 1 else rep 0) else none := by
  unfold TF
  rw [List.getElem?_map]
  by_cases h : j < 8
  · rw [List.getElem?_range h, if_pos h]; rfl
  · rw [if_neg h, List.getElem?_eq_none (by simp; omega)]; rfl
theorem TE_get (k : Nat) (m : UInt8) (j : Nat) : (TE k m)[j]? = if j < 8 then some (if j ≤ k ∧ bit [m] j = true then rep 1 else rep 0) else none := by
  unfold TE
  rw [List.getElem?_map]
  by_cases h : j < 8
  · rw [List.getElem?_range h, if_pos h]; rfl
  · rw [if_neg h, List.getElem?_eq_none (by simp; omega)]; rfl
theorem TF_zero : TF 0 = blanks 8 := by decide +kernel
theorem UU_zero : UU 0 = fun _ => none := by
  funext x
  unfold UU
  rw [if_neg (by omega)]
theorem TF_set {i : Nat} (hi : i < 8) : (TF i).set i (rep 1) = TF (i + 1) := by
  apply List.ext_getElem?
  intro j
  rw [List.getElem?_set, TF_get, TF_get, TF_len]
  by_cases e : i = j
  · subst e
    rw [if_pos rfl, if_pos hi, if_pos hi, if_pos (by omega)]
  · rw [if_neg e]
    by_cases h : j < 8
    · rw [if_pos h, if_pos h]
      by_cases h2 : j < i
      · rw [if_pos h2, if_pos (by omega)]
      · rw [if_neg h2, if_neg (by omega)]
    · rw [if_neg h, if_neg h]
theorem UU_set {i : Nat} (hi : i < 8) : wrU (TF i) (UU i) i = UU (i + 1) := by
  funext x
  unfold wrU
  by_cases e : x = (i : Int)
  · rw [if_pos e, e]
    unfold UU
    rw [if_neg (by omega), if_pos (by omega)]
    simp only [TF_get, if_pos hi, if_neg (Nat.lt_irrefl i)]
  · rw [if_neg e]
    unfold UU
    by_cases h : 0 ≤ x ∧ x < i
    · rw [if_pos h, if_pos (by omega)]
    · rw [if_neg h, if_neg (by omega)]
theorem cnt_UU (i j : Nat) (h : j ≤ i) : cnt (UU i) j = j := by
  induction j with
  | zero => rfl
  | succ j ih =>
    have h2 : (UU i (j : Nat)).isSome = true := by unfold UU; rw [if_pos (by omega)]; rfl
    rw [cnt, ih (by omega), if_pos h2]
theorem cr_end {k : Nat} (m : UInt8) (hk : k < 8) : crT [m] (UU (k + 1)) (TF (k + 1)) = TE k m := by
  apply List.ext_getElem?
  intro j
  rw [crT_get, TE_get, TF_len]
  by_cases h : j < 8
  · rw [if_pos h, if_pos h]
    have hg : (TF (k + 1)).getD j [] = if j < k + 1 then rep 1 else rep 0 := by
      rw [List.getD_eq_getElem?_getD, TF_get, if_pos h]; rfl
    by_cases h2 : j ≤ k
    · have hu : UU (k + 1) (j : Nat) = some (rep 0) := by unfold UU; rw [if_pos (by omega)]
      rw [hu, cnt_UU _ _ (by omega), hg, if_pos (show j < k + 1 by omega)]
      by_cases hb : bit [m] j = true
      · rw [if_pos ⟨h2, hb⟩]; simp [hb]
      · rw [if_neg (fun e => hb e.2)]; simp [hb]
    · have hu : UU (k + 1) (j : Nat) = none := by unfold UU; rw [if_neg (by omega)]
      rw [hu, hg, if_neg (show ¬ j < k + 1 by omega), if_neg (fun e => h2 e.1)]
  · rw [if_neg h, if_neg h]
end Go.Proofs.Ytpbenpkgbhmldaa.tileArms
