/- TileSubset: the plain law: what is loose, and what survives. -/
import Derived.Test.YtpbenpkgbhmldaaTileY
namespace Go.Proofs.Ytpbenpkgbhmldaa.tileSubset
open Go.RowKit
set_option linter.unusedVariables false

def UL (vs : List UInt8) (bs : List Bool) : Int → Option (List UInt8) := fun x => if 0 ≤ x ∧ bs[x.toNat]? = some true then (vs[x.toNat]?).map rep else none
structure Inv (vs us : List UInt8) (bs : List Bool) : Prop where
  v : vs.length = 10
  u : us.length = 10
  b : bs.length = 10
  eq : ∀ j : Nat, bs[j]? = some false → us[j]? = vs[j]?
theorem UL_at (vs : List UInt8) (bs : List Bool) (k : Nat) : UL vs bs (k : Int) = if bs[k]? = some true then (vs[k]?).map rep else none := by
  unfold UL
  by_cases h : bs[k]? = some true
  · rw [if_pos ⟨by omega, by simpa using h⟩, if_pos h]; simp
  · rw [if_neg (fun e => h (by simpa using e.2)), if_neg h]
theorem Inv.put {vs us : List UInt8} {bs : List Bool} (h : Inv vs us bs) {k : Nat} (hk : k < 10) (c : UInt8) : Inv vs (us.set k c) (bs.set k true) := by
  refine ⟨h.v, by rw [List.length_set]; exact h.u, by rw [List.length_set]; exact h.b, fun (j : Nat) hj => ?_⟩
  rw [List.getElem?_set] at hj ⊢
  by_cases e : k = j
  · rw [if_pos e] at hj
    split at hj <;> simp at hj
  · rw [if_neg e] at hj ⊢
    exact h.eq j hj
theorem UL_set {vs us : List UInt8} {bs : List Bool} (h : Inv vs us bs) {k : Nat} (hk : k < 10) : wrU (us.map rep) (UL vs bs) k = UL vs (bs.set k true) := by
  funext x
  unfold wrU
  by_cases e : x = (k : Int)
  · rw [if_pos e, e, UL_at, UL_at]
    have e1 : (bs.set k true)[k]? = some true := by rw [List.getElem?_set, if_pos rfl, if_pos (by rw [h.b]; exact hk)]
    rw [e1, if_pos (c := some true = some true) rfl]
    obtain ⟨v, hv⟩ : ∃ v, vs[k]? = some v := ⟨_, List.getElem?_eq_getElem (by rw [h.v]; exact hk)⟩
    obtain ⟨b, hb⟩ : ∃ b, bs[k]? = some b := ⟨_, List.getElem?_eq_getElem (by rw [h.b]; exact hk)⟩
    cases b with
    | true => rw [if_pos hb, hv]; rfl
    | false => rw [if_neg (by rw [hb]; simp), List.getElem?_map, h.eq k hb]
  · rw [if_neg e]
    unfold UL
    by_cases h0 : 0 ≤ x
    · have e2 : (bs.set k true)[x.toNat]? = bs[x.toNat]? := by rw [List.getElem?_set, if_neg (by omega)]
      rw [e2]
    · rw [if_neg (fun e => h0 e.1), if_neg (fun e => h0 e.1)]
theorem UL_some {vs us : List UInt8} {bs : List Bool} (h : Inv vs us bs) (k : Nat) (hk : k < 10) (b : Bool) (hb : bs[k]? = some b) : (UL vs bs (k : Int)).isSome = b := by
  rw [UL_at]
  cases b with
  | true =>
    rw [if_pos hb]
    rw [List.getElem?_eq_getElem (by rw [h.v]; exact hk)]
    rfl
  | false => rw [if_neg (by rw [hb]; simp)]; rfl
theorem cnt_step {vs us : List UInt8} {bs : List Bool} (h : Inv vs us bs) (k : Nat) (hk : k < 10) (b : Bool) (hb : bs[k]? = some b) : cnt (UL vs bs) (k + 1) = cnt (UL vs bs) k + (if b then 1 else 0) := by
  rw [cnt, UL_some h k hk b hb]
theorem survives {vs us : List UInt8} {bs : List Bool} (h : Inv vs us bs) (M : List UInt8) {k : Nat} {v u : UInt8} {b : Bool} (hv : vs[k]? = some v) (hu : us[k]? = some u) (hb : bs[k]? = some b) :
    (crT M (UL vs bs) (us.map rep))[k]? = some (rep (if b then (if bit M (cnt (UL vs bs) k) then u else v) else v)) := by
  have hk : k < 10 := by rw [← h.v]; exact (List.getElem?_eq_some_iff.1 hv).1
  rw [crT_get, if_pos (by rw [List.length_map, h.u]; exact hk), UL_at]
  have hT : (us.map rep).getD k [] = rep u := by rw [List.getD_eq_getElem?_getD, List.getElem?_map, hu]; rfl
  cases b with
  | true =>
    rw [if_pos hb, hv]
    simp only [Option.map_some, hT, if_true]
    cases bit M (cnt (UL vs bs) k) <;> rfl
  | false =>
    rw [if_neg (by rw [hb]; simp)]
    have := h.eq k hb
    rw [hu, hv] at this
    injection this with this
    subst this
    simp only [hT]
    rfl
theorem and_one_u16 (a : Nat) (ha : a < 65536) : bits .and .u16 (a : Int) 1 = ((a % 2 : Nat) : Int) := by
  have h1 : (BitVec.ofInt 16 (a : Int)).toNat = a := by
    rw [BitVec.ofInt_natCast, BitVec.toNat_ofNat]; exact Nat.mod_eq_of_lt (by omega)
  have h2 : (BitVec.ofInt 16 1).toNat = 1 := by decide
  show IntKind.u16.wrap ((BitVec.ofInt 16 (a : Int) &&& BitVec.ofInt 16 1).toNat : Int) = _
  rw [BitVec.toNat_and, h1, h2, Nat.and_one_is_mod]
  simp [IntKind.wrap, IntKind.bits, IntKind.signed]
  omega
theorem and_eq_one16 (z r : Nat) (hz : z < 65536) : (bits .and .u16 ((z : Int) / 2 ^ r) 1 == 1) = decide (z / 2 ^ r % 2 = 1) := by
  have h1 : (z : Int) / 2 ^ r = ((z / 2 ^ r : Nat) : Int) := by simp
  have h2 : z / 2 ^ r < 65536 := Nat.lt_of_le_of_lt (Nat.div_le_self _ _) hz
  rw [h1, and_one_u16 _ h2]
  rcases Nat.mod_two_eq_zero_or_one (z / 2 ^ r) with h | h <;> rw [h] <;> rfl
/-- the mask's two bytes say what its number says -/
theorem bit_two (z n : Nat) (hz : z < 65536) (hn : n < 16) : bit [UInt8.ofNat (z % 256), UInt8.ofNat (z / 256)] n = decide (z / 2 ^ n % 2 = 1) := by
  have h1 : (UInt8.ofNat (z % 256)).toNat = z % 256 := by simp
  have h2 : (UInt8.ofNat (z / 256)).toNat = z / 256 := by simp; omega
  have p : ∀ n, n < 16 → (∀ z, z < 65536 → bit [UInt8.ofNat (z % 256), UInt8.ofNat (z / 256)] n = decide (z / 2 ^ n % 2 = 1)) := by
    intro n hn z hz
    have h1 : (UInt8.ofNat (z % 256)).toNat = z % 256 := by simp
    have h2 : (UInt8.ofNat (z / 256)).toNat = z / 256 := by simp; omega
    by_cases h8 : n < 8
    · have e1 : n / 8 = 0 := by omega
      have e2 : n % 8 = n := by omega
      unfold bit
      rw [e1, e2]
      simp only [List.length_cons, List.length_nil, List.getD_cons_zero, h1]
      have : n = 0 ∨ n = 1 ∨ n = 2 ∨ n = 3 ∨ n = 4 ∨ n = 5 ∨ n = 6 ∨ n = 7 := by omega
      rcases this with rfl | rfl | rfl | rfl | rfl | rfl | rfl | rfl <;> simp <;> omega
    · have e1 : n / 8 = 1 := by omega
      obtain ⟨m, rfl⟩ : ∃ m, n = m + 8 := ⟨n - 8, by omega⟩
      have e2 : (m + 8) % 8 = m := by omega
      unfold bit
      rw [e1, e2]
      simp only [List.length_cons, List.length_nil, List.getD_cons_succ, List.getD_cons_zero, h2]
      have : m = 0 ∨ m = 1 ∨ m = 2 ∨ m = 3 ∨ m = 4 ∨ m = 5 ∨ m = 6 ∨ m = 7 := by omega
      rcases this with rfl | rfl | rfl | rfl | rfl | rfl | rfl | rfl <;> simp <;> omega
  exact p n hn z hz
end Go.Proofs.Ytpbenpkgbhmldaa.tileSubset
