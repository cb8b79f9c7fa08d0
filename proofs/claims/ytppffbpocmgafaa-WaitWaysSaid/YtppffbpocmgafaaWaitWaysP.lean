/- WaitWays: all ways of all lengths, as plain graphs; the two tables in memory. -/
import Derived.Test.YtppffbpocmgafaaWaitSetsP
namespace Go.Proofs.Ytppffbpocmgafaa
open Go.ChangeShapes Go.WideShapes Go.ChangeAt Go.RowKit Go.Maps
set_option linter.unusedVariables false

/-! ### ways through the first k -/
def Way (C0 : Nat → Nat → Bool) : Nat → Nat → Nat → Prop
  | 0, a, b => C0 a b = true
  | k + 1, a, b => Way C0 k a b ∨ (Way C0 k a k ∧ Way C0 k k b)
theorem Way.join {C0 : Nat → Nat → Bool} : ∀ (k a m b : Nat), m < k → Way C0 k a m → Way C0 k m b → Way C0 k a b
  | 0, _, _, _, h, _, _ => absurd h (by omega)
  | k + 1, a, m, b, h, h1, h2 => by
    have ih := Way.join (C0 := C0) k
    rcases Nat.lt_or_ge m k with hm | hm
    · rcases h1 with h1 | ⟨h1, h1'⟩ <;> rcases h2 with h2 | ⟨h2, h2'⟩
      · exact .inl (ih a m b hm h1 h2)
      · exact .inr ⟨ih a m k hm h1 h2, h2'⟩
      · exact .inr ⟨h1, ih k m b hm h1' h2⟩
      · exact .inr ⟨h1, h2'⟩
    · obtain rfl : m = k := by omega
      have e1 : Way C0 m a m := by rcases h1 with h1 | ⟨h1, _⟩ <;> exact h1
      have e2 : Way C0 m m b := by rcases h2 with h2 | ⟨_, h2⟩ <;> exact h2
      exact .inr ⟨e1, e2⟩
theorem Way.up {C0 : Nat → Nat → Bool} {a b : Nat} (h : C0 a b = true) : ∀ k, Way C0 k a b
  | 0 => h
  | k + 1 => .inl (Way.up h k)
/-- how the table stands in round k, at a, b -/
structure FW (E : Int → Int → Bool) (C0 C : Nat → Nat → Bool) (k i j : Nat) : Prop where
  sound : ∀ a b, a < 8 → b < 8 → C a b = true → Reach E a b
  mono : ∀ a b, a < 8 → b < 8 → Way C0 k a b → C a b = true
  done : ∀ a b, a < 8 → b < 8 → (a < i ∨ a = i ∧ b < j) → Way C0 (k + 1) a b → C a b = true
/-- one more is reckoned -/
def stepC (C : Nat → Nat → Bool) (i j : Nat) (v : Bool) : Nat → Nat → Bool := fun a b => if a = i ∧ b = j then v else C a b
section
variable {E : Int → Int → Bool} {C0 C : Nat → Nat → Bool} {k i j : Nat}
theorem FW.start (h : ∀ a b, a < 8 → b < 8 → C0 a b = true → E a b = true) : FW E C0 C0 0 0 0 :=
  ⟨fun a b ha hb hc => .one (h a b ha hb hc), fun a b _ _ hw => hw, fun a b _ _ hlt => absurd hlt (by omega)⟩
theorem FW.step (h : FW E C0 C k i j) (hk : k < 8) (hi : i < 8) (hj : j < 8) : FW E C0 (stepC C i j (C i j || (C i k && C k j))) k i (j + 1) := by
  have hs : ∀ a b, a < 8 → b < 8 → C a b = true → stepC C i j (C i j || (C i k && C k j)) a b = true := by
    intro a b _ _ hc
    unfold stepC
    split
    · rename_i e
      rw [← e.1, ← e.2, hc]
      rfl
    · exact hc
  refine ⟨fun a b ha hb hc => ?_, fun a b ha hb hw => hs a b ha hb (h.mono a b ha hb hw), fun a b ha hb hlt hw => ?_⟩
  · unfold stepC at hc
    split at hc
    · rename_i e
      obtain ⟨rfl, rfl⟩ := e
      rw [Bool.or_eq_true, Bool.and_eq_true] at hc
      rcases hc with hc | ⟨h1, h2⟩
      · exact h.sound _ _ ha hb hc
      · exact (h.sound _ _ ha hk h1).trans (h.sound _ _ hk hb h2)
    · exact h.sound _ _ ha hb hc
  · by_cases e : a = i ∧ b = j
    · unfold stepC
      rw [if_pos e]
      obtain ⟨rfl, rfl⟩ := e
      rw [Bool.or_eq_true, Bool.and_eq_true]
      rcases hw with hw | ⟨h1, h2⟩
      · exact .inl (h.mono _ _ ha hb hw)
      · exact .inr ⟨h.mono _ _ ha hk h1, h.mono _ _ hk hb h2⟩
    · exact hs a b ha hb (h.done a b ha hb (by omega) hw)
theorem FW.row (h : FW E C0 C k i 8) : FW E C0 C k (i + 1) 0 := ⟨h.sound, h.mono, fun a b ha hb hlt hw => h.done a b ha hb (by omega) hw⟩
theorem FW.round (h : FW E C0 C k 8 0) : FW E C0 C (k + 1) 0 0 := ⟨h.sound, fun a b ha hb hw => h.done a b ha hb (.inl ha) hw, fun a b _ _ hlt => absurd hlt (by omega)⟩
theorem FW.cyc (h : FW E C0 C 8 0 0) (hE : ∀ x y, E x y = true → ∃ a b : Nat, x = a ∧ y = b ∧ a < 8 ∧ b < 8 ∧ C0 a b = true) {i : Nat} (hi : i < 8) : cyc E i = C i i := by
  have key : ∀ x y, Reach E x y → ∃ a b : Nat, x = a ∧ y = b ∧ a < 8 ∧ b < 8 ∧ Way C0 8 a b := by
    intro x y hr
    induction hr with
    | one he =>
      obtain ⟨a, b, h1, h2, h3, h4, h5⟩ := hE _ _ he
      exact ⟨a, b, h1, h2, h3, h4, Way.up h5 8⟩
    | step he _ ih =>
      obtain ⟨a, b, h1, h2, h3, h4, h5⟩ := hE _ _ he
      obtain ⟨b', c, k1, k2, k3, k4, k5⟩ := ih
      obtain rfl : b = b' := by omega
      exact ⟨a, c, h1, k2, h3, k4, Way.join 8 a b c h4 (Way.up h5 8) k5⟩
  cases hc : C i i with
  | true => exact cyc_true (h.sound i i hi hi hc)
  | false =>
    refine cyc_false fun hr => ?_
    obtain ⟨a, b, h1, h2, h3, h4, h5⟩ := key _ _ hr
    obtain rfl : i = a := by omega
    obtain rfl : i = b := by omega
    have := h.mono i i hi hi h5
    rw [hc] at this
    cases this
end
/-! ### the two tables -/
def canA (C : Nat → Nat → Bool) : Array Value := Array.ofFn (n := 64) fun t => .bool (C (t.val / 8) (t.val % 8))
theorem canA_size (C : Nat → Nat → Bool) : (canA C).size = 64 := by simp [canA]
theorem canA_at (C : Nat → Nat → Bool) {a b : Nat} (ha : a < 8) (hb : b < 8) : (canA C)[a * 8 + b]? = some (.bool (C a b)) := by
  unfold canA
  rw [Array.getElem?_ofFn, dif_pos (by omega)]
  simp only [show (a * 8 + b) / 8 = a by omega, show (a * 8 + b) % 8 = b by omega]
theorem canA_set (C : Nat → Nat → Bool) {a b : Nat} (v : Bool) (ha : a < 8) (hb : b < 8) : (canA C).setIfInBounds (a * 8 + b) (.bool v) = canA (stepC C a b v) := by
  apply Array.ext
  · simp [canA]
  · intro t h1 h2
    rw [canA_size] at h2
    rw [Array.getElem_setIfInBounds (by simpa [canA] using h2)]
    simp only [canA, Array.getElem_ofFn, stepC]
    by_cases e : a * 8 + b = t
    · rw [if_pos e, if_pos (by omega)]
    · rw [if_neg e, if_neg (by omega)]
def onA (V : Nat → Value) : Array Value := #[V 0, V 1, V 2, V 3, V 4, V 5, V 6, V 7]
def putV (V : Nat → Value) (a : Nat) (v : Value) : Nat → Value := fun x => if x = a then v else V x
theorem onA_at (V : Nat → Value) {a : Nat} (h : a < 8) : (onA V)[a]? = some (V a) := by
  rcases (show a = 0 ∨ a = 1 ∨ a = 2 ∨ a = 3 ∨ a = 4 ∨ a = 5 ∨ a = 6 ∨ a = 7 by omega) with rfl | rfl | rfl | rfl | rfl | rfl | rfl | rfl <;> rfl
theorem onA_set (V : Nat → Value) {a : Nat} (v : Value) (h : a < 8) : (onA V).setIfInBounds a v = onA (putV V a v) := by
  rcases (show a = 0 ∨ a = 1 ∨ a = 2 ∨ a = 3 ∨ a = 4 ∨ a = 5 ∨ a = 6 ∨ a = 7 by omega) with rfl | rfl | rfl | rfl | rfl | rfl | rfl | rfl <;> rfl
/-- the ways of one step that the lists say -/
def c0 (L : Nat → List Int) : Nat → Nat → Bool := fun a b => decide ((b : Int) ∈ L a ∧ a ≠ b)
def putL (L : Nat → List Int) (a : Nat) (b : Nat) : Nat → List Int := fun x => if x = a then L a ++ [(b : Int)] else L x
theorem c0_put (L : Nat → List Int) (a b : Nat) : stepC (c0 L) a b (c0 L a b || decide (a ≠ b)) = c0 (putL L a b) := by
  funext x y
  unfold stepC c0 putL
  by_cases hx : x = a
  · subst hx
    by_cases hy : y = b
    · subst hy
      simp
    · have hne : ¬ ((y : Int) = (b : Int)) := by omega
      simp [hy, hne]
  · simp [hx]
/-- the graph that the first i of the lists make -/
def waysE (L : Nat → List Int) (i : Nat) : Int → Int → Bool := fun x y => decide (0 ≤ x ∧ x < i ∧ y ∈ L x.toNat ∧ y ≠ x)
theorem waysE_zero (L : Nat → List Int) : waysE L 0 = fun _ _ => false := by
  funext x y
  unfold waysE
  rw [decide_eq_false_iff_not]
  omega
theorem waysE_set (L : Nat → List Int) (i : Nat) : setE (waysE L i) i (L i) = waysE L (i + 1) := by
  funext x y
  unfold setE waysE but
  by_cases e : x = i
  · subst e
    rw [if_pos rfl, decide_eq_decide]
    simp
    omega
  · rw [if_neg e, decide_eq_decide]
    constructor
    · rintro ⟨h1, h2, h3⟩; exact ⟨h1, by omega, h3⟩
    · rintro ⟨h1, h2, h3⟩; exact ⟨h1, by omega, h3⟩
theorem ways_start {L : Nat → List Int} : FW (waysE L 8) (c0 L) (c0 L) 0 0 0 := FW.start (fun a b ha hb h => by
  unfold c0 at h
  unfold waysE
  rw [decide_eq_true_iff] at h ⊢
  refine ⟨by omega, by omega, by simpa using h.1, by have := h.2; omega⟩)
theorem ways_cyc {L : Nat → List Int} {C : Nat → Nat → Bool} (hL : ∀ a, a < 8 → ∀ x ∈ L a, 0 ≤ x ∧ x < 8) (h : FW (waysE L 8) (c0 L) C 8 0 0) {i : Nat} (hi : i < 8) : cyc (waysE L 8) i = C i i :=
  h.cyc (fun x y he => by
    unfold waysE at he
    rw [decide_eq_true_iff] at he
    obtain ⟨h1, h2, h3, h4⟩ := he
    have hy := hL x.toNat (by omega) y h3
    refine ⟨x.toNat, y.toNat, by omega, by omega, by omega, by omega, ?_⟩
    unfold c0
    rw [decide_eq_true_iff]
    refine ⟨?_, by omega⟩
    rw [show ((y.toNat : Nat) : Int) = y by omega]
    exact h3) hi
end Go.Proofs.Ytppffbpocmgafaa
