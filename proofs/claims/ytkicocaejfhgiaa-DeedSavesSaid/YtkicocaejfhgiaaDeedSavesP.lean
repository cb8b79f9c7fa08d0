/- DeedSaves: the plain part: where each savepoint stands behind so many pushes; the two arrays in memory. -/
import Derived.Test.YtkicocaejfhgiaaDeedS
namespace Go.Proofs.Ytkicocaejfhgiaa.deedSaves
open Go.ChangeShapes Go.WideShapes Go.ChangeAt Go.RowKit
set_option linter.unusedVariables false

def rng (k : Nat) : List Int := (List.range k).map fun (i : Nat) => (i : Int)
theorem rng_length (k : Nat) : (rng k).length = k := by simp [rng]
theorem rng_succ (k : Nat) : rng (k + 1) = rng k ++ [(k : Int)] := by simp [rng, List.range_succ]
/-- which savepoint is set at step i -/
def q (bs : List UInt8) (i : Nat) : Nat := (bs.getD i 0).toNat % 8
def sS (bs : List UInt8) : Nat → Nat → Int
  | 0 => fun _ => -1
  | i + 1 => if q bs i < 4 then setAt (sS bs i) (q bs i) ((i + 1 : Nat) : Int) else sS bs i
theorem sS_yes {bs : List UInt8} {i : Nat} (h : q bs i < 4) : sS bs (i + 1) = setAt (sS bs i) (q bs i) ((i + 1 : Nat) : Int) := by rw [sS, if_pos h]
theorem sS_no {bs : List UInt8} {i : Nat} (h : ¬ q bs i < 4) : sS bs (i + 1) = sS bs i := by rw [sS, if_neg h]
theorem sS_form (bs : List UInt8) (i k : Nat) : sS bs i k = -1 ∨ (1 ≤ sS bs i k ∧ sS bs i k ≤ i) := by
  induction i with
  | zero => exact .inl rfl
  | succ i ih =>
    by_cases h : q bs i < 4
    · rw [sS_yes h]
      unfold setAt
      split
      · right; omega
      · omega
    · rw [sS_no h]
      omega
/-- what the two arrays hold of a savepoint -/
def aP (x : Int) : Int := if x < 0 then 0 else x
def iP (x : Int) : Bool := decide (0 ≤ x)
theorem aP_of {x : Int} (h : 0 ≤ x) : aP x = x := by rw [aP, if_neg (by omega)]
def arrA (s : Nat → Int) : Array Value := #[.int .i64 (aP (s 0)), .int .i64 (aP (s 1)), .int .i64 (aP (s 2)), .int .i64 (aP (s 3))]
def arrB (s : Nat → Int) : Array Value := #[.bool (iP (s 0)), .bool (iP (s 1)), .bool (iP (s 2)), .bool (iP (s 3))]
theorem four_cases {n : Nat} (h : n < 4) : n = 0 ∨ n = 1 ∨ n = 2 ∨ n = 3 := by omega
theorem arrA_get {s : Nat → Int} {n : Nat} (h : n < 4) : (arrA s)[n]? = some (.int .i64 (aP (s n))) := by
  rcases four_cases h with rfl | rfl | rfl | rfl <;> rfl
theorem arrB_get {s : Nat → Int} {n : Nat} (h : n < 4) : (arrB s)[n]? = some (.bool (iP (s n))) := by
  rcases four_cases h with rfl | rfl | rfl | rfl <;> rfl
theorem arrA_set {s : Nat → Int} {n : Nat} {x : Int} (h : n < 4) (hx : 0 ≤ x) : (arrA s).setIfInBounds n (.int .i64 x) = arrA (setAt s n x) := by
  rcases four_cases h with rfl | rfl | rfl | rfl <;> simp [arrA, setAt, aP_of hx]
theorem arrB_set {s : Nat → Int} {n : Nat} {x : Int} (h : n < 4) (hx : 0 ≤ x) : (arrB s).setIfInBounds n (.bool true) = arrB (setAt s n x) := by
  have : iP x = true := by simp [iP, hx]
  rcases four_cases h with rfl | rfl | rfl | rfl <;> simp [arrB, setAt, this]
/-- the whole: the stack, the two arrays (from block g on) -/
structure St (w1 : World) (g : Nat) (l : List Int) (s : Nat → Int) (t : Nat → Int) (w : World) : Prop where
  cur : Cur w1 l s w
  a : Blk w g 28 (arrA t)
  b : Blk w (g + 1) 29 (arrB t)
  hg : w1.heap.size < g
theorem St.step {w1 w w' : World} {g : Nat} {l l' : List Int} {s s' t : Nat → Int} (h : St w1 g l s t w) (hc : CurS w1 w l' s' w') : St w1 g l' s' t w' :=
  ⟨hc.1, hc.2 g 28 _ (by have := h.hg; omega) (by decide) h.a, hc.2 (g + 1) 29 _ (by have := h.hg; omega) (by decide) h.b, h.hg⟩
theorem St.put {w1 w : World} {g n : Nat} {l : List Int} {s t : Nat → Int} {x : Int} (h : St w1 g l s t w) (hn : n < 4) (hx : 0 ≤ x) : St w1 g l s (setAt t n x) ((w.setCell ⟨g, n, none⟩ (.int .i64 x)).setCell ⟨g + 1, n, none⟩ (.bool true)) := by
  have hg := h.hg
  have k1 := h.a.set_ n (.int .i64 x)
  rw [arrA_set hn hx] at k1
  have k2 := h.b.far (p := ⟨g, n, none⟩) (by simp) (.int .i64 x)
  have k3 := k2.set_ n (.bool true)
  rw [arrB_set hn hx] at k3
  exact ⟨(h.cur.set hg h.a (by decide) n _).set (by omega) k2 (by decide) n _, k1.far (p := ⟨g + 1, n, none⟩) (by simp) _, k3, hg⟩
theorem St.same {w1 w : World} {g : Nat} {l l' : List Int} {s s' t t' : Nat → Int} (h : St w1 g l s t w) (hl : l = l') (hs : s = s') (ht : t = t') : St w1 g l' s' t' w := by
  subst hl hs ht; exact h
end Go.Proofs.Ytkicocaejfhgiaa.deedSaves
