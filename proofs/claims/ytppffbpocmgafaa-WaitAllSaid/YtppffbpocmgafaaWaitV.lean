/- Wait: the reference graph: Cycle: how its search stands. -/
import Derived.Test.YtppffbpocmgafaaWaitT
namespace Go.Proofs.Ytppffbpocmgafaa
open Go.ChangeShapes Go.WideShapes Go.ChangeAt Go.RowKit Go.Maps
set_option linter.unusedVariables false

theorem nodup_le : ∀ (L M : List Int), L.Nodup → (∀ y ∈ L, y ∈ M) → L.length ≤ M.length
  | [], _, _, _ => Nat.zero_le _
  | x :: r, M, hn, h => by
    have hx : x ∈ M := h x (by simp)
    have ih := nodup_le r (M.erase x) (List.nodup_cons.1 hn).2 (fun y hy => by
      have hne : y ≠ x := fun e => (List.nodup_cons.1 hn).1 (e ▸ hy)
      exact (List.mem_erase_of_ne hne).2 (h y (by simp [hy])))
    rw [List.length_erase_of_mem hx] at ih
    have := List.length_pos_of_mem hx
    simp only [List.length_cons]
    omega
theorem Rises.nodup {L : List Int} (h : Rises L) : L.Nodup := List.Pairwise.imp (fun h => by omega) h
/-- the edges as a relation -/
def elE (el : List (Int × Int)) : Int → Int → Bool := fun x y => decide ((x, y) ∈ el)
theorem elE_iff (el : List (Int × Int)) (x y : Int) : elE el x y = true ↔ (x, y) ∈ el := by simp [elE]
theorem reach_target {el : List (Int × Int)} {a b : Int} (h : Reach (elE el) a b) : b ∈ el.map (·.2) := by
  induction h with
  | one h => exact List.mem_map.2 ⟨_, (elE_iff _ _ _).1 h, rfl⟩
  | step _ _ ih => exact ih
/-- what was seen: in its order, all of it reached, and at least the first step -/
structure Seen (el : List (Int × Int)) (who : Int) (L : List Int) : Prop where
  r : Rises L
  s : ∀ y ∈ L, Reach (elE el) who y
  o : ∀ y, (who, y) ∈ el → y ∈ L
section
variable {el : List (Int × Int)} {who x y : Int} {L L0 : List Int}
theorem Seen.le (h : Seen el who L) : L.length ≤ el.length := by
  have := nodup_le L (el.map (·.2)) h.r.nodup (fun y hy => reach_target (h.s y hy))
  simpa using this
theorem Seen.start : Seen el who (onL el who el.length) :=
  ⟨onL_rises _ _ _, fun y hy => .one ((elE_iff _ _ _).2 (by have := (onL_mem el who y el.length).1 hy; rwa [List.take_length] at this)), fun y hy => (onL_mem el who y el.length).2 (by rwa [List.take_length])⟩
theorem Seen.ins (h : Seen el who L) (hx : x ∈ L) (hy : (x, y) ∈ el) : Seen el who (ins y L) :=
  ⟨ins_rises _ _ h.r, fun z hz => by
    rcases (ins_mem y z L).1 hz with rfl | hz
    · exact (h.s x hx).snoc ((elE_iff _ _ _).2 hy)
    · exact h.s z hz, fun z hz => (ins_mem y z L).2 (.inr (h.o z hz))⟩
theorem Seen.hit (h : Seen el who L) (hx : who ∈ L) : cyc (elE el) who = true := cyc_true (h.s who hx)
theorem Seen.done (h : Seen el who L) (hn : who ∉ L) (hc : ∀ z ∈ L, ∀ y, (z, y) ∈ el → y ∈ L) : cyc (elE el) who = false := by
  refine cyc_false fun hr => hn ?_
  have key : ∀ a b, Reach (elE el) a b → (a = who ∨ a ∈ L) → b ∈ L := by
    intro a b hab
    induction hab with
    | one he =>
      rintro (rfl | ha)
      · exact h.o _ ((elE_iff _ _ _).1 he)
      · exact hc _ ha _ ((elE_iff _ _ _).1 he)
    | step he _ ih =>
      rintro (rfl | ha)
      · exact ih (.inr (h.o _ ((elE_iff _ _ _).1 he)))
      · exact ih (.inr (hc _ ha _ ((elE_iff _ _ _).1 he)))
  exact key _ _ hr (.inl rfl)
end
/-- a pass over what was seen (n0 at its start): nothing new, and the first i are closed; or it has grown -/
def Pass (el : List (Int × Int)) (who : Int) (n0 : Nat) (L : List Int) (b : Bool) (i : Nat) : Prop :=
  (b = false ∧ L.length = n0 ∧ ∀ j z, j < i → L[j]? = some z → z ≠ who ∧ ∀ y, (z, y) ∈ el → y ∈ L) ∨ (b = true ∧ n0 < L.length)
/-- .. while the ways from x are being looked at, k of them -/
def PassIn (el : List (Int × Int)) (who : Int) (n0 : Nat) (L : List Int) (b : Bool) (i : Nat) (x : Int) (O : List Int) (k : Nat) : Prop :=
  (b = false ∧ L.length = n0 ∧ L[i]? = some x ∧ (∀ j z, j < i → L[j]? = some z → z ≠ who ∧ ∀ y, (z, y) ∈ el → y ∈ L) ∧ ∀ j z, j < k → O[j]? = some z → z ∈ L) ∨ (b = true ∧ n0 < L.length)
section
variable {el : List (Int × Int)} {who x y : Int} {L O : List Int} {n0 i k : Nat} {b : Bool}
theorem Pass.start (L : List Int) : Pass el who L.length L false 0 := .inl ⟨rfl, rfl, fun j z h => absurd h (by omega)⟩
theorem Pass.into (h : Pass el who n0 L b i) (hx : L[i]? = some x) (O : List Int) : PassIn el who n0 L b i x O 0 := by
  rcases h with ⟨h1, h2, h3⟩ | h
  · exact .inl ⟨h1, h2, hx, h3, fun j z h => absurd h (by omega)⟩
  · exact .inr h
theorem ins_same (hL : Rises L) (hy : y ∈ L) (h : ∀ z, z ∈ ins y L ↔ z ∈ L) : ins y L = L := by
  clear h
  induction L with
  | nil => cases hy
  | cons a r ih =>
    unfold ins
    split
    · rename_i hlt
      have : y ∈ r := by
        rcases List.mem_cons.1 hy with rfl | h
        · omega
        · exact h
      rw [ih (List.Pairwise.of_cons hL) this]
    · split
      · rfl
      · rename_i h1 h2
        rcases List.mem_cons.1 hy with rfl | h
        · exact absurd rfl h2
        · have := (List.pairwise_cons.1 hL).1 y h
          omega
theorem PassIn.step (h : PassIn el who n0 L b i x O k) (hL : Rises L) (hy : O[k]? = some y) : PassIn el who n0 (ins y L) (b || decide (L.length < (ins y L).length)) i x O (k + 1) := by
  have hlen := ins_len y L hL
  rcases h with ⟨h1, h2, h3, h4, h5⟩ | ⟨h1, h2⟩
  · rcases hlen with ⟨e1, e2⟩ | ⟨e1, e2⟩
    · have es := ins_same hL e2 (fun z => by rw [ins_mem]; exact ⟨fun h => h.elim (fun e => e ▸ e2) id, .inr⟩)
      rw [es, h1]
      refine .inl ⟨by simp, h2, h3, h4, fun j z hj hz => ?_⟩
      by_cases e : j = k
      · subst e
        rw [hy] at hz
        injection hz with hz
        exact hz ▸ e2
      · exact h5 j z (by omega) hz
    · exact .inr ⟨by rw [h1]; simp; omega, by omega⟩
  · exact .inr ⟨by rw [h1]; rfl, by omega⟩
theorem PassIn.out (h : PassIn el who n0 L b i x O O.length) (hw : x ≠ who) (hO : ∀ y, (x, y) ∈ el → y ∈ O) : Pass el who n0 L b (i + 1) := by
  rcases h with ⟨h1, h2, h3, h4, h5⟩ | h
  · refine .inl ⟨h1, h2, fun j z hj hz => ?_⟩
    by_cases e : j = i
    · subst e
      rw [h3] at hz
      injection hz with hz
      subst hz
      refine ⟨hw, fun y hy => ?_⟩
      obtain ⟨m, hm⟩ := List.getElem?_of_mem (hO y hy)
      exact h5 m y ((List.getElem?_eq_some_iff.1 hm).1) hm
    · exact h4 j z (by omega) hz
  · exact .inr h
theorem Pass.fin (h : Pass el who n0 L false L.length) (hs : Seen el who L) : cyc (elE el) who = false := by
  rcases h with ⟨_, _, h3⟩ | ⟨h, _⟩
  · have key : ∀ z ∈ L, z ≠ who ∧ ∀ y, (z, y) ∈ el → y ∈ L := fun z hz => by
      obtain ⟨m, hm⟩ := List.getElem?_of_mem hz
      exact h3 m z ((List.getElem?_eq_some_iff.1 hm).1) hm
    exact hs.done (fun hw => (key _ hw).1 rfl) (fun z hz => (key z hz).2)
  · cases h
theorem Pass.grown (h : Pass el who n0 L true i) : n0 < L.length := by
  rcases h with ⟨h, _⟩ | h
  · cases h
  · exact h.2
end
end Go.Proofs.Ytppffbpocmgafaa
