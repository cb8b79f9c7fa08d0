/- Undo: Back of what is no set; Next; the same of two entries -/
import Derived.Test.YtogminifliceaaaUndo
namespace Go.Proofs.Ytogminifliceaaa
open Go.ChangeShapes Go.WideShapes Go.ChangeAt Go.RowKit
set_option linter.unusedVariables false

/-- Back of what is no set: nothing. -/
def GivesNothing (w : World) (e : Ending) (w' : World) : Prop := e = .returned (.tuple #[.agg #[.int .i64 0, .int .i64 0, .int .i64 0, .int .i64 0, .int .i64 0, .int .i64 0, .int .i64 0, .int .i64 0, .int .i64 0, .int .i64 0, .slice none 0 0, .slice none 0 0, .slice none 0 0, .slice none 0 0, .slice none 0 0, .slice none 0 0], .bool false]) ∧ Below w.heap.size w w'
set_option maxRecDepth 100000 in
theorem back_no (k prev : Int) (c1 c2 c3 c4 c5 c6 c7 c8 c9 c10 c11 c12 c13 c14 c15 : Value) (w : World) (hk : (k == 1) = false) :
    Calls Try.prog 8 #[.agg #[.int .i64 k, c1, c2, c3, c4, c5, c6, c7, c8, c9, c10, c11, c12, c13, c14, c15], .int .i64 prev] w (GivesNothing w) := by
  have hk' : (k != 1) = true := by simpa using hk
  go_enter Try.func8, Try.ntmps8
  go_wp2
  refine bodyPost_ret (v := .tuple #[.agg #[.int .i64 0, .int .i64 0, .int .i64 0, .int .i64 0, .int .i64 0, .int .i64 0, .int .i64 0, .int .i64 0, .int .i64 0, .int .i64 0, .slice none 0 0, .slice none 0 0, .slice none 0 0, .slice none 0 0, .slice none 0 0, .slice none 0 0], .bool false]) (by simp [results, Try.results8, go_sem]) rfl ⟨rfl, ?_⟩
  repeat (first | exact Below.refl _ _ | refine Below.setCell ?_ (by simp) _ | refine Below.alloc ?_ (by simp) _)
set_option maxRecDepth 100000 in
theorem rback_no (k prev : Int) (c1 c2 c3 c4 c5 c6 c7 c8 c9 c10 c11 c12 c13 c14 c15 : Value) (w : World) (hk : (k == 1) = false) :
    Calls Try.prog 9 #[.agg #[.int .i64 k, c1, c2, c3, c4, c5, c6, c7, c8, c9, c10, c11, c12, c13, c14, c15], .int .i64 prev] w (GivesNothing w) := by
  have hk' : (k != 1) = true := by simpa using hk
  go_enter Try.func9, Try.ntmps9
  go_wp2
  refine bodyPost_ret (v := .tuple #[.agg #[.int .i64 0, .int .i64 0, .int .i64 0, .int .i64 0, .int .i64 0, .int .i64 0, .int .i64 0, .int .i64 0, .int .i64 0, .int .i64 0, .slice none 0 0, .slice none 0 0, .slice none 0 0, .slice none 0 0, .slice none 0 0, .slice none 0 0], .bool false]) (by simp [results, Try.results9, go_sem]) rfl ⟨rfl, ?_⟩
  repeat (first | exact Below.refl _ _ | refine Below.setCell ?_ (by simp) _ | refine Below.alloc ?_ (by simp) _)

/-- What is undone next. -/
def nextP (k p n l : Int) : Int := if k = 1 then l else if k = 2 then n else if k = 3 ∨ k = 4 then p else 0
theorem nextP_1 (p n l : Int) : nextP 1 p n l = l := rfl
theorem nextP_2 (p n l : Int) : nextP 2 p n l = n := rfl
theorem nextP_3 {k : Int} (p n l : Int) (h : k = 3 ∨ k = 4) : nextP k p n l = p := by
  unfold nextP
  rw [if_neg (by omega), if_neg (by omega), if_pos h]
theorem nextP_0 {k : Int} (p n l : Int) (h1 : k ≠ 1) (h2 : k ≠ 2) (h3 : k ≠ 3) (h4 : k ≠ 4) : nextP k p n l = 0 := by
  unfold nextP
  rw [if_neg h1, if_neg h2, if_neg (by omega)]
set_option maxRecDepth 100000 in
theorem next_any (k p n l : Int) (c1 c2 c3 c6 c7 c8 c9 c10 c11 c12 c13 c14 c15 : Value) (w : World) :
    Calls Try.prog 11 #[.agg #[.int .i64 k, c1, c2, c3, .int .i64 p, .int .i64 n, c6, c7, c8, c9, c10, c11, c12, c13, c14, c15], .int .i64 l] w fun e w' => e = .returned (.int .i64 (nextP k p n l)) ∧ Below w.heap.size w w' := by
  by_cases h1 : k = 1
  · subst h1
    rw [nextP_1]
    go_enter Try.func11, Try.ntmps11
    go_wp2
    go_ret
    exact ⟨rfl, (Below.refl _ _).alloc (Nat.le_refl _) _⟩
  · by_cases h2 : k = 2
    · subst h2
      rw [nextP_2]
      go_enter Try.func11, Try.ntmps11
      go_wp2
      go_ret
      exact ⟨rfl, (Below.refl _ _).alloc (Nat.le_refl _) _⟩
    · have e1 : (k == 1) = false := by simpa using h1
      have e2 : (k == 2) = false := by simpa using h2
      by_cases h3 : k = 3
      · rw [nextP_3 p n l (.inl h3)]
        subst h3
        go_enter Try.func11, Try.ntmps11
        go_wp2
        go_ret
        exact ⟨rfl, (Below.refl _ _).alloc (Nat.le_refl _) _⟩
      · by_cases h4 : k = 4
        · rw [nextP_3 p n l (.inr h4)]
          subst h4
          go_enter Try.func11, Try.ntmps11
          go_wp2
          go_ret
          exact ⟨rfl, (Below.refl _ _).alloc (Nat.le_refl _) _⟩
        · rw [nextP_0 p n l h1 h2 h3 h4]
          have e3 : (k == 3) = false := by simpa using h3
          have e4 : (k == 4) = false := by simpa using h4
          clear h1 h2 h3 h4
          go_enter Try.func11, Try.ntmps11
          go_wp2
          go_ret
          exact ⟨rfl, (Below.refl _ _).alloc (Nat.le_refl _) _⟩
set_option maxRecDepth 100000 in
theorem rnext_any (k p n l : Int) (c1 c2 c3 c6 c7 c8 c9 c10 c11 c12 c13 c14 c15 : Value) (w : World) :
    Calls Try.prog 12 #[.agg #[.int .i64 k, c1, c2, c3, .int .i64 p, .int .i64 n, c6, c7, c8, c9, c10, c11, c12, c13, c14, c15], .int .i64 l] w fun e w' => e = .returned (.int .i64 (nextP k p n l)) ∧ Below w.heap.size w w' := by
  by_cases h1 : k = 1
  · subst h1
    rw [nextP_1]
    go_enter Try.func12, Try.ntmps12
    go_wp2
    go_ret
    exact ⟨rfl, (Below.refl _ _).alloc (Nat.le_refl _) _⟩
  · by_cases h2 : k = 2
    · subst h2
      rw [nextP_2]
      go_enter Try.func12, Try.ntmps12
      go_wp2
      go_ret
      exact ⟨rfl, (Below.refl _ _).alloc (Nat.le_refl _) _⟩
    · have e1 : (k == 1) = false := by simpa using h1
      have e2 : (k == 2) = false := by simpa using h2
      by_cases h3 : k = 3
      · rw [nextP_3 p n l (.inl h3)]
        subst h3
        go_enter Try.func12, Try.ntmps12
        go_wp2
        go_ret
        exact ⟨rfl, (Below.refl _ _).alloc (Nat.le_refl _) _⟩
      · by_cases h4 : k = 4
        · rw [nextP_3 p n l (.inr h4)]
          subst h4
          go_enter Try.func12, Try.ntmps12
          go_wp2
          go_ret
          exact ⟨rfl, (Below.refl _ _).alloc (Nat.le_refl _) _⟩
        · rw [nextP_0 p n l h1 h2 h3 h4]
          have e3 : (k == 3) = false := by simpa using h3
          have e4 : (k == 4) = false := by simpa using h4
          clear h1 h2 h3 h4
          go_enter Try.func12, Try.ntmps12
          go_wp2
          go_ret
          exact ⟨rfl, (Below.refl _ _).alloc (Nat.le_refl _) _⟩
theorem same14_nil (w : World) : Calls Try.prog 14 #[.slice none 0 0, .slice none 0 0] w fun e w' => e = .returned (.bool true) ∧ w = w' := by
  go_enter Try.func14, Try.ntmps14
  go_wp2
  refine wp_loop_rounds 1 ?_
  rw [rounds_succ]
  go_wp2
  go_ret
  exact ⟨rfl, rfl⟩
theorem same15_nil (w : World) : Calls Try.prog 15 #[.slice none 0 0, .slice none 0 0] w fun e w' => e = .returned (.bool true) ∧ w = w' := by
  go_enter Try.func15, Try.ntmps15
  go_wp2
  refine wp_loop_rounds 1 ?_
  rw [rounds_succ]
  go_wp2
  go_ret
  exact ⟨rfl, rfl⟩
theorem same16_nil (w : World) : Calls Try.prog 16 #[.slice none 0 0, .slice none 0 0] w fun e w' => e = .returned (.bool true) ∧ w = w' := by
  go_enter Try.func16, Try.ntmps16
  go_wp2
  refine wp_loop_rounds 1 ?_
  rw [rounds_succ]
  go_wp2
  go_ret
  exact ⟨rfl, rfl⟩
theorem same17_nil (w : World) : Calls Try.prog 17 #[.slice none 0 0, .slice none 0 0] w fun e w' => e = .returned (.bool true) ∧ w = w' := by
  go_enter Try.func17, Try.ntmps17
  go_wp2
  refine wp_loop_rounds 1 ?_
  rw [rounds_succ]
  go_wp2
  go_ret
  exact ⟨rfl, rfl⟩
end Go.Proofs.Ytogminifliceaaa
