/- Contracts of the functions of package mode and of the reference for modes: each returns what a plain function of two integers says, and leaves the world alone. No conditions. -/
import Derived.Test.YtebflbpjmpmnjaaKit
import Derived.WalkKit
import Derived.ProofKit
import Derived.OpenShut
import Derived.WalkLawsBesides
import Derived.WalkSpells
namespace Go.Proofs.Ytebflbpjmpmnjaa
open Go.ChangeShapes Go.WideShapes Go.ChangeAt Go.RowKit
set_option linter.unusedVariables false

def mayP (m : Int) : Bool := decide (0 ≤ m ∧ m ≤ 4)
theorem mayP_t {m : Int} (h0 : 0 ≤ m) (h1 : m ≤ 4) : mayP m = true := by simp [mayP, h0, h1]
theorem mayP_f {m : Int} (h : m < 0 ∨ 4 < m) : mayP m = false := by
  simp only [mayP, decide_eq_false_iff_not]
  omega


/-- the three ways of a test for a mode -/
theorem may_any (m : Int) (w : World) : Calls Try.prog 31 #[.int .i64 m] w fun e w' => e = .returned (.bool (mayP m)) ∧ w = w' := by
  by_cases h0 : 0 ≤ m
  · by_cases h1 : m ≤ 4
    · go_enter Try.func31, Try.ntmps31
      go_wp2
      go_ret
      exact ⟨ret_bool (mayP_t h0 h1).symm, rfl⟩
    · go_enter Try.func31, Try.ntmps31
      go_wp2
      go_ret
      exact ⟨ret_bool (mayP_f (by omega)).symm, rfl⟩
  · go_enter Try.func31, Try.ntmps31
    go_wp2
    go_ret
    exact ⟨ret_bool (mayP_f (by omega)).symm, rfl⟩
theorem mode_any (m : Int) (w : World) : Calls Try.prog 28 #[.int .i64 m] w fun e w' => e = .returned (.bool (mayP m)) ∧ w = w' := by
  by_cases h0 : 0 ≤ m
  · by_cases h1 : m ≤ 4
    · go_enter Try.func28, Try.ntmps28
      go_wp2
      go_ret
      exact ⟨ret_bool (mayP_t h0 h1).symm, rfl⟩
    · go_enter Try.func28, Try.ntmps28
      go_wp2
      go_ret
      exact ⟨ret_bool (mayP_f (by omega)).symm, rfl⟩
  · go_enter Try.func28, Try.ntmps28
    go_wp2
    go_ret
    exact ⟨ret_bool (mayP_f (by omega)).symm, rfl⟩

/-- which two modes go together -/
def goesP (a b : Int) : Bool :=
  decide (0 ≤ a ∧ a ≤ 4 ∧ 0 ≤ b ∧ b ≤ 4 ∧ (a = 0 ∨ b = 0 ∨ (a = 1 ∧ b ≠ 4) ∨ (b = 1 ∧ a ≠ 4) ∨ (a = 2 ∧ b = 2) ∨ (a = 3 ∧ b = 3)))
def joinP (a b : Int) : Int :=
  if 0 ≤ a ∧ a ≤ 4 ∧ 0 ≤ b ∧ b ≤ 4 then (if (a = 2 ∧ b = 3) ∨ (a = 3 ∧ b = 2) then 4 else max a b) else -1

theorem goes_no (a b : Int) (h : a < 0 ∨ 4 < a ∨ b < 0 ∨ 4 < b) (w : World) : Calls Try.prog 25 #[.int .i64 a, .int .i64 b] w fun e w' => e = .returned (.bool (goesP a b)) ∧ w = w' := by
  have hp : goesP a b = false := by simp only [goesP, decide_eq_false_iff_not]; omega
  rw [hp]
  by_cases ha : a < 0 ∨ 4 < a
  · have h1 := mayP_f ha
    go_enter Try.func25, Try.ntmps25
    go_wp2_with (go_at_call 31; refine (may_any _ _).mono ?_; rintro e w' ⟨rfl, rfl⟩)
    go_ret
    exact ⟨rfl, rfl⟩
  · have h1 := mayP_t (m := a) (by omega) (by omega)
    have h2 := mayP_f (m := b) (by omega)
    go_enter Try.func25, Try.ntmps25
    go_wp2_with (go_at_call 31; refine (may_any _ _).mono ?_; rintro e w' ⟨rfl, rfl⟩)
    go_ret
    exact ⟨rfl, rfl⟩

theorem five {a : Int} (h0 : 0 ≤ a) (h1 : a ≤ 4) : a = 0 ∨ a = 1 ∨ a = 2 ∨ a = 3 ∨ a = 4 := by omega

set_option maxHeartbeats 4000000 in
theorem goes_yes (a b : Int) (ha0 : 0 ≤ a) (ha1 : a ≤ 4) (hb0 : 0 ≤ b) (hb1 : b ≤ 4) (w : World) : Calls Try.prog 25 #[.int .i64 a, .int .i64 b] w fun e w' => e = .returned (.bool (goesP a b)) ∧ w = w' := by
  have h1 := mayP_t ha0 ha1
  have h2 := mayP_t hb0 hb1
  rcases five ha0 ha1 with rfl | rfl | rfl | rfl | rfl <;> rcases five hb0 hb1 with rfl | rfl | rfl | rfl | rfl <;>
  · clear ha0 ha1 hb0 hb1
    go_enter Try.func25, Try.ntmps25
    go_wp2_with (go_at_call 31; refine (may_any _ _).mono ?_; rintro e w' ⟨rfl, rfl⟩)
    go_ret
    exact ⟨ret_bool (by decide), rfl⟩
theorem goes_any (a b : Int) (w : World) : Calls Try.prog 25 #[.int .i64 a, .int .i64 b] w fun e w' => e = .returned (.bool (goesP a b)) ∧ w = w' := by
  by_cases h : a < 0 ∨ 4 < a ∨ b < 0 ∨ 4 < b
  · exact goes_no a b h w
  · exact goes_yes a b (by omega) (by omega) (by omega) (by omega) w

/-- the reference's Goes -/
theorem goesR_no (a b : Int) (h : a < 0 ∨ 4 < a ∨ b < 0 ∨ 4 < b) (w : World) : Calls Try.prog 23 #[.int .i64 a, .int .i64 b] w fun e w' => e = .returned (.bool (goesP a b)) ∧ w = w' := by
  have hp : goesP a b = false := by simp only [goesP, decide_eq_false_iff_not]; omega
  rw [hp]
  by_cases ha : a < 0 ∨ 4 < a
  · have h1 := mayP_f ha
    go_enter Try.func23, Try.ntmps23
    go_wp2_with (go_at_call 28; refine (mode_any _ _).mono ?_; rintro e w' ⟨rfl, rfl⟩)
    go_ret
    exact ⟨rfl, rfl⟩
  · have h1 := mayP_t (m := a) (by omega) (by omega)
    have h2 := mayP_f (m := b) (by omega)
    go_enter Try.func23, Try.ntmps23
    go_wp2_with (go_at_call 28; refine (mode_any _ _).mono ?_; rintro e w' ⟨rfl, rfl⟩)
    go_ret
    exact ⟨rfl, rfl⟩
set_option maxHeartbeats 4000000 in
theorem goesR_yes (a b : Int) (ha0 : 0 ≤ a) (ha1 : a ≤ 4) (hb0 : 0 ≤ b) (hb1 : b ≤ 4) (w : World) : Calls Try.prog 23 #[.int .i64 a, .int .i64 b] w fun e w' => e = .returned (.bool (goesP a b)) ∧ w = w' := by
  have h1 := mayP_t ha0 ha1
  have h2 := mayP_t hb0 hb1
  rcases five ha0 ha1 with rfl | rfl | rfl | rfl | rfl <;> rcases five hb0 hb1 with rfl | rfl | rfl | rfl | rfl <;>
  · clear ha0 ha1 hb0 hb1
    go_enter Try.func23, Try.ntmps23
    go_wp2_with (go_at_call 28; refine (mode_any _ _).mono ?_; rintro e w' ⟨rfl, rfl⟩)
    go_ret
    exact ⟨ret_bool (by decide), rfl⟩
theorem goesR_any (a b : Int) (w : World) : Calls Try.prog 23 #[.int .i64 a, .int .i64 b] w fun e w' => e = .returned (.bool (goesP a b)) ∧ w = w' := by
  by_cases h : a < 0 ∨ 4 < a ∨ b < 0 ∨ 4 < b
  · exact goesR_no a b h w
  · exact goesR_yes a b (by omega) (by omega) (by omega) (by omega) w

/-- Join -/
theorem join_no (a b : Int) (h : a < 0 ∨ 4 < a ∨ b < 0 ∨ 4 < b) (w : World) : Calls Try.prog 24 #[.int .i64 a, .int .i64 b] w fun e w' => e = .returned (.int .i64 (joinP a b)) ∧ w = w' := by
  have hp : joinP a b = -1 := by rw [joinP, if_neg (by omega)]
  rw [hp]
  by_cases ha : a < 0 ∨ 4 < a
  · have h1 := mayP_f ha
    go_enter Try.func24, Try.ntmps24
    go_wp2_with (go_at_call 31; refine (may_any _ _).mono ?_; rintro e w' ⟨rfl, rfl⟩)
    go_ret
    exact ⟨rfl, rfl⟩
  · have h1 := mayP_t (m := a) (by omega) (by omega)
    have h2 := mayP_f (m := b) (by omega)
    go_enter Try.func24, Try.ntmps24
    go_wp2_with (go_at_call 31; refine (may_any _ _).mono ?_; rintro e w' ⟨rfl, rfl⟩)
    go_ret
    exact ⟨rfl, rfl⟩
set_option maxHeartbeats 4000000 in
theorem join_yes (a b : Int) (ha0 : 0 ≤ a) (ha1 : a ≤ 4) (hb0 : 0 ≤ b) (hb1 : b ≤ 4) (w : World) : Calls Try.prog 24 #[.int .i64 a, .int .i64 b] w fun e w' => e = .returned (.int .i64 (joinP a b)) ∧ w = w' := by
  have h1 := mayP_t ha0 ha1
  have h2 := mayP_t hb0 hb1
  rcases five ha0 ha1 with rfl | rfl | rfl | rfl | rfl <;> rcases five hb0 hb1 with rfl | rfl | rfl | rfl | rfl <;>
  · clear ha0 ha1 hb0 hb1
    go_enter Try.func24, Try.ntmps24
    go_wp2_with (go_at_call 31; refine (may_any _ _).mono ?_; rintro e w' ⟨rfl, rfl⟩)
    go_ret
    exact ⟨ret_int (by decide), rfl⟩
theorem join_any (a b : Int) (w : World) : Calls Try.prog 24 #[.int .i64 a, .int .i64 b] w fun e w' => e = .returned (.int .i64 (joinP a b)) ∧ w = w' := by
  by_cases h : a < 0 ∨ 4 < a ∨ b < 0 ∨ 4 < b
  · exact join_no a b h w
  · exact join_yes a b (by omega) (by omega) (by omega) (by omega) w

/-- the reference's JoinMode -/
theorem joinR_no (a b : Int) (h : a < 0 ∨ 4 < a ∨ b < 0 ∨ 4 < b) (w : World) : Calls Try.prog 22 #[.int .i64 a, .int .i64 b] w fun e w' => e = .returned (.int .i64 (joinP a b)) ∧ w = w' := by
  have hp : joinP a b = -1 := by rw [joinP, if_neg (by omega)]
  rw [hp]
  by_cases ha : a < 0 ∨ 4 < a
  · have h1 := mayP_f ha
    go_enter Try.func22, Try.ntmps22
    go_wp2_with (go_at_call 28; refine (mode_any _ _).mono ?_; rintro e w' ⟨rfl, rfl⟩)
    go_ret
    exact ⟨rfl, rfl⟩
  · have h1 := mayP_t (m := a) (by omega) (by omega)
    have h2 := mayP_f (m := b) (by omega)
    go_enter Try.func22, Try.ntmps22
    go_wp2_with (go_at_call 28; refine (mode_any _ _).mono ?_; rintro e w' ⟨rfl, rfl⟩)
    go_ret
    exact ⟨rfl, rfl⟩
set_option maxHeartbeats 4000000 in
theorem joinR_yes (a b : Int) (ha0 : 0 ≤ a) (ha1 : a ≤ 4) (hb0 : 0 ≤ b) (hb1 : b ≤ 4) (w : World) : Calls Try.prog 22 #[.int .i64 a, .int .i64 b] w fun e w' => e = .returned (.int .i64 (joinP a b)) ∧ w = w' := by
  have h1 := mayP_t ha0 ha1
  have h2 := mayP_t hb0 hb1
  rcases five ha0 ha1 with rfl | rfl | rfl | rfl | rfl <;> rcases five hb0 hb1 with rfl | rfl | rfl | rfl | rfl <;>
  · clear ha0 ha1 hb0 hb1
    go_enter Try.func22, Try.ntmps22
    go_wp2_with (go_at_call 28; refine (mode_any _ _).mono ?_; rintro e w' ⟨rfl, rfl⟩)
    go_ret
    exact ⟨ret_int (by decide), rfl⟩
theorem joinR_any (a b : Int) (w : World) : Calls Try.prog 22 #[.int .i64 a, .int .i64 b] w fun e w' => e = .returned (.int .i64 (joinP a b)) ∧ w = w' := by
  by_cases h : a < 0 ∨ 4 < a ∨ b < 0 ∨ 4 < b
  · exact joinR_no a b h w
  · exact joinR_yes a b (by omega) (by omega) (by omega) (by omega) w

end Go.Proofs.Ytebflbpjmpmnjaa
