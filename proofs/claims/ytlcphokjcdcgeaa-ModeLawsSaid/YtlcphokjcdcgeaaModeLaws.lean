/- ModeLaws: the laws of joining modes hold of the program's Goes and Join at all modes. No conditions. -/
import Derived.Test.YtlcphokjcdcgeaaRows
import Derived.WalkKit
import Derived.ProofKit
import Derived.OpenShut
import Derived.LoopTactic
import Derived.Lib.Hide
import Derived.Test.YtlcphokjcdcgeaaMode
namespace Go.Proofs.Ytlcphokjcdcgeaa.modeLaws
open Go.ChangeShapes Go.WideShapes Go.ChangeAt Go.RowKit
set_option linter.unusedVariables false      -- a walk need not use every 'w<i>' (that an integer argument fits its kind)

theorem own : ownKnob Try.prog.godebug = none := by kernel_rfl

/-! ### STEP 1: THE WALK: the Go text returns true. 'Grown w w'': the world has at most new blocks (Derived/RowKit3.lean). Part the cases AHEAD of 'go_enter' where a test parts the walk; take each callee by a contract of your own. -/
set_option maxRecDepth 100000 in
theorem walk  (w : World) :
    Calls Try.prog 4 #[] w fun e w' => e = .returned (.bool true) ∧ Grown w w' := by
  have L1 : ∀ a : Nat, a < 5 → ∀ b : Nat, b < 5 → goesP b a = goesP a b ∧ joinP b a = joinP a b ∧ joinP a a = a ∧ joinP (joinP a b) a = joinP a b ∧ joinP a 0 = a := by decide
  have L2 : ∀ a : Nat, a < 5 → ∀ b : Nat, b < 5 → ∀ c : Nat, c < 5 → joinP a (joinP b c) = joinP (joinP a b) c ∧ (goesP (joinP a b) c = true → goesP a c = true ∧ goesP b c = true) := by decide
  have K1 := Lib.hid L1
  have K2 := Lib.hid L2
  clear L1 L2
  go_enter Try.func4, Try.ntmps4
  go_wp2_with (go_at_call 6; refine (begun_any _).mono ?_; rintro e w' ⟨rfl, rfl⟩)
  go_loop [1, 2, 3, 4] (fun a b j c => ∃ k : Nat, k ≤ 5 ∧ a = .int .i64 k) (fun a _ _ _ => (5 - (intOf a)).toNat)
  case atStart => exact ⟨0, by omega, rfl⟩
  case round =>
    obtain ⟨k, hk, rfl⟩ := hrel
    by_cases hk5 : k < 5
    · go_wp2
      go_loop [2, 3, 4] (fun b j c => ∃ n : Nat, n ≤ 5 ∧ b = .int .i64 n) (fun b _ _ => (5 - (intOf b)).toNat)
      case atStart => exact ⟨0, by omega, rfl⟩
      case round =>
        obtain ⟨n, hn, rfl⟩ := hrel
        by_cases hn5 : n < 5
        · obtain ⟨f1, f2, f3, f4, f5⟩ := K1.out k hk5 n hn5
          have M2 := Lib.hid (fun m => K2.out k hk5 n hn5 m)
          obtain ⟨p, hp⟩ : ∃ p, goesP k n = p := ⟨_, rfl⟩
          obtain ⟨j, hj⟩ : ∃ j, joinP k n = j := ⟨_, rfl⟩
          rw [hp] at f1
          rw [hj] at f2 f4
          go_wp2_with (first | (go_at_call 7; refine (goes_any _ _ _).mono ?_; rintro e w' ⟨rfl, rfl⟩) | (go_at_call 9; refine (join_any _ _ _).mono ?_; rintro e w' ⟨rfl, rfl⟩))
          go_loop [4] (fun c => ∃ m : Nat, m ≤ 5 ∧ c = .int .i64 m) (fun c => (5 - (intOf c)).toNat)
          case atStart => exact ⟨0, by omega, rfl⟩
          case round =>
            obtain ⟨m, hm, rfl⟩ := hrel
            by_cases hm5 : m < 5
            · obtain ⟨g1, g2⟩ := M2.out m hm5
              rw [hj] at g1 g2
              obtain ⟨q, hq⟩ : ∃ q, joinP j m = q := ⟨_, rfl⟩
              obtain ⟨r, hr⟩ : ∃ r, joinP n m = r := ⟨_, rfl⟩
              rw [hq, hr] at g1
              by_cases g3 : goesP j m = true
              · obtain ⟨g4, g5⟩ := g2 g3
                go_wp2_with (first | (go_at_call 7; refine (goes_any _ _ _).mono ?_; rintro e w' ⟨rfl, rfl⟩) | (go_at_call 9; refine (join_any _ _ _).mono ?_; rintro e w' ⟨rfl, rfl⟩))
                go_round
                case rel => exact ⟨m + 1, by omega, by go_num⟩
                case measure => simp [intOf]; omega
              · have g3' : goesP j m = false := by simpa using g3
                clear g3 g2
                go_wp2_with (first | (go_at_call 7; refine (goes_any _ _ _).mono ?_; rintro e w' ⟨rfl, rfl⟩) | (go_at_call 9; refine (join_any _ _ _).mono ?_; rintro e w' ⟨rfl, rfl⟩))
                go_round
                case rel => exact ⟨m + 1, by omega, by go_num⟩
                case measure => simp [intOf]; omega
            · go_wp2
              go_round
              case rel => exact ⟨n + 1, by omega, by go_num⟩
              case measure => simp [intOf]; omega
        · obtain rfl : n = 5 := by omega
          clear hn hn5
          go_wp2
          go_round
          case rel => exact ⟨k + 1, by omega, by go_num⟩
          case measure => simp [intOf]; omega
    · go_wp2
      go_ret
      exact ⟨rfl, Grown.refl _⟩

/-! ### THE ROW's STEP: WRITTEN OUT: LEAVE IT -/
set_option maxRecDepth 100000 in
theorem lifted (os : Os) (started : os.Started) (H : Type) (enc : TypeId × Value → H) :
    ReturnsInHanded {} Try.checked os 4 .any (Rows.modeLawsSpec.pre6 enc Try.prog Try.f4 Rows.modeLawsRow.domain false) (Rows.modeLawsSpec.post enc Try.prog Try.f4 false true false false) := by
  refine returnsInHanded_of_change (C := Try.checked) own started (by kernel_rfl) Try.func4
    (ChangeSpec.witness6 (enc := enc) (C := Try.checked) false ⟨#[], #[], []⟩ 8 (by kernel_rfl) (by kernel_rfl) (by kernel_rfl) (by kernel_rfl)) ?_
  intro W base args ds gs before hval0 hW hcnd _
  have hval : ∀ (j : Nat) t v, Try.f4.params[j]? = some t → args[j]? = some v → Value.okWide Try.prog W .any base t v := hval0
  have hW' := hW
  obtain ⟨p, q, hA0, hV, rfl, hfz, hnd⟩ := hW
  have hA : DataW.TrodAll enc Try.prog W 0 (fun _ => true) true Try.f4.params.toList args.toList ds p := hA0
  rw [Try.params4] at hA hval
  obtain ⟨rfl, rfl, rfl⟩ := trodAll_none hA
  obtain ⟨rfl, rfl⟩ := trodVars_none hV
  clear hA0 hval0
  simp only [List.append_nil] at hW'
  refine (walk  W).mono fun e W' ⟨he, hg⟩ => ?_
  subst he
  exact ⟨_, rfl, post_of_same (pa := []) (pv := []) hW' (fun _ _ _ => (trodAll_cons_mk (shut_bool Try.underlying4 _) trodAll_mk0)) (fun sp _ => rfl) (fun _ _ => rfl) rfl
    (hg.frame _) hg.2.1 (ok_one (by kernel_rfl) rfl (okWide_bool_mk Try.underlying4 _))⟩

theorem over : Rows.modeLawsRow.holds Try.pinned (OpenSpec.ofChange Rows.modeLawsSpec) :=
  OpenClaim.holds_of_wide 4 Try.f4 rfl rfl rfl rfl rfl rfl rfl ⟨rfl, rfl, rfl, rfl, rfl⟩ rfl rfl rfl rfl rfl (by kernel_rfl) Try.func4 (by kernel_rfl)
    (of_decide_eq_true (by kernel_rfl)) (by unfold Func.isWrapper; first | (rw [if_pos (by decide +kernel)]; kernel_rfl) | (rw [if_neg (by decide +kernel)]; exact ⟨rfl, rfl⟩))
    (fun os started H enc _ => lifted os started H enc)

/-- ████ THE STATEMENT ████ -/
theorem proved : Rows.ModeLawsSaid :=
  over
end Go.Proofs.Ytlcphokjcdcgeaa.modeLaws
