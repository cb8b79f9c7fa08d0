/- ModeForms: the program's Goes and Join answer at all modes, and beyond, as two tables say. No conditions. -/
import Derived.Test.YtlcphokjcdcgeaaRows
import Derived.WalkKit
import Derived.ProofKit
import Derived.OpenShut
import Derived.LoopTactic
import Derived.Lib.Hide
import Derived.Deep.QuietTactic
import Derived.BigQuiet
import Derived.Test.YtlcphokjcdcgeaaMode
namespace Go.Proofs.Ytlcphokjcdcgeaa.modeForms
open Go.ChangeShapes Go.WideShapes Go.ChangeAt Go.RowKit
set_option linter.unusedVariables false      -- a walk need not use every 'w<i>' (that an integer argument fits its kind)

theorem own : ownKnob Try.prog.godebug = none := by kernel_rfl

/-- the rows of the table of texts -/
def rowS : Nat → ByteArray
  | 0 => ⟨#[121, 121, 121, 121, 121]⟩
  | 1 => ⟨#[121, 121, 121, 121, 110]⟩
  | 2 => ⟨#[121, 121, 121, 110, 110]⟩
  | 3 => ⟨#[121, 121, 110, 121, 110]⟩
  | _ => ⟨#[121, 110, 110, 110, 110]⟩
/-- what the two tables hold: B: the first of their blocks -/
def TabOK (B : Nat) (wr : World) : Prop :=
  ∀ k : Nat, k < 5 → wr.cell? ⟨B, k, none⟩ = some (.string (rowS k)) ∧ wr.cell? ⟨B + 6, k, none⟩ = some (.slice (some ⟨B + 1 + k, 0, none⟩) 5 5) ∧
    ∀ n : Nat, n < 5 → wr.cell? ⟨B + 1 + k, n, none⟩ = some (.int .i64 (joinP k n))
theorem TabOK.drewN {B : Nat} {wr : World} (h : TabOK B wr) (n : Nat) : TabOK B (wr.drewN n) := h
theorem below_drewN {B : Nat} {a w : World} (h : Below B a w) (n : Nat) : Below B a (w.drewN n) := ⟨h.os, h.tape, h.output, h.size, h.block⟩
theorem grown_drewN {a w : World} (h : Grown a w) (n : Nat) : Grown a (w.drewN n) := h
theorem tab_start (w : World) : TabOK w.heap.size (((((((w.alloc (.cells #[.string ⟨#[121, 121, 121, 121, 121]⟩, .string ⟨#[121, 121, 121, 121, 110]⟩, .string ⟨#[121, 121, 121, 110, 110]⟩, .string ⟨#[121, 121, 110, 121, 110]⟩, .string ⟨#[121, 110, 110, 110, 110]⟩] 9)).alloc (.cells #[.int .i64 0, .int .i64 1, .int .i64 2, .int .i64 3, .int .i64 4] 3)).alloc (.cells #[.int .i64 1, .int .i64 1, .int .i64 2, .int .i64 3, .int .i64 4] 3)).alloc (.cells #[.int .i64 2, .int .i64 2, .int .i64 2, .int .i64 4, .int .i64 4] 3)).alloc (.cells #[.int .i64 3, .int .i64 3, .int .i64 4, .int .i64 3, .int .i64 4] 3)).alloc (.cells #[.int .i64 4, .int .i64 4, .int .i64 4, .int .i64 4, .int .i64 4] 3)).alloc (.cells #[.slice (some ⟨w.heap.size + 1, 0, none⟩) 5 5, .slice (some ⟨w.heap.size + 1 + 1, 0, none⟩) 5 5, .slice (some ⟨w.heap.size + 1 + 1 + 1, 0, none⟩) 5 5, .slice (some ⟨w.heap.size + 1 + 1 + 1 + 1, 0, none⟩) 5 5, .slice (some ⟨w.heap.size + 1 + 1 + 1 + 1 + 1, 0, none⟩) 5 5] 26)) := by
  intro k hk
  have h5 : k = 0 ∨ k = 1 ∨ k = 2 ∨ k = 3 ∨ k = 4 := by omega
  rcases h5 with rfl | rfl | rfl | rfl | rfl <;> refine ⟨?_, ?_, fun n hn => ?_⟩ <;>
    first
    | (simp [go_sem, rowS]; done)
    | (have h6 : n = 0 ∨ n = 1 ∨ n = 2 ∨ n = 3 ∨ n = 4 := by omega
       rcases h6 with rfl | rfl | rfl | rfl | rfl <;> simp [go_sem, joinP] <;> omega)
theorem goes_back (a b : Int) (w : World) : Calls Try.prog 7 #[.int .i64 a, .int .i64 b] w fun e w' => e = .returned (.bool (goesP a b)) ∧ w' = w := (goes_any a b w).mono fun _ _ ⟨h, k⟩ => ⟨h, k.symm⟩
theorem join_back (a b : Int) (w : World) : Calls Try.prog 9 #[.int .i64 a, .int .i64 b] w fun e w' => e = .returned (.int .i64 (joinP a b)) ∧ w' = w := (join_any a b w).mono fun _ _ ⟨h, k⟩ => ⟨h, k.symm⟩
/-! ### STEP 1: THE WALK: the Go text returns true. 'Grown w w'': the world has at most new blocks (Derived/RowKit3.lean). Part the cases AHEAD of 'go_enter' where a test parts the walk; take each callee by a contract of your own. -/
set_option maxRecDepth 100000 in
set_option maxHeartbeats 4000000 in
theorem walk  (w : World) :
    Calls Try.prog 5 #[] w fun e w' => e = .returned (.bool true) ∧ Grown w w' := by

  go_enter Try.func5, Try.ntmps5
  go_wp2_with (go_at_call 6; refine (begun_any _).mono ?_; rintro e w' ⟨rfl, rfl⟩)
  go_loopw [3, 4] (fun a b wr => (∃ k : Int, 0 ≤ k ∧ k ≤ 5 ∧ a = .int .i64 k) ∧ TabOK w.heap.size wr ∧ Grown w wr) (fun a _ _ => (5 - intOf a).toNat)
  case atStart =>
    refine ⟨⟨0, by omega, by omega, rfl⟩, tab_start w, by repeat (first | exact Grown.refl _ | apply Grown.alloc)⟩
  case round =>
    obtain ⟨⟨k, hk0, hk5, rfl⟩, ht, hg⟩ := hrel
    have n1 : goesP (-1) 0 = false := by decide
    have n2 : goesP 0 5 = false := by decide
    have n3 : joinP 5 0 = -1 := by decide
    have n4 : joinP 0 (-1) = -1 := by decide
    by_cases hk : k = 5
    · subst hk
      go_wp2_with (first | (go_at_call 7; refine (goes_any _ _ _).mono ?_; rintro e w' ⟨rfl, rfl⟩) | (go_at_call 9; refine (join_any _ _ _).mono ?_; rintro e w' ⟨rfl, rfl⟩))
      go_ret
      exact ⟨rfl, hg⟩
    · clear n1 n2 n3 n4
      rcases five hk0 (show k ≤ 4 by omega) with rfl | rfl | rfl | rfl | rfl <;> clear hk hk0 hk5
      · go_wp2
        go_loopw [4] (fun b wr => (∃ n : Int, 0 ≤ n ∧ n ≤ 5 ∧ b = .int .i64 n) ∧ TabOK w.heap.size wr ∧ Grown w wr) (fun b _ => (5 - intOf b).toNat)
        case atStart => exact ⟨⟨0, by omega, by omega, rfl⟩, ht, hg⟩
        case round =>
          obtain ⟨⟨n, hn0, hn5, rfl⟩, ht, hg⟩ := hrel
          by_cases hn : n = 5
          · subst hn
            go_wp2
            go_roundw
            case rel => exact ⟨⟨1, by omega, by omega, by go_num⟩, ht, hg⟩
            case measure => simp [intOf]
          · rcases five hn0 (show n ≤ 4 by omega) with rfl | rfl | rfl | rfl | rfl <;> clear hn hn0 hn5
            · have g1 : goesP 0 0 = true := by decide
              have c1 : wr.cell? ⟨w.heap.size, 0, none⟩ = some (.string ⟨#[121, 121, 121, 121, 121]⟩) := (ht 0 (by omega)).1
              have c2 : wr.cell? ⟨w.heap.size + 1 + 1 + 1 + 1 + 1 + 1, 0, none⟩ = some (.slice (some ⟨w.heap.size + 1, 0, none⟩) 5 5) := (ht 0 (by omega)).2.1
              have c3 : wr.cell? ⟨w.heap.size + 1, 0, none⟩ = some (.int .i64 (joinP 0 0)) := (ht 0 (by omega)).2.2 0 (by omega)
              have c4 : (((⟨#[121, 121, 121, 121, 121]⟩ : ByteArray)[0].toNat : Int) == 121) = true := by decide
              have ht' := Lib.hid ht
              clear ht
              go_wp2
              go_quiet ((first | (go_at_call 7; exact Calls.quiet_of_same (goes_back _ _ _)) | (go_at_call 9; exact Calls.quiet_of_same (join_back _ _ _))))
              go_wp2
              go_roundw
              case rel => exact ⟨⟨1, by omega, by omega, by go_num⟩, ht'.out, hg⟩
              case measure => simp [intOf]
            · have g1 : goesP 0 1 = true := by decide
              have c1 : wr.cell? ⟨w.heap.size, 0, none⟩ = some (.string ⟨#[121, 121, 121, 121, 121]⟩) := (ht 0 (by omega)).1
              have c2 : wr.cell? ⟨w.heap.size + 1 + 1 + 1 + 1 + 1 + 1, 0, none⟩ = some (.slice (some ⟨w.heap.size + 1, 0, none⟩) 5 5) := (ht 0 (by omega)).2.1
              have c3 : wr.cell? ⟨w.heap.size + 1, 1, none⟩ = some (.int .i64 (joinP 0 1)) := (ht 0 (by omega)).2.2 1 (by omega)
              have c4 : (((⟨#[121, 121, 121, 121, 121]⟩ : ByteArray)[1].toNat : Int) == 121) = true := by decide
              have ht' := Lib.hid ht
              clear ht
              go_wp2
              go_quiet ((first | (go_at_call 7; exact Calls.quiet_of_same (goes_back _ _ _)) | (go_at_call 9; exact Calls.quiet_of_same (join_back _ _ _))))
              go_wp2
              go_roundw
              case rel => exact ⟨⟨2, by omega, by omega, by go_num⟩, ht'.out, hg⟩
              case measure => simp [intOf]
            · have g1 : goesP 0 2 = true := by decide
              have c1 : wr.cell? ⟨w.heap.size, 0, none⟩ = some (.string ⟨#[121, 121, 121, 121, 121]⟩) := (ht 0 (by omega)).1
              have c2 : wr.cell? ⟨w.heap.size + 1 + 1 + 1 + 1 + 1 + 1, 0, none⟩ = some (.slice (some ⟨w.heap.size + 1, 0, none⟩) 5 5) := (ht 0 (by omega)).2.1
              have c3 : wr.cell? ⟨w.heap.size + 1, 2, none⟩ = some (.int .i64 (joinP 0 2)) := (ht 0 (by omega)).2.2 2 (by omega)
              have c4 : (((⟨#[121, 121, 121, 121, 121]⟩ : ByteArray)[2].toNat : Int) == 121) = true := by decide
              have ht' := Lib.hid ht
              clear ht
              go_wp2
              go_quiet ((first | (go_at_call 7; exact Calls.quiet_of_same (goes_back _ _ _)) | (go_at_call 9; exact Calls.quiet_of_same (join_back _ _ _))))
              go_wp2
              go_roundw
              case rel => exact ⟨⟨3, by omega, by omega, by go_num⟩, ht'.out, hg⟩
              case measure => simp [intOf]
            · have g1 : goesP 0 3 = true := by decide
              have c1 : wr.cell? ⟨w.heap.size, 0, none⟩ = some (.string ⟨#[121, 121, 121, 121, 121]⟩) := (ht 0 (by omega)).1
              have c2 : wr.cell? ⟨w.heap.size + 1 + 1 + 1 + 1 + 1 + 1, 0, none⟩ = some (.slice (some ⟨w.heap.size + 1, 0, none⟩) 5 5) := (ht 0 (by omega)).2.1
              have c3 : wr.cell? ⟨w.heap.size + 1, 3, none⟩ = some (.int .i64 (joinP 0 3)) := (ht 0 (by omega)).2.2 3 (by omega)
              have c4 : (((⟨#[121, 121, 121, 121, 121]⟩ : ByteArray)[3].toNat : Int) == 121) = true := by decide
              have ht' := Lib.hid ht
              clear ht
              go_wp2
              go_quiet ((first | (go_at_call 7; exact Calls.quiet_of_same (goes_back _ _ _)) | (go_at_call 9; exact Calls.quiet_of_same (join_back _ _ _))))
              go_wp2
              go_roundw
              case rel => exact ⟨⟨4, by omega, by omega, by go_num⟩, ht'.out, hg⟩
              case measure => simp [intOf]
            · have g1 : goesP 0 4 = true := by decide
              have c1 : wr.cell? ⟨w.heap.size, 0, none⟩ = some (.string ⟨#[121, 121, 121, 121, 121]⟩) := (ht 0 (by omega)).1
              have c2 : wr.cell? ⟨w.heap.size + 1 + 1 + 1 + 1 + 1 + 1, 0, none⟩ = some (.slice (some ⟨w.heap.size + 1, 0, none⟩) 5 5) := (ht 0 (by omega)).2.1
              have c3 : wr.cell? ⟨w.heap.size + 1, 4, none⟩ = some (.int .i64 (joinP 0 4)) := (ht 0 (by omega)).2.2 4 (by omega)
              have c4 : (((⟨#[121, 121, 121, 121, 121]⟩ : ByteArray)[4].toNat : Int) == 121) = true := by decide
              have ht' := Lib.hid ht
              clear ht
              go_wp2
              go_quiet ((first | (go_at_call 7; exact Calls.quiet_of_same (goes_back _ _ _)) | (go_at_call 9; exact Calls.quiet_of_same (join_back _ _ _))))
              go_wp2
              go_roundw
              case rel => exact ⟨⟨5, by omega, by omega, by go_num⟩, ht'.out, hg⟩
              case measure => simp [intOf]
      · go_wp2
        go_loopw [4] (fun b wr => (∃ n : Int, 0 ≤ n ∧ n ≤ 5 ∧ b = .int .i64 n) ∧ TabOK w.heap.size wr ∧ Grown w wr) (fun b _ => (5 - intOf b).toNat)
        case atStart => exact ⟨⟨0, by omega, by omega, rfl⟩, ht, hg⟩
        case round =>
          obtain ⟨⟨n, hn0, hn5, rfl⟩, ht, hg⟩ := hrel
          by_cases hn : n = 5
          · subst hn
            go_wp2
            go_roundw
            case rel => exact ⟨⟨2, by omega, by omega, by go_num⟩, ht, hg⟩
            case measure => simp [intOf]
          · rcases five hn0 (show n ≤ 4 by omega) with rfl | rfl | rfl | rfl | rfl <;> clear hn hn0 hn5
            · have g1 : goesP 1 0 = true := by decide
              have c1 : wr.cell? ⟨w.heap.size, 1, none⟩ = some (.string ⟨#[121, 121, 121, 121, 110]⟩) := (ht 1 (by omega)).1
              have c2 : wr.cell? ⟨w.heap.size + 1 + 1 + 1 + 1 + 1 + 1, 1, none⟩ = some (.slice (some ⟨w.heap.size + 1 + 1, 0, none⟩) 5 5) := (ht 1 (by omega)).2.1
              have c3 : wr.cell? ⟨w.heap.size + 1 + 1, 0, none⟩ = some (.int .i64 (joinP 1 0)) := (ht 1 (by omega)).2.2 0 (by omega)
              have c4 : (((⟨#[121, 121, 121, 121, 110]⟩ : ByteArray)[0].toNat : Int) == 121) = true := by decide
              have ht' := Lib.hid ht
              clear ht
              go_wp2
              go_quiet ((first | (go_at_call 7; exact Calls.quiet_of_same (goes_back _ _ _)) | (go_at_call 9; exact Calls.quiet_of_same (join_back _ _ _))))
              go_wp2
              go_roundw
              case rel => exact ⟨⟨1, by omega, by omega, by go_num⟩, ht'.out, hg⟩
              case measure => simp [intOf]
            · have g1 : goesP 1 1 = true := by decide
              have c1 : wr.cell? ⟨w.heap.size, 1, none⟩ = some (.string ⟨#[121, 121, 121, 121, 110]⟩) := (ht 1 (by omega)).1
              have c2 : wr.cell? ⟨w.heap.size + 1 + 1 + 1 + 1 + 1 + 1, 1, none⟩ = some (.slice (some ⟨w.heap.size + 1 + 1, 0, none⟩) 5 5) := (ht 1 (by omega)).2.1
              have c3 : wr.cell? ⟨w.heap.size + 1 + 1, 1, none⟩ = some (.int .i64 (joinP 1 1)) := (ht 1 (by omega)).2.2 1 (by omega)
              have c4 : (((⟨#[121, 121, 121, 121, 110]⟩ : ByteArray)[1].toNat : Int) == 121) = true := by decide
              have ht' := Lib.hid ht
              clear ht
              go_wp2
              go_quiet ((first | (go_at_call 7; exact Calls.quiet_of_same (goes_back _ _ _)) | (go_at_call 9; exact Calls.quiet_of_same (join_back _ _ _))))
              go_wp2
              go_roundw
              case rel => exact ⟨⟨2, by omega, by omega, by go_num⟩, ht'.out, hg⟩
              case measure => simp [intOf]
            · have g1 : goesP 1 2 = true := by decide
              have c1 : wr.cell? ⟨w.heap.size, 1, none⟩ = some (.string ⟨#[121, 121, 121, 121, 110]⟩) := (ht 1 (by omega)).1
              have c2 : wr.cell? ⟨w.heap.size + 1 + 1 + 1 + 1 + 1 + 1, 1, none⟩ = some (.slice (some ⟨w.heap.size + 1 + 1, 0, none⟩) 5 5) := (ht 1 (by omega)).2.1
              have c3 : wr.cell? ⟨w.heap.size + 1 + 1, 2, none⟩ = some (.int .i64 (joinP 1 2)) := (ht 1 (by omega)).2.2 2 (by omega)
              have c4 : (((⟨#[121, 121, 121, 121, 110]⟩ : ByteArray)[2].toNat : Int) == 121) = true := by decide
              have ht' := Lib.hid ht
              clear ht
              go_wp2
              go_quiet ((first | (go_at_call 7; exact Calls.quiet_of_same (goes_back _ _ _)) | (go_at_call 9; exact Calls.quiet_of_same (join_back _ _ _))))
              go_wp2
              go_roundw
              case rel => exact ⟨⟨3, by omega, by omega, by go_num⟩, ht'.out, hg⟩
              case measure => simp [intOf]
            · have g1 : goesP 1 3 = true := by decide
              have c1 : wr.cell? ⟨w.heap.size, 1, none⟩ = some (.string ⟨#[121, 121, 121, 121, 110]⟩) := (ht 1 (by omega)).1
              have c2 : wr.cell? ⟨w.heap.size + 1 + 1 + 1 + 1 + 1 + 1, 1, none⟩ = some (.slice (some ⟨w.heap.size + 1 + 1, 0, none⟩) 5 5) := (ht 1 (by omega)).2.1
              have c3 : wr.cell? ⟨w.heap.size + 1 + 1, 3, none⟩ = some (.int .i64 (joinP 1 3)) := (ht 1 (by omega)).2.2 3 (by omega)
              have c4 : (((⟨#[121, 121, 121, 121, 110]⟩ : ByteArray)[3].toNat : Int) == 121) = true := by decide
              have ht' := Lib.hid ht
              clear ht
              go_wp2
              go_quiet ((first | (go_at_call 7; exact Calls.quiet_of_same (goes_back _ _ _)) | (go_at_call 9; exact Calls.quiet_of_same (join_back _ _ _))))
              go_wp2
              go_roundw
              case rel => exact ⟨⟨4, by omega, by omega, by go_num⟩, ht'.out, hg⟩
              case measure => simp [intOf]
            · have g1 : goesP 1 4 = false := by decide
              have c1 : wr.cell? ⟨w.heap.size, 1, none⟩ = some (.string ⟨#[121, 121, 121, 121, 110]⟩) := (ht 1 (by omega)).1
              have c2 : wr.cell? ⟨w.heap.size + 1 + 1 + 1 + 1 + 1 + 1, 1, none⟩ = some (.slice (some ⟨w.heap.size + 1 + 1, 0, none⟩) 5 5) := (ht 1 (by omega)).2.1
              have c3 : wr.cell? ⟨w.heap.size + 1 + 1, 4, none⟩ = some (.int .i64 (joinP 1 4)) := (ht 1 (by omega)).2.2 4 (by omega)
              have c4 : (((⟨#[121, 121, 121, 121, 110]⟩ : ByteArray)[4].toNat : Int) == 121) = false := by decide
              have ht' := Lib.hid ht
              clear ht
              go_wp2
              go_quiet ((first | (go_at_call 7; exact Calls.quiet_of_same (goes_back _ _ _)) | (go_at_call 9; exact Calls.quiet_of_same (join_back _ _ _))))
              go_wp2
              go_roundw
              case rel => exact ⟨⟨5, by omega, by omega, by go_num⟩, ht'.out, hg⟩
              case measure => simp [intOf]
      · go_wp2
        go_loopw [4] (fun b wr => (∃ n : Int, 0 ≤ n ∧ n ≤ 5 ∧ b = .int .i64 n) ∧ TabOK w.heap.size wr ∧ Grown w wr) (fun b _ => (5 - intOf b).toNat)
        case atStart => exact ⟨⟨0, by omega, by omega, rfl⟩, ht, hg⟩
        case round =>
          obtain ⟨⟨n, hn0, hn5, rfl⟩, ht, hg⟩ := hrel
          by_cases hn : n = 5
          · subst hn
            go_wp2
            go_roundw
            case rel => exact ⟨⟨3, by omega, by omega, by go_num⟩, ht, hg⟩
            case measure => simp [intOf]
          · rcases five hn0 (show n ≤ 4 by omega) with rfl | rfl | rfl | rfl | rfl <;> clear hn hn0 hn5
            · have g1 : goesP 2 0 = true := by decide
              have c1 : wr.cell? ⟨w.heap.size, 2, none⟩ = some (.string ⟨#[121, 121, 121, 110, 110]⟩) := (ht 2 (by omega)).1
              have c2 : wr.cell? ⟨w.heap.size + 1 + 1 + 1 + 1 + 1 + 1, 2, none⟩ = some (.slice (some ⟨w.heap.size + 1 + 1 + 1, 0, none⟩) 5 5) := (ht 2 (by omega)).2.1
              have c3 : wr.cell? ⟨w.heap.size + 1 + 1 + 1, 0, none⟩ = some (.int .i64 (joinP 2 0)) := (ht 2 (by omega)).2.2 0 (by omega)
              have c4 : (((⟨#[121, 121, 121, 110, 110]⟩ : ByteArray)[0].toNat : Int) == 121) = true := by decide
              have ht' := Lib.hid ht
              clear ht
              go_wp2
              go_quiet ((first | (go_at_call 7; exact Calls.quiet_of_same (goes_back _ _ _)) | (go_at_call 9; exact Calls.quiet_of_same (join_back _ _ _))))
              go_wp2
              go_roundw
              case rel => exact ⟨⟨1, by omega, by omega, by go_num⟩, ht'.out, hg⟩
              case measure => simp [intOf]
            · have g1 : goesP 2 1 = true := by decide
              have c1 : wr.cell? ⟨w.heap.size, 2, none⟩ = some (.string ⟨#[121, 121, 121, 110, 110]⟩) := (ht 2 (by omega)).1
              have c2 : wr.cell? ⟨w.heap.size + 1 + 1 + 1 + 1 + 1 + 1, 2, none⟩ = some (.slice (some ⟨w.heap.size + 1 + 1 + 1, 0, none⟩) 5 5) := (ht 2 (by omega)).2.1
              have c3 : wr.cell? ⟨w.heap.size + 1 + 1 + 1, 1, none⟩ = some (.int .i64 (joinP 2 1)) := (ht 2 (by omega)).2.2 1 (by omega)
              have c4 : (((⟨#[121, 121, 121, 110, 110]⟩ : ByteArray)[1].toNat : Int) == 121) = true := by decide
              have ht' := Lib.hid ht
              clear ht
              go_wp2
              go_quiet ((first | (go_at_call 7; exact Calls.quiet_of_same (goes_back _ _ _)) | (go_at_call 9; exact Calls.quiet_of_same (join_back _ _ _))))
              go_wp2
              go_roundw
              case rel => exact ⟨⟨2, by omega, by omega, by go_num⟩, ht'.out, hg⟩
              case measure => simp [intOf]
            · have g1 : goesP 2 2 = true := by decide
              have c1 : wr.cell? ⟨w.heap.size, 2, none⟩ = some (.string ⟨#[121, 121, 121, 110, 110]⟩) := (ht 2 (by omega)).1
              have c2 : wr.cell? ⟨w.heap.size + 1 + 1 + 1 + 1 + 1 + 1, 2, none⟩ = some (.slice (some ⟨w.heap.size + 1 + 1 + 1, 0, none⟩) 5 5) := (ht 2 (by omega)).2.1
              have c3 : wr.cell? ⟨w.heap.size + 1 + 1 + 1, 2, none⟩ = some (.int .i64 (joinP 2 2)) := (ht 2 (by omega)).2.2 2 (by omega)
              have c4 : (((⟨#[121, 121, 121, 110, 110]⟩ : ByteArray)[2].toNat : Int) == 121) = true := by decide
              have ht' := Lib.hid ht
              clear ht
              go_wp2
              go_quiet ((first | (go_at_call 7; exact Calls.quiet_of_same (goes_back _ _ _)) | (go_at_call 9; exact Calls.quiet_of_same (join_back _ _ _))))
              go_wp2
              go_roundw
              case rel => exact ⟨⟨3, by omega, by omega, by go_num⟩, ht'.out, hg⟩
              case measure => simp [intOf]
            · have g1 : goesP 2 3 = false := by decide
              have c1 : wr.cell? ⟨w.heap.size, 2, none⟩ = some (.string ⟨#[121, 121, 121, 110, 110]⟩) := (ht 2 (by omega)).1
              have c2 : wr.cell? ⟨w.heap.size + 1 + 1 + 1 + 1 + 1 + 1, 2, none⟩ = some (.slice (some ⟨w.heap.size + 1 + 1 + 1, 0, none⟩) 5 5) := (ht 2 (by omega)).2.1
              have c3 : wr.cell? ⟨w.heap.size + 1 + 1 + 1, 3, none⟩ = some (.int .i64 (joinP 2 3)) := (ht 2 (by omega)).2.2 3 (by omega)
              have c4 : (((⟨#[121, 121, 121, 110, 110]⟩ : ByteArray)[3].toNat : Int) == 121) = false := by decide
              have ht' := Lib.hid ht
              clear ht
              go_wp2
              go_quiet ((first | (go_at_call 7; exact Calls.quiet_of_same (goes_back _ _ _)) | (go_at_call 9; exact Calls.quiet_of_same (join_back _ _ _))))
              go_wp2
              go_roundw
              case rel => exact ⟨⟨4, by omega, by omega, by go_num⟩, ht'.out, hg⟩
              case measure => simp [intOf]
            · have g1 : goesP 2 4 = false := by decide
              have c1 : wr.cell? ⟨w.heap.size, 2, none⟩ = some (.string ⟨#[121, 121, 121, 110, 110]⟩) := (ht 2 (by omega)).1
              have c2 : wr.cell? ⟨w.heap.size + 1 + 1 + 1 + 1 + 1 + 1, 2, none⟩ = some (.slice (some ⟨w.heap.size + 1 + 1 + 1, 0, none⟩) 5 5) := (ht 2 (by omega)).2.1
              have c3 : wr.cell? ⟨w.heap.size + 1 + 1 + 1, 4, none⟩ = some (.int .i64 (joinP 2 4)) := (ht 2 (by omega)).2.2 4 (by omega)
              have c4 : (((⟨#[121, 121, 121, 110, 110]⟩ : ByteArray)[4].toNat : Int) == 121) = false := by decide
              have ht' := Lib.hid ht
              clear ht
              go_wp2
              go_quiet ((first | (go_at_call 7; exact Calls.quiet_of_same (goes_back _ _ _)) | (go_at_call 9; exact Calls.quiet_of_same (join_back _ _ _))))
              go_wp2
              go_roundw
              case rel => exact ⟨⟨5, by omega, by omega, by go_num⟩, ht'.out, hg⟩
              case measure => simp [intOf]
      · go_wp2
        go_loopw [4] (fun b wr => (∃ n : Int, 0 ≤ n ∧ n ≤ 5 ∧ b = .int .i64 n) ∧ TabOK w.heap.size wr ∧ Grown w wr) (fun b _ => (5 - intOf b).toNat)
        case atStart => exact ⟨⟨0, by omega, by omega, rfl⟩, ht, hg⟩
        case round =>
          obtain ⟨⟨n, hn0, hn5, rfl⟩, ht, hg⟩ := hrel
          by_cases hn : n = 5
          · subst hn
            go_wp2
            go_roundw
            case rel => exact ⟨⟨4, by omega, by omega, by go_num⟩, ht, hg⟩
            case measure => simp [intOf]
          · rcases five hn0 (show n ≤ 4 by omega) with rfl | rfl | rfl | rfl | rfl <;> clear hn hn0 hn5
            · have g1 : goesP 3 0 = true := by decide
              have c1 : wr.cell? ⟨w.heap.size, 3, none⟩ = some (.string ⟨#[121, 121, 110, 121, 110]⟩) := (ht 3 (by omega)).1
              have c2 : wr.cell? ⟨w.heap.size + 1 + 1 + 1 + 1 + 1 + 1, 3, none⟩ = some (.slice (some ⟨w.heap.size + 1 + 1 + 1 + 1, 0, none⟩) 5 5) := (ht 3 (by omega)).2.1
              have c3 : wr.cell? ⟨w.heap.size + 1 + 1 + 1 + 1, 0, none⟩ = some (.int .i64 (joinP 3 0)) := (ht 3 (by omega)).2.2 0 (by omega)
              have c4 : (((⟨#[121, 121, 110, 121, 110]⟩ : ByteArray)[0].toNat : Int) == 121) = true := by decide
              have ht' := Lib.hid ht
              clear ht
              go_wp2
              go_quiet ((first | (go_at_call 7; exact Calls.quiet_of_same (goes_back _ _ _)) | (go_at_call 9; exact Calls.quiet_of_same (join_back _ _ _))))
              go_wp2
              go_roundw
              case rel => exact ⟨⟨1, by omega, by omega, by go_num⟩, ht'.out, hg⟩
              case measure => simp [intOf]
            · have g1 : goesP 3 1 = true := by decide
              have c1 : wr.cell? ⟨w.heap.size, 3, none⟩ = some (.string ⟨#[121, 121, 110, 121, 110]⟩) := (ht 3 (by omega)).1
              have c2 : wr.cell? ⟨w.heap.size + 1 + 1 + 1 + 1 + 1 + 1, 3, none⟩ = some (.slice (some ⟨w.heap.size + 1 + 1 + 1 + 1, 0, none⟩) 5 5) := (ht 3 (by omega)).2.1
              have c3 : wr.cell? ⟨w.heap.size + 1 + 1 + 1 + 1, 1, none⟩ = some (.int .i64 (joinP 3 1)) := (ht 3 (by omega)).2.2 1 (by omega)
              have c4 : (((⟨#[121, 121, 110, 121, 110]⟩ : ByteArray)[1].toNat : Int) == 121) = true := by decide
              have ht' := Lib.hid ht
              clear ht
              go_wp2
              go_quiet ((first | (go_at_call 7; exact Calls.quiet_of_same (goes_back _ _ _)) | (go_at_call 9; exact Calls.quiet_of_same (join_back _ _ _))))
              go_wp2
              go_roundw
              case rel => exact ⟨⟨2, by omega, by omega, by go_num⟩, ht'.out, hg⟩
              case measure => simp [intOf]
            · have g1 : goesP 3 2 = false := by decide
              have c1 : wr.cell? ⟨w.heap.size, 3, none⟩ = some (.string ⟨#[121, 121, 110, 121, 110]⟩) := (ht 3 (by omega)).1
              have c2 : wr.cell? ⟨w.heap.size + 1 + 1 + 1 + 1 + 1 + 1, 3, none⟩ = some (.slice (some ⟨w.heap.size + 1 + 1 + 1 + 1, 0, none⟩) 5 5) := (ht 3 (by omega)).2.1
              have c3 : wr.cell? ⟨w.heap.size + 1 + 1 + 1 + 1, 2, none⟩ = some (.int .i64 (joinP 3 2)) := (ht 3 (by omega)).2.2 2 (by omega)
              have c4 : (((⟨#[121, 121, 110, 121, 110]⟩ : ByteArray)[2].toNat : Int) == 121) = false := by decide
              have ht' := Lib.hid ht
              clear ht
              go_wp2
              go_quiet ((first | (go_at_call 7; exact Calls.quiet_of_same (goes_back _ _ _)) | (go_at_call 9; exact Calls.quiet_of_same (join_back _ _ _))))
              go_wp2
              go_roundw
              case rel => exact ⟨⟨3, by omega, by omega, by go_num⟩, ht'.out, hg⟩
              case measure => simp [intOf]
            · have g1 : goesP 3 3 = true := by decide
              have c1 : wr.cell? ⟨w.heap.size, 3, none⟩ = some (.string ⟨#[121, 121, 110, 121, 110]⟩) := (ht 3 (by omega)).1
              have c2 : wr.cell? ⟨w.heap.size + 1 + 1 + 1 + 1 + 1 + 1, 3, none⟩ = some (.slice (some ⟨w.heap.size + 1 + 1 + 1 + 1, 0, none⟩) 5 5) := (ht 3 (by omega)).2.1
              have c3 : wr.cell? ⟨w.heap.size + 1 + 1 + 1 + 1, 3, none⟩ = some (.int .i64 (joinP 3 3)) := (ht 3 (by omega)).2.2 3 (by omega)
              have c4 : (((⟨#[121, 121, 110, 121, 110]⟩ : ByteArray)[3].toNat : Int) == 121) = true := by decide
              have ht' := Lib.hid ht
              clear ht
              go_wp2
              go_quiet ((first | (go_at_call 7; exact Calls.quiet_of_same (goes_back _ _ _)) | (go_at_call 9; exact Calls.quiet_of_same (join_back _ _ _))))
              go_wp2
              go_roundw
              case rel => exact ⟨⟨4, by omega, by omega, by go_num⟩, ht'.out, hg⟩
              case measure => simp [intOf]
            · have g1 : goesP 3 4 = false := by decide
              have c1 : wr.cell? ⟨w.heap.size, 3, none⟩ = some (.string ⟨#[121, 121, 110, 121, 110]⟩) := (ht 3 (by omega)).1
              have c2 : wr.cell? ⟨w.heap.size + 1 + 1 + 1 + 1 + 1 + 1, 3, none⟩ = some (.slice (some ⟨w.heap.size + 1 + 1 + 1 + 1, 0, none⟩) 5 5) := (ht 3 (by omega)).2.1
              have c3 : wr.cell? ⟨w.heap.size + 1 + 1 + 1 + 1, 4, none⟩ = some (.int .i64 (joinP 3 4)) := (ht 3 (by omega)).2.2 4 (by omega)
              have c4 : (((⟨#[121, 121, 110, 121, 110]⟩ : ByteArray)[4].toNat : Int) == 121) = false := by decide
              have ht' := Lib.hid ht
              clear ht
              go_wp2
              go_quiet ((first | (go_at_call 7; exact Calls.quiet_of_same (goes_back _ _ _)) | (go_at_call 9; exact Calls.quiet_of_same (join_back _ _ _))))
              go_wp2
              go_roundw
              case rel => exact ⟨⟨5, by omega, by omega, by go_num⟩, ht'.out, hg⟩
              case measure => simp [intOf]
      · go_wp2
        go_loopw [4] (fun b wr => (∃ n : Int, 0 ≤ n ∧ n ≤ 5 ∧ b = .int .i64 n) ∧ TabOK w.heap.size wr ∧ Grown w wr) (fun b _ => (5 - intOf b).toNat)
        case atStart => exact ⟨⟨0, by omega, by omega, rfl⟩, ht, hg⟩
        case round =>
          obtain ⟨⟨n, hn0, hn5, rfl⟩, ht, hg⟩ := hrel
          by_cases hn : n = 5
          · subst hn
            go_wp2
            go_roundw
            case rel => exact ⟨⟨5, by omega, by omega, by go_num⟩, ht, hg⟩
            case measure => simp [intOf]
          · rcases five hn0 (show n ≤ 4 by omega) with rfl | rfl | rfl | rfl | rfl <;> clear hn hn0 hn5
            · have g1 : goesP 4 0 = true := by decide
              have c1 : wr.cell? ⟨w.heap.size, 4, none⟩ = some (.string ⟨#[121, 110, 110, 110, 110]⟩) := (ht 4 (by omega)).1
              have c2 : wr.cell? ⟨w.heap.size + 1 + 1 + 1 + 1 + 1 + 1, 4, none⟩ = some (.slice (some ⟨w.heap.size + 1 + 1 + 1 + 1 + 1, 0, none⟩) 5 5) := (ht 4 (by omega)).2.1
              have c3 : wr.cell? ⟨w.heap.size + 1 + 1 + 1 + 1 + 1, 0, none⟩ = some (.int .i64 (joinP 4 0)) := (ht 4 (by omega)).2.2 0 (by omega)
              have c4 : (((⟨#[121, 110, 110, 110, 110]⟩ : ByteArray)[0].toNat : Int) == 121) = true := by decide
              have ht' := Lib.hid ht
              clear ht
              go_wp2
              go_quiet ((first | (go_at_call 7; exact Calls.quiet_of_same (goes_back _ _ _)) | (go_at_call 9; exact Calls.quiet_of_same (join_back _ _ _))))
              go_wp2
              go_roundw
              case rel => exact ⟨⟨1, by omega, by omega, by go_num⟩, ht'.out, hg⟩
              case measure => simp [intOf]
            · have g1 : goesP 4 1 = false := by decide
              have c1 : wr.cell? ⟨w.heap.size, 4, none⟩ = some (.string ⟨#[121, 110, 110, 110, 110]⟩) := (ht 4 (by omega)).1
              have c2 : wr.cell? ⟨w.heap.size + 1 + 1 + 1 + 1 + 1 + 1, 4, none⟩ = some (.slice (some ⟨w.heap.size + 1 + 1 + 1 + 1 + 1, 0, none⟩) 5 5) := (ht 4 (by omega)).2.1
              have c3 : wr.cell? ⟨w.heap.size + 1 + 1 + 1 + 1 + 1, 1, none⟩ = some (.int .i64 (joinP 4 1)) := (ht 4 (by omega)).2.2 1 (by omega)
              have c4 : (((⟨#[121, 110, 110, 110, 110]⟩ : ByteArray)[1].toNat : Int) == 121) = false := by decide
              have ht' := Lib.hid ht
              clear ht
              go_wp2
              go_quiet ((first | (go_at_call 7; exact Calls.quiet_of_same (goes_back _ _ _)) | (go_at_call 9; exact Calls.quiet_of_same (join_back _ _ _))))
              go_wp2
              go_roundw
              case rel => exact ⟨⟨2, by omega, by omega, by go_num⟩, ht'.out, hg⟩
              case measure => simp [intOf]
            · have g1 : goesP 4 2 = false := by decide
              have c1 : wr.cell? ⟨w.heap.size, 4, none⟩ = some (.string ⟨#[121, 110, 110, 110, 110]⟩) := (ht 4 (by omega)).1
              have c2 : wr.cell? ⟨w.heap.size + 1 + 1 + 1 + 1 + 1 + 1, 4, none⟩ = some (.slice (some ⟨w.heap.size + 1 + 1 + 1 + 1 + 1, 0, none⟩) 5 5) := (ht 4 (by omega)).2.1
              have c3 : wr.cell? ⟨w.heap.size + 1 + 1 + 1 + 1 + 1, 2, none⟩ = some (.int .i64 (joinP 4 2)) := (ht 4 (by omega)).2.2 2 (by omega)
              have c4 : (((⟨#[121, 110, 110, 110, 110]⟩ : ByteArray)[2].toNat : Int) == 121) = false := by decide
              have ht' := Lib.hid ht
              clear ht
              go_wp2
              go_quiet ((first | (go_at_call 7; exact Calls.quiet_of_same (goes_back _ _ _)) | (go_at_call 9; exact Calls.quiet_of_same (join_back _ _ _))))
              go_wp2
              go_roundw
              case rel => exact ⟨⟨3, by omega, by omega, by go_num⟩, ht'.out, hg⟩
              case measure => simp [intOf]
            · have g1 : goesP 4 3 = false := by decide
              have c1 : wr.cell? ⟨w.heap.size, 4, none⟩ = some (.string ⟨#[121, 110, 110, 110, 110]⟩) := (ht 4 (by omega)).1
              have c2 : wr.cell? ⟨w.heap.size + 1 + 1 + 1 + 1 + 1 + 1, 4, none⟩ = some (.slice (some ⟨w.heap.size + 1 + 1 + 1 + 1 + 1, 0, none⟩) 5 5) := (ht 4 (by omega)).2.1
              have c3 : wr.cell? ⟨w.heap.size + 1 + 1 + 1 + 1 + 1, 3, none⟩ = some (.int .i64 (joinP 4 3)) := (ht 4 (by omega)).2.2 3 (by omega)
              have c4 : (((⟨#[121, 110, 110, 110, 110]⟩ : ByteArray)[3].toNat : Int) == 121) = false := by decide
              have ht' := Lib.hid ht
              clear ht
              go_wp2
              go_quiet ((first | (go_at_call 7; exact Calls.quiet_of_same (goes_back _ _ _)) | (go_at_call 9; exact Calls.quiet_of_same (join_back _ _ _))))
              go_wp2
              go_roundw
              case rel => exact ⟨⟨4, by omega, by omega, by go_num⟩, ht'.out, hg⟩
              case measure => simp [intOf]
            · have g1 : goesP 4 4 = false := by decide
              have c1 : wr.cell? ⟨w.heap.size, 4, none⟩ = some (.string ⟨#[121, 110, 110, 110, 110]⟩) := (ht 4 (by omega)).1
              have c2 : wr.cell? ⟨w.heap.size + 1 + 1 + 1 + 1 + 1 + 1, 4, none⟩ = some (.slice (some ⟨w.heap.size + 1 + 1 + 1 + 1 + 1, 0, none⟩) 5 5) := (ht 4 (by omega)).2.1
              have c3 : wr.cell? ⟨w.heap.size + 1 + 1 + 1 + 1 + 1, 4, none⟩ = some (.int .i64 (joinP 4 4)) := (ht 4 (by omega)).2.2 4 (by omega)
              have c4 : (((⟨#[121, 110, 110, 110, 110]⟩ : ByteArray)[4].toNat : Int) == 121) = false := by decide
              have ht' := Lib.hid ht
              clear ht
              go_wp2
              go_quiet ((first | (go_at_call 7; exact Calls.quiet_of_same (goes_back _ _ _)) | (go_at_call 9; exact Calls.quiet_of_same (join_back _ _ _))))
              go_wp2
              go_roundw
              case rel => exact ⟨⟨5, by omega, by omega, by go_num⟩, ht'.out, hg⟩
              case measure => simp [intOf]

/-! ### THE ROW's STEP: WRITTEN OUT: LEAVE IT -/
set_option maxRecDepth 100000 in
theorem lifted (os : Os) (started : os.Started) (H : Type) (enc : TypeId × Value → H) :
    ReturnsInHanded {} Try.checked os 5 .any (Rows.modeFormsSpec.pre6 enc Try.prog Try.f5 Rows.modeFormsRow.domain false) (Rows.modeFormsSpec.post enc Try.prog Try.f5 false true false false) := by
  refine returnsInHanded_of_change (C := Try.checked) own started (by kernel_rfl) Try.func5
    (ChangeSpec.witness6 (enc := enc) (C := Try.checked) false ⟨#[], #[], []⟩ 8 (by kernel_rfl) (by kernel_rfl) (by kernel_rfl) (by kernel_rfl)) ?_
  intro W base args ds gs before hval0 hW hcnd _
  have hval : ∀ (j : Nat) t v, Try.f5.params[j]? = some t → args[j]? = some v → Value.okWide Try.prog W .any base t v := hval0
  have hW' := hW
  obtain ⟨p, q, hA0, hV, rfl, hfz, hnd⟩ := hW
  have hA : DataW.TrodAll enc Try.prog W 0 (fun _ => true) true Try.f5.params.toList args.toList ds p := hA0
  rw [Try.params5] at hA hval
  obtain ⟨rfl, rfl, rfl⟩ := trodAll_none hA
  obtain ⟨rfl, rfl⟩ := trodVars_none hV
  clear hA0 hval0
  simp only [List.append_nil] at hW'
  refine (walk  W).mono fun e W' ⟨he, hg⟩ => ?_
  subst he
  exact ⟨_, rfl, post_of_same (pa := []) (pv := []) hW' (fun _ _ _ => (trodAll_cons_mk (shut_bool Try.underlying4 _) trodAll_mk0)) (fun sp _ => rfl) (fun _ _ => rfl) rfl
    (hg.frame _) hg.2.1 (ok_one (by kernel_rfl) rfl (okWide_bool_mk Try.underlying4 _))⟩

theorem over : Rows.modeFormsRow.holds Try.pinned (OpenSpec.ofChange Rows.modeFormsSpec) :=
  OpenClaim.holds_of_wide 5 Try.f5 rfl rfl rfl rfl rfl rfl rfl ⟨rfl, rfl, rfl, rfl, rfl⟩ rfl rfl rfl rfl rfl (by kernel_rfl) Try.func5 (by kernel_rfl)
    (of_decide_eq_true (by kernel_rfl)) (by unfold Func.isWrapper; first | (rw [if_pos (by decide +kernel)]; kernel_rfl) | (rw [if_neg (by decide +kernel)]; exact ⟨rfl, rfl⟩))
    (fun os started H enc _ => lifted os started H enc)

/-- ████ THE STATEMENT ████ -/
theorem proved : Rows.ModeFormsSaid :=
  over
end Go.Proofs.Ytlcphokjcdcgeaa.modeForms
