/- Model: contracts: cell.May, May, bad. -/
import Derived.Test.YtjjilaanlhpogaaModel
import Derived.Outline
import Derived.RegionTactic
import Derived.Deep.RegionHeld3
import Derived.BigQuiet
import Derived.Deep.QuietTactic
namespace Go.Proofs.Ytjjilaanlhpogaa
open Go.ChangeShapes Go.WideShapes Go.ChangeAt Go.RowKit Go.Maps Go.MapKept Go.Sort
set_option linter.unusedVariables false

theorem tl_n (k : ByteArray) : k.toList = [] ↔ k.size = 0 := by
  rw [ByteArray.toList_eq, ← List.length_eq_zero_iff]
  show k.data.toList.length = 0 ↔ k.data.size = 0
  rw [Array.length_toList]
theorem tl_e (k : ByteArray) : k.toList.isEmpty = decide (k.size = 0) := by
  rw [Bool.eq_iff_iff, List.isEmpty_iff, tl_n, decide_eq_true_eq]
/-- may a row be? -/
def mayR (r : Rw) : Bool := decide (0 < r.k.size ∧ r.k.size ≤ 8 ∧ r.s.size ≤ 6 ∧ r.v.size ≤ 8)
theorem cmay_any (r : Rw) (w : World) (h1 : r.k.size ≤ maxLen) (h2 : r.s.size ≤ maxLen) (h3 : r.v.size ≤ maxLen) :
    Calls Try.prog 25 #[rv r] w fun e w' => e = .returned (.bool (mayR r)) ∧ Ext w w' := by
  obtain ⟨k, s, v⟩ := r
  unfold maxLen at h1 h2 h3
  simp only [rv] at *
  go_enter Try.func25, Try.ntmps25
  go_wp2
  all_goals
    go_ret
    refine ⟨ret_bool ?_, Ext.new _ _⟩
    simp only [tl_n] at *
    unfold mayR
    rw [Bool.eq_iff_iff]
    simp only [tl_e, Bool.and_eq_true, Bool.not_eq_true', decide_eq_true_eq, decide_eq_false_iff_not, Bool.false_eq_true, false_iff]
    omega
/-- may a step be? -/
def mayS (kind : Int) (r : Rw) : Bool :=
  if kind = 3 ∨ kind = 4 then mayR r else if kind = 2 ∨ kind = 5 then decide (0 < r.k.size ∧ r.k.size ≤ 8) else if kind = 6 then decide (r.k.size ≤ 8) else if kind = 7 then decide (r.s.size ≤ 6) else false
/-- a step as it is handed over -/
def stv (kind t n : Int) (r : Rw) (A : Option Addr) (l c : Nat) : Value := .agg #[.int .i64 kind, .int .i64 t, .int .i64 n, .string r.k, .string r.s, .string r.v, .slice A l c]
set_option maxHeartbeats 1000000 in
theorem may_any (kind t n : Int) (r : Rw) (A : Option Addr) (l c : Nat) (w : World) (h1 : r.k.size ≤ maxLen) (h2 : r.s.size ≤ maxLen) (h3 : r.v.size ≤ maxLen) :
    Calls Try.prog 16 #[stv kind t n r A l c] w fun e w' => e = .returned (.bool (mayS kind r)) ∧ Ext w w' := by
  have hc := hide (fun w => cmay_any r w h1 h2 h3)
  obtain ⟨k, s, v⟩ := r
  unfold maxLen at h1 h2 h3
  simp only [stv] at *
  have hne : kind = 3 ∨ kind = 4 ∨ kind = 2 ∨ kind = 5 ∨ kind = 6 ∨ kind = 7 ∨ (kind ≠ 3 ∧ kind ≠ 4 ∧ kind ≠ 2 ∧ kind ≠ 5 ∧ kind ≠ 6 ∧ kind ≠ 7) := by omega
  rcases hne with rfl | rfl | rfl | rfl | rfl | rfl | ⟨e3, e4, e2, e5, e6, e7⟩
  · go_enter Try.func16, Try.ntmps16
    go_wp2_with (go_at_call 25; refine (hc.out _).mono ?_; rintro e w1 ⟨rfl, x1⟩)
    go_ret
    exact ⟨ret_bool (by simp [mayS]), (Ext.new w _).trans x1⟩
  · go_enter Try.func16, Try.ntmps16
    go_wp2_with (go_at_call 25; refine (hc.out _).mono ?_; rintro e w1 ⟨rfl, x1⟩)
    go_ret
    exact ⟨ret_bool (by simp [mayS]), (Ext.new w _).trans x1⟩
  · go_enter Try.func16, Try.ntmps16
    go_wp2
    all_goals
      go_ret
      refine ⟨ret_bool ?_, Ext.new _ _⟩
      simp only [tl_n] at *
      unfold mayS
      rw [if_neg (by decide), if_pos (by decide), Bool.eq_iff_iff]
      simp only [tl_e, Bool.and_eq_true, Bool.not_eq_true', decide_eq_true_eq, decide_eq_false_iff_not, Bool.false_eq_true, false_iff]
      omega
  · go_enter Try.func16, Try.ntmps16
    go_wp2
    all_goals
      go_ret
      refine ⟨ret_bool ?_, Ext.new _ _⟩
      simp only [tl_n] at *
      unfold mayS
      rw [if_neg (by decide), if_pos (by decide), Bool.eq_iff_iff]
      simp only [tl_e, Bool.and_eq_true, Bool.not_eq_true', decide_eq_true_eq, decide_eq_false_iff_not, Bool.false_eq_true, false_iff]
      omega
  · go_enter Try.func16, Try.ntmps16
    go_wp2
    go_ret
    refine ⟨ret_bool ?_, Ext.new _ _⟩
    unfold mayS
    simp
    try omega
  · go_enter Try.func16, Try.ntmps16
    go_wp2
    go_ret
    refine ⟨ret_bool ?_, Ext.new _ _⟩
    unfold mayS
    simp
    try omega
  · have b3 : (kind == 3) = false := by simpa using e3
    have b4 : (kind == 4) = false := by simpa using e4
    have b2 : (kind == 2) = false := by simpa using e2
    have b5 : (kind == 5) = false := by simpa using e5
    have b6 : (kind == 6) = false := by simpa using e6
    have b7 : (kind == 7) = false := by simpa using e7
    have hm := hide (show mayS kind ⟨k, s, v⟩ = false by unfold mayS; simp [e3, e4, e2, e5, e6, e7])
    clear e3 e4 e2 e5 e6 e7
    go_enter Try.func16, Try.ntmps16
    go_wp2
    go_ret
    exact ⟨ret_bool (by rw [hm.out]), Ext.new _ _⟩
theorem bad_any (x : Int) (w : World) : Calls Try.prog 17 #[.int .i64 x] w fun e w' => e = .returned (.agg #[.int .i64 x, .slice none 0 0]) ∧ Ext w w' := by
  go_enter Try.func17, Try.ntmps17
  go_wp2
  refine bodyPost_ret (v := .agg #[.int .i64 x, .slice none 0 0]) (by simp [results, Try.results17, go_sem]) rfl ⟨rfl, ?_⟩
  exact (Ext.new w _)
end Go.Proofs.Ytjjilaanlhpogaa
