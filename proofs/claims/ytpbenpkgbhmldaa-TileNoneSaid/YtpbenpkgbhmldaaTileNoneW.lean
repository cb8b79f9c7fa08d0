/- TileNone: the walk. -/
import Derived.Test.YtpbenpkgbhmldaaTileB
namespace Go.Proofs.Ytpbenpkgbhmldaa
open Go.ChangeShapes Go.WideShapes Go.ChangeAt Go.RowKit Go.Maps
set_option linter.unusedVariables false

theorem read_nil (x : Int) (w : World) : Calls Try.prog 17 #[.pointer none, .int .i64 x] w fun e w' => e = .returned (.tuple #[.slice none 0 0, .int .i64 1]) ∧ w = w' := by
  go_enter Try.func17, Try.ntmps17
  go_wp2_with (go_at_call 29; refine (may_nil x w).mono ?_; rintro e w' ⟨rfl, rfl⟩)
  go_ret2
  exact ⟨rfl, rfl⟩
theorem dead_nil (w : World) : Calls Try.prog 19 #[.pointer none] w fun e w' => e = .returned (.bool false) ∧ w = w' := by
  go_enter Try.func19, Try.ntmps19
  go_wp2
  go_ret
  exact ⟨rfl, rfl⟩
theorem tiles_nil (w : World) : Calls Try.prog 21 #[.pointer none] w fun e w' => e = .returned (.int .i64 0) ∧ w = w' := by
  go_enter Try.func21, Try.ntmps21
  go_wp2
  go_ret
  exact ⟨rfl, rfl⟩
theorem loose_nil (w : World) : Calls Try.prog 18 #[.pointer none] w fun e w' => e = .returned (.slice none 0 0) ∧ w = w' := by
  go_enter Try.func18, Try.ntmps18
  go_wp2
  go_ret
  exact ⟨rfl, rfl⟩
theorem copy_nil (w : World) : Calls Try.prog 22 #[.pointer none] w fun e w' => e = .returned (.pointer none) ∧ w = w' := by
  go_enter Try.func22, Try.ntmps22
  go_wp2
  go_ret
  exact ⟨rfl, rfl⟩
theorem tiles_len {Y Z : Nat → Prop} {w : World} {g N : Nat} {dead : Bool} {k : Nat} {U : Int → Option (List UInt8)} {pl : Option (Int × List UInt8)} (h : Disk Y Z w g N dead (blanks k) U pl) :
    Calls Try.prog 21 #[.pointer (some ⟨g, 0, none⟩)] w fun e w' => e = .returned (.int .i64 (k : Nat)) ∧ w = w' := by
  have := tiles_any Y Z w g N dead _ U pl h
  rw [show (blanks k).length = k by simp [blanks]] at this
  exact this
end Go.Proofs.Ytpbenpkgbhmldaa
namespace Go.Proofs.Ytpbenpkgbhmldaa.tileNone
open Go.ChangeShapes Go.WideShapes Go.ChangeAt Go.RowKit Go.Maps
set_option linter.unusedVariables false
set_option maxRecDepth 100000 in
set_option maxHeartbeats 4000000 in
theorem walk_any (x : Int) (w : World) : Calls Try.prog 8 #[.int .i64 x] w fun e w' => e = .returned (.bool true) ∧ Ext w w' := by
  obtain ⟨k, hk⟩ : ∃ k : Nat, min (max x 0) 2000 = (k : Int) := ⟨(min (max x 0) 2000).toNat, by omega⟩
  by_cases hx : 0 < x
  · have hm : min x 2000 = (k : Int) := by omega
    have hN := hide (fun w => new_any x (max x 0) k w rfl hk)
    clear hk
    go_enter Try.func8, Try.ntmps8
    go_wp2_with (first
      | (go_at_call 10; refine (begun_any _).mono ?_; rintro e w1 ⟨rfl, b1⟩)
      | (go_at_call 17; refine (read_nil _ _).mono ?_; rintro e w' ⟨rfl, rfl⟩)
      | (go_at_call 12; refine (write_nil _ _ _ _ _).mono ?_; rintro e w' ⟨rfl, rfl⟩)
      | (go_at_call 14; refine (sync_nil _).mono ?_; rintro e w' ⟨rfl, rfl⟩)
      | (go_at_call 19; refine (dead_nil _).mono ?_; rintro e w' ⟨rfl, rfl⟩)
      | (go_at_call 18; refine (loose_nil _).mono ?_; rintro e w' ⟨rfl, rfl⟩)
      | (go_at_call 22; refine (copy_nil _).mono ?_; rintro e w' ⟨rfl, rfl⟩)
      | (go_at_call 11; refine (hN.out _).mono ?_; rintro e w2 ⟨rfl, d2, x2⟩; have D2 := hide d2; clear d2)
      | (go_at_call 21; (first | (refine (tiles_len D2.out).mono ?_; rintro e w' ⟨rfl, rfl⟩) | (refine (tiles_nil _).mono ?_; rintro e w' ⟨rfl, rfl⟩))))
    go_ret
    exact ⟨rfl, (b1.trans x2)⟩
  · have hx2 : x ≤ 0 := by omega
    obtain rfl : k = 0 := by omega
    have hN := hide (fun w => new_any x (max x 0) 0 w rfl hk)
    clear hk hx
    go_enter Try.func8, Try.ntmps8
    go_wp2_with (first
      | (go_at_call 10; refine (begun_any _).mono ?_; rintro e w1 ⟨rfl, b1⟩)
      | (go_at_call 17; refine (read_nil _ _).mono ?_; rintro e w' ⟨rfl, rfl⟩)
      | (go_at_call 12; refine (write_nil _ _ _ _ _).mono ?_; rintro e w' ⟨rfl, rfl⟩)
      | (go_at_call 14; refine (sync_nil _).mono ?_; rintro e w' ⟨rfl, rfl⟩)
      | (go_at_call 19; refine (dead_nil _).mono ?_; rintro e w' ⟨rfl, rfl⟩)
      | (go_at_call 18; refine (loose_nil _).mono ?_; rintro e w' ⟨rfl, rfl⟩)
      | (go_at_call 22; refine (copy_nil _).mono ?_; rintro e w' ⟨rfl, rfl⟩)
      | (go_at_call 11; refine (hN.out _).mono ?_; rintro e w2 ⟨rfl, d2, x2⟩; have D2 := hide d2; clear d2)
      | (go_at_call 21; (first | (refine (tiles_len D2.out).mono ?_; rintro e w' ⟨rfl, rfl⟩) | (refine (tiles_nil _).mono ?_; rintro e w' ⟨rfl, rfl⟩))))
    go_ret
    exact ⟨rfl, (b1.trans x2)⟩
end Go.Proofs.Ytpbenpkgbhmldaa.tileNone
