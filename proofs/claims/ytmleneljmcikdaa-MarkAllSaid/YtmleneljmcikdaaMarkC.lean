/- Mark: contracts: a list's clone; two lists that hold the same are told to be the same. -/
import Derived.Test.YtmleneljmcikdaaMark
namespace Go.Proofs.Ytmleneljmcikdaa
open Go.ChangeShapes Go.WideShapes Go.ChangeAt Go.RowKit
set_option linter.unusedVariables false


theorem Try.info51' : (Try.prog.info? 51).map (fun i => (i.zero, i.size, i.bytes)) = some (some (.agg #[.int .i64 0, .int .i64 0, .int .i64 0, .bool false]), 4, 32) := by kernel_rfl
/-- slices.Clone at Live -/
theorem clone_Live (A : Option Addr) (c n : Nat) (xs : List Value) (w : World) (hn : A = none → c = 0) (hr : Reads w w.heap.size 4 A n xs) (h1 : ∀ u ∈ xs, u.oneCell' = true) (h63 : n ≤ maxLen) (hby : n * 32 ≤ 140737488355328) :
    Calls Try.prog 17 #[.slice A n c] w (Gives w 51 4 n xs) := by
  obtain ⟨i0, hi0, hz0, hz1, hz2⟩ := info_parts Try.info51'
  have hq := fun w => Lib.run_eql_slice_nil (P := Try.prog) w 22 51
  rcases A with _ | ad
  · obtain ⟨rfl, rfl⟩ := no_elems hr
    obtain rfl := hn rfl
    clear hr
    go_enter Try.func17, Try.ntmps17
    go_wp2
    go_ret
    exact ⟨_, rfl, World.ownsRow_nil _ _ _ _, Below.refl _ _⟩
  · have hown : (w.alloc (.cells #[] 51)).ownsRow w.heap.size 51 4 (.slice (some ⟨w.heap.size, 0, none⟩) 0 0) 0 [] := World.ownsRow_made w #[] 0 (Nat.le_refl _) (Nat.zero_le _) rfl
    have hb0 : Below w.heap.size w (w.alloc (.cells #[] 51)) := (Below.refl _ _).alloc (Nat.le_refl _) _
    have hr1 := hide (hr.alloc (Nat.le_refl _) (.cells #[] 51))
    have H1 := hide h1
    clear hr h1
    have hown' := hide hown
    clear hown
    go_enter Try.func17, Try.ntmps17
    go_wp2_with (at_builtin; refine wpList_append_any _ rfl (.tmp 5) (.tmp 6) _ rfl w.heap.size 51 i0 _ 4 32 Try.underlying22 hi0 hz0 hz1 hz2 rfl (by omega) (.slice (some ⟨w.heap.size, 0, none⟩) 0 0) 0 [] rfl hown'.out w.heap.size (some ad) n c xs rfl hr1.out H1.out (by omega) (by omega) (by simp) ?_; intro v1 w1 hown1 hg1 hat1)
    go_ret
    refine ⟨_, rfl, by simpa using hown1, hb0.grown hg1 hb0.size (fun k hk => ?_)⟩
    simp [Value.ownBlock] at hk
    omega

theorem Try.info41' : (Try.prog.info? 41).map (fun i => (i.zero, i.size, i.bytes)) = some (some (.agg #[.int .i64 0, .int .i64 0]), 2, 16) := by kernel_rfl
/-- slices.Clone at Dirty -/
theorem clone_Dirty (A : Option Addr) (c n : Nat) (xs : List Value) (w : World) (hn : A = none → c = 0) (hr : Reads w w.heap.size 2 A n xs) (h1 : ∀ u ∈ xs, u.oneCell' = true) (h63 : n ≤ maxLen) (hby : n * 16 ≤ 140737488355328) :
    Calls Try.prog 18 #[.slice A n c] w (Gives w 41 2 n xs) := by
  obtain ⟨i0, hi0, hz0, hz1, hz2⟩ := info_parts Try.info41'
  have hq := fun w => Lib.run_eql_slice_nil (P := Try.prog) w 23 41
  rcases A with _ | ad
  · obtain ⟨rfl, rfl⟩ := no_elems hr
    obtain rfl := hn rfl
    clear hr
    go_enter Try.func18, Try.ntmps18
    go_wp2
    go_ret
    exact ⟨_, rfl, World.ownsRow_nil _ _ _ _, Below.refl _ _⟩
  · have hown : (w.alloc (.cells #[] 41)).ownsRow w.heap.size 41 2 (.slice (some ⟨w.heap.size, 0, none⟩) 0 0) 0 [] := World.ownsRow_made w #[] 0 (Nat.le_refl _) (Nat.zero_le _) rfl
    have hb0 : Below w.heap.size w (w.alloc (.cells #[] 41)) := (Below.refl _ _).alloc (Nat.le_refl _) _
    have hr1 := hide (hr.alloc (Nat.le_refl _) (.cells #[] 41))
    have H1 := hide h1
    clear hr h1
    have hown' := hide hown
    clear hown
    go_enter Try.func18, Try.ntmps18
    go_wp2_with (at_builtin; refine wpList_append_any _ rfl (.tmp 5) (.tmp 6) _ rfl w.heap.size 41 i0 _ 2 16 Try.underlying23 hi0 hz0 hz1 hz2 rfl (by omega) (.slice (some ⟨w.heap.size, 0, none⟩) 0 0) 0 [] rfl hown'.out w.heap.size (some ad) n c xs rfl hr1.out H1.out (by omega) (by omega) (by simp) ?_; intro v1 w1 hown1 hg1 hat1)
    go_ret
    refine ⟨_, rfl, by simpa using hown1, hb0.grown hg1 hb0.size (fun k hk => ?_)⟩
    simp [Value.ownBlock] at hk
    omega

theorem Try.info55' : (Try.prog.info? 55).map (fun i => (i.zero, i.size, i.bytes)) = some (some (.agg #[.int .i64 0, .slice none 0 0, .int .i64 0]), 3, 40) := by kernel_rfl
/-- slices.Clone at Open -/
theorem clone_Open (A : Option Addr) (c n : Nat) (xs : List Value) (w : World) (hn : A = none → c = 0) (hr : Reads w w.heap.size 3 A n xs) (h1 : ∀ u ∈ xs, u.oneCell' = true) (h63 : n ≤ maxLen) (hby : n * 40 ≤ 140737488355328) :
    Calls Try.prog 19 #[.slice A n c] w (Gives w 55 3 n xs) := by
  obtain ⟨i0, hi0, hz0, hz1, hz2⟩ := info_parts Try.info55'
  have hq := fun w => Lib.run_eql_slice_nil (P := Try.prog) w 24 55
  rcases A with _ | ad
  · obtain ⟨rfl, rfl⟩ := no_elems hr
    obtain rfl := hn rfl
    clear hr
    go_enter Try.func19, Try.ntmps19
    go_wp2
    go_ret
    exact ⟨_, rfl, World.ownsRow_nil _ _ _ _, Below.refl _ _⟩
  · have hown : (w.alloc (.cells #[] 55)).ownsRow w.heap.size 55 3 (.slice (some ⟨w.heap.size, 0, none⟩) 0 0) 0 [] := World.ownsRow_made w #[] 0 (Nat.le_refl _) (Nat.zero_le _) rfl
    have hb0 : Below w.heap.size w (w.alloc (.cells #[] 55)) := (Below.refl _ _).alloc (Nat.le_refl _) _
    have hr1 := hide (hr.alloc (Nat.le_refl _) (.cells #[] 55))
    have H1 := hide h1
    clear hr h1
    have hown' := hide hown
    clear hown
    go_enter Try.func19, Try.ntmps19
    go_wp2_with (at_builtin; refine wpList_append_any _ rfl (.tmp 5) (.tmp 6) _ rfl w.heap.size 55 i0 _ 3 40 Try.underlying24 hi0 hz0 hz1 hz2 rfl (by omega) (.slice (some ⟨w.heap.size, 0, none⟩) 0 0) 0 [] rfl hown'.out w.heap.size (some ad) n c xs rfl hr1.out H1.out (by omega) (by omega) (by simp) ?_; intro v1 w1 hown1 hg1 hat1)
    go_ret
    refine ⟨_, rfl, by simpa using hown1, hb0.grown hg1 hb0.size (fun k hk => ?_)⟩
    simp [Value.ownBlock] at hk
    omega

theorem Try.info58' : (Try.prog.info? 58).map (fun i => (i.zero, i.size, i.bytes)) = some (some (.agg #[.int .i64 0, .int .i64 0, .int .i64 0, .int .i64 0]), 4, 32) := by kernel_rfl
/-- slices.Clone at Move -/
theorem clone_Move (A : Option Addr) (c n : Nat) (xs : List Value) (w : World) (hn : A = none → c = 0) (hr : Reads w w.heap.size 4 A n xs) (h1 : ∀ u ∈ xs, u.oneCell' = true) (h63 : n ≤ maxLen) (hby : n * 32 ≤ 140737488355328) :
    Calls Try.prog 20 #[.slice A n c] w (Gives w 58 4 n xs) := by
  obtain ⟨i0, hi0, hz0, hz1, hz2⟩ := info_parts Try.info58'
  have hq := fun w => Lib.run_eql_slice_nil (P := Try.prog) w 32 58
  rcases A with _ | ad
  · obtain ⟨rfl, rfl⟩ := no_elems hr
    obtain rfl := hn rfl
    clear hr
    go_enter Try.func20, Try.ntmps20
    go_wp2
    go_ret
    exact ⟨_, rfl, World.ownsRow_nil _ _ _ _, Below.refl _ _⟩
  · have hown : (w.alloc (.cells #[] 58)).ownsRow w.heap.size 58 4 (.slice (some ⟨w.heap.size, 0, none⟩) 0 0) 0 [] := World.ownsRow_made w #[] 0 (Nat.le_refl _) (Nat.zero_le _) rfl
    have hb0 : Below w.heap.size w (w.alloc (.cells #[] 58)) := (Below.refl _ _).alloc (Nat.le_refl _) _
    have hr1 := hide (hr.alloc (Nat.le_refl _) (.cells #[] 58))
    have H1 := hide h1
    clear hr h1
    have hown' := hide hown
    clear hown
    go_enter Try.func20, Try.ntmps20
    go_wp2_with (at_builtin; refine wpList_append_any _ rfl (.tmp 5) (.tmp 6) _ rfl w.heap.size 58 i0 _ 4 32 Try.underlying32 hi0 hz0 hz1 hz2 rfl (by omega) (.slice (some ⟨w.heap.size, 0, none⟩) 0 0) 0 [] rfl hown'.out w.heap.size (some ad) n c xs rfl hr1.out H1.out (by omega) (by omega) (by simp) ?_; intro v1 w1 hown1 hg1 hat1)
    go_ret
    refine ⟨_, rfl, by simpa using hown1, hb0.grown hg1 hb0.size (fun k hk => ?_)⟩
    simp [Value.ownBlock] at hk
    omega

/-- rows of Live -/
def LiveRow (xs : List Value) (n : Nat) : Prop := ∀ k, k < n → ∃ (a : Int) (b : Int) (c : Int) (d : Bool), xs[k * 4]? = some (.int .i64 a) ∧ xs[k * 4 + 1]? = some (.int .i64 b) ∧ xs[k * 4 + 2]? = some (.int .i64 c) ∧ xs[k * 4 + 3]? = some (.bool d)
set_option maxRecDepth 100000 in
set_option maxHeartbeats 2000000 in
theorem same_Live (A1 A2 : Option Addr) (c1 c2 n B1 B2 : Nat) (xs : List Value) (w : World) (hx : LiveRow xs n) (h1 : Reads w B1 4 A1 n xs) (h2 : Reads w B2 4 A2 n xs) (hl : n ≤ maxLen) :
    Calls Try.prog 14 #[.slice A1 n c1, .slice A2 n c2] w fun e w' => e = .returned (.bool true) ∧ ∃ m, w' = w.drewN m := by
  unfold maxLen at hl
  have H1 := hide h1
  have H2 := hide h2
  have HX := hide hx
  clear h1 h2 hx
  go_enter Try.func14, Try.ntmps14
  go_wp2_with (fail)
  go_loopw [5] (fun i wr => (∃ k : Nat, k ≤ n ∧ i = .int .i64 k ∧ Hid (∃ m, wr = w.drewN m))) (fun i _ => (n - intOf i).toNat)
  case atStart => exact ⟨0, by omega, rfl, 0, rfl⟩
  case round =>
    obtain ⟨k, hk, rfl, hw⟩ := hrel
    obtain ⟨m, rfl⟩ := hw.out
    by_cases hlt : k < n
    · obtain ⟨b1, o1, e1, _, d1⟩ := H1.out.plain (by omega) (by omega)
      obtain ⟨b2, o2, e2, _, d2⟩ := H2.out.plain (by omega) (by omega)
      obtain ⟨a, b, c, d, y0, y1, y2, y3⟩ := HX.out k hlt

      have g10 : w.cell? ⟨b1, o1 + k * 4, none⟩ = some (.int .i64 a) := d1 _ _ y0
      have g11 : w.cell? ⟨b1, o1 + k * 4 + 1, none⟩ = some (.int .i64 b) := by rw [Nat.add_assoc]; exact d1 _ _ y1
      have g12 : w.cell? ⟨b1, o1 + k * 4 + 2, none⟩ = some (.int .i64 c) := by rw [Nat.add_assoc]; exact d1 _ _ y2
      have g13 : w.cell? ⟨b1, o1 + k * 4 + 3, none⟩ = some (.bool d) := by rw [Nat.add_assoc]; exact d1 _ _ y3
      have g20 : w.cell? ⟨b2, o2 + k * 4, none⟩ = some (.int .i64 a) := d2 _ _ y0
      have g21 : w.cell? ⟨b2, o2 + k * 4 + 1, none⟩ = some (.int .i64 b) := by rw [Nat.add_assoc]; exact d2 _ _ y1
      have g22 : w.cell? ⟨b2, o2 + k * 4 + 2, none⟩ = some (.int .i64 c) := by rw [Nat.add_assoc]; exact d2 _ _ y2
      have g23 : w.cell? ⟨b2, o2 + k * 4 + 3, none⟩ = some (.bool d) := by rw [Nat.add_assoc]; exact d2 _ _ y3
      subst e1 e2
      clear d1 d2 y0 y1 y2 y3 hw
      go_wp2_with (fail)
      go_quiet (fail)
      go_wp2
      go_roundw
      case rel => exact ⟨k + 1, by omega, by go_num, m + nq, by simp⟩
      case measure => simp [intOf]; omega
    · obtain rfl : k = n := by omega
      clear hw
      go_wp2
      go_ret
      exact ⟨rfl, m, rfl⟩

/-- rows of Dirty -/
def DirtyRow (xs : List Value) (n : Nat) : Prop := ∀ k, k < n → ∃ (a : Int) (b : Int), xs[k * 2]? = some (.int .i64 a) ∧ xs[k * 2 + 1]? = some (.int .i64 b)
set_option maxRecDepth 100000 in
set_option maxHeartbeats 2000000 in
theorem same_Dirty (A1 A2 : Option Addr) (c1 c2 n B1 B2 : Nat) (xs : List Value) (w : World) (hx : DirtyRow xs n) (h1 : Reads w B1 2 A1 n xs) (h2 : Reads w B2 2 A2 n xs) (hl : n ≤ maxLen) :
    Calls Try.prog 15 #[.slice A1 n c1, .slice A2 n c2] w fun e w' => e = .returned (.bool true) ∧ ∃ m, w' = w.drewN m := by
  unfold maxLen at hl
  have H1 := hide h1
  have H2 := hide h2
  have HX := hide hx
  clear h1 h2 hx
  go_enter Try.func15, Try.ntmps15
  go_wp2_with (fail)
  go_loopw [5] (fun i wr => (∃ k : Nat, k ≤ n ∧ i = .int .i64 k ∧ Hid (∃ m, wr = w.drewN m))) (fun i _ => (n - intOf i).toNat)
  case atStart => exact ⟨0, by omega, rfl, 0, rfl⟩
  case round =>
    obtain ⟨k, hk, rfl, hw⟩ := hrel
    obtain ⟨m, rfl⟩ := hw.out
    by_cases hlt : k < n
    · obtain ⟨b1, o1, e1, _, d1⟩ := H1.out.plain (by omega) (by omega)
      obtain ⟨b2, o2, e2, _, d2⟩ := H2.out.plain (by omega) (by omega)
      obtain ⟨a, b, y0, y1⟩ := HX.out k hlt

      have g10 : w.cell? ⟨b1, o1 + k * 2, none⟩ = some (.int .i64 a) := d1 _ _ y0
      have g11 : w.cell? ⟨b1, o1 + k * 2 + 1, none⟩ = some (.int .i64 b) := by rw [Nat.add_assoc]; exact d1 _ _ y1
      have g20 : w.cell? ⟨b2, o2 + k * 2, none⟩ = some (.int .i64 a) := d2 _ _ y0
      have g21 : w.cell? ⟨b2, o2 + k * 2 + 1, none⟩ = some (.int .i64 b) := by rw [Nat.add_assoc]; exact d2 _ _ y1
      subst e1 e2
      clear d1 d2 y0 y1 hw
      go_wp2_with (fail)
      go_quiet (fail)
      go_wp2
      go_roundw
      case rel => exact ⟨k + 1, by omega, by go_num, m + nq, by simp⟩
      case measure => simp [intOf]; omega
    · obtain rfl : k = n := by omega
      clear hw
      go_wp2
      go_ret
      exact ⟨rfl, m, rfl⟩

/-- rows of Move -/
def MoveRow (xs : List Value) (n : Nat) : Prop := ∀ k, k < n → ∃ (a : Int) (b : Int) (c : Int) (d : Int), xs[k * 4]? = some (.int .i64 a) ∧ xs[k * 4 + 1]? = some (.int .i64 b) ∧ xs[k * 4 + 2]? = some (.int .i64 c) ∧ xs[k * 4 + 3]? = some (.int .i64 d)
set_option maxRecDepth 100000 in
set_option maxHeartbeats 2000000 in
theorem same_Move (A1 A2 : Option Addr) (c1 c2 n B1 B2 : Nat) (xs : List Value) (w : World) (hx : MoveRow xs n) (h1 : Reads w B1 4 A1 n xs) (h2 : Reads w B2 4 A2 n xs) (hl : n ≤ maxLen) :
    Calls Try.prog 13 #[.slice A1 n c1, .slice A2 n c2] w fun e w' => e = .returned (.bool true) ∧ ∃ m, w' = w.drewN m := by
  unfold maxLen at hl
  have H1 := hide h1
  have H2 := hide h2
  have HX := hide hx
  clear h1 h2 hx
  go_enter Try.func13, Try.ntmps13
  go_wp2_with (fail)
  go_loopw [5] (fun i wr => (∃ k : Nat, k ≤ n ∧ i = .int .i64 k ∧ Hid (∃ m, wr = w.drewN m))) (fun i _ => (n - intOf i).toNat)
  case atStart => exact ⟨0, by omega, rfl, 0, rfl⟩
  case round =>
    obtain ⟨k, hk, rfl, hw⟩ := hrel
    obtain ⟨m, rfl⟩ := hw.out
    by_cases hlt : k < n
    · obtain ⟨b1, o1, e1, _, d1⟩ := H1.out.plain (by omega) (by omega)
      obtain ⟨b2, o2, e2, _, d2⟩ := H2.out.plain (by omega) (by omega)
      obtain ⟨a, b, c, d, y0, y1, y2, y3⟩ := HX.out k hlt

      have g10 : w.cell? ⟨b1, o1 + k * 4, none⟩ = some (.int .i64 a) := d1 _ _ y0
      have g11 : w.cell? ⟨b1, o1 + k * 4 + 1, none⟩ = some (.int .i64 b) := by rw [Nat.add_assoc]; exact d1 _ _ y1
      have g12 : w.cell? ⟨b1, o1 + k * 4 + 2, none⟩ = some (.int .i64 c) := by rw [Nat.add_assoc]; exact d1 _ _ y2
      have g13 : w.cell? ⟨b1, o1 + k * 4 + 3, none⟩ = some (.int .i64 d) := by rw [Nat.add_assoc]; exact d1 _ _ y3
      have g20 : w.cell? ⟨b2, o2 + k * 4, none⟩ = some (.int .i64 a) := d2 _ _ y0
      have g21 : w.cell? ⟨b2, o2 + k * 4 + 1, none⟩ = some (.int .i64 b) := by rw [Nat.add_assoc]; exact d2 _ _ y1
      have g22 : w.cell? ⟨b2, o2 + k * 4 + 2, none⟩ = some (.int .i64 c) := by rw [Nat.add_assoc]; exact d2 _ _ y2
      have g23 : w.cell? ⟨b2, o2 + k * 4 + 3, none⟩ = some (.int .i64 d) := by rw [Nat.add_assoc]; exact d2 _ _ y3
      subst e1 e2
      clear d1 d2 y0 y1 y2 y3 hw
      go_wp2_with (fail)
      go_quiet (fail)
      go_wp2
      go_roundw
      case rel => exact ⟨k + 1, by omega, by go_num, m + nq, by simp⟩
      case measure => simp [intOf]; omega
    · obtain rfl : k = n := by omega
      clear hw
      go_wp2
      go_ret
      exact ⟨rfl, m, rfl⟩

end Go.Proofs.Ytmleneljmcikdaa
