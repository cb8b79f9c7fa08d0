/- Look: contracts: Clone at moves, lives, dirty pages, units. -/
import Derived.Test.YtaijgnhkdbdfcaaLookM
namespace Go.Proofs.Ytaijgnhkdbdfcaa
open Go.ChangeShapes Go.WideShapes Go.ChangeAt Go.RowKit
set_option linter.unusedVariables false

theorem Try.info54' : (Try.prog.info? 54).map (fun i => (i.zero.map (·.cells.size), i.size, i.bytes)) = some (some 4, 4, 32) := by kernel_rfl
/-- slices.Clone of moves -/
theorem clone_moves (A : Option Addr) (c n : Nat) (xs : List Value) (w : World) (hn : A = none → c = 0) (hr : Reads w w.heap.size 4 A n xs) (h1 : ∀ u ∈ xs, u.oneCell' = true) (hl : n ≤ 1048576) :
    Calls Try.prog 25 #[.slice A n c] w fun e w' => ∃ A' c', e = .returned (.slice A' n c') ∧ w'.ownsRow w.heap.size 54 4 (.slice A' n c') n xs ∧ Ext w w' := by
  obtain ⟨i0, z0, hi0, hz0, hzs0, hs0, hb0⟩ := info_parts2 Try.info54'
  have hq := fun w => Lib.run_eql_slice_nil (P := Try.prog) w 30 54
  rcases A with _ | ad
  · obtain ⟨rfl, rfl⟩ := no_elems hr
    obtain rfl := hn rfl
    go_enter Try.func25, Try.ntmps25
    go_wp2
    go_ret
    exact ⟨none, 0, rfl, World.ownsRow_nil _ _ _ _, Ext.refl _⟩
  · have HR := hide hr
    have H1 := hide h1
    clear hr h1
    go_enter Try.func25, Try.ntmps25
    go_wp2_with (at_builtin; refine wpList_append_any _ rfl (.tmp 5) (.tmp 6) _ rfl w.heap.size 54 i0 z0 4 32 Try.underlying30 hi0 hz0 hs0 hb0 hzs0 (by omega) (.slice (some ⟨w.heap.size, 0, none⟩) 0 0) 0 [] rfl (World.ownsRow_made w #[] 0 (Nat.le_refl _) (Nat.zero_le _) rfl) w.heap.size (some ad) n c xs rfl (HR.out.alloc (Nat.le_refl _) _) H1.out (by simp only [maxLen]; omega) (by omega) (by simp) ?_; intro v1 w1 ho1 hg1 hat1; rw [Nat.zero_add, List.nil_append] at ho1; have E1 := hide (Ext.grown ((Ext.refl w).alloc _) hg1 (fun z hz => by simp [Value.ownBlock] at hz; omega)); obtain ⟨A1, c1, hv1, _⟩ := own_form ho1; subst hv1; have O1 := hide ho1; clear ho1 hg1 hat1)
    go_ret
    exact ⟨A1, c1, rfl, O1.out, E1.out⟩
theorem Try.info49' : (Try.prog.info? 49).map (fun i => (i.zero.map (·.cells.size), i.size, i.bytes)) = some (some 4, 4, 32) := by kernel_rfl
/-- slices.Clone of lives -/
theorem clone_lives (A : Option Addr) (c n : Nat) (xs : List Value) (w : World) (hn : A = none → c = 0) (hr : Reads w w.heap.size 4 A n xs) (h1 : ∀ u ∈ xs, u.oneCell' = true) (hl : n ≤ 1048576) :
    Calls Try.prog 27 #[.slice A n c] w fun e w' => ∃ A' c', e = .returned (.slice A' n c') ∧ w'.ownsRow w.heap.size 49 4 (.slice A' n c') n xs ∧ Ext w w' := by
  obtain ⟨i0, z0, hi0, hz0, hzs0, hs0, hb0⟩ := info_parts2 Try.info49'
  have hq := fun w => Lib.run_eql_slice_nil (P := Try.prog) w 31 49
  rcases A with _ | ad
  · obtain ⟨rfl, rfl⟩ := no_elems hr
    obtain rfl := hn rfl
    go_enter Try.func27, Try.ntmps27
    go_wp2
    go_ret
    exact ⟨none, 0, rfl, World.ownsRow_nil _ _ _ _, Ext.refl _⟩
  · have HR := hide hr
    have H1 := hide h1
    clear hr h1
    go_enter Try.func27, Try.ntmps27
    go_wp2_with (at_builtin; refine wpList_append_any _ rfl (.tmp 5) (.tmp 6) _ rfl w.heap.size 49 i0 z0 4 32 Try.underlying31 hi0 hz0 hs0 hb0 hzs0 (by omega) (.slice (some ⟨w.heap.size, 0, none⟩) 0 0) 0 [] rfl (World.ownsRow_made w #[] 0 (Nat.le_refl _) (Nat.zero_le _) rfl) w.heap.size (some ad) n c xs rfl (HR.out.alloc (Nat.le_refl _) _) H1.out (by simp only [maxLen]; omega) (by omega) (by simp) ?_; intro v1 w1 ho1 hg1 hat1; rw [Nat.zero_add, List.nil_append] at ho1; have E1 := hide (Ext.grown ((Ext.refl w).alloc _) hg1 (fun z hz => by simp [Value.ownBlock] at hz; omega)); obtain ⟨A1, c1, hv1, _⟩ := own_form ho1; subst hv1; have O1 := hide ho1; clear ho1 hg1 hat1)
    go_ret
    exact ⟨A1, c1, rfl, O1.out, E1.out⟩
theorem Try.info40' : (Try.prog.info? 40).map (fun i => (i.zero.map (·.cells.size), i.size, i.bytes)) = some (some 2, 2, 16) := by kernel_rfl
/-- slices.Clone of dirties -/
theorem clone_dirties (A : Option Addr) (c n : Nat) (xs : List Value) (w : World) (hn : A = none → c = 0) (hr : Reads w w.heap.size 2 A n xs) (h1 : ∀ u ∈ xs, u.oneCell' = true) (hl : n ≤ 1048576) :
    Calls Try.prog 28 #[.slice A n c] w fun e w' => ∃ A' c', e = .returned (.slice A' n c') ∧ w'.ownsRow w.heap.size 40 2 (.slice A' n c') n xs ∧ Ext w w' := by
  obtain ⟨i0, z0, hi0, hz0, hzs0, hs0, hb0⟩ := info_parts2 Try.info40'
  have hq := fun w => Lib.run_eql_slice_nil (P := Try.prog) w 32 40
  rcases A with _ | ad
  · obtain ⟨rfl, rfl⟩ := no_elems hr
    obtain rfl := hn rfl
    go_enter Try.func28, Try.ntmps28
    go_wp2
    go_ret
    exact ⟨none, 0, rfl, World.ownsRow_nil _ _ _ _, Ext.refl _⟩
  · have HR := hide hr
    have H1 := hide h1
    clear hr h1
    go_enter Try.func28, Try.ntmps28
    go_wp2_with (at_builtin; refine wpList_append_any _ rfl (.tmp 5) (.tmp 6) _ rfl w.heap.size 40 i0 z0 2 16 Try.underlying32 hi0 hz0 hs0 hb0 hzs0 (by omega) (.slice (some ⟨w.heap.size, 0, none⟩) 0 0) 0 [] rfl (World.ownsRow_made w #[] 0 (Nat.le_refl _) (Nat.zero_le _) rfl) w.heap.size (some ad) n c xs rfl (HR.out.alloc (Nat.le_refl _) _) H1.out (by simp only [maxLen]; omega) (by omega) (by simp) ?_; intro v1 w1 ho1 hg1 hat1; rw [Nat.zero_add, List.nil_append] at ho1; have E1 := hide (Ext.grown ((Ext.refl w).alloc _) hg1 (fun z hz => by simp [Value.ownBlock] at hz; omega)); obtain ⟨A1, c1, hv1, _⟩ := own_form ho1; subst hv1; have O1 := hide ho1; clear ho1 hg1 hat1)
    go_ret
    exact ⟨A1, c1, rfl, O1.out, E1.out⟩
theorem Try.info56' : (Try.prog.info? 56).map (fun i => (i.zero.map (·.cells.size), i.size, i.bytes)) = some (some 3, 3, 40) := by kernel_rfl
/-- slices.Clone of opens -/
theorem clone_opens (A : Option Addr) (c n : Nat) (xs : List Value) (w : World) (hn : A = none → c = 0) (hr : Reads w w.heap.size 3 A n xs) (h1 : ∀ u ∈ xs, u.oneCell' = true) (hl : n ≤ 1048576) :
    Calls Try.prog 35 #[.slice A n c] w fun e w' => ∃ A' c', e = .returned (.slice A' n c') ∧ w'.ownsRow w.heap.size 56 3 (.slice A' n c') n xs ∧ Ext w w' := by
  obtain ⟨i0, z0, hi0, hz0, hzs0, hs0, hb0⟩ := info_parts2 Try.info56'
  have hq := fun w => Lib.run_eql_slice_nil (P := Try.prog) w 33 56
  rcases A with _ | ad
  · obtain ⟨rfl, rfl⟩ := no_elems hr
    obtain rfl := hn rfl
    go_enter Try.func35, Try.ntmps35
    go_wp2
    go_ret
    exact ⟨none, 0, rfl, World.ownsRow_nil _ _ _ _, Ext.refl _⟩
  · have HR := hide hr
    have H1 := hide h1
    clear hr h1
    go_enter Try.func35, Try.ntmps35
    go_wp2_with (at_builtin; refine wpList_append_any _ rfl (.tmp 5) (.tmp 6) _ rfl w.heap.size 56 i0 z0 3 40 Try.underlying33 hi0 hz0 hs0 hb0 hzs0 (by omega) (.slice (some ⟨w.heap.size, 0, none⟩) 0 0) 0 [] rfl (World.ownsRow_made w #[] 0 (Nat.le_refl _) (Nat.zero_le _) rfl) w.heap.size (some ad) n c xs rfl (HR.out.alloc (Nat.le_refl _) _) H1.out (by simp only [maxLen]; omega) (by omega) (by simp) ?_; intro v1 w1 ho1 hg1 hat1; rw [Nat.zero_add, List.nil_append] at ho1; have E1 := hide (Ext.grown ((Ext.refl w).alloc _) hg1 (fun z hz => by simp [Value.ownBlock] at hz; omega)); obtain ⟨A1, c1, hv1, _⟩ := own_form ho1; subst hv1; have O1 := hide ho1; clear ho1 hg1 hat1)
    go_ret
    exact ⟨A1, c1, rfl, O1.out, E1.out⟩
end Go.Proofs.Ytaijgnhkdbdfcaa
