/- Redo: whether a cell says nothing; whether two pages are the same. -/
import Derived.Test.YtaagdjipjeindaaRedoF
import Derived.Test.YtaagdjipjeindaaRedoH
namespace Go.Proofs.Ytaagdjipjeindaa
open Go.ChangeShapes Go.WideShapes Go.ChangeAt Go.RowKit
set_option linter.unusedVariables false

/-- a cell says nothing -/
def blankL (l : List UInt8) : Bool := decide (l = [] ∨ l = List.replicate 26 0)
theorem blank_eq {l : List UInt8} (h : l ≠ []) : (l == [0, 0, 0, 0, 0, 0, 0, 0, 0, 0, 0, 0, 0, 0, 0, 0, 0, 0, 0, 0, 0, 0, 0, 0, 0, 0]) = blankL l := by
  unfold blankL
  rw [show ([0, 0, 0, 0, 0, 0, 0, 0, 0, 0, 0, 0, 0, 0, 0, 0, 0, 0, 0, 0, 0, 0, 0, 0, 0, 0] : List UInt8) = List.replicate 26 0 from rfl, Bool.eq_iff_iff]
  simp only [beq_iff_eq, decide_eq_true_eq, h, false_or]
theorem z26_bv : z26.toList = bv (List.replicate 26 0) := by rfl
set_option maxRecDepth 100000 in
set_option maxHeartbeats 4000000 in
theorem blank_any (w : World) (A : Option Addr) (c : Nat) (l : List UInt8) (hr : Reads w w.heap.size 1 A l.length (bv l)) (hl : l.length ≤ 2000) :
    Calls Try.prog 24 #[.slice A l.length c] w fun e w' => e = .returned (.bool (blankL l)) ∧ Ext w w' := by
  have HR := hide hr
  clear hr
  obtain ⟨N, hN⟩ : ∃ N, N = l.length := ⟨_, rfl⟩
  rw [← hN] at HR hl ⊢
  have HN := hide hN
  clear hN
  by_cases h0 : N = 0
  · subst h0
    have HB := hide (show blankL l = true by
      have := HN.out
      rw [List.eq_nil_of_length_eq_zero this.symm]
      rfl)
    go_enter Try.func24, Try.ntmps24
    go_upto_region 1 with (fail)
    refine wp_region_F (S := fun _ => True) 10 (by kernel_rfl) (by kernel_rfl) trivial (fun hHeld => ?_)
    refine GoF.take 0 (some 3) (v := ?_) rfl rfl (by kernel_rfl) (by kernel_rfl) (by kernel_rfl) (fun _ _ _ h => h) (Or.inl ⟨by rfl, ?_⟩) (by assumption) ?_
    rotate_left
    · intro w' hSw
      try dsimp only at hSw
      go_simp
      try with_reducible rfl
    try simp only [Act.put, List.setIfInBounds_toArray, List.set_cons_zero, List.set_cons_succ]
    refine GoF.take 1 (some 4) (v := ?_) rfl rfl (by kernel_rfl) (by kernel_rfl) (by kernel_rfl) (fun _ _ _ h => h) (Or.inl ⟨by rfl, ?_⟩) (by assumption) ?_
    rotate_left
    · intro w' hSw
      try dsimp only at hSw
      go_simp
      try with_reducible rfl
    try simp only [Act.put, List.setIfInBounds_toArray, List.set_cons_zero, List.set_cons_succ]
    refine GoF.take 2 (some 5) (v := ?_) rfl rfl (by kernel_rfl) (by kernel_rfl) (by kernel_rfl) (fun _ _ _ h => h) (Or.inl ⟨by rfl, ?_⟩) (by assumption) ?_
    rotate_left
    · intro w' hSw
      try dsimp only at hSw
      go_simp
      try with_reducible rfl
    try simp only [Act.put, List.setIfInBounds_toArray, List.set_cons_zero, List.set_cons_succ]
    refine GoF.take 3 (some 6) (v := ?_) rfl rfl (by kernel_rfl) (by kernel_rfl) (by kernel_rfl) (fun _ _ _ h => h) (Or.inl ⟨by rfl, ?_⟩) (by assumption) ?_
    rotate_left
    · intro w' hSw
      try dsimp only at hSw
      go_simp
      try with_reducible rfl
    try simp only [Act.put, List.setIfInBounds_toArray, List.set_cons_zero, List.set_cons_succ]
    refine GoF.take 4 (some 7) (v := undef) rfl rfl (by kernel_rfl) (by kernel_rfl) (by kernel_rfl) (fun _ _ _ h => h) (Or.inr ⟨by rfl, rfl⟩) (by assumption) ?_
    try simp only [Act.put, List.setIfInBounds_toArray, List.set_cons_zero, List.set_cons_succ]
    refine GoF.take 5 (some 8) (v := undef) rfl rfl (by kernel_rfl) (by kernel_rfl) (by kernel_rfl) (fun _ _ _ h => h) (Or.inr ⟨by rfl, rfl⟩) (by assumption) ?_
    try simp only [Act.put, List.setIfInBounds_toArray, List.set_cons_zero, List.set_cons_succ]
    refine GoF.each (rs := [6]) (by kernel_rfl) (by kernel_rfl) (by kernel_rfl) ?_
    refine EachF.cons (i := 6) rfl (fun K hK => ?_) EachF.nil
    go_simp
    refine hK.out _ _ trivial (fun hHeld => ?_)
    clear hK K
    try simp only [Act.put, List.setIfInBounds_toArray, List.set_cons_zero, List.set_cons_succ]
    refine GoF.take 7 (some 10) (v := undef) rfl rfl (by kernel_rfl) (by kernel_rfl) (by kernel_rfl) (fun _ _ _ h => h) (Or.inr ⟨by rfl, rfl⟩) (by assumption) ?_
    try simp only [Act.put, List.setIfInBounds_toArray, List.set_cons_zero, List.set_cons_succ]
    refine GoF.take 8 (some 11) (v := undef) rfl rfl (by kernel_rfl) (by kernel_rfl) (by kernel_rfl) (fun _ _ _ h => h) (Or.inr ⟨by rfl, rfl⟩) (by assumption) ?_
    try simp only [Act.put, List.setIfInBounds_toArray, List.set_cons_zero, List.set_cons_succ]
    refine GoF.take 9 (some 12) (v := ?_) rfl rfl (by kernel_rfl) (by kernel_rfl) (by kernel_rfl) (fun _ _ _ h => h) (Or.inl ⟨by rfl, ?_⟩) (by assumption) ?_
    rotate_left
    · intro w' hSw
      try dsimp only at hSw
      go_simp
      try with_reducible rfl
    try simp only [Act.put, List.setIfInBounds_toArray, List.set_cons_zero, List.set_cons_succ]
    refine GoF.last (by kernel_rfl) (by kernel_rfl) rfl (fun K hK => ?_)
    go_simp
    refine hK.out _ _ ?_
    clear hK K hHeld
    go_wp2_with (fail)
    go_ret
    rw [HB.out]
    exact ⟨rfl, Ext.drew (Ext.refl w)⟩
  · have d0 : ((N : Int) == 0) = false := by simp; omega
    have d1 : (N == 0) = false := by simpa using h0
    have HS := hide (show ∀ w' : World, Ext w w' → (convert 22 9 (.slice A N c)).run Try.prog w' = .ok (.string ⟨l.toArray⟩) w' from fun w' hx => run_string_of_reads 22 9 5 c Try.underlying22 Try.underlying5 Try.underlying9 (hx.read HR.out))
    have HNE := hide (show l ≠ [] from fun e => h0 (by rw [HN.out, e]; rfl))
    clear h0
    go_enter Try.func24, Try.ntmps24
    go_upto_region 1 with (fail)
    refine wp_region_F (S := (fun w' => (convert 22 9 (.slice A N c)).run Try.prog w' = .ok (.string ⟨l.toArray⟩) w')) 10 (by kernel_rfl) (by kernel_rfl) (HS.out _ (Ext.drew (Ext.refl w))) (fun hHeld => ?_)
    refine GoF.take 0 (some 3) (v := ?_) rfl rfl (by kernel_rfl) (by kernel_rfl) (by kernel_rfl) (fun _ _ _ h => h) (Or.inl ⟨by rfl, ?_⟩) (by assumption) ?_
    rotate_left
    · intro w' hSw
      try dsimp only at hSw
      go_simp
      try with_reducible rfl
    try simp only [Act.put, List.setIfInBounds_toArray, List.set_cons_zero, List.set_cons_succ]
    refine GoF.take 1 (some 4) (v := ?_) rfl rfl (by kernel_rfl) (by kernel_rfl) (by kernel_rfl) (fun _ _ _ h => h) (Or.inl ⟨by rfl, ?_⟩) (by assumption) ?_
    rotate_left
    · intro w' hSw
      try dsimp only at hSw
      go_simp
      try with_reducible rfl
    try simp only [Act.put, List.setIfInBounds_toArray, List.set_cons_zero, List.set_cons_succ]
    refine GoF.take 2 (some 5) (v := ?_) rfl rfl (by kernel_rfl) (by kernel_rfl) (by kernel_rfl) (fun _ _ _ h => h) (Or.inl ⟨by rfl, ?_⟩) (by assumption) ?_
    rotate_left
    · intro w' hSw
      try dsimp only at hSw
      go_simp
      try with_reducible rfl
    try simp only [Act.put, List.setIfInBounds_toArray, List.set_cons_zero, List.set_cons_succ]
    refine GoF.take 3 (some 6) (v := ?_) rfl rfl (by kernel_rfl) (by kernel_rfl) (by kernel_rfl) (fun _ _ _ h => h) (Or.inl ⟨by rfl, ?_⟩) (by assumption) ?_
    rotate_left
    · intro w' hSw
      try dsimp only at hSw
      go_simp
      try with_reducible rfl
    try simp only [Act.put, List.setIfInBounds_toArray, List.set_cons_zero, List.set_cons_succ]
    refine GoF.take 4 (some 7) (v := ?_) rfl rfl (by kernel_rfl) (by kernel_rfl) (by kernel_rfl) (fun _ _ _ h => h) (Or.inl ⟨by rfl, ?_⟩) (by assumption) ?_
    rotate_left
    · intro w' hSw
      try dsimp only at hSw
      go_simp
      try with_reducible rfl
    try simp only [Act.put, List.setIfInBounds_toArray, List.set_cons_zero, List.set_cons_succ]
    refine GoF.take 5 (some 8) (v := ?_) rfl rfl (by kernel_rfl) (by kernel_rfl) (by kernel_rfl) (fun _ _ _ h => h) (Or.inl ⟨by rfl, ?_⟩) (by assumption) ?_
    rotate_left
    · intro w' hSw
      try dsimp only at hSw
      go_simp
      try with_reducible rfl
    try simp only [Act.put, List.setIfInBounds_toArray, List.set_cons_zero, List.set_cons_succ]
    refine GoF.each (rs := [6]) (by kernel_rfl) (by kernel_rfl) (by kernel_rfl) ?_
    refine EachF.cons (i := 6) rfl (fun K hK => ?_) EachF.nil
    have hmk := mk26 w.drew
    go_simp
    refine hK.out _ _ (HS.out _ (Ext.alloc (Ext.drew (Ext.refl w)) _)) (fun hHeld => ?_)
    clear hK K hmk
    try simp only [Act.put, List.setIfInBounds_toArray, List.set_cons_zero, List.set_cons_succ]
    refine GoF.each (rs := [7]) (by kernel_rfl) (by kernel_rfl) (by kernel_rfl) ?_
    refine EachF.cons (i := 7) rfl (fun K hK => ?_) EachF.nil
    have kc : (convert 22 9 (.slice (some ⟨w.heap.size, 0, none⟩) 26 26)).run Try.prog ((w.alloc (.cells z26 5)).drew) = .ok (.string ⟨(List.replicate 26 (0 : UInt8)).toArray⟩) ((w.alloc (.cells z26 5)).drew) := run_string_of_reads 22 9 5 26 Try.underlying22 Try.underlying5 Try.underlying9 (by have h := reads_row (Blk.new w 5 z26).drew; rw [z26_bv] at h; exact h)
    go_simp
    refine hK.out _ _ (HS.out _ (Ext.drew (Ext.alloc (Ext.refl w) _))) (fun hHeld => ?_)
    clear hK K kc
    try simp only [Act.put, List.setIfInBounds_toArray, List.set_cons_zero, List.set_cons_succ]
    refine GoF.take 8 (some 11) (v := ?_) rfl rfl (by kernel_rfl) (by kernel_rfl) (by kernel_rfl) (fun _ _ _ h => h) (Or.inl ⟨by rfl, ?_⟩) (by assumption) ?_
    rotate_left
    · intro w' hSw
      try dsimp only at hSw
      go_simp
      try with_reducible rfl
    try simp only [Act.put, List.setIfInBounds_toArray, List.set_cons_zero, List.set_cons_succ]
    refine GoF.take 9 (some 12) (v := ?_) rfl rfl (by kernel_rfl) (by kernel_rfl) (by kernel_rfl) (fun _ _ _ h => h) (Or.inl ⟨by rfl, ?_⟩) (by assumption) ?_
    rotate_left
    · intro w' hSw
      try dsimp only at hSw
      go_simp
      try with_reducible rfl
    try simp only [Act.put, List.setIfInBounds_toArray, List.set_cons_zero, List.set_cons_succ]
    refine GoF.last (by kernel_rfl) (by kernel_rfl) rfl (fun K hK => ?_)
    go_simp
    refine hK.out _ _ ?_
    clear hK K hHeld
    go_wp2_with (fail)
    go_ret
    exact ⟨ret_bool (blank_eq HNE.out), Ext.drew (Ext.alloc (Ext.refl w) _)⟩
end Go.Proofs.Ytaagdjipjeindaa
