/- Redo: contracts: Stub. -/
import Derived.Test.YtaagdjipjeindaaRedoB
namespace Go.Proofs.Ytaagdjipjeindaa
open Go.ChangeShapes Go.WideShapes Go.ChangeAt Go.RowKit
set_option linter.unusedVariables false

def z26 : Array Value := #[.int .u8 0, .int .u8 0, .int .u8 0, .int .u8 0, .int .u8 0, .int .u8 0, .int .u8 0, .int .u8 0, .int .u8 0, .int .u8 0, .int .u8 0, .int .u8 0, .int .u8 0, .int .u8 0, .int .u8 0, .int .u8 0, .int .u8 0, .int .u8 0, .int .u8 0, .int .u8 0, .int .u8 0, .int .u8 0, .int .u8 0, .int .u8 0, .int .u8 0, .int .u8 0]
theorem mk26 (w : World) : (Instr.makeSlice 22 (.int .i64 26) (.int .i64 26)).run Try.prog w = .ok (.slice (some ⟨w.heap.size, 0, none⟩) 26 26) (w.alloc (.cells z26 5)) := by kernel_rfl
def stubL (p k : Nat) : List UInt8 := 2 :: UInt8.ofNat p :: UInt8.ofNat k :: List.replicate 23 0
theorem stubL_bv {p k : Nat} (hp : p < 32) (hk : k < 4) : (((z26.setIfInBounds 0 (.int .u8 2)).setIfInBounds 1 (.int .u8 (p : Int))).setIfInBounds 2 (.int .u8 (k : Int))).toList = bv (stubL p k) := by
  have e1 : ((UInt8.ofNat p).toNat : Int) = p := by rw [UInt8.toNat_ofNat', Nat.mod_eq_of_lt (by omega)]
  have e2 : ((UInt8.ofNat k).toNat : Int) = k := by rw [UInt8.toNat_ofNat', Nat.mod_eq_of_lt (by omega)]
  simp only [bv, stubL, List.map_cons, e1, e2]
  rfl
theorem reads_row {w : World} {g : Nat} {t : TypeId} {cs : Array Value} (h : Blk w g t cs) : Reads w w.heap.size 1 (some ⟨g, 0, none⟩) cs.size cs.toList := by
  refine ⟨by simp, fun _ => ⟨_, rfl, h.lt, fun j u hu => ?_⟩⟩
  have e : (⟨g, 0, none⟩ : Addr).add j = ⟨g, j, none⟩ := by unfold Addr.add; split <;> simp_all
  rw [e, h.cell]
  simpa using hu
/-- what Stub tells -/
def GivesStub (w : World) (b0 b1 : Int) (e : Ending) (w' : World) : Prop :=
  Ext w w' ∧ ((¬ (0 ≤ b0 ∧ b0 < 32 ∧ 0 ≤ b1 ∧ b1 < 4) ∧ e = .returned (.tuple #[.slice none 0 0, .int .i64 1])) ∨ ((0 ≤ b0 ∧ b0 < 32 ∧ 0 ≤ b1 ∧ b1 < 4) ∧ ∃ v, e = .returned (.tuple #[v, .int .i64 0]) ∧ BB w' v (stubL b0.toNat b1.toNat)))
set_option maxRecDepth 100000 in
set_option maxHeartbeats 4000000 in
theorem stub_any (w : World) (b0 b1 : Int) : Calls Try.prog 22 #[.agg #[.int .i64 b0, .int .i64 b1]] w (GivesStub w b0 b1) := by
  have X1 := hide (Ext.new w (.cells #[.int .i64 b0, .int .i64 b1] 25))
  by_cases hin : 0 ≤ b0 ∧ b0 < 32 ∧ 0 ≤ b1 ∧ b1 < 4
  · obtain ⟨h1, h2, h3, h4⟩ := hin
    obtain ⟨p, rfl⟩ : ∃ p : Nat, b0 = (p : Int) := ⟨b0.toNat, by omega⟩
    obtain ⟨k, rfl⟩ : ∃ k : Nat, b1 = (k : Int) := ⟨b1.toNat, by omega⟩
    have hmk := mk26 (w.alloc (.cells #[.int .i64 (p : Int), .int .i64 (k : Int)] 25))
    have HPK := hide (show p < 32 ∧ k < 4 by omega)
    have dp1 : decide ((p : Int) < 0) = false := decide_eq_false (by omega)
    have dp2 : decide ((32 : Int) ≤ (p : Int)) = false := decide_eq_false (by omega)
    have dk1 : decide ((k : Int) < 0) = false := decide_eq_false (by omega)
    have dk2 : decide ((4 : Int) ≤ (k : Int)) = false := decide_eq_false (by omega)
    have wp8 : IntKind.u8.wrap (p : Int) = (p : Int) := by simp [IntKind.wrap, IntKind.signed, IntKind.bits]; omega
    have wk8 : IntKind.u8.wrap (k : Int) = (k : Int) := by simp [IntKind.wrap, IntKind.signed, IntKind.bits]; omega
    clear h1 h2 h3 h4
    go_enter Try.func22, Try.ntmps22
    go_upto_region 4 with (fail)
    obtain ⟨w1, hw1⟩ : ∃ w1, w1 = w.alloc (.cells #[.int .i64 (p : Int), .int .i64 (k : Int)] 25) := ⟨_, rfl⟩
    have B1 := hide (show Blk w1 w.heap.size 25 #[.int .i64 (p : Int), .int .i64 (k : Int)] by rw [hw1]; exact Blk.new w 25 _)
    rw [← hw1] at X1 ⊢
    obtain ⟨w2, hw2⟩ : ∃ w2, w2 = w1.alloc (.cells z26 5) := ⟨_, rfl⟩
    have X2 := hide (show Ext w1 w2 by rw [hw2]; exact Ext.new w1 _)
    have Sw2 := hide (show Blk w2 w1.heap.size 5 z26 by rw [hw2]; exact Blk.new w1 5 _)
    have BA := hide (X2.out.blk B1.out)
    have hne : w.heap.size < w1.heap.size := B1.out.lt
    have e1 : w.heap.size + 1 = w1.heap.size := by rw [hw1]; simp
    obtain ⟨ab, hab⟩ : ∃ ab, ab = w.heap.size := ⟨_, rfl⟩
    obtain ⟨sb, hsb⟩ : ∃ sb, sb = w1.heap.size := ⟨_, rfl⟩
    try rw [e1]
    rw [← hw2, ← hsb, ← hab]
    rw [← hsb] at Sw2
    rw [← hab] at BA
    have HABS := hide (show ab ≠ sb by omega)
    have HSL := hide (show w.heap.size ≤ sb by omega)
    have HS := hide (show ∀ w' : World, Blk w' ab 25 #[.int .i64 (p : Int), .int .i64 (k : Int)] → w'.cell? ⟨ab, 0, none⟩ = some (.int .i64 (p : Nat)) ∧ w'.cell? ⟨ab, 1, none⟩ = some (.int .i64 (k : Nat)) from fun w' hb => ⟨by simpa using hb.cell 0, by simpa using hb.cell 1⟩)
    clear hmk hw1 hw2 hab hsb hne e1 B1 dp1 dp2 dk1 dk2
    refine wp_region_F (S := (fun w' => w'.cell? ⟨ab, 0, none⟩ = some (.int .i64 (p : Nat)) ∧ w'.cell? ⟨ab, 1, none⟩ = some (.int .i64 (k : Nat)))) 14 (by kernel_rfl) (by kernel_rfl) (HS.out _ (Blk.drew BA.out)) (fun hHeld => ?_)
    obtain ⟨wd, hwd⟩ : ∃ wd, wd = w2.drew := ⟨_, rfl⟩
    have Swd := hide (show Blk wd sb 5 z26 by rw [hwd]; exact Sw2.out.drew)
    have BAD := hide (show Blk wd ab 25 #[.int .i64 (p : Int), .int .i64 (k : Int)] by rw [hwd]; exact BA.out.drew)
    have XD := hide (show Ext w1 wd by rw [hwd]; exact X2.out.drew)
    rw [← hwd] at hHeld ⊢
    clear hwd
    refine GoF.take 0 (some 24) (v := ?_) rfl rfl (by kernel_rfl) (by kernel_rfl) (by kernel_rfl) (fun _ _ _ h => h) (Or.inl ⟨by rfl, ?_⟩) (by assumption) ?_
    rotate_left
    · intro w' hSw
      try dsimp only at hSw
      go_simp
      try with_reducible rfl
    try simp only [Act.put, List.setIfInBounds_toArray, List.set_cons_zero, List.set_cons_succ]
    refine GoF.take 1 (some 25) (v := ?_) rfl rfl (by kernel_rfl) (by kernel_rfl) (by kernel_rfl) (fun _ _ _ h => h) (Or.inl ⟨by rfl, ?_⟩) (by assumption) ?_
    rotate_left
    · intro w' hSw
      try dsimp only at hSw
      go_simp
      try with_reducible rfl
    try simp only [Act.put, List.setIfInBounds_toArray, List.set_cons_zero, List.set_cons_succ]
    refine GoF.take 2 (some 26) (v := ?_) rfl rfl (by kernel_rfl) (by kernel_rfl) (by kernel_rfl) (fun _ _ _ h => h) (Or.inl ⟨by rfl, ?_⟩) (by assumption) ?_
    rotate_left
    · intro w' hSw
      try dsimp only at hSw
      go_simp
      try with_reducible rfl
    try simp only [Act.put, List.setIfInBounds_toArray, List.set_cons_zero, List.set_cons_succ]
    refine GoF.take 3 (some 27) (v := ?_) rfl rfl (by kernel_rfl) (by kernel_rfl) (by kernel_rfl) (fun _ _ _ h => h) (Or.inl ⟨by rfl, ?_⟩) (by assumption) ?_
    rotate_left
    · intro w' hSw
      try dsimp only at hSw
      go_simp
      try with_reducible rfl
    try simp only [Act.put, List.setIfInBounds_toArray, List.set_cons_zero, List.set_cons_succ]
    refine GoF.take 4 (some 28) (v := ?_) rfl rfl (by kernel_rfl) (by kernel_rfl) (by kernel_rfl) (fun _ _ _ h => h) (Or.inl ⟨by rfl, ?_⟩) (by assumption) ?_
    rotate_left
    · intro w' hSw
      try dsimp only at hSw
      go_simp
      try with_reducible rfl
    try simp only [Act.put, List.setIfInBounds_toArray, List.set_cons_zero, List.set_cons_succ]
    refine GoF.take 5 (some 29) (v := ?_) rfl rfl (by kernel_rfl) (by kernel_rfl) (by kernel_rfl) (fun _ _ _ h => h) (Or.inl ⟨by rfl, ?_⟩) (by assumption) ?_
    rotate_left
    · intro w' hSw
      try dsimp only at hSw
      go_simp
      try with_reducible rfl
    try simp only [Act.put, List.setIfInBounds_toArray, List.set_cons_zero, List.set_cons_succ]
    refine GoF.take 6 (some 30) (v := ?_) rfl rfl (by kernel_rfl) (by kernel_rfl) (by kernel_rfl) (fun _ _ _ h => h) (Or.inl ⟨by rfl, ?_⟩) (by assumption) ?_
    rotate_left
    · intro w' hSw
      try dsimp only at hSw
      go_simp
      try with_reducible rfl
    try simp only [Act.put, List.setIfInBounds_toArray, List.set_cons_zero, List.set_cons_succ]
    refine GoF.take 7 (some 31) (v := ?_) rfl rfl (by kernel_rfl) (by kernel_rfl) (by kernel_rfl) (fun _ _ _ h => h) (Or.inl ⟨by rfl, ?_⟩) (by assumption) ?_
    rotate_left
    · intro w' hSw
      try dsimp only at hSw
      go_simp
      try with_reducible rfl
    try simp only [Act.put, List.setIfInBounds_toArray, List.set_cons_zero, List.set_cons_succ]
    refine GoF.take 8 (some 32) (v := ?_) rfl rfl (by kernel_rfl) (by kernel_rfl) (by kernel_rfl) (fun _ _ _ h => h) (Or.inl ⟨by rfl, ?_⟩) (by assumption) ?_
    rotate_left
    · intro w' hSw
      try dsimp only at hSw
      go_simp
      try with_reducible rfl
    try simp only [Act.put, List.setIfInBounds_toArray, List.set_cons_zero, List.set_cons_succ]
    refine GoF.take 9 (some 33) (v := ?_) rfl rfl (by kernel_rfl) (by kernel_rfl) (by kernel_rfl) (fun _ _ _ h => h) (Or.inl ⟨by rfl, ?_⟩) (by assumption) ?_
    rotate_left
    · intro w' hSw
      try dsimp only at hSw
      go_simp
      try with_reducible rfl
    try simp only [Act.put, List.setIfInBounds_toArray, List.set_cons_zero, List.set_cons_succ]
    refine GoF.each (rs := [10]) (by kernel_rfl) (by kernel_rfl) (by kernel_rfl) ?_
    refine EachF.cons (i := 10) rfl (fun K hK => ?_) EachF.nil
    have yb : wd.cell? ⟨sb, 0, none⟩ = some (.int .u8 0) := by rw [Swd.out.cell]; rfl
    have zb := Swd.out.frozen 0
    have Tw3 := hide (show Touch wd (wd.setCell ⟨sb, 0, none⟩ (.int .u8 2)) (fun a => a = sb) from Touch.setCell (F := fun a => a = sb) (p := ⟨sb, 0, none⟩) (Touch.refl wd _) (fun _ => rfl) _)
    have BA3 := hide (Tw3.out.blk BAD.out HABS.out)
    go_simp
    refine hK.out _ _ (HS.out _ BA3.out) (fun hHeld => ?_)
    clear hK K yb zb
    try simp only [Act.put, List.setIfInBounds_toArray, List.set_cons_zero, List.set_cons_succ]
    obtain ⟨w3, hw3⟩ : ∃ w3, w3 = wd.setCell ⟨sb, 0, none⟩ (.int .u8 2) := ⟨_, rfl⟩
    have Sw3 := hide (show Blk w3 sb 5 (z26.setIfInBounds 0 (.int .u8 2)) by rw [hw3]; exact Swd.out.set_ 0 _)
    rw [← hw3] at hHeld Tw3 BA3 ⊢
    clear hw3
    refine GoF.take 11 (some 34) (v := ?_) rfl rfl (by kernel_rfl) (by kernel_rfl) (by kernel_rfl) (fun _ _ _ h => h) (Or.inl ⟨by rfl, ?_⟩) (by assumption) ?_
    rotate_left
    · intro w' hSw
      try dsimp only at hSw
      go_simp
      try with_reducible rfl
    try simp only [Act.put, List.setIfInBounds_toArray, List.set_cons_zero, List.set_cons_succ]
    refine GoF.each (rs := [12]) (by kernel_rfl) (by kernel_rfl) (by kernel_rfl) ?_
    refine EachF.cons (i := 12) rfl (fun K hK => ?_) EachF.nil
    have yb : w3.cell? ⟨sb, 1, none⟩ = some (.int .u8 0) := by rw [Sw3.out.cell]; rfl
    have zb := Sw3.out.frozen 1
    have Tw4 := hide (show Touch w3 (w3.setCell ⟨sb, 1, none⟩ (.int .u8 (p : Int))) (fun a => a = sb) from Touch.setCell (F := fun a => a = sb) (p := ⟨sb, 1, none⟩) (Touch.refl w3 _) (fun _ => rfl) _)
    have BA4 := hide (Tw4.out.blk BA3.out HABS.out)
    go_simp
    refine hK.out _ _ (HS.out _ BA4.out) (fun hHeld => ?_)
    clear hK K yb zb
    try simp only [Act.put, List.setIfInBounds_toArray, List.set_cons_zero, List.set_cons_succ]
    obtain ⟨w4, hw4⟩ : ∃ w4, w4 = w3.setCell ⟨sb, 1, none⟩ (.int .u8 (p : Int)) := ⟨_, rfl⟩
    have Sw4 := hide (show Blk w4 sb 5 ((z26.setIfInBounds 0 (.int .u8 2)).setIfInBounds 1 (.int .u8 (p : Int))) by rw [hw4]; exact Sw3.out.set_ 1 _)
    rw [← hw4] at hHeld Tw4 BA4 ⊢
    clear hw4
    refine GoF.take 13 (some 35) (v := ?_) rfl rfl (by kernel_rfl) (by kernel_rfl) (by kernel_rfl) (fun _ _ _ h => h) (Or.inl ⟨by rfl, ?_⟩) (by assumption) ?_
    rotate_left
    · intro w' hSw
      try dsimp only at hSw
      go_simp
      try with_reducible rfl
    try simp only [Act.put, List.setIfInBounds_toArray, List.set_cons_zero, List.set_cons_succ]
    refine GoF.last (by kernel_rfl) (by kernel_rfl) rfl (fun K hK => ?_)
    have yb : w4.cell? ⟨sb, 2, none⟩ = some (.int .u8 0) := by rw [Sw4.out.cell]; rfl
    have zb := Sw4.out.frozen 2
    clear hHeld
    go_simp
    refine hK.out _ _ ?_
    clear hK K yb zb
    have S5 := Sw4.out.set_ 2 (.int .u8 (k : Int))
    have RD := reads_row S5
    rw [stubL_bv HPK.out.1 HPK.out.2] at RD
    have hx : Ext w (w4.setCell ⟨sb, 2, none⟩ (.int .u8 (k : Int))) := Ext.set_ (Touch.ext (Touch.ext (X1.out.trans XD.out) Tw3.out HSL.out) Tw4.out HSL.out) (p := ⟨sb, 2, none⟩) HSL.out _
    go_wp2_with (fail)
    exact bodyPost_ret (v := .tuple #[.slice (some ⟨sb, 0, none⟩) 26 26, .int .i64 0]) (by simp [results, Try.results22, go_sem]) rfl ⟨hx, .inr ⟨by have := HPK.out; omega, _, rfl, some ⟨sb, 0, none⟩, 26, rfl, ⟨(fun h => by cases h), by simp [stubL]⟩, RD⟩⟩
  · have HI := hide hin
    by_cases c1 : b0 < 0
    · have d1 : decide (b0 < 0) = true := decide_eq_true c1
      clear hin c1
      go_enter Try.func22, Try.ntmps22
      go_wp2_with (fail)
      exact bodyPost_ret (v := .tuple #[.slice none 0 0, .int .i64 1]) (by simp [results, Try.results22, go_sem]) rfl ⟨X1.out, .inl ⟨HI.out, rfl⟩⟩
    · have d1 : decide (b0 < 0) = false := decide_eq_false c1
      by_cases c2 : 32 ≤ b0
      · have d2 : decide ((32 : Int) ≤ b0) = true := decide_eq_true c2
        clear hin c1 c2
        go_enter Try.func22, Try.ntmps22
        go_wp2_with (fail)
        exact bodyPost_ret (v := .tuple #[.slice none 0 0, .int .i64 1]) (by simp [results, Try.results22, go_sem]) rfl ⟨X1.out, .inl ⟨HI.out, rfl⟩⟩
      · have d2 : decide ((32 : Int) ≤ b0) = false := decide_eq_false c2
        by_cases c3 : b1 < 0
        · have d3 : decide (b1 < 0) = true := decide_eq_true c3
          clear hin c1 c2 c3
          go_enter Try.func22, Try.ntmps22
          go_wp2_with (fail)
          exact bodyPost_ret (v := .tuple #[.slice none 0 0, .int .i64 1]) (by simp [results, Try.results22, go_sem]) rfl ⟨X1.out, .inl ⟨HI.out, rfl⟩⟩
        · have d3 : decide (b1 < 0) = false := decide_eq_false c3
          have d4 : decide ((4 : Int) ≤ b1) = true := decide_eq_true (by omega)
          clear hin c1 c2 c3
          go_enter Try.func22, Try.ntmps22
          go_wp2_with (fail)
          exact bodyPost_ret (v := .tuple #[.slice none 0 0, .int .i64 1]) (by simp [results, Try.results22, go_sem]) rfl ⟨X1.out, .inl ⟨HI.out, rfl⟩⟩
end Go.Proofs.Ytaagdjipjeindaa
