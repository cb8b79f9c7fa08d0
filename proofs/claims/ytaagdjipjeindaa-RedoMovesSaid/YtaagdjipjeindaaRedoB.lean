/- Redo: contracts: Index, Contains; a painter's set. -/
import Derived.Test.YtaagdjipjeindaaRedo
import Derived.Deep.Cut
import Derived.Deep.DeepCutAuto
import Derived.Deep.CutBlock
namespace Go.Proofs.Ytaagdjipjeindaa
open Go.ChangeShapes Go.WideShapes Go.ChangeAt Go.RowKit
set_option linter.unusedVariables false

set_option maxRecDepth 100000 in
set_option maxHeartbeats 2000000 in
theorem index_any (A : Option Addr) (c n B : Nat) (L : List Int) (x : Int) (w : World) (hn : n = L.length) (hr : Reads w B 1 A n (iv L)) (hl : n ≤ 2000) :
    Calls Try.prog 33 #[.slice A n c, .int .i64 x] w fun e w' => ∃ k : Int, e = .returned (.int .i64 k) ∧ ((0 ≤ k) ↔ x ∈ L) ∧ w = w' := by
  have HR := hide hr
  have HN := hide hn
  clear hr hn
  go_enter Try.func33, Try.ntmps33
  go_wp2_with (fail)
  go_loopw [5, 8] (fun _ s8 wr => (∃ i : Nat, i ≤ n ∧ s8 = .int .i64 i ∧ w = wr ∧ Hid (∀ (j : Nat) (y : Int), j < i → L[j]? = some y → y ≠ x))) (fun _ s8 _ => (n - intOf s8).toNat)
  case atStart => exact ⟨0, by omega, rfl, rfl, fun j y hj => absurd hj (by omega)⟩
  case round =>
    obtain ⟨i, hi, rfl, rfl, hno⟩ := hrel
    by_cases hlt : i < n
    · obtain ⟨b, off, hA, _, hcell⟩ := HR.out.plain (by omega) (by omega)
      subst hA
      obtain ⟨y, hy⟩ : ∃ y, L[i]? = some y := ⟨_, List.getElem?_eq_getElem (by rw [← HN.out]; exact hlt)⟩
      have g0 := hcell i (.int .i64 y) (by simp [iv, hy])
      have HY := hide hy
      clear hcell hy
      by_cases h1 : x = y
      · have d1 : (x == y) = true := by rw [h1]; exact beq_self_eq_true _
        have HM := hide (show x ∈ L by rw [h1]; exact List.mem_of_getElem? HY.out)
        clear h1
        go_wp2_with (fail)
        go_ret
        exact ⟨(i : Int), rfl, ⟨fun _ => HM.out, fun _ => by omega⟩, rfl⟩
      · have d1 : (x == y) = false := by simpa using h1
        have HF := hide h1
        clear h1
        go_wp2_with (fail)
        go_roundw
        case rel => exact ⟨i + 1, by omega, by go_num, by trivial, fun j z hj hz => by
          rcases Nat.lt_or_ge j i with h | h
          · exact hno.out j z h hz
          · obtain rfl : j = i := by omega
            have hy := HY.out
            rw [hy] at hz; injection hz with hz
            exact fun e => HF.out (by rw [← e, hz])⟩
        case measure => simp [intOf]; omega
    · obtain rfl : i = n := by omega
      go_wp2_with (fail)
      go_ret
      refine ⟨-1, rfl, ⟨fun h => absurd h (by decide), fun h => ?_⟩, rfl⟩
      obtain ⟨j, hj, e⟩ := List.mem_iff_getElem.1 h
      exact absurd rfl (hno.out j x (by rw [HN.out]; exact hj) (by rw [← e]; exact List.getElem?_eq_getElem _))
theorem contains_any (A : Option Addr) (c n B : Nat) (L : List Int) (x : Int) (w : World) (hn : n = L.length) (hr : Reads w B 1 A n (iv L)) (hl : n ≤ 2000) :
    Calls Try.prog 19 #[.slice A n c, .int .i64 x] w fun e w' => e = .returned (.bool (decide (x ∈ L))) ∧ w = w' := by
  have hI := hide (index_any A c n B L x w hn hr hl)
  clear hr hn
  go_enter Try.func19, Try.ntmps19
  go_wp2_with (go_at_call 33; refine hI.out.mono ?_; rintro e w' ⟨k, rfl, hk, rfl⟩; have HK := hide hk; clear hk)
  go_ret
  exact ⟨ret_bool (by rw [Bool.eq_iff_iff]; simp only [decide_eq_true_eq]; exact HK.out), rfl⟩
/-- what a painter's set leaves -/
def Painted (w : World) (pb : Nat) (cs : Array Value) (a0 a1 n : Int) (l : List UInt8) (w' : World) : Prop :=
  Touch w w' (fun a => a = pb) ∧ ((¬ (a0 = n ∧ 0 ≤ a1 ∧ a1 < 4) ∧ Blk w' pb 62 cs) ∨ ((a0 = n ∧ 0 ≤ a1 ∧ a1 < 4) ∧ ∃ v, BBx w' pb v l ∧ Blk w' pb 62 (cs.setIfInBounds a1.toNat v)))
def VK (k : Nat) (v0 v1 v2 v3 : Value) : Value := if k = 0 then v0 else if k = 1 then v1 else if k = 2 then v2 else v3
set_option maxRecDepth 100000 in
set_option maxHeartbeats 4000000 in
theorem set_any (w : World) (pb : Nat) (v0 v1 v2 v3 : Value) (ls n a0 a1 : Int) (A : Option Addr) (c : Nat) (l : List UInt8) (hB : Blk w pb 62 #[v0, v1, v2, v3, .int .i64 ls, .int .i64 n]) (hA : CapOk A c l.length) (hr : Reads w w.heap.size 1 A l.length (bv l)) (hl : l.length ≤ 1048576) :
    Calls Try.prog 21 #[.pointer (some ⟨pb, 0, none⟩), .agg #[.int .i64 a0, .int .i64 a1], .slice A l.length c] w fun e w' => e = .returned (.tuple #[]) ∧ Painted w pb #[v0, v1, v2, v3, .int .i64 ls, .int .i64 n] a0 a1 n l w' := by
  have HA := hide hA
  have X1 := hide (Ext.new w (.cells #[.int .i64 a0, .int .i64 a1] 25))
  have B1 := hide (X1.out.blk hB)
  have y5 := B1.out.cell 5
  simp at y5
  have HPL := hide hB.lt
  have hpl : pb < w.heap.size := hB.lt
  have HR0 := hide hr
  clear hA hr hB
  by_cases hin : a0 = n ∧ 0 ≤ a1 ∧ a1 < 4
  · obtain ⟨rfl, h1, h2⟩ := hin
    obtain ⟨k, rfl⟩ : ∃ k : Nat, a1 = (k : Int) := ⟨a1.toNat, by omega⟩
    have hk4 : k < 4 := by omega
    have d1 : decide ((0 : Int) ≤ (k : Int)) = true := decide_eq_true (by omega)
    have d2 : decide ((k : Int) < 4) = true := decide_eq_true h2
    clear h1
    go_enter Try.func21, Try.ntmps21
    go_wp2_with (fail)
    go_quiet (fail)
    go_upto_region 2 with (fail)
    obtain ⟨w2, hw2⟩ : ∃ w2, w2 = (w.alloc (.cells #[.int .i64 a0, .int .i64 (k : Int)] 25)).drewN nq := ⟨_, rfl⟩
    have X2 := hide (show Ext w w2 by rw [hw2]; exact X1.out.drewN nq)
    have B2 := hide (show Blk w2 pb 62 #[v0, v1, v2, v3, .int .i64 ls, .int .i64 a0] by rw [hw2]; exact B1.out.drewN nq)
    have BA := hide (show Blk w2 w.heap.size 25 #[.int .i64 a0, .int .i64 (k : Int)] by rw [hw2]; exact (Blk.new w 25 _).drewN nq)
    have HR := hide (X2.out.read HR0.out)
    have HPL2 := hide (Nat.lt_of_lt_of_le hpl X2.out.size)
    obtain ⟨ab, hab⟩ : ∃ ab, ab = w.heap.size := ⟨_, rfl⟩
    rw [← hab] at BA
    have HS := hide (show ∀ w' : World, Ext w2 w' → w'.cell? ⟨ab, 1, none⟩ = some (.int .i64 (k : Nat)) from fun w' hx => by simpa using (hx.blk BA.out).cell 1)
    rw [← hw2, ← hab]
    have hpab : pb < ab := by omega
    clear hw2 y5 hab hpl
    refine wp_region_F (S := (fun w' => w'.cell? ⟨ab, 1, none⟩ = some (.int .i64 (k : Nat)))) 9 (by kernel_rfl) (by kernel_rfl) (HS.out _ (Ext.drew (Ext.refl w2))) (fun hHeld => ?_)
    refine GoF.take 0 (some 23) (v := ?_) rfl rfl (by kernel_rfl) (by kernel_rfl) (by kernel_rfl) (fun _ _ _ h => h) (Or.inl ⟨by rfl, ?_⟩) (by assumption) ?_
    rotate_left
    · intro w' hSw
      try dsimp only at hSw
      go_simp
      try with_reducible rfl
    try simp only [Act.put, List.setIfInBounds_toArray, List.set_cons_zero, List.set_cons_succ]
    refine GoF.take 1 (some 24) (v := ?_) rfl rfl (by kernel_rfl) (by kernel_rfl) (by kernel_rfl) (fun _ _ _ h => h) (Or.inl ⟨by rfl, ?_⟩) (by assumption) ?_
    rotate_left
    · intro w' hSw
      try dsimp only at hSw
      go_simp
      try with_reducible rfl
    try simp only [Act.put, List.setIfInBounds_toArray, List.set_cons_zero, List.set_cons_succ]
    refine GoF.take 2 (some 25) (v := ?_) rfl rfl (by kernel_rfl) (by kernel_rfl) (by kernel_rfl) (fun _ _ _ h => h) (Or.inl ⟨by rfl, ?_⟩) (by assumption) ?_
    rotate_left
    · intro w' hSw
      try dsimp only at hSw
      go_simp
      try with_reducible rfl
    try simp only [Act.put, List.setIfInBounds_toArray, List.set_cons_zero, List.set_cons_succ]
    refine GoF.take 3 (some 26) (v := ?_) rfl rfl (by kernel_rfl) (by kernel_rfl) (by kernel_rfl) (fun _ _ _ h => h) (Or.inl ⟨by rfl, ?_⟩) (by assumption) ?_
    rotate_left
    · intro w' hSw
      try dsimp only at hSw
      go_simp
      try with_reducible rfl
    try simp only [Act.put, List.setIfInBounds_toArray, List.set_cons_zero, List.set_cons_succ]
    refine GoF.take 5 (some 28) (v := ?_) rfl rfl (by kernel_rfl) (by kernel_rfl) (by kernel_rfl) (fun _ _ _ h => h) (Or.inl ⟨by rfl, ?_⟩) (by assumption) ?_
    rotate_left
    · intro w' hSw
      try dsimp only at hSw
      go_simp
      try with_reducible rfl
    try simp only [Act.put, List.setIfInBounds_toArray, List.set_cons_zero, List.set_cons_succ]
    refine GoF.take 6 (some 29) (v := ?_) rfl rfl (by kernel_rfl) (by kernel_rfl) (by kernel_rfl) (fun _ _ _ h => h) (Or.inl ⟨by rfl, ?_⟩) (by assumption) ?_
    rotate_left
    · intro w' hSw
      try dsimp only at hSw
      go_simp
      try with_reducible rfl
    try simp only [Act.put, List.setIfInBounds_toArray, List.set_cons_zero, List.set_cons_succ]
    refine GoF.take 7 (some 30) (v := ?_) rfl rfl (by kernel_rfl) (by kernel_rfl) (by kernel_rfl) (fun _ _ _ h => h) (Or.inl ⟨by rfl, ?_⟩) (by assumption) ?_
    rotate_left
    · intro w' hSw
      try dsimp only at hSw
      go_simp
      try with_reducible rfl
    try simp only [Act.put, List.setIfInBounds_toArray, List.set_cons_zero, List.set_cons_succ]
    refine GoF.each (rs := [4]) (by kernel_rfl) (by kernel_rfl) (by kernel_rfl) ?_
    refine EachF.cons (i := 4) rfl (fun K hK => ?_) EachF.nil
    go_simp
    refine (clone_any A c l w2.drew HA.out (Ext.read (Ext.drew (Ext.refl w2)) HR.out) hl).mono ?_
    rintro e w3 ⟨A3, c3, rfl, hA3, hB3, hr3, x3⟩
    have X3 := hide (show Ext w2 w3 from (Ext.drew (Ext.refl w2)).trans x3)
    have R3 := hide hr3
    have HA3 := hide hA3
    have HNE := hide (show ∀ ad : Addr, A3 = some ad → ad.block ≠ pb from fun ad h e => by have h1 : w2.heap.size ≤ ad.block := hB3 ad h; have := HPL2.out; omega)
    have B3 := hide (X3.out.blk B2.out)
    clear hA3 hB3 hr3 x3
    try go_simp
    refine hK.out _ _ (HS.out _ X3.out) (fun hHeld => ?_)
    clear hK K
    try simp only [Act.put, List.setIfInBounds_toArray, List.set_cons_zero, List.set_cons_succ]
    refine GoF.take 8 (some 31) (v := ?_) rfl rfl (by kernel_rfl) (by kernel_rfl) (by kernel_rfl) (fun _ _ _ h => h) (Or.inl ⟨by rfl, ?_⟩) (by assumption) ?_
    rotate_left
    · intro w' hSw
      try dsimp only at hSw
      go_simp
      try with_reducible rfl
    try simp only [Act.put, List.setIfInBounds_toArray, List.set_cons_zero, List.set_cons_succ]
    refine GoF.last (by kernel_rfl) (by kernel_rfl) rfl (fun K hK => ?_)
    clear hHeld
    have hcs : (#[v0, v1, v2, v3, .int .i64 ls, .int .i64 a0] : Array Value)[k]? = some (VK k v0 v1 v2 v3) := by
      rcases (show k = 0 ∨ k = 1 ∨ k = 2 ∨ k = 3 by omega) with e | e | e | e <;> subst e <;> rfl
    have y3 := B3.out.cell k
    rw [hcs] at y3
    have z3 := B3.out.frozen k
    clear hcs
    go_simp
    refine hK.out _ _ ?_
    clear hK K
    go_wp2_with (fail)
    have t1 : Touch w3 (w3.setCell ⟨pb, k, none⟩ (.slice A3 l.length c3)) (fun a => a = pb) := Touch.setCell (F := fun a => a = pb) (p := ⟨pb, k, none⟩) (Touch.refl w3 _) (fun _ => rfl) _
    exact bodyPost_end (by simp [results, Try.results21, go_sem]) rfl ⟨rfl, (Touch.of_below (X2.out.trans X3.out) _).trans t1 (fun _ _ h => h), .inr ⟨⟨rfl, by omega, by omega⟩, .slice A3 l.length c3, ⟨A3, c3, rfl, HA3.out, (R3.out.touch t1 (Nat.le_refl _) (fun ad had e => HNE.out ad had e)).more t1.size, fun _ => HNE.out⟩, by rw [Int.toNat_natCast]; exact B3.out.set_ k _⟩⟩
  · by_cases h0 : a0 = n
    · have d0 : (a0 == n) = true := by rw [h0]; exact beq_self_eq_true _
      by_cases h1 : 0 ≤ a1
      · have d1 : decide ((0 : Int) ≤ a1) = true := decide_eq_true h1
        have d2 : decide (a1 < (4 : Int)) = false := decide_eq_false (by omega)
        have HI := hide hin
        clear hin h0 h1
        go_enter Try.func21, Try.ntmps21
        go_wp2_with (fail)
        go_quiet (fail)
        go_wp2_with (fail)
        exact bodyPost_end (by simp [results, Try.results21, go_sem]) rfl ⟨rfl, (Touch.of_below X1.out _).drewN nq, .inl ⟨HI.out, B1.out.drewN nq⟩⟩
      · have d1 : decide ((0 : Int) ≤ a1) = false := decide_eq_false h1
        have HI := hide hin
        clear hin h0 h1
        go_enter Try.func21, Try.ntmps21
        go_wp2_with (fail)
        go_quiet (fail)
        go_wp2_with (fail)
        exact bodyPost_end (by simp [results, Try.results21, go_sem]) rfl ⟨rfl, (Touch.of_below X1.out _).drewN nq, .inl ⟨HI.out, B1.out.drewN nq⟩⟩
    · have d0 : (a0 == n) = false := by simpa using h0
      have HI := hide hin
      clear hin h0
      go_enter Try.func21, Try.ntmps21
      go_wp2_with (fail)
      go_quiet (fail)
      go_wp2_with (fail)
      exact bodyPost_end (by simp [results, Try.results21, go_sem]) rfl ⟨rfl, (Touch.of_below X1.out _).drewN nq, .inl ⟨HI.out, B1.out.drewN nq⟩⟩
end Go.Proofs.Ytaagdjipjeindaa
