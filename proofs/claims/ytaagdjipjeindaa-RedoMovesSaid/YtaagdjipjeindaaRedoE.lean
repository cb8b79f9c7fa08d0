/- Redo: contracts: Apply. -/
import Derived.Test.YtaagdjipjeindaaRedoG
import Derived.Deep.Cut
import Derived.Deep.DeepCutAuto
import Derived.Deep.CutBlock
namespace Go.Proofs.Ytaagdjipjeindaa
open Go.ChangeShapes Go.WideShapes Go.ChangeAt Go.RowKit
set_option linter.unusedVariables false

set_option maxRecDepth 100000 in
set_option maxHeartbeats 8000000 in
theorem apply_any (w : World) (ls n lsn : Int) (L0 L1 L2 L3 : List UInt8) (A0 A1 A2 A3 : Option Addr) (c0 c1 c2 c3 : Nat) (hA0 : CapOk A0 c0 L0.length) (hA1 : CapOk A1 c1 L1.length) (hA2 : CapOk A2 c2 L2.length) (hA3 : CapOk A3 c3 L3.length)
    (hR0 : Reads w w.heap.size 1 A0 L0.length (bv L0)) (hR1 : Reads w w.heap.size 1 A1 L1.length (bv L1)) (hR2 : Reads w w.heap.size 1 A2 L2.length (bv L2)) (hR3 : Reads w w.heap.size 1 A3 L3.length (bv L3)) (hL : L0.length ≤ 1000 ∧ L1.length ≤ 1000 ∧ L2.length ≤ 1000 ∧ L3.length ≤ 1000)
    (kind a0 a1 b0 b1 t u h p nx : Int) (AN : Option Addr) (cN : Nat) (NL : List UInt8) (AO : Option Addr) (nO cO : Nat) (AM : Option Addr) (cM : Nat) (mv : List Mv) (A13 A14 A15 : Option Addr) (n13 c13 n14 c14 n15 c15 : Nat)
    (f : Nat → List UInt8) (hf : f 0 = L0 ∧ f 1 = L1 ∧ f 2 = L2 ∧ f 3 = L3) (hAN : CapOk AN cN NL.length) (hRN : Reads w w.heap.size 1 AN NL.length (bv NL)) (hNL : NL.length ≤ 1000) (hRM : Reads w w.heap.size 4 AM mv.length (mvs mv)) (hml : mv.length ≤ 1000) :
    Calls Try.prog 9 #[.agg #[.slice A0 L0.length c0, .slice A1 L1.length c1, .slice A2 L2.length c2, .slice A3 L3.length c3, .int .i64 ls], .int .i64 n, env kind a0 a1 b0 b1 t u h p nx (.slice AO nO cO) (.slice AN NL.length cN) (.slice AM mv.length cM) (.slice A13 n13 c13) (.slice A14 n14 c14) (.slice A15 n15 c15), .int .i64 lsn] w (GivesP w (if actsP ls n kind a0 b0 lsn mv then paintF kind a0 a1 b0 b1 n NL mv f else f) (if actsP ls n kind a0 b0 lsn mv then lsn else ls) (decide (actsP ls n kind a0 b0 lsn mv))) := by
  have HL := hide hL
  simp only [env]
  go_enter Try.func9, Try.ntmps9
  go_upto_block 0 with (fail)
  obtain ⟨w1, hw1⟩ : ∃ w1, w1 = (((w.alloc (.cells #[.slice A0 L0.length c0, .slice A1 L1.length c1, .slice A2 L2.length c2, .slice A3 L3.length c3, .int .i64 ls] 35)).alloc (.cells #[.int .i64 kind, .int .i64 t, .int .i64 u, .int .i64 h, .int .i64 p, .int .i64 nx, .int .i64 a0, .int .i64 a1, .int .i64 b0, .int .i64 b1, .slice AO nO cO, .slice AN NL.length cN, .slice AM mv.length cM, .slice A13 n13 c13, .slice A14 n14 c14, .slice A15 n15 c15] 31)).alloc (.cells #[.slice none 0 0, .slice none 0 0, .slice none 0 0, .slice none 0 0, .int .i64 0] 35)).alloc (.cells #[.slice A0 L0.length c0, .slice A1 L1.length c1, .slice A2 L2.length c2, .slice A3 L3.length c3, .int .i64 ls, .int .i64 n] 62) := ⟨_, rfl⟩
  have X1 := hide (show Ext w w1 by rw [hw1]; exact ((((Ext.refl w).alloc _).alloc _).alloc _).alloc _)
  have s1 : (w.alloc (.cells #[.slice A0 L0.length c0, .slice A1 L1.length c1, .slice A2 L2.length c2, .slice A3 L3.length c3, .int .i64 ls] 35)).heap.size = w.heap.size + 1 := by simp
  have s2 : ((w.alloc (.cells #[.slice A0 L0.length c0, .slice A1 L1.length c1, .slice A2 L2.length c2, .slice A3 L3.length c3, .int .i64 ls] 35)).alloc (.cells #[.int .i64 kind, .int .i64 t, .int .i64 u, .int .i64 h, .int .i64 p, .int .i64 nx, .int .i64 a0, .int .i64 a1, .int .i64 b0, .int .i64 b1, .slice AO nO cO, .slice AN NL.length cN, .slice AM mv.length cM, .slice A13 n13 c13, .slice A14 n14 c14, .slice A15 n15 c15] 31)).heap.size = w.heap.size + 1 + 1 := by simp
  have s3 : (((w.alloc (.cells #[.slice A0 L0.length c0, .slice A1 L1.length c1, .slice A2 L2.length c2, .slice A3 L3.length c3, .int .i64 ls] 35)).alloc (.cells #[.int .i64 kind, .int .i64 t, .int .i64 u, .int .i64 h, .int .i64 p, .int .i64 nx, .int .i64 a0, .int .i64 a1, .int .i64 b0, .int .i64 b1, .slice AO nO cO, .slice AN NL.length cN, .slice AM mv.length cM, .slice A13 n13 c13, .slice A14 n14 c14, .slice A15 n15 c15] 31)).alloc (.cells #[.slice none 0 0, .slice none 0 0, .slice none 0 0, .slice none 0 0, .int .i64 0] 35)).heap.size = w.heap.size + 1 + 1 + 1 := by simp
  have BP := hide (show Blk w1 w.heap.size 35 #[.slice A0 L0.length c0, .slice A1 L1.length c1, .slice A2 L2.length c2, .slice A3 L3.length c3, .int .i64 ls] by rw [hw1]; exact ((((Blk.new w 35 #[.slice A0 L0.length c0, .slice A1 L1.length c1, .slice A2 L2.length c2, .slice A3 L3.length c3, .int .i64 ls]).alloc _).alloc _).alloc _))
  have BE := hide (show Blk w1 (w.heap.size + 1) 31 #[.int .i64 kind, .int .i64 t, .int .i64 u, .int .i64 h, .int .i64 p, .int .i64 nx, .int .i64 a0, .int .i64 a1, .int .i64 b0, .int .i64 b1, .slice AO nO cO, .slice AN NL.length cN, .slice AM mv.length cM, .slice A13 n13 c13, .slice A14 n14 c14, .slice A15 n15 c15] by rw [hw1, ← s1]; exact ((Blk.new _ 31 #[.int .i64 kind, .int .i64 t, .int .i64 u, .int .i64 h, .int .i64 p, .int .i64 nx, .int .i64 a0, .int .i64 a1, .int .i64 b0, .int .i64 b1, .slice AO nO cO, .slice AN NL.length cN, .slice AM mv.length cM, .slice A13 n13 c13, .slice A14 n14 c14, .slice A15 n15 c15]).alloc _).alloc _)
  have BR := hide (show Blk w1 (w.heap.size + 1 + 1) 35 #[.slice none 0 0, .slice none 0 0, .slice none 0 0, .slice none 0 0, .int .i64 0] by rw [hw1, ← s2]; exact (Blk.new _ 35 #[.slice none 0 0, .slice none 0 0, .slice none 0 0, .slice none 0 0, .int .i64 0]).alloc _)
  have BX := hide (show Blk w1 (w.heap.size + 1 + 1 + 1) 62 #[.slice A0 L0.length c0, .slice A1 L1.length c1, .slice A2 L2.length c2, .slice A3 L3.length c3, .int .i64 ls, .int .i64 n] by rw [hw1, ← s3]; exact Blk.new _ 62 #[.slice A0 L0.length c0, .slice A1 L1.length c1, .slice A2 L2.length c2, .slice A3 L3.length c3, .int .i64 ls, .int .i64 n])
  clear s1 s2 s3
  have hbb : ∀ {A : Option Addr} {c : Nat} {l : List UInt8}, CapOk A c l.length → Reads w w.heap.size 1 A l.length (bv l) → BBx w1 (w.heap.size + 1 + 1 + 1) (.slice A l.length c) l := fun {A c l} hA hr =>
    ⟨A, c, rfl, hA, X1.out.read hr, fun hne ad had e => by
      obtain ⟨ad', e', hlt, _⟩ := hr.2 (List.length_pos_iff.2 hne)
      rw [had] at e'
      injection e' with e'
      subst e'
      omega⟩
  have Q0 := hide (hbb hA0 hR0)
  have Q1 := hide (hbb hA1 hR1)
  have Q2 := hide (hbb hA2 hR2)
  have Q3 := hide (hbb hA3 hR3)
  have QN := hide (show BB w (.slice AN NL.length cN) NL from ⟨AN, cN, rfl, hAN, hRN⟩)
  have HRM := hide hRM
  have HML := hide (And.intro hml hNL)
  have hA0 := hide hA0
  have hA1 := hide hA1
  have hA2 := hide hA2
  have hA3 := hide hA3
  obtain ⟨xb, hxb⟩ : ∃ xb, xb = w.heap.size + 1 + 1 + 1 := ⟨_, rfl⟩
  obtain ⟨rb, hrb⟩ : ∃ rb, rb = w.heap.size + 1 + 1 := ⟨_, rfl⟩
  obtain ⟨eb, heb⟩ : ∃ eb, eb = w.heap.size + 1 := ⟨_, rfl⟩
  obtain ⟨pb, hpb⟩ : ∃ pb, pb = w.heap.size := ⟨_, rfl⟩
  rw [← hw1, ← hxb, ← hrb, ← heb, ← hpb]
  rw [← hxb] at Q0 Q1 Q2 Q3 BX
  rw [← hrb] at BR
  rw [← heb] at BE
  rw [← hpb] at BP
  have hlt : pb < xb ∧ eb < xb ∧ rb < xb ∧ eb ≠ rb ∧ pb ≠ rb := by omega
  have HLT := hide hlt
  have HGE := hide (show w.heap.size ≤ xb ∧ w.heap.size ≤ rb by omega)
  clear hbb hR0 hR1 hR2 hR3 hAN hRN hRM hml hNL hw1 hxb hrb heb hpb hlt
  obtain ⟨F0, F1, F2, F3⟩ := hf
  have HF := hide (And.intro F0 (And.intro F1 (And.intro F2 F3)))
  have P1 := hide (show PgB w1 xb f ls n from ⟨_, _, _, _, BX.out, by rw [F0]; exact Q0.out, by rw [F1]; exact Q1.out, by rw [F2]; exact Q2.out, by rw [F3]; exact Q3.out⟩)
  clear F0 F1 F2 F3 BX
  go_wp2_with (fail)
  go_loopw [11, 12, 23] (fun _ _ s23 wr => ∃ i : Nat, i ≤ 4 ∧ s23 = .int .i64 i ∧ Hid (PgB wr xb f ls n ∧ Touch w1 wr (fun a => a = xb))) (fun _ _ s23 _ => (4 - intOf s23).toNat)
  case atStart => exact ⟨0, by omega, rfl, P1.out, Touch.refl _ _⟩
  case round =>
    obtain ⟨i, hi, rfl, hs⟩ := hrel
    obtain ⟨u0, u1, u2, u3, hbx, q0, q1, q2, q3⟩ := hs.out.1
    have HT := hide hs.out.2
    have HBX := hide hbx
    rw [HF.out.1] at q0
    rw [HF.out.2.1] at q1
    rw [HF.out.2.2.1] at q2
    rw [HF.out.2.2.2] at q3
    have HU0 := hide q0
    have HU1 := hide q1
    have HU2 := hide q2
    have HU3 := hide q3
    have hxl : xb < wr.heap.size := hbx.lt
    have HLL := hide (show L0.length ≤ 1000 ∧ L1.length ≤ 1000 ∧ L2.length ≤ 1000 ∧ L3.length ≤ 1000 from HL.out)
    clear hs hbx q0 q1 q2 q3
    by_cases hlt : i < 4
    · rcases (show i = 0 ∨ i = 1 ∨ i = 2 ∨ i = 3 by omega) with e | e | e | e <;> subst e
      · have R0 := hide ((Q0.out.touch HT.out).read)
        have ix : ∀ w : World, (Instr.index 33 (.agg #[.slice A0 L0.length c0, .slice A1 L1.length c1, .slice A2 L2.length c2, .slice A3 L3.length c3]) (.int .i64 0)).run Try.prog w = .ok (.slice A0 L0.length c0) w := fun _ => by kernel_rfl
        go_upto_region 5 with (fail)
        clear ix
        refine wp_region_F (S := fun _ => True) 8 (by kernel_rfl) (by kernel_rfl) trivial (fun hHeld => ?_)
        refine GoF.take 0 (some 27) (v := ?_) rfl rfl (by kernel_rfl) (by kernel_rfl) (by kernel_rfl) (fun _ _ _ h => h) (Or.inl ⟨by rfl, ?_⟩) (by assumption) ?_
        rotate_left
        · intro w' hSw
          try dsimp only at hSw
          go_simp
          try with_reducible rfl
        try simp only [Act.put, List.setIfInBounds_toArray, List.set_cons_zero, List.set_cons_succ]
        refine GoF.take 1 (some 28) (v := ?_) rfl rfl (by kernel_rfl) (by kernel_rfl) (by kernel_rfl) (fun _ _ _ h => h) (Or.inl ⟨by rfl, ?_⟩) (by assumption) ?_
        rotate_left
        · intro w' hSw
          try dsimp only at hSw
          go_simp
          try with_reducible rfl
        try simp only [Act.put, List.setIfInBounds_toArray, List.set_cons_zero, List.set_cons_succ]
        refine GoF.take 2 (some 29) (v := ?_) rfl rfl (by kernel_rfl) (by kernel_rfl) (by kernel_rfl) (fun _ _ _ h => h) (Or.inl ⟨by rfl, ?_⟩) (by assumption) ?_
        rotate_left
        · intro w' hSw
          try dsimp only at hSw
          go_simp
          try with_reducible rfl
        try simp only [Act.put, List.setIfInBounds_toArray, List.set_cons_zero, List.set_cons_succ]
        refine GoF.take 4 (some 31) (v := ?_) rfl rfl (by kernel_rfl) (by kernel_rfl) (by kernel_rfl) (fun _ _ _ h => h) (Or.inl ⟨by rfl, ?_⟩) (by assumption) ?_
        rotate_left
        · intro w' hSw
          try dsimp only at hSw
          go_simp
          try with_reducible rfl
        try simp only [Act.put, List.setIfInBounds_toArray, List.set_cons_zero, List.set_cons_succ]
        refine GoF.take 5 (some 32) (v := ?_) rfl rfl (by kernel_rfl) (by kernel_rfl) (by kernel_rfl) (fun _ _ _ h => h) (Or.inl ⟨by rfl, ?_⟩) (by assumption) ?_
        rotate_left
        · intro w' hSw
          try dsimp only at hSw
          go_simp
          try with_reducible rfl
        try simp only [Act.put, List.setIfInBounds_toArray, List.set_cons_zero, List.set_cons_succ]
        refine GoF.take 6 (some 33) (v := ?_) rfl rfl (by kernel_rfl) (by kernel_rfl) (by kernel_rfl) (fun _ _ _ h => h) (Or.inl ⟨by rfl, ?_⟩) (by assumption) ?_
        rotate_left
        · intro w' hSw
          try dsimp only at hSw
          go_simp
          try with_reducible rfl
        try simp only [Act.put, List.setIfInBounds_toArray, List.set_cons_zero, List.set_cons_succ]
        refine GoF.each (rs := [3]) (by kernel_rfl) (by kernel_rfl) (by kernel_rfl) ?_
        refine EachF.cons (i := 3) rfl (fun K hK => ?_) EachF.nil
        go_simp
        refine (clone_any A0 c0 L0 wr.drew (hA0.out) (Ext.read (Ext.drew (Ext.refl wr)) R0.out) (by have := HLL.out; omega)).mono ?_
        rintro e w3 ⟨A', c', rfl, hA', hB', hr', x3⟩
        have X3 := hide (show Ext wr w3 from (Ext.drew (Ext.refl wr)).trans x3)
        have HNE := hide (show ∀ ad : Addr, A' = some ad → ad.block ≠ xb from fun ad h e => by have h1 : wr.heap.size ≤ ad.block := hB' ad h; have := hxl; omega)
        have BN := hide (show BBx w3 xb (.slice A' L0.length c') L0 from ⟨A', c', rfl, hA', hr', fun _ => HNE.out⟩)
        have HB3 := hide (X3.out.blk HBX.out)
        clear hA' hB' hr' x3
        try go_simp
        refine hK.out _ _ trivial (fun hHeld => ?_)
        clear hK K
        try simp only [Act.put, List.setIfInBounds_toArray, List.set_cons_zero, List.set_cons_succ]
        refine GoF.take 7 (some 34) (v := ?_) rfl rfl (by kernel_rfl) (by kernel_rfl) (by kernel_rfl) (fun _ _ _ h => h) (Or.inl ⟨by rfl, ?_⟩) (by assumption) ?_
        rotate_left
        · intro w' hSw
          try dsimp only at hSw
          go_simp
          try with_reducible rfl
        try simp only [Act.put, List.setIfInBounds_toArray, List.set_cons_zero, List.set_cons_succ]
        refine GoF.last (by kernel_rfl) (by kernel_rfl) rfl (fun K hK => ?_)
        have y3 := HB3.out.cell 0
        have z3 := HB3.out.frozen 0
        simp at y3
        clear hHeld
        go_simp
        refine hK.out _ _ ?_
        clear hK K
        go_wp2_with (fail)
        have t1 : Touch w3 (w3.setCell ⟨xb, 0, none⟩ (.slice A' L0.length c')) (fun a => a = xb) := Touch.setCell (F := fun a => a = xb) (p := ⟨xb, 0, none⟩) (Touch.refl w3 _) (fun _ => rfl) _
        have b1 := HB3.out.set_ 0 (.slice A' L0.length c')
        simp only [List.setIfInBounds_toArray, List.set_cons_zero] at b1
        have h0 := HU0.out
        have h1 := HU1.out
        have h2 := HU2.out
        have h3 := HU3.out
        go_roundw
        case rel => exact ⟨0 + 1, by omega, rfl, PgB.of HF b1 (BN.out.touch t1) ((h1.ext X3.out).touch t1) ((h2.ext X3.out).touch t1) ((h3.ext X3.out).touch t1), (HT.out.trans (Touch.of_below X3.out (fun a => a = xb)) (fun _ _ h => h)).trans t1 (fun _ _ h => h)⟩
        case measure => simp [intOf]
      · have R1 := hide ((Q1.out.touch HT.out).read)
        have ix : ∀ w : World, (Instr.index 33 (.agg #[.slice A0 L0.length c0, .slice A1 L1.length c1, .slice A2 L2.length c2, .slice A3 L3.length c3]) (.int .i64 1)).run Try.prog w = .ok (.slice A1 L1.length c1) w := fun _ => by kernel_rfl
        go_upto_region 5 with (fail)
        clear ix
        refine wp_region_F (S := fun _ => True) 8 (by kernel_rfl) (by kernel_rfl) trivial (fun hHeld => ?_)
        refine GoF.take 0 (some 27) (v := ?_) rfl rfl (by kernel_rfl) (by kernel_rfl) (by kernel_rfl) (fun _ _ _ h => h) (Or.inl ⟨by rfl, ?_⟩) (by assumption) ?_
        rotate_left
        · intro w' hSw
          try dsimp only at hSw
          go_simp
          try with_reducible rfl
        try simp only [Act.put, List.setIfInBounds_toArray, List.set_cons_zero, List.set_cons_succ]
        refine GoF.take 1 (some 28) (v := ?_) rfl rfl (by kernel_rfl) (by kernel_rfl) (by kernel_rfl) (fun _ _ _ h => h) (Or.inl ⟨by rfl, ?_⟩) (by assumption) ?_
        rotate_left
        · intro w' hSw
          try dsimp only at hSw
          go_simp
          try with_reducible rfl
        try simp only [Act.put, List.setIfInBounds_toArray, List.set_cons_zero, List.set_cons_succ]
        refine GoF.take 2 (some 29) (v := ?_) rfl rfl (by kernel_rfl) (by kernel_rfl) (by kernel_rfl) (fun _ _ _ h => h) (Or.inl ⟨by rfl, ?_⟩) (by assumption) ?_
        rotate_left
        · intro w' hSw
          try dsimp only at hSw
          go_simp
          try with_reducible rfl
        try simp only [Act.put, List.setIfInBounds_toArray, List.set_cons_zero, List.set_cons_succ]
        refine GoF.take 4 (some 31) (v := ?_) rfl rfl (by kernel_rfl) (by kernel_rfl) (by kernel_rfl) (fun _ _ _ h => h) (Or.inl ⟨by rfl, ?_⟩) (by assumption) ?_
        rotate_left
        · intro w' hSw
          try dsimp only at hSw
          go_simp
          try with_reducible rfl
        try simp only [Act.put, List.setIfInBounds_toArray, List.set_cons_zero, List.set_cons_succ]
        refine GoF.take 5 (some 32) (v := ?_) rfl rfl (by kernel_rfl) (by kernel_rfl) (by kernel_rfl) (fun _ _ _ h => h) (Or.inl ⟨by rfl, ?_⟩) (by assumption) ?_
        rotate_left
        · intro w' hSw
          try dsimp only at hSw
          go_simp
          try with_reducible rfl
        try simp only [Act.put, List.setIfInBounds_toArray, List.set_cons_zero, List.set_cons_succ]
        refine GoF.take 6 (some 33) (v := ?_) rfl rfl (by kernel_rfl) (by kernel_rfl) (by kernel_rfl) (fun _ _ _ h => h) (Or.inl ⟨by rfl, ?_⟩) (by assumption) ?_
        rotate_left
        · intro w' hSw
          try dsimp only at hSw
          go_simp
          try with_reducible rfl
        try simp only [Act.put, List.setIfInBounds_toArray, List.set_cons_zero, List.set_cons_succ]
        refine GoF.each (rs := [3]) (by kernel_rfl) (by kernel_rfl) (by kernel_rfl) ?_
        refine EachF.cons (i := 3) rfl (fun K hK => ?_) EachF.nil
        go_simp
        refine (clone_any A1 c1 L1 wr.drew (hA1.out) (Ext.read (Ext.drew (Ext.refl wr)) R1.out) (by have := HLL.out; omega)).mono ?_
        rintro e w3 ⟨A', c', rfl, hA', hB', hr', x3⟩
        have X3 := hide (show Ext wr w3 from (Ext.drew (Ext.refl wr)).trans x3)
        have HNE := hide (show ∀ ad : Addr, A' = some ad → ad.block ≠ xb from fun ad h e => by have h1 : wr.heap.size ≤ ad.block := hB' ad h; have := hxl; omega)
        have BN := hide (show BBx w3 xb (.slice A' L1.length c') L1 from ⟨A', c', rfl, hA', hr', fun _ => HNE.out⟩)
        have HB3 := hide (X3.out.blk HBX.out)
        clear hA' hB' hr' x3
        try go_simp
        refine hK.out _ _ trivial (fun hHeld => ?_)
        clear hK K
        try simp only [Act.put, List.setIfInBounds_toArray, List.set_cons_zero, List.set_cons_succ]
        refine GoF.take 7 (some 34) (v := ?_) rfl rfl (by kernel_rfl) (by kernel_rfl) (by kernel_rfl) (fun _ _ _ h => h) (Or.inl ⟨by rfl, ?_⟩) (by assumption) ?_
        rotate_left
        · intro w' hSw
          try dsimp only at hSw
          go_simp
          try with_reducible rfl
        try simp only [Act.put, List.setIfInBounds_toArray, List.set_cons_zero, List.set_cons_succ]
        refine GoF.last (by kernel_rfl) (by kernel_rfl) rfl (fun K hK => ?_)
        have y3 := HB3.out.cell 1
        have z3 := HB3.out.frozen 1
        simp at y3
        clear hHeld
        go_simp
        refine hK.out _ _ ?_
        clear hK K
        go_wp2_with (fail)
        have t1 : Touch w3 (w3.setCell ⟨xb, 1, none⟩ (.slice A' L1.length c')) (fun a => a = xb) := Touch.setCell (F := fun a => a = xb) (p := ⟨xb, 1, none⟩) (Touch.refl w3 _) (fun _ => rfl) _
        have b1 := HB3.out.set_ 1 (.slice A' L1.length c')
        simp only [List.setIfInBounds_toArray, List.set_cons_zero, List.set_cons_succ] at b1
        have h0 := HU0.out
        have h1 := HU1.out
        have h2 := HU2.out
        have h3 := HU3.out
        go_roundw
        case rel => exact ⟨1 + 1, by omega, rfl, PgB.of HF b1 ((h0.ext X3.out).touch t1) (BN.out.touch t1) ((h2.ext X3.out).touch t1) ((h3.ext X3.out).touch t1), (HT.out.trans (Touch.of_below X3.out (fun a => a = xb)) (fun _ _ h => h)).trans t1 (fun _ _ h => h)⟩
        case measure => simp [intOf]
      · have R2 := hide ((Q2.out.touch HT.out).read)
        have ix : ∀ w : World, (Instr.index 33 (.agg #[.slice A0 L0.length c0, .slice A1 L1.length c1, .slice A2 L2.length c2, .slice A3 L3.length c3]) (.int .i64 2)).run Try.prog w = .ok (.slice A2 L2.length c2) w := fun _ => by kernel_rfl
        go_upto_region 5 with (fail)
        clear ix
        refine wp_region_F (S := fun _ => True) 8 (by kernel_rfl) (by kernel_rfl) trivial (fun hHeld => ?_)
        refine GoF.take 0 (some 27) (v := ?_) rfl rfl (by kernel_rfl) (by kernel_rfl) (by kernel_rfl) (fun _ _ _ h => h) (Or.inl ⟨by rfl, ?_⟩) (by assumption) ?_
        rotate_left
        · intro w' hSw
          try dsimp only at hSw
          go_simp
          try with_reducible rfl
        try simp only [Act.put, List.setIfInBounds_toArray, List.set_cons_zero, List.set_cons_succ]
        refine GoF.take 1 (some 28) (v := ?_) rfl rfl (by kernel_rfl) (by kernel_rfl) (by kernel_rfl) (fun _ _ _ h => h) (Or.inl ⟨by rfl, ?_⟩) (by assumption) ?_
        rotate_left
        · intro w' hSw
          try dsimp only at hSw
          go_simp
          try with_reducible rfl
        try simp only [Act.put, List.setIfInBounds_toArray, List.set_cons_zero, List.set_cons_succ]
        refine GoF.take 2 (some 29) (v := ?_) rfl rfl (by kernel_rfl) (by kernel_rfl) (by kernel_rfl) (fun _ _ _ h => h) (Or.inl ⟨by rfl, ?_⟩) (by assumption) ?_
        rotate_left
        · intro w' hSw
          try dsimp only at hSw
          go_simp
          try with_reducible rfl
        try simp only [Act.put, List.setIfInBounds_toArray, List.set_cons_zero, List.set_cons_succ]
        refine GoF.take 4 (some 31) (v := ?_) rfl rfl (by kernel_rfl) (by kernel_rfl) (by kernel_rfl) (fun _ _ _ h => h) (Or.inl ⟨by rfl, ?_⟩) (by assumption) ?_
        rotate_left
        · intro w' hSw
          try dsimp only at hSw
          go_simp
          try with_reducible rfl
        try simp only [Act.put, List.setIfInBounds_toArray, List.set_cons_zero, List.set_cons_succ]
        refine GoF.take 5 (some 32) (v := ?_) rfl rfl (by kernel_rfl) (by kernel_rfl) (by kernel_rfl) (fun _ _ _ h => h) (Or.inl ⟨by rfl, ?_⟩) (by assumption) ?_
        rotate_left
        · intro w' hSw
          try dsimp only at hSw
          go_simp
          try with_reducible rfl
        try simp only [Act.put, List.setIfInBounds_toArray, List.set_cons_zero, List.set_cons_succ]
        refine GoF.take 6 (some 33) (v := ?_) rfl rfl (by kernel_rfl) (by kernel_rfl) (by kernel_rfl) (fun _ _ _ h => h) (Or.inl ⟨by rfl, ?_⟩) (by assumption) ?_
        rotate_left
        · intro w' hSw
          try dsimp only at hSw
          go_simp
          try with_reducible rfl
        try simp only [Act.put, List.setIfInBounds_toArray, List.set_cons_zero, List.set_cons_succ]
        refine GoF.each (rs := [3]) (by kernel_rfl) (by kernel_rfl) (by kernel_rfl) ?_
        refine EachF.cons (i := 3) rfl (fun K hK => ?_) EachF.nil
        go_simp
        refine (clone_any A2 c2 L2 wr.drew (hA2.out) (Ext.read (Ext.drew (Ext.refl wr)) R2.out) (by have := HLL.out; omega)).mono ?_
        rintro e w3 ⟨A', c', rfl, hA', hB', hr', x3⟩
        have X3 := hide (show Ext wr w3 from (Ext.drew (Ext.refl wr)).trans x3)
        have HNE := hide (show ∀ ad : Addr, A' = some ad → ad.block ≠ xb from fun ad h e => by have h1 : wr.heap.size ≤ ad.block := hB' ad h; have := hxl; omega)
        have BN := hide (show BBx w3 xb (.slice A' L2.length c') L2 from ⟨A', c', rfl, hA', hr', fun _ => HNE.out⟩)
        have HB3 := hide (X3.out.blk HBX.out)
        clear hA' hB' hr' x3
        try go_simp
        refine hK.out _ _ trivial (fun hHeld => ?_)
        clear hK K
        try simp only [Act.put, List.setIfInBounds_toArray, List.set_cons_zero, List.set_cons_succ]
        refine GoF.take 7 (some 34) (v := ?_) rfl rfl (by kernel_rfl) (by kernel_rfl) (by kernel_rfl) (fun _ _ _ h => h) (Or.inl ⟨by rfl, ?_⟩) (by assumption) ?_
        rotate_left
        · intro w' hSw
          try dsimp only at hSw
          go_simp
          try with_reducible rfl
        try simp only [Act.put, List.setIfInBounds_toArray, List.set_cons_zero, List.set_cons_succ]
        refine GoF.last (by kernel_rfl) (by kernel_rfl) rfl (fun K hK => ?_)
        have y3 := HB3.out.cell 2
        have z3 := HB3.out.frozen 2
        simp at y3
        clear hHeld
        go_simp
        refine hK.out _ _ ?_
        clear hK K
        go_wp2_with (fail)
        have t1 : Touch w3 (w3.setCell ⟨xb, 2, none⟩ (.slice A' L2.length c')) (fun a => a = xb) := Touch.setCell (F := fun a => a = xb) (p := ⟨xb, 2, none⟩) (Touch.refl w3 _) (fun _ => rfl) _
        have b1 := HB3.out.set_ 2 (.slice A' L2.length c')
        simp only [List.setIfInBounds_toArray, List.set_cons_zero, List.set_cons_succ] at b1
        have h0 := HU0.out
        have h1 := HU1.out
        have h2 := HU2.out
        have h3 := HU3.out
        go_roundw
        case rel => exact ⟨2 + 1, by omega, rfl, PgB.of HF b1 ((h0.ext X3.out).touch t1) ((h1.ext X3.out).touch t1) (BN.out.touch t1) ((h3.ext X3.out).touch t1), (HT.out.trans (Touch.of_below X3.out (fun a => a = xb)) (fun _ _ h => h)).trans t1 (fun _ _ h => h)⟩
        case measure => simp [intOf]
      · have R3 := hide ((Q3.out.touch HT.out).read)
        have ix : ∀ w : World, (Instr.index 33 (.agg #[.slice A0 L0.length c0, .slice A1 L1.length c1, .slice A2 L2.length c2, .slice A3 L3.length c3]) (.int .i64 3)).run Try.prog w = .ok (.slice A3 L3.length c3) w := fun _ => by kernel_rfl
        go_upto_region 5 with (fail)
        clear ix
        refine wp_region_F (S := fun _ => True) 8 (by kernel_rfl) (by kernel_rfl) trivial (fun hHeld => ?_)
        refine GoF.take 0 (some 27) (v := ?_) rfl rfl (by kernel_rfl) (by kernel_rfl) (by kernel_rfl) (fun _ _ _ h => h) (Or.inl ⟨by rfl, ?_⟩) (by assumption) ?_
        rotate_left
        · intro w' hSw
          try dsimp only at hSw
          go_simp
          try with_reducible rfl
        try simp only [Act.put, List.setIfInBounds_toArray, List.set_cons_zero, List.set_cons_succ]
        refine GoF.take 1 (some 28) (v := ?_) rfl rfl (by kernel_rfl) (by kernel_rfl) (by kernel_rfl) (fun _ _ _ h => h) (Or.inl ⟨by rfl, ?_⟩) (by assumption) ?_
        rotate_left
        · intro w' hSw
          try dsimp only at hSw
          go_simp
          try with_reducible rfl
        try simp only [Act.put, List.setIfInBounds_toArray, List.set_cons_zero, List.set_cons_succ]
        refine GoF.take 2 (some 29) (v := ?_) rfl rfl (by kernel_rfl) (by kernel_rfl) (by kernel_rfl) (fun _ _ _ h => h) (Or.inl ⟨by rfl, ?_⟩) (by assumption) ?_
        rotate_left
        · intro w' hSw
          try dsimp only at hSw
          go_simp
          try with_reducible rfl
        try simp only [Act.put, List.setIfInBounds_toArray, List.set_cons_zero, List.set_cons_succ]
        refine GoF.take 4 (some 31) (v := ?_) rfl rfl (by kernel_rfl) (by kernel_rfl) (by kernel_rfl) (fun _ _ _ h => h) (Or.inl ⟨by rfl, ?_⟩) (by assumption) ?_
        rotate_left
        · intro w' hSw
          try dsimp only at hSw
          go_simp
          try with_reducible rfl
        try simp only [Act.put, List.setIfInBounds_toArray, List.set_cons_zero, List.set_cons_succ]
        refine GoF.take 5 (some 32) (v := ?_) rfl rfl (by kernel_rfl) (by kernel_rfl) (by kernel_rfl) (fun _ _ _ h => h) (Or.inl ⟨by rfl, ?_⟩) (by assumption) ?_
        rotate_left
        · intro w' hSw
          try dsimp only at hSw
          go_simp
          try with_reducible rfl
        try simp only [Act.put, List.setIfInBounds_toArray, List.set_cons_zero, List.set_cons_succ]
        refine GoF.take 6 (some 33) (v := ?_) rfl rfl (by kernel_rfl) (by kernel_rfl) (by kernel_rfl) (fun _ _ _ h => h) (Or.inl ⟨by rfl, ?_⟩) (by assumption) ?_
        rotate_left
        · intro w' hSw
          try dsimp only at hSw
          go_simp
          try with_reducible rfl
        try simp only [Act.put, List.setIfInBounds_toArray, List.set_cons_zero, List.set_cons_succ]
        refine GoF.each (rs := [3]) (by kernel_rfl) (by kernel_rfl) (by kernel_rfl) ?_
        refine EachF.cons (i := 3) rfl (fun K hK => ?_) EachF.nil
        go_simp
        refine (clone_any A3 c3 L3 wr.drew (hA3.out) (Ext.read (Ext.drew (Ext.refl wr)) R3.out) (by have := HLL.out; omega)).mono ?_
        rintro e w3 ⟨A', c', rfl, hA', hB', hr', x3⟩
        have X3 := hide (show Ext wr w3 from (Ext.drew (Ext.refl wr)).trans x3)
        have HNE := hide (show ∀ ad : Addr, A' = some ad → ad.block ≠ xb from fun ad h e => by have h1 : wr.heap.size ≤ ad.block := hB' ad h; have := hxl; omega)
        have BN := hide (show BBx w3 xb (.slice A' L3.length c') L3 from ⟨A', c', rfl, hA', hr', fun _ => HNE.out⟩)
        have HB3 := hide (X3.out.blk HBX.out)
        clear hA' hB' hr' x3
        try go_simp
        refine hK.out _ _ trivial (fun hHeld => ?_)
        clear hK K
        try simp only [Act.put, List.setIfInBounds_toArray, List.set_cons_zero, List.set_cons_succ]
        refine GoF.take 7 (some 34) (v := ?_) rfl rfl (by kernel_rfl) (by kernel_rfl) (by kernel_rfl) (fun _ _ _ h => h) (Or.inl ⟨by rfl, ?_⟩) (by assumption) ?_
        rotate_left
        · intro w' hSw
          try dsimp only at hSw
          go_simp
          try with_reducible rfl
        try simp only [Act.put, List.setIfInBounds_toArray, List.set_cons_zero, List.set_cons_succ]
        refine GoF.last (by kernel_rfl) (by kernel_rfl) rfl (fun K hK => ?_)
        have y3 := HB3.out.cell 3
        have z3 := HB3.out.frozen 3
        simp at y3
        clear hHeld
        go_simp
        refine hK.out _ _ ?_
        clear hK K
        go_wp2_with (fail)
        have t1 : Touch w3 (w3.setCell ⟨xb, 3, none⟩ (.slice A' L3.length c')) (fun a => a = xb) := Touch.setCell (F := fun a => a = xb) (p := ⟨xb, 3, none⟩) (Touch.refl w3 _) (fun _ => rfl) _
        have b1 := HB3.out.set_ 3 (.slice A' L3.length c')
        simp only [List.setIfInBounds_toArray, List.set_cons_zero, List.set_cons_succ] at b1
        have h0 := HU0.out
        have h1 := HU1.out
        have h2 := HU2.out
        have h3 := HU3.out
        go_roundw
        case rel => exact ⟨3 + 1, by omega, rfl, PgB.of HF b1 ((h0.ext X3.out).touch t1) ((h1.ext X3.out).touch t1) ((h2.ext X3.out).touch t1) (BN.out.touch t1), (HT.out.trans (Touch.of_below X3.out (fun a => a = xb)) (fun _ _ h => h)).trans t1 (fun _ _ h => h)⟩
        case measure => simp [intOf]
    · obtain rfl : i = 4 := by omega
      obtain ⟨B0, d0, rfl⟩ := HU0.out.form
      obtain ⟨B1, d1, rfl⟩ := HU1.out.form
      obtain ⟨B2, d2, rfl⟩ := HU2.out.form
      obtain ⟨B3, d3, rfl⟩ := HU3.out.form
      have XW := hide (Touch.ext X1.out HT.out HGE.out.1)
      have BR2 := hide (HT.out.blk BR.out (by have := HLT.out; omega))
      have BE2 := hide (HT.out.blk BE.out (by have := HLT.out; omega))
      have BP2 := HT.out.blk BP.out (by have := HLT.out; omega)
      have yp := BP2.cell 4
      simp at yp
      clear BP2
      by_cases hle : lsn ≤ ls
      · have dle : decide (lsn ≤ ls) = true := decide_eq_true hle
        have HN := hide (show ¬ actsP ls n kind a0 b0 lsn mv from fun h => by have := h.1; omega)
        clear hle
        have HB2 := HBX
        have R2 := BR2.out
        have rf := R2.frozen
        obtain ⟨r0, r1, r2, r3, r4⟩ := R2.cells5
        obtain ⟨x0, x1, x2, x3, x4, x5⟩ := HB2.out.cells6
        have kz := R2.set5 (.slice B0 L0.length d0) (.slice B1 L1.length d1) (.slice B2 L2.length d2) (.slice B3 L3.length d3) (.int .i64 ls)
        obtain ⟨z0, z1, z2, z3, z4⟩ := kz.cells5
        clear R2 kz
        go_wp2_with (fail)
        exact bodyPost_ret (v := .tuple #[.agg #[.slice B0 L0.length d0, (.slice B1 L1.length d1), (.slice B2 L2.length d2), (.slice B3 L3.length d3), .int .i64 ls], .bool false]) (by simp [results, Try.results9, go_sem, z0, z1, z2, z3, z4]) rfl (by exact GivesP.of (F := f) (xb := xb) XW.out BR2.out HGE.out.2 (by rw [HF.out.1]; exact HU0.out) (by rw [HF.out.2.1]; exact HU1.out) (by rw [HF.out.2.2.1]; exact HU2.out) (by rw [HF.out.2.2.2]; exact HU3.out))
      · have dle : decide (lsn ≤ ls) = false := decide_eq_false hle
        have HLE := hide (show ls < lsn by omega)
        clear hle
        have HE := hide BE2.out.cells16
        obtain ⟨e0, e1, e2, e3, e4, e5, e6, e7, e8, e9, e10, e11, e12, e13, e14, e15⟩ := HE.out
        have TL := hide (show (touchL kind a0 b0 mv).length ≤ 2000 by
          have := HML.out.1
          unfold touchL
          split
          · simp
          · split
            · simp
            · split
              · rw [List.length_map]; omega
              · simp)
        have hto := hide (touched_any kind a0 a1 b0 b1 t u h p nx AN NL.length cN AO nO cO AM A13 A14 A15 cM n13 c13 n14 c14 n15 c15 mv wr (XW.out.read HRM.out) HML.out.1)
        have PX := hide (PgB.of HF HBX.out HU0.out HU1.out HU2.out HU3.out)
        have hbxl : xb < wr.heap.size := hxl
        by_cases hm : n ∈ touchL kind a0 b0 mv
        · have DM := hide (show decide (n ∈ touchL kind a0 b0 mv) = true from decide_eq_true hm)
          have HN := hide (show actsP ls n kind a0 b0 lsn mv from ⟨HLE.out, hm⟩)
          clear hm
          have y5 := HBX.out.frozen 4
          go_upto_region 9 with (first | (go_at_call 20; refine hto.out.mono ?_; rintro e w2 ⟨A2, c2, rfl, ho2, hx2⟩; have X2 := hide hx2; have HO2 := hide ho2; clear ho2 hx2) | (go_at_call 19; refine (contains_any A2 c2 (touchL kind a0 b0 mv).length _ (touchL kind a0 b0 mv) n _ rfl (Reads.of_own HO2.out) TL.out).mono ?_; rintro e w3 ⟨rfl, rfl⟩; try rw [DM.out]))
          have HT2 := hide (HT.out.trans (Touch.of_below X2.out (fun a => a = xb)) (fun _ _ h => h))
          have BX2 := hide (X2.out.blk HBX.out)
          clear HE e0 e1 e2 e3 e4 e5 e6 e7 e8 e9 e10 e11 e12 e13 e14 e15 y5
          have y5 := BX2.out.frozen 4
          have y4 := BX2.out.cell 4
          simp at y4
          have HE := hide ((X2.out.blk BE2.out).far (p := ⟨xb, 4, none⟩) (by have := HLT.out; show eb ≠ xb; omega) (.int .i64 lsn)).cells16
          obtain ⟨e0, e1, e2, e3, e4, e5, e6, e7, e8, e9, e10, e11, e12, e13, e14, e15⟩ := HE.out
          go_upto_block 2 with (fail)
          have T9 := hide (show Touch w2 (w2.setCell ⟨xb, 4, none⟩ (.int .i64 lsn)) (fun a => a = xb) from Touch.setCell (F := fun a => a = xb) (p := ⟨xb, 4, none⟩) (Touch.refl w2 _) (fun _ => rfl) _)
          have XS := hide (Touch.ext (XW.out.trans X2.out) T9.out HGE.out.1)
          have HP9 := hide ((PX.out.ext X2.out).lsn lsn)
          refine paint_blk _ xb eb f lsn n kind a0 a1 b0 b1 t u h p nx AN cN NL AO nO cO AM cM mv A13 A14 A15 n13 c13 n14 c14 n15 c15 HP9.out (T9.out.blk (X2.out.blk BE2.out) (by have := HLT.out; omega)) (by have := HLT.out; omega) ?_ HML.out.2 (XS.out.read HRM.out) ?_ HML.out.1 _ _ _ _ _ _ _ _ _ _ _ _ _ _ _ _ _ _ _ _ _ _ _ _ _ _ _ _ _ _ _ _ _ _ _ _ _ _ _ _ _ _ _ _ _ _ _ _ _ _ _ _ _ _ _ _ _ _ _ _ _ _ _ _ _ _ _ _ _ _ _ _ _ _ _ _ _ _ _ _ _ _ _ _ _ _ _ _ _ _ _ _ _ _ _ _ _ _ _ _ _ _ _ ?_
          · obtain ⟨A, c, ev, hA, hr⟩ := QN.out
            exact ⟨A, c, ev, hA, XS.out.read hr, fun hne ad had e => by
              obtain ⟨ad', e', hlt, _⟩ := hr.2 (List.length_pos_iff.2 hne)
              rw [had] at e'
              injection e' with e'
              subst e'
              have := HGE.out.1
              omega⟩
          · intro hne ad had e
            obtain ⟨ad', e', hlt, _⟩ := HRM.out.2 (List.length_pos_iff.2 hne)
            rw [had] at e'
            injection e' with e'
            subst e'
            have := HGE.out.1
            omega
          rintro v13 v14 v16 v58 v59 v60 v61 v62 v63 v64 v65 v66 v67 v68 v69 v70 v71 v72 v73 v74 v75 v76 v77 v78 v79 v80 v81 v82 v83 v84 v85 v86 v87 v88 v89 v90 v91 v92 v93 v94 v95 v96 v97 v98 v99 wx ⟨hpx, htx⟩
          obtain ⟨F, hF⟩ : ∃ F, F = paintF kind a0 a1 b0 b1 n NL mv f := ⟨_, rfl⟩
          rw [← hF] at hpx
          have HFF := hide hF
          have HTX := hide ((HT2.out.trans T9.out (fun _ _ h => h)).trans htx (fun _ _ h => h))
          have XX := hide (Touch.ext XS.out htx HGE.out.1)
          have BRX := hide (HTX.out.blk BR.out (by have := HLT.out; omega))
          obtain ⟨v0, v1, v2, v3, hbx, q0, q1, q2, q3⟩ := hpx
          obtain ⟨D0, g0, rfl⟩ := q0.form
          obtain ⟨D1, g1, rfl⟩ := q1.form
          obtain ⟨D2, g2, rfl⟩ := q2.form
          obtain ⟨D3, g3, rfl⟩ := q3.form
          have G0 := hide q0
          have G1 := hide q1
          have G2 := hide q2
          have G3 := hide q3
          obtain ⟨m0, hm0⟩ : ∃ m, m = (F 0).length := ⟨_, rfl⟩
          obtain ⟨m1, hm1⟩ : ∃ m, m = (F 1).length := ⟨_, rfl⟩
          obtain ⟨m2, hm2⟩ : ∃ m, m = (F 2).length := ⟨_, rfl⟩
          obtain ⟨m3, hm3⟩ : ∃ m, m = (F 3).length := ⟨_, rfl⟩
          rw [← hm0, ← hm1, ← hm2, ← hm3] at hbx
          rw [← hm0] at G0
          rw [← hm1] at G1
          rw [← hm2] at G2
          rw [← hm3] at G3
          have HB2 := hide hbx
          clear hF htx hbx q0 q1 q2 q3 hm0 hm1 hm2 hm3 HE e0 e1 e2 e3 e4 e5 e6 e7 e8 e9 e10 e11 e12 e13 e14 e15 y5 y4
          have R2 := BRX.out
          have rf := R2.frozen
          obtain ⟨r0, r1, r2, r3, r4⟩ := R2.cells5
          obtain ⟨x0, x1, x2, x3, x4, x5⟩ := HB2.out.cells6
          have kz := R2.set5 (.slice D0 m0 g0) (.slice D1 m1 g1) (.slice D2 m2 g2) (.slice D3 m3 g3) (.int .i64 lsn)
          obtain ⟨z0, z1, z2, z3, z4⟩ := kz.cells5
          clear R2 kz
          go_wp2_with (fail)
          rw [← HFF.out]
          exact bodyPost_ret (v := .tuple #[.agg #[.slice D0 m0 g0, .slice D1 m1 g1, .slice D2 m2 g2, .slice D3 m3 g3, .int .i64 lsn], .bool true]) (by simp [results, Try.results9, go_sem, z0, z1, z2, z3, z4]) rfl (by exact GivesP.of (F := F) (xb := xb) XX.out BRX.out HGE.out.2 G0.out G1.out G2.out G3.out)
        · have DM := hide (show decide (n ∈ touchL kind a0 b0 mv) = false from decide_eq_false hm)
          have HN := hide (show ¬ actsP ls n kind a0 b0 lsn mv from fun h => hm h.2)
          clear hm
          go_upto_region 8 with (first | (go_at_call 20; refine hto.out.mono ?_; rintro e w2 ⟨A2, c2, rfl, ho2, hx2⟩; have X2 := hide hx2; have HO2 := hide ho2; clear ho2 hx2) | (go_at_call 19; refine (contains_any A2 c2 (touchL kind a0 b0 mv).length _ (touchL kind a0 b0 mv) n _ rfl (Reads.of_own HO2.out) TL.out).mono ?_; rintro e w3 ⟨rfl, rfl⟩; try rw [DM.out]))
          have HB2 := hide (X2.out.blk HBX.out)
          have XW2 := hide (XW.out.trans X2.out)
          have BR2 := hide (X2.out.blk BR2.out)
          clear HE e0 e1 e2 e3 e4 e5 e6 e7 e8 e9 e10 e11 e12 e13 e14 e15
          have R2 := BR2.out
          have rf := R2.frozen
          obtain ⟨r0, r1, r2, r3, r4⟩ := R2.cells5
          obtain ⟨x0, x1, x2, x3, x4, x5⟩ := HB2.out.cells6
          have kz := R2.set5 (.slice B0 L0.length d0) (.slice B1 L1.length d1) (.slice B2 L2.length d2) (.slice B3 L3.length d3) (.int .i64 ls)
          obtain ⟨z0, z1, z2, z3, z4⟩ := kz.cells5
          clear R2 kz
          go_wp2_with (fail)
          exact bodyPost_ret (v := .tuple #[.agg #[.slice B0 L0.length d0, (.slice B1 L1.length d1), (.slice B2 L2.length d2), (.slice B3 L3.length d3), .int .i64 ls], .bool false]) (by simp [results, Try.results9, go_sem, z0, z1, z2, z3, z4]) rfl (GivesP.of XW2.out BR2.out HGE.out.2 (by rw [HF.out.1]; exact HU0.out.ext X2.out) (by rw [HF.out.2.1]; exact HU1.out.ext X2.out) (by rw [HF.out.2.2.1]; exact HU2.out.ext X2.out) (by rw [HF.out.2.2.2]; exact HU3.out.ext X2.out))
end Go.Proofs.Ytaagdjipjeindaa
