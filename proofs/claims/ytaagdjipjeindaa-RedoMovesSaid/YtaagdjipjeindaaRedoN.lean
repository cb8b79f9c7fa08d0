/- Redo: two pages with the same cells are the same. -/
import Derived.Test.YtaagdjipjeindaaRedoK
import Derived.Test.YtaagdjipjeindaaRedoL
namespace Go.Proofs.Ytaagdjipjeindaa
open Go.ChangeShapes Go.WideShapes Go.ChangeAt Go.RowKit
set_option linter.unusedVariables false

theorem blank_n (w : World) (A : Option Addr) (c n : Nat) (l : List UInt8) (hn : n = l.length) (hr : Reads w w.heap.size 1 A n (bv l)) (hl : n ≤ 2000) :
    Calls Try.prog 24 #[.slice A n c] w fun e w' => e = .returned (.bool (blankL l)) ∧ Ext w w' := by
  subst hn
  exact blank_any w A c l hr hl
theorem Pg.open_ {w : World} {v : Value} {f : Nat → List UInt8} {ls : Int} (h : Pg w v f ls) : ∃ A0 c0 A1 c1 A2 c2 A3 c3, v = .agg #[.slice A0 (f 0).length c0, .slice A1 (f 1).length c1, .slice A2 (f 2).length c2, .slice A3 (f 3).length c3, .int .i64 ls] ∧
    ∀ i, i < 4 → ∃ A c, (#[.slice A0 (f 0).length c0, .slice A1 (f 1).length c1, .slice A2 (f 2).length c2, .slice A3 (f 3).length c3, .int .i64 ls] : Array Value)[i]? = some (.slice A (f i).length c) ∧ BB w (.slice A (f i).length c) (f i) := by
  obtain ⟨u0, u1, u2, u3, rfl, h0, h1, h2, h3⟩ := h
  have k0 := h0
  have k1 := h1
  have k2 := h2
  have k3 := h3
  obtain ⟨A0, c0, rfl, _⟩ := h0
  obtain ⟨A1, c1, rfl, _⟩ := h1
  obtain ⟨A2, c2, rfl, _⟩ := h2
  obtain ⟨A3, c3, rfl, _⟩ := h3
  refine ⟨A0, c0, A1, c1, A2, c2, A3, c3, rfl, fun i hi => ?_⟩
  rcases (show i = 0 ∨ i = 1 ∨ i = 2 ∨ i = 3 by omega) with rfl | rfl | rfl | rfl
  · exact ⟨A0, c0, rfl, k0⟩
  · exact ⟨A1, c1, rfl, k1⟩
  · exact ⟨A2, c2, rfl, k2⟩
  · exact ⟨A3, c3, rfl, k3⟩
theorem BB.reads {w : World} {A : Option Addr} {n c : Nat} {l : List UInt8} (h : BB w (.slice A n c) l) : Reads w w.heap.size 1 A l.length (bv l) := by
  obtain ⟨A', c', e, _, h2⟩ := h
  injection e with e1 e2 e3
  subst e1
  exact h2
set_option maxRecDepth 100000 in
set_option maxHeartbeats 8000000 in
theorem samePage_any (w : World) (va vb : Value) (f : Nat → List UInt8) (ls : Int) (ha : Pg w va f ls) (hb : Pg w vb f ls) (hL : ∀ j, j < 4 → (f j).length ≤ 1000) :
    Calls Try.prog 11 #[va, vb] w fun e w' => e = .returned (.bool true) ∧ Ext w w' := by
  obtain ⟨A0, c0, A1, c1, A2, c2, A3, c3, rfl, hca⟩ := ha.open_
  obtain ⟨B0, d0, B1, d1, B2, d2, B3, d3, rfl, hcb⟩ := hb.open_
  have HCA := hide hca
  have HCB := hide hcb
  have HLL := hide hL
  clear ha hb hca hcb hL
  go_enter Try.func11, Try.ntmps11
  go_wp2_with (fail)
  obtain ⟨w2, hw2⟩ : ∃ w2, w2 = (w.alloc (.cells #[.slice A0 (f 0).length c0, .slice A1 (f 1).length c1, .slice A2 (f 2).length c2, .slice A3 (f 3).length c3, .int .i64 ls] 35)).alloc (.cells #[.slice B0 (f 0).length d0, .slice B1 (f 1).length d1, .slice B2 (f 2).length d2, .slice B3 (f 3).length d3, .int .i64 ls] 35) := ⟨_, rfl⟩
  have X2 := hide (show Ext w w2 by rw [hw2]; exact ((Ext.refl w).alloc _).alloc _)
  have PA := hide (show Blk w2 w.heap.size 35 #[.slice A0 (f 0).length c0, .slice A1 (f 1).length c1, .slice A2 (f 2).length c2, .slice A3 (f 3).length c3, .int .i64 ls] by rw [hw2]; exact (Blk.new w 35 _).alloc _)
  have PB := hide (show Blk w2 (w.heap.size + 1) 35 #[.slice B0 (f 0).length d0, .slice B1 (f 1).length d1, .slice B2 (f 2).length d2, .slice B3 (f 3).length d3, .int .i64 ls] by
    rw [hw2]
    exact blk_new1 w _ 35 _)
  obtain ⟨pa, hpa⟩ : ∃ pa, pa = w.heap.size := ⟨_, rfl⟩
  obtain ⟨pb, hpb⟩ : ∃ pb, pb = w.heap.size + 1 := ⟨_, rfl⟩
  rw [← hw2, ← hpb, ← hpa]
  rw [← hpa] at PA
  rw [← hpb] at PB
  clear hw2 hpa hpb
  go_loopw [5] (fun s5 wr => (∃ i : Nat, i ≤ 4 ∧ s5 = .int .i64 i ∧ Ext w2 wr)) (fun s5 _ => (4 - intOf s5).toNat)
  case atStart => exact ⟨0, by omega, rfl, Ext.refl _⟩
  case round =>
    obtain ⟨i, hi, rfl, hx⟩ := hrel
    have X := hide hx
    clear hx
    by_cases hlt : i < 4
    · obtain ⟨A, c, ea, ba⟩ := HCA.out i hlt
      obtain ⟨B, d, eb, bb⟩ := HCB.out i hlt
      obtain ⟨l, hl⟩ : ∃ l, l = f i := ⟨_, rfl⟩
      have HL := hide (show l.length ≤ 2000 by rw [hl]; have := HLL.out i hlt; omega)
      rw [← hl] at ea eb ba bb
      obtain ⟨n, hn⟩ : ∃ n, n = l.length := ⟨_, rfl⟩
      have RA := hide (X.out.read (X2.out.read ba.reads))
      have RB := hide (X.out.read (X2.out.read bb.reads))
      rw [← hn] at ea eb RA RB HL
      have HN := hide hn
      have ya := ((X.out.blk PA.out).cell i).trans ea
      have yb := ((X.out.blk PB.out).cell i).trans eb
      have hpa : pa < wr.heap.size := (X.out.blk PA.out).lt
      have hpb : pb < wr.heap.size := (X.out.blk PB.out).lt
      have HS := hide (show ∀ w' : World, Ext wr w' → (fun w' => w'.cell? ⟨pa, i, none⟩ = some (.slice A n c) ∧ w'.cell? ⟨pb, i, none⟩ = some (.slice B n d) ∧ (convert 22 9 (.slice A n c)).run Try.prog w' = .ok (.string ⟨l.toArray⟩) w' ∧ (convert 22 9 (.slice B n d)).run Try.prog w' = .ok (.string ⟨l.toArray⟩) w') w' from fun w' hx => ⟨(hx.cell hpa).trans ya, (hx.cell hpb).trans yb, run_string_of_reads 22 9 5 c Try.underlying22 Try.underlying5 Try.underlying9 (hx.read RA.out), run_string_of_reads 22 9 5 d Try.underlying22 Try.underlying5 Try.underlying9 (hx.read RB.out)⟩)
      clear ea eb ba bb hl hn hpa hpb
      obtain ⟨b, hb⟩ : ∃ b, blankL l = b := ⟨_, rfl⟩
      have HB := hide hb
      clear hb
      go_upto_region 4 with (fail)
      clear ya yb
      cases b
      · skip
        refine wp_region_F (S := (fun w' => w'.cell? ⟨pa, i, none⟩ = some (.slice A n c) ∧ w'.cell? ⟨pb, i, none⟩ = some (.slice B n d) ∧ (convert 22 9 (.slice A n c)).run Try.prog w' = .ok (.string ⟨l.toArray⟩) w' ∧ (convert 22 9 (.slice B n d)).run Try.prog w' = .ok (.string ⟨l.toArray⟩) w')) 31 (by kernel_rfl) (by kernel_rfl) (HS.out _ (Ext.drew (Ext.refl wr))) (fun hHeld => ?_)
        refine GoF.take 0 (some 10) (v := ?_) rfl rfl (by kernel_rfl) (by kernel_rfl) (by kernel_rfl) (fun _ _ _ h => h) (Or.inl ⟨by rfl, ?_⟩) (by assumption) ?_
        rotate_left
        · intro w' hSw
          try dsimp only at hSw
          go_simp
          try with_reducible rfl
        try simp only [Act.put, List.setIfInBounds_toArray, List.set_cons_zero, List.set_cons_succ]
        refine GoF.take 1 (some 11) (v := ?_) rfl rfl (by kernel_rfl) (by kernel_rfl) (by kernel_rfl) (fun _ _ _ h => h) (Or.inl ⟨by rfl, ?_⟩) (by assumption) ?_
        rotate_left
        · intro w' hSw
          try dsimp only at hSw
          go_simp
          try with_reducible rfl
        try simp only [Act.put, List.setIfInBounds_toArray, List.set_cons_zero, List.set_cons_succ]
        refine GoF.take 2 (some 12) (v := ?_) rfl rfl (by kernel_rfl) (by kernel_rfl) (by kernel_rfl) (fun _ _ _ h => h) (Or.inl ⟨by rfl, ?_⟩) (by assumption) ?_
        rotate_left
        · intro w' hSw
          try dsimp only at hSw
          go_simp
          try with_reducible rfl
        try simp only [Act.put, List.setIfInBounds_toArray, List.set_cons_zero, List.set_cons_succ]
        refine GoF.take 3 (some 13) (v := ?_) rfl rfl (by kernel_rfl) (by kernel_rfl) (by kernel_rfl) (fun _ _ _ h => h) (Or.inl ⟨by rfl, ?_⟩) (by assumption) ?_
        rotate_left
        · intro w' hSw
          try dsimp only at hSw
          go_simp
          try with_reducible rfl
        try simp only [Act.put, List.setIfInBounds_toArray, List.set_cons_zero, List.set_cons_succ]
        refine GoF.take 5 (some 15) (v := ?_) rfl rfl (by kernel_rfl) (by kernel_rfl) (by kernel_rfl) (fun _ _ _ h => h) (Or.inl ⟨by rfl, ?_⟩) (by assumption) ?_
        rotate_left
        · intro w' hSw
          try dsimp only at hSw
          go_simp
          try with_reducible rfl
        try simp only [Act.put, List.setIfInBounds_toArray, List.set_cons_zero, List.set_cons_succ]
        refine GoF.take 6 (some 16) (v := ?_) rfl rfl (by kernel_rfl) (by kernel_rfl) (by kernel_rfl) (fun _ _ _ h => h) (Or.inl ⟨by rfl, ?_⟩) (by assumption) ?_
        rotate_left
        · intro w' hSw
          try dsimp only at hSw
          go_simp
          try with_reducible rfl
        try simp only [Act.put, List.setIfInBounds_toArray, List.set_cons_zero, List.set_cons_succ]
        refine GoF.take 7 (some 17) (v := ?_) rfl rfl (by kernel_rfl) (by kernel_rfl) (by kernel_rfl) (fun _ _ _ h => h) (Or.inl ⟨by rfl, ?_⟩) (by assumption) ?_
        rotate_left
        · intro w' hSw
          try dsimp only at hSw
          go_simp
          try with_reducible rfl
        try simp only [Act.put, List.setIfInBounds_toArray, List.set_cons_zero, List.set_cons_succ]
        refine GoF.take 8 (some 18) (v := ?_) rfl rfl (by kernel_rfl) (by kernel_rfl) (by kernel_rfl) (fun _ _ _ h => h) (Or.inl ⟨by rfl, ?_⟩) (by assumption) ?_
        rotate_left
        · intro w' hSw
          try dsimp only at hSw
          go_simp
          try with_reducible rfl
        try simp only [Act.put, List.setIfInBounds_toArray, List.set_cons_zero, List.set_cons_succ]
        refine GoF.each (rs := [4]) (by kernel_rfl) (by kernel_rfl) (by kernel_rfl) ?_
        refine EachF.cons (i := 4) rfl (fun K hK => ?_) EachF.nil
        go_simp
        refine (blank_n wr.drew A c n l HN.out (Ext.read (Ext.drew (Ext.refl wr)) RA.out) HL.out).mono ?_
        rintro e w1 ⟨rfl, hx⟩
        have X1 := hide (Ext.trans (Ext.drew (Ext.refl wr)) hx)
        clear hx
        rw [HB.out]
        try go_simp
        refine hK.out _ _ (HS.out _ X1.out) (fun hHeld => ?_)
        clear hK K
        try simp only [Act.put, List.setIfInBounds_toArray, List.set_cons_zero, List.set_cons_succ]
        refine GoF.each (rs := [9]) (by kernel_rfl) (by kernel_rfl) (by kernel_rfl) ?_
        refine EachF.cons (i := 9) rfl (fun K hK => ?_) EachF.nil
        go_simp
        refine (blank_n w1 B d n l HN.out (Ext.read X1.out RB.out) HL.out).mono ?_
        rintro e w2 ⟨rfl, hx⟩
        have X2 := hide (Ext.trans X1.out hx)
        clear hx
        rw [HB.out]
        try go_simp
        refine hK.out _ _ (HS.out _ X2.out) (fun hHeld => ?_)
        clear hK K
        try simp only [Act.put, List.setIfInBounds_toArray, List.set_cons_zero, List.set_cons_succ]
        refine GoF.take 10 (some 20) (v := ?_) rfl rfl (by kernel_rfl) (by kernel_rfl) (by kernel_rfl) (fun _ _ _ h => h) (Or.inl ⟨by rfl, ?_⟩) (by assumption) ?_
        rotate_left
        · intro w' hSw
          try dsimp only at hSw
          go_simp
          try with_reducible rfl
        try simp only [Act.put, List.setIfInBounds_toArray, List.set_cons_zero, List.set_cons_succ]
        refine GoF.take 11 (some 21) (v := ?_) rfl rfl (by kernel_rfl) (by kernel_rfl) (by kernel_rfl) (fun _ _ _ h => h) (Or.inl ⟨by rfl, ?_⟩) (by assumption) ?_
        rotate_left
        · intro w' hSw
          try dsimp only at hSw
          go_simp
          try with_reducible rfl
        try simp only [Act.put, List.setIfInBounds_toArray, List.set_cons_zero, List.set_cons_succ]
        refine GoF.take 12 (some 22) (v := ?_) rfl rfl (by kernel_rfl) (by kernel_rfl) (by kernel_rfl) (fun _ _ _ h => h) (Or.inl ⟨by rfl, ?_⟩) (by assumption) ?_
        rotate_left
        · intro w' hSw
          try dsimp only at hSw
          go_simp
          try with_reducible rfl
        try simp only [Act.put, List.setIfInBounds_toArray, List.set_cons_zero, List.set_cons_succ]
        refine GoF.take 13 (some 23) (v := ?_) rfl rfl (by kernel_rfl) (by kernel_rfl) (by kernel_rfl) (fun _ _ _ h => h) (Or.inl ⟨by rfl, ?_⟩) (by assumption) ?_
        rotate_left
        · intro w' hSw
          try dsimp only at hSw
          go_simp
          try with_reducible rfl
        try simp only [Act.put, List.setIfInBounds_toArray, List.set_cons_zero, List.set_cons_succ]
        refine GoF.take 14 (some 24) (v := ?_) rfl rfl (by kernel_rfl) (by kernel_rfl) (by kernel_rfl) (fun _ _ _ h => h) (Or.inl ⟨by rfl, ?_⟩) (by assumption) ?_
        rotate_left
        · intro w' hSw
          try dsimp only at hSw
          go_simp
          try with_reducible rfl
        try simp only [Act.put, List.setIfInBounds_toArray, List.set_cons_zero, List.set_cons_succ]
        refine GoF.take 15 (some 25) (v := ?_) rfl rfl (by kernel_rfl) (by kernel_rfl) (by kernel_rfl) (fun _ _ _ h => h) (Or.inl ⟨by rfl, ?_⟩) (by assumption) ?_
        rotate_left
        · intro w' hSw
          try dsimp only at hSw
          go_simp
          try with_reducible rfl
        try simp only [Act.put, List.setIfInBounds_toArray, List.set_cons_zero, List.set_cons_succ]
        refine GoF.each (rs := [16]) (by kernel_rfl) (by kernel_rfl) (by kernel_rfl) ?_
        refine EachF.cons (i := 16) rfl (fun K hK => ?_) EachF.nil
        go_simp
        refine (blank_n w2 A c n l HN.out (Ext.read X2.out RA.out) HL.out).mono ?_
        rintro e w3 ⟨rfl, hx⟩
        have X3 := hide (Ext.trans X2.out hx)
        clear hx
        rw [HB.out]
        try go_simp
        refine hK.out _ _ (HS.out _ X3.out) (fun hHeld => ?_)
        clear hK K
        try simp only [Act.put, List.setIfInBounds_toArray, List.set_cons_zero, List.set_cons_succ]
        refine GoF.take 17 (some 27) (v := ?_) rfl rfl (by kernel_rfl) (by kernel_rfl) (by kernel_rfl) (fun _ _ _ h => h) (Or.inl ⟨by rfl, ?_⟩) (by assumption) ?_
        rotate_left
        · intro w' hSw
          try dsimp only at hSw
          go_simp
          try with_reducible rfl
        try simp only [Act.put, List.setIfInBounds_toArray, List.set_cons_zero, List.set_cons_succ]
        refine GoF.take 18 (some 28) (v := ?_) rfl rfl (by kernel_rfl) (by kernel_rfl) (by kernel_rfl) (fun _ _ _ h => h) (Or.inl ⟨by rfl, ?_⟩) (by assumption) ?_
        rotate_left
        · intro w' hSw
          try dsimp only at hSw
          go_simp
          try with_reducible rfl
        try simp only [Act.put, List.setIfInBounds_toArray, List.set_cons_zero, List.set_cons_succ]
        refine GoF.take 19 (some 29) (v := ?_) rfl rfl (by kernel_rfl) (by kernel_rfl) (by kernel_rfl) (fun _ _ _ h => h) (Or.inl ⟨by rfl, ?_⟩) (by assumption) ?_
        rotate_left
        · intro w' hSw
          try dsimp only at hSw
          go_simp
          try with_reducible rfl
        try simp only [Act.put, List.setIfInBounds_toArray, List.set_cons_zero, List.set_cons_succ]
        refine GoF.take 20 (some 30) (v := ?_) rfl rfl (by kernel_rfl) (by kernel_rfl) (by kernel_rfl) (fun _ _ _ h => h) (Or.inl ⟨by rfl, ?_⟩) (by assumption) ?_
        rotate_left
        · intro w' hSw
          try dsimp only at hSw
          go_simp
          try with_reducible rfl
        try simp only [Act.put, List.setIfInBounds_toArray, List.set_cons_zero, List.set_cons_succ]
        refine GoF.take 21 (some 31) (v := ?_) rfl rfl (by kernel_rfl) (by kernel_rfl) (by kernel_rfl) (fun _ _ _ h => h) (Or.inl ⟨by rfl, ?_⟩) (by assumption) ?_
        rotate_left
        · intro w' hSw
          try dsimp only at hSw
          go_simp
          try with_reducible rfl
        try simp only [Act.put, List.setIfInBounds_toArray, List.set_cons_zero, List.set_cons_succ]
        refine GoF.take 22 (some 32) (v := ?_) rfl rfl (by kernel_rfl) (by kernel_rfl) (by kernel_rfl) (fun _ _ _ h => h) (Or.inl ⟨by rfl, ?_⟩) (by assumption) ?_
        rotate_left
        · intro w' hSw
          try dsimp only at hSw
          go_simp
          try with_reducible rfl
        try simp only [Act.put, List.setIfInBounds_toArray, List.set_cons_zero, List.set_cons_succ]
        refine GoF.take 23 (some 33) (v := ?_) rfl rfl (by kernel_rfl) (by kernel_rfl) (by kernel_rfl) (fun _ _ _ h => h) (Or.inl ⟨by rfl, ?_⟩) (by assumption) ?_
        rotate_left
        · intro w' hSw
          try dsimp only at hSw
          go_simp
          try with_reducible rfl
        try simp only [Act.put, List.setIfInBounds_toArray, List.set_cons_zero, List.set_cons_succ]
        refine GoF.take 24 (some 34) (v := ?_) rfl rfl (by kernel_rfl) (by kernel_rfl) (by kernel_rfl) (fun _ _ _ h => h) (Or.inl ⟨by rfl, ?_⟩) (by assumption) ?_
        rotate_left
        · intro w' hSw
          try dsimp only at hSw
          go_simp
          try with_reducible rfl
        try simp only [Act.put, List.setIfInBounds_toArray, List.set_cons_zero, List.set_cons_succ]
        refine GoF.take 25 (some 35) (v := ?_) rfl rfl (by kernel_rfl) (by kernel_rfl) (by kernel_rfl) (fun _ _ _ h => h) (Or.inl ⟨by rfl, ?_⟩) (by assumption) ?_
        rotate_left
        · intro w' hSw
          try dsimp only at hSw
          go_simp
          try with_reducible rfl
        try simp only [Act.put, List.setIfInBounds_toArray, List.set_cons_zero, List.set_cons_succ]
        refine GoF.take 26 (some 36) (v := ?_) rfl rfl (by kernel_rfl) (by kernel_rfl) (by kernel_rfl) (fun _ _ _ h => h) (Or.inl ⟨by rfl, ?_⟩) (by assumption) ?_
        rotate_left
        · intro w' hSw
          try dsimp only at hSw
          go_simp
          try with_reducible rfl
        try simp only [Act.put, List.setIfInBounds_toArray, List.set_cons_zero, List.set_cons_succ]
        refine GoF.take 27 (some 37) (v := ?_) rfl rfl (by kernel_rfl) (by kernel_rfl) (by kernel_rfl) (fun _ _ _ h => h) (Or.inl ⟨by rfl, ?_⟩) (by assumption) ?_
        rotate_left
        · intro w' hSw
          try dsimp only at hSw
          go_simp
          try with_reducible rfl
        try simp only [Act.put, List.setIfInBounds_toArray, List.set_cons_zero, List.set_cons_succ]
        refine GoF.take 28 (some 38) (v := ?_) rfl rfl (by kernel_rfl) (by kernel_rfl) (by kernel_rfl) (fun _ _ _ h => h) (Or.inl ⟨by rfl, ?_⟩) (by assumption) ?_
        rotate_left
        · intro w' hSw
          try dsimp only at hSw
          go_simp
          try with_reducible rfl
        try simp only [Act.put, List.setIfInBounds_toArray, List.set_cons_zero, List.set_cons_succ]
        refine GoF.take 29 (some 39) (v := ?_) rfl rfl (by kernel_rfl) (by kernel_rfl) (by kernel_rfl) (fun _ _ _ h => h) (Or.inl ⟨by rfl, ?_⟩) (by assumption) ?_
        rotate_left
        · intro w' hSw
          try dsimp only at hSw
          go_simp
          try with_reducible rfl
        try simp only [Act.put, List.setIfInBounds_toArray, List.set_cons_zero, List.set_cons_succ]
        refine GoF.take 30 (some 40) (v := ?_) rfl rfl (by kernel_rfl) (by kernel_rfl) (by kernel_rfl) (fun _ _ _ h => h) (Or.inl ⟨by rfl, ?_⟩) (by assumption) ?_
        rotate_left
        · intro w' hSw
          try dsimp only at hSw
          go_simp
          try with_reducible rfl
        try simp only [Act.put, List.setIfInBounds_toArray, List.set_cons_zero, List.set_cons_succ]
        refine GoF.last (by kernel_rfl) (by kernel_rfl) rfl (fun K hK => ?_)
        go_simp
        refine hK.out _ _ ?_
        clear hK K hHeld
        go_wp2_with (fail)
        go_roundw
        case rel => exact ⟨i + 1, by omega, by go_num, X.out.trans X3.out⟩
        case measure => simp [intOf]; omega
      · skip
        refine wp_region_F (S := (fun w' => w'.cell? ⟨pa, i, none⟩ = some (.slice A n c) ∧ w'.cell? ⟨pb, i, none⟩ = some (.slice B n d) ∧ (convert 22 9 (.slice A n c)).run Try.prog w' = .ok (.string ⟨l.toArray⟩) w' ∧ (convert 22 9 (.slice B n d)).run Try.prog w' = .ok (.string ⟨l.toArray⟩) w')) 31 (by kernel_rfl) (by kernel_rfl) (HS.out _ (Ext.drew (Ext.refl wr))) (fun hHeld => ?_)
        refine GoF.take 0 (some 10) (v := ?_) rfl rfl (by kernel_rfl) (by kernel_rfl) (by kernel_rfl) (fun _ _ _ h => h) (Or.inl ⟨by rfl, ?_⟩) (by assumption) ?_
        rotate_left
        · intro w' hSw
          try dsimp only at hSw
          go_simp
          try with_reducible rfl
        try simp only [Act.put, List.setIfInBounds_toArray, List.set_cons_zero, List.set_cons_succ]
        refine GoF.take 1 (some 11) (v := ?_) rfl rfl (by kernel_rfl) (by kernel_rfl) (by kernel_rfl) (fun _ _ _ h => h) (Or.inl ⟨by rfl, ?_⟩) (by assumption) ?_
        rotate_left
        · intro w' hSw
          try dsimp only at hSw
          go_simp
          try with_reducible rfl
        try simp only [Act.put, List.setIfInBounds_toArray, List.set_cons_zero, List.set_cons_succ]
        refine GoF.take 2 (some 12) (v := ?_) rfl rfl (by kernel_rfl) (by kernel_rfl) (by kernel_rfl) (fun _ _ _ h => h) (Or.inl ⟨by rfl, ?_⟩) (by assumption) ?_
        rotate_left
        · intro w' hSw
          try dsimp only at hSw
          go_simp
          try with_reducible rfl
        try simp only [Act.put, List.setIfInBounds_toArray, List.set_cons_zero, List.set_cons_succ]
        refine GoF.take 3 (some 13) (v := ?_) rfl rfl (by kernel_rfl) (by kernel_rfl) (by kernel_rfl) (fun _ _ _ h => h) (Or.inl ⟨by rfl, ?_⟩) (by assumption) ?_
        rotate_left
        · intro w' hSw
          try dsimp only at hSw
          go_simp
          try with_reducible rfl
        try simp only [Act.put, List.setIfInBounds_toArray, List.set_cons_zero, List.set_cons_succ]
        refine GoF.take 5 (some 15) (v := ?_) rfl rfl (by kernel_rfl) (by kernel_rfl) (by kernel_rfl) (fun _ _ _ h => h) (Or.inl ⟨by rfl, ?_⟩) (by assumption) ?_
        rotate_left
        · intro w' hSw
          try dsimp only at hSw
          go_simp
          try with_reducible rfl
        try simp only [Act.put, List.setIfInBounds_toArray, List.set_cons_zero, List.set_cons_succ]
        refine GoF.take 6 (some 16) (v := ?_) rfl rfl (by kernel_rfl) (by kernel_rfl) (by kernel_rfl) (fun _ _ _ h => h) (Or.inl ⟨by rfl, ?_⟩) (by assumption) ?_
        rotate_left
        · intro w' hSw
          try dsimp only at hSw
          go_simp
          try with_reducible rfl
        try simp only [Act.put, List.setIfInBounds_toArray, List.set_cons_zero, List.set_cons_succ]
        refine GoF.take 7 (some 17) (v := ?_) rfl rfl (by kernel_rfl) (by kernel_rfl) (by kernel_rfl) (fun _ _ _ h => h) (Or.inl ⟨by rfl, ?_⟩) (by assumption) ?_
        rotate_left
        · intro w' hSw
          try dsimp only at hSw
          go_simp
          try with_reducible rfl
        try simp only [Act.put, List.setIfInBounds_toArray, List.set_cons_zero, List.set_cons_succ]
        refine GoF.take 8 (some 18) (v := ?_) rfl rfl (by kernel_rfl) (by kernel_rfl) (by kernel_rfl) (fun _ _ _ h => h) (Or.inl ⟨by rfl, ?_⟩) (by assumption) ?_
        rotate_left
        · intro w' hSw
          try dsimp only at hSw
          go_simp
          try with_reducible rfl
        try simp only [Act.put, List.setIfInBounds_toArray, List.set_cons_zero, List.set_cons_succ]
        refine GoF.each (rs := [4]) (by kernel_rfl) (by kernel_rfl) (by kernel_rfl) ?_
        refine EachF.cons (i := 4) rfl (fun K hK => ?_) EachF.nil
        go_simp
        refine (blank_n wr.drew A c n l HN.out (Ext.read (Ext.drew (Ext.refl wr)) RA.out) HL.out).mono ?_
        rintro e w1 ⟨rfl, hx⟩
        have X1 := hide (Ext.trans (Ext.drew (Ext.refl wr)) hx)
        clear hx
        rw [HB.out]
        try go_simp
        refine hK.out _ _ (HS.out _ X1.out) (fun hHeld => ?_)
        clear hK K
        try simp only [Act.put, List.setIfInBounds_toArray, List.set_cons_zero, List.set_cons_succ]
        refine GoF.each (rs := [9]) (by kernel_rfl) (by kernel_rfl) (by kernel_rfl) ?_
        refine EachF.cons (i := 9) rfl (fun K hK => ?_) EachF.nil
        go_simp
        refine (blank_n w1 B d n l HN.out (Ext.read X1.out RB.out) HL.out).mono ?_
        rintro e w2 ⟨rfl, hx⟩
        have X2 := hide (Ext.trans X1.out hx)
        clear hx
        rw [HB.out]
        try go_simp
        refine hK.out _ _ (HS.out _ X2.out) (fun hHeld => ?_)
        clear hK K
        try simp only [Act.put, List.setIfInBounds_toArray, List.set_cons_zero, List.set_cons_succ]
        refine GoF.take 10 (some 20) (v := ?_) rfl rfl (by kernel_rfl) (by kernel_rfl) (by kernel_rfl) (fun _ _ _ h => h) (Or.inl ⟨by rfl, ?_⟩) (by assumption) ?_
        rotate_left
        · intro w' hSw
          try dsimp only at hSw
          go_simp
          try with_reducible rfl
        try simp only [Act.put, List.setIfInBounds_toArray, List.set_cons_zero, List.set_cons_succ]
        refine GoF.take 11 (some 21) (v := ?_) rfl rfl (by kernel_rfl) (by kernel_rfl) (by kernel_rfl) (fun _ _ _ h => h) (Or.inl ⟨by rfl, ?_⟩) (by assumption) ?_
        rotate_left
        · intro w' hSw
          try dsimp only at hSw
          go_simp
          try with_reducible rfl
        try simp only [Act.put, List.setIfInBounds_toArray, List.set_cons_zero, List.set_cons_succ]
        refine GoF.take 12 (some 22) (v := ?_) rfl rfl (by kernel_rfl) (by kernel_rfl) (by kernel_rfl) (fun _ _ _ h => h) (Or.inl ⟨by rfl, ?_⟩) (by assumption) ?_
        rotate_left
        · intro w' hSw
          try dsimp only at hSw
          go_simp
          try with_reducible rfl
        try simp only [Act.put, List.setIfInBounds_toArray, List.set_cons_zero, List.set_cons_succ]
        refine GoF.take 13 (some 23) (v := ?_) rfl rfl (by kernel_rfl) (by kernel_rfl) (by kernel_rfl) (fun _ _ _ h => h) (Or.inl ⟨by rfl, ?_⟩) (by assumption) ?_
        rotate_left
        · intro w' hSw
          try dsimp only at hSw
          go_simp
          try with_reducible rfl
        try simp only [Act.put, List.setIfInBounds_toArray, List.set_cons_zero, List.set_cons_succ]
        refine GoF.take 14 (some 24) (v := ?_) rfl rfl (by kernel_rfl) (by kernel_rfl) (by kernel_rfl) (fun _ _ _ h => h) (Or.inl ⟨by rfl, ?_⟩) (by assumption) ?_
        rotate_left
        · intro w' hSw
          try dsimp only at hSw
          go_simp
          try with_reducible rfl
        try simp only [Act.put, List.setIfInBounds_toArray, List.set_cons_zero, List.set_cons_succ]
        refine GoF.take 15 (some 25) (v := ?_) rfl rfl (by kernel_rfl) (by kernel_rfl) (by kernel_rfl) (fun _ _ _ h => h) (Or.inl ⟨by rfl, ?_⟩) (by assumption) ?_
        rotate_left
        · intro w' hSw
          try dsimp only at hSw
          go_simp
          try with_reducible rfl
        try simp only [Act.put, List.setIfInBounds_toArray, List.set_cons_zero, List.set_cons_succ]
        refine GoF.each (rs := [16]) (by kernel_rfl) (by kernel_rfl) (by kernel_rfl) ?_
        refine EachF.cons (i := 16) rfl (fun K hK => ?_) EachF.nil
        go_simp
        refine (blank_n w2 A c n l HN.out (Ext.read X2.out RA.out) HL.out).mono ?_
        rintro e w3 ⟨rfl, hx⟩
        have X3 := hide (Ext.trans X2.out hx)
        clear hx
        rw [HB.out]
        try go_simp
        refine hK.out _ _ (HS.out _ X3.out) (fun hHeld => ?_)
        clear hK K
        try simp only [Act.put, List.setIfInBounds_toArray, List.set_cons_zero, List.set_cons_succ]
        refine GoF.take 17 (some 27) (v := ?_) rfl rfl (by kernel_rfl) (by kernel_rfl) (by kernel_rfl) (fun _ _ _ h => h) (Or.inl ⟨by rfl, ?_⟩) (by assumption) ?_
        rotate_left
        · intro w' hSw
          try dsimp only at hSw
          go_simp
          try with_reducible rfl
        try simp only [Act.put, List.setIfInBounds_toArray, List.set_cons_zero, List.set_cons_succ]
        refine GoF.take 18 (some 28) (v := ?_) rfl rfl (by kernel_rfl) (by kernel_rfl) (by kernel_rfl) (fun _ _ _ h => h) (Or.inl ⟨by rfl, ?_⟩) (by assumption) ?_
        rotate_left
        · intro w' hSw
          try dsimp only at hSw
          go_simp
          try with_reducible rfl
        try simp only [Act.put, List.setIfInBounds_toArray, List.set_cons_zero, List.set_cons_succ]
        refine GoF.take 19 (some 29) (v := undef) rfl rfl (by kernel_rfl) (by kernel_rfl) (by kernel_rfl) (fun _ _ _ h => h) (Or.inr ⟨by rfl, rfl⟩) (by assumption) ?_
        try simp only [Act.put, List.setIfInBounds_toArray, List.set_cons_zero, List.set_cons_succ]
        refine GoF.take 20 (some 30) (v := undef) rfl rfl (by kernel_rfl) (by kernel_rfl) (by kernel_rfl) (fun _ _ _ h => h) (Or.inr ⟨by rfl, rfl⟩) (by assumption) ?_
        try simp only [Act.put, List.setIfInBounds_toArray, List.set_cons_zero, List.set_cons_succ]
        refine GoF.take 21 (some 31) (v := undef) rfl rfl (by kernel_rfl) (by kernel_rfl) (by kernel_rfl) (fun _ _ _ h => h) (Or.inr ⟨by rfl, rfl⟩) (by assumption) ?_
        try simp only [Act.put, List.setIfInBounds_toArray, List.set_cons_zero, List.set_cons_succ]
        refine GoF.take 22 (some 32) (v := undef) rfl rfl (by kernel_rfl) (by kernel_rfl) (by kernel_rfl) (fun _ _ _ h => h) (Or.inr ⟨by rfl, rfl⟩) (by assumption) ?_
        try simp only [Act.put, List.setIfInBounds_toArray, List.set_cons_zero, List.set_cons_succ]
        refine GoF.take 23 (some 33) (v := undef) rfl rfl (by kernel_rfl) (by kernel_rfl) (by kernel_rfl) (fun _ _ _ h => h) (Or.inr ⟨by rfl, rfl⟩) (by assumption) ?_
        try simp only [Act.put, List.setIfInBounds_toArray, List.set_cons_zero, List.set_cons_succ]
        refine GoF.take 24 (some 34) (v := undef) rfl rfl (by kernel_rfl) (by kernel_rfl) (by kernel_rfl) (fun _ _ _ h => h) (Or.inr ⟨by rfl, rfl⟩) (by assumption) ?_
        try simp only [Act.put, List.setIfInBounds_toArray, List.set_cons_zero, List.set_cons_succ]
        refine GoF.take 25 (some 35) (v := undef) rfl rfl (by kernel_rfl) (by kernel_rfl) (by kernel_rfl) (fun _ _ _ h => h) (Or.inr ⟨by rfl, rfl⟩) (by assumption) ?_
        try simp only [Act.put, List.setIfInBounds_toArray, List.set_cons_zero, List.set_cons_succ]
        refine GoF.take 26 (some 36) (v := undef) rfl rfl (by kernel_rfl) (by kernel_rfl) (by kernel_rfl) (fun _ _ _ h => h) (Or.inr ⟨by rfl, rfl⟩) (by assumption) ?_
        try simp only [Act.put, List.setIfInBounds_toArray, List.set_cons_zero, List.set_cons_succ]
        refine GoF.take 27 (some 37) (v := undef) rfl rfl (by kernel_rfl) (by kernel_rfl) (by kernel_rfl) (fun _ _ _ h => h) (Or.inr ⟨by rfl, rfl⟩) (by assumption) ?_
        try simp only [Act.put, List.setIfInBounds_toArray, List.set_cons_zero, List.set_cons_succ]
        refine GoF.take 28 (some 38) (v := undef) rfl rfl (by kernel_rfl) (by kernel_rfl) (by kernel_rfl) (fun _ _ _ h => h) (Or.inr ⟨by rfl, rfl⟩) (by assumption) ?_
        try simp only [Act.put, List.setIfInBounds_toArray, List.set_cons_zero, List.set_cons_succ]
        refine GoF.take 29 (some 39) (v := undef) rfl rfl (by kernel_rfl) (by kernel_rfl) (by kernel_rfl) (fun _ _ _ h => h) (Or.inr ⟨by rfl, rfl⟩) (by assumption) ?_
        try simp only [Act.put, List.setIfInBounds_toArray, List.set_cons_zero, List.set_cons_succ]
        refine GoF.take 30 (some 40) (v := ?_) rfl rfl (by kernel_rfl) (by kernel_rfl) (by kernel_rfl) (fun _ _ _ h => h) (Or.inl ⟨by rfl, ?_⟩) (by assumption) ?_
        rotate_left
        · intro w' hSw
          try dsimp only at hSw
          go_simp
          try with_reducible rfl
        try simp only [Act.put, List.setIfInBounds_toArray, List.set_cons_zero, List.set_cons_succ]
        refine GoF.last (by kernel_rfl) (by kernel_rfl) rfl (fun K hK => ?_)
        go_simp
        refine hK.out _ _ ?_
        clear hK K hHeld
        go_wp2_with (fail)
        go_roundw
        case rel => exact ⟨i + 1, by omega, by go_num, X.out.trans X3.out⟩
        case measure => simp [intOf]; omega
    · obtain rfl : i = 4 := by omega
      obtain ⟨y0, y1, y2, y3, y4⟩ := (X.out.blk PA.out).cells5
      obtain ⟨z0, z1, z2, z3, z4⟩ := (X.out.blk PB.out).cells5
      go_wp2_with (fail)
      go_ret
      exact ⟨rfl, X2.out.trans X.out⟩
end Go.Proofs.Ytaagdjipjeindaa
