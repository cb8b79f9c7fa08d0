/- ModelAll: the document's Do: put, update, delete. -/
import Derived.Test.YtjjilaanlhpogaaModelAllD
import Derived.Test.YtjjilaanlhpogaaLast
namespace Go.Proofs.Ytjjilaanlhpogaa
open Go.ChangeShapes Go.WideShapes Go.ChangeAt Go.RowKit Go.Maps Go.MapKept Go.Sort
set_option linter.unusedVariables false

theorem rc_one (r : Rw) : ∀ u ∈ rc r, u.oneCell' = true := by
  intro u hu
  simp [rc] at hu
  rcases hu with rfl | rfl | rfl <;> rfl
/-- the document's table has turned -/
theorem Rf.turn {W w w5 : World} {rb c m : Nat} {A : Option Addr} {R : List Rw} {u a0 a1 : Value} (hW : Ext W w) (hrb : W.heap.size ≤ rb) (hlt : rb < w.heap.size) (hx : Ext w w5) (hb : Blk w5 rb 29 #[u]) (hans : Blk w5 (w.heap.size + 1) 37 #[a0, a1]) (hm : m = R.length)
    (ho : w5.ownsRow w.heap.size 31 3 (.slice A m c) m (rcs R)) (u0 u1 : Value) : RTells W w rb 0 [] R (.returned (.agg #[.int .i64 0, .slice none 0 0])) (((w5.setCell ⟨rb, 0, none⟩ (.slice A m c)).setCell ⟨w.heap.size + 1, 0, none⟩ u0).setCell ⟨w.heap.size + 1, 1, none⟩ u1) := by
  subst hm
  have t1 : Touch w5 (w5.setCell ⟨rb, 0, none⟩ (.slice A R.length c)) (fun a => a = rb) := Touch.setCell (F := fun a => a = rb) (p := ⟨rb, 0, none⟩) (Touch.refl w5 _) (fun _ => rfl) _
  have t2 := touch_set2 (w5.setCell ⟨rb, 0, none⟩ (.slice A R.length c)) (w.heap.size + 1) u0 u1
  have b1 := hb.set_ 0 (.slice A R.length c)
  have o1 := ownsRow_touch t1 ho (fun z hz e => by subst e; exact own_blk_ne ho hb (by decide) hz)
  have a1' := t1.blk hans (by omega)
  have o2 := ownsRow_touch t2 o1 (fun z hz e => by subst e; exact own_blk_ne o1 a1' (by decide) hz)
  simp only [List.setIfInBounds_toArray, List.set_cons_zero] at b1
  have hWs := hW.size
  refine ⟨none, 0, A, c, rfl, World.ownsRow_nil _ _ _ _, ⟨t2.blk b1 (by omega), World.ownsRow.mono o2 hWs, hrb, ?_⟩, ?_⟩
  · exact ((((hW.trans hx).set_ (p := ⟨rb, 0, none⟩) hrb _).set_ (p := ⟨w.heap.size + 1, 0, none⟩) (by show W.heap.size ≤ w.heap.size + 1; omega) _).set_ (p := ⟨w.heap.size + 1, 1, none⟩) (by show W.heap.size ≤ w.heap.size + 1; omega) _)
  · refine (((Touch.of_below hx (fun a => a = rb)).setCell (F := fun a => a = rb) (p := ⟨rb, 0, none⟩) (fun _ => rfl) _).setCell (F := fun a => a = rb) (p := ⟨w.heap.size + 1, 0, none⟩) (fun h => ?_) _).setCell (F := fun a => a = rb) (p := ⟨w.heap.size + 1, 1, none⟩) (fun h => ?_) _
    · have h' : w.heap.size + 1 < w.heap.size := h
      omega
    · have h' : w.heap.size + 1 < w.heap.size := h
      omega
set_option maxRecDepth 100000 in
set_option maxHeartbeats 4000000 in
theorem rdo_put (W w : World) (rb : Nat) (A0 : Option Addr) (c0 : Nat) (R : List Rw) (f : ByteArray → Option Rw) (t n : Int) (r : Rw) (A : Option Addr) (l c : Nat) (h : Rf W w rb A0 c0 R) (hn : R.length ≤ 1000) (hz : Rz r) (hm : mayS 3 r = true) (hrep : Rep f R) (hkd : Kd f) (ho : f r.k = none) :
    Calls Try.prog 12 #[.pointer (some ⟨rb, 0, none⟩), stv 3 t n r A l c] w (fun e w' => ∃ R', Rep (putR f r.k (some r)) R' ∧ R'.length ≤ R.length + 1 ∧ RTells W w rb 0 [] R' e w') := by
  have hM := hide (fun w => rbad_any 3 t n r A l c w hz.1 hz.2.1 hz.2.2)
  have HM := hide hm
  have H := hide h
  have HP := hide hrep
  have HKD := hide hkd
  have HN := hide hn
  have HOO := hide ho
  clear ho
  obtain ⟨N, hNL⟩ : ∃ N, N = R.length := ⟨_, rfl⟩
  have HNL := hide hNL
  have hN : N ≤ 1000 := by omega
  obtain ⟨i0, hi0, iz0, iz1, iz2⟩ := info_parts Try.info31'
  clear hm hz h hrep hkd hn hNL
  simp only [stv] at hM ⊢
  go_enter Try.func12, Try.ntmps12
  go_upto_region 18 with (first
    | (go_at_call 21; refine (hM.out _).mono ?_; rintro e w1 ⟨rfl, x1⟩; rw [HM.out]; have HH := hide (Rh.start (n := n) (r := r) (A := A) (l := l) (c := c) H.out x1); have hk3 := HH.out.stp.cell 3; simp at hk3; clear x1)
    | (go_at_call 22; refine (rfind_any w1 rb _ A0 c0 R r.k HH.out.rf.blk (Reads.of_own HH.out.rf.own) HN.out).mono ?_; rintro e w2 ⟨k, b, m, rfl, hat, hb, hw2⟩; have HC := hide (HH.out.ex (show Ext w1 w2 from by rw [hw2]; exact (Ext.refl w1).drewN m)); obtain ⟨hbe, CA, CB, hcut⟩ := found_b HP.out HKD.out hat hb; rw [HOO.out] at hbe; obtain rfl : b = false := hbe; have HCUT := hide hcut; have hkN : k ≤ N := (by rw [HNL.out]; exact hat.1); have hs0 := HC.out.stp.cell 0; have hc0 := HC.out.rf.blk.cell 0; have ha0 := HC.out.ans.cell 0; have ha1 := HC.out.ans.cell 1; simp at hs0 hc0 ha0 ha1; rw [← HNL.out] at hc0; have fa0 := HC.out.ans.frozen 0; have fa1 := HC.out.ans.frozen 1; have hlt2 : w.heap.size + 1 < w2.heap.size := HC.out.ans.lt; have hrb2 : rb < w2.heap.size := HC.out.rf.blk.lt; clear hat hb hw2 hcut hk3 HH hM HM))
  have hs3 := HC.out.stp.cell 3
  have hs4 := HC.out.stp.cell 4
  have hs5 := HC.out.stp.cell 5
  simp at hs3 hs4 hs5
  have HLT := hide (show rb < w.heap.size from H.out.blk.lt)
  rcases H.out.shape with ⟨rfl, rfl, hR⟩ | ⟨g, rfl, hc1, hc2⟩
  · obtain rfl : N = 0 := by rw [HNL.out, hR]; rfl
    obtain rfl : k = 0 := by omega
    have RT : Hid (∀ A', Reads w2 w2.heap.size 3 A' 0 (rcs (R.take 0))) := fun A' => ⟨rfl, fun h => absurd h (by omega)⟩
    have RD : Hid (∀ A', Reads w2 w2.heap.size 3 A' 0 (rcs (R.drop 0))) := fun A' => reads_end HNL.out.symm (Nat.le_refl _) A'
    clear hR
    have HS := hide (show ∀ w' : World, Ext w2 w' → (fun w' => w'.cell? ⟨rb, 0, none⟩ = some (.slice none 0 0) ∧ w'.cell? ⟨w.heap.size, 3, none⟩ = some (.string r.k) ∧ w'.cell? ⟨w.heap.size, 4, none⟩ = some (.string r.s) ∧ w'.cell? ⟨w.heap.size, 5, none⟩ = some (.string r.v)) w' from fun w' hx => ⟨by simpa [HNL.out.symm] using (hx.blk HC.out.rf.blk).cell 0, by simpa using (hx.blk HC.out.stp).cell 3, by simpa using (hx.blk HC.out.stp).cell 4, by simpa using (hx.blk HC.out.stp).cell 5⟩)
    refine wp_region_F (S := (fun w' => w'.cell? ⟨rb, 0, none⟩ = some (.slice none 0 0) ∧ w'.cell? ⟨w.heap.size, 3, none⟩ = some (.string r.k) ∧ w'.cell? ⟨w.heap.size, 4, none⟩ = some (.string r.s) ∧ w'.cell? ⟨w.heap.size, 5, none⟩ = some (.string r.v))) 22 (by kernel_rfl) (by kernel_rfl) ⟨hc0, hs3, hs4, hs5⟩ (fun hHeld => ?_)
    refine GoF.take 0 (some 72) (v := ?_) rfl rfl (by kernel_rfl) (by kernel_rfl) (by kernel_rfl) (fun _ _ _ h => h) (Or.inl ⟨by rfl, ?_⟩) (by assumption) ?_
    rotate_left
    · intro w' hSw
      try dsimp only at hSw
      go_simp
      try with_reducible rfl
    try simp only [Act.put, List.setIfInBounds_toArray, List.set_cons_zero, List.set_cons_succ]
    refine GoF.take 2 (some 74) (v := ?_) rfl rfl (by kernel_rfl) (by kernel_rfl) (by kernel_rfl) (fun _ _ _ h => h) (Or.inl ⟨by rfl, ?_⟩) (by assumption) ?_
    rotate_left
    · intro w' hSw
      try dsimp only at hSw
      go_simp
      try with_reducible rfl
    try simp only [Act.put, List.setIfInBounds_toArray, List.set_cons_zero, List.set_cons_succ]
    refine GoF.take 3 (some 75) (v := ?_) rfl rfl (by kernel_rfl) (by kernel_rfl) (by kernel_rfl) (fun _ _ _ h => h) (Or.inl ⟨by rfl, ?_⟩) (by assumption) ?_
    rotate_left
    · intro w' hSw
      try dsimp only at hSw
      go_simp
      try with_reducible rfl
    try simp only [Act.put, List.setIfInBounds_toArray, List.set_cons_zero, List.set_cons_succ]
    refine GoF.take 4 (some 76) (v := ?_) rfl rfl (by kernel_rfl) (by kernel_rfl) (by kernel_rfl) (fun _ _ _ h => h) (Or.inl ⟨by rfl, ?_⟩) (by assumption) ?_
    rotate_left
    · intro w' hSw
      try dsimp only at hSw
      go_simp
      try with_reducible rfl
    try simp only [Act.put, List.setIfInBounds_toArray, List.set_cons_zero, List.set_cons_succ]
    refine GoF.take 5 (some 77) (v := ?_) rfl rfl (by kernel_rfl) (by kernel_rfl) (by kernel_rfl) (fun _ _ _ h => h) (Or.inl ⟨by rfl, ?_⟩) (by assumption) ?_
    rotate_left
    · intro w' hSw
      try dsimp only at hSw
      go_simp
      try with_reducible rfl
    try simp only [Act.put, List.setIfInBounds_toArray, List.set_cons_zero, List.set_cons_succ]
    refine GoF.take 6 (some 78) (v := ?_) rfl rfl (by kernel_rfl) (by kernel_rfl) (by kernel_rfl) (fun _ _ _ h => h) (Or.inl ⟨by rfl, ?_⟩) (by assumption) ?_
    rotate_left
    · intro w' hSw
      try dsimp only at hSw
      go_simp
      try with_reducible rfl
    try simp only [Act.put, List.setIfInBounds_toArray, List.set_cons_zero, List.set_cons_succ]
    refine GoF.take 7 (some 79) (v := ?_) rfl rfl (by kernel_rfl) (by kernel_rfl) (by kernel_rfl) (fun _ _ _ h => h) (Or.inl ⟨by rfl, ?_⟩) (by assumption) ?_
    rotate_left
    · intro w' hSw
      try dsimp only at hSw
      go_simp
      try with_reducible rfl
    try simp only [Act.put, List.setIfInBounds_toArray, List.set_cons_zero, List.set_cons_succ]
    refine GoF.take 9 (some 81) (v := ?_) rfl rfl (by kernel_rfl) (by kernel_rfl) (by kernel_rfl) (fun _ _ _ h => h) (Or.inl ⟨by rfl, ?_⟩) (by assumption) ?_
    rotate_left
    · intro w' hSw
      try dsimp only at hSw
      go_simp
      try with_reducible rfl
    try simp only [Act.put, List.setIfInBounds_toArray, List.set_cons_zero, List.set_cons_succ]
    refine GoF.take 10 (some 82) (v := ?_) rfl rfl (by kernel_rfl) (by kernel_rfl) (by kernel_rfl) (fun _ _ _ h => h) (Or.inl ⟨by rfl, ?_⟩) (by assumption) ?_
    rotate_left
    · intro w' hSw
      try dsimp only at hSw
      go_simp
      try with_reducible rfl
    try simp only [Act.put, List.setIfInBounds_toArray, List.set_cons_zero, List.set_cons_succ]
    refine GoF.take 13 (some 85) (v := ?_) rfl rfl (by kernel_rfl) (by kernel_rfl) (by kernel_rfl) (fun _ _ _ h => h) (Or.inl ⟨by rfl, ?_⟩) (by assumption) ?_
    rotate_left
    · intro w' hSw
      try dsimp only at hSw
      go_simp
      try with_reducible rfl
    try simp only [Act.put, List.setIfInBounds_toArray, List.set_cons_zero, List.set_cons_succ]
    refine GoF.take 14 (some 86) (v := ?_) rfl rfl (by kernel_rfl) (by kernel_rfl) (by kernel_rfl) (fun _ _ _ h => h) (Or.inl ⟨by rfl, ?_⟩) (by assumption) ?_
    rotate_left
    · intro w' hSw
      try dsimp only at hSw
      go_simp
      try with_reducible rfl
    try simp only [Act.put, List.setIfInBounds_toArray, List.set_cons_zero, List.set_cons_succ]
    refine GoF.take 15 (some 87) (v := ?_) rfl rfl (by kernel_rfl) (by kernel_rfl) (by kernel_rfl) (fun _ _ _ h => h) (Or.inl ⟨by rfl, ?_⟩) (by assumption) ?_
    rotate_left
    · intro w' hSw
      try dsimp only at hSw
      go_simp
      try with_reducible rfl
    try simp only [Act.put, List.setIfInBounds_toArray, List.set_cons_zero, List.set_cons_succ]
    refine GoF.take 16 (some 88) (v := ?_) rfl rfl (by kernel_rfl) (by kernel_rfl) (by kernel_rfl) (fun _ _ _ h => h) (Or.inl ⟨by rfl, ?_⟩) (by assumption) ?_
    rotate_left
    · intro w' hSw
      try dsimp only at hSw
      go_simp
      try with_reducible rfl
    try simp only [Act.put, List.setIfInBounds_toArray, List.set_cons_zero, List.set_cons_succ]
    refine GoF.take 17 (some 89) (v := ?_) rfl rfl (by kernel_rfl) (by kernel_rfl) (by kernel_rfl) (fun _ _ _ h => h) (Or.inl ⟨by rfl, ?_⟩) (by assumption) ?_
    rotate_left
    · intro w' hSw
      try dsimp only at hSw
      go_simp
      try with_reducible rfl
    try simp only [Act.put, List.setIfInBounds_toArray, List.set_cons_zero, List.set_cons_succ]
    refine GoF.take 18 (some 90) (v := ?_) rfl rfl (by kernel_rfl) (by kernel_rfl) (by kernel_rfl) (fun _ _ _ h => h) (Or.inl ⟨by rfl, ?_⟩) (by assumption) ?_
    rotate_left
    · intro w' hSw
      try dsimp only at hSw
      go_simp
      try with_reducible rfl
    try simp only [Act.put, List.setIfInBounds_toArray, List.set_cons_zero, List.set_cons_succ]
    refine GoF.each (rs := [1, 11]) (by kernel_rfl) (by kernel_rfl) (by kernel_rfl) ?_
    refine EachF.cons (i := 1) rfl (fun K hK => ?_) ?_
    · go_simp
      refine hK.out _ _ (HS.out _ (by (repeat (first | with_reducible exact Ext.refl _ | with_reducible refine Ext.drew ?_ | with_reducible refine Ext.alloc ?_ _)))) (fun hHeld => ?_)
      clear hK K
      try simp only [Act.put, List.setIfInBounds_toArray, List.set_cons_zero, List.set_cons_succ]
      refine GoF.each (rs := [8, 11]) (by kernel_rfl) (by kernel_rfl) (by kernel_rfl) ?_
      refine EachF.cons (i := 8) rfl (fun K hK => ?_) ?_
      · refine step_append_any _ rfl (.tmp 73) (.tmp 79) _ rfl w2.heap.size 31 i0 _ 3 48 Try.underlying27 hi0 iz0 iz1 iz2 rfl (by omega) (.slice (some ⟨_, 0, none⟩) 0 0) (0) ([]) rfl (World.ownsRow_made (base := w2.heap.size) (e := 31) (size := 3) w2.drew #[] 0 (Nat.le_refl _) (Nat.zero_le _) rfl) _ _ (0) _ (rcs (R.take 0)) rfl (Ext.reads (a := w2) (by (repeat (first | with_reducible exact Ext.refl _ | with_reducible refine Ext.drew ?_ | with_reducible refine Ext.alloc ?_ _))) (RT.out _) (Nat.le_refl _)) (rcs_one _) (by unfold maxLen; omega) (by omega) (by simp; try omega) ?_
        intro v3 w3 ho3 hg3 hat3
        rw [Nat.zero_add, List.nil_append] at ho3
        have E3 := hide (Ext.grown (a := w2) (by (repeat (first | with_reducible exact Ext.refl _ | with_reducible refine Ext.drew ?_ | with_reducible refine Ext.alloc ?_ _))) hg3 (fun z hz => by simp [Value.ownBlock] at hz; omega))
        obtain ⟨A3, c3, hv3, _⟩ := own_form ho3
        subst hv3
        have O3 := hide ho3
        refine hK.out _ _ (HS.out _ E3.out) (fun hHeld => ?_)
        clear ho3 hg3 hat3 hK K
        change GoF _ _ _ _ _ _ _ _ (Act.put _ (some 80) _) _
        simp only [Act.put, List.setIfInBounds_toArray, List.set_cons_zero, List.set_cons_succ]
        refine GoF.each (rs := [11]) (by kernel_rfl) (by kernel_rfl) (by kernel_rfl) ?_
        refine EachF.cons (i := 11) rfl (fun K hK => ?_) EachF.nil
        go_simp
        refine hK.out _ _ (HS.out _ (by (repeat (first | with_reducible exact Ext.refl _ | with_reducible exact E3.out | with_reducible refine Ext.drew ?_ | with_reducible refine Ext.alloc ?_ _)))) (fun hHeld => ?_)
        clear hK K
        try simp only [Act.put, List.setIfInBounds_toArray, List.set_cons_zero, List.set_cons_succ]
        refine GoF.each (rs := [12]) (by kernel_rfl) (by kernel_rfl) (by kernel_rfl) ?_
        refine EachF.cons (i := 12) rfl (fun K hK => ?_) EachF.nil
        refine step_append_any _ rfl (.tmp 80) (.tmp 83) _ rfl w2.heap.size 31 i0 _ 3 48 Try.underlying27 hi0 iz0 iz1 iz2 rfl (by omega) (.slice A3 0 c3) (0) (rcs (R.take 0)) rfl (O3.out.alloc _) _ _ (1) _ (rc r) rfl (reads_blk (m := 3) (Blk.new w3 31 #[.string r.k, .string r.s, .string r.v]) rfl) (rc_one r) (by unfold maxLen; omega) (by omega) (by have := E3.out.size; simp; try omega) ?_
        intro v4 w4 ho4 hg4 hat4
        have E4 := hide (Ext.grown (a := w2) (by (repeat (first | with_reducible exact Ext.refl _ | with_reducible exact E3.out | with_reducible refine Ext.drew ?_ | with_reducible refine Ext.alloc ?_ _))) hg4 (fun z hz => (O3.out.lt z hz).1))
        obtain ⟨A4, c4, hv4, _⟩ := own_form ho4
        subst hv4
        have O4 := hide ho4
        refine hK.out _ _ (HS.out _ E4.out) (fun hHeld => ?_)
        clear ho4 hg4 hat4 hK K
        change GoF _ _ _ _ _ _ _ _ (Act.put _ (some 84) _) _
        simp only [Act.put, List.setIfInBounds_toArray, List.set_cons_zero, List.set_cons_succ]
        refine GoF.each (rs := [19]) (by kernel_rfl) (by kernel_rfl) (by kernel_rfl) ?_
        refine EachF.cons (i := 19) rfl (fun K hK => ?_) EachF.nil
        refine step_append_any _ rfl (.tmp 84) (.tmp 90) _ rfl w2.heap.size 31 i0 _ 3 48 Try.underlying27 hi0 iz0 iz1 iz2 rfl (by omega) (.slice A4 (0 + 1) c4) (0 + 1) (rcs (R.take 0) ++ rc r) rfl (O4.out) _ _ (0) _ (rcs (R.drop 0)) rfl (Ext.reads E4.out (RD.out _) (Nat.le_refl _)) (rcs_one _) (by unfold maxLen; omega) (by omega) (E4.out.size) ?_
        intro v5 w5 ho5 hg5 hat5
        have E5 := hide (Ext.grown (a := w2) E4.out hg5 (fun z hz => (O4.out.lt z hz).1))
        obtain ⟨A5, c5, hv5, _⟩ := own_form ho5
        subst hv5
        have O5 := hide ho5
        refine hK.out _ _ (HS.out _ E5.out) (fun hHeld => ?_)
        clear ho5 hg5 hat5 hK K
        change GoF _ _ _ _ _ _ _ _ (Act.put _ (some 91) _) _
        simp only [Act.put, List.setIfInBounds_toArray, List.set_cons_zero, List.set_cons_succ]
        refine GoF.take 20 (some 92) (v := ?_) rfl rfl (by kernel_rfl) (by kernel_rfl) (by kernel_rfl) (fun _ _ _ h => h) (Or.inl ⟨by rfl, ?_⟩) (by assumption) ?_
        rotate_left
        · intro w' hSw
          try dsimp only at hSw
          go_simp
          try with_reducible rfl
        try simp only [Act.put, List.setIfInBounds_toArray, List.set_cons_zero, List.set_cons_succ]
        refine GoF.take 21 (some 93) (v := ?_) rfl rfl (by kernel_rfl) (by kernel_rfl) (by kernel_rfl) (fun _ _ _ h => h) (Or.inl ⟨by rfl, ?_⟩) (by assumption) ?_
        rotate_left
        · intro w' hSw
          try dsimp only at hSw
          go_simp
          try with_reducible rfl
        try simp only [Act.put, List.setIfInBounds_toArray, List.set_cons_zero, List.set_cons_succ]
        refine GoF.last (by kernel_rfl) (by kernel_rfl) rfl (fun K hK => ?_)
        have B5 := hide (E5.out.blk HC.out.rf.blk)
        have y5 := B5.out.cell 0
        simp at y5
        have z5 := B5.out.frozen 0
        have a5 := E5.out.blk HC.out.ans
        have AN := hide a5
        have b0 := a5.cell 0
        have b1 := a5.cell 1
        simp at b0 b1
        have fb0 := a5.frozen 0
        have fb1 := a5.frozen 1
        clear a5 ha0 ha1 hs0 hs3 hs4 hs5 hc0
        go_simp
        refine hK.out _ _ ?_
        clear hK K
        have hne : rb ≠ w.heap.size + 1 := by have := HLT.out; omega
        go_wp2_with (fail)
        have hfin := Rf.turn (m := 0 + 1 + (0)) (R := R.take 0 ++ ([r] ++ R.drop 0)) (A := A5) (c := c5) H.out.ext H.out.hb HLT.out (HC.out.ext.trans E5.out) B5.out AN.out (by simp [HNL.out.symm]; try omega) (by have h := World.ownsRow.mono O5.out HC.out.ext.size; simpa [rcs_app, rcs, rc] using h) (.int .i64 0) (.slice none 0 0)
        have q := (AN.out.far (p := ⟨rb, 0, none⟩) (show w.heap.size + 1 ≠ rb by omega) (.slice A5 (0 + 1 + (0)) c5)).set2 (.int .i64 0) (.slice none 0 0)
        have q0 := q.cell 0
        have q1 := q.cell 1
        simp only [List.getElem?_toArray, List.getElem?_cons_zero, List.getElem?_cons_succ] at q0 q1
        have eA := HCUT.out.take
        have eB := HCUT.out.drop
        rw [HOO.out] at eB
        have hrep2 := HCUT.out.put HP.out HKD.out (o := some r) (fun r' e => by injection e with e; rw [e])
        rw [← eA, show CB = R.drop 0 from eB.symm] at hrep2
        exact bodyPost_ret (v := .agg #[.int .i64 0, .slice none 0 0]) (by simp [results, Try.results12, go_sem, q0, q1]) rfl ⟨_, hrep2, by simp; try omega, hfin⟩
      refine EachF.cons (i := 11) rfl (fun K hK => ?_) ?_
      · go_simp
        refine hK.out _ _ (HS.out _ (by (repeat (first | with_reducible exact Ext.refl _ | with_reducible refine Ext.drew ?_ | with_reducible refine Ext.alloc ?_ _)))) (fun hHeld => ?_)
        clear hK K
        try simp only [Act.put, List.setIfInBounds_toArray, List.set_cons_zero, List.set_cons_succ]
        refine GoF.each (rs := [8]) (by kernel_rfl) (by kernel_rfl) (by kernel_rfl) ?_
        refine EachF.cons (i := 8) rfl (fun K hK => ?_) EachF.nil
        refine step_append_any _ rfl (.tmp 73) (.tmp 79) _ rfl w2.heap.size 31 i0 _ 3 48 Try.underlying27 hi0 iz0 iz1 iz2 rfl (by omega) (.slice (some ⟨_, 0, none⟩) 0 0) (0) ([]) rfl ((World.ownsRow_made (base := w2.heap.size) (e := 31) (size := 3) w2.drew #[] 0 (Nat.le_refl _) (Nat.zero_le _) rfl).alloc _) _ _ (0) _ (rcs (R.take 0)) rfl (Ext.reads (a := w2) (by (repeat (first | with_reducible exact Ext.refl _ | with_reducible refine Ext.drew ?_ | with_reducible refine Ext.alloc ?_ _))) (RT.out _) (Nat.le_refl _)) (rcs_one _) (by unfold maxLen; omega) (by omega) (by simp; try omega) ?_
        intro v3 w3 ho3 hg3 hat3
        rw [Nat.zero_add, List.nil_append] at ho3
        have E3 := hide (Ext.grown (a := w2) (by (repeat (first | with_reducible exact Ext.refl _ | with_reducible refine Ext.drew ?_ | with_reducible refine Ext.alloc ?_ _))) hg3 (fun z hz => by simp [Value.ownBlock] at hz; omega))
        have KX := hide (show Blk w3 (w2.heap.size + 1) 31 #[.string r.k, .string r.s, .string r.v] from (by have h := Blk.grown (Blk.new (w2.drew.alloc (.cells #[] 31)) 31 #[.string r.k, .string r.s, .string r.v]) hg3 (by simp [Value.ownBlock]); have e : (w2.drew.alloc (.cells #[] 31)).heap.size = w2.heap.size + 1 := (by simp); rw [e] at h; exact h))
        obtain ⟨A3, c3, hv3, _⟩ := own_form ho3
        subst hv3
        have O3 := hide ho3
        refine hK.out _ _ (HS.out _ E3.out) (fun hHeld => ?_)
        clear ho3 hg3 hat3 hK K
        change GoF _ _ _ _ _ _ _ _ (Act.put _ (some 80) _) _
        simp only [Act.put, List.setIfInBounds_toArray, List.set_cons_zero, List.set_cons_succ]
        refine GoF.each (rs := [12]) (by kernel_rfl) (by kernel_rfl) (by kernel_rfl) ?_
        refine EachF.cons (i := 12) rfl (fun K hK => ?_) EachF.nil
        refine step_append_any _ rfl (.tmp 80) (.tmp 83) _ rfl w2.heap.size 31 i0 _ 3 48 Try.underlying27 hi0 iz0 iz1 iz2 rfl (by omega) (.slice A3 0 c3) (0) (rcs (R.take 0)) rfl (O3.out) _ _ (1) _ (rc r) rfl (reads_blk (m := 3) KX.out rfl) (rc_one r) (by unfold maxLen; omega) (by omega) (by have := E3.out.size; simp; try omega) ?_
        intro v4 w4 ho4 hg4 hat4
        have E4 := hide (Ext.grown (a := w2) (by (repeat (first | with_reducible exact Ext.refl _ | with_reducible exact E3.out | with_reducible refine Ext.drew ?_ | with_reducible refine Ext.alloc ?_ _))) hg4 (fun z hz => (O3.out.lt z hz).1))
        obtain ⟨A4, c4, hv4, _⟩ := own_form ho4
        subst hv4
        have O4 := hide ho4
        refine hK.out _ _ (HS.out _ E4.out) (fun hHeld => ?_)
        clear ho4 hg4 hat4 hK K
        change GoF _ _ _ _ _ _ _ _ (Act.put _ (some 84) _) _
        simp only [Act.put, List.setIfInBounds_toArray, List.set_cons_zero, List.set_cons_succ]
        refine GoF.each (rs := [19]) (by kernel_rfl) (by kernel_rfl) (by kernel_rfl) ?_
        refine EachF.cons (i := 19) rfl (fun K hK => ?_) EachF.nil
        refine step_append_any _ rfl (.tmp 84) (.tmp 90) _ rfl w2.heap.size 31 i0 _ 3 48 Try.underlying27 hi0 iz0 iz1 iz2 rfl (by omega) (.slice A4 (0 + 1) c4) (0 + 1) (rcs (R.take 0) ++ rc r) rfl (O4.out) _ _ (0) _ (rcs (R.drop 0)) rfl (Ext.reads E4.out (RD.out _) (Nat.le_refl _)) (rcs_one _) (by unfold maxLen; omega) (by omega) (E4.out.size) ?_
        intro v5 w5 ho5 hg5 hat5
        have E5 := hide (Ext.grown (a := w2) E4.out hg5 (fun z hz => (O4.out.lt z hz).1))
        obtain ⟨A5, c5, hv5, _⟩ := own_form ho5
        subst hv5
        have O5 := hide ho5
        refine hK.out _ _ (HS.out _ E5.out) (fun hHeld => ?_)
        clear ho5 hg5 hat5 hK K
        change GoF _ _ _ _ _ _ _ _ (Act.put _ (some 91) _) _
        simp only [Act.put, List.setIfInBounds_toArray, List.set_cons_zero, List.set_cons_succ]
        refine GoF.take 20 (some 92) (v := ?_) rfl rfl (by kernel_rfl) (by kernel_rfl) (by kernel_rfl) (fun _ _ _ h => h) (Or.inl ⟨by rfl, ?_⟩) (by assumption) ?_
        rotate_left
        · intro w' hSw
          try dsimp only at hSw
          go_simp
          try with_reducible rfl
        try simp only [Act.put, List.setIfInBounds_toArray, List.set_cons_zero, List.set_cons_succ]
        refine GoF.take 21 (some 93) (v := ?_) rfl rfl (by kernel_rfl) (by kernel_rfl) (by kernel_rfl) (fun _ _ _ h => h) (Or.inl ⟨by rfl, ?_⟩) (by assumption) ?_
        rotate_left
        · intro w' hSw
          try dsimp only at hSw
          go_simp
          try with_reducible rfl
        try simp only [Act.put, List.setIfInBounds_toArray, List.set_cons_zero, List.set_cons_succ]
        refine GoF.last (by kernel_rfl) (by kernel_rfl) rfl (fun K hK => ?_)
        have B5 := hide (E5.out.blk HC.out.rf.blk)
        have y5 := B5.out.cell 0
        simp at y5
        have z5 := B5.out.frozen 0
        have a5 := E5.out.blk HC.out.ans
        have AN := hide a5
        have b0 := a5.cell 0
        have b1 := a5.cell 1
        simp at b0 b1
        have fb0 := a5.frozen 0
        have fb1 := a5.frozen 1
        clear a5 ha0 ha1 hs0 hs3 hs4 hs5 hc0
        go_simp
        refine hK.out _ _ ?_
        clear hK K
        have hne : rb ≠ w.heap.size + 1 := by have := HLT.out; omega
        go_wp2_with (fail)
        have hfin := Rf.turn (m := 0 + 1 + (0)) (R := R.take 0 ++ ([r] ++ R.drop 0)) (A := A5) (c := c5) H.out.ext H.out.hb HLT.out (HC.out.ext.trans E5.out) B5.out AN.out (by simp [HNL.out.symm]; try omega) (by have h := World.ownsRow.mono O5.out HC.out.ext.size; simpa [rcs_app, rcs, rc] using h) (.int .i64 0) (.slice none 0 0)
        have q := (AN.out.far (p := ⟨rb, 0, none⟩) (show w.heap.size + 1 ≠ rb by omega) (.slice A5 (0 + 1 + (0)) c5)).set2 (.int .i64 0) (.slice none 0 0)
        have q0 := q.cell 0
        have q1 := q.cell 1
        simp only [List.getElem?_toArray, List.getElem?_cons_zero, List.getElem?_cons_succ] at q0 q1
        have eA := HCUT.out.take
        have eB := HCUT.out.drop
        rw [HOO.out] at eB
        have hrep2 := HCUT.out.put HP.out HKD.out (o := some r) (fun r' e => by injection e with e; rw [e])
        rw [← eA, show CB = R.drop 0 from eB.symm] at hrep2
        exact bodyPost_ret (v := .agg #[.int .i64 0, .slice none 0 0]) (by simp [results, Try.results12, go_sem, q0, q1]) rfl ⟨_, hrep2, by simp; try omega, hfin⟩
      exact EachF.nil
    refine EachF.cons (i := 11) rfl (fun K hK => ?_) ?_
    · go_simp
      refine hK.out _ _ (HS.out _ (by (repeat (first | with_reducible exact Ext.refl _ | with_reducible refine Ext.drew ?_ | with_reducible refine Ext.alloc ?_ _)))) (fun hHeld => ?_)
      clear hK K
      try simp only [Act.put, List.setIfInBounds_toArray, List.set_cons_zero, List.set_cons_succ]
      refine GoF.each (rs := [1]) (by kernel_rfl) (by kernel_rfl) (by kernel_rfl) ?_
      refine EachF.cons (i := 1) rfl (fun K hK => ?_) EachF.nil
      go_simp
      refine hK.out _ _ (HS.out _ (by (repeat (first | with_reducible exact Ext.refl _ | with_reducible refine Ext.drew ?_ | with_reducible refine Ext.alloc ?_ _)))) (fun hHeld => ?_)
      clear hK K
      try simp only [Act.put, List.setIfInBounds_toArray, List.set_cons_zero, List.set_cons_succ]
      refine GoF.each (rs := [8]) (by kernel_rfl) (by kernel_rfl) (by kernel_rfl) ?_
      refine EachF.cons (i := 8) rfl (fun K hK => ?_) EachF.nil
      refine step_append_any _ rfl (.tmp 73) (.tmp 79) _ rfl w2.heap.size 31 i0 _ 3 48 Try.underlying27 hi0 iz0 iz1 iz2 rfl (by omega) (.slice (some ⟨_, 0, none⟩) 0 0) (0) ([]) rfl (by have h := World.ownsRow_made (base := w2.heap.size) (e := 31) (size := 3) (w2.drew.alloc (.cells #[.string r.k, .string r.s, .string r.v] 31)) #[] 0 (by simp) (Nat.zero_le _) rfl; have e : (w2.drew.alloc (.cells #[.string r.k, .string r.s, .string r.v] 31)).heap.size = w2.heap.size + 1 := (by simp); rw [e] at h; exact h) _ _ (0) _ (rcs (R.take 0)) rfl (Ext.reads (a := w2) (by (repeat (first | with_reducible exact Ext.refl _ | with_reducible refine Ext.drew ?_ | with_reducible refine Ext.alloc ?_ _))) (RT.out _) (Nat.le_refl _)) (rcs_one _) (by unfold maxLen; omega) (by omega) (by simp; try omega) ?_
      intro v3 w3 ho3 hg3 hat3
      rw [Nat.zero_add, List.nil_append] at ho3
      have E3 := hide (Ext.grown (a := w2) (by (repeat (first | with_reducible exact Ext.refl _ | with_reducible refine Ext.drew ?_ | with_reducible refine Ext.alloc ?_ _))) hg3 (fun z hz => by simp [Value.ownBlock] at hz; omega))
      have KX := hide (Blk.grown (Blk.alloc (Blk.new w2.drew 31 #[.string r.k, .string r.s, .string r.v]) (.cells #[] 31)) hg3 (by simp [Value.ownBlock]))
      obtain ⟨A3, c3, hv3, _⟩ := own_form ho3
      subst hv3
      have O3 := hide ho3
      refine hK.out _ _ (HS.out _ E3.out) (fun hHeld => ?_)
      clear ho3 hg3 hat3 hK K
      change GoF _ _ _ _ _ _ _ _ (Act.put _ (some 80) _) _
      simp only [Act.put, List.setIfInBounds_toArray, List.set_cons_zero, List.set_cons_succ]
      refine GoF.each (rs := [12]) (by kernel_rfl) (by kernel_rfl) (by kernel_rfl) ?_
      refine EachF.cons (i := 12) rfl (fun K hK => ?_) EachF.nil
      refine step_append_any _ rfl (.tmp 80) (.tmp 83) _ rfl w2.heap.size 31 i0 _ 3 48 Try.underlying27 hi0 iz0 iz1 iz2 rfl (by omega) (.slice A3 0 c3) (0) (rcs (R.take 0)) rfl (O3.out) _ _ (1) _ (rc r) rfl (reads_blk (m := 3) KX.out rfl) (rc_one r) (by unfold maxLen; omega) (by omega) (by have := E3.out.size; simp; try omega) ?_
      intro v4 w4 ho4 hg4 hat4
      have E4 := hide (Ext.grown (a := w2) (by (repeat (first | with_reducible exact Ext.refl _ | with_reducible exact E3.out | with_reducible refine Ext.drew ?_ | with_reducible refine Ext.alloc ?_ _))) hg4 (fun z hz => (O3.out.lt z hz).1))
      obtain ⟨A4, c4, hv4, _⟩ := own_form ho4
      subst hv4
      have O4 := hide ho4
      refine hK.out _ _ (HS.out _ E4.out) (fun hHeld => ?_)
      clear ho4 hg4 hat4 hK K
      change GoF _ _ _ _ _ _ _ _ (Act.put _ (some 84) _) _
      simp only [Act.put, List.setIfInBounds_toArray, List.set_cons_zero, List.set_cons_succ]
      refine GoF.each (rs := [19]) (by kernel_rfl) (by kernel_rfl) (by kernel_rfl) ?_
      refine EachF.cons (i := 19) rfl (fun K hK => ?_) EachF.nil
      refine step_append_any _ rfl (.tmp 84) (.tmp 90) _ rfl w2.heap.size 31 i0 _ 3 48 Try.underlying27 hi0 iz0 iz1 iz2 rfl (by omega) (.slice A4 (0 + 1) c4) (0 + 1) (rcs (R.take 0) ++ rc r) rfl (O4.out) _ _ (0) _ (rcs (R.drop 0)) rfl (Ext.reads E4.out (RD.out _) (Nat.le_refl _)) (rcs_one _) (by unfold maxLen; omega) (by omega) (E4.out.size) ?_
      intro v5 w5 ho5 hg5 hat5
      have E5 := hide (Ext.grown (a := w2) E4.out hg5 (fun z hz => (O4.out.lt z hz).1))
      obtain ⟨A5, c5, hv5, _⟩ := own_form ho5
      subst hv5
      have O5 := hide ho5
      refine hK.out _ _ (HS.out _ E5.out) (fun hHeld => ?_)
      clear ho5 hg5 hat5 hK K
      change GoF _ _ _ _ _ _ _ _ (Act.put _ (some 91) _) _
      simp only [Act.put, List.setIfInBounds_toArray, List.set_cons_zero, List.set_cons_succ]
      refine GoF.take 20 (some 92) (v := ?_) rfl rfl (by kernel_rfl) (by kernel_rfl) (by kernel_rfl) (fun _ _ _ h => h) (Or.inl ⟨by rfl, ?_⟩) (by assumption) ?_
      rotate_left
      · intro w' hSw
        try dsimp only at hSw
        go_simp
        try with_reducible rfl
      try simp only [Act.put, List.setIfInBounds_toArray, List.set_cons_zero, List.set_cons_succ]
      refine GoF.take 21 (some 93) (v := ?_) rfl rfl (by kernel_rfl) (by kernel_rfl) (by kernel_rfl) (fun _ _ _ h => h) (Or.inl ⟨by rfl, ?_⟩) (by assumption) ?_
      rotate_left
      · intro w' hSw
        try dsimp only at hSw
        go_simp
        try with_reducible rfl
      try simp only [Act.put, List.setIfInBounds_toArray, List.set_cons_zero, List.set_cons_succ]
      refine GoF.last (by kernel_rfl) (by kernel_rfl) rfl (fun K hK => ?_)
      have B5 := hide (E5.out.blk HC.out.rf.blk)
      have y5 := B5.out.cell 0
      simp at y5
      have z5 := B5.out.frozen 0
      have a5 := E5.out.blk HC.out.ans
      have AN := hide a5
      have b0 := a5.cell 0
      have b1 := a5.cell 1
      simp at b0 b1
      have fb0 := a5.frozen 0
      have fb1 := a5.frozen 1
      clear a5 ha0 ha1 hs0 hs3 hs4 hs5 hc0
      go_simp
      refine hK.out _ _ ?_
      clear hK K
      have hne : rb ≠ w.heap.size + 1 := by have := HLT.out; omega
      go_wp2_with (fail)
      have hfin := Rf.turn (m := 0 + 1 + (0)) (R := R.take 0 ++ ([r] ++ R.drop 0)) (A := A5) (c := c5) H.out.ext H.out.hb HLT.out (HC.out.ext.trans E5.out) B5.out AN.out (by simp [HNL.out.symm]; try omega) (by have h := World.ownsRow.mono O5.out HC.out.ext.size; simpa [rcs_app, rcs, rc] using h) (.int .i64 0) (.slice none 0 0)
      have q := (AN.out.far (p := ⟨rb, 0, none⟩) (show w.heap.size + 1 ≠ rb by omega) (.slice A5 (0 + 1 + (0)) c5)).set2 (.int .i64 0) (.slice none 0 0)
      have q0 := q.cell 0
      have q1 := q.cell 1
      simp only [List.getElem?_toArray, List.getElem?_cons_zero, List.getElem?_cons_succ] at q0 q1
      have eA := HCUT.out.take
      have eB := HCUT.out.drop
      rw [HOO.out] at eB
      have hrep2 := HCUT.out.put HP.out HKD.out (o := some r) (fun r' e => by injection e with e; rw [e])
      rw [← eA, show CB = R.drop 0 from eB.symm] at hrep2
      exact bodyPost_ret (v := .agg #[.int .i64 0, .slice none 0 0]) (by simp [results, Try.results12, go_sem, q0, q1]) rfl ⟨_, hrep2, by simp; try omega, hfin⟩
    exact EachF.nil
  · rw [← HNL.out] at hc1
    by_cases hck : c0 = k
    · subst hck
      obtain rfl : N = c0 := by omega
      have RT := hide (reads_takeR (by rw [HNL.out]; exact Reads.of_own HC.out.own) (Nat.le_refl N))
      have RD : Hid (∀ A', Reads w2 w2.heap.size 3 A' 0 (rcs (R.drop N))) := fun A' => reads_end HNL.out.symm (Nat.le_refl _) A'
      have HS := hide (show ∀ w' : World, Ext w2 w' → (fun w' => w'.cell? ⟨rb, 0, none⟩ = some (.slice (some ⟨g, 0, none⟩) N N) ∧ w'.cell? ⟨w.heap.size, 3, none⟩ = some (.string r.k) ∧ w'.cell? ⟨w.heap.size, 4, none⟩ = some (.string r.s) ∧ w'.cell? ⟨w.heap.size, 5, none⟩ = some (.string r.v)) w' from fun w' hx => ⟨by simpa [HNL.out.symm] using (hx.blk HC.out.rf.blk).cell 0, by simpa using (hx.blk HC.out.stp).cell 3, by simpa using (hx.blk HC.out.stp).cell 4, by simpa using (hx.blk HC.out.stp).cell 5⟩)
      refine wp_region_F (S := (fun w' => w'.cell? ⟨rb, 0, none⟩ = some (.slice (some ⟨g, 0, none⟩) N N) ∧ w'.cell? ⟨w.heap.size, 3, none⟩ = some (.string r.k) ∧ w'.cell? ⟨w.heap.size, 4, none⟩ = some (.string r.s) ∧ w'.cell? ⟨w.heap.size, 5, none⟩ = some (.string r.v))) 22 (by kernel_rfl) (by kernel_rfl) ⟨hc0, hs3, hs4, hs5⟩ (fun hHeld => ?_)
      refine GoF.take 0 (some 72) (v := ?_) rfl rfl (by kernel_rfl) (by kernel_rfl) (by kernel_rfl) (fun _ _ _ h => h) (Or.inl ⟨by rfl, ?_⟩) (by assumption) ?_
      rotate_left
      · intro w' hSw
        try dsimp only at hSw
        go_simp
        try with_reducible rfl
      try simp only [Act.put, List.setIfInBounds_toArray, List.set_cons_zero, List.set_cons_succ]
      refine GoF.take 2 (some 74) (v := ?_) rfl rfl (by kernel_rfl) (by kernel_rfl) (by kernel_rfl) (fun _ _ _ h => h) (Or.inl ⟨by rfl, ?_⟩) (by assumption) ?_
      rotate_left
      · intro w' hSw
        try dsimp only at hSw
        go_simp
        try with_reducible rfl
      try simp only [Act.put, List.setIfInBounds_toArray, List.set_cons_zero, List.set_cons_succ]
      refine GoF.take 3 (some 75) (v := ?_) rfl rfl (by kernel_rfl) (by kernel_rfl) (by kernel_rfl) (fun _ _ _ h => h) (Or.inl ⟨by rfl, ?_⟩) (by assumption) ?_
      rotate_left
      · intro w' hSw
        try dsimp only at hSw
        go_simp
        try with_reducible rfl
      try simp only [Act.put, List.setIfInBounds_toArray, List.set_cons_zero, List.set_cons_succ]
      refine GoF.take 4 (some 76) (v := ?_) rfl rfl (by kernel_rfl) (by kernel_rfl) (by kernel_rfl) (fun _ _ _ h => h) (Or.inl ⟨by rfl, ?_⟩) (by assumption) ?_
      rotate_left
      · intro w' hSw
        try dsimp only at hSw
        go_simp
        try with_reducible rfl
      try simp only [Act.put, List.setIfInBounds_toArray, List.set_cons_zero, List.set_cons_succ]
      refine GoF.take 5 (some 77) (v := ?_) rfl rfl (by kernel_rfl) (by kernel_rfl) (by kernel_rfl) (fun _ _ _ h => h) (Or.inl ⟨by rfl, ?_⟩) (by assumption) ?_
      rotate_left
      · intro w' hSw
        try dsimp only at hSw
        go_simp
        try with_reducible rfl
      try simp only [Act.put, List.setIfInBounds_toArray, List.set_cons_zero, List.set_cons_succ]
      refine GoF.take 6 (some 78) (v := ?_) rfl rfl (by kernel_rfl) (by kernel_rfl) (by kernel_rfl) (fun _ _ _ h => h) (Or.inl ⟨by rfl, ?_⟩) (by assumption) ?_
      rotate_left
      · intro w' hSw
        try dsimp only at hSw
        go_simp
        try with_reducible rfl
      try simp only [Act.put, List.setIfInBounds_toArray, List.set_cons_zero, List.set_cons_succ]
      refine GoF.take 7 (some 79) (v := ?_) rfl rfl (by kernel_rfl) (by kernel_rfl) (by kernel_rfl) (fun _ _ _ h => h) (Or.inl ⟨by rfl, ?_⟩) (by assumption) ?_
      rotate_left
      · intro w' hSw
        try dsimp only at hSw
        go_simp
        try with_reducible rfl
      try simp only [Act.put, List.setIfInBounds_toArray, List.set_cons_zero, List.set_cons_succ]
      refine GoF.take 9 (some 81) (v := ?_) rfl rfl (by kernel_rfl) (by kernel_rfl) (by kernel_rfl) (fun _ _ _ h => h) (Or.inl ⟨by rfl, ?_⟩) (by assumption) ?_
      rotate_left
      · intro w' hSw
        try dsimp only at hSw
        go_simp
        try with_reducible rfl
      try simp only [Act.put, List.setIfInBounds_toArray, List.set_cons_zero, List.set_cons_succ]
      refine GoF.take 10 (some 82) (v := ?_) rfl rfl (by kernel_rfl) (by kernel_rfl) (by kernel_rfl) (fun _ _ _ h => h) (Or.inl ⟨by rfl, ?_⟩) (by assumption) ?_
      rotate_left
      · intro w' hSw
        try dsimp only at hSw
        go_simp
        try with_reducible rfl
      try simp only [Act.put, List.setIfInBounds_toArray, List.set_cons_zero, List.set_cons_succ]
      refine GoF.take 13 (some 85) (v := ?_) rfl rfl (by kernel_rfl) (by kernel_rfl) (by kernel_rfl) (fun _ _ _ h => h) (Or.inl ⟨by rfl, ?_⟩) (by assumption) ?_
      rotate_left
      · intro w' hSw
        try dsimp only at hSw
        go_simp
        try with_reducible rfl
      try simp only [Act.put, List.setIfInBounds_toArray, List.set_cons_zero, List.set_cons_succ]
      refine GoF.take 14 (some 86) (v := ?_) rfl rfl (by kernel_rfl) (by kernel_rfl) (by kernel_rfl) (fun _ _ _ h => h) (Or.inl ⟨by rfl, ?_⟩) (by assumption) ?_
      rotate_left
      · intro w' hSw
        try dsimp only at hSw
        go_simp
        try with_reducible rfl
      try simp only [Act.put, List.setIfInBounds_toArray, List.set_cons_zero, List.set_cons_succ]
      refine GoF.take 15 (some 87) (v := ?_) rfl rfl (by kernel_rfl) (by kernel_rfl) (by kernel_rfl) (fun _ _ _ h => h) (Or.inl ⟨by rfl, ?_⟩) (by assumption) ?_
      rotate_left
      · intro w' hSw
        try dsimp only at hSw
        go_simp
        try with_reducible rfl
      try simp only [Act.put, List.setIfInBounds_toArray, List.set_cons_zero, List.set_cons_succ]
      refine GoF.take 16 (some 88) (v := ?_) rfl rfl (by kernel_rfl) (by kernel_rfl) (by kernel_rfl) (fun _ _ _ h => h) (Or.inl ⟨by rfl, ?_⟩) (by assumption) ?_
      rotate_left
      · intro w' hSw
        try dsimp only at hSw
        go_simp
        try with_reducible rfl
      try simp only [Act.put, List.setIfInBounds_toArray, List.set_cons_zero, List.set_cons_succ]
      refine GoF.take 17 (some 89) (v := ?_) rfl rfl (by kernel_rfl) (by kernel_rfl) (by kernel_rfl) (fun _ _ _ h => h) (Or.inl ⟨by rfl, ?_⟩) (by assumption) ?_
      rotate_left
      · intro w' hSw
        try dsimp only at hSw
        go_simp
        try with_reducible rfl
      try simp only [Act.put, List.setIfInBounds_toArray, List.set_cons_zero, List.set_cons_succ]
      refine GoF.take 18 (some 90) (v := ?_) rfl rfl (by kernel_rfl) (by kernel_rfl) (by kernel_rfl) (fun _ _ _ h => h) (Or.inl ⟨by rfl, ?_⟩) (by assumption) ?_
      rotate_left
      · intro w' hSw
        try dsimp only at hSw
        go_simp
        try with_reducible rfl
      try simp only [Act.put, List.setIfInBounds_toArray, List.set_cons_zero, List.set_cons_succ]
      refine GoF.each (rs := [1, 11]) (by kernel_rfl) (by kernel_rfl) (by kernel_rfl) ?_
      refine EachF.cons (i := 1) rfl (fun K hK => ?_) ?_
      · go_simp
        refine hK.out _ _ (HS.out _ (by (repeat (first | with_reducible exact Ext.refl _ | with_reducible refine Ext.drew ?_ | with_reducible refine Ext.alloc ?_ _)))) (fun hHeld => ?_)
        clear hK K
        try simp only [Act.put, List.setIfInBounds_toArray, List.set_cons_zero, List.set_cons_succ]
        refine GoF.each (rs := [8, 11]) (by kernel_rfl) (by kernel_rfl) (by kernel_rfl) ?_
        refine EachF.cons (i := 8) rfl (fun K hK => ?_) ?_
        · refine step_append_any _ rfl (.tmp 73) (.tmp 79) _ rfl w2.heap.size 31 i0 _ 3 48 Try.underlying27 hi0 iz0 iz1 iz2 rfl (by omega) (.slice (some ⟨_, 0, none⟩) 0 0) (0) ([]) rfl (World.ownsRow_made (base := w2.heap.size) (e := 31) (size := 3) w2.drew #[] 0 (Nat.le_refl _) (Nat.zero_le _) rfl) _ _ (N) _ (rcs (R.take N)) rfl (Ext.reads (a := w2) (by (repeat (first | with_reducible exact Ext.refl _ | with_reducible refine Ext.drew ?_ | with_reducible refine Ext.alloc ?_ _))) RT.out (Nat.le_refl _)) (rcs_one _) (by unfold maxLen; omega) (by omega) (by simp; try omega) ?_
          intro v3 w3 ho3 hg3 hat3
          rw [Nat.zero_add, List.nil_append] at ho3
          have E3 := hide (Ext.grown (a := w2) (by (repeat (first | with_reducible exact Ext.refl _ | with_reducible refine Ext.drew ?_ | with_reducible refine Ext.alloc ?_ _))) hg3 (fun z hz => by simp [Value.ownBlock] at hz; omega))
          obtain ⟨A3, c3, hv3, _⟩ := own_form ho3
          subst hv3
          have O3 := hide ho3
          refine hK.out _ _ (HS.out _ E3.out) (fun hHeld => ?_)
          clear ho3 hg3 hat3 hK K
          change GoF _ _ _ _ _ _ _ _ (Act.put _ (some 80) _) _
          simp only [Act.put, List.setIfInBounds_toArray, List.set_cons_zero, List.set_cons_succ]
          refine GoF.each (rs := [11]) (by kernel_rfl) (by kernel_rfl) (by kernel_rfl) ?_
          refine EachF.cons (i := 11) rfl (fun K hK => ?_) EachF.nil
          go_simp
          refine hK.out _ _ (HS.out _ (by (repeat (first | with_reducible exact Ext.refl _ | with_reducible exact E3.out | with_reducible refine Ext.drew ?_ | with_reducible refine Ext.alloc ?_ _)))) (fun hHeld => ?_)
          clear hK K
          try simp only [Act.put, List.setIfInBounds_toArray, List.set_cons_zero, List.set_cons_succ]
          refine GoF.each (rs := [12]) (by kernel_rfl) (by kernel_rfl) (by kernel_rfl) ?_
          refine EachF.cons (i := 12) rfl (fun K hK => ?_) EachF.nil
          refine step_append_any _ rfl (.tmp 80) (.tmp 83) _ rfl w2.heap.size 31 i0 _ 3 48 Try.underlying27 hi0 iz0 iz1 iz2 rfl (by omega) (.slice A3 N c3) (N) (rcs (R.take N)) rfl (O3.out.alloc _) _ _ (1) _ (rc r) rfl (reads_blk (m := 3) (Blk.new w3 31 #[.string r.k, .string r.s, .string r.v]) rfl) (rc_one r) (by unfold maxLen; omega) (by omega) (by have := E3.out.size; simp; try omega) ?_
          intro v4 w4 ho4 hg4 hat4
          have E4 := hide (Ext.grown (a := w2) (by (repeat (first | with_reducible exact Ext.refl _ | with_reducible exact E3.out | with_reducible refine Ext.drew ?_ | with_reducible refine Ext.alloc ?_ _))) hg4 (fun z hz => (O3.out.lt z hz).1))
          obtain ⟨A4, c4, hv4, _⟩ := own_form ho4
          subst hv4
          have O4 := hide ho4
          refine hK.out _ _ (HS.out _ E4.out) (fun hHeld => ?_)
          clear ho4 hg4 hat4 hK K
          change GoF _ _ _ _ _ _ _ _ (Act.put _ (some 84) _) _
          simp only [Act.put, List.setIfInBounds_toArray, List.set_cons_zero, List.set_cons_succ]
          refine GoF.each (rs := [19]) (by kernel_rfl) (by kernel_rfl) (by kernel_rfl) ?_
          refine EachF.cons (i := 19) rfl (fun K hK => ?_) EachF.nil
          refine step_append_any _ rfl (.tmp 84) (.tmp 90) _ rfl w2.heap.size 31 i0 _ 3 48 Try.underlying27 hi0 iz0 iz1 iz2 rfl (by omega) (.slice A4 (N + 1) c4) (N + 1) (rcs (R.take N) ++ rc r) rfl (O4.out) _ _ (0) _ (rcs (R.drop N)) rfl (Ext.reads E4.out (RD.out _) (Nat.le_refl _)) (rcs_one _) (by unfold maxLen; omega) (by omega) (E4.out.size) ?_
          intro v5 w5 ho5 hg5 hat5
          have E5 := hide (Ext.grown (a := w2) E4.out hg5 (fun z hz => (O4.out.lt z hz).1))
          obtain ⟨A5, c5, hv5, _⟩ := own_form ho5
          subst hv5
          have O5 := hide ho5
          refine hK.out _ _ (HS.out _ E5.out) (fun hHeld => ?_)
          clear ho5 hg5 hat5 hK K
          change GoF _ _ _ _ _ _ _ _ (Act.put _ (some 91) _) _
          simp only [Act.put, List.setIfInBounds_toArray, List.set_cons_zero, List.set_cons_succ]
          refine GoF.take 20 (some 92) (v := ?_) rfl rfl (by kernel_rfl) (by kernel_rfl) (by kernel_rfl) (fun _ _ _ h => h) (Or.inl ⟨by rfl, ?_⟩) (by assumption) ?_
          rotate_left
          · intro w' hSw
            try dsimp only at hSw
            go_simp
            try with_reducible rfl
          try simp only [Act.put, List.setIfInBounds_toArray, List.set_cons_zero, List.set_cons_succ]
          refine GoF.take 21 (some 93) (v := ?_) rfl rfl (by kernel_rfl) (by kernel_rfl) (by kernel_rfl) (fun _ _ _ h => h) (Or.inl ⟨by rfl, ?_⟩) (by assumption) ?_
          rotate_left
          · intro w' hSw
            try dsimp only at hSw
            go_simp
            try with_reducible rfl
          try simp only [Act.put, List.setIfInBounds_toArray, List.set_cons_zero, List.set_cons_succ]
          refine GoF.last (by kernel_rfl) (by kernel_rfl) rfl (fun K hK => ?_)
          have B5 := hide (E5.out.blk HC.out.rf.blk)
          have y5 := B5.out.cell 0
          simp at y5
          have z5 := B5.out.frozen 0
          have a5 := E5.out.blk HC.out.ans
          have AN := hide a5
          have b0 := a5.cell 0
          have b1 := a5.cell 1
          simp at b0 b1
          have fb0 := a5.frozen 0
          have fb1 := a5.frozen 1
          clear a5 ha0 ha1 hs0 hs3 hs4 hs5 hc0
          go_simp
          refine hK.out _ _ ?_
          clear hK K
          have hne : rb ≠ w.heap.size + 1 := by have := HLT.out; omega
          go_wp2_with (fail)
          have hfin := Rf.turn (m := N + 1 + (0)) (R := R.take N ++ ([r] ++ R.drop N)) (A := A5) (c := c5) H.out.ext H.out.hb HLT.out (HC.out.ext.trans E5.out) B5.out AN.out (by simp [HNL.out.symm]; try omega) (by have h := World.ownsRow.mono O5.out HC.out.ext.size; simpa [rcs_app, rcs, rc] using h) (.int .i64 0) (.slice none 0 0)
          have q := (AN.out.far (p := ⟨rb, 0, none⟩) (show w.heap.size + 1 ≠ rb by omega) (.slice A5 (N + 1 + (0)) c5)).set2 (.int .i64 0) (.slice none 0 0)
          have q0 := q.cell 0
          have q1 := q.cell 1
          simp only [List.getElem?_toArray, List.getElem?_cons_zero, List.getElem?_cons_succ] at q0 q1
          have eA := HCUT.out.take
          have eB := HCUT.out.drop
          rw [HOO.out] at eB
          have hrep2 := HCUT.out.put HP.out HKD.out (o := some r) (fun r' e => by injection e with e; rw [e])
          rw [← eA, show CB = R.drop N from eB.symm] at hrep2
          exact bodyPost_ret (v := .agg #[.int .i64 0, .slice none 0 0]) (by simp [results, Try.results12, go_sem, q0, q1]) rfl ⟨_, hrep2, by simp; try omega, hfin⟩
        refine EachF.cons (i := 11) rfl (fun K hK => ?_) ?_
        · go_simp
          refine hK.out _ _ (HS.out _ (by (repeat (first | with_reducible exact Ext.refl _ | with_reducible refine Ext.drew ?_ | with_reducible refine Ext.alloc ?_ _)))) (fun hHeld => ?_)
          clear hK K
          try simp only [Act.put, List.setIfInBounds_toArray, List.set_cons_zero, List.set_cons_succ]
          refine GoF.each (rs := [8]) (by kernel_rfl) (by kernel_rfl) (by kernel_rfl) ?_
          refine EachF.cons (i := 8) rfl (fun K hK => ?_) EachF.nil
          refine step_append_any _ rfl (.tmp 73) (.tmp 79) _ rfl w2.heap.size 31 i0 _ 3 48 Try.underlying27 hi0 iz0 iz1 iz2 rfl (by omega) (.slice (some ⟨_, 0, none⟩) 0 0) (0) ([]) rfl ((World.ownsRow_made (base := w2.heap.size) (e := 31) (size := 3) w2.drew #[] 0 (Nat.le_refl _) (Nat.zero_le _) rfl).alloc _) _ _ (N) _ (rcs (R.take N)) rfl (Ext.reads (a := w2) (by (repeat (first | with_reducible exact Ext.refl _ | with_reducible refine Ext.drew ?_ | with_reducible refine Ext.alloc ?_ _))) RT.out (Nat.le_refl _)) (rcs_one _) (by unfold maxLen; omega) (by omega) (by simp; try omega) ?_
          intro v3 w3 ho3 hg3 hat3
          rw [Nat.zero_add, List.nil_append] at ho3
          have E3 := hide (Ext.grown (a := w2) (by (repeat (first | with_reducible exact Ext.refl _ | with_reducible refine Ext.drew ?_ | with_reducible refine Ext.alloc ?_ _))) hg3 (fun z hz => by simp [Value.ownBlock] at hz; omega))
          have KX := hide (show Blk w3 (w2.heap.size + 1) 31 #[.string r.k, .string r.s, .string r.v] from (by have h := Blk.grown (Blk.new (w2.drew.alloc (.cells #[] 31)) 31 #[.string r.k, .string r.s, .string r.v]) hg3 (by simp [Value.ownBlock]); have e : (w2.drew.alloc (.cells #[] 31)).heap.size = w2.heap.size + 1 := (by simp); rw [e] at h; exact h))
          obtain ⟨A3, c3, hv3, _⟩ := own_form ho3
          subst hv3
          have O3 := hide ho3
          refine hK.out _ _ (HS.out _ E3.out) (fun hHeld => ?_)
          clear ho3 hg3 hat3 hK K
          change GoF _ _ _ _ _ _ _ _ (Act.put _ (some 80) _) _
          simp only [Act.put, List.setIfInBounds_toArray, List.set_cons_zero, List.set_cons_succ]
          refine GoF.each (rs := [12]) (by kernel_rfl) (by kernel_rfl) (by kernel_rfl) ?_
          refine EachF.cons (i := 12) rfl (fun K hK => ?_) EachF.nil
          refine step_append_any _ rfl (.tmp 80) (.tmp 83) _ rfl w2.heap.size 31 i0 _ 3 48 Try.underlying27 hi0 iz0 iz1 iz2 rfl (by omega) (.slice A3 N c3) (N) (rcs (R.take N)) rfl (O3.out) _ _ (1) _ (rc r) rfl (reads_blk (m := 3) KX.out rfl) (rc_one r) (by unfold maxLen; omega) (by omega) (by have := E3.out.size; simp; try omega) ?_
          intro v4 w4 ho4 hg4 hat4
          have E4 := hide (Ext.grown (a := w2) (by (repeat (first | with_reducible exact Ext.refl _ | with_reducible exact E3.out | with_reducible refine Ext.drew ?_ | with_reducible refine Ext.alloc ?_ _))) hg4 (fun z hz => (O3.out.lt z hz).1))
          obtain ⟨A4, c4, hv4, _⟩ := own_form ho4
          subst hv4
          have O4 := hide ho4
          refine hK.out _ _ (HS.out _ E4.out) (fun hHeld => ?_)
          clear ho4 hg4 hat4 hK K
          change GoF _ _ _ _ _ _ _ _ (Act.put _ (some 84) _) _
          simp only [Act.put, List.setIfInBounds_toArray, List.set_cons_zero, List.set_cons_succ]
          refine GoF.each (rs := [19]) (by kernel_rfl) (by kernel_rfl) (by kernel_rfl) ?_
          refine EachF.cons (i := 19) rfl (fun K hK => ?_) EachF.nil
          refine step_append_any _ rfl (.tmp 84) (.tmp 90) _ rfl w2.heap.size 31 i0 _ 3 48 Try.underlying27 hi0 iz0 iz1 iz2 rfl (by omega) (.slice A4 (N + 1) c4) (N + 1) (rcs (R.take N) ++ rc r) rfl (O4.out) _ _ (0) _ (rcs (R.drop N)) rfl (Ext.reads E4.out (RD.out _) (Nat.le_refl _)) (rcs_one _) (by unfold maxLen; omega) (by omega) (E4.out.size) ?_
          intro v5 w5 ho5 hg5 hat5
          have E5 := hide (Ext.grown (a := w2) E4.out hg5 (fun z hz => (O4.out.lt z hz).1))
          obtain ⟨A5, c5, hv5, _⟩ := own_form ho5
          subst hv5
          have O5 := hide ho5
          refine hK.out _ _ (HS.out _ E5.out) (fun hHeld => ?_)
          clear ho5 hg5 hat5 hK K
          change GoF _ _ _ _ _ _ _ _ (Act.put _ (some 91) _) _
          simp only [Act.put, List.setIfInBounds_toArray, List.set_cons_zero, List.set_cons_succ]
          refine GoF.take 20 (some 92) (v := ?_) rfl rfl (by kernel_rfl) (by kernel_rfl) (by kernel_rfl) (fun _ _ _ h => h) (Or.inl ⟨by rfl, ?_⟩) (by assumption) ?_
          rotate_left
          · intro w' hSw
            try dsimp only at hSw
            go_simp
            try with_reducible rfl
          try simp only [Act.put, List.setIfInBounds_toArray, List.set_cons_zero, List.set_cons_succ]
          refine GoF.take 21 (some 93) (v := ?_) rfl rfl (by kernel_rfl) (by kernel_rfl) (by kernel_rfl) (fun _ _ _ h => h) (Or.inl ⟨by rfl, ?_⟩) (by assumption) ?_
          rotate_left
          · intro w' hSw
            try dsimp only at hSw
            go_simp
            try with_reducible rfl
          try simp only [Act.put, List.setIfInBounds_toArray, List.set_cons_zero, List.set_cons_succ]
          refine GoF.last (by kernel_rfl) (by kernel_rfl) rfl (fun K hK => ?_)
          have B5 := hide (E5.out.blk HC.out.rf.blk)
          have y5 := B5.out.cell 0
          simp at y5
          have z5 := B5.out.frozen 0
          have a5 := E5.out.blk HC.out.ans
          have AN := hide a5
          have b0 := a5.cell 0
          have b1 := a5.cell 1
          simp at b0 b1
          have fb0 := a5.frozen 0
          have fb1 := a5.frozen 1
          clear a5 ha0 ha1 hs0 hs3 hs4 hs5 hc0
          go_simp
          refine hK.out _ _ ?_
          clear hK K
          have hne : rb ≠ w.heap.size + 1 := by have := HLT.out; omega
          go_wp2_with (fail)
          have hfin := Rf.turn (m := N + 1 + (0)) (R := R.take N ++ ([r] ++ R.drop N)) (A := A5) (c := c5) H.out.ext H.out.hb HLT.out (HC.out.ext.trans E5.out) B5.out AN.out (by simp [HNL.out.symm]; try omega) (by have h := World.ownsRow.mono O5.out HC.out.ext.size; simpa [rcs_app, rcs, rc] using h) (.int .i64 0) (.slice none 0 0)
          have q := (AN.out.far (p := ⟨rb, 0, none⟩) (show w.heap.size + 1 ≠ rb by omega) (.slice A5 (N + 1 + (0)) c5)).set2 (.int .i64 0) (.slice none 0 0)
          have q0 := q.cell 0
          have q1 := q.cell 1
          simp only [List.getElem?_toArray, List.getElem?_cons_zero, List.getElem?_cons_succ] at q0 q1
          have eA := HCUT.out.take
          have eB := HCUT.out.drop
          rw [HOO.out] at eB
          have hrep2 := HCUT.out.put HP.out HKD.out (o := some r) (fun r' e => by injection e with e; rw [e])
          rw [← eA, show CB = R.drop N from eB.symm] at hrep2
          exact bodyPost_ret (v := .agg #[.int .i64 0, .slice none 0 0]) (by simp [results, Try.results12, go_sem, q0, q1]) rfl ⟨_, hrep2, by simp; try omega, hfin⟩
        exact EachF.nil
      refine EachF.cons (i := 11) rfl (fun K hK => ?_) ?_
      · go_simp
        refine hK.out _ _ (HS.out _ (by (repeat (first | with_reducible exact Ext.refl _ | with_reducible refine Ext.drew ?_ | with_reducible refine Ext.alloc ?_ _)))) (fun hHeld => ?_)
        clear hK K
        try simp only [Act.put, List.setIfInBounds_toArray, List.set_cons_zero, List.set_cons_succ]
        refine GoF.each (rs := [1]) (by kernel_rfl) (by kernel_rfl) (by kernel_rfl) ?_
        refine EachF.cons (i := 1) rfl (fun K hK => ?_) EachF.nil
        go_simp
        refine hK.out _ _ (HS.out _ (by (repeat (first | with_reducible exact Ext.refl _ | with_reducible refine Ext.drew ?_ | with_reducible refine Ext.alloc ?_ _)))) (fun hHeld => ?_)
        clear hK K
        try simp only [Act.put, List.setIfInBounds_toArray, List.set_cons_zero, List.set_cons_succ]
        refine GoF.each (rs := [8]) (by kernel_rfl) (by kernel_rfl) (by kernel_rfl) ?_
        refine EachF.cons (i := 8) rfl (fun K hK => ?_) EachF.nil
        refine step_append_any _ rfl (.tmp 73) (.tmp 79) _ rfl w2.heap.size 31 i0 _ 3 48 Try.underlying27 hi0 iz0 iz1 iz2 rfl (by omega) (.slice (some ⟨_, 0, none⟩) 0 0) (0) ([]) rfl (by have h := World.ownsRow_made (base := w2.heap.size) (e := 31) (size := 3) (w2.drew.alloc (.cells #[.string r.k, .string r.s, .string r.v] 31)) #[] 0 (by simp) (Nat.zero_le _) rfl; have e : (w2.drew.alloc (.cells #[.string r.k, .string r.s, .string r.v] 31)).heap.size = w2.heap.size + 1 := (by simp); rw [e] at h; exact h) _ _ (N) _ (rcs (R.take N)) rfl (Ext.reads (a := w2) (by (repeat (first | with_reducible exact Ext.refl _ | with_reducible refine Ext.drew ?_ | with_reducible refine Ext.alloc ?_ _))) RT.out (Nat.le_refl _)) (rcs_one _) (by unfold maxLen; omega) (by omega) (by simp; try omega) ?_
        intro v3 w3 ho3 hg3 hat3
        rw [Nat.zero_add, List.nil_append] at ho3
        have E3 := hide (Ext.grown (a := w2) (by (repeat (first | with_reducible exact Ext.refl _ | with_reducible refine Ext.drew ?_ | with_reducible refine Ext.alloc ?_ _))) hg3 (fun z hz => by simp [Value.ownBlock] at hz; omega))
        have KX := hide (Blk.grown (Blk.alloc (Blk.new w2.drew 31 #[.string r.k, .string r.s, .string r.v]) (.cells #[] 31)) hg3 (by simp [Value.ownBlock]))
        obtain ⟨A3, c3, hv3, _⟩ := own_form ho3
        subst hv3
        have O3 := hide ho3
        refine hK.out _ _ (HS.out _ E3.out) (fun hHeld => ?_)
        clear ho3 hg3 hat3 hK K
        change GoF _ _ _ _ _ _ _ _ (Act.put _ (some 80) _) _
        simp only [Act.put, List.setIfInBounds_toArray, List.set_cons_zero, List.set_cons_succ]
        refine GoF.each (rs := [12]) (by kernel_rfl) (by kernel_rfl) (by kernel_rfl) ?_
        refine EachF.cons (i := 12) rfl (fun K hK => ?_) EachF.nil
        refine step_append_any _ rfl (.tmp 80) (.tmp 83) _ rfl w2.heap.size 31 i0 _ 3 48 Try.underlying27 hi0 iz0 iz1 iz2 rfl (by omega) (.slice A3 N c3) (N) (rcs (R.take N)) rfl (O3.out) _ _ (1) _ (rc r) rfl (reads_blk (m := 3) KX.out rfl) (rc_one r) (by unfold maxLen; omega) (by omega) (by have := E3.out.size; simp; try omega) ?_
        intro v4 w4 ho4 hg4 hat4
        have E4 := hide (Ext.grown (a := w2) (by (repeat (first | with_reducible exact Ext.refl _ | with_reducible exact E3.out | with_reducible refine Ext.drew ?_ | with_reducible refine Ext.alloc ?_ _))) hg4 (fun z hz => (O3.out.lt z hz).1))
        obtain ⟨A4, c4, hv4, _⟩ := own_form ho4
        subst hv4
        have O4 := hide ho4
        refine hK.out _ _ (HS.out _ E4.out) (fun hHeld => ?_)
        clear ho4 hg4 hat4 hK K
        change GoF _ _ _ _ _ _ _ _ (Act.put _ (some 84) _) _
        simp only [Act.put, List.setIfInBounds_toArray, List.set_cons_zero, List.set_cons_succ]
        refine GoF.each (rs := [19]) (by kernel_rfl) (by kernel_rfl) (by kernel_rfl) ?_
        refine EachF.cons (i := 19) rfl (fun K hK => ?_) EachF.nil
        refine step_append_any _ rfl (.tmp 84) (.tmp 90) _ rfl w2.heap.size 31 i0 _ 3 48 Try.underlying27 hi0 iz0 iz1 iz2 rfl (by omega) (.slice A4 (N + 1) c4) (N + 1) (rcs (R.take N) ++ rc r) rfl (O4.out) _ _ (0) _ (rcs (R.drop N)) rfl (Ext.reads E4.out (RD.out _) (Nat.le_refl _)) (rcs_one _) (by unfold maxLen; omega) (by omega) (E4.out.size) ?_
        intro v5 w5 ho5 hg5 hat5
        have E5 := hide (Ext.grown (a := w2) E4.out hg5 (fun z hz => (O4.out.lt z hz).1))
        obtain ⟨A5, c5, hv5, _⟩ := own_form ho5
        subst hv5
        have O5 := hide ho5
        refine hK.out _ _ (HS.out _ E5.out) (fun hHeld => ?_)
        clear ho5 hg5 hat5 hK K
        change GoF _ _ _ _ _ _ _ _ (Act.put _ (some 91) _) _
        simp only [Act.put, List.setIfInBounds_toArray, List.set_cons_zero, List.set_cons_succ]
        refine GoF.take 20 (some 92) (v := ?_) rfl rfl (by kernel_rfl) (by kernel_rfl) (by kernel_rfl) (fun _ _ _ h => h) (Or.inl ⟨by rfl, ?_⟩) (by assumption) ?_
        rotate_left
        · intro w' hSw
          try dsimp only at hSw
          go_simp
          try with_reducible rfl
        try simp only [Act.put, List.setIfInBounds_toArray, List.set_cons_zero, List.set_cons_succ]
        refine GoF.take 21 (some 93) (v := ?_) rfl rfl (by kernel_rfl) (by kernel_rfl) (by kernel_rfl) (fun _ _ _ h => h) (Or.inl ⟨by rfl, ?_⟩) (by assumption) ?_
        rotate_left
        · intro w' hSw
          try dsimp only at hSw
          go_simp
          try with_reducible rfl
        try simp only [Act.put, List.setIfInBounds_toArray, List.set_cons_zero, List.set_cons_succ]
        refine GoF.last (by kernel_rfl) (by kernel_rfl) rfl (fun K hK => ?_)
        have B5 := hide (E5.out.blk HC.out.rf.blk)
        have y5 := B5.out.cell 0
        simp at y5
        have z5 := B5.out.frozen 0
        have a5 := E5.out.blk HC.out.ans
        have AN := hide a5
        have b0 := a5.cell 0
        have b1 := a5.cell 1
        simp at b0 b1
        have fb0 := a5.frozen 0
        have fb1 := a5.frozen 1
        clear a5 ha0 ha1 hs0 hs3 hs4 hs5 hc0
        go_simp
        refine hK.out _ _ ?_
        clear hK K
        have hne : rb ≠ w.heap.size + 1 := by have := HLT.out; omega
        go_wp2_with (fail)
        have hfin := Rf.turn (m := N + 1 + (0)) (R := R.take N ++ ([r] ++ R.drop N)) (A := A5) (c := c5) H.out.ext H.out.hb HLT.out (HC.out.ext.trans E5.out) B5.out AN.out (by simp [HNL.out.symm]; try omega) (by have h := World.ownsRow.mono O5.out HC.out.ext.size; simpa [rcs_app, rcs, rc] using h) (.int .i64 0) (.slice none 0 0)
        have q := (AN.out.far (p := ⟨rb, 0, none⟩) (show w.heap.size + 1 ≠ rb by omega) (.slice A5 (N + 1 + (0)) c5)).set2 (.int .i64 0) (.slice none 0 0)
        have q0 := q.cell 0
        have q1 := q.cell 1
        simp only [List.getElem?_toArray, List.getElem?_cons_zero, List.getElem?_cons_succ] at q0 q1
        have eA := HCUT.out.take
        have eB := HCUT.out.drop
        rw [HOO.out] at eB
        have hrep2 := HCUT.out.put HP.out HKD.out (o := some r) (fun r' e => by injection e with e; rw [e])
        rw [← eA, show CB = R.drop N from eB.symm] at hrep2
        exact bodyPost_ret (v := .agg #[.int .i64 0, .slice none 0 0]) (by simp [results, Try.results12, go_sem, q0, q1]) rfl ⟨_, hrep2, by simp; try omega, hfin⟩
      exact EachF.nil
    · have hkc : k ≤ c0 := by omega
      have RT := hide (reads_takeR (by rw [HNL.out]; exact Reads.of_own HC.out.own) hkN)
      have RD := hide (reads_dropR (by rw [HNL.out]; exact Reads.of_own HC.out.own) hkN hc1 hck)
      have HS := hide (show ∀ w' : World, Ext w2 w' → (fun w' => w'.cell? ⟨rb, 0, none⟩ = some (.slice (some ⟨g, 0, none⟩) N c0) ∧ w'.cell? ⟨w.heap.size, 3, none⟩ = some (.string r.k) ∧ w'.cell? ⟨w.heap.size, 4, none⟩ = some (.string r.s) ∧ w'.cell? ⟨w.heap.size, 5, none⟩ = some (.string r.v)) w' from fun w' hx => ⟨by simpa [HNL.out.symm] using (hx.blk HC.out.rf.blk).cell 0, by simpa using (hx.blk HC.out.stp).cell 3, by simpa using (hx.blk HC.out.stp).cell 4, by simpa using (hx.blk HC.out.stp).cell 5⟩)
      refine wp_region_F (S := (fun w' => w'.cell? ⟨rb, 0, none⟩ = some (.slice (some ⟨g, 0, none⟩) N c0) ∧ w'.cell? ⟨w.heap.size, 3, none⟩ = some (.string r.k) ∧ w'.cell? ⟨w.heap.size, 4, none⟩ = some (.string r.s) ∧ w'.cell? ⟨w.heap.size, 5, none⟩ = some (.string r.v))) 22 (by kernel_rfl) (by kernel_rfl) ⟨hc0, hs3, hs4, hs5⟩ (fun hHeld => ?_)
      refine GoF.take 0 (some 72) (v := ?_) rfl rfl (by kernel_rfl) (by kernel_rfl) (by kernel_rfl) (fun _ _ _ h => h) (Or.inl ⟨by rfl, ?_⟩) (by assumption) ?_
      rotate_left
      · intro w' hSw
        try dsimp only at hSw
        go_simp
        try with_reducible rfl
      try simp only [Act.put, List.setIfInBounds_toArray, List.set_cons_zero, List.set_cons_succ]
      refine GoF.take 2 (some 74) (v := ?_) rfl rfl (by kernel_rfl) (by kernel_rfl) (by kernel_rfl) (fun _ _ _ h => h) (Or.inl ⟨by rfl, ?_⟩) (by assumption) ?_
      rotate_left
      · intro w' hSw
        try dsimp only at hSw
        go_simp
        try with_reducible rfl
      try simp only [Act.put, List.setIfInBounds_toArray, List.set_cons_zero, List.set_cons_succ]
      refine GoF.take 3 (some 75) (v := ?_) rfl rfl (by kernel_rfl) (by kernel_rfl) (by kernel_rfl) (fun _ _ _ h => h) (Or.inl ⟨by rfl, ?_⟩) (by assumption) ?_
      rotate_left
      · intro w' hSw
        try dsimp only at hSw
        go_simp
        try with_reducible rfl
      try simp only [Act.put, List.setIfInBounds_toArray, List.set_cons_zero, List.set_cons_succ]
      refine GoF.take 4 (some 76) (v := ?_) rfl rfl (by kernel_rfl) (by kernel_rfl) (by kernel_rfl) (fun _ _ _ h => h) (Or.inl ⟨by rfl, ?_⟩) (by assumption) ?_
      rotate_left
      · intro w' hSw
        try dsimp only at hSw
        go_simp
        try with_reducible rfl
      try simp only [Act.put, List.setIfInBounds_toArray, List.set_cons_zero, List.set_cons_succ]
      refine GoF.take 5 (some 77) (v := ?_) rfl rfl (by kernel_rfl) (by kernel_rfl) (by kernel_rfl) (fun _ _ _ h => h) (Or.inl ⟨by rfl, ?_⟩) (by assumption) ?_
      rotate_left
      · intro w' hSw
        try dsimp only at hSw
        go_simp
        try with_reducible rfl
      try simp only [Act.put, List.setIfInBounds_toArray, List.set_cons_zero, List.set_cons_succ]
      refine GoF.take 6 (some 78) (v := ?_) rfl rfl (by kernel_rfl) (by kernel_rfl) (by kernel_rfl) (fun _ _ _ h => h) (Or.inl ⟨by rfl, ?_⟩) (by assumption) ?_
      rotate_left
      · intro w' hSw
        try dsimp only at hSw
        go_simp
        try with_reducible rfl
      try simp only [Act.put, List.setIfInBounds_toArray, List.set_cons_zero, List.set_cons_succ]
      refine GoF.take 7 (some 79) (v := ?_) rfl rfl (by kernel_rfl) (by kernel_rfl) (by kernel_rfl) (fun _ _ _ h => h) (Or.inl ⟨by rfl, ?_⟩) (by assumption) ?_
      rotate_left
      · intro w' hSw
        try dsimp only at hSw
        go_simp
        try with_reducible rfl
      try simp only [Act.put, List.setIfInBounds_toArray, List.set_cons_zero, List.set_cons_succ]
      refine GoF.take 9 (some 81) (v := ?_) rfl rfl (by kernel_rfl) (by kernel_rfl) (by kernel_rfl) (fun _ _ _ h => h) (Or.inl ⟨by rfl, ?_⟩) (by assumption) ?_
      rotate_left
      · intro w' hSw
        try dsimp only at hSw
        go_simp
        try with_reducible rfl
      try simp only [Act.put, List.setIfInBounds_toArray, List.set_cons_zero, List.set_cons_succ]
      refine GoF.take 10 (some 82) (v := ?_) rfl rfl (by kernel_rfl) (by kernel_rfl) (by kernel_rfl) (fun _ _ _ h => h) (Or.inl ⟨by rfl, ?_⟩) (by assumption) ?_
      rotate_left
      · intro w' hSw
        try dsimp only at hSw
        go_simp
        try with_reducible rfl
      try simp only [Act.put, List.setIfInBounds_toArray, List.set_cons_zero, List.set_cons_succ]
      refine GoF.take 13 (some 85) (v := ?_) rfl rfl (by kernel_rfl) (by kernel_rfl) (by kernel_rfl) (fun _ _ _ h => h) (Or.inl ⟨by rfl, ?_⟩) (by assumption) ?_
      rotate_left
      · intro w' hSw
        try dsimp only at hSw
        go_simp
        try with_reducible rfl
      try simp only [Act.put, List.setIfInBounds_toArray, List.set_cons_zero, List.set_cons_succ]
      refine GoF.take 14 (some 86) (v := ?_) rfl rfl (by kernel_rfl) (by kernel_rfl) (by kernel_rfl) (fun _ _ _ h => h) (Or.inl ⟨by rfl, ?_⟩) (by assumption) ?_
      rotate_left
      · intro w' hSw
        try dsimp only at hSw
        go_simp
        try with_reducible rfl
      try simp only [Act.put, List.setIfInBounds_toArray, List.set_cons_zero, List.set_cons_succ]
      refine GoF.take 15 (some 87) (v := ?_) rfl rfl (by kernel_rfl) (by kernel_rfl) (by kernel_rfl) (fun _ _ _ h => h) (Or.inl ⟨by rfl, ?_⟩) (by assumption) ?_
      rotate_left
      · intro w' hSw
        try dsimp only at hSw
        go_simp
        try with_reducible rfl
      try simp only [Act.put, List.setIfInBounds_toArray, List.set_cons_zero, List.set_cons_succ]
      refine GoF.take 16 (some 88) (v := ?_) rfl rfl (by kernel_rfl) (by kernel_rfl) (by kernel_rfl) (fun _ _ _ h => h) (Or.inl ⟨by rfl, ?_⟩) (by assumption) ?_
      rotate_left
      · intro w' hSw
        try dsimp only at hSw
        go_simp
        try with_reducible rfl
      try simp only [Act.put, List.setIfInBounds_toArray, List.set_cons_zero, List.set_cons_succ]
      refine GoF.take 17 (some 89) (v := ?_) rfl rfl (by kernel_rfl) (by kernel_rfl) (by kernel_rfl) (fun _ _ _ h => h) (Or.inl ⟨by rfl, ?_⟩) (by assumption) ?_
      rotate_left
      · intro w' hSw
        try dsimp only at hSw
        go_simp
        try with_reducible rfl
      try simp only [Act.put, List.setIfInBounds_toArray, List.set_cons_zero, List.set_cons_succ]
      refine GoF.take 18 (some 90) (v := ?_) rfl rfl (by kernel_rfl) (by kernel_rfl) (by kernel_rfl) (fun _ _ _ h => h) (Or.inl ⟨by rfl, ?_⟩) (by assumption) ?_
      rotate_left
      · intro w' hSw
        try dsimp only at hSw
        go_simp
        try with_reducible rfl
      try simp only [Act.put, List.setIfInBounds_toArray, List.set_cons_zero, List.set_cons_succ]
      refine GoF.each (rs := [1, 11]) (by kernel_rfl) (by kernel_rfl) (by kernel_rfl) ?_
      refine EachF.cons (i := 1) rfl (fun K hK => ?_) ?_
      · go_simp
        refine hK.out _ _ (HS.out _ (by (repeat (first | with_reducible exact Ext.refl _ | with_reducible refine Ext.drew ?_ | with_reducible refine Ext.alloc ?_ _)))) (fun hHeld => ?_)
        clear hK K
        try simp only [Act.put, List.setIfInBounds_toArray, List.set_cons_zero, List.set_cons_succ]
        refine GoF.each (rs := [8, 11]) (by kernel_rfl) (by kernel_rfl) (by kernel_rfl) ?_
        refine EachF.cons (i := 8) rfl (fun K hK => ?_) ?_
        · refine step_append_any _ rfl (.tmp 73) (.tmp 79) _ rfl w2.heap.size 31 i0 _ 3 48 Try.underlying27 hi0 iz0 iz1 iz2 rfl (by omega) (.slice (some ⟨_, 0, none⟩) 0 0) (0) ([]) rfl (World.ownsRow_made (base := w2.heap.size) (e := 31) (size := 3) w2.drew #[] 0 (Nat.le_refl _) (Nat.zero_le _) rfl) _ _ (k) _ (rcs (R.take k)) rfl (Ext.reads (a := w2) (by (repeat (first | with_reducible exact Ext.refl _ | with_reducible refine Ext.drew ?_ | with_reducible refine Ext.alloc ?_ _))) RT.out (Nat.le_refl _)) (rcs_one _) (by unfold maxLen; omega) (by omega) (by simp; try omega) ?_
          intro v3 w3 ho3 hg3 hat3
          rw [Nat.zero_add, List.nil_append] at ho3
          have E3 := hide (Ext.grown (a := w2) (by (repeat (first | with_reducible exact Ext.refl _ | with_reducible refine Ext.drew ?_ | with_reducible refine Ext.alloc ?_ _))) hg3 (fun z hz => by simp [Value.ownBlock] at hz; omega))
          obtain ⟨A3, c3, hv3, _⟩ := own_form ho3
          subst hv3
          have O3 := hide ho3
          refine hK.out _ _ (HS.out _ E3.out) (fun hHeld => ?_)
          clear ho3 hg3 hat3 hK K
          change GoF _ _ _ _ _ _ _ _ (Act.put _ (some 80) _) _
          simp only [Act.put, List.setIfInBounds_toArray, List.set_cons_zero, List.set_cons_succ]
          refine GoF.each (rs := [11]) (by kernel_rfl) (by kernel_rfl) (by kernel_rfl) ?_
          refine EachF.cons (i := 11) rfl (fun K hK => ?_) EachF.nil
          go_simp
          refine hK.out _ _ (HS.out _ (by (repeat (first | with_reducible exact Ext.refl _ | with_reducible exact E3.out | with_reducible refine Ext.drew ?_ | with_reducible refine Ext.alloc ?_ _)))) (fun hHeld => ?_)
          clear hK K
          try simp only [Act.put, List.setIfInBounds_toArray, List.set_cons_zero, List.set_cons_succ]
          refine GoF.each (rs := [12]) (by kernel_rfl) (by kernel_rfl) (by kernel_rfl) ?_
          refine EachF.cons (i := 12) rfl (fun K hK => ?_) EachF.nil
          refine step_append_any _ rfl (.tmp 80) (.tmp 83) _ rfl w2.heap.size 31 i0 _ 3 48 Try.underlying27 hi0 iz0 iz1 iz2 rfl (by omega) (.slice A3 k c3) (k) (rcs (R.take k)) rfl (O3.out.alloc _) _ _ (1) _ (rc r) rfl (reads_blk (m := 3) (Blk.new w3 31 #[.string r.k, .string r.s, .string r.v]) rfl) (rc_one r) (by unfold maxLen; omega) (by omega) (by have := E3.out.size; simp; try omega) ?_
          intro v4 w4 ho4 hg4 hat4
          have E4 := hide (Ext.grown (a := w2) (by (repeat (first | with_reducible exact Ext.refl _ | with_reducible exact E3.out | with_reducible refine Ext.drew ?_ | with_reducible refine Ext.alloc ?_ _))) hg4 (fun z hz => (O3.out.lt z hz).1))
          obtain ⟨A4, c4, hv4, _⟩ := own_form ho4
          subst hv4
          have O4 := hide ho4
          refine hK.out _ _ (HS.out _ E4.out) (fun hHeld => ?_)
          clear ho4 hg4 hat4 hK K
          change GoF _ _ _ _ _ _ _ _ (Act.put _ (some 84) _) _
          simp only [Act.put, List.setIfInBounds_toArray, List.set_cons_zero, List.set_cons_succ]
          refine GoF.each (rs := [19]) (by kernel_rfl) (by kernel_rfl) (by kernel_rfl) ?_
          refine EachF.cons (i := 19) rfl (fun K hK => ?_) EachF.nil
          refine step_append_any _ rfl (.tmp 84) (.tmp 90) _ rfl w2.heap.size 31 i0 _ 3 48 Try.underlying27 hi0 iz0 iz1 iz2 rfl (by omega) (.slice A4 (k + 1) c4) (k + 1) (rcs (R.take k) ++ rc r) rfl (O4.out) _ _ (N - k) _ (rcs (R.drop k)) rfl (Ext.reads E4.out RD.out (Nat.le_refl _)) (rcs_one _) (by unfold maxLen; omega) (by omega) (E4.out.size) ?_
          intro v5 w5 ho5 hg5 hat5
          have E5 := hide (Ext.grown (a := w2) E4.out hg5 (fun z hz => (O4.out.lt z hz).1))
          obtain ⟨A5, c5, hv5, _⟩ := own_form ho5
          subst hv5
          have O5 := hide ho5
          refine hK.out _ _ (HS.out _ E5.out) (fun hHeld => ?_)
          clear ho5 hg5 hat5 hK K
          change GoF _ _ _ _ _ _ _ _ (Act.put _ (some 91) _) _
          simp only [Act.put, List.setIfInBounds_toArray, List.set_cons_zero, List.set_cons_succ]
          refine GoF.take 20 (some 92) (v := ?_) rfl rfl (by kernel_rfl) (by kernel_rfl) (by kernel_rfl) (fun _ _ _ h => h) (Or.inl ⟨by rfl, ?_⟩) (by assumption) ?_
          rotate_left
          · intro w' hSw
            try dsimp only at hSw
            go_simp
            try with_reducible rfl
          try simp only [Act.put, List.setIfInBounds_toArray, List.set_cons_zero, List.set_cons_succ]
          refine GoF.take 21 (some 93) (v := ?_) rfl rfl (by kernel_rfl) (by kernel_rfl) (by kernel_rfl) (fun _ _ _ h => h) (Or.inl ⟨by rfl, ?_⟩) (by assumption) ?_
          rotate_left
          · intro w' hSw
            try dsimp only at hSw
            go_simp
            try with_reducible rfl
          try simp only [Act.put, List.setIfInBounds_toArray, List.set_cons_zero, List.set_cons_succ]
          refine GoF.last (by kernel_rfl) (by kernel_rfl) rfl (fun K hK => ?_)
          have B5 := hide (E5.out.blk HC.out.rf.blk)
          have y5 := B5.out.cell 0
          simp at y5
          have z5 := B5.out.frozen 0
          have a5 := E5.out.blk HC.out.ans
          have AN := hide a5
          have b0 := a5.cell 0
          have b1 := a5.cell 1
          simp at b0 b1
          have fb0 := a5.frozen 0
          have fb1 := a5.frozen 1
          clear a5 ha0 ha1 hs0 hs3 hs4 hs5 hc0
          go_simp
          refine hK.out _ _ ?_
          clear hK K
          have hne : rb ≠ w.heap.size + 1 := by have := HLT.out; omega
          go_wp2_with (fail)
          have hfin := Rf.turn (m := k + 1 + (N - k)) (R := R.take k ++ ([r] ++ R.drop k)) (A := A5) (c := c5) H.out.ext H.out.hb HLT.out (HC.out.ext.trans E5.out) B5.out AN.out (by simp [HNL.out.symm]; try omega) (by have h := World.ownsRow.mono O5.out HC.out.ext.size; simpa [rcs_app, rcs, rc] using h) (.int .i64 0) (.slice none 0 0)
          have q := (AN.out.far (p := ⟨rb, 0, none⟩) (show w.heap.size + 1 ≠ rb by omega) (.slice A5 (k + 1 + (N - k)) c5)).set2 (.int .i64 0) (.slice none 0 0)
          have q0 := q.cell 0
          have q1 := q.cell 1
          simp only [List.getElem?_toArray, List.getElem?_cons_zero, List.getElem?_cons_succ] at q0 q1
          have eA := HCUT.out.take
          have eB := HCUT.out.drop
          rw [HOO.out] at eB
          have hrep2 := HCUT.out.put HP.out HKD.out (o := some r) (fun r' e => by injection e with e; rw [e])
          rw [← eA, show CB = R.drop k from eB.symm] at hrep2
          exact bodyPost_ret (v := .agg #[.int .i64 0, .slice none 0 0]) (by simp [results, Try.results12, go_sem, q0, q1]) rfl ⟨_, hrep2, by simp; try omega, hfin⟩
        refine EachF.cons (i := 11) rfl (fun K hK => ?_) ?_
        · go_simp
          refine hK.out _ _ (HS.out _ (by (repeat (first | with_reducible exact Ext.refl _ | with_reducible refine Ext.drew ?_ | with_reducible refine Ext.alloc ?_ _)))) (fun hHeld => ?_)
          clear hK K
          try simp only [Act.put, List.setIfInBounds_toArray, List.set_cons_zero, List.set_cons_succ]
          refine GoF.each (rs := [8]) (by kernel_rfl) (by kernel_rfl) (by kernel_rfl) ?_
          refine EachF.cons (i := 8) rfl (fun K hK => ?_) EachF.nil
          refine step_append_any _ rfl (.tmp 73) (.tmp 79) _ rfl w2.heap.size 31 i0 _ 3 48 Try.underlying27 hi0 iz0 iz1 iz2 rfl (by omega) (.slice (some ⟨_, 0, none⟩) 0 0) (0) ([]) rfl ((World.ownsRow_made (base := w2.heap.size) (e := 31) (size := 3) w2.drew #[] 0 (Nat.le_refl _) (Nat.zero_le _) rfl).alloc _) _ _ (k) _ (rcs (R.take k)) rfl (Ext.reads (a := w2) (by (repeat (first | with_reducible exact Ext.refl _ | with_reducible refine Ext.drew ?_ | with_reducible refine Ext.alloc ?_ _))) RT.out (Nat.le_refl _)) (rcs_one _) (by unfold maxLen; omega) (by omega) (by simp; try omega) ?_
          intro v3 w3 ho3 hg3 hat3
          rw [Nat.zero_add, List.nil_append] at ho3
          have E3 := hide (Ext.grown (a := w2) (by (repeat (first | with_reducible exact Ext.refl _ | with_reducible refine Ext.drew ?_ | with_reducible refine Ext.alloc ?_ _))) hg3 (fun z hz => by simp [Value.ownBlock] at hz; omega))
          have KX := hide (show Blk w3 (w2.heap.size + 1) 31 #[.string r.k, .string r.s, .string r.v] from (by have h := Blk.grown (Blk.new (w2.drew.alloc (.cells #[] 31)) 31 #[.string r.k, .string r.s, .string r.v]) hg3 (by simp [Value.ownBlock]); have e : (w2.drew.alloc (.cells #[] 31)).heap.size = w2.heap.size + 1 := (by simp); rw [e] at h; exact h))
          obtain ⟨A3, c3, hv3, _⟩ := own_form ho3
          subst hv3
          have O3 := hide ho3
          refine hK.out _ _ (HS.out _ E3.out) (fun hHeld => ?_)
          clear ho3 hg3 hat3 hK K
          change GoF _ _ _ _ _ _ _ _ (Act.put _ (some 80) _) _
          simp only [Act.put, List.setIfInBounds_toArray, List.set_cons_zero, List.set_cons_succ]
          refine GoF.each (rs := [12]) (by kernel_rfl) (by kernel_rfl) (by kernel_rfl) ?_
          refine EachF.cons (i := 12) rfl (fun K hK => ?_) EachF.nil
          refine step_append_any _ rfl (.tmp 80) (.tmp 83) _ rfl w2.heap.size 31 i0 _ 3 48 Try.underlying27 hi0 iz0 iz1 iz2 rfl (by omega) (.slice A3 k c3) (k) (rcs (R.take k)) rfl (O3.out) _ _ (1) _ (rc r) rfl (reads_blk (m := 3) KX.out rfl) (rc_one r) (by unfold maxLen; omega) (by omega) (by have := E3.out.size; simp; try omega) ?_
          intro v4 w4 ho4 hg4 hat4
          have E4 := hide (Ext.grown (a := w2) (by (repeat (first | with_reducible exact Ext.refl _ | with_reducible exact E3.out | with_reducible refine Ext.drew ?_ | with_reducible refine Ext.alloc ?_ _))) hg4 (fun z hz => (O3.out.lt z hz).1))
          obtain ⟨A4, c4, hv4, _⟩ := own_form ho4
          subst hv4
          have O4 := hide ho4
          refine hK.out _ _ (HS.out _ E4.out) (fun hHeld => ?_)
          clear ho4 hg4 hat4 hK K
          change GoF _ _ _ _ _ _ _ _ (Act.put _ (some 84) _) _
          simp only [Act.put, List.setIfInBounds_toArray, List.set_cons_zero, List.set_cons_succ]
          refine GoF.each (rs := [19]) (by kernel_rfl) (by kernel_rfl) (by kernel_rfl) ?_
          refine EachF.cons (i := 19) rfl (fun K hK => ?_) EachF.nil
          refine step_append_any _ rfl (.tmp 84) (.tmp 90) _ rfl w2.heap.size 31 i0 _ 3 48 Try.underlying27 hi0 iz0 iz1 iz2 rfl (by omega) (.slice A4 (k + 1) c4) (k + 1) (rcs (R.take k) ++ rc r) rfl (O4.out) _ _ (N - k) _ (rcs (R.drop k)) rfl (Ext.reads E4.out RD.out (Nat.le_refl _)) (rcs_one _) (by unfold maxLen; omega) (by omega) (E4.out.size) ?_
          intro v5 w5 ho5 hg5 hat5
          have E5 := hide (Ext.grown (a := w2) E4.out hg5 (fun z hz => (O4.out.lt z hz).1))
          obtain ⟨A5, c5, hv5, _⟩ := own_form ho5
          subst hv5
          have O5 := hide ho5
          refine hK.out _ _ (HS.out _ E5.out) (fun hHeld => ?_)
          clear ho5 hg5 hat5 hK K
          change GoF _ _ _ _ _ _ _ _ (Act.put _ (some 91) _) _
          simp only [Act.put, List.setIfInBounds_toArray, List.set_cons_zero, List.set_cons_succ]
          refine GoF.take 20 (some 92) (v := ?_) rfl rfl (by kernel_rfl) (by kernel_rfl) (by kernel_rfl) (fun _ _ _ h => h) (Or.inl ⟨by rfl, ?_⟩) (by assumption) ?_
          rotate_left
          · intro w' hSw
            try dsimp only at hSw
            go_simp
            try with_reducible rfl
          try simp only [Act.put, List.setIfInBounds_toArray, List.set_cons_zero, List.set_cons_succ]
          refine GoF.take 21 (some 93) (v := ?_) rfl rfl (by kernel_rfl) (by kernel_rfl) (by kernel_rfl) (fun _ _ _ h => h) (Or.inl ⟨by rfl, ?_⟩) (by assumption) ?_
          rotate_left
          · intro w' hSw
            try dsimp only at hSw
            go_simp
            try with_reducible rfl
          try simp only [Act.put, List.setIfInBounds_toArray, List.set_cons_zero, List.set_cons_succ]
          refine GoF.last (by kernel_rfl) (by kernel_rfl) rfl (fun K hK => ?_)
          have B5 := hide (E5.out.blk HC.out.rf.blk)
          have y5 := B5.out.cell 0
          simp at y5
          have z5 := B5.out.frozen 0
          have a5 := E5.out.blk HC.out.ans
          have AN := hide a5
          have b0 := a5.cell 0
          have b1 := a5.cell 1
          simp at b0 b1
          have fb0 := a5.frozen 0
          have fb1 := a5.frozen 1
          clear a5 ha0 ha1 hs0 hs3 hs4 hs5 hc0
          go_simp
          refine hK.out _ _ ?_
          clear hK K
          have hne : rb ≠ w.heap.size + 1 := by have := HLT.out; omega
          go_wp2_with (fail)
          have hfin := Rf.turn (m := k + 1 + (N - k)) (R := R.take k ++ ([r] ++ R.drop k)) (A := A5) (c := c5) H.out.ext H.out.hb HLT.out (HC.out.ext.trans E5.out) B5.out AN.out (by simp [HNL.out.symm]; try omega) (by have h := World.ownsRow.mono O5.out HC.out.ext.size; simpa [rcs_app, rcs, rc] using h) (.int .i64 0) (.slice none 0 0)
          have q := (AN.out.far (p := ⟨rb, 0, none⟩) (show w.heap.size + 1 ≠ rb by omega) (.slice A5 (k + 1 + (N - k)) c5)).set2 (.int .i64 0) (.slice none 0 0)
          have q0 := q.cell 0
          have q1 := q.cell 1
          simp only [List.getElem?_toArray, List.getElem?_cons_zero, List.getElem?_cons_succ] at q0 q1
          have eA := HCUT.out.take
          have eB := HCUT.out.drop
          rw [HOO.out] at eB
          have hrep2 := HCUT.out.put HP.out HKD.out (o := some r) (fun r' e => by injection e with e; rw [e])
          rw [← eA, show CB = R.drop k from eB.symm] at hrep2
          exact bodyPost_ret (v := .agg #[.int .i64 0, .slice none 0 0]) (by simp [results, Try.results12, go_sem, q0, q1]) rfl ⟨_, hrep2, by simp; try omega, hfin⟩
        exact EachF.nil
      refine EachF.cons (i := 11) rfl (fun K hK => ?_) ?_
      · go_simp
        refine hK.out _ _ (HS.out _ (by (repeat (first | with_reducible exact Ext.refl _ | with_reducible refine Ext.drew ?_ | with_reducible refine Ext.alloc ?_ _)))) (fun hHeld => ?_)
        clear hK K
        try simp only [Act.put, List.setIfInBounds_toArray, List.set_cons_zero, List.set_cons_succ]
        refine GoF.each (rs := [1]) (by kernel_rfl) (by kernel_rfl) (by kernel_rfl) ?_
        refine EachF.cons (i := 1) rfl (fun K hK => ?_) EachF.nil
        go_simp
        refine hK.out _ _ (HS.out _ (by (repeat (first | with_reducible exact Ext.refl _ | with_reducible refine Ext.drew ?_ | with_reducible refine Ext.alloc ?_ _)))) (fun hHeld => ?_)
        clear hK K
        try simp only [Act.put, List.setIfInBounds_toArray, List.set_cons_zero, List.set_cons_succ]
        refine GoF.each (rs := [8]) (by kernel_rfl) (by kernel_rfl) (by kernel_rfl) ?_
        refine EachF.cons (i := 8) rfl (fun K hK => ?_) EachF.nil
        refine step_append_any _ rfl (.tmp 73) (.tmp 79) _ rfl w2.heap.size 31 i0 _ 3 48 Try.underlying27 hi0 iz0 iz1 iz2 rfl (by omega) (.slice (some ⟨_, 0, none⟩) 0 0) (0) ([]) rfl (by have h := World.ownsRow_made (base := w2.heap.size) (e := 31) (size := 3) (w2.drew.alloc (.cells #[.string r.k, .string r.s, .string r.v] 31)) #[] 0 (by simp) (Nat.zero_le _) rfl; have e : (w2.drew.alloc (.cells #[.string r.k, .string r.s, .string r.v] 31)).heap.size = w2.heap.size + 1 := (by simp); rw [e] at h; exact h) _ _ (k) _ (rcs (R.take k)) rfl (Ext.reads (a := w2) (by (repeat (first | with_reducible exact Ext.refl _ | with_reducible refine Ext.drew ?_ | with_reducible refine Ext.alloc ?_ _))) RT.out (Nat.le_refl _)) (rcs_one _) (by unfold maxLen; omega) (by omega) (by simp; try omega) ?_
        intro v3 w3 ho3 hg3 hat3
        rw [Nat.zero_add, List.nil_append] at ho3
        have E3 := hide (Ext.grown (a := w2) (by (repeat (first | with_reducible exact Ext.refl _ | with_reducible refine Ext.drew ?_ | with_reducible refine Ext.alloc ?_ _))) hg3 (fun z hz => by simp [Value.ownBlock] at hz; omega))
        have KX := hide (Blk.grown (Blk.alloc (Blk.new w2.drew 31 #[.string r.k, .string r.s, .string r.v]) (.cells #[] 31)) hg3 (by simp [Value.ownBlock]))
        obtain ⟨A3, c3, hv3, _⟩ := own_form ho3
        subst hv3
        have O3 := hide ho3
        refine hK.out _ _ (HS.out _ E3.out) (fun hHeld => ?_)
        clear ho3 hg3 hat3 hK K
        change GoF _ _ _ _ _ _ _ _ (Act.put _ (some 80) _) _
        simp only [Act.put, List.setIfInBounds_toArray, List.set_cons_zero, List.set_cons_succ]
        refine GoF.each (rs := [12]) (by kernel_rfl) (by kernel_rfl) (by kernel_rfl) ?_
        refine EachF.cons (i := 12) rfl (fun K hK => ?_) EachF.nil
        refine step_append_any _ rfl (.tmp 80) (.tmp 83) _ rfl w2.heap.size 31 i0 _ 3 48 Try.underlying27 hi0 iz0 iz1 iz2 rfl (by omega) (.slice A3 k c3) (k) (rcs (R.take k)) rfl (O3.out) _ _ (1) _ (rc r) rfl (reads_blk (m := 3) KX.out rfl) (rc_one r) (by unfold maxLen; omega) (by omega) (by have := E3.out.size; simp; try omega) ?_
        intro v4 w4 ho4 hg4 hat4
        have E4 := hide (Ext.grown (a := w2) (by (repeat (first | with_reducible exact Ext.refl _ | with_reducible exact E3.out | with_reducible refine Ext.drew ?_ | with_reducible refine Ext.alloc ?_ _))) hg4 (fun z hz => (O3.out.lt z hz).1))
        obtain ⟨A4, c4, hv4, _⟩ := own_form ho4
        subst hv4
        have O4 := hide ho4
        refine hK.out _ _ (HS.out _ E4.out) (fun hHeld => ?_)
        clear ho4 hg4 hat4 hK K
        change GoF _ _ _ _ _ _ _ _ (Act.put _ (some 84) _) _
        simp only [Act.put, List.setIfInBounds_toArray, List.set_cons_zero, List.set_cons_succ]
        refine GoF.each (rs := [19]) (by kernel_rfl) (by kernel_rfl) (by kernel_rfl) ?_
        refine EachF.cons (i := 19) rfl (fun K hK => ?_) EachF.nil
        refine step_append_any _ rfl (.tmp 84) (.tmp 90) _ rfl w2.heap.size 31 i0 _ 3 48 Try.underlying27 hi0 iz0 iz1 iz2 rfl (by omega) (.slice A4 (k + 1) c4) (k + 1) (rcs (R.take k) ++ rc r) rfl (O4.out) _ _ (N - k) _ (rcs (R.drop k)) rfl (Ext.reads E4.out RD.out (Nat.le_refl _)) (rcs_one _) (by unfold maxLen; omega) (by omega) (E4.out.size) ?_
        intro v5 w5 ho5 hg5 hat5
        have E5 := hide (Ext.grown (a := w2) E4.out hg5 (fun z hz => (O4.out.lt z hz).1))
        obtain ⟨A5, c5, hv5, _⟩ := own_form ho5
        subst hv5
        have O5 := hide ho5
        refine hK.out _ _ (HS.out _ E5.out) (fun hHeld => ?_)
        clear ho5 hg5 hat5 hK K
        change GoF _ _ _ _ _ _ _ _ (Act.put _ (some 91) _) _
        simp only [Act.put, List.setIfInBounds_toArray, List.set_cons_zero, List.set_cons_succ]
        refine GoF.take 20 (some 92) (v := ?_) rfl rfl (by kernel_rfl) (by kernel_rfl) (by kernel_rfl) (fun _ _ _ h => h) (Or.inl ⟨by rfl, ?_⟩) (by assumption) ?_
        rotate_left
        · intro w' hSw
          try dsimp only at hSw
          go_simp
          try with_reducible rfl
        try simp only [Act.put, List.setIfInBounds_toArray, List.set_cons_zero, List.set_cons_succ]
        refine GoF.take 21 (some 93) (v := ?_) rfl rfl (by kernel_rfl) (by kernel_rfl) (by kernel_rfl) (fun _ _ _ h => h) (Or.inl ⟨by rfl, ?_⟩) (by assumption) ?_
        rotate_left
        · intro w' hSw
          try dsimp only at hSw
          go_simp
          try with_reducible rfl
        try simp only [Act.put, List.setIfInBounds_toArray, List.set_cons_zero, List.set_cons_succ]
        refine GoF.last (by kernel_rfl) (by kernel_rfl) rfl (fun K hK => ?_)
        have B5 := hide (E5.out.blk HC.out.rf.blk)
        have y5 := B5.out.cell 0
        simp at y5
        have z5 := B5.out.frozen 0
        have a5 := E5.out.blk HC.out.ans
        have AN := hide a5
        have b0 := a5.cell 0
        have b1 := a5.cell 1
        simp at b0 b1
        have fb0 := a5.frozen 0
        have fb1 := a5.frozen 1
        clear a5 ha0 ha1 hs0 hs3 hs4 hs5 hc0
        go_simp
        refine hK.out _ _ ?_
        clear hK K
        have hne : rb ≠ w.heap.size + 1 := by have := HLT.out; omega
        go_wp2_with (fail)
        have hfin := Rf.turn (m := k + 1 + (N - k)) (R := R.take k ++ ([r] ++ R.drop k)) (A := A5) (c := c5) H.out.ext H.out.hb HLT.out (HC.out.ext.trans E5.out) B5.out AN.out (by simp [HNL.out.symm]; try omega) (by have h := World.ownsRow.mono O5.out HC.out.ext.size; simpa [rcs_app, rcs, rc] using h) (.int .i64 0) (.slice none 0 0)
        have q := (AN.out.far (p := ⟨rb, 0, none⟩) (show w.heap.size + 1 ≠ rb by omega) (.slice A5 (k + 1 + (N - k)) c5)).set2 (.int .i64 0) (.slice none 0 0)
        have q0 := q.cell 0
        have q1 := q.cell 1
        simp only [List.getElem?_toArray, List.getElem?_cons_zero, List.getElem?_cons_succ] at q0 q1
        have eA := HCUT.out.take
        have eB := HCUT.out.drop
        rw [HOO.out] at eB
        have hrep2 := HCUT.out.put HP.out HKD.out (o := some r) (fun r' e => by injection e with e; rw [e])
        rw [← eA, show CB = R.drop k from eB.symm] at hrep2
        exact bodyPost_ret (v := .agg #[.int .i64 0, .slice none 0 0]) (by simp [results, Try.results12, go_sem, q0, q1]) rfl ⟨_, hrep2, by simp; try omega, hfin⟩
      exact EachF.nil
end Go.Proofs.Ytjjilaanlhpogaa
