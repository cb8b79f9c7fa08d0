/- ModelAll: the document's Do: update, delete. -/
import Derived.Test.YtjjilaanlhpogaaModelAllE
namespace Go.Proofs.Ytjjilaanlhpogaa
open Go.ChangeShapes Go.WideShapes Go.ChangeAt Go.RowKit Go.Maps Go.MapKept Go.Sort
set_option linter.unusedVariables false

theorem rcs_set {R : List Rw} (r : Rw) : ∀ {k : Nat}, k < R.length → rcs (R.set k r) = (((rcs R).set (k * 3) (.string r.k)).set (k * 3 + 1) (.string r.s)).set (k * 3 + 2) (.string r.v) := by
  induction R with
  | nil => intro k h; exact absurd h (by simp)
  | cons a R ih =>
    intro k h
    cases k with
    | zero => simp [rcs, rc]
    | succ k =>
      have := ih (k := k) (by simpa using h)
      simp only [rcs, rc, List.set_cons_succ, List.flatMap_cons, List.cons_append, List.nil_append] at this ⊢
      rw [this, show (k + 1) * 3 = k * 3 + 3 by omega, show k * 3 + 3 + 1 = k * 3 + 1 + 3 by omega, show k * 3 + 3 + 2 = k * 3 + 2 + 3 by omega]
      simp [List.set_cons_succ]
theorem own_set3 {w : World} {B g N c k : Nat} {R : List Rw} (r : Rw) (h : w.ownsRow B 31 3 (.slice (some ⟨g, 0, none⟩) N c) N (rcs R)) (hk : k < R.length) :
    (((w.setCell ⟨g, k * 3, none⟩ (.string r.k)).setCell ⟨g, k * 3 + 1, none⟩ (.string r.s)).setCell ⟨g, k * 3 + 2, none⟩ (.string r.v)).ownsRow B 31 3 (.slice (some ⟨g, 0, none⟩) N c) N (rcs (R.set k r)) := by
  rw [rcs_set r hk]
  exact ((((h.stored (k * 3) (.string r.k)).1).stored (k * 3 + 1) (.string r.s)).1.stored (k * 3 + 2) (.string r.v)).1
/-- the table has turned already -/
theorem Rf.turned {W w w5 : World} {rb c m : Nat} {A : Option Addr} {R : List Rw} {a0 a1 : Value} (hW : Ext W w) (hrb : W.heap.size ≤ rb) (hlt : rb < w.heap.size) (ht : Touch w w5 (fun a => a = rb)) (hb : Blk w5 rb 29 #[.slice A m c]) (hans : Blk w5 (w.heap.size + 1) 37 #[a0, a1]) (hm : m = R.length)
    (ho : w5.ownsRow w.heap.size 31 3 (.slice A m c) m (rcs R)) (u0 u1 : Value) : RTells W w rb 0 [] R (.returned (.agg #[.int .i64 0, .slice none 0 0])) ((w5.setCell ⟨w.heap.size + 1, 0, none⟩ u0).setCell ⟨w.heap.size + 1, 1, none⟩ u1) := by
  subst hm
  have t2 := touch_set2 w5 (w.heap.size + 1) u0 u1
  have hWs := hW.size
  have o2 := ownsRow_touch t2 ho (fun z hz e => by subst e; exact own_blk_ne ho hans (by decide) hz)
  refine ⟨none, 0, A, c, rfl, World.ownsRow_nil _ _ _ _, ⟨t2.blk hb (by omega), World.ownsRow.mono o2 hWs, hrb, Touch.ext (Touch.ext hW ht hrb) t2 (by omega)⟩, ?_⟩
  refine (ht.setCell (F := fun a => a = rb) (p := ⟨w.heap.size + 1, 0, none⟩) (fun h => ?_) _).setCell (F := fun a => a = rb) (p := ⟨w.heap.size + 1, 1, none⟩) (fun h => ?_) _
  · have h' : w.heap.size + 1 < w.heap.size := h
    omega
  · have h' : w.heap.size + 1 < w.heap.size := h
    omega
set_option maxRecDepth 100000 in
set_option maxHeartbeats 4000000 in
theorem rdo_del (W w : World) (rb : Nat) (A0 : Option Addr) (c0 : Nat) (R : List Rw) (f : ByteArray → Option Rw) (t n : Int) (r : Rw) (A : Option Addr) (l c : Nat) (h : Rf W w rb A0 c0 R) (hn : R.length ≤ 1000) (hz : Rz r) (hm : mayS 5 r = true) (hrep : Rep f R) (hkd : Kd f) (o : Rw) (ho : f r.k = some o) :
    Calls Try.prog 12 #[.pointer (some ⟨rb, 0, none⟩), stv 5 t n r A l c] w (fun e w' => ∃ R', Rep (putR f r.k none) R' ∧ R'.length ≤ R.length ∧ RTells W w rb 0 [] R' e w') := by
  have hM := hide (fun w => rbad_any 5 t n r A l c w hz.1 hz.2.1 hz.2.2)
  have HM := hide hm
  have H := hide h
  have HP := hide hrep
  have HKD := hide hkd
  have HN := hide hn
  have HOO := hide ho
  clear ho
  obtain ⟨N, hNL⟩ : ∃ N, N = R.length := ⟨_, rfl⟩
  have HNL := hide hNL
  have hN : N ≤ 1000 := by omega
  obtain ⟨i0, hi0, iz0, iz1, iz2⟩ := info_parts Try.info31'
  clear hm hz h hrep hkd hn hNL
  simp only [stv] at hM ⊢
  go_enter Try.func12, Try.ntmps12
  go_upto_region 29 with (first
    | (go_at_call 21; refine (hM.out _).mono ?_; rintro e w1 ⟨rfl, x1⟩; rw [HM.out]; have HH := hide (Rh.start (n := n) (r := r) (A := A) (l := l) (c := c) H.out x1); have hk3 := HH.out.stp.cell 3; simp at hk3; clear x1)
    | (go_at_call 22; refine (rfind_any w1 rb _ A0 c0 R r.k HH.out.rf.blk (Reads.of_own HH.out.rf.own) HN.out).mono ?_; rintro e w2 ⟨k, b, m, rfl, hat, hb, hw2⟩; have HC := hide (HH.out.ex (show Ext w1 w2 from by rw [hw2]; exact (Ext.refl w1).drewN m)); obtain ⟨hbe, CA, CB, hcut⟩ := found_b HP.out HKD.out hat hb; rw [HOO.out] at hbe; obtain rfl : b = true := hbe; have HCUT := hide hcut; have hkN : k ≤ N := (by rw [HNL.out]; exact hat.1); have hs0 := HC.out.stp.cell 0; have hc0 := HC.out.rf.blk.cell 0; have ha0 := HC.out.ans.cell 0; have ha1 := HC.out.ans.cell 1; simp at hs0 hc0 ha0 ha1; rw [← HNL.out] at hc0; have fa0 := HC.out.ans.frozen 0; have fa1 := HC.out.ans.frozen 1; have hlt2 : w.heap.size + 1 < w2.heap.size := HC.out.ans.lt; have hrb2 : rb < w2.heap.size := HC.out.rf.blk.lt; clear hat hb hw2 hcut hk3 HH hM HM))
  have HLT := hide (show rb < w.heap.size from H.out.blk.lt)
  have hfo := HCUT.out.found HOO.out
  have hk2 : k + 1 ≤ N := by rw [HNL.out]; exact hfo.2.1
  obtain ⟨g, hA, hc1, hc2⟩ := Rf.some_ H.out (by have := hfo.2.1; omega)
  subst hA
  rw [← HNL.out] at hc1
  have RT := hide (reads_takeR (by rw [HNL.out]; exact Reads.of_own HC.out.own) hkN)
  have hkc : k ≤ c0 := by omega
  have hkc1 : (k : Int) + 1 ≤ N := by omega
  have hkc2 : (k : Int) + 1 ≤ c0 := by omega
  have hcm : (c0 : Int) ≤ 9223372036854775807 := by unfold maxLen at hc2; omega
  have hwk : IntKind.i64.wrap ((k : Int) + 1) = (k : Int) + 1 := by simp [IntKind.wrap, IntKind.signed, IntKind.bits]; omega
  have htn : ((k : Int) + 1).toNat = k + 1 := by omega
  have hk00 : (0 : Int) ≤ (k : Int) + 1 := by omega
  clear hfo
  by_cases hck : c0 = k + 1
  · obtain rfl : c0 = N := by omega
    have RD : Hid (∀ A', Reads w2 w2.heap.size 3 A' 0 (rcs (R.drop (k + 1)))) := fun A' => reads_end HNL.out.symm (by omega) A'
    have ek : (k : Int) + 1 = (c0 : Int) := by omega
    have HCK := hide hck
    have hwk2 : IntKind.i64.wrap (c0 : Int) = (c0 : Int) := by simp [IntKind.wrap, IntKind.signed, IntKind.bits]; omega
    clear hwk htn hk00 hkc1 hkc2 hck
    have HS := hide (show ∀ w' : World, Ext w2 w' → (fun w' => w'.cell? ⟨rb, 0, none⟩ = some (.slice (some ⟨g, 0, none⟩) c0 c0)) w' from fun w' hx => by simpa [HNL.out.symm] using (hx.blk HC.out.rf.blk).cell 0)
    refine wp_region_F (S := (fun w' => w'.cell? ⟨rb, 0, none⟩ = some (.slice (some ⟨g, 0, none⟩) c0 c0))) 19 (by kernel_rfl) (by kernel_rfl) hc0 (fun hHeld => ?_)
    refine GoF.take 0 (some 132) (v := ?_) rfl rfl (by kernel_rfl) (by kernel_rfl) (by kernel_rfl) (fun _ _ _ h => h) (Or.inl ⟨by rfl, ?_⟩) (by assumption) ?_
    rotate_left
    · intro w' hSw
      try dsimp only at hSw
      go_simp
      try with_reducible rfl
    try simp only [Act.put, List.setIfInBounds_toArray, List.set_cons_zero, List.set_cons_succ]
    refine GoF.take 2 (some 134) (v := ?_) rfl rfl (by kernel_rfl) (by kernel_rfl) (by kernel_rfl) (fun _ _ _ h => h) (Or.inl ⟨by rfl, ?_⟩) (by assumption) ?_
    rotate_left
    · intro w' hSw
      try dsimp only at hSw
      go_simp
      try with_reducible rfl
    try simp only [Act.put, List.setIfInBounds_toArray, List.set_cons_zero, List.set_cons_succ]
    refine GoF.take 3 (some 135) (v := ?_) rfl rfl (by kernel_rfl) (by kernel_rfl) (by kernel_rfl) (fun _ _ _ h => h) (Or.inl ⟨by rfl, ?_⟩) (by assumption) ?_
    rotate_left
    · intro w' hSw
      try dsimp only at hSw
      go_simp
      try with_reducible rfl
    try simp only [Act.put, List.setIfInBounds_toArray, List.set_cons_zero, List.set_cons_succ]
    refine GoF.take 4 (some 136) (v := ?_) rfl rfl (by kernel_rfl) (by kernel_rfl) (by kernel_rfl) (fun _ _ _ h => h) (Or.inl ⟨by rfl, ?_⟩) (by assumption) ?_
    rotate_left
    · intro w' hSw
      try dsimp only at hSw
      go_simp
      try with_reducible rfl
    try simp only [Act.put, List.setIfInBounds_toArray, List.set_cons_zero, List.set_cons_succ]
    refine GoF.take 5 (some 137) (v := ?_) rfl rfl (by kernel_rfl) (by kernel_rfl) (by kernel_rfl) (fun _ _ _ h => h) (Or.inl ⟨by rfl, ?_⟩) (by assumption) ?_
    rotate_left
    · intro w' hSw
      try dsimp only at hSw
      go_simp
      try with_reducible rfl
    try simp only [Act.put, List.setIfInBounds_toArray, List.set_cons_zero, List.set_cons_succ]
    refine GoF.take 6 (some 138) (v := ?_) rfl rfl (by kernel_rfl) (by kernel_rfl) (by kernel_rfl) (fun _ _ _ h => h) (Or.inl ⟨by rfl, ?_⟩) (by assumption) ?_
    rotate_left
    · intro w' hSw
      try dsimp only at hSw
      go_simp
      try with_reducible rfl
    try simp only [Act.put, List.setIfInBounds_toArray, List.set_cons_zero, List.set_cons_succ]
    refine GoF.take 7 (some 139) (v := ?_) rfl rfl (by kernel_rfl) (by kernel_rfl) (by kernel_rfl) (fun _ _ _ h => h) (Or.inl ⟨by rfl, ?_⟩) (by assumption) ?_
    rotate_left
    · intro w' hSw
      try dsimp only at hSw
      go_simp
      try with_reducible rfl
    try simp only [Act.put, List.setIfInBounds_toArray, List.set_cons_zero, List.set_cons_succ]
    refine GoF.take 9 (some 141) (v := ?_) rfl rfl (by kernel_rfl) (by kernel_rfl) (by kernel_rfl) (fun _ _ _ h => h) (Or.inl ⟨by rfl, ?_⟩) (by assumption) ?_
    rotate_left
    · intro w' hSw
      try dsimp only at hSw
      go_simp
      try with_reducible rfl
    try simp only [Act.put, List.setIfInBounds_toArray, List.set_cons_zero, List.set_cons_succ]
    refine GoF.take 10 (some 142) (v := ?_) rfl rfl (by kernel_rfl) (by kernel_rfl) (by kernel_rfl) (fun _ _ _ h => h) (Or.inl ⟨by rfl, ?_⟩) (by assumption) ?_
    rotate_left
    · intro w' hSw
      try dsimp only at hSw
      go_simp
      try with_reducible rfl
    try simp only [Act.put, List.setIfInBounds_toArray, List.set_cons_zero, List.set_cons_succ]
    refine GoF.take 11 (some 143) (v := ?_) rfl rfl (by kernel_rfl) (by kernel_rfl) (by kernel_rfl) (fun _ _ _ h => h) (Or.inl ⟨by rfl, ?_⟩) (by assumption) ?_
    rotate_left
    · intro w' hSw
      try dsimp only at hSw
      go_simp
      try with_reducible rfl
    try simp only [Act.put, List.setIfInBounds_toArray, List.set_cons_zero, List.set_cons_succ]
    refine GoF.take 12 (some 144) (v := ?_) rfl rfl (by kernel_rfl) (by kernel_rfl) (by kernel_rfl) (fun _ _ _ h => h) (Or.inl ⟨by rfl, ?_⟩) (by assumption) ?_
    rotate_left
    · intro w' hSw
      try dsimp only at hSw
      go_simp
      try with_reducible rfl
    try simp only [Act.put, List.setIfInBounds_toArray, List.set_cons_zero, List.set_cons_succ]
    refine GoF.take 13 (some 145) (v := ?_) rfl rfl (by kernel_rfl) (by kernel_rfl) (by kernel_rfl) (fun _ _ _ h => h) (Or.inl ⟨by rfl, ?_⟩) (by assumption) ?_
    rotate_left
    · intro w' hSw
      try dsimp only at hSw
      go_simp
      try with_reducible rfl
    try simp only [Act.put, List.setIfInBounds_toArray, List.set_cons_zero, List.set_cons_succ]
    refine GoF.take 14 (some 146) (v := ?_) rfl rfl (by kernel_rfl) (by kernel_rfl) (by kernel_rfl) (fun _ _ _ h => h) (Or.inl ⟨by rfl, ?_⟩) (by assumption) ?_
    rotate_left
    · intro w' hSw
      try dsimp only at hSw
      go_simp
      try with_reducible rfl
    try simp only [Act.put, List.setIfInBounds_toArray, List.set_cons_zero, List.set_cons_succ]
    refine GoF.take 15 (some 147) (v := ?_) rfl rfl (by kernel_rfl) (by kernel_rfl) (by kernel_rfl) (fun _ _ _ h => h) (Or.inl ⟨by rfl, ?_⟩) (by assumption) ?_
    rotate_left
    · intro w' hSw
      try dsimp only at hSw
      go_simp
      try with_reducible rfl
    try simp only [Act.put, List.setIfInBounds_toArray, List.set_cons_zero, List.set_cons_succ]
    refine GoF.each (rs := [1]) (by kernel_rfl) (by kernel_rfl) (by kernel_rfl) ?_
    refine EachF.cons (i := 1) rfl (fun K hK => ?_) EachF.nil
    go_simp
    refine hK.out _ _ (HS.out _ (by (repeat (first | with_reducible exact Ext.refl _ | with_reducible refine Ext.drew ?_ | with_reducible refine Ext.alloc ?_ _)))) (fun hHeld => ?_)
    clear hK K
    try simp only [Act.put, List.setIfInBounds_toArray, List.set_cons_zero, List.set_cons_succ]
    refine GoF.each (rs := [8]) (by kernel_rfl) (by kernel_rfl) (by kernel_rfl) ?_
    refine EachF.cons (i := 8) rfl (fun K hK => ?_) EachF.nil
    refine step_append_any _ rfl (.tmp 133) (.tmp 139) _ rfl w2.heap.size 31 i0 _ 3 48 Try.underlying27 hi0 iz0 iz1 iz2 rfl (by omega) (.slice (some ⟨_, 0, none⟩) 0 0) (0) ([]) rfl (World.ownsRow_made (base := w2.heap.size) (e := 31) (size := 3) w2.drew #[] 0 (Nat.le_refl _) (Nat.zero_le _) rfl) _ _ (k) _ (rcs (R.take k)) rfl (Ext.reads (a := w2) (by (repeat (first | with_reducible exact Ext.refl _ | with_reducible refine Ext.drew ?_ | with_reducible refine Ext.alloc ?_ _))) RT.out (Nat.le_refl _)) (rcs_one _) (by unfold maxLen; omega) (by omega) (by simp; try omega) ?_
    intro v3 w3 ho3 hg3 hat3
    rw [Nat.zero_add, List.nil_append] at ho3
    have E3 := hide (Ext.grown (a := w2) (by (repeat (first | with_reducible exact Ext.refl _ | with_reducible refine Ext.drew ?_ | with_reducible refine Ext.alloc ?_ _))) hg3 (fun z hz => by simp [Value.ownBlock] at hz; omega))
    obtain ⟨A3, c3, hv3, _⟩ := own_form ho3
    subst hv3
    have O3 := hide ho3
    refine hK.out _ _ (HS.out _ E3.out) (fun hHeld => ?_)
    clear ho3 hg3 hat3 hK K
    change GoF _ _ _ _ _ _ _ _ (Act.put _ (some 140) _) _
    simp only [Act.put, List.setIfInBounds_toArray, List.set_cons_zero, List.set_cons_succ]
    refine GoF.each (rs := [16]) (by kernel_rfl) (by kernel_rfl) (by kernel_rfl) ?_
    refine EachF.cons (i := 16) rfl (fun K hK => ?_) EachF.nil
    refine step_append_any _ rfl (.tmp 140) (.tmp 147) _ rfl w2.heap.size 31 i0 _ 3 48 Try.underlying27 hi0 iz0 iz1 iz2 rfl (by omega) (.slice A3 k c3) (k) (rcs (R.take k)) rfl (O3.out) _ _ (0) _ (rcs (R.drop (k + 1))) rfl (Ext.reads E3.out (RD.out _) (Nat.le_refl _)) (rcs_one _) (by unfold maxLen; omega) (by omega) (E3.out.size) ?_
    intro v5 w5 ho5 hg5 hat5
    have E5 := hide (Ext.grown (a := w2) E3.out hg5 (fun z hz => (O3.out.lt z hz).1))
    obtain ⟨A5, c5, hv5, _⟩ := own_form ho5
    subst hv5
    have O5 := hide ho5
    refine hK.out _ _ (HS.out _ E5.out) (fun hHeld => ?_)
    clear ho5 hg5 hat5 hK K
    change GoF _ _ _ _ _ _ _ _ (Act.put _ (some 148) _) _
    simp only [Act.put, List.setIfInBounds_toArray, List.set_cons_zero, List.set_cons_succ]
    refine GoF.take 17 (some 149) (v := ?_) rfl rfl (by kernel_rfl) (by kernel_rfl) (by kernel_rfl) (fun _ _ _ h => h) (Or.inl ⟨by rfl, ?_⟩) (by assumption) ?_
    rotate_left
    · intro w' hSw
      try dsimp only at hSw
      go_simp
      try with_reducible rfl
    try simp only [Act.put, List.setIfInBounds_toArray, List.set_cons_zero, List.set_cons_succ]
    refine GoF.take 18 (some 150) (v := ?_) rfl rfl (by kernel_rfl) (by kernel_rfl) (by kernel_rfl) (fun _ _ _ h => h) (Or.inl ⟨by rfl, ?_⟩) (by assumption) ?_
    rotate_left
    · intro w' hSw
      try dsimp only at hSw
      go_simp
      try with_reducible rfl
    try simp only [Act.put, List.setIfInBounds_toArray, List.set_cons_zero, List.set_cons_succ]
    refine GoF.last (by kernel_rfl) (by kernel_rfl) rfl (fun K hK => ?_)
    have B5 := hide (E5.out.blk HC.out.rf.blk)
    have y5 := B5.out.cell 0
    simp at y5
    have z5 := B5.out.frozen 0
    have a5 := E5.out.blk HC.out.ans
    have AN := hide a5
    have b0 := a5.cell 0
    have b1 := a5.cell 1
    simp at b0 b1
    have fb0 := a5.frozen 0
    have fb1 := a5.frozen 1
    clear a5 ha0 ha1 hs0 hc0
    go_simp
    refine hK.out _ _ ?_
    clear hK K
    have hne : rb ≠ w.heap.size + 1 := by have := HLT.out; omega
    go_wp2_with (fail)
    have hck := HCK.out
    have hfin := Rf.turn (m := k) (R := R.take k ++ R.drop (k + 1)) (A := A5) (c := c5) H.out.ext H.out.hb HLT.out (HC.out.ext.trans E5.out) B5.out AN.out (by simp [HNL.out.symm]; try omega) (by have h := World.ownsRow.mono O5.out HC.out.ext.size; simpa [rcs_app] using h) (.int .i64 0) (.slice none 0 0)
    have q := (AN.out.far (p := ⟨rb, 0, none⟩) (show w.heap.size + 1 ≠ rb by omega) (.slice A5 (k) c5)).set2 (.int .i64 0) (.slice none 0 0)
    have q0 := q.cell 0
    have q1 := q.cell 1
    simp only [List.getElem?_toArray, List.getElem?_cons_zero, List.getElem?_cons_succ] at q0 q1
    have eA := HCUT.out.take
    have eB := (HCUT.out.found HOO.out).2.2
    have hrep2 := HCUT.out.put HP.out HKD.out (o := none) (fun r' e => by cases e)
    rw [← eA, ← eB] at hrep2
    exact bodyPost_ret (v := .agg #[.int .i64 0, .slice none 0 0]) (by simp [results, Try.results12, go_sem, q0, q1]) rfl ⟨_, hrep2, by simp; try omega, hfin⟩
  · have RD := hide (reads_dropR (by rw [HNL.out]; exact Reads.of_own HC.out.own) hk2 hc1 hck)
    have HS := hide (show ∀ w' : World, Ext w2 w' → (fun w' => w'.cell? ⟨rb, 0, none⟩ = some (.slice (some ⟨g, 0, none⟩) N c0)) w' from fun w' hx => by simpa [HNL.out.symm] using (hx.blk HC.out.rf.blk).cell 0)
    refine wp_region_F (S := (fun w' => w'.cell? ⟨rb, 0, none⟩ = some (.slice (some ⟨g, 0, none⟩) N c0))) 19 (by kernel_rfl) (by kernel_rfl) hc0 (fun hHeld => ?_)
    refine GoF.take 0 (some 132) (v := ?_) rfl rfl (by kernel_rfl) (by kernel_rfl) (by kernel_rfl) (fun _ _ _ h => h) (Or.inl ⟨by rfl, ?_⟩) (by assumption) ?_
    rotate_left
    · intro w' hSw
      try dsimp only at hSw
      go_simp
      try with_reducible rfl
    try simp only [Act.put, List.setIfInBounds_toArray, List.set_cons_zero, List.set_cons_succ]
    refine GoF.take 2 (some 134) (v := ?_) rfl rfl (by kernel_rfl) (by kernel_rfl) (by kernel_rfl) (fun _ _ _ h => h) (Or.inl ⟨by rfl, ?_⟩) (by assumption) ?_
    rotate_left
    · intro w' hSw
      try dsimp only at hSw
      go_simp
      try with_reducible rfl
    try simp only [Act.put, List.setIfInBounds_toArray, List.set_cons_zero, List.set_cons_succ]
    refine GoF.take 3 (some 135) (v := ?_) rfl rfl (by kernel_rfl) (by kernel_rfl) (by kernel_rfl) (fun _ _ _ h => h) (Or.inl ⟨by rfl, ?_⟩) (by assumption) ?_
    rotate_left
    · intro w' hSw
      try dsimp only at hSw
      go_simp
      try with_reducible rfl
    try simp only [Act.put, List.setIfInBounds_toArray, List.set_cons_zero, List.set_cons_succ]
    refine GoF.take 4 (some 136) (v := ?_) rfl rfl (by kernel_rfl) (by kernel_rfl) (by kernel_rfl) (fun _ _ _ h => h) (Or.inl ⟨by rfl, ?_⟩) (by assumption) ?_
    rotate_left
    · intro w' hSw
      try dsimp only at hSw
      go_simp
      try with_reducible rfl
    try simp only [Act.put, List.setIfInBounds_toArray, List.set_cons_zero, List.set_cons_succ]
    refine GoF.take 5 (some 137) (v := ?_) rfl rfl (by kernel_rfl) (by kernel_rfl) (by kernel_rfl) (fun _ _ _ h => h) (Or.inl ⟨by rfl, ?_⟩) (by assumption) ?_
    rotate_left
    · intro w' hSw
      try dsimp only at hSw
      go_simp
      try with_reducible rfl
    try simp only [Act.put, List.setIfInBounds_toArray, List.set_cons_zero, List.set_cons_succ]
    refine GoF.take 6 (some 138) (v := ?_) rfl rfl (by kernel_rfl) (by kernel_rfl) (by kernel_rfl) (fun _ _ _ h => h) (Or.inl ⟨by rfl, ?_⟩) (by assumption) ?_
    rotate_left
    · intro w' hSw
      try dsimp only at hSw
      go_simp
      try with_reducible rfl
    try simp only [Act.put, List.setIfInBounds_toArray, List.set_cons_zero, List.set_cons_succ]
    refine GoF.take 7 (some 139) (v := ?_) rfl rfl (by kernel_rfl) (by kernel_rfl) (by kernel_rfl) (fun _ _ _ h => h) (Or.inl ⟨by rfl, ?_⟩) (by assumption) ?_
    rotate_left
    · intro w' hSw
      try dsimp only at hSw
      go_simp
      try with_reducible rfl
    try simp only [Act.put, List.setIfInBounds_toArray, List.set_cons_zero, List.set_cons_succ]
    refine GoF.take 9 (some 141) (v := ?_) rfl rfl (by kernel_rfl) (by kernel_rfl) (by kernel_rfl) (fun _ _ _ h => h) (Or.inl ⟨by rfl, ?_⟩) (by assumption) ?_
    rotate_left
    · intro w' hSw
      try dsimp only at hSw
      go_simp
      try with_reducible rfl
    try simp only [Act.put, List.setIfInBounds_toArray, List.set_cons_zero, List.set_cons_succ]
    refine GoF.take 10 (some 142) (v := ?_) rfl rfl (by kernel_rfl) (by kernel_rfl) (by kernel_rfl) (fun _ _ _ h => h) (Or.inl ⟨by rfl, ?_⟩) (by assumption) ?_
    rotate_left
    · intro w' hSw
      try dsimp only at hSw
      go_simp
      try with_reducible rfl
    try simp only [Act.put, List.setIfInBounds_toArray, List.set_cons_zero, List.set_cons_succ]
    refine GoF.take 11 (some 143) (v := ?_) rfl rfl (by kernel_rfl) (by kernel_rfl) (by kernel_rfl) (fun _ _ _ h => h) (Or.inl ⟨by rfl, ?_⟩) (by assumption) ?_
    rotate_left
    · intro w' hSw
      try dsimp only at hSw
      go_simp
      try with_reducible rfl
    try simp only [Act.put, List.setIfInBounds_toArray, List.set_cons_zero, List.set_cons_succ]
    refine GoF.take 12 (some 144) (v := ?_) rfl rfl (by kernel_rfl) (by kernel_rfl) (by kernel_rfl) (fun _ _ _ h => h) (Or.inl ⟨by rfl, ?_⟩) (by assumption) ?_
    rotate_left
    · intro w' hSw
      try dsimp only at hSw
      go_simp
      try with_reducible rfl
    try simp only [Act.put, List.setIfInBounds_toArray, List.set_cons_zero, List.set_cons_succ]
    refine GoF.take 13 (some 145) (v := ?_) rfl rfl (by kernel_rfl) (by kernel_rfl) (by kernel_rfl) (fun _ _ _ h => h) (Or.inl ⟨by rfl, ?_⟩) (by assumption) ?_
    rotate_left
    · intro w' hSw
      try dsimp only at hSw
      go_simp
      try with_reducible rfl
    try simp only [Act.put, List.setIfInBounds_toArray, List.set_cons_zero, List.set_cons_succ]
    refine GoF.take 14 (some 146) (v := ?_) rfl rfl (by kernel_rfl) (by kernel_rfl) (by kernel_rfl) (fun _ _ _ h => h) (Or.inl ⟨by rfl, ?_⟩) (by assumption) ?_
    rotate_left
    · intro w' hSw
      try dsimp only at hSw
      go_simp
      try with_reducible rfl
    try simp only [Act.put, List.setIfInBounds_toArray, List.set_cons_zero, List.set_cons_succ]
    refine GoF.take 15 (some 147) (v := ?_) rfl rfl (by kernel_rfl) (by kernel_rfl) (by kernel_rfl) (fun _ _ _ h => h) (Or.inl ⟨by rfl, ?_⟩) (by assumption) ?_
    rotate_left
    · intro w' hSw
      try dsimp only at hSw
      go_simp
      try with_reducible rfl
    try simp only [Act.put, List.setIfInBounds_toArray, List.set_cons_zero, List.set_cons_succ]
    refine GoF.each (rs := [1]) (by kernel_rfl) (by kernel_rfl) (by kernel_rfl) ?_
    refine EachF.cons (i := 1) rfl (fun K hK => ?_) EachF.nil
    go_simp
    refine hK.out _ _ (HS.out _ (by (repeat (first | with_reducible exact Ext.refl _ | with_reducible refine Ext.drew ?_ | with_reducible refine Ext.alloc ?_ _)))) (fun hHeld => ?_)
    clear hK K
    try simp only [Act.put, List.setIfInBounds_toArray, List.set_cons_zero, List.set_cons_succ]
    refine GoF.each (rs := [8]) (by kernel_rfl) (by kernel_rfl) (by kernel_rfl) ?_
    refine EachF.cons (i := 8) rfl (fun K hK => ?_) EachF.nil
    refine step_append_any _ rfl (.tmp 133) (.tmp 139) _ rfl w2.heap.size 31 i0 _ 3 48 Try.underlying27 hi0 iz0 iz1 iz2 rfl (by omega) (.slice (some ⟨_, 0, none⟩) 0 0) (0) ([]) rfl (World.ownsRow_made (base := w2.heap.size) (e := 31) (size := 3) w2.drew #[] 0 (Nat.le_refl _) (Nat.zero_le _) rfl) _ _ (k) _ (rcs (R.take k)) rfl (Ext.reads (a := w2) (by (repeat (first | with_reducible exact Ext.refl _ | with_reducible refine Ext.drew ?_ | with_reducible refine Ext.alloc ?_ _))) RT.out (Nat.le_refl _)) (rcs_one _) (by unfold maxLen; omega) (by omega) (by simp; try omega) ?_
    intro v3 w3 ho3 hg3 hat3
    rw [Nat.zero_add, List.nil_append] at ho3
    have E3 := hide (Ext.grown (a := w2) (by (repeat (first | with_reducible exact Ext.refl _ | with_reducible refine Ext.drew ?_ | with_reducible refine Ext.alloc ?_ _))) hg3 (fun z hz => by simp [Value.ownBlock] at hz; omega))
    obtain ⟨A3, c3, hv3, _⟩ := own_form ho3
    subst hv3
    have O3 := hide ho3
    refine hK.out _ _ (HS.out _ E3.out) (fun hHeld => ?_)
    clear ho3 hg3 hat3 hK K
    change GoF _ _ _ _ _ _ _ _ (Act.put _ (some 140) _) _
    simp only [Act.put, List.setIfInBounds_toArray, List.set_cons_zero, List.set_cons_succ]
    refine GoF.each (rs := [16]) (by kernel_rfl) (by kernel_rfl) (by kernel_rfl) ?_
    refine EachF.cons (i := 16) rfl (fun K hK => ?_) EachF.nil
    refine step_append_any _ rfl (.tmp 140) (.tmp 147) _ rfl w2.heap.size 31 i0 _ 3 48 Try.underlying27 hi0 iz0 iz1 iz2 rfl (by omega) (.slice A3 k c3) (k) (rcs (R.take k)) rfl (O3.out) _ _ (N - (k + 1)) _ (rcs (R.drop (k + 1))) rfl (Ext.reads E3.out RD.out (Nat.le_refl _)) (rcs_one _) (by unfold maxLen; omega) (by omega) (E3.out.size) ?_
    intro v5 w5 ho5 hg5 hat5
    have E5 := hide (Ext.grown (a := w2) E3.out hg5 (fun z hz => (O3.out.lt z hz).1))
    obtain ⟨A5, c5, hv5, _⟩ := own_form ho5
    subst hv5
    have O5 := hide ho5
    refine hK.out _ _ (HS.out _ E5.out) (fun hHeld => ?_)
    clear ho5 hg5 hat5 hK K
    change GoF _ _ _ _ _ _ _ _ (Act.put _ (some 148) _) _
    simp only [Act.put, List.setIfInBounds_toArray, List.set_cons_zero, List.set_cons_succ]
    refine GoF.take 17 (some 149) (v := ?_) rfl rfl (by kernel_rfl) (by kernel_rfl) (by kernel_rfl) (fun _ _ _ h => h) (Or.inl ⟨by rfl, ?_⟩) (by assumption) ?_
    rotate_left
    · intro w' hSw
      try dsimp only at hSw
      go_simp
      try with_reducible rfl
    try simp only [Act.put, List.setIfInBounds_toArray, List.set_cons_zero, List.set_cons_succ]
    refine GoF.take 18 (some 150) (v := ?_) rfl rfl (by kernel_rfl) (by kernel_rfl) (by kernel_rfl) (fun _ _ _ h => h) (Or.inl ⟨by rfl, ?_⟩) (by assumption) ?_
    rotate_left
    · intro w' hSw
      try dsimp only at hSw
      go_simp
      try with_reducible rfl
    try simp only [Act.put, List.setIfInBounds_toArray, List.set_cons_zero, List.set_cons_succ]
    refine GoF.last (by kernel_rfl) (by kernel_rfl) rfl (fun K hK => ?_)
    have B5 := hide (E5.out.blk HC.out.rf.blk)
    have y5 := B5.out.cell 0
    simp at y5
    have z5 := B5.out.frozen 0
    have a5 := E5.out.blk HC.out.ans
    have AN := hide a5
    have b0 := a5.cell 0
    have b1 := a5.cell 1
    simp at b0 b1
    have fb0 := a5.frozen 0
    have fb1 := a5.frozen 1
    clear a5 ha0 ha1 hs0 hc0
    go_simp
    refine hK.out _ _ ?_
    clear hK K
    have hne : rb ≠ w.heap.size + 1 := by have := HLT.out; omega
    go_wp2_with (fail)
    have hfin := Rf.turn (m := k + (N - (k + 1))) (R := R.take k ++ R.drop (k + 1)) (A := A5) (c := c5) H.out.ext H.out.hb HLT.out (HC.out.ext.trans E5.out) B5.out AN.out (by simp [HNL.out.symm]; try omega) (by have h := World.ownsRow.mono O5.out HC.out.ext.size; simpa [rcs_app] using h) (.int .i64 0) (.slice none 0 0)
    have q := (AN.out.far (p := ⟨rb, 0, none⟩) (show w.heap.size + 1 ≠ rb by omega) (.slice A5 (k + (N - (k + 1))) c5)).set2 (.int .i64 0) (.slice none 0 0)
    have q0 := q.cell 0
    have q1 := q.cell 1
    simp only [List.getElem?_toArray, List.getElem?_cons_zero, List.getElem?_cons_succ] at q0 q1
    have eA := HCUT.out.take
    have eB := (HCUT.out.found HOO.out).2.2
    have hrep2 := HCUT.out.put HP.out HKD.out (o := none) (fun r' e => by cases e)
    rw [← eA, ← eB] at hrep2
    exact bodyPost_ret (v := .agg #[.int .i64 0, .slice none 0 0]) (by simp [results, Try.results12, go_sem, q0, q1]) rfl ⟨_, hrep2, by simp; try omega, hfin⟩
end Go.Proofs.Ytjjilaanlhpogaa
