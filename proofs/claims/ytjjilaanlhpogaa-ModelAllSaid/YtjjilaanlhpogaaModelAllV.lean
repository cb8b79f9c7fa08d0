/- ModelAll: the document's Do: update. -/
import Derived.Test.YtjjilaanlhpogaaModelAllU
namespace Go.Proofs.Ytjjilaanlhpogaa
open Go.ChangeShapes Go.WideShapes Go.ChangeAt Go.RowKit Go.Maps Go.MapKept Go.Sort
set_option linter.unusedVariables false

set_option maxRecDepth 100000 in
set_option maxHeartbeats 4000000 in
theorem rdo_upd (W w : World) (rb : Nat) (A0 : Option Addr) (c0 : Nat) (R : List Rw) (f : ByteArray → Option Rw) (t n : Int) (r : Rw) (A : Option Addr) (l c : Nat) (h : Rf W w rb A0 c0 R) (hn : R.length ≤ 1000) (hz : Rz r) (hm : mayS 4 r = true) (hrep : Rep f R) (hkd : Kd f) (o : Rw) (ho : f r.k = some o) :
    Calls Try.prog 12 #[.pointer (some ⟨rb, 0, none⟩), stv 4 t n r A l c] w (fun e w' => ∃ R', Rep (putR f r.k (some r)) R' ∧ R'.length ≤ R.length ∧ RTells W w rb 0 [] R' e w') := by
  have hM := hide (fun w => rbad_any 4 t n r A l c w hz.1 hz.2.1 hz.2.2)
  have HM := hide hm
  have H := hide h
  have HP := hide hrep
  have HKD := hide hkd
  have HN := hide hn
  have HOO := hide ho
  clear ho
  obtain ⟨N, hNL⟩ : ∃ N, N = R.length := ⟨_, rfl⟩
  have HNL := hide hNL
  have hN : N ≤ 1000 := by omega
  obtain ⟨i0, hi0, iz0, iz1, iz2⟩ := info_parts Try.info31'
  clear hm hz h hrep hkd hn hNL
  simp only [stv] at hM ⊢
  go_enter Try.func12, Try.ntmps12
  go_upto_region 26 with (first
    | (go_at_call 21; refine (hM.out _).mono ?_; rintro e w1 ⟨rfl, x1⟩; rw [HM.out]; have HH := hide (Rh.start (n := n) (r := r) (A := A) (l := l) (c := c) H.out x1); have hk3 := HH.out.stp.cell 3; simp at hk3; clear x1)
    | (go_at_call 22; refine (rfind_any w1 rb _ A0 c0 R r.k HH.out.rf.blk (Reads.of_own HH.out.rf.own) HN.out).mono ?_; rintro e w2 ⟨k, b, m, rfl, hat, hb, hw2⟩; have HC := hide (HH.out.ex (show Ext w1 w2 from by rw [hw2]; exact (Ext.refl w1).drewN m)); obtain ⟨hbe, CA, CB, hcut⟩ := found_b HP.out HKD.out hat hb; rw [HOO.out] at hbe; obtain rfl : b = true := hbe; have HCUT := hide hcut; have hkN : k ≤ N := (by rw [HNL.out]; exact hat.1); have hs0 := HC.out.stp.cell 0; have hc0 := HC.out.rf.blk.cell 0; have ha0 := HC.out.ans.cell 0; have ha1 := HC.out.ans.cell 1; simp at hs0 hc0 ha0 ha1; rw [← HNL.out] at hc0; have fa0 := HC.out.ans.frozen 0; have fa1 := HC.out.ans.frozen 1; have hlt2 : w.heap.size + 1 < w2.heap.size := HC.out.ans.lt; have hrb2 : rb < w2.heap.size := HC.out.rf.blk.lt; clear hat hb hw2 hcut hk3 HH hM HM))
  have HLT := hide (show rb < w.heap.size from H.out.blk.lt)
  have hfo := HCUT.out.found HOO.out
  have hk2 : k < N := by rw [HNL.out]; exact hfo.2.1
  have HFO := hide hfo.1
  obtain ⟨g, hA, hc1, hc2⟩ := Rf.some_ H.out (by have := hfo.2.1; omega)
  subst hA
  rw [← HNL.out] at hc1
  have RA := hide (show Reads w2 w2.heap.size 3 (some ⟨g, 0, none⟩) N (rcs R) by rw [HNL.out]; exact Reads.of_own HC.out.own)
  have fr0 := HC.out.rf.blk.frozen 0
  clear hfo
  go_upto_region 27 with (at_builtin; refine wpList_append_any _ rfl (.tmp 114) (.tmp 118) _ rfl w2.heap.size 31 i0 _ 3 48 Try.underlying27 hi0 iz0 iz1 iz2 rfl (by omega) (.slice (some ⟨w2.heap.size, 0, none⟩) 0 0) 0 [] rfl (World.ownsRow_made w2 #[] 0 (Nat.le_refl _) (Nat.zero_le _) rfl) w2.heap.size _ N _ (rcs R) rfl (Ext.reads (Ext.new w2 _) RA.out (Nat.le_refl _)) (rcs_one _) (by unfold maxLen; omega) (by omega) (by simp) ?_; intro v3 w3 ho3 hg3 hat3; rw [Nat.zero_add, List.nil_append] at ho3; have E3 := hide (Ext.grown ((Ext.refl w2).alloc _) hg3 (fun z hz => by simp [Value.ownBlock] at hz; omega)); obtain ⟨g3, c3, hv3, _⟩ := ho3.form (by omega); subst hv3; have O3 := hide ho3; have y3 := (E3.out.blk HC.out.rf.blk).cell 0; simp at y3; have z3 := (E3.out.blk HC.out.rf.blk).frozen 0; clear ho3 hg3 hat3)
  obtain ⟨w4, hw4⟩ : ∃ w4, w4 = w3.setCell ⟨rb, 0, none⟩ (.slice (some ⟨g3, 0, none⟩) N c3) := ⟨_, rfl⟩
  have T4 := hide (show Touch w3 w4 (fun a => a = rb) by rw [hw4]; exact Touch.setCell (F := fun a => a = rb) (p := ⟨rb, 0, none⟩) (Touch.refl w3 _) (fun _ => rfl) _)
  have B4 := hide (show Blk w4 rb 29 #[.slice (some ⟨g3, 0, none⟩) N c3] by rw [hw4]; have := (E3.out.blk HC.out.rf.blk).set_ 0 (.slice (some ⟨g3, 0, none⟩) N c3); simpa using this)
  have ST4 := hide (T4.out.blk (E3.out.blk HC.out.stp) (by have := HLT.out; omega))
  have AN4 := hide (T4.out.blk (E3.out.blk HC.out.ans) (by have := HLT.out; omega))
  have O4 := hide (ownsRow_touch T4.out O3.out (fun z hz e => by subst e; exact own_blk_ne O3.out (E3.out.blk HC.out.rf.blk) (by decide) hz))
  have E4 := hide (show Touch w w4 (fun a => a = rb) from (Touch.of_below (HC.out.ext.trans E3.out) _).trans T4.out (fun _ _ h => h))
  rw [← hw4]
  have hs3 := ST4.out.cell 3
  have hs4 := ST4.out.cell 4
  have hs5 := ST4.out.cell 5
  have hc4 := B4.out.cell 0
  simp at hs3 hs4 hs5 hc4
  obtain ⟨x0, x1, x2⟩ := own_row_at O4.out HFO.out
  have f0 := O4.out.frozenAt (k * 3)
  have f1 := O4.out.frozenAt (k * 3 + 1)
  have f2 := O4.out.frozenAt (k * 3 + 2)
  clear hw4 hs0 ha0 ha1 hc0 fr0 fa0 fa1 hlt2 hrb2
  refine wp_region_F (S := (fun w' => w'.cell? ⟨rb, 0, none⟩ = some (.slice (some ⟨g3, 0, none⟩) N c3) ∧ w'.cell? ⟨w.heap.size, 3, none⟩ = some (.string r.k) ∧ w'.cell? ⟨w.heap.size, 4, none⟩ = some (.string r.s) ∧ w'.cell? ⟨w.heap.size, 5, none⟩ = some (.string r.v))) 8 (by kernel_rfl) (by kernel_rfl) ⟨hc4, hs3, hs4, hs5⟩ (fun hHeld => ?_)
  refine GoF.take 0 (some 122) (v := ?_) rfl rfl (by kernel_rfl) (by kernel_rfl) (by kernel_rfl) (fun _ _ _ h => h) (Or.inl ⟨by rfl, ?_⟩) (by assumption) ?_
  rotate_left
  · intro w' hSw
    try dsimp only at hSw
    go_simp
    try with_reducible rfl
  try simp only [Act.put, List.setIfInBounds_toArray, List.set_cons_zero, List.set_cons_succ]
  refine GoF.take 1 (some 123) (v := ?_) rfl rfl (by kernel_rfl) (by kernel_rfl) (by kernel_rfl) (fun _ _ _ h => h) (Or.inl ⟨by rfl, ?_⟩) (by assumption) ?_
  rotate_left
  · intro w' hSw
    try dsimp only at hSw
    go_simp
    try with_reducible rfl
  try simp only [Act.put, List.setIfInBounds_toArray, List.set_cons_zero, List.set_cons_succ]
  refine GoF.take 2 (some 124) (v := ?_) rfl rfl (by kernel_rfl) (by kernel_rfl) (by kernel_rfl) (fun _ _ _ h => h) (Or.inl ⟨by rfl, ?_⟩) (by assumption) ?_
  rotate_left
  · intro w' hSw
    try dsimp only at hSw
    go_simp
    try with_reducible rfl
  try simp only [Act.put, List.setIfInBounds_toArray, List.set_cons_zero, List.set_cons_succ]
  refine GoF.take 3 (some 125) (v := ?_) rfl rfl (by kernel_rfl) (by kernel_rfl) (by kernel_rfl) (fun _ _ _ h => h) (Or.inl ⟨by rfl, ?_⟩) (by assumption) ?_
  rotate_left
  · intro w' hSw
    try dsimp only at hSw
    go_simp
    try with_reducible rfl
  try simp only [Act.put, List.setIfInBounds_toArray, List.set_cons_zero, List.set_cons_succ]
  refine GoF.take 4 (some 126) (v := ?_) rfl rfl (by kernel_rfl) (by kernel_rfl) (by kernel_rfl) (fun _ _ _ h => h) (Or.inl ⟨by rfl, ?_⟩) (by assumption) ?_
  rotate_left
  · intro w' hSw
    try dsimp only at hSw
    go_simp
    try with_reducible rfl
  try simp only [Act.put, List.setIfInBounds_toArray, List.set_cons_zero, List.set_cons_succ]
  refine GoF.take 5 (some 127) (v := ?_) rfl rfl (by kernel_rfl) (by kernel_rfl) (by kernel_rfl) (fun _ _ _ h => h) (Or.inl ⟨by rfl, ?_⟩) (by assumption) ?_
  rotate_left
  · intro w' hSw
    try dsimp only at hSw
    go_simp
    try with_reducible rfl
  try simp only [Act.put, List.setIfInBounds_toArray, List.set_cons_zero, List.set_cons_succ]
  refine GoF.take 6 (some 128) (v := ?_) rfl rfl (by kernel_rfl) (by kernel_rfl) (by kernel_rfl) (fun _ _ _ h => h) (Or.inl ⟨by rfl, ?_⟩) (by assumption) ?_
  rotate_left
  · intro w' hSw
    try dsimp only at hSw
    go_simp
    try with_reducible rfl
  try simp only [Act.put, List.setIfInBounds_toArray, List.set_cons_zero, List.set_cons_succ]
  refine GoF.take 7 (some 129) (v := ?_) rfl rfl (by kernel_rfl) (by kernel_rfl) (by kernel_rfl) (fun _ _ _ h => h) (Or.inl ⟨by rfl, ?_⟩) (by assumption) ?_
  rotate_left
  · intro w' hSw
    try dsimp only at hSw
    go_simp
    try with_reducible rfl
  try simp only [Act.put, List.setIfInBounds_toArray, List.set_cons_zero, List.set_cons_succ]
  refine GoF.last (by kernel_rfl) (by kernel_rfl) rfl (fun K hK => ?_)
  have hgne : g3 ≠ rb := fun e => by subst e; exact own_blk_ne O4.out B4.out (by decide) rfl
  have hgna : g3 ≠ w.heap.size + 1 := fun e => by subst e; exact own_blk_ne O4.out AN4.out (by decide) rfl
  clear hHeld hs3 hs4 hs5 hc4
  go_simp
  refine hK.out _ _ ?_
  clear hK K
  have hne : rb ≠ w.heap.size + 1 := by have := HLT.out; omega
  obtain ⟨w6, hw6⟩ : ∃ w6, w6 = (((w4.setCell ⟨g3, k * 3, none⟩ (.string r.k)).setCell ⟨g3, k * 3 + 1, none⟩ (.string r.s)).setCell ⟨g3, k * 3 + 2, none⟩ (.string r.v)).drew := ⟨_, rfl⟩
  have T6 := hide (show Touch w4 w6 (fun a => a = g3) by rw [hw6]; exact ((((Touch.refl w4 _).setCell (F := fun a => a = g3) (p := ⟨g3, k * 3, none⟩) (fun _ => rfl) _).setCell (F := fun a => a = g3) (p := ⟨g3, k * 3 + 1, none⟩) (fun _ => rfl) _).setCell (F := fun a => a = g3) (p := ⟨g3, k * 3 + 2, none⟩) (fun _ => rfl) _).drew)
  have O6 := hide (show w6.ownsRow w2.heap.size 31 3 (.slice (some ⟨g3, 0, none⟩) N c3) N (rcs (R.set k r)) by rw [hw6]; exact (own_set3 r O4.out (by rw [← HNL.out]; exact hk2)).drew)
  have B6 := hide (T6.out.blk B4.out (Ne.symm hgne))
  have AN6 := hide (T6.out.blk AN4.out (Ne.symm hgna))
  have hgw : w2.heap.size ≤ g3 := (O4.out.lt g3 rfl).1
  have E6 := hide (show Touch w w6 (fun a => a = rb) from E4.out.trans T6.out (fun z hz e => by subst e; have := HC.out.ext.size; omega))
  have b0 := AN6.out.cell 0
  have b1 := AN6.out.cell 1
  simp at b0 b1
  have fb0 := AN6.out.frozen 0
  have fb1 := AN6.out.frozen 1
  rw [← hw6]
  clear hw6 x0 x1 x2 f0 f1 f2
  go_wp2_with (fail)
  have hfin := Rf.turned (m := N) (R := R.set k r) (A := some ⟨g3, 0, none⟩) (c := c3) H.out.ext H.out.hb HLT.out E6.out B6.out AN6.out (by rw [List.length_set]; exact HNL.out) (World.ownsRow.mono O6.out HC.out.ext.size) (.int .i64 0) (.slice none 0 0)
  have q := AN6.out.set2 (.int .i64 0) (.slice none 0 0)
  have q0 := q.cell 0
  have q1 := q.cell 1
  simp only [List.getElem?_toArray, List.getElem?_cons_zero, List.getElem?_cons_succ] at q0 q1
  have hrep2 := HCUT.out.put HP.out HKD.out (o := some r) (fun r' e => by injection e with e; rw [e])
  have e1 : CA ++ ((some r).toList ++ CB) = R.set k r := by
    have ea := HCUT.out.all
    rw [HOO.out] at ea
    rw [ea, ← HCUT.out.len]
    simp
  rw [e1] at hrep2
  exact bodyPost_ret (v := .agg #[.int .i64 0, .slice none 0 0]) (by simp [results, Try.results12, go_sem, q0, q1]) rfl ⟨_, hrep2, by simp, hfin⟩
end Go.Proofs.Ytjjilaanlhpogaa
