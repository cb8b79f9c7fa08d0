/- Look: slices.Insert of one who lives, where there is room; slices.Insert. -/
import Derived.Test.YtaijgnhkdbdfcaaLookE
namespace Go.Proofs.Ytaijgnhkdbdfcaa
open Go.ChangeShapes Go.WideShapes Go.ChangeAt Go.RowKit
set_option linter.unusedVariables false

theorem own_blk_parts {w : World} {b e m g n c : Nat} {xs : List Value} (h : w.ownsRow b e m (.slice (some ⟨g, 0, none⟩) n c) n xs) : ∃ cur, Blk w g e cur ∧ cur.size = c * m ∧ cur.toList.take (n * m) = xs ∧ b ≤ g ∧ n ≤ c ∧ c ≤ maxLen := by
  rcases h with ⟨hl, ⟨h1, _⟩ | ⟨g', cap, cur, e1, hb, hh, h1, h2, h3, h4⟩⟩
  · cases h1
  · injection e1 with e1 e2 e3
    injection e1 with e1
    injection e1 with e1
    subst e1 e3
    exact ⟨cur, hh, h3, by rw [← hl] at h4 ⊢; simpa using h4, hb, h1, h2⟩
theorem Blk.shape {w : World} {g : Nat} {t : TypeId} {cs : Array Value} (h : Blk w g t cs) : w.shape? g = some (t, cs.size) := by
  unfold Blk at h
  simp [World.shape?, h]
theorem ins_room (p q m T : Nat) (xs ys : List Value) (cs1 cs2 cs3 : Array Value) (hx : xs.length = q) (hy : ys.length = m) (hp : p ≤ q) (hT : q + m ≤ T) (h1 : cs1.size = T) (h2 : cs1.toList.take q = xs)
    {pm : Nat} (hpm : pm = p + m) (hc2 : cs2 = (cs1.toList.take pm ++ xs.drop p ++ cs1.toList.drop (pm + (xs.drop p).length)).toArray) (hc3 : cs3 = (cs2.toList.take p ++ ys ++ cs2.toList.drop (p + ys.length)).toArray) :
    cs3.size = T ∧ cs3.toList.take (q + m) = xs.take p ++ ys ++ xs.drop p := by
  have ld : (xs.drop p).length = q - p := by rw [List.length_drop, hx]
  have l0 : cs1.toList.length = T := by simpa using h1
  have lp : (cs1.toList.take pm).length = pm := by rw [List.length_take, l0]; omega
  have e1 : cs1.toList.take p = xs.take p := by rw [← h2, List.take_take, Nat.min_eq_left hp]
  have e2 : cs2.toList = cs1.toList.take pm ++ (xs.drop p ++ cs1.toList.drop (pm + (xs.drop p).length)) := by rw [hc2]; simp
  have t2 : cs2.toList.take p = xs.take p := by
    rw [e2, List.take_append_of_le_length (by omega), List.take_take, Nat.min_eq_left (by omega), e1]
  have d2 : cs2.toList.drop (p + ys.length) = xs.drop p ++ cs1.toList.drop (pm + (xs.drop p).length) := by
    rw [e2, hy, ← hpm]
    conv => lhs; arg 1; rw [← lp]
    rw [List.drop_left]
  have s2 : cs2.size = T := by
    rw [← Array.length_toList, e2]
    simp only [List.length_append, lp, ld, List.length_drop, l0]
    omega
  have lt : (xs.take p).length = p := by rw [List.length_take, hx]; omega
  subst hc3
  rw [t2, d2]
  constructor
  · simp only [List.size_toArray, List.length_append, lt, hy, ld, List.length_drop, l0]
    omega
  · simp only []
    rw [← List.append_assoc, List.take_append_of_le_length (by simp only [List.length_append, lt, hy, ld]; omega), List.take_of_length_le (by simp only [List.length_append, lt, hy, ld]; omega)]
set_option maxRecDepth 100000 in
set_option maxHeartbeats 4000000 in
theorem insert_room (w : World) (base g n c i : Nat) (xs ys : List Value) (vb : Nat) (ho : w.ownsRow base 49 4 (.slice (some ⟨g, 0, none⟩) n c) n xs) (hv : Blk w vb 49 ys.toArray) (hvg : vb ≠ g) (hy : ys.length = 4) (h1 : ∀ u ∈ ys, u.oneCell' = true) (hx1 : ∀ u ∈ xs, u.oneCell' = true) (hb : base ≤ w.heap.size) (hl : n ≤ 1000) (hi : i < n) (hr : n < c) :
    Calls Try.prog 34 #[.slice (some ⟨g, 0, none⟩) n c, .int .i64 (i : Int), .slice (some ⟨vb, 0, none⟩) 1 1] w (GivesIns w base (.slice (some ⟨g, 0, none⟩) n c) n (xs.take (i * 4) ++ ys ++ xs.drop (i * 4))) := by
  obtain ⟨i0, z0, hi0, hz0, hzs0, hs0, hb0⟩ := info_parts2 Try.info49'
  obtain ⟨cur, hB, hcs, htk, hbg, hnc, hcm⟩ := own_blk_parts ho
  have HLEN := hide ho.1
  have hs49 := hide (show (Try.prog.info? 49).map (·.size) = some 4 by rw [hi0]; simp [hs0])
  have hov : ∀ lb cb, (callFunc 42 #[.slice (some ⟨vb, 0, none⟩) 1 1, .slice (some ⟨g, (i + 1) * 4, none⟩) lb cb]).run Try.prog w = .ok (.value (.bool false)) w := fun lb cb => by
    rw [run_callFunc_extern Try.func42 (by kernel_rfl) (by kernel_rfl) (by kernel_rfl) (e := Extern.SlicesOverlaps.overlaps #[31, 31] #[4]) (by kernel_rfl),
      Lib.run_overlaps_apart w 31 4 49 Try.underlying31 4 (fun w => by simp [sizeOf, typeInfo, hi0, hs0]) ⟨vb, 0, none⟩ ⟨g, (i + 1) * 4, none⟩ 1 1 lb cb hvg 49 49 ys.toArray.size cur.size hv.shape hB.shape (by omega) (hv.frozen 0) (hv.frozen _)]
    rfl
  have HC := hide (ho.cells (g := g) rfl)
  have B0 := hide hB
  have V0 := hide hv
  have HCS := hide hcs
  have HTK := hide htk
  have HCM := hide hcm
  have HY := hide hy
  have H1 := hide h1
  have hnm : (n : Int) + 1 ≤ (c : Int) := by omega
  have dn1 : ((i : Int) == (n : Int)) = false := by simp; omega
  have hin : (i : Int) ≤ (n : Int) := by omega
  have hgr : ¬ ((n : Int) + 1 > (c : Int)) := by omega
  have hdg : decide ((c : Int) < (n : Int) + 1) = false := decide_eq_false (by omega)
  have hwi : IntKind.i64.wrap ((i : Int) + 1) = (i : Int) + 1 := by simp [IntKind.wrap, IntKind.signed, IntKind.bits]; omega
  have h0i : (0 : Int) ≤ (i : Int) + 1 := by omega
  have hli : (i : Int) + 1 ≤ (n : Int) + 1 := by omega
  have hti : ((i : Int) + 1).toNat = i + 1 := by omega
  have hci : ¬ c = i + 1 := by omega
  have hni : ¬ c = i := by omega
  have hil : (i : Int) ≤ (n : Int) + 1 := by omega
  have HX1 := hide hx1
  clear ho hv h1 hy hcs htk hB hcm hx1
  go_enter Try.func34, Try.ntmps34
  go_upto_region 15 with (simp only [hov])
  have HD := hide (show (xs.drop (i * 4)).length = Nat.min (n + 1 - i) (n - i) * 4 by rw [List.length_drop, HLEN.out, show Nat.min (n + 1 - i) (n - i) = n - i from Nat.min_eq_right (by omega)]; omega)
  have HD1 := hide (show ∀ v ∈ xs.drop (i * 4), v.oneCell' = true from fun v hv => HX1.out v (List.mem_of_mem_drop hv))
  have SD := hide (show ∀ j v, (xs.drop (i * 4))[j]? = some v → w.cell? ((⟨g, i * 4, none⟩ : Addr).add j) = some v from fun j v hj => by
    have hc := HC.out (i * 4 + j) v (by rw [← hj, List.getElem?_drop])
    have e1 : (⟨g, 0, none⟩ : Addr).add (i * 4 + j) = ⟨g, i * 4 + j, none⟩ := by unfold Addr.add; split <;> simp_all
    have e2 : (⟨g, i * 4, none⟩ : Addr).add j = ⟨g, i * 4 + j, none⟩ := by unfold Addr.add; split <;> simp_all
    rw [e1] at hc
    rw [e2]
    exact hc)
  have HF2 := hide (show (i + 1) * 4 + (xs.drop (i * 4)).length ≤ cur.size by rw [List.length_drop, HLEN.out, HCS.out]; omega)
  clear hov
  refine wp_region_F (S := fun _ => True) 8 (by kernel_rfl) (by kernel_rfl) trivial (fun hHeld => ?_)
  refine GoF.take 0 (some 69) (v := ?_) rfl rfl (by kernel_rfl) (by kernel_rfl) (by kernel_rfl) (fun _ _ _ h => h) (Or.inl ⟨by rfl, ?_⟩) (by assumption) ?_
  rotate_left
  · intro w' hSw
    try dsimp only at hSw
    go_simp
    try with_reducible rfl
  try simp only [Act.put, List.setIfInBounds_toArray, List.set_cons_zero, List.set_cons_succ]
  refine GoF.take 1 (some 70) (v := ?_) rfl rfl (by kernel_rfl) (by kernel_rfl) (by kernel_rfl) (fun _ _ _ h => h) (Or.inl ⟨by rfl, ?_⟩) (by assumption) ?_
  rotate_left
  · intro w' hSw
    try dsimp only at hSw
    go_simp
    try with_reducible rfl
  try simp only [Act.put, List.setIfInBounds_toArray, List.set_cons_zero, List.set_cons_succ]
  refine GoF.take 2 (some 71) (v := ?_) rfl rfl (by kernel_rfl) (by kernel_rfl) (by kernel_rfl) (fun _ _ _ h => h) (Or.inl ⟨by rfl, ?_⟩) (by assumption) ?_
  rotate_left
  · intro w' hSw
    try dsimp only at hSw
    go_simp
    try with_reducible rfl
  try simp only [Act.put, List.setIfInBounds_toArray, List.set_cons_zero, List.set_cons_succ]
  refine GoF.take 3 (some 72) (v := ?_) rfl rfl (by kernel_rfl) (by kernel_rfl) (by kernel_rfl) (fun _ _ _ h => h) (Or.inl ⟨by rfl, ?_⟩) (by assumption) ?_
  rotate_left
  · intro w' hSw
    try dsimp only at hSw
    go_simp
    try with_reducible rfl
  try simp only [Act.put, List.setIfInBounds_toArray, List.set_cons_zero, List.set_cons_succ]
  refine GoF.take 4 (some 73) (v := ?_) rfl rfl (by kernel_rfl) (by kernel_rfl) (by kernel_rfl) (fun _ _ _ h => h) (Or.inl ⟨by rfl, ?_⟩) (by assumption) ?_
  rotate_left
  · intro w' hSw
    try dsimp only at hSw
    go_simp
    try with_reducible rfl
  try simp only [Act.put, List.setIfInBounds_toArray, List.set_cons_zero, List.set_cons_succ]
  refine GoF.take 5 (some 74) (v := ?_) rfl rfl (by kernel_rfl) (by kernel_rfl) (by kernel_rfl) (fun _ _ _ h => h) (Or.inl ⟨by rfl, ?_⟩) (by assumption) ?_
  rotate_left
  · intro w' hSw
    try dsimp only at hSw
    go_simp
    try with_reducible rfl
  try simp only [Act.put, List.setIfInBounds_toArray, List.set_cons_zero, List.set_cons_succ]
  refine GoF.take 6 (some 75) (v := ?_) rfl rfl (by kernel_rfl) (by kernel_rfl) (by kernel_rfl) (fun _ _ _ h => h) (Or.inl ⟨by rfl, ?_⟩) (by assumption) ?_
  rotate_left
  · intro w' hSw
    try dsimp only at hSw
    go_simp
    try with_reducible rfl
  try simp only [Act.put, List.setIfInBounds_toArray, List.set_cons_zero, List.set_cons_succ]
  refine GoF.take 7 (some 76) (v := ?_) rfl rfl (by kernel_rfl) (by kernel_rfl) (by kernel_rfl) (fun _ _ _ h => h) (Or.inl ⟨by rfl, ?_⟩) (by assumption) ?_
  rotate_left
  · intro w' hSw
    try dsimp only at hSw
    go_simp
    try with_reducible rfl
  try simp only [Act.put, List.setIfInBounds_toArray, List.set_cons_zero, List.set_cons_succ]
  refine GoF.last (by kernel_rfl) (by kernel_rfl) rfl (fun K hK => ?_)
  refine step_copy_rowN _ rfl (.tmp 73) (.tmp 76) 31 31 rfl 49 4 Try.underlying31 hs49.out g ((i + 1) * 4) (n - i) (c - (i + 1)) ⟨g, i * 4, none⟩ (n + 1 - i) (c - i) (by rfl) (by rfl) cur 49 B0.out (xs.drop (i * 4)) HD.out SD.out HF2.out HD1.out ?_
  refine hK.out _ _ ?_
  clear hK K hHeld
  obtain ⟨cs2, hcs2⟩ : ∃ cs2, cs2 = (cur.toList.take ((i + 1) * 4) ++ xs.drop (i * 4) ++ cur.toList.drop ((i + 1) * 4 + (xs.drop (i * 4)).length)).toArray := ⟨_, rfl⟩
  rw [← hcs2]
  have B2 := hide (Blk.setRow B0.out cs2)
  have T2 := hide (Touch.trans (Touch.drew (Touch.refl w (fun k => k = g))) (touch_setRow w.drew g cs2) (fun _ _ e => e))
  obtain ⟨w2, hw2⟩ : ∃ w2, w2 = w.drew.setRow g cs2 := ⟨_, rfl⟩
  rw [← hw2] at T2
  rw [← hw2]
  have B2' := hide (show Blk w2 g 49 cs2 by rw [hw2]; exact B2.out.drew)
  have HCS2 := hide hcs2
  clear hw2 hcs2 B2
  have V2 := hide (T2.out.blk V0.out hvg)
  have SV := hide (show ∀ j v, ys[j]? = some v → w2.cell? ((⟨vb, 0, none⟩ : Addr).add j) = some v from fun j v hj => by
    have e : (⟨vb, 0, none⟩ : Addr).add j = ⟨vb, j, none⟩ := by unfold Addr.add; split <;> simp_all
    rw [e, V2.out.cell]
    simpa using hj)
  have HYL := hide (show ys.length = Nat.min 1 (n + 1 - i) * 4 by rw [HY.out, show Nat.min 1 (n + 1 - i) = 1 from Nat.min_eq_left (by omega)])
  have HS2 := hide (show cs2.size = c * 4 by rw [HCS2.out]; simp only [List.size_toArray, List.length_append, List.length_take, List.length_drop, Array.length_toList, HCS.out, HLEN.out]; omega)
  have HFIT := hide (show i * 4 + ys.length ≤ cs2.size by rw [HS2.out, HY.out]; omega)
  go_wp2_with (refine wpList_copy_rowN _ rfl (.tmp 80) (.tmp 81) 31 31 rfl 49 4 Try.underlying31 hs49.out g (i * 4) (n + 1 - i) (c - i) ⟨vb, 0, none⟩ 1 1 rfl rfl cs2 49 B2'.out ys HYL.out SV.out HFIT.out H1.out ?_; have B3 := hide (B2'.out.setRow (cs2.toList.take (i * 4) ++ ys ++ cs2.toList.drop (i * 4 + ys.length)).toArray); have T3 := hide (touch_setRow w2 g (cs2.toList.take (i * 4) ++ ys ++ cs2.toList.drop (i * 4 + ys.length)).toArray); obtain ⟨w3, hw3⟩ : ∃ w3, w3 = w2.setRow g (cs2.toList.take (i * 4) ++ ys ++ cs2.toList.drop (i * 4 + ys.length)).toArray := ⟨_, rfl⟩; rw [← hw3] at B3 T3; rw [← hw3]; clear hw3)
  go_ret
  have hL := ins_room (i * 4) (n * 4) 4 (c * 4) xs ys cur cs2 _ HLEN.out HY.out (by omega) (by omega) HCS.out HTK.out (show (i + 1) * 4 = i * 4 + 4 by omega) HCS2.out rfl
  refine ⟨_, _, rfl, ⟨by rw [List.length_append, List.length_append, List.length_take, List.length_drop, HLEN.out, HY.out]; omega, .inr ⟨g, c, _, rfl, hbg, B3.out, by omega, HCM.out, hL.1, ?_⟩⟩, ?_⟩
  · rw [show (n + 1) * 4 = n * 4 + 4 by omega]
    first | exact hL.2 | (rw [← List.append_assoc]; exact hL.2)
  · exact (T2.out.trans T3.out (fun k _ e => e)).more (fun k hk e => by rw [e]; rfl)
/-- slices.Insert of one -/
theorem insert_any (w : World) (base : Nat) (A : Option Addr) (c n i : Nat) (xs ys : List Value) (vb : Nat) (ho : w.ownsRow base 49 4 (.slice A n c) n xs) (hv : Blk w vb 49 ys.toArray) (hvg : ∀ g, A = some g → vb ≠ g.block) (hy : ys.length = 4) (h1 : ∀ u ∈ ys, u.oneCell' = true) (hx1 : ∀ u ∈ xs, u.oneCell' = true) (hb : base ≤ w.heap.size) (hl : n ≤ 1000) (hi : i ≤ n) :
    Calls Try.prog 34 #[.slice A n c, .int .i64 (i : Int), .slice (some ⟨vb, 0, none⟩) 1 1] w (GivesIns w base (.slice A n c) n (xs.take (i * 4) ++ ys ++ xs.drop (i * 4))) := by
  obtain ⟨_, _, e, _, hnc, hcm, hAd⟩ := own_form ho
  injection e with e1 e2 e3
  subst e1 e3
  by_cases hin : i = n
  · subst hin
    have h0 : xs.take (i * 4) ++ ys ++ xs.drop (i * 4) = xs ++ ys := by rw [← ho.1, List.take_length, List.drop_length, List.append_nil]
    rw [h0]
    exact insert_end w base A c i xs ys vb ho hv hy h1 hb hl
  · obtain ⟨g, _, hv', _, _⟩ := ho.form (by omega)
    injection hv' with hv1 _ _
    subst hv1
    by_cases hcn : n = c
    · subst hcn
      exact insert_grow w base g n i (n + 1 - i) xs ys vb ho hv hy h1 hx1 hb hl (by omega) (by omega)
    · exact insert_room w base g n c i xs ys vb ho hv (hvg _ rfl) hy h1 hx1 hb hl (by omega) (by omega)
end Go.Proofs.Ytaijgnhkdbdfcaa
