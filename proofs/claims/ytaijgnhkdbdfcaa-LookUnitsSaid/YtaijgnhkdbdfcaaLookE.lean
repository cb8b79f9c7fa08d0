/- Look: slices.Insert of one who lives, where there is no room. -/
import Derived.Test.YtaijgnhkdbdfcaaLookD
namespace Go.Proofs.Ytaijgnhkdbdfcaa
open Go.ChangeShapes Go.WideShapes Go.ChangeAt Go.RowKit
set_option linter.unusedVariables false

theorem g_le (w : World) (i k n G : Nat) (hn : n ≤ 1000) (hk : i + k = n + 1) (hG : G = grownCap w (i + k) n 49) : G ≤ maxLen := by
  rw [hG]
  exact grownCap_le_maxLen w (i + k) n 49 (by simp only [maxLen]; omega)
theorem g_cs (i k n G : Nat) (z0 : Value) (xs : List Value) (cs1 : Array Value) (hi : i < n) (hz : z0.cells.size = 4) (hl : xs.length = n * 4) (hk : i + k = n + 1) (hge : n + 1 ≤ G) (hcs1 : cs1 = (xs.take (i * 4)).toArray ++ Builtin.zeroCells z0.cells k ++ Builtin.zeroCells z0.cells (G - (i + k))) : cs1.size = G * 4 ∧ cs1.toList.take (i * 4) = xs.take (i * 4) := by
  constructor
  · rw [hcs1]
    simp only [Array.size_append, List.size_toArray, List.length_take, size_zeroCells, hz, hl]
    omega
  · rw [hcs1]
    simp only [Array.toList_append, List.append_assoc]
    rw [List.take_append_of_le_length (by rw [List.length_take, hl]; omega), List.take_take, Nat.min_self]
theorem ins_list (p q m T : Nat) (xs ys : List Value) (cs1 cs2 cs3 : Array Value) (hx : xs.length = q) (hy : ys.length = m) (hp : p ≤ q) (hT : q + m ≤ T) (h1 : cs1.size = T) (h2 : cs1.toList.take p = xs.take p)
    (hc2 : cs2 = (cs1.toList.take p ++ ys ++ cs1.toList.drop (p + ys.length)).toArray) {pm : Nat} (hpm : pm = p + m) (hc3 : cs3 = (cs2.toList.take pm ++ xs.drop p ++ cs2.toList.drop (pm + (xs.drop p).length)).toArray) :
    cs3.size = T ∧ cs3.toList.take (q + m) = xs.take p ++ ys ++ xs.drop p := by
  have l1 : (xs.take p).length = p := by rw [List.length_take, hx]; omega
  have e2 : cs2.toList.take pm = xs.take p ++ ys := by
    rw [hc2, h2, hpm]
    simp only []
    rw [List.take_append_of_le_length (by rw [List.length_append, l1, hy]; omega), List.take_of_length_le (by rw [List.length_append, l1, hy]; omega)]
  have s2 : cs2.size = T := by
    rw [hc2]
    simp only [List.size_toArray, List.length_append, List.length_take, List.length_drop, Array.length_toList, h1, hy]
    omega
  subst hc3
  constructor
  · simp only [List.size_toArray, List.length_append, List.length_take, List.length_drop, Array.length_toList, s2, hx]
    omega
  · simp only []
    rw [e2, List.take_append_of_le_length (by simp only [List.length_append, l1, hy, List.length_drop, hx]; omega), List.take_of_length_le (by simp only [List.length_append, l1, hy, List.length_drop, hx]; omega)]
set_option maxRecDepth 100000 in
set_option maxHeartbeats 4000000 in
theorem insert_grow (w : World) (base g n i k : Nat) (xs ys : List Value) (vb : Nat) (ho : w.ownsRow base 49 4 (.slice (some ⟨g, 0, none⟩) n n) n xs) (hv : Blk w vb 49 ys.toArray) (hy : ys.length = 4) (h1 : ∀ u ∈ ys, u.oneCell' = true) (hx1 : ∀ u ∈ xs, u.oneCell' = true) (hb : base ≤ w.heap.size) (hl : n ≤ 1000) (hi : i < n) (hk : i + k = n + 1) :
    Calls Try.prog 34 #[.slice (some ⟨g, 0, none⟩) n n, .int .i64 (i : Int), .slice (some ⟨vb, 0, none⟩) 1 1] w (GivesIns w base (.slice (some ⟨g, 0, none⟩) n n) n (xs.take (i * 4) ++ ys ++ xs.drop (i * 4))) := by
  obtain ⟨i0, z0, hi0, hz0, hzs0, hs0, hb0⟩ := info_parts2 Try.info49'
  have hlen : xs.length = n * 4 := ho.1
  have hcells := ho.cells (g := g) rfl
  have HC := hide (show ∀ j u, (xs.take (i * 4))[j]? = some u → w.cell? ((⟨g, 0, none⟩ : Addr).add j) = some u from fun j u hu => hcells j u (by
    rw [List.getElem?_take] at hu
    split at hu
    · exact hu
    · cases hu))
  have HLEN := hide hlen
  have dn1 : ((i : Int) == (n : Int)) = false := by simp; omega
  have hw1 : IntKind.i64.wrap ((n : Int) + 1 - (i : Int)) = (k : Int) := by simp [IntKind.wrap, IntKind.signed, IntKind.bits]; omega
  have hin : (i : Int) ≤ (n : Int) := by omega
  go_enter Try.func34, Try.ntmps34
  go_upto_region 10 with (at_builtin; refine wpList_append_zgrow _ rfl (.tmp 34) (.tmp 39) 31 3 rfl 49 i0 z0 .i64 .i64 Try.underlying31 Try.underlying3 hi0 hz0 ⟨g, 0, none⟩ i n rfl (xs.take (i * 4)) (by rw [hs0, List.length_take, HLEN.out]; omega) HC.out k rfl (by rw [hs0]; omega) (by omega) (by omega) (by rw [hb0]; omega) (growslice_fits (by omega) (by rw [hb0]; omega)) ?_; obtain ⟨G, hG⟩ : ∃ G, G = grownCap w (i + k) n 49 := ⟨_, rfl⟩; obtain ⟨cs1, hcs1⟩ : ∃ cs1, cs1 = (xs.take (i * 4)).toArray ++ Builtin.zeroCells z0.cells k ++ Builtin.zeroCells z0.cells (G - (i + k)) := ⟨_, rfl⟩; rw [← hG, ← hcs1]; obtain ⟨w1, hw1⟩ : ∃ w1, w1 = w.drew.alloc (.cells cs1 49) := ⟨_, rfl⟩; have B1 := hide (show Blk w1 w.heap.size 49 cs1 by rw [hw1]; exact Blk.new w.drew 49 cs1); have X1 := hide (show Ext w w1 by rw [hw1]; exact Ext.alloc (Ext.drew (Ext.refl w)) _); have HG := hide hG; have HCS1 := hide hcs1; rw [← hw1, hk]; clear hG hcs1 hw1)
  have hGge : n + 1 ≤ G := by rw [HG.out, ← hk]; exact grownCap_ge w (i + k) n 49
  have HG2 := hide (g_le w i k n G hl hk HG.out)
  have HCT := hide (g_cs i k n G z0 xs cs1 hi hzs0 HLEN.out hk hGge HCS1.out)
  obtain ⟨b2, hb2⟩ : ∃ b2, b2 = w.heap.size := ⟨_, rfl⟩
  have HB2 := hide (show w.heap.size ≤ b2 by omega)
  rw [← hb2] at B1 ⊢
  have hs49 := hide (show (Try.prog.info? 49).map (·.size) = some 4 by rw [hi0]; simp [hs0])
  have SV := hide (show ∀ j v, ys[j]? = some v → w1.cell? ((⟨vb, 0, none⟩ : Addr).add j) = some v from fun j v hj => by
    have e : (⟨vb, 0, none⟩ : Addr).add j = ⟨vb, j, none⟩ := by unfold Addr.add; split <;> simp_all
    rw [e, (X1.out.blk hv).cell]
    simpa using hj)
  have hyl : ys.length = Nat.min 1 (n + 1 - i) * 4 := by
    have e : Nat.min 1 (n + 1 - i) = 1 := Nat.min_eq_left (by omega)
    rw [hy, e]
  have HFIT := hide (show i * 4 + ys.length ≤ cs1.size by rw [HCT.out.1, hy]; omega)
  have HYL := hide hyl
  have H1 := hide h1
  have HO := hide ho
  have hiG : (i : Int) ≤ (n : Int) + 1 := by omega
  clear hb2 hyl hv h1 ho
  go_upto_region 11 with (refine wpList_copy_rowN _ rfl (.tmp 43) (.tmp 44) 31 31 rfl 49 4 Try.underlying31 hs49.out b2 (i * 4) (n + 1 - i) (G - i) ⟨vb, 0, none⟩ 1 1 rfl rfl cs1 49 B1.out ys HYL.out SV.out HFIT.out H1.out ?_; have B2 := hide (B1.out.setRow (cs1.toList.take (i * 4) ++ ys ++ cs1.toList.drop (i * 4 + ys.length)).toArray); have T2 := hide (touch_setRow w1 b2 (cs1.toList.take (i * 4) ++ ys ++ cs1.toList.drop (i * 4 + ys.length)).toArray); obtain ⟨w2, hw2⟩ : ∃ w2, w2 = w1.setRow b2 (cs1.toList.take (i * 4) ++ ys ++ cs1.toList.drop (i * 4 + ys.length)).toArray := ⟨_, rfl⟩; rw [← hw2] at B2 T2; rw [← hw2]; clear hw2)
  have B2' := hide (B2.out)
  have H2 := hide (show True from trivial)
  obtain ⟨cs2, hcs2⟩ : ∃ cs2, cs2 = (cs1.toList.take (i * 4) ++ ys ++ cs1.toList.drop (i * 4 + ys.length)).toArray := ⟨_, rfl⟩
  rw [← hcs2] at B2
  have HCS2 := hide hcs2
  clear hcs2
  have HD := hide (show (xs.drop (i * 4)).length = Nat.min (n - i) (n - i) * 4 by rw [List.length_drop, HLEN.out, show Nat.min (n - i) (n - i) = n - i from Nat.min_self _]; omega)
  have X2 := hide (show Touch w w2 (fun k => k = b2) from Touch.trans (Touch.of_below X1.out _) T2.out (fun k hk e => by rw [e] at hk; have := HB2.out; omega))
  have SD := hide (show ∀ j v, (xs.drop (i * 4))[j]? = some v → w2.cell? ((⟨g, i * 4, none⟩ : Addr).add j) = some v from fun j v hj => by
    have hc := hcells (i * 4 + j) v (by rw [← hj, List.getElem?_drop])
    have e1 : (⟨g, 0, none⟩ : Addr).add (i * 4 + j) = ⟨g, i * 4 + j, none⟩ := by unfold Addr.add; split <;> simp_all
    have e2 : (⟨g, i * 4, none⟩ : Addr).add j = ⟨g, i * 4 + j, none⟩ := by unfold Addr.add; split <;> simp_all
    rw [e1] at hc
    rw [e2]
    have hgw : g < w.heap.size := World.block_lt_of_cell? w _ hc
    exact (World.cell?_of_block (X2.out.block g hgw (fun e => by have := HB2.out; omega))).trans hc)
  have HF2 := hide (show (i + 1) * 4 + (xs.drop (i * 4)).length ≤ cs2.size by rw [HCS2.out]; simp only [List.size_toArray, List.length_append, List.length_take, List.length_drop, Array.length_toList, HCT.out.1, HLEN.out, hy]; omega)
  have hwi : IntKind.i64.wrap ((i : Int) + 1) = (i : Int) + 1 := by simp [IntKind.wrap, IntKind.signed, IntKind.bits]; omega
  have h0i : (0 : Int) ≤ (i : Int) + 1 := by omega
  have hli : (i : Int) + 1 ≤ (n : Int) + 1 := by omega
  have hti : ((i : Int) + 1).toNat = i + 1 := by omega
  have hGi : ¬ G = i + 1 := by omega
  have hni : ¬ n = i := by omega
  have HD1 := hide (show ∀ v ∈ xs.drop (i * 4), v.oneCell' = true from fun v hv => hx1 v (List.mem_of_mem_drop hv))
  refine wp_region_F (S := fun _ => True) 8 (by kernel_rfl) (by kernel_rfl) trivial (fun hHeld => ?_)
  refine GoF.take 0 (some 46) (v := ?_) rfl rfl (by kernel_rfl) (by kernel_rfl) (by kernel_rfl) (fun _ _ _ h => h) (Or.inl ⟨by rfl, ?_⟩) (by assumption) ?_
  rotate_left
  · intro w' hSw
    try dsimp only at hSw
    go_simp
    try with_reducible rfl
  try simp only [Act.put, List.setIfInBounds_toArray, List.set_cons_zero, List.set_cons_succ]
  refine GoF.take 1 (some 47) (v := ?_) rfl rfl (by kernel_rfl) (by kernel_rfl) (by kernel_rfl) (fun _ _ _ h => h) (Or.inl ⟨by rfl, ?_⟩) (by assumption) ?_
  rotate_left
  · intro w' hSw
    try dsimp only at hSw
    go_simp
    try with_reducible rfl
  try simp only [Act.put, List.setIfInBounds_toArray, List.set_cons_zero, List.set_cons_succ]
  refine GoF.take 2 (some 48) (v := ?_) rfl rfl (by kernel_rfl) (by kernel_rfl) (by kernel_rfl) (fun _ _ _ h => h) (Or.inl ⟨by rfl, ?_⟩) (by assumption) ?_
  rotate_left
  · intro w' hSw
    try dsimp only at hSw
    go_simp
    try with_reducible rfl
  try simp only [Act.put, List.setIfInBounds_toArray, List.set_cons_zero, List.set_cons_succ]
  refine GoF.take 3 (some 49) (v := ?_) rfl rfl (by kernel_rfl) (by kernel_rfl) (by kernel_rfl) (fun _ _ _ h => h) (Or.inl ⟨by rfl, ?_⟩) (by assumption) ?_
  rotate_left
  · intro w' hSw
    try dsimp only at hSw
    go_simp
    try with_reducible rfl
  try simp only [Act.put, List.setIfInBounds_toArray, List.set_cons_zero, List.set_cons_succ]
  refine GoF.take 4 (some 50) (v := ?_) rfl rfl (by kernel_rfl) (by kernel_rfl) (by kernel_rfl) (fun _ _ _ h => h) (Or.inl ⟨by rfl, ?_⟩) (by assumption) ?_
  rotate_left
  · intro w' hSw
    try dsimp only at hSw
    go_simp
    try with_reducible rfl
  try simp only [Act.put, List.setIfInBounds_toArray, List.set_cons_zero, List.set_cons_succ]
  refine GoF.take 5 (some 51) (v := ?_) rfl rfl (by kernel_rfl) (by kernel_rfl) (by kernel_rfl) (fun _ _ _ h => h) (Or.inl ⟨by rfl, ?_⟩) (by assumption) ?_
  rotate_left
  · intro w' hSw
    try dsimp only at hSw
    go_simp
    try with_reducible rfl
  try simp only [Act.put, List.setIfInBounds_toArray, List.set_cons_zero, List.set_cons_succ]
  refine GoF.take 6 (some 52) (v := ?_) rfl rfl (by kernel_rfl) (by kernel_rfl) (by kernel_rfl) (fun _ _ _ h => h) (Or.inl ⟨by rfl, ?_⟩) (by assumption) ?_
  rotate_left
  · intro w' hSw
    try dsimp only at hSw
    go_simp
    try with_reducible rfl
  try simp only [Act.put, List.setIfInBounds_toArray, List.set_cons_zero, List.set_cons_succ]
  refine GoF.take 7 (some 53) (v := ?_) rfl rfl (by kernel_rfl) (by kernel_rfl) (by kernel_rfl) (fun _ _ _ h => h) (Or.inl ⟨by rfl, ?_⟩) (by assumption) ?_
  rotate_left
  · intro w' hSw
    try dsimp only at hSw
    go_simp
    try with_reducible rfl
  try simp only [Act.put, List.setIfInBounds_toArray, List.set_cons_zero, List.set_cons_succ]
  refine GoF.last (by kernel_rfl) (by kernel_rfl) rfl (fun K hK => ?_)
  refine step_copy_rowN _ rfl (.tmp 50) (.tmp 53) 31 31 rfl 49 4 Try.underlying31 hs49.out b2 ((i + 1) * 4) (n - i) (G - (i + 1)) ⟨g, i * 4, none⟩ (n - i) (n - i) (by rfl) (by rfl) cs2 49 B2.out (xs.drop (i * 4)) HD.out SD.out HF2.out HD1.out ?_
  refine hK.out _ _ ?_
  clear hK K hHeld
  have B3 := hide (B2.out.setRow (cs2.toList.take ((i + 1) * 4) ++ xs.drop (i * 4) ++ cs2.toList.drop ((i + 1) * 4 + (xs.drop (i * 4)).length)).toArray)
  have T3 := hide (touch_setRow w2.drew b2 (cs2.toList.take ((i + 1) * 4) ++ xs.drop (i * 4) ++ cs2.toList.drop ((i + 1) * 4 + (xs.drop (i * 4)).length)).toArray)
  obtain ⟨w3, hw3⟩ : ∃ w3, w3 = w2.drew.setRow b2 (cs2.toList.take ((i + 1) * 4) ++ xs.drop (i * 4) ++ cs2.toList.drop ((i + 1) * 4 + (xs.drop (i * 4)).length)).toArray := ⟨_, rfl⟩
  rw [← hw3]
  have B3' := hide (show Blk w3 b2 49 (cs2.toList.take ((i + 1) * 4) ++ xs.drop (i * 4) ++ cs2.toList.drop ((i + 1) * 4 + (xs.drop (i * 4)).length)).toArray by rw [hw3]; exact B3.out.drew)
  have T3' := hide (show Touch w2 w3 (fun k => k = b2) by rw [hw3]; exact Touch.trans (Touch.drew (Touch.refl w2 (fun k => k = b2))) T3.out (fun _ _ e => e))
  clear hw3
  go_wp2_with (fail)
  go_ret
  have hL := ins_list (i * 4) (n * 4) 4 (G * 4) xs ys cs1 cs2 _ HLEN.out hy (by omega) (by omega) HCT.out.1 HCT.out.2 HCS2.out (show (i + 1) * 4 = i * 4 + 4 by omega) rfl
  refine ⟨_, _, rfl, ⟨by rw [List.length_append, List.length_append, List.length_take, List.length_drop, HLEN.out, hy]; omega, .inr ⟨b2, G, _, rfl, Nat.le_trans hb HB2.out, B3'.out, hGge, HG2.out, hL.1, ?_⟩⟩, ?_⟩
  · rw [show (n + 1) * 4 = n * 4 + 4 by omega]
    exact hL.2
  · exact (X2.out.trans T3'.out (fun k _ e => e)).more (fun k hk e => by rw [e] at hk; have := HB2.out; omega)
end Go.Proofs.Ytaijgnhkdbdfcaa
