/- Look: slices.Insert of one dirty page. (Printed by mk_insd.py.) -/
import Derived.Test.YtaijgnhkdbdfcaaLookF
namespace Go.Proofs.Ytaijgnhkdbdfcaa
open Go.ChangeShapes Go.WideShapes Go.ChangeAt Go.RowKit
set_option linter.unusedVariables false
/-- what Insert gives -/
def GivesInsD (w : World) (base : Nat) (v : Value) (n : Nat) (xs : List Value) (e : Ending) (w' : World) : Prop :=
  ∃ A' c', e = .returned (.slice A' (n + 1) c') ∧ w'.ownsRow base 40 2 (.slice A' (n + 1) c') (n + 1) xs ∧ Touch w w' (fun k => v.ownBlock = some k)
set_option maxRecDepth 100000 in
set_option maxHeartbeats 4000000 in
theorem insert_endD (w : World) (base : Nat) (A : Option Addr) (c n : Nat) (xs ys : List Value) (vb : Nat) (ho : w.ownsRow base 40 2 (.slice A n c) n xs) (hv : Blk w vb 40 ys.toArray) (hy : ys.length = 2) (h1 : ∀ u ∈ ys, u.oneCell' = true) (hb : base ≤ w.heap.size) (hl : n ≤ 1000) :
    Calls Try.prog 41 #[.slice A n c, .int .i64 (n : Int), .slice (some ⟨vb, 0, none⟩) 1 1] w (GivesInsD w base (.slice A n c) n (xs ++ ys)) := by
  obtain ⟨i0, z0, hi0, hz0, hzs0, hs0, hb0⟩ := info_parts2 Try.info40'
  obtain ⟨_, _, e, _, hnc, hcm, hAd⟩ := own_form ho
  injection e with e1 e2 e3
  subst e1 e3
  have HO := hide ho
  have H1 := hide h1
  have HR := hide (show Reads w w.heap.size 2 (some ⟨vb, 0, none⟩) 1 ys from by have := reads_blk (m := 2) hv (by simp [hy]); simpa using this)
  clear ho hv hy h1 hAd
  have hnci : (n : Int) ≤ (c : Int) := by omega
  by_cases hcn : c = n
  · subst hcn
    go_enter Try.func41, Try.ntmps41
    go_wp2_with (at_builtin; refine wpList_append_any _ rfl (.tmp 23) (.tmp 24) _ rfl base 40 i0 z0 2 16 Try.underlying32 hi0 hz0 hs0 hb0 hzs0 (by omega) (.slice A c c) c xs rfl HO.out _ (some ⟨vb, 0, none⟩) 1 1 ys rfl HR.out H1.out (by simp only [maxLen]; omega) (by omega) hb ?_; intro v1 w1 ho1 hg1 hat1; obtain ⟨A1, c1, hv1, _⟩ := own_form ho1; subst hv1; have O1 := hide ho1; have T1 := hide ((Touch.refl w (fun k => Value.ownBlock (.slice A c c) = some k)).grown hg1 (fun k hk _ => hk)); clear ho1 hg1 hat1)
    go_ret
    exact ⟨A1, c1, rfl, O1.out, T1.out⟩
  · have dcn : (c == n) = false := by simpa using hcn
    go_enter Try.func41, Try.ntmps41
    go_wp2_with (at_builtin; refine wpList_append_any _ rfl (.tmp 23) (.tmp 24) _ rfl base 40 i0 z0 2 16 Try.underlying32 hi0 hz0 hs0 hb0 hzs0 (by omega) (.slice A n c) n xs rfl HO.out _ (some ⟨vb, 0, none⟩) 1 1 ys rfl HR.out H1.out (by simp only [maxLen]; omega) (by omega) hb ?_; intro v1 w1 ho1 hg1 hat1; obtain ⟨A1, c1, hv1, _⟩ := own_form ho1; subst hv1; have O1 := hide ho1; have T1 := hide ((Touch.refl w (fun k => Value.ownBlock (.slice A n c) = some k)).grown hg1 (fun k hk _ => hk)); clear ho1 hg1 hat1)
    go_ret
    exact ⟨A1, c1, rfl, O1.out, T1.out⟩
theorem g_leD (w : World) (i k n G : Nat) (hn : n ≤ 1000) (hk : i + k = n + 1) (hG : G = grownCap w (i + k) n 40) : G ≤ maxLen := by
  rw [hG]
  exact grownCap_le_maxLen w (i + k) n 40 (by simp only [maxLen]; omega)
theorem g_csD (i k n G : Nat) (z0 : Value) (xs : List Value) (cs1 : Array Value) (hi : i < n) (hz : z0.cells.size = 2) (hl : xs.length = n * 2) (hk : i + k = n + 1) (hge : n + 1 ≤ G) (hcs1 : cs1 = (xs.take (i * 2)).toArray ++ Builtin.zeroCells z0.cells k ++ Builtin.zeroCells z0.cells (G - (i + k))) : cs1.size = G * 2 ∧ cs1.toList.take (i * 2) = xs.take (i * 2) := by
  constructor
  · rw [hcs1]
    simp only [Array.size_append, List.size_toArray, List.length_take, size_zeroCells, hz, hl]
    omega
  · rw [hcs1]
    simp only [Array.toList_append, List.append_assoc]
    rw [List.take_append_of_le_length (by rw [List.length_take, hl]; omega), List.take_take, Nat.min_self]
set_option maxRecDepth 100000 in
set_option maxHeartbeats 4000000 in
theorem insert_growD (w : World) (base g n i k : Nat) (xs ys : List Value) (vb : Nat) (ho : w.ownsRow base 40 2 (.slice (some ⟨g, 0, none⟩) n n) n xs) (hv : Blk w vb 40 ys.toArray) (hy : ys.length = 2) (h1 : ∀ u ∈ ys, u.oneCell' = true) (hx1 : ∀ u ∈ xs, u.oneCell' = true) (hb : base ≤ w.heap.size) (hl : n ≤ 1000) (hi : i < n) (hk : i + k = n + 1) :
    Calls Try.prog 41 #[.slice (some ⟨g, 0, none⟩) n n, .int .i64 (i : Int), .slice (some ⟨vb, 0, none⟩) 1 1] w (GivesInsD w base (.slice (some ⟨g, 0, none⟩) n n) n (xs.take (i * 2) ++ ys ++ xs.drop (i * 2))) := by
  obtain ⟨i0, z0, hi0, hz0, hzs0, hs0, hb0⟩ := info_parts2 Try.info40'
  have hlen : xs.length = n * 2 := ho.1
  have hcells := ho.cells (g := g) rfl
  have HC := hide (show ∀ j u, (xs.take (i * 2))[j]? = some u → w.cell? ((⟨g, 0, none⟩ : Addr).add j) = some u from fun j u hu => hcells j u (by
    rw [List.getElem?_take] at hu
    split at hu
    · exact hu
    · cases hu))
  have HLEN := hide hlen
  have dn1 : ((i : Int) == (n : Int)) = false := by simp; omega
  have hw1 : IntKind.i64.wrap ((n : Int) + 1 - (i : Int)) = (k : Int) := by simp [IntKind.wrap, IntKind.signed, IntKind.bits]; omega
  have hin : (i : Int) ≤ (n : Int) := by omega
  go_enter Try.func41, Try.ntmps41
  go_upto_region 10 with (at_builtin; refine wpList_append_zgrow _ rfl (.tmp 34) (.tmp 39) 32 3 rfl 40 i0 z0 .i64 .i64 Try.underlying32 Try.underlying3 hi0 hz0 ⟨g, 0, none⟩ i n rfl (xs.take (i * 2)) (by rw [hs0, List.length_take, HLEN.out]; omega) HC.out k rfl (by rw [hs0]; omega) (by omega) (by omega) (by rw [hb0]; omega) (growslice_fits (by omega) (by rw [hb0]; omega)) ?_; obtain ⟨G, hG⟩ : ∃ G, G = grownCap w (i + k) n 40 := ⟨_, rfl⟩; obtain ⟨cs1, hcs1⟩ : ∃ cs1, cs1 = (xs.take (i * 2)).toArray ++ Builtin.zeroCells z0.cells k ++ Builtin.zeroCells z0.cells (G - (i + k)) := ⟨_, rfl⟩; rw [← hG, ← hcs1]; obtain ⟨w1, hw1⟩ : ∃ w1, w1 = w.drew.alloc (.cells cs1 40) := ⟨_, rfl⟩; have B1 := hide (show Blk w1 w.heap.size 40 cs1 by rw [hw1]; exact Blk.new w.drew 40 cs1); have X1 := hide (show Ext w w1 by rw [hw1]; exact Ext.alloc (Ext.drew (Ext.refl w)) _); have HG := hide hG; have HCS1 := hide hcs1; rw [← hw1, hk]; clear hG hcs1 hw1)
  have hGge : n + 1 ≤ G := by rw [HG.out, ← hk]; exact grownCap_ge w (i + k) n 40
  have HG2 := hide (g_leD w i k n G hl hk HG.out)
  have HCT := hide (g_csD i k n G z0 xs cs1 hi hzs0 HLEN.out hk hGge HCS1.out)
  obtain ⟨b2, hb2⟩ : ∃ b2, b2 = w.heap.size := ⟨_, rfl⟩
  have HB2 := hide (show w.heap.size ≤ b2 by omega)
  rw [← hb2] at B1 ⊢
  have hs49 := hide (show (Try.prog.info? 40).map (·.size) = some 2 by rw [hi0]; simp [hs0])
  have SV := hide (show ∀ j v, ys[j]? = some v → w1.cell? ((⟨vb, 0, none⟩ : Addr).add j) = some v from fun j v hj => by
    have e : (⟨vb, 0, none⟩ : Addr).add j = ⟨vb, j, none⟩ := by unfold Addr.add; split <;> simp_all
    rw [e, (X1.out.blk hv).cell]
    simpa using hj)
  have hyl : ys.length = Nat.min 1 (n + 1 - i) * 2 := by
    have e : Nat.min 1 (n + 1 - i) = 1 := Nat.min_eq_left (by omega)
    rw [hy, e]
  have HFIT := hide (show i * 2 + ys.length ≤ cs1.size by rw [HCT.out.1, hy]; omega)
  have HYL := hide hyl
  have H1 := hide h1
  have HO := hide ho
  have hiG : (i : Int) ≤ (n : Int) + 1 := by omega
  clear hb2 hyl hv h1 ho
  go_upto_region 11 with (refine wpList_copy_rowN _ rfl (.tmp 43) (.tmp 44) 32 32 rfl 40 2 Try.underlying32 hs49.out b2 (i * 2) (n + 1 - i) (G - i) ⟨vb, 0, none⟩ 1 1 rfl rfl cs1 40 B1.out ys HYL.out SV.out HFIT.out H1.out ?_; have B2 := hide (B1.out.setRow (cs1.toList.take (i * 2) ++ ys ++ cs1.toList.drop (i * 2 + ys.length)).toArray); have T2 := hide (touch_setRow w1 b2 (cs1.toList.take (i * 2) ++ ys ++ cs1.toList.drop (i * 2 + ys.length)).toArray); obtain ⟨w2, hw2⟩ : ∃ w2, w2 = w1.setRow b2 (cs1.toList.take (i * 2) ++ ys ++ cs1.toList.drop (i * 2 + ys.length)).toArray := ⟨_, rfl⟩; rw [← hw2] at B2 T2; rw [← hw2]; clear hw2)
  have B2' := hide (B2.out)
  have H2 := hide (show True from trivial)
  obtain ⟨cs2, hcs2⟩ : ∃ cs2, cs2 = (cs1.toList.take (i * 2) ++ ys ++ cs1.toList.drop (i * 2 + ys.length)).toArray := ⟨_, rfl⟩
  rw [← hcs2] at B2
  have HCS2 := hide hcs2
  clear hcs2
  have HD := hide (show (xs.drop (i * 2)).length = Nat.min (n - i) (n - i) * 2 by rw [List.length_drop, HLEN.out, show Nat.min (n - i) (n - i) = n - i from Nat.min_self _]; omega)
  have X2 := hide (show Touch w w2 (fun k => k = b2) from Touch.trans (Touch.of_below X1.out _) T2.out (fun k hk e => by rw [e] at hk; have := HB2.out; omega))
  have SD := hide (show ∀ j v, (xs.drop (i * 2))[j]? = some v → w2.cell? ((⟨g, i * 2, none⟩ : Addr).add j) = some v from fun j v hj => by
    have hc := hcells (i * 2 + j) v (by rw [← hj, List.getElem?_drop])
    have e1 : (⟨g, 0, none⟩ : Addr).add (i * 2 + j) = ⟨g, i * 2 + j, none⟩ := by unfold Addr.add; split <;> simp_all
    have e2 : (⟨g, i * 2, none⟩ : Addr).add j = ⟨g, i * 2 + j, none⟩ := by unfold Addr.add; split <;> simp_all
    rw [e1] at hc
    rw [e2]
    have hgw : g < w.heap.size := World.block_lt_of_cell? w _ hc
    exact (World.cell?_of_block (X2.out.block g hgw (fun e => by have := HB2.out; omega))).trans hc)
  have HF2 := hide (show (i + 1) * 2 + (xs.drop (i * 2)).length ≤ cs2.size by rw [HCS2.out]; simp only [List.size_toArray, List.length_append, List.length_take, List.length_drop, Array.length_toList, HCT.out.1, HLEN.out, hy]; omega)
  have hwi : IntKind.i64.wrap ((i : Int) + 1) = (i : Int) + 1 := by simp [IntKind.wrap, IntKind.signed, IntKind.bits]; omega
  have h0i : (0 : Int) ≤ (i : Int) + 1 := by omega
  have hli : (i : Int) + 1 ≤ (n : Int) + 1 := by omega
  have hti : ((i : Int) + 1).toNat = i + 1 := by omega
  have hGi : ¬ G = i + 1 := by omega
  have hni : ¬ n = i := by omega
  have HD1 := hide (show ∀ v ∈ xs.drop (i * 2), v.oneCell' = true from fun v hv => hx1 v (List.mem_of_mem_drop hv))
  refine wp_region_F (S := fun _ => True) 8 (by kernel_rfl) (by kernel_rfl) trivial (fun hHeld => ?_)
  refine GoF.take 0 (some 46) (v := ?_) rfl rfl (by kernel_rfl) (by kernel_rfl) (by kernel_rfl) (fun _ _ _ h => h) (Or.inl ⟨by rfl, ?_⟩) (by assumption) ?_
  rotate_left
  · intro w' hSw
    try dsimp only at hSw
    go_simp
    try with_reducible rfl
  try simp only [Act.put, List.setIfInBounds_toArray, List.set_cons_zero, List.set_cons_succ]
  refine GoF.take 1 (some 47) (v := ?_) rfl rfl (by kernel_rfl) (by kernel_rfl) (by kernel_rfl) (fun _ _ _ h => h) (Or.inl ⟨by rfl, ?_⟩) (by assumption) ?_
  rotate_left
  · intro w' hSw
    try dsimp only at hSw
    go_simp
    try with_reducible rfl
  try simp only [Act.put, List.setIfInBounds_toArray, List.set_cons_zero, List.set_cons_succ]
  refine GoF.take 2 (some 48) (v := ?_) rfl rfl (by kernel_rfl) (by kernel_rfl) (by kernel_rfl) (fun _ _ _ h => h) (Or.inl ⟨by rfl, ?_⟩) (by assumption) ?_
  rotate_left
  · intro w' hSw
    try dsimp only at hSw
    go_simp
    try with_reducible rfl
  try simp only [Act.put, List.setIfInBounds_toArray, List.set_cons_zero, List.set_cons_succ]
  refine GoF.take 3 (some 49) (v := ?_) rfl rfl (by kernel_rfl) (by kernel_rfl) (by kernel_rfl) (fun _ _ _ h => h) (Or.inl ⟨by rfl, ?_⟩) (by assumption) ?_
  rotate_left
  · intro w' hSw
    try dsimp only at hSw
    go_simp
    try with_reducible rfl
  try simp only [Act.put, List.setIfInBounds_toArray, List.set_cons_zero, List.set_cons_succ]
  refine GoF.take 4 (some 50) (v := ?_) rfl rfl (by kernel_rfl) (by kernel_rfl) (by kernel_rfl) (fun _ _ _ h => h) (Or.inl ⟨by rfl, ?_⟩) (by assumption) ?_
  rotate_left
  · intro w' hSw
    try dsimp only at hSw
    go_simp
    try with_reducible rfl
  try simp only [Act.put, List.setIfInBounds_toArray, List.set_cons_zero, List.set_cons_succ]
  refine GoF.take 5 (some 51) (v := ?_) rfl rfl (by kernel_rfl) (by kernel_rfl) (by kernel_rfl) (fun _ _ _ h => h) (Or.inl ⟨by rfl, ?_⟩) (by assumption) ?_
  rotate_left
  · intro w' hSw
    try dsimp only at hSw
    go_simp
    try with_reducible rfl
  try simp only [Act.put, List.setIfInBounds_toArray, List.set_cons_zero, List.set_cons_succ]
  refine GoF.take 6 (some 52) (v := ?_) rfl rfl (by kernel_rfl) (by kernel_rfl) (by kernel_rfl) (fun _ _ _ h => h) (Or.inl ⟨by rfl, ?_⟩) (by assumption) ?_
  rotate_left
  · intro w' hSw
    try dsimp only at hSw
    go_simp
    try with_reducible rfl
  try simp only [Act.put, List.setIfInBounds_toArray, List.set_cons_zero, List.set_cons_succ]
  refine GoF.take 7 (some 53) (v := ?_) rfl rfl (by kernel_rfl) (by kernel_rfl) (by kernel_rfl) (fun _ _ _ h => h) (Or.inl ⟨by rfl, ?_⟩) (by assumption) ?_
  rotate_left
  · intro w' hSw
    try dsimp only at hSw
    go_simp
    try with_reducible rfl
  try simp only [Act.put, List.setIfInBounds_toArray, List.set_cons_zero, List.set_cons_succ]
  refine GoF.last (by kernel_rfl) (by kernel_rfl) rfl (fun K hK => ?_)
  refine step_copy_rowN _ rfl (.tmp 50) (.tmp 53) 32 32 rfl 40 2 Try.underlying32 hs49.out b2 ((i + 1) * 2) (n - i) (G - (i + 1)) ⟨g, i * 2, none⟩ (n - i) (n - i) (by rfl) (by rfl) cs2 40 B2.out (xs.drop (i * 2)) HD.out SD.out HF2.out HD1.out ?_
  refine hK.out _ _ ?_
  clear hK K hHeld
  have B3 := hide (B2.out.setRow (cs2.toList.take ((i + 1) * 2) ++ xs.drop (i * 2) ++ cs2.toList.drop ((i + 1) * 2 + (xs.drop (i * 2)).length)).toArray)
  have T3 := hide (touch_setRow w2.drew b2 (cs2.toList.take ((i + 1) * 2) ++ xs.drop (i * 2) ++ cs2.toList.drop ((i + 1) * 2 + (xs.drop (i * 2)).length)).toArray)
  obtain ⟨w3, hw3⟩ : ∃ w3, w3 = w2.drew.setRow b2 (cs2.toList.take ((i + 1) * 2) ++ xs.drop (i * 2) ++ cs2.toList.drop ((i + 1) * 2 + (xs.drop (i * 2)).length)).toArray := ⟨_, rfl⟩
  rw [← hw3]
  have B3' := hide (show Blk w3 b2 40 (cs2.toList.take ((i + 1) * 2) ++ xs.drop (i * 2) ++ cs2.toList.drop ((i + 1) * 2 + (xs.drop (i * 2)).length)).toArray by rw [hw3]; exact B3.out.drew)
  have T3' := hide (show Touch w2 w3 (fun k => k = b2) by rw [hw3]; exact Touch.trans (Touch.drew (Touch.refl w2 (fun k => k = b2))) T3.out (fun _ _ e => e))
  clear hw3
  go_wp2_with (fail)
  go_ret
  have hL := ins_list (i * 2) (n * 2) 2 (G * 2) xs ys cs1 cs2 _ HLEN.out hy (by omega) (by omega) HCT.out.1 HCT.out.2 HCS2.out (show (i + 1) * 2 = i * 2 + 2 by omega) rfl
  refine ⟨_, _, rfl, ⟨by rw [List.length_append, List.length_append, List.length_take, List.length_drop, HLEN.out, hy]; omega, .inr ⟨b2, G, _, rfl, Nat.le_trans hb HB2.out, B3'.out, hGge, HG2.out, hL.1, ?_⟩⟩, ?_⟩
  · rw [show (n + 1) * 2 = n * 2 + 2 by omega]
    exact hL.2
  · exact (X2.out.trans T3'.out (fun k _ e => e)).more (fun k hk e => by rw [e] at hk; have := HB2.out; omega)
set_option maxRecDepth 100000 in
set_option maxHeartbeats 4000000 in
theorem insert_roomD (w : World) (base g n c i : Nat) (xs ys : List Value) (vb : Nat) (ho : w.ownsRow base 40 2 (.slice (some ⟨g, 0, none⟩) n c) n xs) (hv : Blk w vb 40 ys.toArray) (hvg : vb ≠ g) (hy : ys.length = 2) (h1 : ∀ u ∈ ys, u.oneCell' = true) (hx1 : ∀ u ∈ xs, u.oneCell' = true) (hb : base ≤ w.heap.size) (hl : n ≤ 1000) (hi : i < n) (hr : n < c) :
    Calls Try.prog 41 #[.slice (some ⟨g, 0, none⟩) n c, .int .i64 (i : Int), .slice (some ⟨vb, 0, none⟩) 1 1] w (GivesInsD w base (.slice (some ⟨g, 0, none⟩) n c) n (xs.take (i * 2) ++ ys ++ xs.drop (i * 2))) := by
  obtain ⟨i0, z0, hi0, hz0, hzs0, hs0, hb0⟩ := info_parts2 Try.info40'
  obtain ⟨cur, hB, hcs, htk, hbg, hnc, hcm⟩ := own_blk_parts ho
  have HLEN := hide ho.1
  have hs40 := hide (show (Try.prog.info? 40).map (·.size) = some 2 by rw [hi0]; simp [hs0])
  have hov : ∀ lb cb, (callFunc 47 #[.slice (some ⟨vb, 0, none⟩) 1 1, .slice (some ⟨g, (i + 1) * 2, none⟩) lb cb]).run Try.prog w = .ok (.value (.bool false)) w := fun lb cb => by
    rw [run_callFunc_extern Try.func47 (by kernel_rfl) (by kernel_rfl) (by kernel_rfl) (e := Extern.SlicesOverlaps.overlaps #[32, 32] #[4]) (by kernel_rfl),
      Lib.run_overlaps_apart w 32 4 40 Try.underlying32 2 (fun w => by simp [sizeOf, typeInfo, hi0, hs0]) ⟨vb, 0, none⟩ ⟨g, (i + 1) * 2, none⟩ 1 1 lb cb hvg 40 40 ys.toArray.size cur.size hv.shape hB.shape (by omega) (hv.frozen 0) (hv.frozen _)]
    rfl
  have HC := hide (ho.cells (g := g) rfl)
  have B0 := hide hB
  have V0 := hide hv
  have HCS := hide hcs
  have HTK := hide htk
  have HCM := hide hcm
  have HY := hide hy
  have H1 := hide h1
  have hnm : (n : Int) + 1 ≤ (c : Int) := by omega
  have dn1 : ((i : Int) == (n : Int)) = false := by simp; omega
  have hin : (i : Int) ≤ (n : Int) := by omega
  have hgr : ¬ ((n : Int) + 1 > (c : Int)) := by omega
  have hdg : decide ((c : Int) < (n : Int) + 1) = false := decide_eq_false (by omega)
  have hwi : IntKind.i64.wrap ((i : Int) + 1) = (i : Int) + 1 := by simp [IntKind.wrap, IntKind.signed, IntKind.bits]; omega
  have h0i : (0 : Int) ≤ (i : Int) + 1 := by omega
  have hli : (i : Int) + 1 ≤ (n : Int) + 1 := by omega
  have hti : ((i : Int) + 1).toNat = i + 1 := by omega
  have hci : ¬ c = i + 1 := by omega
  have hni : ¬ c = i := by omega
  have hil : (i : Int) ≤ (n : Int) + 1 := by omega
  have HX1 := hide hx1
  clear ho hv h1 hy hcs htk hB hcm hx1
  go_enter Try.func41, Try.ntmps41
  go_upto_region 15 with (simp only [hov])
  have HD := hide (show (xs.drop (i * 2)).length = Nat.min (n + 1 - i) (n - i) * 2 by rw [List.length_drop, HLEN.out, show Nat.min (n + 1 - i) (n - i) = n - i from Nat.min_eq_right (by omega)]; omega)
  have HD1 := hide (show ∀ v ∈ xs.drop (i * 2), v.oneCell' = true from fun v hv => HX1.out v (List.mem_of_mem_drop hv))
  have SD := hide (show ∀ j v, (xs.drop (i * 2))[j]? = some v → w.cell? ((⟨g, i * 2, none⟩ : Addr).add j) = some v from fun j v hj => by
    have hc := HC.out (i * 2 + j) v (by rw [← hj, List.getElem?_drop])
    have e1 : (⟨g, 0, none⟩ : Addr).add (i * 2 + j) = ⟨g, i * 2 + j, none⟩ := by unfold Addr.add; split <;> simp_all
    have e2 : (⟨g, i * 2, none⟩ : Addr).add j = ⟨g, i * 2 + j, none⟩ := by unfold Addr.add; split <;> simp_all
    rw [e1] at hc
    rw [e2]
    exact hc)
  have HF2 := hide (show (i + 1) * 2 + (xs.drop (i * 2)).length ≤ cur.size by rw [List.length_drop, HLEN.out, HCS.out]; omega)
  clear hov
  refine wp_region_F (S := fun _ => True) 8 (by kernel_rfl) (by kernel_rfl) trivial (fun hHeld => ?_)
  refine GoF.take 0 (some 69) (v := ?_) rfl rfl (by kernel_rfl) (by kernel_rfl) (by kernel_rfl) (fun _ _ _ h => h) (Or.inl ⟨by rfl, ?_⟩) (by assumption) ?_
  rotate_left
  · intro w' hSw
    try dsimp only at hSw
    go_simp
    try with_reducible rfl
  try simp only [Act.put, List.setIfInBounds_toArray, List.set_cons_zero, List.set_cons_succ]
  refine GoF.take 1 (some 70) (v := ?_) rfl rfl (by kernel_rfl) (by kernel_rfl) (by kernel_rfl) (fun _ _ _ h => h) (Or.inl ⟨by rfl, ?_⟩) (by assumption) ?_
  rotate_left
  · intro w' hSw
    try dsimp only at hSw
    go_simp
    try with_reducible rfl
  try simp only [Act.put, List.setIfInBounds_toArray, List.set_cons_zero, List.set_cons_succ]
  refine GoF.take 2 (some 71) (v := ?_) rfl rfl (by kernel_rfl) (by kernel_rfl) (by kernel_rfl) (fun _ _ _ h => h) (Or.inl ⟨by rfl, ?_⟩) (by assumption) ?_
  rotate_left
  · intro w' hSw
    try dsimp only at hSw
    go_simp
    try with_reducible rfl
  try simp only [Act.put, List.setIfInBounds_toArray, List.set_cons_zero, List.set_cons_succ]
  refine GoF.take 3 (some 72) (v := ?_) rfl rfl (by kernel_rfl) (by kernel_rfl) (by kernel_rfl) (fun _ _ _ h => h) (Or.inl ⟨by rfl, ?_⟩) (by assumption) ?_
  rotate_left
  · intro w' hSw
    try dsimp only at hSw
    go_simp
    try with_reducible rfl
  try simp only [Act.put, List.setIfInBounds_toArray, List.set_cons_zero, List.set_cons_succ]
  refine GoF.take 4 (some 73) (v := ?_) rfl rfl (by kernel_rfl) (by kernel_rfl) (by kernel_rfl) (fun _ _ _ h => h) (Or.inl ⟨by rfl, ?_⟩) (by assumption) ?_
  rotate_left
  · intro w' hSw
    try dsimp only at hSw
    go_simp
    try with_reducible rfl
  try simp only [Act.put, List.setIfInBounds_toArray, List.set_cons_zero, List.set_cons_succ]
  refine GoF.take 5 (some 74) (v := ?_) rfl rfl (by kernel_rfl) (by kernel_rfl) (by kernel_rfl) (fun _ _ _ h => h) (Or.inl ⟨by rfl, ?_⟩) (by assumption) ?_
  rotate_left
  · intro w' hSw
    try dsimp only at hSw
    go_simp
    try with_reducible rfl
  try simp only [Act.put, List.setIfInBounds_toArray, List.set_cons_zero, List.set_cons_succ]
  refine GoF.take 6 (some 75) (v := ?_) rfl rfl (by kernel_rfl) (by kernel_rfl) (by kernel_rfl) (fun _ _ _ h => h) (Or.inl ⟨by rfl, ?_⟩) (by assumption) ?_
  rotate_left
  · intro w' hSw
    try dsimp only at hSw
    go_simp
    try with_reducible rfl
  try simp only [Act.put, List.setIfInBounds_toArray, List.set_cons_zero, List.set_cons_succ]
  refine GoF.take 7 (some 76) (v := ?_) rfl rfl (by kernel_rfl) (by kernel_rfl) (by kernel_rfl) (fun _ _ _ h => h) (Or.inl ⟨by rfl, ?_⟩) (by assumption) ?_
  rotate_left
  · intro w' hSw
    try dsimp only at hSw
    go_simp
    try with_reducible rfl
  try simp only [Act.put, List.setIfInBounds_toArray, List.set_cons_zero, List.set_cons_succ]
  refine GoF.last (by kernel_rfl) (by kernel_rfl) rfl (fun K hK => ?_)
  refine step_copy_rowN _ rfl (.tmp 73) (.tmp 76) 32 32 rfl 40 2 Try.underlying32 hs40.out g ((i + 1) * 2) (n - i) (c - (i + 1)) ⟨g, i * 2, none⟩ (n + 1 - i) (c - i) (by rfl) (by rfl) cur 40 B0.out (xs.drop (i * 2)) HD.out SD.out HF2.out HD1.out ?_
  refine hK.out _ _ ?_
  clear hK K hHeld
  obtain ⟨cs2, hcs2⟩ : ∃ cs2, cs2 = (cur.toList.take ((i + 1) * 2) ++ xs.drop (i * 2) ++ cur.toList.drop ((i + 1) * 2 + (xs.drop (i * 2)).length)).toArray := ⟨_, rfl⟩
  rw [← hcs2]
  have B2 := hide (Blk.setRow B0.out cs2)
  have T2 := hide (Touch.trans (Touch.drew (Touch.refl w (fun k => k = g))) (touch_setRow w.drew g cs2) (fun _ _ e => e))
  obtain ⟨w2, hw2⟩ : ∃ w2, w2 = w.drew.setRow g cs2 := ⟨_, rfl⟩
  rw [← hw2] at T2
  rw [← hw2]
  have B2' := hide (show Blk w2 g 40 cs2 by rw [hw2]; exact B2.out.drew)
  have HCS2 := hide hcs2
  clear hw2 hcs2 B2
  have V2 := hide (T2.out.blk V0.out hvg)
  have SV := hide (show ∀ j v, ys[j]? = some v → w2.cell? ((⟨vb, 0, none⟩ : Addr).add j) = some v from fun j v hj => by
    have e : (⟨vb, 0, none⟩ : Addr).add j = ⟨vb, j, none⟩ := by unfold Addr.add; split <;> simp_all
    rw [e, V2.out.cell]
    simpa using hj)
  have HYL := hide (show ys.length = Nat.min 1 (n + 1 - i) * 2 by rw [HY.out, show Nat.min 1 (n + 1 - i) = 1 from Nat.min_eq_left (by omega)])
  have HS2 := hide (show cs2.size = c * 2 by rw [HCS2.out]; simp only [List.size_toArray, List.length_append, List.length_take, List.length_drop, Array.length_toList, HCS.out, HLEN.out]; omega)
  have HFIT := hide (show i * 2 + ys.length ≤ cs2.size by rw [HS2.out, HY.out]; omega)
  go_wp2_with (refine wpList_copy_rowN _ rfl (.tmp 80) (.tmp 81) 32 32 rfl 40 2 Try.underlying32 hs40.out g (i * 2) (n + 1 - i) (c - i) ⟨vb, 0, none⟩ 1 1 rfl rfl cs2 40 B2'.out ys HYL.out SV.out HFIT.out H1.out ?_; have B3 := hide (B2'.out.setRow (cs2.toList.take (i * 2) ++ ys ++ cs2.toList.drop (i * 2 + ys.length)).toArray); have T3 := hide (touch_setRow w2 g (cs2.toList.take (i * 2) ++ ys ++ cs2.toList.drop (i * 2 + ys.length)).toArray); obtain ⟨w3, hw3⟩ : ∃ w3, w3 = w2.setRow g (cs2.toList.take (i * 2) ++ ys ++ cs2.toList.drop (i * 2 + ys.length)).toArray := ⟨_, rfl⟩; rw [← hw3] at B3 T3; rw [← hw3]; clear hw3)
  go_ret
  have hL := ins_room (i * 2) (n * 2) 2 (c * 2) xs ys cur cs2 _ HLEN.out HY.out (by omega) (by omega) HCS.out HTK.out (show (i + 1) * 2 = i * 2 + 2 by omega) HCS2.out rfl
  refine ⟨_, _, rfl, ⟨by rw [List.length_append, List.length_append, List.length_take, List.length_drop, HLEN.out, HY.out]; omega, .inr ⟨g, c, _, rfl, hbg, B3.out, by omega, HCM.out, hL.1, ?_⟩⟩, ?_⟩
  · rw [show (n + 1) * 2 = n * 2 + 2 by omega]
    first | exact hL.2 | (rw [← List.append_assoc]; exact hL.2)
  · exact (T2.out.trans T3.out (fun k _ e => e)).more (fun k hk e => by rw [e]; rfl)
/-- slices.Insert of one -/
theorem insert_anyD (w : World) (base : Nat) (A : Option Addr) (c n i : Nat) (xs ys : List Value) (vb : Nat) (ho : w.ownsRow base 40 2 (.slice A n c) n xs) (hv : Blk w vb 40 ys.toArray) (hvg : ∀ g, A = some g → vb ≠ g.block) (hy : ys.length = 2) (h1 : ∀ u ∈ ys, u.oneCell' = true) (hx1 : ∀ u ∈ xs, u.oneCell' = true) (hb : base ≤ w.heap.size) (hl : n ≤ 1000) (hi : i ≤ n) :
    Calls Try.prog 41 #[.slice A n c, .int .i64 (i : Int), .slice (some ⟨vb, 0, none⟩) 1 1] w (GivesInsD w base (.slice A n c) n (xs.take (i * 2) ++ ys ++ xs.drop (i * 2))) := by
  obtain ⟨_, _, e, _, hnc, hcm, hAd⟩ := own_form ho
  injection e with e1 e2 e3
  subst e1 e3
  by_cases hin : i = n
  · subst hin
    have h0 : xs.take (i * 2) ++ ys ++ xs.drop (i * 2) = xs ++ ys := by rw [← ho.1, List.take_length, List.drop_length, List.append_nil]
    rw [h0]
    exact insert_endD w base A c i xs ys vb ho hv hy h1 hb hl
  · obtain ⟨g, _, hv', _, _⟩ := ho.form (by omega)
    injection hv' with hv1 _ _
    subst hv1
    by_cases hcn : n = c
    · subst hcn
      exact insert_growD w base g n i (n + 1 - i) xs ys vb ho hv hy h1 hx1 hb hl (by omega) (by omega)
    · exact insert_roomD w base g n c i xs ys vb ho hv (hvg _ rfl) hy h1 hx1 hb hl (by omega) (by omega)
end Go.Proofs.Ytaijgnhkdbdfcaa
