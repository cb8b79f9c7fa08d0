/- Look: slices.Delete of one who lives, of one unit. (Printed by mk_lookk.py.) -/
import Derived.Test.YtaijgnhkdbdfcaaLookG
namespace Go.Proofs.Ytaijgnhkdbdfcaa
open Go.ChangeShapes Go.WideShapes Go.ChangeAt Go.RowKit
set_option linter.unusedVariables false

section
variable {P : Program} (w : World)
/-- 'clear' of one element in a row that is known whole -/
theorem run_clear_rowN (t ty e te : TypeId) (i : TypeInfo) (z : Value) (ht : P.underlying t = some (.slice e)) (hi : P.info? e = some i) (hz : i.zero = some z) (g o c : Nat) (cur : Array Value) (hg : w.heap[g]? = some (.cells cur te (0, 0)))
    (hfit : o + z.cells.size ≤ cur.size) (h1 : ∀ v ∈ z.cells.toList, v.oneCell' = true) :
    (Builtin.clear_ #[t] ty #[.slice (some ⟨g, o, none⟩) 1 c]).run P w = .ok (.tuple #[]) (w.setRow g (cur.toList.take o ++ z.cells.toList ++ cur.toList.drop (o + z.cells.toList.length)).toArray) := by
  have hzc : (Builtin.zeroCells z.cells 1).toList = z.cells.toList := by
    apply List.ext_getElem
    · simp [size_zeroCells]
    · intro k h1 h2
      have hk : k < z.cells.size := by simpa using h2
      simp [Builtin.zeroCells, Nat.mod_eq_of_lt hk, getElem!_pos z.cells k hk]
  have hst := run_storeCells_at P g o te z.cells.toList 0 cur w hg (by simpa using hfit) h1
  simp only [Nat.add_zero] at hst
  simp [Builtin.clear_, run_underlying ht, zeroValue, typeInfo, hi, hz, hzc, hst]
theorem step_append_roomN {ops : Array Oper} {o : Oper} {a : Act} {K : Act → World → Prop} {Q : Exit → Act → World → Prop} {E : Prop} (hgd : o.guard = none) (s x : Operand) (t : TypeId)
    (ho : o.op = .call { callee := .builtin .append, args := #[s, x], argTypes := #[t, t] })
    (e : TypeId) (i : TypeInfo) (ht : P.underlying t = some (.slice e)) (hi : P.info? e = some i)
    (g sLen sCap : Nat) (cur : Array Value) (hs : a.eval s = .slice (some ⟨g, 0, none⟩) sLen sCap) (hg : w.heap[g]? = some (.cells cur e (0, 0)))
    (ad : Addr) (m c : Nat) (news : List Value) (hx : a.eval x = .slice (some ad) m c) (hl : news.length = m * i.size) (hnews : ∀ j u, news[j]? = some u → w.cell? (ad.add j) = some u) (h1 : ∀ u ∈ news, u.oneCell' = true)
    (hroom : sLen + m ≤ sCap) (hfit : sLen * i.size + news.length ≤ cur.size)
    (h : K (a.put o.dst (.slice (some ⟨g, 0, none⟩) (sLen + m) sCap)) (w.setRow g (cur.toList.take (sLen * i.size) ++ news ++ cur.toList.drop (sLen * i.size + news.length)).toArray)) :
    if Region.wanted o (yielded ops a.tmps) = true then Oper.wp P o a w K Q else E := by
  have hw : Region.wanted o (yielded ops a.tmps) = true := by simp [Region.wanted, hgd]
  rw [if_pos hw]
  have hrun := run_append_room (P := P) w t o.type e i ht hi g sLen sCap cur hg ad m c news hl hnews h1 hroom hfit
  unfold Oper.wp execOp
  simp only [ho, resolve, invoke, builtin, Sem.run_bind, Sem.run_pure, Result.andThen_ok, List.map_toArray, List.map_cons, List.map_nil, hs, hx, hrun]
  exact h
end
theorem del_list (p q m T : Nat) (xs zs : List Value) (cs1 cs2 cs3 : Array Value) (hx : xs.length = q + m) (hz : zs.length = m) (hp : p ≤ q) (hT : q + m ≤ T) (h1 : cs1.size = T) (h2 : cs1.toList.take (q + m) = xs)
    {pm : Nat} (hpm : pm = p + m) (hc2 : cs2 = (cs1.toList.take p ++ xs.drop pm ++ cs1.toList.drop (p + (xs.drop pm).length)).toArray) (hc3 : cs3 = (cs2.toList.take q ++ zs ++ cs2.toList.drop (q + zs.length)).toArray) :
    cs2.size = T ∧ cs3.size = T ∧ cs3.toList.take q = xs.take p ++ xs.drop pm := by
  have l0 : cs1.toList.length = T := by simpa using h1
  have lp : (cs1.toList.take p).length = p := by rw [List.length_take, l0]; omega
  have ld : (xs.drop pm).length = q - p := by rw [List.length_drop, hx]; omega
  have e1 : cs1.toList.take p = xs.take p := by rw [← h2, List.take_take, Nat.min_eq_left (by omega)]
  have s2 : cs2.size = T := by
    rw [hc2]
    simp only [List.size_toArray, List.length_append, lp, ld, List.length_drop, l0]
    omega
  have t2 : cs2.toList.take q = xs.take p ++ xs.drop pm := by
    rw [hc2]
    simp only []
    rw [List.take_append_of_le_length (by rw [List.length_append, lp, ld]; omega), List.take_of_length_le (by rw [List.length_append, lp, ld]; omega), e1]
  have lt2 : (cs2.toList.take q).length = q := by rw [List.length_take, Array.length_toList, s2]; omega
  refine ⟨s2, ?_, ?_⟩
  · rw [hc3]
    simp only [List.size_toArray, List.length_append, lt2, hz, List.length_drop, Array.length_toList, s2]
    omega
  · rw [hc3]
    simp only [List.append_assoc]
    rw [List.take_append_of_le_length (by omega), List.take_of_length_le (by omega), t2]
/-- what Delete gives -/
def GivesDel (w : World) (base g m c : Nat) (xs : List Value) (e : Ending) (w' : World) : Prop :=
  e = .returned (.slice (some ⟨g, 0, none⟩) m c) ∧ w'.ownsRow base 49 4 (.slice (some ⟨g, 0, none⟩) m c) m xs ∧ Touch w w' (fun k => k = g)
theorem Try.zero49 : (Try.prog.info? 49).bind (fun i => i.zero.map (fun z => z.cells.toList.all (fun v => v.oneCell'))) = some true := by kernel_rfl
set_option maxRecDepth 100000 in
set_option maxHeartbeats 4000000 in
theorem delete_one (w : World) (base g m c i : Nat) (xs : List Value) (ho : w.ownsRow base 49 4 (.slice (some ⟨g, 0, none⟩) (m + 1) c) (m + 1) xs) (hx1 : ∀ u ∈ xs, u.oneCell' = true) (hb : base ≤ w.heap.size) (hl : m ≤ 1000) (hi : i ≤ m) :
    Calls Try.prog 24 #[.slice (some ⟨g, 0, none⟩) (m + 1) c, .int .i64 (i : Int), .int .i64 ((i : Int) + 1)] w (GivesDel w base g m c (xs.take (i * 4) ++ xs.drop ((i + 1) * 4))) := by
  obtain ⟨i0, z0, hi0, hz0, hzs0, hs0, hb0⟩ := info_parts2 Try.info49'
  have hz1 : ∀ v ∈ z0.cells.toList, v.oneCell' = true := by
    have := Try.zero49
    rw [hi0] at this
    simp only [Option.bind_some, hz0, Option.map_some] at this
    injection this with this
    exact List.all_eq_true.1 this
  obtain ⟨cur, hB, hcs, htk, hbg, hnc, hcm⟩ := own_blk_parts ho
  have HLEN := hide ho.1
  have HX1 := hide hx1
  have HC := hide (ho.cells (g := g) rfl)
  have B0 := hide hB
  have HCS := hide hcs
  have HTK := hide htk
  have HCM := hide hcm
  have HZ1 := hide hz1
  obtain ⟨A, hA, hsrc⟩ : ∃ A : Addr, (if c = i + 1 then some (⟨g, 0, none⟩ : Addr) else some ⟨g, (i + 1) * 4, none⟩) = some A ∧ Hid (∀ t u, (xs.drop ((i + 1) * 4))[t]? = some u → w.drew.cell? (A.add t) = some u) := by
    by_cases h : c = i + 1
    · refine ⟨⟨g, 0, none⟩, by simp [h], fun t u hu => ?_⟩
      have h0 : (xs.drop ((i + 1) * 4)).length = 0 := by rw [List.length_drop, HLEN.out]; omega
      rw [List.length_eq_zero_iff.1 h0] at hu
      simp at hu
    · refine ⟨⟨g, (i + 1) * 4, none⟩, by simp [h], fun t u hu => ?_⟩
      have hc := HC.out ((i + 1) * 4 + t) u (by rw [← hu, List.getElem?_drop])
      have e1 : (⟨g, 0, none⟩ : Addr).add ((i + 1) * 4 + t) = ⟨g, (i + 1) * 4 + t, none⟩ := by unfold Addr.add; split <;> simp_all
      have e2 : (⟨g, (i + 1) * 4, none⟩ : Addr).add t = ⟨g, (i + 1) * 4 + t, none⟩ := by unfold Addr.add; split <;> simp_all
      rw [e1] at hc
      rw [e2]
      exact hc
  have HL := hide (show (xs.drop ((i + 1) * 4)).length = (m - i) * i0.size by rw [List.length_drop, HLEN.out, hs0]; omega)
  have HD1 := hide (show ∀ v ∈ xs.drop ((i + 1) * 4), v.oneCell' = true from fun v hv => HX1.out v (List.mem_of_mem_drop hv))
  have HF2 := hide (show i * i0.size + (xs.drop ((i + 1) * 4)).length ≤ cur.size by rw [List.length_drop, HLEN.out, HCS.out, hs0]; omega)
  have HS := hide hs0
  have hie : ((i : Int) == (i : Int) + 1) = false := by simp; omega
  have h0i : (0 : Int) ≤ (i : Int) + 1 := by omega
  have hti : ((i : Int) + 1).toNat = i + 1 := by omega
  have him : (i : Int) + 1 ≤ (m : Int) + 1 := by omega
  have hmc : (m : Int) + 1 ≤ (c : Int) := by omega
  have hii : (i : Int) ≤ (i : Int) + 1 := by omega
  have hic : (i : Int) ≤ (c : Int) := by omega
  have hmm : (m : Int) ≤ (m : Int) + 1 := by omega
  have hcmn : ¬ c = m := by omega
  clear ho hcs htk hB hcm hx1 hz1
  go_enter Try.func24, Try.ntmps24
  go_wp2_with (fail)
  refine wp_region_F (S := fun _ => True) 7 (by kernel_rfl) (by kernel_rfl) trivial (fun hHeld => ?_)
  refine GoF.take 0 (some 20) (v := ?_) rfl rfl (by kernel_rfl) (by kernel_rfl) (by kernel_rfl) (fun _ _ _ h => h) (Or.inl ⟨by rfl, ?_⟩) (by assumption) ?_
  rotate_left
  · intro w' hSw
    try dsimp only at hSw
    go_simp
    try with_reducible rfl
  try simp only [Act.put, List.setIfInBounds_toArray, List.set_cons_zero, List.set_cons_succ]
  refine GoF.take 1 (some 21) (v := ?_) rfl rfl (by kernel_rfl) (by kernel_rfl) (by kernel_rfl) (fun _ _ _ h => h) (Or.inl ⟨by rfl, ?_⟩) (by assumption) ?_
  rotate_left
  · intro w' hSw
    try dsimp only at hSw
    go_simp
    try with_reducible rfl
  try simp only [Act.put, List.setIfInBounds_toArray, List.set_cons_zero, List.set_cons_succ]
  refine GoF.take 2 (some 22) (v := ?_) rfl rfl (by kernel_rfl) (by kernel_rfl) (by kernel_rfl) (fun _ _ _ h => h) (Or.inl ⟨by rfl, ?_⟩) (by assumption) ?_
  rotate_left
  · intro w' hSw
    try dsimp only at hSw
    go_simp
    try with_reducible rfl
  try simp only [Act.put, List.setIfInBounds_toArray, List.set_cons_zero, List.set_cons_succ]
  refine GoF.take 3 (some 23) (v := ?_) rfl rfl (by kernel_rfl) (by kernel_rfl) (by kernel_rfl) (fun _ _ _ h => h) (Or.inl ⟨by rfl, ?_⟩) (by assumption) ?_
  rotate_left
  · intro w' hSw
    try dsimp only at hSw
    go_simp
    try with_reducible rfl
  try simp only [Act.put, List.setIfInBounds_toArray, List.set_cons_zero, List.set_cons_succ]
  refine GoF.take 4 (some 24) (v := ?_) rfl rfl (by kernel_rfl) (by kernel_rfl) (by kernel_rfl) (fun _ _ _ h => h) (Or.inl ⟨by rfl, ?_⟩) (by assumption) ?_
  rotate_left
  · intro w' hSw
    try dsimp only at hSw
    go_simp
    try with_reducible rfl
  try simp only [Act.put, List.setIfInBounds_toArray, List.set_cons_zero, List.set_cons_succ]
  refine GoF.take 5 (some 25) (v := ?_) rfl rfl (by kernel_rfl) (by kernel_rfl) (by kernel_rfl) (fun _ _ _ h => h) (Or.inl ⟨by rfl, ?_⟩) (by assumption) ?_
  rotate_left
  · intro w' hSw
    try dsimp only at hSw
    go_simp
    try with_reducible rfl
  try simp only [Act.put, List.setIfInBounds_toArray, List.set_cons_zero, List.set_cons_succ]
  refine GoF.each (rs := [6]) (by kernel_rfl) (by kernel_rfl) (by kernel_rfl) ?_
  refine EachF.cons (i := 6) rfl (fun K hK => ?_) EachF.nil
  refine step_append_roomN _ rfl (.tmp 22) (.tmp 25) 31 rfl 49 i0 Try.underlying31 hi0 g i c cur (by rfl) B0.out A (m - i) (c - (i + 1)) (xs.drop ((i + 1) * 4)) (by rfl) HL.out hsrc.out HD1.out (by omega) HF2.out ?_
  obtain ⟨cs2, hcs2⟩ : ∃ cs2, cs2 = (cur.toList.take (i * i0.size) ++ xs.drop ((i + 1) * 4) ++ cur.toList.drop (i * i0.size + (xs.drop ((i + 1) * 4)).length)).toArray := ⟨_, rfl⟩
  rw [← hcs2]
  rw [HS.out] at hcs2
  have B2 := hide (Blk.setRow (Blk.drew B0.out) cs2)
  have T2 := hide (Touch.trans (Touch.drew (Touch.refl w (fun k => k = g))) (touch_setRow w.drew g cs2) (fun _ _ e => e))
  obtain ⟨w2, hw2⟩ : ∃ w2, w2 = w.drew.setRow g cs2 := ⟨_, rfl⟩
  rw [← hw2] at T2 B2
  rw [← hw2]
  have HZL := hide (show z0.cells.toList.length = 4 by simpa using hzs0)
  obtain ⟨cs3, hcs3⟩ : ∃ cs3, cs3 = (cs2.toList.take (m * 4) ++ z0.cells.toList ++ cs2.toList.drop (m * 4 + z0.cells.toList.length)).toArray := ⟨_, rfl⟩
  have HLS := hide (del_list (i * 4) (m * 4) 4 (c * 4) xs z0.cells.toList cur cs2 cs3 (by rw [HLEN.out]; omega) HZL.out (by omega) (by omega) HCS.out (by rw [← HTK.out]; congr 1; omega) (show (i + 1) * 4 = i * 4 + 4 by omega) hcs2 hcs3)
  have B3 := hide (Blk.setRow B2.out cs3)
  have T3 := hide (Touch.trans T2.out (touch_setRow w2 g cs3) (fun _ _ e => e))
  have hcl0 : ∀ ty, (Builtin.clear_ #[31] ty #[.slice (some ⟨g, m * 4, none⟩) 1 (c - m)]).run Try.prog w2 = .ok (.tuple #[]) (w2.setRow g cs3) := fun ty => by
    rw [hcs3]
    exact run_clear_rowN w2 31 ty 49 49 i0 z0 Try.underlying31 hi0 hz0 g (m * 4) (c - m) cs2 B2.out (by rw [HLS.out.1, hzs0]; omega) HZ1.out
  obtain ⟨w3, hw3⟩ : ∃ w3, w3 = w2.setRow g cs3 := ⟨_, rfl⟩
  rw [← hw3] at B3 T3 hcl0
  clear hw2 hw3 hcs2 hcs3
  refine hK.out _ _ trivial (fun hHeld => ?_)
  change GoF _ _ _ _ _ _ _ _ (Act.put _ (some 26) _) _
  simp only [Act.put, List.setIfInBounds_toArray, List.set_cons_zero, List.set_cons_succ]
  refine GoF.last (by kernel_rfl) (by kernel_rfl) rfl (fun K hK => ?_)
  go_simp
  refine hK.out _ _ ?_
  clear hK K
  go_wp2_with (fail)
  go_ret
  exact ⟨rfl, ⟨by rw [List.length_append, List.length_take, List.length_drop, HLEN.out]; omega, .inr ⟨g, c, cs3, rfl, hbg, B3.out, by omega, HCM.out, HLS.out.2.1, HLS.out.2.2⟩⟩, T3.out⟩
/-- what Delete gives -/
def GivesDelO (w : World) (base g m c : Nat) (xs : List Value) (e : Ending) (w' : World) : Prop :=
  e = .returned (.slice (some ⟨g, 0, none⟩) m c) ∧ w'.ownsRow base 56 3 (.slice (some ⟨g, 0, none⟩) m c) m xs ∧ Touch w w' (fun k => k = g)
theorem Try.zero56 : (Try.prog.info? 56).bind (fun i => i.zero.map (fun z => z.cells.toList.all (fun v => v.oneCell'))) = some true := by kernel_rfl
set_option maxRecDepth 100000 in
set_option maxHeartbeats 4000000 in
theorem delete_oneO (w : World) (base g m c i : Nat) (xs : List Value) (ho : w.ownsRow base 56 3 (.slice (some ⟨g, 0, none⟩) (m + 1) c) (m + 1) xs) (hx1 : ∀ u ∈ xs, u.oneCell' = true) (hb : base ≤ w.heap.size) (hl : m ≤ 1000) (hi : i ≤ m) :
    Calls Try.prog 26 #[.slice (some ⟨g, 0, none⟩) (m + 1) c, .int .i64 (i : Int), .int .i64 ((i : Int) + 1)] w (GivesDelO w base g m c (xs.take (i * 3) ++ xs.drop ((i + 1) * 3))) := by
  obtain ⟨i0, z0, hi0, hz0, hzs0, hs0, hb0⟩ := info_parts2 Try.info56'
  have hz1 : ∀ v ∈ z0.cells.toList, v.oneCell' = true := by
    have := Try.zero56
    rw [hi0] at this
    simp only [Option.bind_some, hz0, Option.map_some] at this
    injection this with this
    exact List.all_eq_true.1 this
  obtain ⟨cur, hB, hcs, htk, hbg, hnc, hcm⟩ := own_blk_parts ho
  have HLEN := hide ho.1
  have HX1 := hide hx1
  have HC := hide (ho.cells (g := g) rfl)
  have B0 := hide hB
  have HCS := hide hcs
  have HTK := hide htk
  have HCM := hide hcm
  have HZ1 := hide hz1
  obtain ⟨A, hA, hsrc⟩ : ∃ A : Addr, (if c = i + 1 then some (⟨g, 0, none⟩ : Addr) else some ⟨g, (i + 1) * 3, none⟩) = some A ∧ Hid (∀ t u, (xs.drop ((i + 1) * 3))[t]? = some u → w.drew.cell? (A.add t) = some u) := by
    by_cases h : c = i + 1
    · refine ⟨⟨g, 0, none⟩, by simp [h], fun t u hu => ?_⟩
      have h0 : (xs.drop ((i + 1) * 3)).length = 0 := by rw [List.length_drop, HLEN.out]; omega
      rw [List.length_eq_zero_iff.1 h0] at hu
      simp at hu
    · refine ⟨⟨g, (i + 1) * 3, none⟩, by simp [h], fun t u hu => ?_⟩
      have hc := HC.out ((i + 1) * 3 + t) u (by rw [← hu, List.getElem?_drop])
      have e1 : (⟨g, 0, none⟩ : Addr).add ((i + 1) * 3 + t) = ⟨g, (i + 1) * 3 + t, none⟩ := by unfold Addr.add; split <;> simp_all
      have e2 : (⟨g, (i + 1) * 3, none⟩ : Addr).add t = ⟨g, (i + 1) * 3 + t, none⟩ := by unfold Addr.add; split <;> simp_all
      rw [e1] at hc
      rw [e2]
      exact hc
  have HL := hide (show (xs.drop ((i + 1) * 3)).length = (m - i) * i0.size by rw [List.length_drop, HLEN.out, hs0]; omega)
  have HD1 := hide (show ∀ v ∈ xs.drop ((i + 1) * 3), v.oneCell' = true from fun v hv => HX1.out v (List.mem_of_mem_drop hv))
  have HF2 := hide (show i * i0.size + (xs.drop ((i + 1) * 3)).length ≤ cur.size by rw [List.length_drop, HLEN.out, HCS.out, hs0]; omega)
  have HS := hide hs0
  have hie : ((i : Int) == (i : Int) + 1) = false := by simp; omega
  have h0i : (0 : Int) ≤ (i : Int) + 1 := by omega
  have hti : ((i : Int) + 1).toNat = i + 1 := by omega
  have him : (i : Int) + 1 ≤ (m : Int) + 1 := by omega
  have hmc : (m : Int) + 1 ≤ (c : Int) := by omega
  have hii : (i : Int) ≤ (i : Int) + 1 := by omega
  have hic : (i : Int) ≤ (c : Int) := by omega
  have hmm : (m : Int) ≤ (m : Int) + 1 := by omega
  have hcmn : ¬ c = m := by omega
  clear ho hcs htk hB hcm hx1 hz1
  go_enter Try.func26, Try.ntmps26
  go_wp2_with (fail)
  refine wp_region_F (S := fun _ => True) 7 (by kernel_rfl) (by kernel_rfl) trivial (fun hHeld => ?_)
  refine GoF.take 0 (some 20) (v := ?_) rfl rfl (by kernel_rfl) (by kernel_rfl) (by kernel_rfl) (fun _ _ _ h => h) (Or.inl ⟨by rfl, ?_⟩) (by assumption) ?_
  rotate_left
  · intro w' hSw
    try dsimp only at hSw
    go_simp
    try with_reducible rfl
  try simp only [Act.put, List.setIfInBounds_toArray, List.set_cons_zero, List.set_cons_succ]
  refine GoF.take 1 (some 21) (v := ?_) rfl rfl (by kernel_rfl) (by kernel_rfl) (by kernel_rfl) (fun _ _ _ h => h) (Or.inl ⟨by rfl, ?_⟩) (by assumption) ?_
  rotate_left
  · intro w' hSw
    try dsimp only at hSw
    go_simp
    try with_reducible rfl
  try simp only [Act.put, List.setIfInBounds_toArray, List.set_cons_zero, List.set_cons_succ]
  refine GoF.take 2 (some 22) (v := ?_) rfl rfl (by kernel_rfl) (by kernel_rfl) (by kernel_rfl) (fun _ _ _ h => h) (Or.inl ⟨by rfl, ?_⟩) (by assumption) ?_
  rotate_left
  · intro w' hSw
    try dsimp only at hSw
    go_simp
    try with_reducible rfl
  try simp only [Act.put, List.setIfInBounds_toArray, List.set_cons_zero, List.set_cons_succ]
  refine GoF.take 3 (some 23) (v := ?_) rfl rfl (by kernel_rfl) (by kernel_rfl) (by kernel_rfl) (fun _ _ _ h => h) (Or.inl ⟨by rfl, ?_⟩) (by assumption) ?_
  rotate_left
  · intro w' hSw
    try dsimp only at hSw
    go_simp
    try with_reducible rfl
  try simp only [Act.put, List.setIfInBounds_toArray, List.set_cons_zero, List.set_cons_succ]
  refine GoF.take 4 (some 24) (v := ?_) rfl rfl (by kernel_rfl) (by kernel_rfl) (by kernel_rfl) (fun _ _ _ h => h) (Or.inl ⟨by rfl, ?_⟩) (by assumption) ?_
  rotate_left
  · intro w' hSw
    try dsimp only at hSw
    go_simp
    try with_reducible rfl
  try simp only [Act.put, List.setIfInBounds_toArray, List.set_cons_zero, List.set_cons_succ]
  refine GoF.take 5 (some 25) (v := ?_) rfl rfl (by kernel_rfl) (by kernel_rfl) (by kernel_rfl) (fun _ _ _ h => h) (Or.inl ⟨by rfl, ?_⟩) (by assumption) ?_
  rotate_left
  · intro w' hSw
    try dsimp only at hSw
    go_simp
    try with_reducible rfl
  try simp only [Act.put, List.setIfInBounds_toArray, List.set_cons_zero, List.set_cons_succ]
  refine GoF.each (rs := [6]) (by kernel_rfl) (by kernel_rfl) (by kernel_rfl) ?_
  refine EachF.cons (i := 6) rfl (fun K hK => ?_) EachF.nil
  refine step_append_roomN _ rfl (.tmp 22) (.tmp 25) 33 rfl 56 i0 Try.underlying33 hi0 g i c cur (by rfl) B0.out A (m - i) (c - (i + 1)) (xs.drop ((i + 1) * 3)) (by rfl) HL.out hsrc.out HD1.out (by omega) HF2.out ?_
  obtain ⟨cs2, hcs2⟩ : ∃ cs2, cs2 = (cur.toList.take (i * i0.size) ++ xs.drop ((i + 1) * 3) ++ cur.toList.drop (i * i0.size + (xs.drop ((i + 1) * 3)).length)).toArray := ⟨_, rfl⟩
  rw [← hcs2]
  rw [HS.out] at hcs2
  have B2 := hide (Blk.setRow (Blk.drew B0.out) cs2)
  have T2 := hide (Touch.trans (Touch.drew (Touch.refl w (fun k => k = g))) (touch_setRow w.drew g cs2) (fun _ _ e => e))
  obtain ⟨w2, hw2⟩ : ∃ w2, w2 = w.drew.setRow g cs2 := ⟨_, rfl⟩
  rw [← hw2] at T2 B2
  rw [← hw2]
  have HZL := hide (show z0.cells.toList.length = 3 by simpa using hzs0)
  obtain ⟨cs3, hcs3⟩ : ∃ cs3, cs3 = (cs2.toList.take (m * 3) ++ z0.cells.toList ++ cs2.toList.drop (m * 3 + z0.cells.toList.length)).toArray := ⟨_, rfl⟩
  have HLS := hide (del_list (i * 3) (m * 3) 3 (c * 3) xs z0.cells.toList cur cs2 cs3 (by rw [HLEN.out]; omega) HZL.out (by omega) (by omega) HCS.out (by rw [← HTK.out]; congr 1; omega) (show (i + 1) * 3 = i * 3 + 3 by omega) hcs2 hcs3)
  have B3 := hide (Blk.setRow B2.out cs3)
  have T3 := hide (Touch.trans T2.out (touch_setRow w2 g cs3) (fun _ _ e => e))
  have hcl0 : ∀ ty, (Builtin.clear_ #[33] ty #[.slice (some ⟨g, m * 3, none⟩) 1 (c - m)]).run Try.prog w2 = .ok (.tuple #[]) (w2.setRow g cs3) := fun ty => by
    rw [hcs3]
    exact run_clear_rowN w2 33 ty 56 56 i0 z0 Try.underlying33 hi0 hz0 g (m * 3) (c - m) cs2 B2.out (by rw [HLS.out.1, hzs0]; omega) HZ1.out
  obtain ⟨w3, hw3⟩ : ∃ w3, w3 = w2.setRow g cs3 := ⟨_, rfl⟩
  rw [← hw3] at B3 T3 hcl0
  clear hw2 hw3 hcs2 hcs3
  refine hK.out _ _ trivial (fun hHeld => ?_)
  change GoF _ _ _ _ _ _ _ _ (Act.put _ (some 26) _) _
  simp only [Act.put, List.setIfInBounds_toArray, List.set_cons_zero, List.set_cons_succ]
  refine GoF.last (by kernel_rfl) (by kernel_rfl) rfl (fun K hK => ?_)
  go_simp
  refine hK.out _ _ ?_
  clear hK K
  go_wp2_with (fail)
  go_ret
  exact ⟨rfl, ⟨by rw [List.length_append, List.length_take, List.length_drop, HLEN.out]; omega, .inr ⟨g, c, cs3, rfl, hbg, B3.out, by omega, HCM.out, HLS.out.2.1, HLS.out.2.2⟩⟩, T3.out⟩
end Go.Proofs.Ytaijgnhkdbdfcaa
