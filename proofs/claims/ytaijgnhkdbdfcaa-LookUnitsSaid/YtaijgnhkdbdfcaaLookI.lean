/- Look: whether a row may be; a row's cell. -/
import Derived.Test.YtaijgnhkdbdfcaaLookH
import Derived.Deep.Onto
namespace Go.Proofs.Ytaijgnhkdbdfcaa
open Go.ChangeShapes Go.WideShapes Go.ChangeAt Go.RowKit
set_option linter.unusedVariables false

theorem may_any (w : World) (k s v : List UInt8) (hk : 1 ≤ k.length ∧ k.length ≤ 8) (hs : s.length ≤ 6) (hv : v.length ≤ 8) :
    Calls Try.prog 32 #[.agg #[.string ⟨k.toArray⟩, .string ⟨s.toArray⟩, .string ⟨v.toArray⟩]] w fun e w' => e = .returned (.bool true) ∧ Ext w w' := by
  have e0 : (⟨k.toArray⟩ : ByteArray).size = k.length := str_size k
  have e1 : (⟨s.toArray⟩ : ByteArray).size = s.length := str_size s
  have e2 : (⟨v.toArray⟩ : ByteArray).size = v.length := str_size v
  have d0 : decide ((1 : Int) ≤ (k.length : Int)) = true := decide_eq_true (by omega)
  have d1 : decide ((k.length : Int) ≤ 8) = true := decide_eq_true (by omega)
  have d2 : decide ((s.length : Int) ≤ 6) = true := decide_eq_true (by omega)
  have d3 : decide ((v.length : Int) ≤ 8) = true := decide_eq_true (by omega)
  have f0 : decide (1 ≤ k.length) = true := decide_eq_true hk.1
  have f1 : decide (k.length ≤ 8) = true := decide_eq_true hk.2
  have f2 : decide (s.length ≤ 6) = true := decide_eq_true hs
  have f3 : decide (v.length ≤ 8) = true := decide_eq_true hv
  clear hk hs hv
  go_enter Try.func32, Try.ntmps32
  go_wp2_with (fail)
  go_ret
  exact ⟨rfl, Ext.new w _⟩
/-- a row's cell -/
def rowL (k s v : List UInt8) : List UInt8 := 1 :: (padL k 8 ++ padL s 6 ++ padL v 8)
theorem rowL_len {k s v : List UInt8} (hk : k.length ≤ 8) (hs : s.length ≤ 6) (hv : v.length ≤ 8) : (rowL k s v).length = 26 := by
  simp [rowL, padL_len hk, padL_len hs, padL_len hv]
/-- a row's cell in new memory -/
def GivesRow (w : World) (L : List UInt8) (e : Ending) (w' : World) : Prop := ∃ A c, e = .returned (.tuple #[.slice A L.length c, .int .i64 0]) ∧ w'.ownsRow w.heap.size 5 1 (.slice A L.length c) L.length (bv L) ∧ Ext w w'
set_option maxRecDepth 100000 in
set_option maxHeartbeats 4000000 in
theorem row_any (w : World) (k s v : List UInt8) (hk : 1 ≤ k.length ∧ k.length ≤ 8) (hs : s.length ≤ 6) (hv : v.length ≤ 8) :
    Calls Try.prog 18 #[.agg #[.string ⟨k.toArray⟩, .string ⟨s.toArray⟩, .string ⟨v.toArray⟩]] w (GivesRow w (rowL k s v)) := by
  obtain ⟨i0, hi0, hz0, hz1, hz2⟩ := info_parts Try.info5'
  have HK := hide hk
  have HSS := hide hs
  have HV := hide hv
  have X1 := hide (Ext.new w (.cells #[.string ⟨k.toArray⟩, .string ⟨s.toArray⟩, .string ⟨v.toArray⟩] 66))
  have B1 := hide (Blk.new w 66 #[.string ⟨k.toArray⟩, .string ⟨s.toArray⟩, .string ⟨v.toArray⟩])
  clear hk hs hv
  go_enter Try.func18, Try.ntmps18
  go_upto_region 3 with (go_at_call 32; refine (may_any _ k s v HK.out HSS.out HV.out).mono ?_; rintro e w2 ⟨rfl, hx2⟩; have X2 := hide hx2; clear hx2)
  have B2 := hide (X2.out.blk B1.out)
  have H2 := hide (X1.out.trans X2.out)
  obtain ⟨y0, y1, y2⟩ := B2.out.cells3
  have O0 := hide (own_blk (n := 1) (Blk.new w2 5 #[.int .u8 1]) (Nat.le_refl _) rfl (by omega))
  have XA := hide ((Ext.new w2 (.cells #[.int .u8 1] 5)).blk B2.out)
  obtain ⟨q0, q1, q2⟩ := XA.out.cells3
  have ek : (padL k 8).length = 9 := padL_len HK.out.2
  have es : (padL s 6).length = 7 := padL_len HSS.out
  have ev : (padL v 8).length = 9 := padL_len HV.out
  have EL := hide (And.intro ek (And.intro es ev))
  clear ek es ev
  go_upto_region 4 with (first
    | (go_at_call 33; refine (pad_any _ k 8 HK.out.2 (by decide)).mono ?_; rintro e w3 ⟨A3, c3, rfl, ho3, hx3⟩; have X3 := hide ((Ext.new w2 (.cells #[.int .u8 1] 5)).trans hx3); have O3 := hide ho3; have P3 := hide (Ext.own hx3 O0.out); clear ho3 hx3)
    | (at_builtin; refine wpList_append_any _ rfl (.tmp 8) (.tmp 11) _ rfl w2.heap.size 5 i0 _ 1 1 Try.underlying29 hi0 hz0 hz1 hz2 rfl (by omega) (.slice (some ⟨w2.heap.size, 0, none⟩) 1 1) 1 [.int .u8 1] rfl P3.out w3.heap.size A3 (padL k 8).length c3 (bv (padL k 8)) rfl (Reads.of_own O3.out) (bv_one _) (by simp only [maxLen]; have := EL.out; omega) (by have := EL.out; omega) X3.out.size ?_; intro v4 w4 ho4 hg4 hat4; rw [EL.out.1] at ho4; have X4 := hide (Ext.grown X3.out hg4 (fun z hz => (P3.out.lt z hz).1)); obtain ⟨A4, c4, hv4, _⟩ := own_form ho4; subst hv4; have O4 := hide ho4; clear ho4 hg4 hat4))
  have HS := hide (show ∀ w' : World, Ext w2 w' → w'.cell? ⟨w.heap.size, 1, none⟩ = some (.string ⟨s.toArray⟩) ∧ w'.cell? ⟨w.heap.size, 2, none⟩ = some (.string ⟨v.toArray⟩) from fun w' h => ⟨(h.blk B2.out).cell 1, (h.blk B2.out).cell 2⟩)
  clear y0 y1 y2 q0 q1 q2
  refine wp_region_F (S := (fun w' => w'.cell? ⟨w.heap.size, 1, none⟩ = some (.string ⟨s.toArray⟩) ∧ w'.cell? ⟨w.heap.size, 2, none⟩ = some (.string ⟨v.toArray⟩))) 10 (by kernel_rfl) (by kernel_rfl) (HS.out _ (Ext.drew X4.out)) (fun hHeld => ?_)
  refine GoF.take 0 (some 13) (v := ?_) rfl rfl (by kernel_rfl) (by kernel_rfl) (by kernel_rfl) (fun _ _ _ h => h) (Or.inl ⟨by rfl, ?_⟩) (by assumption) ?_
  rotate_left
  · intro w' hSw
    try dsimp only at hSw
    go_simp
    try with_reducible rfl
  try simp only [Act.put, List.setIfInBounds_toArray, List.set_cons_zero, List.set_cons_succ]
  refine GoF.take 1 (some 14) (v := ?_) rfl rfl (by kernel_rfl) (by kernel_rfl) (by kernel_rfl) (fun _ _ _ h => h) (Or.inl ⟨by rfl, ?_⟩) (by assumption) ?_
  rotate_left
  · intro w' hSw
    try dsimp only at hSw
    go_simp
    try with_reducible rfl
  try simp only [Act.put, List.setIfInBounds_toArray, List.set_cons_zero, List.set_cons_succ]
  refine GoF.take 2 (some 15) (v := ?_) rfl rfl (by kernel_rfl) (by kernel_rfl) (by kernel_rfl) (fun _ _ _ h => h) (Or.inl ⟨by rfl, ?_⟩) (by assumption) ?_
  rotate_left
  · intro w' hSw
    try dsimp only at hSw
    go_simp
    try with_reducible rfl
  try simp only [Act.put, List.setIfInBounds_toArray, List.set_cons_zero, List.set_cons_succ]
  refine GoF.take 5 (some 18) (v := ?_) rfl rfl (by kernel_rfl) (by kernel_rfl) (by kernel_rfl) (fun _ _ _ h => h) (Or.inl ⟨by rfl, ?_⟩) (by assumption) ?_
  rotate_left
  · intro w' hSw
    try dsimp only at hSw
    go_simp
    try with_reducible rfl
  try simp only [Act.put, List.setIfInBounds_toArray, List.set_cons_zero, List.set_cons_succ]
  refine GoF.take 6 (some 19) (v := ?_) rfl rfl (by kernel_rfl) (by kernel_rfl) (by kernel_rfl) (fun _ _ _ h => h) (Or.inl ⟨by rfl, ?_⟩) (by assumption) ?_
  rotate_left
  · intro w' hSw
    try dsimp only at hSw
    go_simp
    try with_reducible rfl
  try simp only [Act.put, List.setIfInBounds_toArray, List.set_cons_zero, List.set_cons_succ]
  refine GoF.each (rs := [3]) (by kernel_rfl) (by kernel_rfl) (by kernel_rfl) ?_
  refine EachF.cons (i := 3) rfl (fun K hK => ?_) EachF.nil
  go_simp
  refine (pad_any _ s 6 HSS.out (by decide)).mono ?_
  rintro e w5 ⟨A5, c5, rfl, ho5, hx5⟩
  rw [EL.out.2.1] at ho5
  simp only [EL.out.2.1]
  have X5 := hide (Ext.trans (Ext.drew X4.out) hx5)
  have P5 := hide (Ext.own ((Ext.refl w4).drew.trans hx5) O4.out)
  have O5 := hide ho5
  clear ho5 hx5
  try go_simp
  refine hK.out _ _ (HS.out _ X5.out) (fun hHeld => ?_)
  clear hK K
  try simp only [Act.put, List.setIfInBounds_toArray, List.set_cons_zero, List.set_cons_succ]
  refine GoF.each (rs := [4]) (by kernel_rfl) (by kernel_rfl) (by kernel_rfl) ?_
  refine EachF.cons (i := 4) rfl (fun K hK => ?_) EachF.nil
  refine step_append_any _ rfl (.tmp 13) (.tmp 16) _ rfl w2.heap.size 5 i0 _ 1 1 Try.underlying29 hi0 hz0 hz1 hz2 rfl (by omega) _ (1 + 9) _ rfl P5.out _ A5 7 c5 (bv (padL s 6)) rfl (Reads.of_own O5.out) (bv_one _) (by simp only [maxLen]; omega) (by omega) X5.out.size ?_
  intro v6 w6 ho6 hg6 hat6
  have X6 := hide (Ext.grown X5.out hg6 (fun z hz => (P5.out.lt z hz).1))
  obtain ⟨A6, c6, hv6, _⟩ := own_form ho6
  subst hv6
  have O6 := hide ho6
  clear ho6 hg6 hat6
  refine hK.out _ _ (HS.out _ X6.out) (fun hHeld => ?_)
  clear hK K
  change GoF _ _ _ _ _ _ _ _ (Act.put _ (some 17) _) _
  simp only [Act.put, List.setIfInBounds_toArray, List.set_cons_zero, List.set_cons_succ]
  refine GoF.each (rs := [7]) (by kernel_rfl) (by kernel_rfl) (by kernel_rfl) ?_
  refine EachF.cons (i := 7) rfl (fun K hK => ?_) EachF.nil
  go_simp
  refine (pad_any _ v 8 HV.out (by decide)).mono ?_
  rintro e w7 ⟨A7, c7, rfl, ho7, hx7⟩
  rw [EL.out.2.2] at ho7
  simp only [EL.out.2.2]
  have X7 := hide (Ext.trans X6.out hx7)
  have P7 := hide (Ext.own (id hx7) O6.out)
  have O7 := hide ho7
  clear ho7 hx7
  try go_simp
  refine hK.out _ _ (HS.out _ X7.out) (fun hHeld => ?_)
  clear hK K
  try simp only [Act.put, List.setIfInBounds_toArray, List.set_cons_zero, List.set_cons_succ]
  refine GoF.each (rs := [8]) (by kernel_rfl) (by kernel_rfl) (by kernel_rfl) ?_
  refine EachF.cons (i := 8) rfl (fun K hK => ?_) EachF.nil
  refine step_append_any _ rfl (.tmp 17) (.tmp 20) _ rfl w2.heap.size 5 i0 _ 1 1 Try.underlying29 hi0 hz0 hz1 hz2 rfl (by omega) _ (1 + 9 + 7) _ rfl P7.out _ A7 9 c7 (bv (padL v 8)) rfl (Reads.of_own O7.out) (bv_one _) (by simp only [maxLen]; omega) (by omega) X7.out.size ?_
  intro v8 w8 ho8 hg8 hat8
  have X8 := hide (Ext.grown X7.out hg8 (fun z hz => (P7.out.lt z hz).1))
  obtain ⟨A8, c8, hv8, _⟩ := own_form ho8
  subst hv8
  have O8 := hide ho8
  clear ho8 hg8 hat8
  refine hK.out _ _ (HS.out _ X8.out) (fun hHeld => ?_)
  clear hK K
  change GoF _ _ _ _ _ _ _ _ (Act.put _ (some 21) _) _
  simp only [Act.put, List.setIfInBounds_toArray, List.set_cons_zero, List.set_cons_succ]
  refine GoF.take 9 (some 2) (v := ?_) rfl rfl (by kernel_rfl) (by kernel_rfl) (by kernel_rfl) (fun _ _ _ h => h) (Or.inl ⟨by rfl, ?_⟩) (by assumption) ?_
  rotate_left
  · intro w' hSw
    try dsimp only at hSw
    go_simp
    try with_reducible rfl
  try simp only [Act.put, List.setIfInBounds_toArray, List.set_cons_zero, List.set_cons_succ]
  refine GoF.last (by kernel_rfl) (by kernel_rfl) rfl (fun K hK => ?_)
  go_simp
  refine hK.out _ _ ?_
  clear hK K hHeld
  go_wp2_with (fail)
  have el : (rowL k s v).length = 1 + 9 + 7 + 9 := rowL_len HK.out.2 HSS.out HV.out
  have ec : bv (rowL k s v) = [Value.int .u8 1] ++ bv (padL k 8) ++ bv (padL s 6) ++ bv (padL v 8) := by simp [rowL, bv]
  have hg : GivesRow w (rowL k s v) (.returned (.tuple #[.slice A8 (1 + 9 + 7 + 9) c8, .int .i64 0])) w8 := by
    unfold GivesRow
    rw [el, ec]
    exact ⟨A8, c8, rfl, World.ownsRow.mono O8.out H2.out.size, H2.out.trans X8.out⟩
  exact bodyPost_ret (v := .tuple #[.slice A8 (1 + 9 + 7 + 9) c8, .int .i64 0]) (by simp [results, Try.results18, go_sem]) rfl hg
end Go.Proofs.Ytaijgnhkdbdfcaa
