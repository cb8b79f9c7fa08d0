/- Redo: the document's reading of a cell. -/
import Derived.Test.YtaagdjipjeindaaRedoV
namespace Go.Proofs.Ytaagdjipjeindaa
open Go.ChangeShapes Go.WideShapes Go.ChangeAt Go.RowKit
set_option linter.unusedVariables false

theorem cut_reads {w : World} {B bk off n c k : Nat} {l : List UInt8} (h : Reads w B 1 (some ⟨bk, off, none⟩) n (bv l)) (hk : k ≤ n) (hc : k < c) (hn : n ≤ c) : Reads w B 1 (some ⟨bk, off + k, none⟩) (n - k) (bv (l.drop k)) := by
  have h2 := h.cut (k := k) (cap := c) hk hn
  rw [if_neg (by omega), Option.map_some] at h2
  have e1 : (⟨bk, off, none⟩ : Addr).add (k * 1) = ⟨bk, off + k, none⟩ := by unfold Addr.add; split <;> simp_all
  have e2 : (bv l).drop (k * 1) = bv (l.drop k) := by simp [bv, List.map_drop]
  rw [e1, e2] at h2
  exact h2
/-- what Read tells: a kind, a key, a place -/
def GivesR (w : World) (k : Int) (key : List UInt8) (p q : Int) (e : Ending) (w' : World) : Prop :=
  e = .returned (.tuple #[.int .i64 k, .agg #[.string ⟨key.toArray⟩, .string ⟨#[]⟩, .string ⟨#[]⟩], .agg #[.int .i64 p, .int .i64 q], .int .i64 0]) ∧ Ext w w'
theorem read_begin (w : World) : ∃ w2, w2 = (w.alloc (.cells #[.string ⟨#[]⟩, .string ⟨#[]⟩, .string ⟨#[]⟩] 52)).alloc (.cells #[.int .i64 0, .int .i64 0] 25) ∧ Ext w w2 ∧ Blk w2 w.heap.size 52 #[.string ⟨#[]⟩, .string ⟨#[]⟩, .string ⟨#[]⟩] ∧ Blk w2 (w.heap.size + 1) 25 #[.int .i64 0, .int .i64 0] :=
  ⟨_, rfl, ((Ext.refl w).alloc _).alloc _, (Blk.new w 52 _).alloc _, blk_new1 w _ 25 _⟩
set_option maxRecDepth 100000 in
set_option maxHeartbeats 4000000 in
theorem read_nil (w : World) (A : Option Addr) (c : Nat) : Calls Try.prog 16 #[.slice A 0 c] w (GivesR w 0 [] 0 0) := by
  obtain ⟨w2, hw2, hx2, hr2, ht2⟩ := read_begin w
  have X2 := hide hx2
  have BR := hide hr2
  have BT := hide ht2
  have HW := hide hw2
  clear hx2 hr2 ht2 hw2
  go_enter Try.func16, Try.ntmps16
  go_upto_region 1 with (fail)
  rw [← HW.out]
  obtain ⟨rb, hrb⟩ : ∃ rb, rb = w.heap.size := ⟨_, rfl⟩
  obtain ⟨tb, htb⟩ : ∃ tb, tb = w.heap.size + 1 := ⟨_, rfl⟩
  have HB := hide (show rb ≠ tb ∧ w.heap.size ≤ rb ∧ w.heap.size ≤ tb by omega)
  rw [← htb, ← hrb]
  rw [← htb] at BT
  rw [← hrb] at BR
  clear htb hrb HW
  refine wp_region_F (S := fun _ => True) 9 (by kernel_rfl) (by kernel_rfl) trivial (fun hHeld => ?_)
  refine GoF.take 0 (some 15) (v := ?_) rfl rfl (by kernel_rfl) (by kernel_rfl) (by kernel_rfl) (fun _ _ _ h => h) (Or.inl ⟨by rfl, ?_⟩) (by assumption) ?_
  rotate_left
  · intro w' hSw
    try dsimp only at hSw
    go_simp
    try with_reducible rfl
  try simp only [Act.put, List.setIfInBounds_toArray, List.set_cons_zero, List.set_cons_succ]
  refine GoF.take 1 (some 16) (v := ?_) rfl rfl (by kernel_rfl) (by kernel_rfl) (by kernel_rfl) (fun _ _ _ h => h) (Or.inl ⟨by rfl, ?_⟩) (by assumption) ?_
  rotate_left
  · intro w' hSw
    try dsimp only at hSw
    go_simp
    try with_reducible rfl
  try simp only [Act.put, List.setIfInBounds_toArray, List.set_cons_zero, List.set_cons_succ]
  refine GoF.take 2 (some 17) (v := ?_) rfl rfl (by kernel_rfl) (by kernel_rfl) (by kernel_rfl) (fun _ _ _ h => h) (Or.inl ⟨by rfl, ?_⟩) (by assumption) ?_
  rotate_left
  · intro w' hSw
    try dsimp only at hSw
    go_simp
    try with_reducible rfl
  try simp only [Act.put, List.setIfInBounds_toArray, List.set_cons_zero, List.set_cons_succ]
  refine GoF.take 3 (some 18) (v := ?_) rfl rfl (by kernel_rfl) (by kernel_rfl) (by kernel_rfl) (fun _ _ _ h => h) (Or.inl ⟨by rfl, ?_⟩) (by assumption) ?_
  rotate_left
  · intro w' hSw
    try dsimp only at hSw
    go_simp
    try with_reducible rfl
  try simp only [Act.put, List.setIfInBounds_toArray, List.set_cons_zero, List.set_cons_succ]
  refine GoF.take 4 (some 19) (v := undef) rfl rfl (by kernel_rfl) (by kernel_rfl) (by kernel_rfl) (fun _ _ _ h => h) (Or.inr ⟨by rfl, rfl⟩) (by assumption) ?_
  try simp only [Act.put, List.setIfInBounds_toArray, List.set_cons_zero, List.set_cons_succ]
  refine GoF.take 5 (some 20) (v := undef) rfl rfl (by kernel_rfl) (by kernel_rfl) (by kernel_rfl) (fun _ _ _ h => h) (Or.inr ⟨by rfl, rfl⟩) (by assumption) ?_
  try simp only [Act.put, List.setIfInBounds_toArray, List.set_cons_zero, List.set_cons_succ]
  refine GoF.each (rs := [6]) (by kernel_rfl) (by kernel_rfl) (by kernel_rfl) ?_
  refine EachF.cons (i := 6) rfl (fun K hK => ?_) EachF.nil
  go_simp
  refine hK.out _ _ trivial (fun hHeld => ?_)
  clear hK K
  try simp only [Act.put, List.setIfInBounds_toArray, List.set_cons_zero, List.set_cons_succ]
  refine GoF.take 7 (some 22) (v := undef) rfl rfl (by kernel_rfl) (by kernel_rfl) (by kernel_rfl) (fun _ _ _ h => h) (Or.inr ⟨by rfl, rfl⟩) (by assumption) ?_
  try simp only [Act.put, List.setIfInBounds_toArray, List.set_cons_zero, List.set_cons_succ]
  refine GoF.take 8 (some 23) (v := undef) rfl rfl (by kernel_rfl) (by kernel_rfl) (by kernel_rfl) (fun _ _ _ h => h) (Or.inr ⟨by rfl, rfl⟩) (by assumption) ?_
  try simp only [Act.put, List.setIfInBounds_toArray, List.set_cons_zero, List.set_cons_succ]
  refine GoF.last (by kernel_rfl) (by kernel_rfl) rfl (fun K hK => ?_)
  go_simp
  refine hK.out _ _ ?_
  clear hK K hHeld
  obtain ⟨wz, hwz⟩ : ∃ wz, wz = w2.drew := ⟨_, rfl⟩
  have XZ := hide (show Ext w2 wz by rw [hwz]; exact (Ext.refl w2).drew)
  rw [← hwz]
  clear hwz
  have BRZ := hide (XZ.out.blk BR.out)
  have BTZ := hide (XZ.out.blk BT.out)
  obtain ⟨y0, y1, y2⟩ := BRZ.out.cells3
  obtain ⟨x0, x1⟩ := BTZ.out.cells2
  have f0 := BRZ.out.frozen 0
  have f1 := BRZ.out.frozen 1
  have f2 := BRZ.out.frozen 2
  have e0 := BTZ.out.frozen 0
  have e1 := BTZ.out.frozen 1
  have hne := HB.out.1
  go_wp2_with (fail)
  exact bodyPost_ret (v := .tuple #[.int .i64 0, .agg #[.string ⟨(([] : List UInt8)).toArray⟩, .string ⟨#[]⟩, .string ⟨#[]⟩], .agg #[.int .i64 0, .int .i64 0], .int .i64 0]) (by simp [results, Try.results16, go_sem, y0, y1, y2, x0, x1]) rfl ⟨rfl, Ext.set_ (p := ⟨tb, 1, none⟩) (Ext.set_ (p := ⟨tb, 0, none⟩) (Ext.set_ (p := ⟨rb, 2, none⟩) (Ext.set_ (p := ⟨rb, 1, none⟩) (Ext.set_ (p := ⟨rb, 0, none⟩) (X2.out.trans XZ.out) HB.out.2.1 _) HB.out.2.1 _) HB.out.2.1 _) HB.out.2.2 _) HB.out.2.2 _⟩
set_option maxRecDepth 100000 in
set_option maxHeartbeats 8000000 in
theorem read_row (w : World) (A : Option Addr) (c N m : Nat) (hb : BB w (.slice A N c) (rowL (ltL m) [] [])) (hN : N = 26) : Calls Try.prog 16 #[.slice A N c] w (GivesR w 1 (ltL m) 0 0) := by
  obtain ⟨w2, hw2, hx2, hr2, ht2⟩ := read_begin w
  obtain ⟨A', c', e, ⟨hA, hc⟩, hr⟩ := hb
  injection e with e1 e2 e3
  subst e1 e3
  obtain ⟨l, hl⟩ : ∃ l, l = rowL (ltL m) [] [] := ⟨_, rfl⟩
  have hlen : l.length = 26 := by rw [hl]; exact rowL_len (by simp [ltL]) (by simp) (by simp)
  rw [← hl] at hr hc
  have HL := hide hl
  have HLEN := hide hlen
  rw [hlen] at hr hc
  subst hN
  clear e2
  have HR := hide (hx2.read hr)
  have HX := hide hx2
  have BR := hide hr2
  have BT := hide ht2
  have HW := hide hw2
  have HC := hide hc
  clear hx2 hr2 ht2 hw2 hl hlen hr hA
  have d0 : ((26 : Int) == 0) = false := rfl
  have hnz : (l == ([0, 0, 0, 0, 0, 0, 0, 0, 0, 0, 0, 0, 0, 0, 0, 0, 0, 0, 0, 0, 0, 0, 0, 0, 0, 0] : List UInt8)) = false := by rw [HL.out]; rfl
  go_enter Try.func16, Try.ntmps16
  go_upto_region 1 with (fail)
  rw [← HW.out]
  obtain ⟨rb, hrb⟩ : ∃ rb, rb = w.heap.size := ⟨_, rfl⟩
  obtain ⟨tb, htb⟩ : ∃ tb, tb = w.heap.size + 1 := ⟨_, rfl⟩
  have HB := hide (show rb ≠ tb ∧ w.heap.size ≤ rb ∧ w.heap.size ≤ tb by omega)
  rw [← htb, ← hrb]
  rw [← htb] at BT
  rw [← hrb] at BR
  clear htb hrb HW
  have HS := hide (show ∀ w' : World, Ext w2 w' → (convert 22 9 (.slice A 26 c)).run Try.prog w' = .ok (.string ⟨l.toArray⟩) w' from fun w' hx => run_string_of_reads 22 9 5 c Try.underlying22 Try.underlying5 Try.underlying9 (hx.read HR.out))
  refine wp_region_F (S := (fun w' => (convert 22 9 (.slice A 26 c)).run Try.prog w' = .ok (.string ⟨l.toArray⟩) w')) 9 (by kernel_rfl) (by kernel_rfl) (HS.out _ (Ext.drew (Ext.refl w2))) (fun hHeld => ?_)
  refine GoF.take 0 (some 15) (v := ?_) rfl rfl (by kernel_rfl) (by kernel_rfl) (by kernel_rfl) (fun _ _ _ h => h) (Or.inl ⟨by rfl, ?_⟩) (by assumption) ?_
  rotate_left
  · intro w' hSw
    try dsimp only at hSw
    go_simp
    try with_reducible rfl
  try simp only [Act.put, List.setIfInBounds_toArray, List.set_cons_zero, List.set_cons_succ]
  refine GoF.take 1 (some 16) (v := ?_) rfl rfl (by kernel_rfl) (by kernel_rfl) (by kernel_rfl) (fun _ _ _ h => h) (Or.inl ⟨by rfl, ?_⟩) (by assumption) ?_
  rotate_left
  · intro w' hSw
    try dsimp only at hSw
    go_simp
    try with_reducible rfl
  try simp only [Act.put, List.setIfInBounds_toArray, List.set_cons_zero, List.set_cons_succ]
  refine GoF.take 2 (some 17) (v := ?_) rfl rfl (by kernel_rfl) (by kernel_rfl) (by kernel_rfl) (fun _ _ _ h => h) (Or.inl ⟨by rfl, ?_⟩) (by assumption) ?_
  rotate_left
  · intro w' hSw
    try dsimp only at hSw
    go_simp
    try with_reducible rfl
  try simp only [Act.put, List.setIfInBounds_toArray, List.set_cons_zero, List.set_cons_succ]
  refine GoF.take 3 (some 18) (v := ?_) rfl rfl (by kernel_rfl) (by kernel_rfl) (by kernel_rfl) (fun _ _ _ h => h) (Or.inl ⟨by rfl, ?_⟩) (by assumption) ?_
  rotate_left
  · intro w' hSw
    try dsimp only at hSw
    go_simp
    try with_reducible rfl
  try simp only [Act.put, List.setIfInBounds_toArray, List.set_cons_zero, List.set_cons_succ]
  refine GoF.take 4 (some 19) (v := ?_) rfl rfl (by kernel_rfl) (by kernel_rfl) (by kernel_rfl) (fun _ _ _ h => h) (Or.inl ⟨by rfl, ?_⟩) (by assumption) ?_
  rotate_left
  · intro w' hSw
    try dsimp only at hSw
    go_simp
    try with_reducible rfl
  try simp only [Act.put, List.setIfInBounds_toArray, List.set_cons_zero, List.set_cons_succ]
  refine GoF.take 5 (some 20) (v := ?_) rfl rfl (by kernel_rfl) (by kernel_rfl) (by kernel_rfl) (fun _ _ _ h => h) (Or.inl ⟨by rfl, ?_⟩) (by assumption) ?_
  rotate_left
  · intro w' hSw
    try dsimp only at hSw
    go_simp
    try with_reducible rfl
  try simp only [Act.put, List.setIfInBounds_toArray, List.set_cons_zero, List.set_cons_succ]
  refine GoF.each (rs := [6]) (by kernel_rfl) (by kernel_rfl) (by kernel_rfl) ?_
  refine EachF.cons (i := 6) rfl (fun K hK => ?_) EachF.nil
  have hmk := mk26 w2.drew
  go_simp
  refine hK.out _ _ (HS.out _ (Ext.alloc (Ext.drew (Ext.refl w2)) _)) (fun hHeld => ?_)
  clear hK K hmk
  try simp only [Act.put, List.setIfInBounds_toArray, List.set_cons_zero, List.set_cons_succ]
  refine GoF.each (rs := [7]) (by kernel_rfl) (by kernel_rfl) (by kernel_rfl) ?_
  refine EachF.cons (i := 7) rfl (fun K hK => ?_) EachF.nil
  have kc : (convert 22 9 (.slice (some ⟨w2.heap.size, 0, none⟩) 26 26)).run Try.prog ((w2.alloc (.cells z26 5)).drew) = .ok (.string ⟨(List.replicate 26 (0 : UInt8)).toArray⟩) ((w2.alloc (.cells z26 5)).drew) := run_string_of_reads 22 9 5 26 Try.underlying22 Try.underlying5 Try.underlying9 (by have h := reads_row (Blk.new w2 5 z26).drew; rw [z26_bv] at h; exact h)
  go_simp
  refine hK.out _ _ (HS.out _ (Ext.drew (Ext.alloc (Ext.refl w2) _))) (fun hHeld => ?_)
  clear hK K kc
  try simp only [Act.put, List.setIfInBounds_toArray, List.set_cons_zero, List.set_cons_succ]
  refine GoF.take 8 (some 23) (v := ?_) rfl rfl (by kernel_rfl) (by kernel_rfl) (by kernel_rfl) (fun _ _ _ h => h) (Or.inl ⟨by rfl, ?_⟩) (by assumption) ?_
  rotate_left
  · intro w' hSw
    try dsimp only at hSw
    go_simp
    try with_reducible rfl
  try simp only [Act.put, List.setIfInBounds_toArray, List.set_cons_zero, List.set_cons_succ]
  refine GoF.last (by kernel_rfl) (by kernel_rfl) rfl (fun K hK => ?_)
  go_simp
  refine hK.out _ _ ?_
  clear hK K hHeld
  obtain ⟨wz, hwz⟩ : ∃ wz, wz = (w2.alloc (.cells z26 5)).drew := ⟨_, rfl⟩
  have XZ := hide (show Ext w2 wz by rw [hwz]; exact Ext.drew (Ext.alloc (Ext.refl w2) _))
  rw [← hwz]
  clear hwz
  have BRZ := hide (XZ.out.blk BR.out)
  have BTZ := hide (XZ.out.blk BT.out)
  have RZ := hide (XZ.out.read HR.out)
  obtain ⟨bk, off, hAe, hbw, hcell⟩ := RZ.out.plain (by omega) (by omega)
  subst hAe
  have g0 := hcell 0 (.int .u8 1) (by rw [HL.out]; rfl)
  rw [Nat.add_zero] at g0
  have hc26 := HC.out
  have t8 := hide (text_any _ (c - 1) 25 8 _ (l.drop 1) (ltL m) (padL [] 6 ++ padL [] 8) wz (cut_reads (k := 1) RZ.out (by omega) (by omega) hc26) (by rw [List.length_drop, HLEN.out]) (by omega) (by rw [HL.out]; rfl) (by simp [ltL]) (by omega) (by omega))
  have t6 := hide (text_any _ (c - 10) 16 6 _ (l.drop 10) [] (padL [] 8) wz (cut_reads (k := 10) RZ.out (by omega) (by omega) hc26) (by rw [List.length_drop, HLEN.out]) (by omega) (by rw [HL.out]; rfl) (by simp) (by omega) (by omega))
  have t9 := hide (text_any _ (c - 17) 9 8 _ (l.drop 17) [] [] wz (cut_reads (k := 17) RZ.out (by omega) (by omega) hc26) (by rw [List.length_drop, HLEN.out]) (by omega) (by rw [HL.out]; rfl) (by simp) (by omega) (by omega))
  clear hcell
  go_upto_region 8 with (go_at_call 31; refine t8.out.mono ?_; rintro e wx ⟨rfl, rfl⟩)
  go_upto_region 9 with (go_at_call 31; refine t6.out.mono ?_; rintro e wx ⟨rfl, rfl⟩)
  go_upto_region 10 with (go_at_call 31; refine t9.out.mono ?_; rintro e wx ⟨rfl, rfl⟩)
  have hsz : (⟨(ltL m).toArray⟩ : ByteArray).size = 1 := rfl
  obtain ⟨y0, y1, y2⟩ := BRZ.out.cells3
  obtain ⟨x0, x1⟩ := BTZ.out.cells2
  have f0 := BRZ.out.frozen 0
  have f1 := BRZ.out.frozen 1
  have f2 := BRZ.out.frozen 2
  have e0 := BTZ.out.frozen 0
  have e1 := BTZ.out.frozen 1
  have hne := HB.out.1
  go_wp2_with (fail)
  exact bodyPost_ret (v := .tuple #[.int .i64 1, .agg #[.string ⟨(ltL m).toArray⟩, .string ⟨#[]⟩, .string ⟨#[]⟩], .agg #[.int .i64 0, .int .i64 0], .int .i64 0]) (by simp [results, Try.results16, go_sem, y0, y1, y2, x0, x1]) rfl ⟨rfl, Ext.set_ (p := ⟨tb, 1, none⟩) (Ext.set_ (p := ⟨tb, 0, none⟩) (Ext.set_ (p := ⟨rb, 2, none⟩) (Ext.set_ (p := ⟨rb, 1, none⟩) (Ext.set_ (p := ⟨rb, 0, none⟩) (HX.out.trans XZ.out) HB.out.2.1 _) HB.out.2.1 _) HB.out.2.1 _) HB.out.2.2 _) HB.out.2.2 _⟩
theorem rstub_in (w : World) (p k : Nat) (hp : p < 32) (hk : k < 4) : Calls Try.prog 17 #[.agg #[.int .i64 (p : Int), .int .i64 (k : Int)]] w fun e w' => ∃ A c, e = .returned (.tuple #[.slice A 26 c, .int .i64 0]) ∧ Reads w' w'.heap.size 1 A 26 (bv (stubL p k)) ∧ Ext w w' := by
  refine (rstub_any w p k).mono ?_
  rintro e w' ⟨hx, ⟨hn, _⟩ | ⟨_, v, rfl, hb⟩⟩
  · exact absurd ⟨by omega, by omega, by omega, by omega⟩ hn
  · obtain ⟨A, c, rfl, _, hr⟩ := hb
    have e1 : (stubL (p : Int).toNat (k : Int).toNat).length = 26 := by simp [stubL]
    rw [e1] at hr ⊢
    exact ⟨A, c, rfl, hr, hx⟩
set_option maxRecDepth 100000 in
set_option maxHeartbeats 8000000 in
theorem read_stub (w : World) (A : Option Addr) (c N p k : Nat) (hp : p < 32) (hk : k < 4) (hb : BB w (.slice A N c) (stubL p k)) (hN : N = 26) : Calls Try.prog 16 #[.slice A N c] w (GivesR w 2 [] p k) := by
  obtain ⟨w2, hw2, hx2, hr2, ht2⟩ := read_begin w
  obtain ⟨A', c', e, ⟨hA, hc⟩, hr⟩ := hb
  injection e with e1 e2 e3
  subst e1 e3
  obtain ⟨l, hl⟩ : ∃ l, l = stubL p k := ⟨_, rfl⟩
  have hlen : l.length = 26 := by rw [hl]; simp [stubL]
  rw [← hl] at hr hc
  have HL := hide hl
  have HLEN := hide hlen
  rw [hlen] at hr hc
  subst hN
  clear e2
  have HR := hide (hx2.read hr)
  have HX := hide hx2
  have BR := hide hr2
  have BT := hide ht2
  have HW := hide hw2
  have HC := hide hc
  clear hx2 hr2 ht2 hw2 hl hlen hr hA
  have d0 : ((26 : Int) == 0) = false := rfl
  have hnz : (l == ([0, 0, 0, 0, 0, 0, 0, 0, 0, 0, 0, 0, 0, 0, 0, 0, 0, 0, 0, 0, 0, 0, 0, 0, 0, 0] : List UInt8)) = false := by rw [HL.out]; rfl
  go_enter Try.func16, Try.ntmps16
  go_upto_region 1 with (fail)
  rw [← HW.out]
  obtain ⟨rb, hrb⟩ : ∃ rb, rb = w.heap.size := ⟨_, rfl⟩
  obtain ⟨tb, htb⟩ : ∃ tb, tb = w.heap.size + 1 := ⟨_, rfl⟩
  have HB := hide (show rb ≠ tb ∧ w.heap.size ≤ rb ∧ w.heap.size ≤ tb by omega)
  rw [← htb, ← hrb]
  rw [← htb] at BT
  rw [← hrb] at BR
  clear htb hrb HW
  have HS := hide (show ∀ w' : World, Ext w2 w' → (convert 22 9 (.slice A 26 c)).run Try.prog w' = .ok (.string ⟨l.toArray⟩) w' from fun w' hx => run_string_of_reads 22 9 5 c Try.underlying22 Try.underlying5 Try.underlying9 (hx.read HR.out))
  refine wp_region_F (S := (fun w' => (convert 22 9 (.slice A 26 c)).run Try.prog w' = .ok (.string ⟨l.toArray⟩) w')) 9 (by kernel_rfl) (by kernel_rfl) (HS.out _ (Ext.drew (Ext.refl w2))) (fun hHeld => ?_)
  refine GoF.take 0 (some 15) (v := ?_) rfl rfl (by kernel_rfl) (by kernel_rfl) (by kernel_rfl) (fun _ _ _ h => h) (Or.inl ⟨by rfl, ?_⟩) (by assumption) ?_
  rotate_left
  · intro w' hSw
    try dsimp only at hSw
    go_simp
    try with_reducible rfl
  try simp only [Act.put, List.setIfInBounds_toArray, List.set_cons_zero, List.set_cons_succ]
  refine GoF.take 1 (some 16) (v := ?_) rfl rfl (by kernel_rfl) (by kernel_rfl) (by kernel_rfl) (fun _ _ _ h => h) (Or.inl ⟨by rfl, ?_⟩) (by assumption) ?_
  rotate_left
  · intro w' hSw
    try dsimp only at hSw
    go_simp
    try with_reducible rfl
  try simp only [Act.put, List.setIfInBounds_toArray, List.set_cons_zero, List.set_cons_succ]
  refine GoF.take 2 (some 17) (v := ?_) rfl rfl (by kernel_rfl) (by kernel_rfl) (by kernel_rfl) (fun _ _ _ h => h) (Or.inl ⟨by rfl, ?_⟩) (by assumption) ?_
  rotate_left
  · intro w' hSw
    try dsimp only at hSw
    go_simp
    try with_reducible rfl
  try simp only [Act.put, List.setIfInBounds_toArray, List.set_cons_zero, List.set_cons_succ]
  refine GoF.take 3 (some 18) (v := ?_) rfl rfl (by kernel_rfl) (by kernel_rfl) (by kernel_rfl) (fun _ _ _ h => h) (Or.inl ⟨by rfl, ?_⟩) (by assumption) ?_
  rotate_left
  · intro w' hSw
    try dsimp only at hSw
    go_simp
    try with_reducible rfl
  try simp only [Act.put, List.setIfInBounds_toArray, List.set_cons_zero, List.set_cons_succ]
  refine GoF.take 4 (some 19) (v := ?_) rfl rfl (by kernel_rfl) (by kernel_rfl) (by kernel_rfl) (fun _ _ _ h => h) (Or.inl ⟨by rfl, ?_⟩) (by assumption) ?_
  rotate_left
  · intro w' hSw
    try dsimp only at hSw
    go_simp
    try with_reducible rfl
  try simp only [Act.put, List.setIfInBounds_toArray, List.set_cons_zero, List.set_cons_succ]
  refine GoF.take 5 (some 20) (v := ?_) rfl rfl (by kernel_rfl) (by kernel_rfl) (by kernel_rfl) (fun _ _ _ h => h) (Or.inl ⟨by rfl, ?_⟩) (by assumption) ?_
  rotate_left
  · intro w' hSw
    try dsimp only at hSw
    go_simp
    try with_reducible rfl
  try simp only [Act.put, List.setIfInBounds_toArray, List.set_cons_zero, List.set_cons_succ]
  refine GoF.each (rs := [6]) (by kernel_rfl) (by kernel_rfl) (by kernel_rfl) ?_
  refine EachF.cons (i := 6) rfl (fun K hK => ?_) EachF.nil
  have hmk := mk26 w2.drew
  go_simp
  refine hK.out _ _ (HS.out _ (Ext.alloc (Ext.drew (Ext.refl w2)) _)) (fun hHeld => ?_)
  clear hK K hmk
  try simp only [Act.put, List.setIfInBounds_toArray, List.set_cons_zero, List.set_cons_succ]
  refine GoF.each (rs := [7]) (by kernel_rfl) (by kernel_rfl) (by kernel_rfl) ?_
  refine EachF.cons (i := 7) rfl (fun K hK => ?_) EachF.nil
  have kc : (convert 22 9 (.slice (some ⟨w2.heap.size, 0, none⟩) 26 26)).run Try.prog ((w2.alloc (.cells z26 5)).drew) = .ok (.string ⟨(List.replicate 26 (0 : UInt8)).toArray⟩) ((w2.alloc (.cells z26 5)).drew) := run_string_of_reads 22 9 5 26 Try.underlying22 Try.underlying5 Try.underlying9 (by have h := reads_row (Blk.new w2 5 z26).drew; rw [z26_bv] at h; exact h)
  go_simp
  refine hK.out _ _ (HS.out _ (Ext.drew (Ext.alloc (Ext.refl w2) _))) (fun hHeld => ?_)
  clear hK K kc
  try simp only [Act.put, List.setIfInBounds_toArray, List.set_cons_zero, List.set_cons_succ]
  refine GoF.take 8 (some 23) (v := ?_) rfl rfl (by kernel_rfl) (by kernel_rfl) (by kernel_rfl) (fun _ _ _ h => h) (Or.inl ⟨by rfl, ?_⟩) (by assumption) ?_
  rotate_left
  · intro w' hSw
    try dsimp only at hSw
    go_simp
    try with_reducible rfl
  try simp only [Act.put, List.setIfInBounds_toArray, List.set_cons_zero, List.set_cons_succ]
  refine GoF.last (by kernel_rfl) (by kernel_rfl) rfl (fun K hK => ?_)
  go_simp
  refine hK.out _ _ ?_
  clear hK K hHeld
  obtain ⟨wz, hwz⟩ : ∃ wz, wz = (w2.alloc (.cells z26 5)).drew := ⟨_, rfl⟩
  have XZ := hide (show Ext w2 wz by rw [hwz]; exact Ext.drew (Ext.alloc (Ext.refl w2) _))
  rw [← hwz]
  clear hwz
  have BRZ := hide (XZ.out.blk BR.out)
  have BTZ := hide (XZ.out.blk BT.out)
  have RZ := hide (XZ.out.read HR.out)
  obtain ⟨bk, off, hAe, hbw, hcell⟩ := RZ.out.plain (by omega) (by omega)
  subst hAe
  have g0 := hcell 0 (.int .u8 2) (by rw [HL.out]; rfl)
  rw [Nat.add_zero] at g0
  have g1 := hcell 1 (.int .u8 (p : Int)) (by
    rw [HL.out]
    have e1 : ((UInt8.ofNat p).toNat : Int) = p := by rw [UInt8.toNat_ofNat', Nat.mod_eq_of_lt (by omega)]
    simp only [stubL, bv, List.map_cons, e1]
    rfl)
  have g2 := hcell 2 (.int .u8 (k : Int)) (by
    rw [HL.out]
    have e1 : ((UInt8.ofNat k).toNat : Int) = k := by rw [UInt8.toNat_ofNat', Nat.mod_eq_of_lt (by omega)]
    simp only [stubL, bv, List.map_cons, e1]
    rfl)
  have hc26 := HC.out
  have hwp : IntKind.i64.wrap (p : Int) = (p : Int) := by simp [IntKind.wrap, IntKind.signed, IntKind.bits]; omega
  have hwk : IntKind.i64.wrap (k : Int) = (k : Int) := by simp [IntKind.wrap, IntKind.signed, IntKind.bits]; omega
  clear hcell
  go_upto_region 13 with (fail)
  have HS := hide (show ∀ w' : World, Ext wz w' → w'.cell? ⟨bk, off + 1, none⟩ = some (.int .u8 (p : Int)) ∧ w'.cell? ⟨bk, off + 2, none⟩ = some (.int .u8 (k : Int)) from fun w' hx => ⟨(hx.cell hbw).trans g1, (hx.cell hbw).trans g2⟩)
  refine wp_region_G (S := (fun w' => w'.cell? ⟨bk, off + 1, none⟩ = some (.int .u8 (p : Int)) ∧ w'.cell? ⟨bk, off + 2, none⟩ = some (.int .u8 (k : Int)))) 10 (by kernel_rfl) (by kernel_rfl) (HS.out _ (Ext.drew (Ext.refl wz))) (fun hHeld => ?_)
  refine GoG.take 0 30 (some 74) (v := ?_) rfl rfl (by kernel_rfl) (by kernel_rfl) (by kernel_rfl) (fun _ _ _ h => h) (Or.inl ⟨by rfl, ?_⟩) (by assumption) ?_
  rotate_left
  · intro w' hSw
    try dsimp only at hSw
    go_simp
    try with_reducible rfl
  try simp only [Act.put, List.setIfInBounds_toArray, List.set_cons_zero, List.set_cons_succ]
  refine GoG.take 1 30 (some 75) (v := ?_) rfl rfl (by kernel_rfl) (by kernel_rfl) (by kernel_rfl) (fun _ _ _ h => h) (Or.inl ⟨by rfl, ?_⟩) (by assumption) ?_
  rotate_left
  · intro w' hSw
    try dsimp only at hSw
    go_simp
    try with_reducible rfl
  try simp only [Act.put, List.setIfInBounds_toArray, List.set_cons_zero, List.set_cons_succ]
  refine GoG.take 2 30 (some 76) (v := ?_) rfl rfl (by kernel_rfl) (by kernel_rfl) (by kernel_rfl) (fun _ _ _ h => h) (Or.inl ⟨by rfl, ?_⟩) (by assumption) ?_
  rotate_left
  · intro w' hSw
    try dsimp only at hSw
    go_simp
    try with_reducible rfl
  try simp only [Act.put, List.setIfInBounds_toArray, List.set_cons_zero, List.set_cons_succ]
  refine GoG.take 3 30 (some 77) (v := ?_) rfl rfl (by kernel_rfl) (by kernel_rfl) (by kernel_rfl) (fun _ _ _ h => h) (Or.inl ⟨by rfl, ?_⟩) (by assumption) ?_
  rotate_left
  · intro w' hSw
    try dsimp only at hSw
    go_simp
    try with_reducible rfl
  try simp only [Act.put, List.setIfInBounds_toArray, List.set_cons_zero, List.set_cons_succ]
  refine GoG.take 4 30 (some 78) (v := ?_) rfl rfl (by kernel_rfl) (by kernel_rfl) (by kernel_rfl) (fun _ _ _ h => h) (Or.inl ⟨by rfl, ?_⟩) (by assumption) ?_
  rotate_left
  · intro w' hSw
    try dsimp only at hSw
    go_simp
    try with_reducible rfl
  try simp only [Act.put, List.setIfInBounds_toArray, List.set_cons_zero, List.set_cons_succ]
  refine GoG.take 5 30 (some 79) (v := ?_) rfl rfl (by kernel_rfl) (by kernel_rfl) (by kernel_rfl) (fun _ _ _ h => h) (Or.inl ⟨by rfl, ?_⟩) (by assumption) ?_
  rotate_left
  · intro w' hSw
    try dsimp only at hSw
    go_simp
    try with_reducible rfl
  try simp only [Act.put, List.setIfInBounds_toArray, List.set_cons_zero, List.set_cons_succ]
  refine GoG.take 6 30 (some 80) (v := ?_) rfl rfl (by kernel_rfl) (by kernel_rfl) (by kernel_rfl) (fun _ _ _ h => h) (Or.inl ⟨by rfl, ?_⟩) (by assumption) ?_
  rotate_left
  · intro w' hSw
    try dsimp only at hSw
    go_simp
    try with_reducible rfl
  try simp only [Act.put, List.setIfInBounds_toArray, List.set_cons_zero, List.set_cons_succ]
  refine GoG.take 7 30 (some 81) (v := ?_) rfl rfl (by kernel_rfl) (by kernel_rfl) (by kernel_rfl) (fun _ _ _ h => h) (Or.inl ⟨by rfl, ?_⟩) (by assumption) ?_
  rotate_left
  · intro w' hSw
    try dsimp only at hSw
    go_simp
    try with_reducible rfl
  try simp only [Act.put, List.setIfInBounds_toArray, List.set_cons_zero, List.set_cons_succ]
  refine GoG.take 8 30 (some 82) (v := ?_) rfl rfl (by kernel_rfl) (by kernel_rfl) (by kernel_rfl) (fun _ _ _ h => h) (Or.inl ⟨by rfl, ?_⟩) (by assumption) ?_
  rotate_left
  · intro w' hSw
    try dsimp only at hSw
    go_simp
    try with_reducible rfl
  try simp only [Act.put, List.setIfInBounds_toArray, List.set_cons_zero, List.set_cons_succ]
  refine GoG.each (rs := [9]) (by kernel_rfl) (by kernel_rfl) ?_
  refine EachG.cons (i := 9) rfl (fun K hK => ?_) EachG.nil
  go_simp
  refine hK.out _ _ (HS.out _ (Ext.drew (Ext.alloc (Ext.refl wz) _))) (fun hHeld => ?_)
  clear hK K
  try simp only [Act.put, List.setIfInBounds_toArray, List.set_cons_zero, List.set_cons_succ]
  refine GoG.last (by kernel_rfl) (by kernel_rfl) rfl (fun K hK => ?_)
  go_simp
  refine hK.out _ _ ?_
  clear hK K hHeld
  obtain ⟨w4, hw4⟩ : ∃ w4, w4 = (wz.alloc (.cells #[.int .i64 (p : Int), .int .i64 (k : Int)] 25)).drew := ⟨_, rfl⟩
  have X4 := hide (show Ext wz w4 by rw [hw4]; exact Ext.drew (Ext.new wz _))
  have BC := hide (show Blk w4 wz.heap.size 25 #[.int .i64 (p : Int), .int .i64 (k : Int)] by rw [hw4]; exact (Blk.new wz 25 _).drew)
  have hr_ := BRZ.out.lt
  have ht_ := BTZ.out.lt
  obtain ⟨cb, hcb⟩ : ∃ cb, cb = wz.heap.size := ⟨_, rfl⟩
  have HCB := hide (show cb ≠ rb ∧ cb ≠ tb by omega)
  rw [← hw4, ← hcb]
  rw [← hcb] at BC
  clear hw4 hcb hr_ ht_ g1 g2
  obtain ⟨q0, q1⟩ := BC.out.cells2
  go_upto_region 15 with (go_at_call 17; refine (rstub_in w4 p k hp hk).mono ?_; rintro e w5 ⟨A5, c5, rfl, hr5, hx5⟩; have X5 := hide hx5; have R5 := hide hr5; clear hr5 hx5)
  have RB5 := hide ((X4.out.trans X5.out).read RZ.out)
  have hr5 := R5.out
  rw [← HL.out] at hr5
  have kc1 := run_string_of_reads 22 9 5 c5 Try.underlying22 Try.underlying5 Try.underlying9 hr5
  have kc2 := run_string_of_reads 22 9 5 c Try.underlying22 Try.underlying5 Try.underlying9 RB5.out
  have BR5 := hide ((X4.out.trans X5.out).blk BRZ.out)
  have BT5 := hide ((X4.out.trans X5.out).blk BTZ.out)
  have BC5 := hide (X5.out.blk BC.out)
  clear q0 q1 hr5
  go_upto_region 16 with (fail)
  clear kc1 kc2
  have S5 := hide (show (w5.drew).cell? ⟨cb, 0, none⟩ = some (.int .i64 (p : Int)) ∧ (w5.drew).cell? ⟨cb, 1, none⟩ = some (.int .i64 (k : Int)) from BC5.out.drew.cells2)
  refine wp_region_F (S := (fun w' => w'.cell? ⟨cb, 0, none⟩ = some (.int .i64 (p : Int)) ∧ w'.cell? ⟨cb, 1, none⟩ = some (.int .i64 (k : Int)))) 5 (by kernel_rfl) (by kernel_rfl) S5.out (fun hHeld => ?_)
  obtain ⟨wd, hwd⟩ : ∃ wd, wd = w5.drew := ⟨_, rfl⟩
  have BRd := hide (show Blk wd rb 52 #[.string ⟨#[]⟩, .string ⟨#[]⟩, .string ⟨#[]⟩] by rw [hwd]; exact BR5.out.drew)
  have BTd := hide (show Blk wd tb 25 #[.int .i64 0, .int .i64 0] by rw [hwd]; exact BT5.out.drew)
  have BCd := hide (show Blk wd cb 25 #[.int .i64 (p : Int), .int .i64 (k : Int)] by rw [hwd]; exact BC5.out.drew)
  have Xd := hide (show Ext w wd by rw [hwd]; exact (HX.out.trans (XZ.out.trans (X4.out.trans X5.out))).drew)
  rw [← hwd] at hHeld ⊢
  clear hwd
  refine GoF.take 0 (some 97) (v := ?_) rfl rfl (by kernel_rfl) (by kernel_rfl) (by kernel_rfl) (fun _ _ _ h => h) (Or.inl ⟨by rfl, ?_⟩) (by assumption) ?_
  rotate_left
  · intro w' hSw
    try dsimp only at hSw
    go_simp
    try with_reducible rfl
  try simp only [Act.put, List.setIfInBounds_toArray, List.set_cons_zero, List.set_cons_succ]
  refine GoF.take 1 (some 98) (v := ?_) rfl rfl (by kernel_rfl) (by kernel_rfl) (by kernel_rfl) (fun _ _ _ h => h) (Or.inl ⟨by rfl, ?_⟩) (by assumption) ?_
  rotate_left
  · intro w' hSw
    try dsimp only at hSw
    go_simp
    try with_reducible rfl
  try simp only [Act.put, List.setIfInBounds_toArray, List.set_cons_zero, List.set_cons_succ]
  refine GoF.take 2 (some 2) (v := ?_) rfl rfl (by kernel_rfl) (by kernel_rfl) (by kernel_rfl) (fun _ _ _ h => h) (Or.inl ⟨by rfl, ?_⟩) (by assumption) ?_
  rotate_left
  · intro w' hSw
    try dsimp only at hSw
    go_simp
    try with_reducible rfl
  try simp only [Act.put, List.setIfInBounds_toArray, List.set_cons_zero, List.set_cons_succ]
  refine GoF.each (rs := [3]) (by kernel_rfl) (by kernel_rfl) (by kernel_rfl) ?_
  refine EachF.cons (i := 3) rfl (fun K hK => ?_) EachF.nil
  obtain ⟨y0, y1, y2⟩ := BRd.out.cells3
  have f0 := BRd.out.frozen 0
  have f1 := BRd.out.frozen 1
  have f2 := BRd.out.frozen 2
  go_simp
  have T6 := touch_set3 wd rb (.string ⟨#[]⟩) (.string ⟨#[]⟩) (.string ⟨#[]⟩)
  refine hK.out _ _ ((T6.blk BCd.out HCB.out.1).cells2) (fun hHeld => ?_)
  clear hK K y0 y1 y2 f0 f1 f2
  try simp only [Act.put, List.setIfInBounds_toArray, List.set_cons_zero, List.set_cons_succ]
  have bt6 := T6.blk BTd.out (Ne.symm HB.out.1)
  have br6 := BRd.out.set3 (.string ⟨#[]⟩) (.string ⟨#[]⟩) (.string ⟨#[]⟩)
  have bc6 := T6.blk BCd.out HCB.out.1
  have x6 : Ext wd (((wd.setCell ⟨rb, 0, none⟩ (.string ⟨#[]⟩)).setCell ⟨rb, 1, none⟩ (.string ⟨#[]⟩)).setCell ⟨rb, 2, none⟩ (.string ⟨#[]⟩)) → True := fun _ => trivial
  obtain ⟨w6, hw6, hx6⟩ : ∃ w6, w6 = (((wd.setCell ⟨rb, 0, none⟩ (.string ⟨#[]⟩)).setCell ⟨rb, 1, none⟩ (.string ⟨#[]⟩)).setCell ⟨rb, 2, none⟩ (.string ⟨#[]⟩)) ∧ Ext w w6 := ⟨_, rfl, Touch.ext Xd.out T6 HB.out.2.1⟩
  rw [← hw6] at bt6 br6 bc6 hHeld ⊢
  have BT6 := hide bt6
  have BR6 := hide br6
  have BC6 := hide bc6
  have X6 := hide hx6
  clear bt6 br6 bc6 x6 T6 hw6 hx6
  refine GoF.each (rs := [4]) (by kernel_rfl) (by kernel_rfl) (by kernel_rfl) ?_
  refine EachF.cons (i := 4) rfl (fun K hK => ?_) EachF.nil
  obtain ⟨x0, x1⟩ := BT6.out.cells2
  have e0 := BT6.out.frozen 0
  have e1 := BT6.out.frozen 1
  go_simp
  have T7 := touch_set2 w6 tb (.int .i64 (p : Int)) (.int .i64 (k : Int))
  refine hK.out _ _ ((T7.blk BC6.out HCB.out.2).cells2) (fun hHeld => ?_)
  clear hK K x0 x1 e0 e1
  try simp only [Act.put, List.setIfInBounds_toArray, List.set_cons_zero, List.set_cons_succ]
  have br7 := T7.blk BR6.out HB.out.1
  have bt7 := BT6.out.set2 (.int .i64 (p : Int)) (.int .i64 (k : Int))
  obtain ⟨w7, hw7, hx7⟩ : ∃ w7, w7 = (w6.setCell ⟨tb, 0, none⟩ (.int .i64 (p : Int))).setCell ⟨tb, 1, none⟩ (.int .i64 (k : Int)) ∧ Ext w w7 := ⟨_, rfl, Touch.ext X6.out T7 HB.out.2.2⟩
  rw [← hw7] at br7 bt7 hHeld ⊢
  have BR7 := hide br7
  have BT7 := hide bt7
  have X7 := hide hx7
  clear br7 bt7 T7 hw7 hx7
  refine GoF.last (by kernel_rfl) (by kernel_rfl) rfl (fun K hK => ?_)
  go_simp
  refine hK.out _ _ ?_
  clear hK K hHeld
  obtain ⟨y0, y1, y2⟩ := BR7.out.cells3
  obtain ⟨x0, x1⟩ := BT7.out.cells2
  go_wp2_with (fail)
  exact bodyPost_ret (v := .tuple #[.int .i64 2, .agg #[.string ⟨([] : List UInt8).toArray⟩, .string ⟨#[]⟩, .string ⟨#[]⟩], .agg #[.int .i64 (p : Int), .int .i64 (k : Int)], .int .i64 0]) (by simp [results, Try.results16, go_sem, y0, y1, y2, x0, x1]) rfl ⟨rfl, X7.out⟩
end Go.Proofs.Ytaagdjipjeindaa
