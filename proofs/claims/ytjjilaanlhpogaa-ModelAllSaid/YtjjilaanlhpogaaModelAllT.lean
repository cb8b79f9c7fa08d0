/- ModelAll: Do's contracts anew: what is turned is the table's map alone. -/
import Derived.Test.YtjjilaanlhpogaaModelE
namespace Go.Proofs.Ytjjilaanlhpogaa
open Go.ChangeShapes Go.WideShapes Go.ChangeAt Go.RowKit Go.Maps Go.MapKept Go.Sort
set_option linter.unusedVariables false

/-- Do has turned the table, and nothing else -/
def DoneT (W : World) (g m N : Nat) (f : ByteArray → Option Rw) (w : World) (e : Ending) (w' : World) : Prop := e = .returned (.agg #[.int .i64 0, .slice none 0 0]) ∧ Md W w' g m N f ∧ Touch w w' (fun k => k = m)
theorem done_touch {w wc w5 : World} {m : Nat} (hx : Ext w wc) (ht : Touch wc w5 (fun k => k = m)) (u0 u1 : Value) : Touch w ((w5.setCell ⟨w.heap.size + 1, 0, none⟩ u0).setCell ⟨w.heap.size + 1, 1, none⟩ u1) (fun k => k = m) := by
  refine (((Touch.of_below hx (fun k => k = m)).trans ht (fun _ _ h => h)).setCell (F := fun k => k = m) (p := ⟨w.heap.size + 1, 0, none⟩) (fun h => ?_) _).setCell (F := fun k => k = m) (p := ⟨w.heap.size + 1, 1, none⟩) (fun h => ?_) _
  · have h' : w.heap.size + 1 < w.heap.size := h
    omega
  · have h' : w.heap.size + 1 < w.heap.size := h
    omega
set_option maxRecDepth 100000 in
set_option maxHeartbeats 4000000 in
theorem dot_put (W w : World) (g m N : Nat) (f : ByteArray → Option Rw) (t n : Int) (r : Rw) (A : Option Addr) (l c : Nat) (h : Md W w g m N f) (hN : N ≤ 1000) (hz : Rz r) (hm : mayS 3 r = true) (ho : f r.k = none) :
    Calls Try.prog 10 #[.pointer (some ⟨g, 0, none⟩), stv 3 t n r A l c] w (DoneT W g m (N + 1) (putR f r.k (some r)) w) := by
  have hM := hide (fun w => may_any 3 t n r A l c w hz.1 hz.2.1 hz.2.2)
  have HM := hide hm
  have H := hide h
  have HZ := hide hz
  have hxz : Sz r.k := hz.1
  obtain ⟨old, hold⟩ : ∃ old, old = (f r.k).getD r0 := ⟨_, rfl⟩
  have false_ := hide (show (f r.k).isSome = false by rw [ho]; rfl)
  clear ho
  have HOLD := hide hold
  clear hm hz h hold
  simp only [stv] at hM ⊢
  go_enter Try.func10, Try.ntmps10
  go_wp2_with (go_at_call 16; refine (hM.out _).mono ?_; rintro e w1 ⟨rfl, x1⟩; rw [HM.out]; have HH := hide (Hd.start (n := n) (r := r) (A := A) (l := l) (c := c) H.out x1); clear x1)
  have HS := hide (show ∀ w', Ext w1 w' → w'.cell? ⟨g, 0, none⟩ = some (.map (some m)) ∧ w'.cell? ⟨w.heap.size, 3, none⟩ = some (.string r.k) ∧ (Instr.lookup 50 (.map (some m)) (.string r.k) true).run Try.prog w' = .ok (.tuple #[rv old, .bool false]) w' from fun w' hx => by
    have hh := HH.out.ex hx
    refine ⟨by simpa using hh.md.blk.cell 0, by simpa using hh.stp.cell 3, ?_⟩
    have := hh.md.rows.look_ok hxz
    rw [← HOLD.out, false_.out] at this
    exact this)
  have hlt1 : w.heap.size + 1 < w1.heap.size := HH.out.ans.lt
  simp only [rv] at HS
  go_cut [5, 6] (fun s5 s6 wx => ∃ rb, s5 = .pointer (some ⟨rb, 0, none⟩) ∧ s6 = .bool false ∧ Ext w1 wx ∧ Blk wx rb 31 #[.string old.k, .string old.s, .string old.v])
  case first =>
    go_region_held3 (fun w' => w'.cell? ⟨g, 0, none⟩ = some (.map (some m)) ∧ w'.cell? ⟨w.heap.size, 3, none⟩ = some (.string r.k) ∧ (Instr.lookup 50 (.map (some m)) (.string r.k) true).run Try.prog w' = .ok (.tuple #[.agg #[.string old.k, .string old.s, .string old.v], .bool false]) w') (exact HS.out _ (by (repeat (first | with_reducible exact Ext.refl _ | with_reducible refine Ext.drew ?_ | with_reducible refine Ext.alloc ?_ _ | (with_reducible refine Ext.set_ ?_ ?_ _; rotate_left; · (simp <;> omega)))))) (fail)
    all_goals
      go_wp2_with (fail)
      go_meet
      case rel => exact ⟨_, rfl, rfl, (by (repeat (first | with_reducible exact Ext.refl _ | with_reducible refine Ext.drew ?_ | with_reducible refine Ext.alloc ?_ _))), Blk.new w1 31 _⟩
  case rest =>
    obtain ⟨rb, rfl, rfl, hxc, hrb⟩ := hcut
    have HC := hide (HH.out.ex hxc)
    have hk0 := HC.out.stp.cell 0
    have hk3 := HC.out.stp.cell 3
    have ha0 := HC.out.ans.cell 0
    have ha1 := HC.out.ans.cell 1
    simp at hk0 hk3 ha0 ha1
    have fa0 := HC.out.ans.frozen 0
    have fa1 := HC.out.ans.frozen 1
    have hlt2 : w.heap.size + 1 < wc.heap.size := HC.out.ans.lt
    have HRB := hide hrb
    clear HS HH hM HM hxc hrb hlt1
    have hk4 := HC.out.stp.cell 4
    have hk5 := HC.out.stp.cell 5
    simp at hk4 hk5
    have HRW := hide (HC.out.md.rows.ext (Ext.drew (Ext.refl wc)))
    have hc0 := HC.out.md.blk.cell 0
    simp at hc0
    go_wp2_with (fail)
    go_still_tail 9, (by kernel_rfl)
    change wpList _ _ _ _ _ wc.drew
    go_wp2_with (at_mapUpdate; refine RowsAt.store rfl _ _ _ rfl rfl HRW.out (by unfold maxLen; omega) r.k r rfl rfl hxz ?_; intro w5 ho5 ht5; have HO5 := hide ho5; have HT5 := hide (show Touch wc w5 (fun k => k = m) from (Touch.of_below (Ext.drew (Ext.refl wc)) _).trans ht5 (fun _ _ h => h)); have hmb : w.heap.size + 1 ≠ m := (by obtain ⟨D, h', _⟩ := HC.out.md.rows; exact map_ne HC.out.ans h'); have ans5 := HT5.out.blk HC.out.ans hmb; have b0 := ans5.cell 0; have b1 := ans5.cell 1; simp at b0 b1; have fb0 := ans5.frozen 0; have fb1 := ans5.frozen 1; clear ho5 ht5 hmb)
    have md5 := HC.out.md.turn HO5.out HT5.out (put_key HC.out.md.key HZ.out)
    have hE := md5.ans H.out.ext ans5 (.int .i64 0) (.slice none 0 0)
    have e2 := ans5.set2 (.int .i64 0) (.slice none 0 0)
    have q0 := e2.cell 0
    have q1 := e2.cell 1
    simp only [List.getElem?_toArray, List.getElem?_cons_zero, List.getElem?_cons_succ] at q0 q1
    exact bodyPost_ret (v := .agg #[.int .i64 0, .slice none 0 0]) (by simp [results, Try.results10, go_sem, q0, q1]) rfl ⟨rfl, hE, done_touch HC.out.ext HT5.out _ _⟩
set_option maxRecDepth 100000 in
set_option maxHeartbeats 4000000 in
theorem dot_upd (W w : World) (g m N : Nat) (f : ByteArray → Option Rw) (t n : Int) (r : Rw) (A : Option Addr) (l c : Nat) (h : Md W w g m N f) (hN : N ≤ 1000) (hz : Rz r) (hm : mayS 4 r = true) (o : Rw) (ho : f r.k = some o) :
    Calls Try.prog 10 #[.pointer (some ⟨g, 0, none⟩), stv 4 t n r A l c] w (DoneT W g m (N + 1) (putR f r.k (some r)) w) := by
  have hM := hide (fun w => may_any 4 t n r A l c w hz.1 hz.2.1 hz.2.2)
  have HM := hide hm
  have H := hide h
  have HZ := hide hz
  have hxz : Sz r.k := hz.1
  obtain ⟨old, hold⟩ : ∃ old, old = (f r.k).getD r0 := ⟨_, rfl⟩
  have true_ := hide (show (f r.k).isSome = true by rw [ho]; rfl)
  have HOO := hide ho
  clear ho
  have HOLD := hide hold
  clear hm hz h hold
  simp only [stv] at hM ⊢
  go_enter Try.func10, Try.ntmps10
  go_wp2_with (go_at_call 16; refine (hM.out _).mono ?_; rintro e w1 ⟨rfl, x1⟩; rw [HM.out]; have HH := hide (Hd.start (n := n) (r := r) (A := A) (l := l) (c := c) H.out x1); clear x1)
  have HS := hide (show ∀ w', Ext w1 w' → w'.cell? ⟨g, 0, none⟩ = some (.map (some m)) ∧ w'.cell? ⟨w.heap.size, 3, none⟩ = some (.string r.k) ∧ (Instr.lookup 50 (.map (some m)) (.string r.k) true).run Try.prog w' = .ok (.tuple #[rv old, .bool true]) w' from fun w' hx => by
    have hh := HH.out.ex hx
    refine ⟨by simpa using hh.md.blk.cell 0, by simpa using hh.stp.cell 3, ?_⟩
    have := hh.md.rows.look_ok hxz
    rw [← HOLD.out, true_.out] at this
    exact this)
  have hlt1 : w.heap.size + 1 < w1.heap.size := HH.out.ans.lt
  simp only [rv] at HS
  go_cut [5, 6] (fun s5 s6 wx => ∃ rb, s5 = .pointer (some ⟨rb, 0, none⟩) ∧ s6 = .bool true ∧ Ext w1 wx ∧ Blk wx rb 31 #[.string old.k, .string old.s, .string old.v])
  case first =>
    go_region_held3 (fun w' => w'.cell? ⟨g, 0, none⟩ = some (.map (some m)) ∧ w'.cell? ⟨w.heap.size, 3, none⟩ = some (.string r.k) ∧ (Instr.lookup 50 (.map (some m)) (.string r.k) true).run Try.prog w' = .ok (.tuple #[.agg #[.string old.k, .string old.s, .string old.v], .bool true]) w') (exact HS.out _ (by (repeat (first | with_reducible exact Ext.refl _ | with_reducible refine Ext.drew ?_ | with_reducible refine Ext.alloc ?_ _ | (with_reducible refine Ext.set_ ?_ ?_ _; rotate_left; · (simp <;> omega)))))) (fail)
    all_goals
      go_wp2_with (fail)
      go_meet
      case rel => exact ⟨_, rfl, rfl, (by (repeat (first | with_reducible exact Ext.refl _ | with_reducible refine Ext.drew ?_ | with_reducible refine Ext.alloc ?_ _))), Blk.new w1 31 _⟩
  case rest =>
    obtain ⟨rb, rfl, rfl, hxc, hrb⟩ := hcut
    have HC := hide (HH.out.ex hxc)
    have hk0 := HC.out.stp.cell 0
    have hk3 := HC.out.stp.cell 3
    have ha0 := HC.out.ans.cell 0
    have ha1 := HC.out.ans.cell 1
    simp at hk0 hk3 ha0 ha1
    have fa0 := HC.out.ans.frozen 0
    have fa1 := HC.out.ans.frozen 1
    have hlt2 : w.heap.size + 1 < wc.heap.size := HC.out.ans.lt
    have HRB := hide hrb
    clear HS HH hM HM hxc hrb hlt1
    have hk4 := HC.out.stp.cell 4
    have hk5 := HC.out.stp.cell 5
    simp at hk4 hk5
    have HRW := hide (HC.out.md.rows.ext (Ext.drew (Ext.refl wc)))
    have hc0 := HC.out.md.blk.cell 0
    simp at hc0
    go_wp2_with (fail)
    go_still_tail 9, (by kernel_rfl)
    change wpList _ _ _ _ _ wc.drew
    go_wp2_with (at_mapUpdate; refine RowsAt.store rfl _ _ _ rfl rfl HRW.out (by unfold maxLen; omega) r.k r rfl rfl hxz ?_; intro w5 ho5 ht5; have HO5 := hide ho5; have HT5 := hide (show Touch wc w5 (fun k => k = m) from (Touch.of_below (Ext.drew (Ext.refl wc)) _).trans ht5 (fun _ _ h => h)); have hmb : w.heap.size + 1 ≠ m := (by obtain ⟨D, h', _⟩ := HC.out.md.rows; exact map_ne HC.out.ans h'); have ans5 := HT5.out.blk HC.out.ans hmb; have b0 := ans5.cell 0; have b1 := ans5.cell 1; simp at b0 b1; have fb0 := ans5.frozen 0; have fb1 := ans5.frozen 1; clear ho5 ht5 hmb)
    have md5 := HC.out.md.turn HO5.out HT5.out (put_key HC.out.md.key HZ.out)
    have hE := md5.ans H.out.ext ans5 (.int .i64 0) (.slice none 0 0)
    have e2 := ans5.set2 (.int .i64 0) (.slice none 0 0)
    have q0 := e2.cell 0
    have q1 := e2.cell 1
    simp only [List.getElem?_toArray, List.getElem?_cons_zero, List.getElem?_cons_succ] at q0 q1
    exact bodyPost_ret (v := .agg #[.int .i64 0, .slice none 0 0]) (by simp [results, Try.results10, go_sem, q0, q1]) rfl ⟨rfl, hE, done_touch HC.out.ext HT5.out _ _⟩
set_option maxRecDepth 100000 in
set_option maxHeartbeats 4000000 in
theorem dot_del (W w : World) (g m N : Nat) (f : ByteArray → Option Rw) (t n : Int) (r : Rw) (A : Option Addr) (l c : Nat) (h : Md W w g m N f) (hN : N ≤ 1000) (hz : Rz r) (hm : mayS 5 r = true) (o : Rw) (ho : f r.k = some o) :
    Calls Try.prog 10 #[.pointer (some ⟨g, 0, none⟩), stv 5 t n r A l c] w (DoneT W g m N (putR f r.k none) w) := by
  have hM := hide (fun w => may_any 5 t n r A l c w hz.1 hz.2.1 hz.2.2)
  have HM := hide hm
  have H := hide h
  have HZ := hide hz
  have hxz : Sz r.k := hz.1
  obtain ⟨old, hold⟩ : ∃ old, old = (f r.k).getD r0 := ⟨_, rfl⟩
  have true_ := hide (show (f r.k).isSome = true by rw [ho]; rfl)
  have HOO := hide ho
  clear ho
  have HOLD := hide hold
  clear hm hz h hold
  simp only [stv] at hM ⊢
  go_enter Try.func10, Try.ntmps10
  go_wp2_with (go_at_call 16; refine (hM.out _).mono ?_; rintro e w1 ⟨rfl, x1⟩; rw [HM.out]; have HH := hide (Hd.start (n := n) (r := r) (A := A) (l := l) (c := c) H.out x1); clear x1)
  have HS := hide (show ∀ w', Ext w1 w' → w'.cell? ⟨g, 0, none⟩ = some (.map (some m)) ∧ w'.cell? ⟨w.heap.size, 3, none⟩ = some (.string r.k) ∧ (Instr.lookup 50 (.map (some m)) (.string r.k) true).run Try.prog w' = .ok (.tuple #[rv old, .bool true]) w' from fun w' hx => by
    have hh := HH.out.ex hx
    refine ⟨by simpa using hh.md.blk.cell 0, by simpa using hh.stp.cell 3, ?_⟩
    have := hh.md.rows.look_ok hxz
    rw [← HOLD.out, true_.out] at this
    exact this)
  have hlt1 : w.heap.size + 1 < w1.heap.size := HH.out.ans.lt
  simp only [rv] at HS
  go_cut [5, 6] (fun s5 s6 wx => ∃ rb, s5 = .pointer (some ⟨rb, 0, none⟩) ∧ s6 = .bool true ∧ Ext w1 wx ∧ Blk wx rb 31 #[.string old.k, .string old.s, .string old.v])
  case first =>
    go_region_held3 (fun w' => w'.cell? ⟨g, 0, none⟩ = some (.map (some m)) ∧ w'.cell? ⟨w.heap.size, 3, none⟩ = some (.string r.k) ∧ (Instr.lookup 50 (.map (some m)) (.string r.k) true).run Try.prog w' = .ok (.tuple #[.agg #[.string old.k, .string old.s, .string old.v], .bool true]) w') (exact HS.out _ (by (repeat (first | with_reducible exact Ext.refl _ | with_reducible refine Ext.drew ?_ | with_reducible refine Ext.alloc ?_ _ | (with_reducible refine Ext.set_ ?_ ?_ _; rotate_left; · (simp <;> omega)))))) (fail)
    all_goals
      go_wp2_with (fail)
      go_meet
      case rel => exact ⟨_, rfl, rfl, (by (repeat (first | with_reducible exact Ext.refl _ | with_reducible refine Ext.drew ?_ | with_reducible refine Ext.alloc ?_ _))), Blk.new w1 31 _⟩
  case rest =>
    obtain ⟨rb, rfl, rfl, hxc, hrb⟩ := hcut
    have HC := hide (HH.out.ex hxc)
    have hk0 := HC.out.stp.cell 0
    have hk3 := HC.out.stp.cell 3
    have ha0 := HC.out.ans.cell 0
    have ha1 := HC.out.ans.cell 1
    simp at hk0 hk3 ha0 ha1
    have fa0 := HC.out.ans.frozen 0
    have fa1 := HC.out.ans.frozen 1
    have hlt2 : w.heap.size + 1 < wc.heap.size := HC.out.ans.lt
    have HRB := hide hrb
    clear HS HH hM HM hxc hrb hlt1
    have HRW := hide (HC.out.md.rows.ext (Ext.drew (Ext.refl wc)))
    have hc0 := HC.out.md.blk.cell 0
    simp at hc0
    go_wp2_with (fail)
    go_still_tail 7, (by kernel_rfl)
    change wpList _ _ _ _ _ wc.drew
    go_wp2_with (at_delete; refine RowsAt.delete rfl _ _ rfl rfl HRW.out r.k rfl hxz ?_; intro w5 ho5 ht5; have HO5 := hide ho5; have HT5 := hide (show Touch wc w5 (fun k => k = m) from (Touch.of_below (Ext.drew (Ext.refl wc)) _).trans ht5 (fun _ _ h => h)); have hmb : w.heap.size + 1 ≠ m := (by obtain ⟨D, h', _⟩ := HC.out.md.rows; exact map_ne HC.out.ans h'); have ans5 := HT5.out.blk HC.out.ans hmb; have b0 := ans5.cell 0; have b1 := ans5.cell 1; simp at b0 b1; have fb0 := ans5.frozen 0; have fb1 := ans5.frozen 1; clear ho5 ht5 hmb)
    have md5 := HC.out.md.turn HO5.out HT5.out (del_key HC.out.md.key)
    have hE := md5.ans H.out.ext ans5 (.int .i64 0) (.slice none 0 0)
    have e2 := ans5.set2 (.int .i64 0) (.slice none 0 0)
    have q0 := e2.cell 0
    have q1 := e2.cell 1
    simp only [List.getElem?_toArray, List.getElem?_cons_zero, List.getElem?_cons_succ] at q0 q1
    exact bodyPost_ret (v := .agg #[.int .i64 0, .slice none 0 0]) (by simp [results, Try.results10, go_sem, q0, q1]) rfl ⟨rfl, hE, done_touch HC.out.ext HT5.out _ _⟩
end Go.Proofs.Ytjjilaanlhpogaa
