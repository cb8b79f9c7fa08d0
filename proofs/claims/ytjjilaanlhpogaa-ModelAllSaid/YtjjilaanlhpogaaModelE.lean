/- Model: contracts: Do, kind by kind. -/
import Derived.Test.YtjjilaanlhpogaaModelD
import Derived.Deep.Cut
import Derived.Deep.DeepCutAuto
import Derived.Deep.CutBlock
namespace Go.Proofs.Ytjjilaanlhpogaa
open Go.ChangeShapes Go.WideShapes Go.ChangeAt Go.RowKit Go.Maps Go.MapKept Go.Sort
set_option linter.unusedVariables false

/-- what Do has made: the step's block, the answer's block -/
theorem head_ext (w : World) (kind t n : Int) (r : Rw) (A : Option Addr) (l c : Nat) : Ext w ((w.alloc (sblk kind t n r A l c)).alloc ablk) := (Ext.new w _).alloc _
structure Hd (W w w1 : World) (g m N : Nat) (f : ByteArray → Option Rw) (kind t n : Int) (r : Rw) (A : Option Addr) (l c : Nat) : Prop where
  md : Md W w1 g m N f
  stp : Stp w1 w.heap.size kind t n r A l c
  ans : Blk w1 (w.heap.size + 1) 37 #[.int .i64 0, .slice none 0 0]
  ext : Ext w w1
theorem Hd.ex {W w w1 w2 : World} {g m N : Nat} {f : ByteArray → Option Rw} {kind t n : Int} {r : Rw} {A : Option Addr} {l c : Nat} (h : Hd W w w1 g m N f kind t n r A l c) (hx : Ext w1 w2) : Hd W w w2 g m N f kind t n r A l c :=
  ⟨h.md.ex hx, hx.blk h.stp, hx.blk h.ans, h.ext.trans hx⟩
theorem Hd.start {W w w1 : World} {g m N : Nat} {f : ByteArray → Option Rw} {kind t n : Int} {r : Rw} {A : Option Addr} {l c : Nat} (h : Md W w g m N f) (hx : Ext ((w.alloc (sblk kind t n r A l c)).alloc ablk) w1) : Hd W w w1 g m N f kind t n r A l c :=
  ⟨h.ex ((head_ext w kind t n r A l c).trans hx), hx.blk ((Ext.new _ _).blk (Blk.new w 34 _)), hx.blk (blk2 w _ 37 _), (head_ext w kind t n r A l c).trans hx⟩
theorem own_row1 {w : World} {B b : Nat} {cs : Array Value} (h : Blk w b 31 cs) (hB : B ≤ b) (hc : cs.size = 3) : w.ownsRow B 31 3 (.slice (some ⟨b, 0, none⟩) 1 1) 1 cs.toList := by
  refine ⟨by simpa using hc, .inr ⟨b, 1, cs, rfl, hB, h, Nat.le_refl _, by unfold maxLen; omega, by omega, ?_⟩⟩
  rw [List.take_of_length_le (by simp; omega)]
/-- the answer is laid -/
theorem ans_end {w wx : World} {a0 a1 : Value} (ha : Blk wx (w.heap.size + 1) 37 #[a0, a1]) (hx : Ext w wx) (u0 u1 : Value) :
    Blk ((wx.setCell ⟨w.heap.size + 1, 0, none⟩ u0).setCell ⟨w.heap.size + 1, 1, none⟩ u1) (w.heap.size + 1) 37 #[u0, u1] ∧ Ext w ((wx.setCell ⟨w.heap.size + 1, 0, none⟩ u0).setCell ⟨w.heap.size + 1, 1, none⟩ u1) :=
  ⟨ha.set2 u0 u1, Touch.ext hx (touch_set2 wx (w.heap.size + 1) u0 u1) (Nat.le_succ _)⟩
theorem Md.ans {W w wx : World} {g m N : Nat} {f : ByteArray → Option Rw} {a0 a1 : Value} (h : Md W wx g m N f) (hW : Ext W w) (ha : Blk wx (w.heap.size + 1) 37 #[a0, a1]) (u0 u1 : Value) : Md W ((wx.setCell ⟨w.heap.size + 1, 0, none⟩ u0).setCell ⟨w.heap.size + 1, 1, none⟩ u1) g m N f := by
  have ht := touch_set2 wx (w.heap.size + 1) u0 u1
  have hm : m ≠ w.heap.size + 1 := by obtain ⟨D, h', _⟩ := h.rows; exact fun e => map_ne ha (e ▸ h') rfl
  exact { h with blk := ht.blk h.blk (Blk.ne_ h.blk ha (by decide)), rows := h.rows.touch ht hm, ext := Touch.ext h.ext ht (Nat.le_trans hW.size (Nat.le_succ _)) }
/-- the table has turned -/
theorem Md.turn {W w w' : World} {g m N N' : Nat} {f f' : ByteArray → Option Rw} (h : Md W w g m N f) (hr : RowsAt w' m N' f') (ht : Touch w w' (fun k => k = m)) (hk : ∀ x r, f' x = some r → r.k = x ∧ Rz r) : Md W w' g m N' f' := by
  have hm : g ≠ m := by obtain ⟨D, h', _⟩ := h.rows; exact map_ne h.blk h'
  exact ⟨ht.blk h.blk hm, hr, hk, h.hg, h.hm, Touch.ext h.ext ht h.hm⟩
theorem done_blk {w wc w5 : World} {m N : Nat} {f : ByteArray → Option Rw} (hx : Ext w wc) (hr : RowsAt wc m N f) (ht : Touch wc w5 (fun k => k = m)) (u0 u1 : Value) :
    ∀ k t cs, Blk w k t cs → t ≠ 52 → Blk ((w5.setCell ⟨w.heap.size + 1, 0, none⟩ u0).setCell ⟨w.heap.size + 1, 1, none⟩ u1) k t cs := fun k t cs hk _ => by
  have h1 := hx.blk hk
  have hm : k ≠ m := by obtain ⟨D, h', _⟩ := hr; exact map_ne h1 h'
  have := hk.lt
  exact (touch_set2 w5 (w.heap.size + 1) u0 u1).blk (ht.blk h1 hm) (by omega)
theorem put_key {f : ByteArray → Option Rw} {r : Rw} (h : ∀ x q, f x = some q → q.k = x ∧ Rz q) (hz : Rz r) : ∀ x q, putR f r.k (some r) x = some q → q.k = x ∧ Rz q := fun x q hq => by
  unfold putR at hq
  split at hq
  · injection hq with hq; subst hq; exact ⟨by rename_i e; exact e.symm, hz⟩
  · exact h x q hq
theorem del_key {f : ByteArray → Option Rw} {y : ByteArray} (h : ∀ x q, f x = some q → q.k = x ∧ Rz q) : ∀ x q, putR f y none x = some q → q.k = x ∧ Rz q := fun x q hq => by
  unfold putR at hq
  split at hq
  · cases hq
  · exact h x q hq
/-- Do went wrong: which error -/
def Err (w : World) (x : Int) (e : Ending) (w' : World) : Prop := e = .returned (.agg #[.int .i64 x, .slice none 0 0]) ∧ Ext w w'
/-- Do has turned the table -/
def Done (W : World) (g m N : Nat) (f : ByteArray → Option Rw) (w : World) (e : Ending) (w' : World) : Prop := e = .returned (.agg #[.int .i64 0, .slice none 0 0]) ∧ Md W w' g m N f ∧ (∀ k t cs, Blk w k t cs → t ≠ 52 → Blk w' k t cs)
/-- Do tells rows -/
def Tells (w : World) (l : List Rw) (e : Ending) (w' : World) : Prop := ∃ A c, e = .returned (.agg #[.int .i64 0, .slice A l.length c]) ∧ w'.ownsRow w.heap.size 31 3 (.slice A l.length c) l.length (rcs l) ∧ Ext w w'
set_option maxRecDepth 100000 in
set_option maxHeartbeats 4000000 in
theorem do_get (W w : World) (g m N : Nat) (f : ByteArray → Option Rw) (t n : Int) (r : Rw) (A : Option Addr) (l c : Nat) (h : Md W w g m N f) (hN : N ≤ 1000) (hz : Rz r) (hm : mayS 2 r = true) (o : Rw) (ho : f r.k = some o) :
    Calls Try.prog 10 #[.pointer (some ⟨g, 0, none⟩), stv 2 t n r A l c] w (Tells w [o]) := by
  have hM := hide (fun w => may_any 2 t n r A l c w hz.1 hz.2.1 hz.2.2)
  have HM := hide hm
  have H := hide h
  have HZ := hide hz
  have hxz : Sz r.k := hz.1
  obtain ⟨old, hold⟩ : ∃ old, old = (f r.k).getD r0 := ⟨_, rfl⟩
  have true_ := hide (show (f r.k).isSome = true by rw [ho]; rfl)
  have HOO := hide ho
  clear ho
  have HOLD := hide hold
  clear hm hz h hold
  simp only [stv] at hM ⊢
  go_enter Try.func10, Try.ntmps10
  go_wp2_with (go_at_call 16; refine (hM.out _).mono ?_; rintro e w1 ⟨rfl, x1⟩; rw [HM.out]; have HH := hide (Hd.start (n := n) (r := r) (A := A) (l := l) (c := c) H.out x1); clear x1)
  have HS := hide (show ∀ w', Ext w1 w' → w'.cell? ⟨g, 0, none⟩ = some (.map (some m)) ∧ w'.cell? ⟨w.heap.size, 3, none⟩ = some (.string r.k) ∧ (Instr.lookup 50 (.map (some m)) (.string r.k) true).run Try.prog w' = .ok (.tuple #[rv old, .bool true]) w' from fun w' hx => by
    have hh := HH.out.ex hx
    refine ⟨by simpa using hh.md.blk.cell 0, by simpa using hh.stp.cell 3, ?_⟩
    have := hh.md.rows.look_ok hxz
    rw [← HOLD.out, true_.out] at this
    exact this)
  have hlt1 : w.heap.size + 1 < w1.heap.size := HH.out.ans.lt
  simp only [rv] at HS
  go_cut [5, 6] (fun s5 s6 wx => ∃ rb, s5 = .pointer (some ⟨rb, 0, none⟩) ∧ s6 = .bool true ∧ Ext w1 wx ∧ Blk wx rb 31 #[.string old.k, .string old.s, .string old.v])
  case first =>
    go_region_held3 (fun w' => w'.cell? ⟨g, 0, none⟩ = some (.map (some m)) ∧ w'.cell? ⟨w.heap.size, 3, none⟩ = some (.string r.k) ∧ (Instr.lookup 50 (.map (some m)) (.string r.k) true).run Try.prog w' = .ok (.tuple #[.agg #[.string old.k, .string old.s, .string old.v], .bool true]) w') (exact HS.out _ (by (repeat (first | with_reducible exact Ext.refl _ | with_reducible refine Ext.drew ?_ | with_reducible refine Ext.alloc ?_ _ | (with_reducible refine Ext.set_ ?_ ?_ _; rotate_left; · (simp <;> omega)))))) (fail)
    all_goals
      go_wp2_with (fail)
      go_meet
      case rel => exact ⟨_, rfl, rfl, (by (repeat (first | with_reducible exact Ext.refl _ | with_reducible refine Ext.drew ?_ | with_reducible refine Ext.alloc ?_ _))), Blk.new w1 31 _⟩
  case rest =>
    obtain ⟨rb, rfl, rfl, hxc, hrb⟩ := hcut
    have HC := hide (HH.out.ex hxc)
    have hk0 := HC.out.stp.cell 0
    have hk3 := HC.out.stp.cell 3
    have ha0 := HC.out.ans.cell 0
    have ha1 := HC.out.ans.cell 1
    simp at hk0 hk3 ha0 ha1
    have fa0 := HC.out.ans.frozen 0
    have fa1 := HC.out.ans.frozen 1
    have hlt2 : w.heap.size + 1 < wc.heap.size := HC.out.ans.lt
    have HRB := hide hrb
    clear HS HH hM HM hxc hrb hlt1
    have r0 := HRB.out.cell 0
    have r1 := HRB.out.cell 1
    have r2 := HRB.out.cell 2
    simp at r0 r1 r2
    go_wp2_with (fail)
    have hE := ans_end (w := w) HC.out.ans HC.out.ext (.int .i64 0) (.slice (some ⟨wc.heap.size, 0, none⟩) 1 1)
    have hE2 := hE.1.alloc (.cells #[.string old.k, .string old.s, .string old.v] 31)
    have q0 := hE2.cell 0
    have q1 := hE2.cell 1
    simp only [List.getElem?_toArray, List.getElem?_cons_zero, List.getElem?_cons_succ] at q0 q1
    have hb := Blk.new ((wc.setCell ⟨w.heap.size + 1, 0, none⟩ (.int .i64 0)).setCell ⟨w.heap.size + 1, 1, none⟩ (.slice (some ⟨wc.heap.size, 0, none⟩) 1 1)) 31 #[.string old.k, .string old.s, .string old.v]
    have es : ((wc.setCell ⟨w.heap.size + 1, 0, none⟩ (.int .i64 0)).setCell ⟨w.heap.size + 1, 1, none⟩ (.slice (some ⟨wc.heap.size, 0, none⟩) 1 1)).heap.size = wc.heap.size := by simp [World.setCell]
    rw [es] at hb
    have eo : old = o := by rw [HOLD.out, HOO.out]; rfl
    refine bodyPost_ret (v := .agg #[.int .i64 0, .slice (some ⟨wc.heap.size, 0, none⟩) 1 1]) (by simp [results, Try.results10, go_sem, q0, q1]) rfl ⟨some ⟨wc.heap.size, 0, none⟩, 1, rfl, ?_, hE.2.alloc _⟩
    have := own_row1 hb HC.out.ext.size rfl
    rw [eo] at this ⊢
    simpa [rcs, rc] using this
set_option maxRecDepth 100000 in
set_option maxHeartbeats 4000000 in
theorem do_get_none (W w : World) (g m N : Nat) (f : ByteArray → Option Rw) (t n : Int) (r : Rw) (A : Option Addr) (l c : Nat) (h : Md W w g m N f) (hN : N ≤ 1000) (hz : Rz r) (hm : mayS 2 r = true) (ho : f r.k = none) :
    Calls Try.prog 10 #[.pointer (some ⟨g, 0, none⟩), stv 2 t n r A l c] w (Err w 9) := by
  have hM := hide (fun w => may_any 2 t n r A l c w hz.1 hz.2.1 hz.2.2)
  have HM := hide hm
  have H := hide h
  have HZ := hide hz
  have hxz : Sz r.k := hz.1
  obtain ⟨old, hold⟩ : ∃ old, old = (f r.k).getD r0 := ⟨_, rfl⟩
  have false_ := hide (show (f r.k).isSome = false by rw [ho]; rfl)
  clear ho
  have HOLD := hide hold
  clear hm hz h hold
  simp only [stv] at hM ⊢
  go_enter Try.func10, Try.ntmps10
  go_wp2_with (go_at_call 16; refine (hM.out _).mono ?_; rintro e w1 ⟨rfl, x1⟩; rw [HM.out]; have HH := hide (Hd.start (n := n) (r := r) (A := A) (l := l) (c := c) H.out x1); clear x1)
  have HS := hide (show ∀ w', Ext w1 w' → w'.cell? ⟨g, 0, none⟩ = some (.map (some m)) ∧ w'.cell? ⟨w.heap.size, 3, none⟩ = some (.string r.k) ∧ (Instr.lookup 50 (.map (some m)) (.string r.k) true).run Try.prog w' = .ok (.tuple #[rv old, .bool false]) w' from fun w' hx => by
    have hh := HH.out.ex hx
    refine ⟨by simpa using hh.md.blk.cell 0, by simpa using hh.stp.cell 3, ?_⟩
    have := hh.md.rows.look_ok hxz
    rw [← HOLD.out, false_.out] at this
    exact this)
  have hlt1 : w.heap.size + 1 < w1.heap.size := HH.out.ans.lt
  simp only [rv] at HS
  go_cut [5, 6] (fun s5 s6 wx => ∃ rb, s5 = .pointer (some ⟨rb, 0, none⟩) ∧ s6 = .bool false ∧ Ext w1 wx ∧ Blk wx rb 31 #[.string old.k, .string old.s, .string old.v])
  case first =>
    go_region_held3 (fun w' => w'.cell? ⟨g, 0, none⟩ = some (.map (some m)) ∧ w'.cell? ⟨w.heap.size, 3, none⟩ = some (.string r.k) ∧ (Instr.lookup 50 (.map (some m)) (.string r.k) true).run Try.prog w' = .ok (.tuple #[.agg #[.string old.k, .string old.s, .string old.v], .bool false]) w') (exact HS.out _ (by (repeat (first | with_reducible exact Ext.refl _ | with_reducible refine Ext.drew ?_ | with_reducible refine Ext.alloc ?_ _ | (with_reducible refine Ext.set_ ?_ ?_ _; rotate_left; · (simp <;> omega)))))) (fail)
    all_goals
      go_wp2_with (fail)
      go_meet
      case rel => exact ⟨_, rfl, rfl, (by (repeat (first | with_reducible exact Ext.refl _ | with_reducible refine Ext.drew ?_ | with_reducible refine Ext.alloc ?_ _))), Blk.new w1 31 _⟩
  case rest =>
    obtain ⟨rb, rfl, rfl, hxc, hrb⟩ := hcut
    have HC := hide (HH.out.ex hxc)
    have hk0 := HC.out.stp.cell 0
    have hk3 := HC.out.stp.cell 3
    have ha0 := HC.out.ans.cell 0
    have ha1 := HC.out.ans.cell 1
    simp at hk0 hk3 ha0 ha1
    have fa0 := HC.out.ans.frozen 0
    have fa1 := HC.out.ans.frozen 1
    have hlt2 : w.heap.size + 1 < wc.heap.size := HC.out.ans.lt
    have HRB := hide hrb
    clear HS HH hM HM hxc hrb hlt1
    have hB := hide (fun w => bad_any 9 w)
    go_wp2_with (go_at_call 17; refine (hB.out _).mono ?_; rintro e w2 ⟨rfl, x2⟩; have HC2 := hide (HC.out.ex x2); have b0 := HC2.out.ans.cell 0; have b1 := HC2.out.ans.cell 1; simp at b0 b1; have fb0 := HC2.out.ans.frozen 0; have fb1 := HC2.out.ans.frozen 1)
    have hE := ans_end (w := w) HC2.out.ans HC2.out.ext (.int .i64 9) (.slice none 0 0)
    have q0 := hE.1.cell 0
    have q1 := hE.1.cell 1
    simp only [List.getElem?_toArray, List.getElem?_cons_zero, List.getElem?_cons_succ] at q0 q1
    exact bodyPost_ret (v := .agg #[.int .i64 9, .slice none 0 0]) (by simp [results, Try.results10, go_sem, q0, q1]) rfl ⟨rfl, hE.2⟩
set_option maxRecDepth 100000 in
set_option maxHeartbeats 4000000 in
theorem do_upd_none (W w : World) (g m N : Nat) (f : ByteArray → Option Rw) (t n : Int) (r : Rw) (A : Option Addr) (l c : Nat) (h : Md W w g m N f) (hN : N ≤ 1000) (hz : Rz r) (hm : mayS 4 r = true) (ho : f r.k = none) :
    Calls Try.prog 10 #[.pointer (some ⟨g, 0, none⟩), stv 4 t n r A l c] w (Err w 9) := by
  have hM := hide (fun w => may_any 4 t n r A l c w hz.1 hz.2.1 hz.2.2)
  have HM := hide hm
  have H := hide h
  have HZ := hide hz
  have hxz : Sz r.k := hz.1
  obtain ⟨old, hold⟩ : ∃ old, old = (f r.k).getD r0 := ⟨_, rfl⟩
  have false_ := hide (show (f r.k).isSome = false by rw [ho]; rfl)
  clear ho
  have HOLD := hide hold
  clear hm hz h hold
  simp only [stv] at hM ⊢
  go_enter Try.func10, Try.ntmps10
  go_wp2_with (go_at_call 16; refine (hM.out _).mono ?_; rintro e w1 ⟨rfl, x1⟩; rw [HM.out]; have HH := hide (Hd.start (n := n) (r := r) (A := A) (l := l) (c := c) H.out x1); clear x1)
  have HS := hide (show ∀ w', Ext w1 w' → w'.cell? ⟨g, 0, none⟩ = some (.map (some m)) ∧ w'.cell? ⟨w.heap.size, 3, none⟩ = some (.string r.k) ∧ (Instr.lookup 50 (.map (some m)) (.string r.k) true).run Try.prog w' = .ok (.tuple #[rv old, .bool false]) w' from fun w' hx => by
    have hh := HH.out.ex hx
    refine ⟨by simpa using hh.md.blk.cell 0, by simpa using hh.stp.cell 3, ?_⟩
    have := hh.md.rows.look_ok hxz
    rw [← HOLD.out, false_.out] at this
    exact this)
  have hlt1 : w.heap.size + 1 < w1.heap.size := HH.out.ans.lt
  simp only [rv] at HS
  go_cut [5, 6] (fun s5 s6 wx => ∃ rb, s5 = .pointer (some ⟨rb, 0, none⟩) ∧ s6 = .bool false ∧ Ext w1 wx ∧ Blk wx rb 31 #[.string old.k, .string old.s, .string old.v])
  case first =>
    go_region_held3 (fun w' => w'.cell? ⟨g, 0, none⟩ = some (.map (some m)) ∧ w'.cell? ⟨w.heap.size, 3, none⟩ = some (.string r.k) ∧ (Instr.lookup 50 (.map (some m)) (.string r.k) true).run Try.prog w' = .ok (.tuple #[.agg #[.string old.k, .string old.s, .string old.v], .bool false]) w') (exact HS.out _ (by (repeat (first | with_reducible exact Ext.refl _ | with_reducible refine Ext.drew ?_ | with_reducible refine Ext.alloc ?_ _ | (with_reducible refine Ext.set_ ?_ ?_ _; rotate_left; · (simp <;> omega)))))) (fail)
    all_goals
      go_wp2_with (fail)
      go_meet
      case rel => exact ⟨_, rfl, rfl, (by (repeat (first | with_reducible exact Ext.refl _ | with_reducible refine Ext.drew ?_ | with_reducible refine Ext.alloc ?_ _))), Blk.new w1 31 _⟩
  case rest =>
    obtain ⟨rb, rfl, rfl, hxc, hrb⟩ := hcut
    have HC := hide (HH.out.ex hxc)
    have hk0 := HC.out.stp.cell 0
    have hk3 := HC.out.stp.cell 3
    have ha0 := HC.out.ans.cell 0
    have ha1 := HC.out.ans.cell 1
    simp at hk0 hk3 ha0 ha1
    have fa0 := HC.out.ans.frozen 0
    have fa1 := HC.out.ans.frozen 1
    have hlt2 : w.heap.size + 1 < wc.heap.size := HC.out.ans.lt
    have HRB := hide hrb
    clear HS HH hM HM hxc hrb hlt1
    have hB := hide (fun w => bad_any 9 w)
    go_wp2_with (go_at_call 17; refine (hB.out _).mono ?_; rintro e w2 ⟨rfl, x2⟩; have HC2 := hide (HC.out.ex x2); have b0 := HC2.out.ans.cell 0; have b1 := HC2.out.ans.cell 1; simp at b0 b1; have fb0 := HC2.out.ans.frozen 0; have fb1 := HC2.out.ans.frozen 1)
    have hE := ans_end (w := w) HC2.out.ans HC2.out.ext (.int .i64 9) (.slice none 0 0)
    have q0 := hE.1.cell 0
    have q1 := hE.1.cell 1
    simp only [List.getElem?_toArray, List.getElem?_cons_zero, List.getElem?_cons_succ] at q0 q1
    exact bodyPost_ret (v := .agg #[.int .i64 9, .slice none 0 0]) (by simp [results, Try.results10, go_sem, q0, q1]) rfl ⟨rfl, hE.2⟩
set_option maxRecDepth 100000 in
set_option maxHeartbeats 4000000 in
theorem do_del_none (W w : World) (g m N : Nat) (f : ByteArray → Option Rw) (t n : Int) (r : Rw) (A : Option Addr) (l c : Nat) (h : Md W w g m N f) (hN : N ≤ 1000) (hz : Rz r) (hm : mayS 5 r = true) (ho : f r.k = none) :
    Calls Try.prog 10 #[.pointer (some ⟨g, 0, none⟩), stv 5 t n r A l c] w (Err w 9) := by
  have hM := hide (fun w => may_any 5 t n r A l c w hz.1 hz.2.1 hz.2.2)
  have HM := hide hm
  have H := hide h
  have HZ := hide hz
  have hxz : Sz r.k := hz.1
  obtain ⟨old, hold⟩ : ∃ old, old = (f r.k).getD r0 := ⟨_, rfl⟩
  have false_ := hide (show (f r.k).isSome = false by rw [ho]; rfl)
  clear ho
  have HOLD := hide hold
  clear hm hz h hold
  simp only [stv] at hM ⊢
  go_enter Try.func10, Try.ntmps10
  go_wp2_with (go_at_call 16; refine (hM.out _).mono ?_; rintro e w1 ⟨rfl, x1⟩; rw [HM.out]; have HH := hide (Hd.start (n := n) (r := r) (A := A) (l := l) (c := c) H.out x1); clear x1)
  have HS := hide (show ∀ w', Ext w1 w' → w'.cell? ⟨g, 0, none⟩ = some (.map (some m)) ∧ w'.cell? ⟨w.heap.size, 3, none⟩ = some (.string r.k) ∧ (Instr.lookup 50 (.map (some m)) (.string r.k) true).run Try.prog w' = .ok (.tuple #[rv old, .bool false]) w' from fun w' hx => by
    have hh := HH.out.ex hx
    refine ⟨by simpa using hh.md.blk.cell 0, by simpa using hh.stp.cell 3, ?_⟩
    have := hh.md.rows.look_ok hxz
    rw [← HOLD.out, false_.out] at this
    exact this)
  have hlt1 : w.heap.size + 1 < w1.heap.size := HH.out.ans.lt
  simp only [rv] at HS
  go_cut [5, 6] (fun s5 s6 wx => ∃ rb, s5 = .pointer (some ⟨rb, 0, none⟩) ∧ s6 = .bool false ∧ Ext w1 wx ∧ Blk wx rb 31 #[.string old.k, .string old.s, .string old.v])
  case first =>
    go_region_held3 (fun w' => w'.cell? ⟨g, 0, none⟩ = some (.map (some m)) ∧ w'.cell? ⟨w.heap.size, 3, none⟩ = some (.string r.k) ∧ (Instr.lookup 50 (.map (some m)) (.string r.k) true).run Try.prog w' = .ok (.tuple #[.agg #[.string old.k, .string old.s, .string old.v], .bool false]) w') (exact HS.out _ (by (repeat (first | with_reducible exact Ext.refl _ | with_reducible refine Ext.drew ?_ | with_reducible refine Ext.alloc ?_ _ | (with_reducible refine Ext.set_ ?_ ?_ _; rotate_left; · (simp <;> omega)))))) (fail)
    all_goals
      go_wp2_with (fail)
      go_meet
      case rel => exact ⟨_, rfl, rfl, (by (repeat (first | with_reducible exact Ext.refl _ | with_reducible refine Ext.drew ?_ | with_reducible refine Ext.alloc ?_ _))), Blk.new w1 31 _⟩
  case rest =>
    obtain ⟨rb, rfl, rfl, hxc, hrb⟩ := hcut
    have HC := hide (HH.out.ex hxc)
    have hk0 := HC.out.stp.cell 0
    have hk3 := HC.out.stp.cell 3
    have ha0 := HC.out.ans.cell 0
    have ha1 := HC.out.ans.cell 1
    simp at hk0 hk3 ha0 ha1
    have fa0 := HC.out.ans.frozen 0
    have fa1 := HC.out.ans.frozen 1
    have hlt2 : w.heap.size + 1 < wc.heap.size := HC.out.ans.lt
    have HRB := hide hrb
    clear HS HH hM HM hxc hrb hlt1
    have hB := hide (fun w => bad_any 9 w)
    go_wp2_with (go_at_call 17; refine (hB.out _).mono ?_; rintro e w2 ⟨rfl, x2⟩; have HC2 := hide (HC.out.ex x2); have b0 := HC2.out.ans.cell 0; have b1 := HC2.out.ans.cell 1; simp at b0 b1; have fb0 := HC2.out.ans.frozen 0; have fb1 := HC2.out.ans.frozen 1)
    have hE := ans_end (w := w) HC2.out.ans HC2.out.ext (.int .i64 9) (.slice none 0 0)
    have q0 := hE.1.cell 0
    have q1 := hE.1.cell 1
    simp only [List.getElem?_toArray, List.getElem?_cons_zero, List.getElem?_cons_succ] at q0 q1
    exact bodyPost_ret (v := .agg #[.int .i64 9, .slice none 0 0]) (by simp [results, Try.results10, go_sem, q0, q1]) rfl ⟨rfl, hE.2⟩
set_option maxRecDepth 100000 in
set_option maxHeartbeats 4000000 in
theorem do_put_dup (W w : World) (g m N : Nat) (f : ByteArray → Option Rw) (t n : Int) (r : Rw) (A : Option Addr) (l c : Nat) (h : Md W w g m N f) (hN : N ≤ 1000) (hz : Rz r) (hm : mayS 3 r = true) (o : Rw) (ho : f r.k = some o) :
    Calls Try.prog 10 #[.pointer (some ⟨g, 0, none⟩), stv 3 t n r A l c] w (Err w 8) := by
  have hM := hide (fun w => may_any 3 t n r A l c w hz.1 hz.2.1 hz.2.2)
  have HM := hide hm
  have H := hide h
  have HZ := hide hz
  have hxz : Sz r.k := hz.1
  obtain ⟨old, hold⟩ : ∃ old, old = (f r.k).getD r0 := ⟨_, rfl⟩
  have true_ := hide (show (f r.k).isSome = true by rw [ho]; rfl)
  have HOO := hide ho
  clear ho
  have HOLD := hide hold
  clear hm hz h hold
  simp only [stv] at hM ⊢
  go_enter Try.func10, Try.ntmps10
  go_wp2_with (go_at_call 16; refine (hM.out _).mono ?_; rintro e w1 ⟨rfl, x1⟩; rw [HM.out]; have HH := hide (Hd.start (n := n) (r := r) (A := A) (l := l) (c := c) H.out x1); clear x1)
  have HS := hide (show ∀ w', Ext w1 w' → w'.cell? ⟨g, 0, none⟩ = some (.map (some m)) ∧ w'.cell? ⟨w.heap.size, 3, none⟩ = some (.string r.k) ∧ (Instr.lookup 50 (.map (some m)) (.string r.k) true).run Try.prog w' = .ok (.tuple #[rv old, .bool true]) w' from fun w' hx => by
    have hh := HH.out.ex hx
    refine ⟨by simpa using hh.md.blk.cell 0, by simpa using hh.stp.cell 3, ?_⟩
    have := hh.md.rows.look_ok hxz
    rw [← HOLD.out, true_.out] at this
    exact this)
  have hlt1 : w.heap.size + 1 < w1.heap.size := HH.out.ans.lt
  simp only [rv] at HS
  go_cut [5, 6] (fun s5 s6 wx => ∃ rb, s5 = .pointer (some ⟨rb, 0, none⟩) ∧ s6 = .bool true ∧ Ext w1 wx ∧ Blk wx rb 31 #[.string old.k, .string old.s, .string old.v])
  case first =>
    go_region_held3 (fun w' => w'.cell? ⟨g, 0, none⟩ = some (.map (some m)) ∧ w'.cell? ⟨w.heap.size, 3, none⟩ = some (.string r.k) ∧ (Instr.lookup 50 (.map (some m)) (.string r.k) true).run Try.prog w' = .ok (.tuple #[.agg #[.string old.k, .string old.s, .string old.v], .bool true]) w') (exact HS.out _ (by (repeat (first | with_reducible exact Ext.refl _ | with_reducible refine Ext.drew ?_ | with_reducible refine Ext.alloc ?_ _ | (with_reducible refine Ext.set_ ?_ ?_ _; rotate_left; · (simp <;> omega)))))) (fail)
    all_goals
      go_wp2_with (fail)
      go_meet
      case rel => exact ⟨_, rfl, rfl, (by (repeat (first | with_reducible exact Ext.refl _ | with_reducible refine Ext.drew ?_ | with_reducible refine Ext.alloc ?_ _))), Blk.new w1 31 _⟩
  case rest =>
    obtain ⟨rb, rfl, rfl, hxc, hrb⟩ := hcut
    have HC := hide (HH.out.ex hxc)
    have hk0 := HC.out.stp.cell 0
    have hk3 := HC.out.stp.cell 3
    have ha0 := HC.out.ans.cell 0
    have ha1 := HC.out.ans.cell 1
    simp at hk0 hk3 ha0 ha1
    have fa0 := HC.out.ans.frozen 0
    have fa1 := HC.out.ans.frozen 1
    have hlt2 : w.heap.size + 1 < wc.heap.size := HC.out.ans.lt
    have HRB := hide hrb
    clear HS HH hM HM hxc hrb hlt1
    have hB := hide (fun w => bad_any 8 w)
    go_wp2_with (go_at_call 17; refine (hB.out _).mono ?_; rintro e w2 ⟨rfl, x2⟩; have HC2 := hide (HC.out.ex x2); have b0 := HC2.out.ans.cell 0; have b1 := HC2.out.ans.cell 1; simp at b0 b1; have fb0 := HC2.out.ans.frozen 0; have fb1 := HC2.out.ans.frozen 1)
    have hE := ans_end (w := w) HC2.out.ans HC2.out.ext (.int .i64 8) (.slice none 0 0)
    have q0 := hE.1.cell 0
    have q1 := hE.1.cell 1
    simp only [List.getElem?_toArray, List.getElem?_cons_zero, List.getElem?_cons_succ] at q0 q1
    exact bodyPost_ret (v := .agg #[.int .i64 8, .slice none 0 0]) (by simp [results, Try.results10, go_sem, q0, q1]) rfl ⟨rfl, hE.2⟩
set_option maxRecDepth 100000 in
set_option maxHeartbeats 4000000 in
theorem do_put (W w : World) (g m N : Nat) (f : ByteArray → Option Rw) (t n : Int) (r : Rw) (A : Option Addr) (l c : Nat) (h : Md W w g m N f) (hN : N ≤ 1000) (hz : Rz r) (hm : mayS 3 r = true) (ho : f r.k = none) :
    Calls Try.prog 10 #[.pointer (some ⟨g, 0, none⟩), stv 3 t n r A l c] w (Done W g m (N + 1) (putR f r.k (some r)) w) := by
  have hM := hide (fun w => may_any 3 t n r A l c w hz.1 hz.2.1 hz.2.2)
  have HM := hide hm
  have H := hide h
  have HZ := hide hz
  have hxz : Sz r.k := hz.1
  obtain ⟨old, hold⟩ : ∃ old, old = (f r.k).getD r0 := ⟨_, rfl⟩
  have false_ := hide (show (f r.k).isSome = false by rw [ho]; rfl)
  clear ho
  have HOLD := hide hold
  clear hm hz h hold
  simp only [stv] at hM ⊢
  go_enter Try.func10, Try.ntmps10
  go_wp2_with (go_at_call 16; refine (hM.out _).mono ?_; rintro e w1 ⟨rfl, x1⟩; rw [HM.out]; have HH := hide (Hd.start (n := n) (r := r) (A := A) (l := l) (c := c) H.out x1); clear x1)
  have HS := hide (show ∀ w', Ext w1 w' → w'.cell? ⟨g, 0, none⟩ = some (.map (some m)) ∧ w'.cell? ⟨w.heap.size, 3, none⟩ = some (.string r.k) ∧ (Instr.lookup 50 (.map (some m)) (.string r.k) true).run Try.prog w' = .ok (.tuple #[rv old, .bool false]) w' from fun w' hx => by
    have hh := HH.out.ex hx
    refine ⟨by simpa using hh.md.blk.cell 0, by simpa using hh.stp.cell 3, ?_⟩
    have := hh.md.rows.look_ok hxz
    rw [← HOLD.out, false_.out] at this
    exact this)
  have hlt1 : w.heap.size + 1 < w1.heap.size := HH.out.ans.lt
  simp only [rv] at HS
  go_cut [5, 6] (fun s5 s6 wx => ∃ rb, s5 = .pointer (some ⟨rb, 0, none⟩) ∧ s6 = .bool false ∧ Ext w1 wx ∧ Blk wx rb 31 #[.string old.k, .string old.s, .string old.v])
  case first =>
    go_region_held3 (fun w' => w'.cell? ⟨g, 0, none⟩ = some (.map (some m)) ∧ w'.cell? ⟨w.heap.size, 3, none⟩ = some (.string r.k) ∧ (Instr.lookup 50 (.map (some m)) (.string r.k) true).run Try.prog w' = .ok (.tuple #[.agg #[.string old.k, .string old.s, .string old.v], .bool false]) w') (exact HS.out _ (by (repeat (first | with_reducible exact Ext.refl _ | with_reducible refine Ext.drew ?_ | with_reducible refine Ext.alloc ?_ _ | (with_reducible refine Ext.set_ ?_ ?_ _; rotate_left; · (simp <;> omega)))))) (fail)
    all_goals
      go_wp2_with (fail)
      go_meet
      case rel => exact ⟨_, rfl, rfl, (by (repeat (first | with_reducible exact Ext.refl _ | with_reducible refine Ext.drew ?_ | with_reducible refine Ext.alloc ?_ _))), Blk.new w1 31 _⟩
  case rest =>
    obtain ⟨rb, rfl, rfl, hxc, hrb⟩ := hcut
    have HC := hide (HH.out.ex hxc)
    have hk0 := HC.out.stp.cell 0
    have hk3 := HC.out.stp.cell 3
    have ha0 := HC.out.ans.cell 0
    have ha1 := HC.out.ans.cell 1
    simp at hk0 hk3 ha0 ha1
    have fa0 := HC.out.ans.frozen 0
    have fa1 := HC.out.ans.frozen 1
    have hlt2 : w.heap.size + 1 < wc.heap.size := HC.out.ans.lt
    have HRB := hide hrb
    clear HS HH hM HM hxc hrb hlt1
    have hk4 := HC.out.stp.cell 4
    have hk5 := HC.out.stp.cell 5
    simp at hk4 hk5
    have HRW := hide (HC.out.md.rows.ext (Ext.drew (Ext.refl wc)))
    have hc0 := HC.out.md.blk.cell 0
    simp at hc0
    go_wp2_with (fail)
    go_still_tail 9, (by kernel_rfl)
    change wpList _ _ _ _ _ wc.drew
    go_wp2_with (at_mapUpdate; refine RowsAt.store rfl _ _ _ rfl rfl HRW.out (by unfold maxLen; omega) r.k r rfl rfl hxz ?_; intro w5 ho5 ht5; have HO5 := hide ho5; have HT5 := hide (show Touch wc w5 (fun k => k = m) from (Touch.of_below (Ext.drew (Ext.refl wc)) _).trans ht5 (fun _ _ h => h)); have hmb : w.heap.size + 1 ≠ m := (by obtain ⟨D, h', _⟩ := HC.out.md.rows; exact map_ne HC.out.ans h'); have ans5 := HT5.out.blk HC.out.ans hmb; have b0 := ans5.cell 0; have b1 := ans5.cell 1; simp at b0 b1; have fb0 := ans5.frozen 0; have fb1 := ans5.frozen 1; clear ho5 ht5 hmb)
    have md5 := HC.out.md.turn HO5.out HT5.out (put_key HC.out.md.key HZ.out)
    have hE := md5.ans H.out.ext ans5 (.int .i64 0) (.slice none 0 0)
    have e2 := ans5.set2 (.int .i64 0) (.slice none 0 0)
    have q0 := e2.cell 0
    have q1 := e2.cell 1
    simp only [List.getElem?_toArray, List.getElem?_cons_zero, List.getElem?_cons_succ] at q0 q1
    exact bodyPost_ret (v := .agg #[.int .i64 0, .slice none 0 0]) (by simp [results, Try.results10, go_sem, q0, q1]) rfl ⟨rfl, hE, done_blk HC.out.ext HC.out.md.rows HT5.out _ _⟩
set_option maxRecDepth 100000 in
set_option maxHeartbeats 4000000 in
theorem do_upd (W w : World) (g m N : Nat) (f : ByteArray → Option Rw) (t n : Int) (r : Rw) (A : Option Addr) (l c : Nat) (h : Md W w g m N f) (hN : N ≤ 1000) (hz : Rz r) (hm : mayS 4 r = true) (o : Rw) (ho : f r.k = some o) :
    Calls Try.prog 10 #[.pointer (some ⟨g, 0, none⟩), stv 4 t n r A l c] w (Done W g m (N + 1) (putR f r.k (some r)) w) := by
  have hM := hide (fun w => may_any 4 t n r A l c w hz.1 hz.2.1 hz.2.2)
  have HM := hide hm
  have H := hide h
  have HZ := hide hz
  have hxz : Sz r.k := hz.1
  obtain ⟨old, hold⟩ : ∃ old, old = (f r.k).getD r0 := ⟨_, rfl⟩
  have true_ := hide (show (f r.k).isSome = true by rw [ho]; rfl)
  have HOO := hide ho
  clear ho
  have HOLD := hide hold
  clear hm hz h hold
  simp only [stv] at hM ⊢
  go_enter Try.func10, Try.ntmps10
  go_wp2_with (go_at_call 16; refine (hM.out _).mono ?_; rintro e w1 ⟨rfl, x1⟩; rw [HM.out]; have HH := hide (Hd.start (n := n) (r := r) (A := A) (l := l) (c := c) H.out x1); clear x1)
  have HS := hide (show ∀ w', Ext w1 w' → w'.cell? ⟨g, 0, none⟩ = some (.map (some m)) ∧ w'.cell? ⟨w.heap.size, 3, none⟩ = some (.string r.k) ∧ (Instr.lookup 50 (.map (some m)) (.string r.k) true).run Try.prog w' = .ok (.tuple #[rv old, .bool true]) w' from fun w' hx => by
    have hh := HH.out.ex hx
    refine ⟨by simpa using hh.md.blk.cell 0, by simpa using hh.stp.cell 3, ?_⟩
    have := hh.md.rows.look_ok hxz
    rw [← HOLD.out, true_.out] at this
    exact this)
  have hlt1 : w.heap.size + 1 < w1.heap.size := HH.out.ans.lt
  simp only [rv] at HS
  go_cut [5, 6] (fun s5 s6 wx => ∃ rb, s5 = .pointer (some ⟨rb, 0, none⟩) ∧ s6 = .bool true ∧ Ext w1 wx ∧ Blk wx rb 31 #[.string old.k, .string old.s, .string old.v])
  case first =>
    go_region_held3 (fun w' => w'.cell? ⟨g, 0, none⟩ = some (.map (some m)) ∧ w'.cell? ⟨w.heap.size, 3, none⟩ = some (.string r.k) ∧ (Instr.lookup 50 (.map (some m)) (.string r.k) true).run Try.prog w' = .ok (.tuple #[.agg #[.string old.k, .string old.s, .string old.v], .bool true]) w') (exact HS.out _ (by (repeat (first | with_reducible exact Ext.refl _ | with_reducible refine Ext.drew ?_ | with_reducible refine Ext.alloc ?_ _ | (with_reducible refine Ext.set_ ?_ ?_ _; rotate_left; · (simp <;> omega)))))) (fail)
    all_goals
      go_wp2_with (fail)
      go_meet
      case rel => exact ⟨_, rfl, rfl, (by (repeat (first | with_reducible exact Ext.refl _ | with_reducible refine Ext.drew ?_ | with_reducible refine Ext.alloc ?_ _))), Blk.new w1 31 _⟩
  case rest =>
    obtain ⟨rb, rfl, rfl, hxc, hrb⟩ := hcut
    have HC := hide (HH.out.ex hxc)
    have hk0 := HC.out.stp.cell 0
    have hk3 := HC.out.stp.cell 3
    have ha0 := HC.out.ans.cell 0
    have ha1 := HC.out.ans.cell 1
    simp at hk0 hk3 ha0 ha1
    have fa0 := HC.out.ans.frozen 0
    have fa1 := HC.out.ans.frozen 1
    have hlt2 : w.heap.size + 1 < wc.heap.size := HC.out.ans.lt
    have HRB := hide hrb
    clear HS HH hM HM hxc hrb hlt1
    have hk4 := HC.out.stp.cell 4
    have hk5 := HC.out.stp.cell 5
    simp at hk4 hk5
    have HRW := hide (HC.out.md.rows.ext (Ext.drew (Ext.refl wc)))
    have hc0 := HC.out.md.blk.cell 0
    simp at hc0
    go_wp2_with (fail)
    go_still_tail 9, (by kernel_rfl)
    change wpList _ _ _ _ _ wc.drew
    go_wp2_with (at_mapUpdate; refine RowsAt.store rfl _ _ _ rfl rfl HRW.out (by unfold maxLen; omega) r.k r rfl rfl hxz ?_; intro w5 ho5 ht5; have HO5 := hide ho5; have HT5 := hide (show Touch wc w5 (fun k => k = m) from (Touch.of_below (Ext.drew (Ext.refl wc)) _).trans ht5 (fun _ _ h => h)); have hmb : w.heap.size + 1 ≠ m := (by obtain ⟨D, h', _⟩ := HC.out.md.rows; exact map_ne HC.out.ans h'); have ans5 := HT5.out.blk HC.out.ans hmb; have b0 := ans5.cell 0; have b1 := ans5.cell 1; simp at b0 b1; have fb0 := ans5.frozen 0; have fb1 := ans5.frozen 1; clear ho5 ht5 hmb)
    have md5 := HC.out.md.turn HO5.out HT5.out (put_key HC.out.md.key HZ.out)
    have hE := md5.ans H.out.ext ans5 (.int .i64 0) (.slice none 0 0)
    have e2 := ans5.set2 (.int .i64 0) (.slice none 0 0)
    have q0 := e2.cell 0
    have q1 := e2.cell 1
    simp only [List.getElem?_toArray, List.getElem?_cons_zero, List.getElem?_cons_succ] at q0 q1
    exact bodyPost_ret (v := .agg #[.int .i64 0, .slice none 0 0]) (by simp [results, Try.results10, go_sem, q0, q1]) rfl ⟨rfl, hE, done_blk HC.out.ext HC.out.md.rows HT5.out _ _⟩
set_option maxRecDepth 100000 in
set_option maxHeartbeats 4000000 in
theorem do_del (W w : World) (g m N : Nat) (f : ByteArray → Option Rw) (t n : Int) (r : Rw) (A : Option Addr) (l c : Nat) (h : Md W w g m N f) (hN : N ≤ 1000) (hz : Rz r) (hm : mayS 5 r = true) (o : Rw) (ho : f r.k = some o) :
    Calls Try.prog 10 #[.pointer (some ⟨g, 0, none⟩), stv 5 t n r A l c] w (Done W g m N (putR f r.k none) w) := by
  have hM := hide (fun w => may_any 5 t n r A l c w hz.1 hz.2.1 hz.2.2)
  have HM := hide hm
  have H := hide h
  have HZ := hide hz
  have hxz : Sz r.k := hz.1
  obtain ⟨old, hold⟩ : ∃ old, old = (f r.k).getD r0 := ⟨_, rfl⟩
  have true_ := hide (show (f r.k).isSome = true by rw [ho]; rfl)
  have HOO := hide ho
  clear ho
  have HOLD := hide hold
  clear hm hz h hold
  simp only [stv] at hM ⊢
  go_enter Try.func10, Try.ntmps10
  go_wp2_with (go_at_call 16; refine (hM.out _).mono ?_; rintro e w1 ⟨rfl, x1⟩; rw [HM.out]; have HH := hide (Hd.start (n := n) (r := r) (A := A) (l := l) (c := c) H.out x1); clear x1)
  have HS := hide (show ∀ w', Ext w1 w' → w'.cell? ⟨g, 0, none⟩ = some (.map (some m)) ∧ w'.cell? ⟨w.heap.size, 3, none⟩ = some (.string r.k) ∧ (Instr.lookup 50 (.map (some m)) (.string r.k) true).run Try.prog w' = .ok (.tuple #[rv old, .bool true]) w' from fun w' hx => by
    have hh := HH.out.ex hx
    refine ⟨by simpa using hh.md.blk.cell 0, by simpa using hh.stp.cell 3, ?_⟩
    have := hh.md.rows.look_ok hxz
    rw [← HOLD.out, true_.out] at this
    exact this)
  have hlt1 : w.heap.size + 1 < w1.heap.size := HH.out.ans.lt
  simp only [rv] at HS
  go_cut [5, 6] (fun s5 s6 wx => ∃ rb, s5 = .pointer (some ⟨rb, 0, none⟩) ∧ s6 = .bool true ∧ Ext w1 wx ∧ Blk wx rb 31 #[.string old.k, .string old.s, .string old.v])
  case first =>
    go_region_held3 (fun w' => w'.cell? ⟨g, 0, none⟩ = some (.map (some m)) ∧ w'.cell? ⟨w.heap.size, 3, none⟩ = some (.string r.k) ∧ (Instr.lookup 50 (.map (some m)) (.string r.k) true).run Try.prog w' = .ok (.tuple #[.agg #[.string old.k, .string old.s, .string old.v], .bool true]) w') (exact HS.out _ (by (repeat (first | with_reducible exact Ext.refl _ | with_reducible refine Ext.drew ?_ | with_reducible refine Ext.alloc ?_ _ | (with_reducible refine Ext.set_ ?_ ?_ _; rotate_left; · (simp <;> omega)))))) (fail)
    all_goals
      go_wp2_with (fail)
      go_meet
      case rel => exact ⟨_, rfl, rfl, (by (repeat (first | with_reducible exact Ext.refl _ | with_reducible refine Ext.drew ?_ | with_reducible refine Ext.alloc ?_ _))), Blk.new w1 31 _⟩
  case rest =>
    obtain ⟨rb, rfl, rfl, hxc, hrb⟩ := hcut
    have HC := hide (HH.out.ex hxc)
    have hk0 := HC.out.stp.cell 0
    have hk3 := HC.out.stp.cell 3
    have ha0 := HC.out.ans.cell 0
    have ha1 := HC.out.ans.cell 1
    simp at hk0 hk3 ha0 ha1
    have fa0 := HC.out.ans.frozen 0
    have fa1 := HC.out.ans.frozen 1
    have hlt2 : w.heap.size + 1 < wc.heap.size := HC.out.ans.lt
    have HRB := hide hrb
    clear HS HH hM HM hxc hrb hlt1
    have HRW := hide (HC.out.md.rows.ext (Ext.drew (Ext.refl wc)))
    have hc0 := HC.out.md.blk.cell 0
    simp at hc0
    go_wp2_with (fail)
    go_still_tail 7, (by kernel_rfl)
    change wpList _ _ _ _ _ wc.drew
    go_wp2_with (at_delete; refine RowsAt.delete rfl _ _ rfl rfl HRW.out r.k rfl hxz ?_; intro w5 ho5 ht5; have HO5 := hide ho5; have HT5 := hide (show Touch wc w5 (fun k => k = m) from (Touch.of_below (Ext.drew (Ext.refl wc)) _).trans ht5 (fun _ _ h => h)); have hmb : w.heap.size + 1 ≠ m := (by obtain ⟨D, h', _⟩ := HC.out.md.rows; exact map_ne HC.out.ans h'); have ans5 := HT5.out.blk HC.out.ans hmb; have b0 := ans5.cell 0; have b1 := ans5.cell 1; simp at b0 b1; have fb0 := ans5.frozen 0; have fb1 := ans5.frozen 1; clear ho5 ht5 hmb)
    have md5 := HC.out.md.turn HO5.out HT5.out (del_key HC.out.md.key)
    have hE := md5.ans H.out.ext ans5 (.int .i64 0) (.slice none 0 0)
    have e2 := ans5.set2 (.int .i64 0) (.slice none 0 0)
    have q0 := e2.cell 0
    have q1 := e2.cell 1
    simp only [List.getElem?_toArray, List.getElem?_cons_zero, List.getElem?_cons_succ] at q0 q1
    exact bodyPost_ret (v := .agg #[.int .i64 0, .slice none 0 0]) (by simp [results, Try.results10, go_sem, q0, q1]) rfl ⟨rfl, hE, done_blk HC.out.ext HC.out.md.rows HT5.out _ _⟩
set_option maxRecDepth 100000 in
set_option maxHeartbeats 4000000 in
theorem do_scan (W w : World) (g m N : Nat) (f : ByteArray → Option Rw) (t n : Int) (r : Rw) (A : Option Addr) (l c : Nat) (h : Md W w g m N f) (hN : N ≤ 1000) (hz : Rz r) (hm : mayS 6 r = true)  :
    Calls Try.prog 10 #[.pointer (some ⟨g, 0, none⟩), stv 6 t n r A l c] w fun e w' => ∃ L, Keys f L ∧ L.length ≤ N ∧ Tells w ((rowsL f L).filter fun q => geK q r) e w' := by
  have hM := hide (fun w => may_any 6 t n r A l c w hz.1 hz.2.1 hz.2.2)
  have HM := hide hm
  have H := hide h
  have HZ := hide hz
  have hxz : Sz r.k := hz.1
  obtain ⟨old, hold⟩ : ∃ old, old = (f r.k).getD r0 := ⟨_, rfl⟩
  try skip
  have HOLD := hide hold
  clear hm hz h hold
  simp only [stv] at hM ⊢
  go_enter Try.func10, Try.ntmps10
  go_wp2_with (go_at_call 16; refine (hM.out _).mono ?_; rintro e w1 ⟨rfl, x1⟩; rw [HM.out]; have HH := hide (Hd.start (n := n) (r := r) (A := A) (l := l) (c := c) H.out x1); clear x1)
  have HS := hide (show ∀ w', Ext w1 w' → w'.cell? ⟨g, 0, none⟩ = some (.map (some m)) ∧ w'.cell? ⟨w.heap.size, 3, none⟩ = some (.string r.k) ∧ (Instr.lookup 50 (.map (some m)) (.string r.k) true).run Try.prog w' = .ok (.tuple #[rv old, .bool (f r.k).isSome]) w' from fun w' hx => by
    have hh := HH.out.ex hx
    refine ⟨by simpa using hh.md.blk.cell 0, by simpa using hh.stp.cell 3, ?_⟩
    have := hh.md.rows.look_ok hxz
    rw [← HOLD.out] at this
    exact this)
  have hlt1 : w.heap.size + 1 < w1.heap.size := HH.out.ans.lt
  simp only [rv] at HS
  go_cut [5, 6] (fun s5 s6 wx => ∃ rb, s5 = .pointer (some ⟨rb, 0, none⟩) ∧ s6 = .bool (f r.k).isSome ∧ Ext w1 wx ∧ Blk wx rb 31 #[.string old.k, .string old.s, .string old.v])
  case first =>
    go_region_held3 (fun w' => w'.cell? ⟨g, 0, none⟩ = some (.map (some m)) ∧ w'.cell? ⟨w.heap.size, 3, none⟩ = some (.string r.k) ∧ (Instr.lookup 50 (.map (some m)) (.string r.k) true).run Try.prog w' = .ok (.tuple #[.agg #[.string old.k, .string old.s, .string old.v], .bool (f r.k).isSome]) w') (exact HS.out _ (by (repeat (first | with_reducible exact Ext.refl _ | with_reducible refine Ext.drew ?_ | with_reducible refine Ext.alloc ?_ _ | (with_reducible refine Ext.set_ ?_ ?_ _; rotate_left; · (simp <;> omega)))))) (fail)
    all_goals
      go_wp2_with (fail)
      go_meet
      case rel => exact ⟨_, rfl, rfl, (by (repeat (first | with_reducible exact Ext.refl _ | with_reducible refine Ext.drew ?_ | with_reducible refine Ext.alloc ?_ _))), Blk.new w1 31 _⟩
  case rest =>
    obtain ⟨rb, rfl, rfl, hxc, hrb⟩ := hcut
    have HC := hide (HH.out.ex hxc)
    have hk0 := HC.out.stp.cell 0
    have hk3 := HC.out.stp.cell 3
    have ha0 := HC.out.ans.cell 0
    have ha1 := HC.out.ans.cell 1
    simp at hk0 hk3 ha0 ha1
    have fa0 := HC.out.ans.frozen 0
    have fa1 := HC.out.ans.frozen 1
    have hlt2 : w.heap.size + 1 < wc.heap.size := HC.out.ans.lt
    have HRB := hide hrb
    clear HS HH hM HM hxc hrb hlt1
    go_wp2_with (go_at_call 18; refine (such_ge W wc g m N f r w.heap.size 6 t n A l c HC.out.stp HC.out.md hN).mono ?_; rintro e w2 ⟨v2, L2, rfl, hK2, hL2, ho2, hx2⟩; obtain ⟨A2, c2, hv2, _⟩ := own_form ho2; subst hv2; have HC2 := hide (HC.out.ex hx2); have b0 := HC2.out.ans.cell 0; have b1 := HC2.out.ans.cell 1; simp at b0 b1; have fb0 := HC2.out.ans.frozen 0; have fb1 := HC2.out.ans.frozen 1)
    have hE := ans_end (w := w) HC2.out.ans HC2.out.ext (.int .i64 0) (.slice A2 ((rowsL f L2).filter fun q => geK q r).length c2)
    have q0 := hE.1.cell 0
    have q1 := hE.1.cell 1
    simp only [List.getElem?_toArray, List.getElem?_cons_zero, List.getElem?_cons_succ] at q0 q1
    refine bodyPost_ret (v := .agg #[.int .i64 0, .slice A2 ((rowsL f L2).filter fun q => geK q r).length c2]) (by simp [results, Try.results10, go_sem, q0, q1]) rfl ⟨L2, hK2, hL2, A2, c2, rfl, ?_, hE.2⟩
    refine ownsRow_touch (touch_set2 w2 (w.heap.size + 1) _ _) (World.ownsRow.mono ho2 HC.out.ext.size) (fun k hk e => ?_)
    subst e
    exact own_blk_ne ho2 HC2.out.ans (by decide) hk
set_option maxRecDepth 100000 in
set_option maxHeartbeats 4000000 in
theorem do_seek (W w : World) (g m N : Nat) (f : ByteArray → Option Rw) (t n : Int) (r : Rw) (A : Option Addr) (l c : Nat) (h : Md W w g m N f) (hN : N ≤ 1000) (hz : Rz r) (hm : mayS 7 r = true)  :
    Calls Try.prog 10 #[.pointer (some ⟨g, 0, none⟩), stv 7 t n r A l c] w fun e w' => ∃ L, Keys f L ∧ L.length ≤ N ∧ Tells w ((rowsL f L).filter fun q => eqS q r) e w' := by
  have hM := hide (fun w => may_any 7 t n r A l c w hz.1 hz.2.1 hz.2.2)
  have HM := hide hm
  have H := hide h
  have HZ := hide hz
  have hxz : Sz r.k := hz.1
  obtain ⟨old, hold⟩ : ∃ old, old = (f r.k).getD r0 := ⟨_, rfl⟩
  try skip
  have HOLD := hide hold
  clear hm hz h hold
  simp only [stv] at hM ⊢
  go_enter Try.func10, Try.ntmps10
  go_wp2_with (go_at_call 16; refine (hM.out _).mono ?_; rintro e w1 ⟨rfl, x1⟩; rw [HM.out]; have HH := hide (Hd.start (n := n) (r := r) (A := A) (l := l) (c := c) H.out x1); clear x1)
  have HS := hide (show ∀ w', Ext w1 w' → w'.cell? ⟨g, 0, none⟩ = some (.map (some m)) ∧ w'.cell? ⟨w.heap.size, 3, none⟩ = some (.string r.k) ∧ (Instr.lookup 50 (.map (some m)) (.string r.k) true).run Try.prog w' = .ok (.tuple #[rv old, .bool (f r.k).isSome]) w' from fun w' hx => by
    have hh := HH.out.ex hx
    refine ⟨by simpa using hh.md.blk.cell 0, by simpa using hh.stp.cell 3, ?_⟩
    have := hh.md.rows.look_ok hxz
    rw [← HOLD.out] at this
    exact this)
  have hlt1 : w.heap.size + 1 < w1.heap.size := HH.out.ans.lt
  simp only [rv] at HS
  go_cut [5, 6] (fun s5 s6 wx => ∃ rb, s5 = .pointer (some ⟨rb, 0, none⟩) ∧ s6 = .bool (f r.k).isSome ∧ Ext w1 wx ∧ Blk wx rb 31 #[.string old.k, .string old.s, .string old.v])
  case first =>
    go_region_held3 (fun w' => w'.cell? ⟨g, 0, none⟩ = some (.map (some m)) ∧ w'.cell? ⟨w.heap.size, 3, none⟩ = some (.string r.k) ∧ (Instr.lookup 50 (.map (some m)) (.string r.k) true).run Try.prog w' = .ok (.tuple #[.agg #[.string old.k, .string old.s, .string old.v], .bool (f r.k).isSome]) w') (exact HS.out _ (by (repeat (first | with_reducible exact Ext.refl _ | with_reducible refine Ext.drew ?_ | with_reducible refine Ext.alloc ?_ _ | (with_reducible refine Ext.set_ ?_ ?_ _; rotate_left; · (simp <;> omega)))))) (fail)
    all_goals
      go_wp2_with (fail)
      go_meet
      case rel => exact ⟨_, rfl, rfl, (by (repeat (first | with_reducible exact Ext.refl _ | with_reducible refine Ext.drew ?_ | with_reducible refine Ext.alloc ?_ _))), Blk.new w1 31 _⟩
  case rest =>
    obtain ⟨rb, rfl, rfl, hxc, hrb⟩ := hcut
    have HC := hide (HH.out.ex hxc)
    have hk0 := HC.out.stp.cell 0
    have hk3 := HC.out.stp.cell 3
    have ha0 := HC.out.ans.cell 0
    have ha1 := HC.out.ans.cell 1
    simp at hk0 hk3 ha0 ha1
    have fa0 := HC.out.ans.frozen 0
    have fa1 := HC.out.ans.frozen 1
    have hlt2 : w.heap.size + 1 < wc.heap.size := HC.out.ans.lt
    have HRB := hide hrb
    clear HS HH hM HM hxc hrb hlt1
    go_wp2_with (go_at_call 18; refine (such_eq W wc g m N f r w.heap.size 7 t n A l c HC.out.stp HC.out.md hN).mono ?_; rintro e w2 ⟨v2, L2, rfl, hK2, hL2, ho2, hx2⟩; obtain ⟨A2, c2, hv2, _⟩ := own_form ho2; subst hv2; have HC2 := hide (HC.out.ex hx2); have b0 := HC2.out.ans.cell 0; have b1 := HC2.out.ans.cell 1; simp at b0 b1; have fb0 := HC2.out.ans.frozen 0; have fb1 := HC2.out.ans.frozen 1)
    have hE := ans_end (w := w) HC2.out.ans HC2.out.ext (.int .i64 0) (.slice A2 ((rowsL f L2).filter fun q => eqS q r).length c2)
    have q0 := hE.1.cell 0
    have q1 := hE.1.cell 1
    simp only [List.getElem?_toArray, List.getElem?_cons_zero, List.getElem?_cons_succ] at q0 q1
    refine bodyPost_ret (v := .agg #[.int .i64 0, .slice A2 ((rowsL f L2).filter fun q => eqS q r).length c2]) (by simp [results, Try.results10, go_sem, q0, q1]) rfl ⟨L2, hK2, hL2, A2, c2, rfl, ?_, hE.2⟩
    refine ownsRow_touch (touch_set2 w2 (w.heap.size + 1) _ _) (World.ownsRow.mono ho2 HC.out.ext.size) (fun k hk e => ?_)
    subst e
    exact own_blk_ne ho2 HC2.out.ans (by decide) hk
end Go.Proofs.Ytjjilaanlhpogaa
