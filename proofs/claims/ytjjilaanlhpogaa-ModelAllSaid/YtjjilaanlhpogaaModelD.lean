/- Model: contracts: New, Rows, Copy, Do. -/
import Derived.Test.YtjjilaanlhpogaaModelS
import Derived.StillTailTactics
namespace Go.Proofs.Ytjjilaanlhpogaa
open Go.ChangeShapes Go.WideShapes Go.ChangeAt Go.RowKit Go.Maps Go.MapKept Go.Sort
set_option linter.unusedVariables false

theorem blk2 (w : World) (o : Obj) (t : TypeId) (cs : Array Value) : Blk ((w.alloc o).alloc (.cells cs t)) (w.heap.size + 1) t cs := by
  have h := Blk.new (w.alloc o) t cs
  have e : (w.alloc o).heap.size = w.heap.size + 1 := by simp
  rwa [e] at h
theorem new_any (W : World) : Calls Try.prog 8 #[] W fun e w' => e = .returned (.pointer (some ⟨W.heap.size + 1, 0, none⟩)) ∧ Md W w' (W.heap.size + 1) W.heap.size 0 (fun _ => none) := by
  have hmm := @run_makeMap Try.prog
  go_enter Try.func8, Try.ntmps8
  go_wp2
  go_ret
  have e : (W.alloc (.map #[] 0)).heap.size = W.heap.size + 1 := by simp
  have hb := Blk.new (W.alloc (.map #[] 0)) 52 #[.map (some W.heap.size)]
  rw [e] at hb
  exact ⟨rfl, hb, (RowsAt.new W).ext (Ext.new _ _), (fun x r h => by cases h), by omega, Nat.le_refl _, ((Ext.refl W).alloc _).alloc _⟩
theorem rows_any (W w : World) (g m n : Nat) (f : ByteArray → Option Rw) (h : Md W w g m n f) (hn : n ≤ 1000) :
    Calls Try.prog 14 #[.pointer (some ⟨g, 0, none⟩)] w (GivesR w n f (fun _ => true)) := by
  go_enter Try.func14, Try.ntmps14
  go_wp2_with (go_at_call 18; refine (such_all W w g m n f h hn).mono ?_; rintro e w1 ⟨v, L, rfl, h1, h2, h3, h4⟩)
  go_ret
  exact ⟨v, L, rfl, h1, h2, h3, h4⟩
theorem copy_any (W w : World) (g m n : Nat) (f : ByteArray → Option Rw) (h : Md W w g m n f) :
    Calls Try.prog 9 #[.pointer (some ⟨g, 0, none⟩)] w fun e w' => ∃ g' m', e = .returned (.pointer (some ⟨g', 0, none⟩)) ∧ w.heap.size ≤ g' ∧ w.heap.size ≤ m' ∧ Md W w' g' m' n f ∧ Ext w w' := by
  have c0 := h.blk.cell 0
  simp at c0
  have H := hide h
  clear h
  go_enter Try.func9, Try.ntmps9
  go_wp2_with (go_at_call 15; refine (clone_call m n f w H.out.rows).mono ?_; rintro e w1 ⟨rfl, r1, r2, x1⟩)
  go_ret
  have X := x1.alloc (.cells #[.map (some w.heap.size)] 52)
  exact ⟨_, _, rfl, x1.size, Nat.le_refl _, ⟨Blk.new w1 52 _, r1.ext (Ext.new _ _), H.out.key, Nat.le_trans H.out.ext.size x1.size, H.out.ext.size, H.out.ext.trans X⟩, X⟩
/-- what Do's text has made before it looks -/
def sblk (kind t n : Int) (r : Rw) (A : Option Addr) (l c : Nat) : Obj := .cells #[.int .i64 kind, .int .i64 t, .int .i64 n, .string r.k, .string r.s, .string r.v, .slice A l c] 34
def ablk : Obj := .cells #[.int .i64 0, .slice none 0 0] 37
theorem do_bad (w : World) (g : Nat) (kind t n : Int) (r : Rw) (A : Option Addr) (l c : Nat) (hz : Rz r) (hm : mayS kind r = false) :
    Calls Try.prog 10 #[.pointer (some ⟨g, 0, none⟩), stv kind t n r A l c] w fun e w' => e = .returned (.agg #[.int .i64 1, .slice none 0 0]) ∧ Ext w w' := by
  have hM := hide (fun w => may_any kind t n r A l c w hz.1 hz.2.1 hz.2.2)
  have HM := hide hm
  clear hm hz
  simp only [stv] at hM ⊢
  go_enter Try.func10, Try.ntmps10
  go_wp2_with (first
    | (go_at_call 16; refine (hM.out _).mono ?_; rintro e w1 ⟨rfl, x1⟩; rw [HM.out]; have z0 := x1.size; simp at z0; have a1 := (x1.blk (blk2 w (sblk kind t n r A l c) 37 #[.int .i64 0, .slice none 0 0])); have y0 := a1.cell 0; have y1 := a1.cell 1; simp at y0 y1; have f0 := a1.frozen 0; have f1 := a1.frozen 1)
    | (go_at_call 17; refine (bad_any 1 _).mono ?_; rintro e w2 ⟨rfl, x2⟩; have a2 := x2.blk a1; have k0 := a2.cell 0; have k1 := a2.cell 1; simp at k0 k1; have g0 := a2.frozen 0; have g1 := a2.frozen 1; have z2 := x2.size))
  have e2 := a2.set2 (.int .i64 1) (.slice none 0 0)
  have q0 := e2.cell 0
  have q1 := e2.cell 1
  simp only [List.getElem?_toArray, List.getElem?_cons_zero, List.getElem?_cons_succ] at q0 q1
  refine bodyPost_ret (v := .agg #[.int .i64 1, .slice none 0 0]) (by simp [results, Try.results10, go_sem, q0, q1]) rfl ⟨rfl, ?_⟩
  exact Touch.ext (Ext.trans (Ext.trans ((Ext.new w (sblk kind t n r A l c)).alloc ablk) x1) x2) (touch_set2 w2 (w.heap.size + 1) _ _) (Nat.le_succ _)
end Go.Proofs.Ytjjilaanlhpogaa
