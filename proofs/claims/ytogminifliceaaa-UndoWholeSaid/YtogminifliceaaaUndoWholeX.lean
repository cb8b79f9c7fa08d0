/- UndoWhole: words for a world that goes on; a string's bytes; what is made of a set. -/
import Derived.Test.YtogminifliceaaaUndoWholeP
import Derived.Laws.IdiomStrings
namespace Go.Proofs.Ytogminifliceaaa
open Go.ChangeShapes Go.WideShapes Go.ChangeAt Go.RowKit
set_option linter.unusedVariables false

/-! ### A piece of a function's text, by its number: so that it can be walked in a declaration of its own -/
def regionOf (n : Nat) : Code → Option Code
  | .region i ops d => if i = n then some (.region i ops d) else none
  | .seq a b => match regionOf n a with | some c => some c | none => regionOf n b
  | .block _ c => regionOf n c
  | .loop c => regionOf n c
  | .scope c => regionOf n c
  | .cond _ a b => match regionOf n a with | some c => some c | none => regionOf n b
  | _ => none
noncomputable def regionAt (f : Func) (n : Nat) : Code := (f.body.bind (regionOf n)).getD .skip
def blockOf (n : Nat) : Code → Option Code
  | .seq a b => match blockOf n a with | some c => some c | none => blockOf n b
  | .block i c => if i = n then some (.block i c) else blockOf n c
  | .loop c => blockOf n c
  | .scope c => blockOf n c
  | .cond _ a b => match blockOf n a with | some c => some c | none => blockOf n b
  | _ => none
noncomputable def blockAt (f : Func) (n : Nat) : Code := (f.body.bind (blockOf n)).getD .skip

/-! ### A world that goes on -/
/-- b is a with new blocks and draws; nothing that lay has turned. -/
def Ext (a b : World) : Prop := Below a.heap.size a b
section
variable {a b c : World} {g m n B : Nat} {t : TypeId} {cs : Array Value} {xs : List Value} {A : Option Addr}
theorem Ext.refl (a : World) : Ext a a := Below.refl _ _
theorem Ext.size (h : Ext a b) : a.heap.size ≤ b.heap.size := Below.size h
theorem Ext.trans (h : Ext a b) (k : Ext b c) : Ext a c := Below.trans h (Below.mono k h.size)
theorem Ext.alloc (h : Ext a b) (o : Obj) : Ext a (b.alloc o) := Below.alloc h h.size o
theorem Ext.new (a : World) (o : Obj) : Ext a (a.alloc o) := (Ext.refl a).alloc o
theorem Ext.drew (h : Ext a b) : Ext a b.drew := Below.drew h
theorem Ext.drewN (h : Ext a b) (n : Nat) : Ext a (b.drewN n) := below_drewN h n
theorem Ext.set_ (h : Ext a b) {p : Addr} (hp : a.heap.size ≤ p.block) (u : Value) : Ext a (b.setCell p u) := Below.setCell h hp u
theorem Ext.grown {row : Option Nat} (h : Ext a b) (hg : b.grownBy c row) (hr : ∀ k, row = some k → a.heap.size ≤ k) : Ext a c := Below.grown h hg h.size hr
theorem Ext.cell (h : Ext a b) {p : Addr} (hp : p.block < a.heap.size) : b.cell? p = a.cell? p := Below.cell h hp
theorem Ext.blk (h : Ext a b) (hk : Blk a g t cs) : Blk b g t cs := hk.below h hk.lt
theorem Ext.reads (h : Ext a b) (hr : Reads a B m A n xs) (hB : B ≤ a.heap.size) : Reads b B m A n xs := hr.below (Below.mono h hB)
theorem Ext.read (h : Ext a b) (hr : Reads a a.heap.size m A n xs) : Reads b b.heap.size m A n xs := (hr.below h).more h.size
theorem Ext.own {base : Nat} {e : TypeId} {v : Value} (h : Ext a b) (ho : a.ownsRow base e m v n xs) : b.ownsRow base e m v n xs := ownsRow_touch (Touch.of_below h (fun _ => False)) ho (fun _ _ hf => hf)
theorem Ext.below (h : Ext a b) : Below a.heap.size a b := h
end
/-- A row keeps what it holds where a cell of another block is written. -/
theorem own_far {w : World} {base e m n : Nat} {v : Value} {xs : List Value} (h : w.ownsRow base e m v n xs) {p : Addr} (hp : v.ownBlock ≠ some p.block) (u : Value) : (w.setCell p u).ownsRow base e m v n xs :=
  ownsRow_touch (F := fun k => k = p.block) (Touch.setCell (F := fun k => k = p.block) (p := p) (Touch.refl w _) (fun _ => rfl) u) h (fun k hk e => hp (by rw [hk, e]))
theorem touch_set16 (w : World) (g : Nat) (u0 u1 u2 u3 u4 u5 u6 u7 u8 u9 u10 u11 u12 u13 u14 u15 : Value) : Touch w ((((((((((((((((w.setCell ⟨g, 0, none⟩ u0).setCell ⟨g, 1, none⟩ u1).setCell ⟨g, 2, none⟩ u2).setCell ⟨g, 3, none⟩ u3).setCell ⟨g, 4, none⟩ u4).setCell ⟨g, 5, none⟩ u5).setCell ⟨g, 6, none⟩ u6).setCell ⟨g, 7, none⟩ u7).setCell ⟨g, 8, none⟩ u8).setCell ⟨g, 9, none⟩ u9).setCell ⟨g, 10, none⟩ u10).setCell ⟨g, 11, none⟩ u11).setCell ⟨g, 12, none⟩ u12).setCell ⟨g, 13, none⟩ u13).setCell ⟨g, 14, none⟩ u14).setCell ⟨g, 15, none⟩ u15) (fun k => k = g) := by
  refine Touch.setCell (p := ⟨g, 15, none⟩) (Touch.setCell (p := ⟨g, 14, none⟩) (Touch.setCell (p := ⟨g, 13, none⟩) (Touch.setCell (p := ⟨g, 12, none⟩) (Touch.setCell (p := ⟨g, 11, none⟩) (Touch.setCell (p := ⟨g, 10, none⟩) (Touch.setCell (p := ⟨g, 9, none⟩) (Touch.setCell (p := ⟨g, 8, none⟩) (Touch.setCell (p := ⟨g, 7, none⟩) (Touch.setCell (p := ⟨g, 6, none⟩) (Touch.setCell (p := ⟨g, 5, none⟩) (Touch.setCell (p := ⟨g, 4, none⟩) (Touch.setCell (p := ⟨g, 3, none⟩) (Touch.setCell (p := ⟨g, 2, none⟩) (Touch.setCell (p := ⟨g, 1, none⟩) (Touch.setCell (p := ⟨g, 0, none⟩) (Touch.refl w _) ?_ _) ?_ _) ?_ _) ?_ _) ?_ _) ?_ _) ?_ _) ?_ _) ?_ _) ?_ _) ?_ _) ?_ _) ?_ _) ?_ _) ?_ _) ?_ _ <;> exact fun _ => rfl
theorem Touch.ext {a b c : World} {g : Nat} (h : Ext a b) (k : Touch b c (fun x => x = g)) (hg : a.heap.size ≤ g) : Ext a c :=
  Below.trans h (k.below h.size (fun _ e => by rw [e]; exact hg))
theorem reads_blk {w : World} {g : Nat} {t : TypeId} {cs : Array Value} {m : Nat} (h : Blk w g t cs) (hm : cs.size = m) : Reads w w.heap.size m (some ⟨g, 0, none⟩) 1 cs.toList := by
  refine ⟨by simpa using hm, fun _ => ⟨_, rfl, h.lt, fun j u hu => ?_⟩⟩
  have e : (⟨g, 0, none⟩ : Addr).add j = ⟨g, j, none⟩ := by unfold Addr.add; split <;> simp_all
  rw [e, h.cell]
  simpa using hu
/-- '[]byte(s)' -/
theorem conv_bytes (w : World) (l : List UInt8) : ∃ w' c, (convert 9 24 (.string ⟨l.toArray⟩)).run Try.prog w = .ok (.slice (some ⟨w.heap.size, 0, none⟩) l.length c) w' ∧ Ext w w' ∧ Reads w' w'.heap.size 1 (some ⟨w.heap.size, 0, none⟩) l.length (bv l) ∧ w.heap.size < w'.heap.size := by
  have hlt : w.heap.size < (w.drew.alloc (.cells (bytesRow ⟨l.toArray⟩ (grownCap w (ByteArray.size ⟨l.toArray⟩) 0 5)) 5 ((bytesRow ⟨l.toArray⟩ (grownCap w (ByteArray.size ⟨l.toArray⟩) 0 5)).size, (bytesRow ⟨l.toArray⟩ (grownCap w (ByteArray.size ⟨l.toArray⟩) 0 5)).size + 1))).heap.size := by simp
  refine ⟨_, _, run_bytes_of_string w 9 24 5 ⟨l.toArray⟩ Try.underlying9 Try.underlying24 Try.underlying5, (Ext.refl w).drew.alloc _, ⟨by simp [bv], fun _ => ⟨_, rfl, hlt, fun j u hu => ?_⟩⟩, hlt⟩
  have e : (⟨w.heap.size, 0, none⟩ : Addr).add j = ⟨w.heap.size, j, none⟩ := by unfold Addr.add; split <;> simp_all
  rw [e, cell_of_row _ w.heap.size j _ 5 _ (heap_alloc_new w.drew _)]
  have hj : j < l.length := by
    have := (List.getElem?_eq_some_iff.1 hu).1
    simpa [bv] using this
  rw [bytesRow_at ⟨l.toArray⟩ _ j (by simpa using hj)]
  rw [← hu]
  simp [bv, hj]
def zE : Array Value := #[.int .i64 0, .int .i64 0, .int .i64 0, .int .i64 0, .int .i64 0, .int .i64 0, .int .i64 0, .int .i64 0, .int .i64 0, .int .i64 0, .slice none 0 0, .slice none 0 0, .slice none 0 0, .slice none 0 0, .slice none 0 0, .slice none 0 0]
/-- the old value's bytes, the new one's, the entry's place: made -/
def FO (w0 w : World) (l : List UInt8) (ob : Nat) : Prop := w0.heap.size ≤ ob ∧ ob < w.heap.size ∧ Reads w w.heap.size 1 (some ⟨ob, 0, none⟩) l.length (bv l)
def FN (w0 w : World) (z : Int) (nb : Nat) : Prop := w0.heap.size ≤ nb ∧ Blk w nb 5 #[.int .u8 z]
def FE (w0 w : World) (eb : Nat) : Prop := w0.heap.size ≤ eb ∧ Blk w eb 30 zE
section
variable {w0 w w' : World} {l : List UInt8} {z : Int} {b : Nat}
theorem FO.ex (h : FO w0 w l b) (hx : Ext w w') : FO w0 w' l b := ⟨h.1, Nat.lt_of_lt_of_le h.2.1 hx.size, hx.read h.2.2⟩
theorem FN.ex (h : FN w0 w z b) (hx : Ext w w') : FN w0 w' z b := ⟨h.1, hx.blk h.2⟩
theorem FE.ex (h : FE w0 w b) (hx : Ext w w') : FE w0 w' b := ⟨h.1, hx.blk h.2⟩
end

end Go.Proofs.Ytogminifliceaaa
namespace Go.Proofs.Ytogminifliceaaa.undoWhole
open Go.ChangeShapes Go.WideShapes Go.ChangeAt Go.RowKit
theorem Try.info30' : (Try.prog.info? 30).map (fun i => (i.zero, i.size, i.bytes)) = some (some (.agg #[.int .i64 0, .int .i64 0, .int .i64 0, .int .i64 0, .int .i64 0, .int .i64 0, .int .i64 0, .int .i64 0, .int .i64 0, .int .i64 0, .slice none 0 0, .slice none 0 0, .slice none 0 0, .slice none 0 0, .slice none 0 0, .slice none 0 0]), 16, 224) := by kernel_rfl
/-- What a set's statement makes. -/
def Made (wr wx : World) (j k : Nat) (q : UInt8) (old : List UInt8) (v : Value) : Prop :=
  ∃ eb ob nb oc, v = .pointer (some ⟨eb, 0, none⟩) ∧ Blk wx eb 30 #[.int .i64 1, .int .i64 1, .int .i64 0, .int .i64 0, .int .i64 j, .int .i64 0, .int .i64 0, .int .i64 k, .int .i64 0, .int .i64 0, .slice (some ⟨ob, 0, none⟩) old.length oc, .slice (some ⟨nb, 0, none⟩) 1 1, .slice none 0 0, .slice none 0 0, .slice none 0 0, .slice none 0 0] ∧
    wr.heap.size ≤ eb ∧ wr.heap.size ≤ ob ∧ wr.heap.size ≤ nb ∧ FO wr wx old ob ∧ Reads wx wx.heap.size 1 (some ⟨nb, 0, none⟩) 1 (bv [q]) ∧ Ext wr wx
theorem made_of {wr wx : World} {j k eb ob nb oc n : Nat} {q : UInt8} {old : List UInt8} (h1 : FO wr wx old ob) (h2 : FN wr wx (n : Int) nb) (h3 : FE wr wx eb) (hne : eb ≠ ob) (hx : Ext wr wx) (hn : n = q.toNat) :
    Made wr ((((((((((((((((wx.setCell ⟨eb, 0, none⟩ (.int .i64 1)).setCell ⟨eb, 1, none⟩ (.int .i64 1)).setCell ⟨eb, 2, none⟩ (.int .i64 0)).setCell ⟨eb, 3, none⟩ (.int .i64 0)).setCell ⟨eb, 4, none⟩ (.int .i64 j)).setCell ⟨eb, 5, none⟩ (.int .i64 0)).setCell ⟨eb, 6, none⟩ (.int .i64 0)).setCell ⟨eb, 7, none⟩ (.int .i64 k)).setCell ⟨eb, 8, none⟩ (.int .i64 0)).setCell ⟨eb, 9, none⟩ (.int .i64 0)).setCell ⟨eb, 10, none⟩ (.slice (some ⟨ob, 0, none⟩) old.length oc)).setCell ⟨eb, 11, none⟩ (.slice (some ⟨nb, 0, none⟩) 1 1)).setCell ⟨eb, 12, none⟩ (.slice none 0 0)).setCell ⟨eb, 13, none⟩ (.slice none 0 0)).setCell ⟨eb, 14, none⟩ (.slice none 0 0)).setCell ⟨eb, 15, none⟩ (.slice none 0 0)) j k q old (.pointer (some ⟨eb, 0, none⟩)) := by
  have hb := Blk.set16 h3.2 (.int .i64 1) (.int .i64 1) (.int .i64 0) (.int .i64 0) (.int .i64 j) (.int .i64 0) (.int .i64 0) (.int .i64 k) (.int .i64 0) (.int .i64 0) (.slice (some ⟨ob, 0, none⟩) old.length oc) (.slice (some ⟨nb, 0, none⟩) 1 1) (.slice none 0 0) (.slice none 0 0) (.slice none 0 0) (.slice none 0 0)
  have ht := touch_set16 wx eb (.int .i64 1) (.int .i64 1) (.int .i64 0) (.int .i64 0) (.int .i64 j) (.int .i64 0) (.int .i64 0) (.int .i64 k) (.int .i64 0) (.int .i64 0) (.slice (some ⟨ob, 0, none⟩) old.length oc) (.slice (some ⟨nb, 0, none⟩) 1 1) (.slice none 0 0) (.slice none 0 0) (.slice none 0 0) (.slice none 0 0)
  have hnb := ht.blk h2.2 (Ne.symm (Blk.ne_ h3.2 h2.2 (by decide)))
  refine ⟨eb, ob, nb, oc, rfl, hb, h3.1, h1.1, h2.1, ⟨h1.1, Nat.lt_of_lt_of_le h1.2.1 ht.size, (h1.2.2.touch ht (Nat.le_refl _) (fun ad had e => ?_)).more ht.size⟩, ?_, Touch.ext hx ht h3.1⟩
  · injection had with had
    subst had
    exact hne e.symm
  · have := reads_blk (m := 1) hnb rfl
    rw [hn] at this
    exact this
/-- the last entry tells where to go on -/
theorem Mem.last {W w : World} {L : List UInt8} {cb N m p : Nat} {nv : Value} {xs : List Value} (h : Mem W w L cb N nv m xs) (hp : N = p + 1) (hN : N + m = L.length + L.length) (hm : m ≤ L.length) :
    ∃ (kd pv nx : Int) (v1 v2 v3 v6 v7 v8 v9 v10 v11 v12 v13 v14 v15 : Value), Is xs p [.int .i64 kd, v1, v2, v3, .int .i64 pv, .int .i64 nx, v6, v7, v8, v9, v10, v11, v12, v13, v14, v15] ∧ nextP kd pv nx (N : Int) = (m : Int) := by
  by_cases hl : p < L.length
  · obtain ⟨so, sn, h1, _⟩ := h.sets p (by omega) hl
    exact ⟨1, _, _, _, _, _, _, _, _, _, _, _, _, _, _, _, h1, by rw [nextP_1]; omega⟩
  · obtain ⟨pv, sn, h1⟩ := h.backs p (by omega) (by omega)
    refine ⟨2, _, _, _, _, _, _, _, _, _, _, _, _, _, _, _, h1, ?_⟩
    rw [nextP_2]
    omega
theorem row1_one {p k : Nat} (A1 : Option Addr) (n1 c1 : Nat) (sn : Sl) : ∀ u ∈ row1 p k (.slice A1 n1 c1) sn, u.oneCell' = true := fun u hu =>
  List.all_eq_true.1 (show (row1 p k (.slice A1 n1 c1) sn).all (fun u => u.oneCell') = true from rfl) u hu
theorem row2_one {p : Int} {n k : Nat} (sn : Sl) : ∀ u ∈ row2 p n k sn, u.oneCell' = true := fun u hu =>
  List.all_eq_true.1 (show (row2 p n k sn).all (fun u => u.oneCell') = true from rfl) u hu
end Go.Proofs.Ytogminifliceaaa.undoWhole
