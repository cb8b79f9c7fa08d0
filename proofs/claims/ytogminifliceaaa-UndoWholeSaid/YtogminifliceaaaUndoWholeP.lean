/- UndoWhole: what lies in memory between the steps. -/
import Derived.Test.YtogminifliceaaaUndoF
import Derived.Test.YtogminifliceaaaTouch
namespace Go.Proofs.Ytogminifliceaaa.undoWhole
open Go.ChangeShapes Go.WideShapes Go.ChangeAt Go.RowKit
set_option linter.unusedVariables false

/-- Which cell the i-th set is of. -/
def kAt (L : List UInt8) (i : Nat) : Nat := (L.getD i 0).toNat % 4
theorem kAt_lt (L : List UInt8) (i : Nat) : kAt L i < 4 := Nat.mod_lt _ (by decide)
/-- What is in cell k behind j sets. -/
def cellsAt (L : List UInt8) : Nat → Nat → List UInt8
  | 0, _ => []
  | j + 1, k => if kAt L j = k then [L.getD j 0] else cellsAt L j k
theorem cellsAt_len (L : List UInt8) : ∀ j k, (cellsAt L j k).length ≤ 1
  | 0, _ => by simp [cellsAt]
  | j + 1, k => by
    unfold cellsAt
    split
    · simp
    · exact cellsAt_len L j k
def str (l : List UInt8) : Value := .string ⟨l.toArray⟩
/-- a slice: where, how many, room for how many -/
abbrev Sl := Option Addr × Nat × Nat
def row1 (p k : Nat) (so : Value) (sn : Sl) : List Value := [.int .i64 1, .int .i64 1, .int .i64 0, .int .i64 0, .int .i64 p, .int .i64 0, .int .i64 0, .int .i64 k, .int .i64 0, .int .i64 0, so, .slice sn.1 sn.2.1 sn.2.2, .slice none 0 0, .slice none 0 0, .slice none 0 0, .slice none 0 0]
def row2 (p : Int) (n k : Nat) (sn : Sl) : List Value := [.int .i64 2, .int .i64 1, .int .i64 0, .int .i64 0, .int .i64 p, .int .i64 n, .int .i64 0, .int .i64 k, .int .i64 0, .int .i64 0, .slice none 0 0, .slice sn.1 sn.2.1 sn.2.2, .slice none 0 0, .slice none 0 0, .slice none 0 0, .slice none 0 0]
def Is (xs : List Value) (i : Nat) (r : List Value) : Prop := ∀ f, f < 16 → xs[i * 16 + f]? = r[f]?
/-- An old value's bytes, in a block of their own. -/
def Old (w : World) (nv : Value) (cb : Nat) (so : Value) (l : List UInt8) : Prop :=
  ∃ a c, so = .slice (some ⟨a, 0, none⟩) l.length c ∧ a < w.heap.size ∧ Reads w w.heap.size 1 (some ⟨a, 0, none⟩) l.length (bv l) ∧ nv.ownBlock ≠ some a ∧ a ≠ cb
theorem Old.touch {w w' : World} {F : Nat → Prop} {nv nv' so : Value} {cb : Nat} {l : List UInt8} (h : Old w nv cb so l) (ht : Touch w w' F) (hF : ∀ a, F a → a = cb ∨ nv.ownBlock = some a)
    (hv : nv'.ownBlock = nv.ownBlock ∨ (∃ k, nv'.ownBlock = some k ∧ w.heap.size ≤ k)) : Old w' nv' cb so l := by
  obtain ⟨a, c, e, hlt, hr, h1, h2⟩ := h
  have hn : ¬ F a := fun hf => (hF a hf).elim h2 h1
  refine ⟨a, c, e, Nat.lt_of_lt_of_le hlt ht.size, ((hr.touch ht (Nat.le_refl _) (fun ad had => ?_)).more ht.size), ?_, h2⟩
  · injection had with had
    subst had
    exact hn
  · rcases hv with hv | ⟨k, hv, hk⟩
    · rw [hv]; exact h1
    · rw [hv]
      intro e'
      injection e' with e'
      omega
structure Mem (W w : World) (L : List UInt8) (cb N : Nat) (nv : Value) (m : Nat) (xs : List Value) : Prop where
  hb : Below W.heap.size W w
  cbW : W.heap.size ≤ cb
  cbk : Blk w cb 37 #[str (cellsAt L m 0), str (cellsAt L m 1), str (cellsAt L m 2), str (cellsAt L m 3)]
  own : w.ownsRow W.heap.size 30 16 nv N xs
  sets : ∀ i, i < N → i < L.length → ∃ so sn, Is xs i (row1 i (kAt L i) so sn) ∧ Old w nv cb so (cellsAt L i (kAt L i))
  backs : ∀ i, i < N → L.length ≤ i → ∃ p sn, Is xs i (row2 p (2 * L.length - 1 - i) (kAt L (2 * L.length - 1 - i)) sn)
section
variable {W w w' : World} {L : List UInt8} {cb N m : Nat} {nv : Value} {xs : List Value}
theorem Mem.ne (h : Mem W w L cb N nv m xs) : nv.ownBlock ≠ some cb := own_blk_ne h.own h.cbk (by decide)
theorem Mem.more (h : Mem W w L cb N nv m xs) (hw : Below w.heap.size w w') : Mem W w' L cb N nv m xs where
  hb := h.hb.trans (hw.mono h.hb.size)
  cbW := h.cbW
  cbk := h.cbk.below hw h.cbk.lt
  own := ownsRow_touch (Touch.of_below hw (fun _ => False)) h.own (fun _ _ hf => hf)
  sets i hi hl := by
    obtain ⟨so, sn, h1, h2⟩ := h.sets i hi hl
    exact ⟨so, sn, h1, h2.touch (Touch.of_below hw (fun _ => False)) (fun _ hf => hf.elim) (.inl rfl)⟩
  backs := h.backs
theorem touch_set {w : World} {cb k : Nat} {u : Value} : Touch w (w.setCell ⟨cb, k, none⟩ u) (fun a => a = cb) := Touch.setCell (F := fun a => a = cb) (p := ⟨cb, k, none⟩) (Touch.refl w _) (fun _ => rfl) u
/-- One cell of the four is written. -/
theorem Mem.put (h : Mem W w L cb N nv m xs) {m' k : Nat} {u : Value} (hcs : (#[str (cellsAt L m 0), str (cellsAt L m 1), str (cellsAt L m 2), str (cellsAt L m 3)] : Array Value).setIfInBounds k u = #[str (cellsAt L m' 0), str (cellsAt L m' 1), str (cellsAt L m' 2), str (cellsAt L m' 3)]) :
    Mem W (w.setCell ⟨cb, k, none⟩ u) L cb N nv m' xs where
  hb := h.hb.setCell (p := ⟨cb, k, none⟩) h.cbW u
  cbW := h.cbW
  cbk := by rw [← hcs]; exact h.cbk.set_ k u
  own := ownsRow_touch touch_set h.own (fun k hk hf => h.ne (by rw [hk, hf]))
  sets i hi hl := by
    obtain ⟨so, sn, h1, h2⟩ := h.sets i hi hl
    exact ⟨so, sn, h1, h2.touch touch_set (fun _ hf => .inl hf) (.inl rfl)⟩
  backs := h.backs
theorem is_left {xs news : List Value} {i N : Nat} {r : List Value} (h : Is xs i r) (hl : xs.length = N * 16) (hi : i < N) : Is (xs ++ news) i r := fun f hf => by
  have hle : i * 16 + 16 ≤ N * 16 := by omega
  rw [List.getElem?_append_left (by omega)]
  exact h f hf
theorem is_new {xs news : List Value} {N : Nat} (hl : xs.length = N * 16) : Is (xs ++ news) N news := fun f _ => by
  rw [List.getElem?_append_right (by omega)]
  congr 1
  omega
theorem Mem.app (h : Mem W w L cb N nv m xs) {w2 : World} {v1 : Value} {news : List Value} (ho : w2.ownsRow W.heap.size 30 16 v1 (N + 1) (xs ++ news)) (hg : w.grownBy w2 nv.ownBlock)
    (hv : v1.ownBlock = nv.ownBlock ∨ v1.ownBlock = some w.heap.size)
    (hset : N < L.length → ∃ so sn, news = row1 N (kAt L N) so sn ∧ Old w nv cb so (cellsAt L N (kAt L N)))
    (hback : L.length ≤ N → ∃ p sn, news = row2 p (2 * L.length - 1 - N) (kAt L (2 * L.length - 1 - N)) sn) : Mem W w2 L cb (N + 1) v1 m (xs ++ news) := by
  have hv' : v1.ownBlock = nv.ownBlock ∨ (∃ k, v1.ownBlock = some k ∧ w.heap.size ≤ k) := hv.imp id fun e => ⟨_, e, Nat.le_refl _⟩
  have ht : Touch w w2 (fun a => nv.ownBlock = some a) := (Touch.refl w _).grown hg (fun k hk _ => hk)
  have hown : ∀ k, nv.ownBlock = some k → W.heap.size ≤ k := fun k hk => by
    rcases h.own.2 with ⟨rfl, _⟩ | ⟨g', cap, cur, rfl, hb', _⟩
    · simp [Value.ownBlock] at hk
    · have : g' = k := by simpa [Value.ownBlock] using hk
      omega
  refine ⟨h.hb.grown hg h.hb.size hown, h.cbW, h.cbk.grown hg (fun e => h.ne e.symm), ho, fun i hi hl => ?_, fun i hi hl => ?_⟩
  · by_cases hiN : i < N
    · obtain ⟨so, sn, h1, h2⟩ := h.sets i hiN hl
      exact ⟨so, sn, is_left h1 h.own.1 hiN, h2.touch ht (fun _ hf => .inr hf) hv'⟩
    · obtain rfl : i = N := by omega
      obtain ⟨so, sn, rfl, h2⟩ := hset hl
      exact ⟨so, sn, is_new h.own.1, h2.touch ht (fun _ hf => .inr hf) hv'⟩
  · by_cases hiN : i < N
    · obtain ⟨p, sn, h1⟩ := h.backs i hiN hl
      exact ⟨p, sn, is_left h1 h.own.1 hiN⟩
    · obtain rfl : i = N := by omega
      obtain ⟨p, sn, rfl⟩ := hback hl
      exact ⟨p, sn, is_new h.own.1⟩
theorem cells_of_is {w : World} {g i : Nat} {xs : List Value} {v0 v1 v2 v3 v4 v5 v6 v7 v8 v9 v10 v11 v12 v13 v14 v15 : Value} (h : Is xs i [v0, v1, v2, v3, v4, v5, v6, v7, v8, v9, v10, v11, v12, v13, v14, v15]) (hc' : ∀ j u, xs[j]? = some u → w.cell? ((⟨g, 0, none⟩ : Addr).add j) = some u) :
    w.cell? ⟨g, i * 16, none⟩ = some v0 ∧ w.cell? ⟨g, i * 16 + 1, none⟩ = some v1 ∧ w.cell? ⟨g, i * 16 + 2, none⟩ = some v2 ∧ w.cell? ⟨g, i * 16 + 3, none⟩ = some v3 ∧ w.cell? ⟨g, i * 16 + 4, none⟩ = some v4 ∧ w.cell? ⟨g, i * 16 + 5, none⟩ = some v5 ∧ w.cell? ⟨g, i * 16 + 6, none⟩ = some v6 ∧ w.cell? ⟨g, i * 16 + 7, none⟩ = some v7 ∧ w.cell? ⟨g, i * 16 + 8, none⟩ = some v8 ∧ w.cell? ⟨g, i * 16 + 9, none⟩ = some v9 ∧ w.cell? ⟨g, i * 16 + 10, none⟩ = some v10 ∧ w.cell? ⟨g, i * 16 + 11, none⟩ = some v11 ∧ w.cell? ⟨g, i * 16 + 12, none⟩ = some v12 ∧ w.cell? ⟨g, i * 16 + 13, none⟩ = some v13 ∧ w.cell? ⟨g, i * 16 + 14, none⟩ = some v14 ∧ w.cell? ⟨g, i * 16 + 15, none⟩ = some v15 := by
  have hc : ∀ j u, xs[j]? = some u → w.cell? ⟨g, j, none⟩ = some u := fun j u hu => by
    have := hc' j u hu
    have e : (⟨g, 0, none⟩ : Addr).add j = ⟨g, j, none⟩ := by unfold Addr.add; split <;> simp_all
    rwa [e] at this
  have c0 := hc (i * 16 + 0) v0 (by rw [h 0 (by decide)]; rfl)
  have c1 := hc (i * 16 + 1) v1 (by rw [h 1 (by decide)]; rfl)
  have c2 := hc (i * 16 + 2) v2 (by rw [h 2 (by decide)]; rfl)
  have c3 := hc (i * 16 + 3) v3 (by rw [h 3 (by decide)]; rfl)
  have c4 := hc (i * 16 + 4) v4 (by rw [h 4 (by decide)]; rfl)
  have c5 := hc (i * 16 + 5) v5 (by rw [h 5 (by decide)]; rfl)
  have c6 := hc (i * 16 + 6) v6 (by rw [h 6 (by decide)]; rfl)
  have c7 := hc (i * 16 + 7) v7 (by rw [h 7 (by decide)]; rfl)
  have c8 := hc (i * 16 + 8) v8 (by rw [h 8 (by decide)]; rfl)
  have c9 := hc (i * 16 + 9) v9 (by rw [h 9 (by decide)]; rfl)
  have c10 := hc (i * 16 + 10) v10 (by rw [h 10 (by decide)]; rfl)
  have c11 := hc (i * 16 + 11) v11 (by rw [h 11 (by decide)]; rfl)
  have c12 := hc (i * 16 + 12) v12 (by rw [h 12 (by decide)]; rfl)
  have c13 := hc (i * 16 + 13) v13 (by rw [h 13 (by decide)]; rfl)
  have c14 := hc (i * 16 + 14) v14 (by rw [h 14 (by decide)]; rfl)
  have c15 := hc (i * 16 + 15) v15 (by rw [h 15 (by decide)]; rfl)
  exact ⟨c0, c1, c2, c3, c4, c5, c6, c7, c8, c9, c10, c11, c12, c13, c14, c15⟩
theorem Mem.form (h : Mem W w L cb N nv m xs) (hN : 0 < N) : ∃ g c, nv = .slice (some ⟨g, 0, none⟩) N c ∧ ∀ j u, xs[j]? = some u → w.cell? ((⟨g, 0, none⟩ : Addr).add j) = some u := by
  obtain ⟨g, cap, hv, _, _⟩ := h.own.form hN
  subst hv
  exact ⟨g, cap, rfl, h.own.cells (g := g) rfl⟩
end
end Go.Proofs.Ytogminifliceaaa.undoWhole
