/- Tile: a disk in memory; what steps leave of it. -/
import Derived.Test.YtpbenpkgbhmldaaTileD
namespace Go.Proofs.Ytpbenpkgbhmldaa
open Go.ChangeShapes Go.WideShapes Go.ChangeAt Go.RowKit Go.Maps
set_option linter.unusedVariables false

/-- a disk's own blocks are of these kinds, or tables -/
def Dt (w : World) (k : Nat) : Prop := ∀ t cs, Blk w k t cs → t = 66 ∨ t = 22 ∨ t = 71
/-- w' is w with new blocks, and with writes to blocks of Y of a disk's kinds alone. -/
def Turn (Y : Nat → Prop) (w w' : World) : Prop := Touch w w' (fun k => Y k ∧ Dt w k)
section
variable {W w w' w1 w2 : World} {Y Y' Z : Nat → Prop} {F : Nat → Prop} {k : Nat} {t : TypeId} {cs : Array Value}
theorem Turn.refl (Y : Nat → Prop) (w : World) : Turn Y w w := Touch.refl w _
theorem Turn.of_ext (h : Ext w w') : Turn Y w w' := Touch.of_below h _
theorem Turn.of_touch (h : Touch w w' F) (hF : ∀ k, F k → Y k ∧ Dt w k) : Turn Y w w' := h.more (fun k _ hk => hF k hk)
theorem Turn.blk (h : Turn Y w w') (hb : Blk w k t cs) (h1 : t ≠ 66) (h2 : t ≠ 22) (h3 : t ≠ 71) : Blk w' k t cs := Touch.blk h hb (fun e => (e.2 t cs hb).elim h1 (fun e => e.elim h2 h3))
theorem Turn.blk' (h : Turn Y w w') (hb : Blk w k t cs) (h1 : ¬ Y k) : Blk w' k t cs := Touch.blk h hb (fun e => h1 e.1)
theorem Turn.trans (h : Turn Y w w1) (h' : Turn Y w1 w2) : Turn Y w w2 := Touch.trans h h' (fun k hk e => ⟨e.1, fun t cs hb => by
  by_cases h1 : t = 66
  · exact .inl h1
  · by_cases h2 : t = 22
    · exact .inr (.inl h2)
    · by_cases h3 : t = 71
      · exact .inr (.inr h3)
      · exact e.2 t cs (h.blk hb h1 h2 h3)⟩)
theorem Turn.to (h : Turn Y w w') (hY : ∀ k, k < w.heap.size → Y k → Y' k) : Turn Y' w w' := h.more (fun k hk e => ⟨hY k hk e.1, e.2⟩)
theorem Turn.tl (h : Turn Y w w') {v : Value} {l : List UInt8} (hv : Tl w Z v l) : Tl w' Z v l := hv.touch h (fun k hk e => by
  obtain ⟨cs, hb⟩ := hv.bytes hk
  rcases e.2 5 cs hb with e | e | e <;> cases e)
theorem Turn.size (h : Turn Y w w') : w.heap.size ≤ w'.heap.size := Touch.size h
theorem Turn.ext (h : Turn Y w w') (he : Ext W w) (hY : ∀ k, k < w.heap.size → Y k → W.heap.size ≤ k) : Ext W w' := by
  have h' : Touch w w' (fun k => k < w.heap.size ∧ Y k) := h.more (fun k hk e => ⟨hk, e.1⟩)
  exact Below.trans he (h'.below he.size (fun k e => hY k e.1 e.2))
theorem dt_blk (h : Blk w k t cs) (ht : t = 66 ∨ t = 22 ∨ t = 71) : Dt w k := fun t' cs' h' => by
  have : t' = t := by
    by_cases e : t' = t
    · exact e
    · exact absurd rfl (Blk.ne_ h' h e)
  rw [this]; exact ht
end

/-- what stands in a plan: none; which operation, which tiles survive -/
def Pl (w : World) (Y Z : Nat → Prop) (p : Option Addr) : Option (Int × List UInt8) → Prop
  | none => p = none
  | some (at_, mask) => ∃ pb v, p = some ⟨pb, 0, none⟩ ∧ Y pb ∧ Blk w pb 71 #[.int .i64 at_, v] ∧ Tl w Z v mask
/-- A disk: its struct in block g, its tiles' row, its table of what was. Its own blocks are of Y, its bytes' blocks of Z. -/
structure Dk (Y Z : Nat → Prop) (w : World) (g : Nat) (vt : Value) (m : Nat) (p : Option Addr) (dead : Bool) (n N : Nat) (ts : List Value) (T : List (List UInt8)) (f : Int → Option Value) (U : Int → Option (List UInt8)) (pl : Option (Int × List UInt8)) : Prop where
  blk : Blk w g 66 #[vt, .map (some m), .bool dead, .pointer p]
  own : w.ownsRow 0 22 1 vt n ts
  oY : ∀ k, vt.ownBlock = some k → Y k
  len : T.length = n
  tl : ∀ (i : Nat) (t : Value) (l : List UInt8), ts[i]? = some t → T[i]? = some l → Tl w Z t l ∧ l.length = 64
  was : WasAt w m N f
  iff : ∀ x, (f x).isSome = (U x).isSome
  wtl : ∀ (x : Int) (v : Value), f x = some v → ∃ l, U x = some l ∧ Tl w Z v l ∧ l.length = 64
  key : ∀ x, (U x).isSome = true → 0 ≤ x ∧ x < n
  hg : Y g
  hm : Y m
  pln : Pl w Y Z p pl
def Disk (Y Z : Nat → Prop) (w : World) (g N : Nat) (dead : Bool) (T : List (List UInt8)) (U : Int → Option (List UInt8)) (pl : Option (Int × List UInt8)) : Prop := ∃ vt m p ts f, Dk Y Z w g vt m p dead T.length N ts T f U pl
theorem Pl.touch {w w' : World} {Y Z : Nat → Prop} {p : Option Addr} {pl : Option (Int × List UInt8)} {F : Nat → Prop} (h : Pl w Y Z p pl) (ht : Touch w w' F) (h1 : ∀ k cs, Y k → Blk w k 71 cs → ¬ F k) (h2 : ∀ v l, Tl w Z v l → Tl w' Z v l) : Pl w' Y Z p pl := by
  cases pl with
  | none => exact h
  | some q =>
    obtain ⟨pb, v, h3, h4, h5, h6⟩ := h
    exact ⟨pb, v, h3, h4, ht.blk h5 (h1 _ _ h4 h5), h2 _ _ h6⟩
section
variable {W w w' w0 w1 : World} {Y Y' Z Z' : Nat → Prop} {g m n N b k : Nat} {vt v1 u : Value} {p p' : Option Addr} {dead d' : Bool} {ts : List Value} {T : List (List UInt8)} {f : Int → Option Value} {U : Int → Option (List UInt8)} {pl pl' : Option (Int × List UInt8)} {l : List UInt8} {F : Nat → Prop}
theorem Dk.gm (h : Dk Y Z w g vt m p dead n N ts T f U pl) : g ≠ m := by obtain ⟨D, h', _⟩ := h.was; exact map_ne h.blk h'
theorem Dk.gv (h : Dk Y Z w g vt m p dead n N ts T f U pl) : vt.ownBlock ≠ some g := own_blk_ne h.own h.blk (by decide)
theorem Dk.vm (h : Dk Y Z w g vt m p dead n N ts T f U pl) : vt.ownBlock ≠ some m := by obtain ⟨D, h', _⟩ := h.was; exact row_map h.own h'
theorem Dk.row_blk (h : Dk Y Z w g vt m p dead n N ts T f U pl) (hk : vt.ownBlock = some k) : ∃ cs, Blk w k 22 cs := by
  rcases h.own.2 with ⟨rfl, _⟩ | ⟨g', cap, cur, rfl, _, hh, _⟩
  · simp [Value.ownBlock] at hk
  · have : g' = k := by simpa [Value.ownBlock] using hk
    subst this
    exact ⟨_, hh⟩
theorem Dk.dtm (h : Dk Y Z w g vt m p dead n N ts T f U pl) : Dt w m := fun t cs hb => by obtain ⟨D, h', _⟩ := h.was; exact absurd rfl (map_ne hb h')
/-- whatever turns is none of the disk's -/
theorem Dk.touch (h : Dk Y Z w g vt m p dead n N ts T f U pl) (ht : Touch w w' F) (h1 : ∀ k, Y k → F k → ¬ Dt w k) (h2 : ∀ v l, Tl w Z v l → Tl w' Z v l) : Dk Y Z w' g vt m p dead n N ts T f U pl :=
  { h with
    blk := ht.blk h.blk (fun e => h1 _ h.hg e (dt_blk h.blk (.inl rfl)))
    own := ownsRow_touch ht h.own (fun k hk e => by obtain ⟨cs, hb⟩ := h.row_blk hk; exact h1 k (h.oY k hk) e (dt_blk hb (.inr (.inl rfl))))
    tl := fun i t l a b => ⟨h2 _ _ (h.tl i t l a b).1, (h.tl i t l a b).2⟩
    was := h.was.touch ht (fun e => h1 _ h.hm e h.dtm)
    wtl := fun x v hx => by obtain ⟨l, a, b, c⟩ := h.wtl x v hx; exact ⟨l, a, h2 _ _ b, c⟩
    pln := h.pln.touch ht (fun k cs hy hb e => h1 k hy e (dt_blk hb (.inr (.inr rfl)))) h2 }
theorem Dk.ext (h : Dk Y Z w g vt m p dead n N ts T f U pl) (he : Ext w w') : Dk Y Z w' g vt m p dead n N ts T f U pl :=
  h.touch (Touch.of_below he (fun _ => False)) (fun _ _ hf => hf.elim) (fun v l ht => ht.ext he)
theorem Pl.to (h : Pl w Y Z p pl) (hY : ∀ k, k < w.heap.size → Y k → Y' k) (hZ : ∀ k, k < w.heap.size → Z k → Z' k) : Pl w Y' Z' p pl := by
  cases pl with
  | none => exact h
  | some q =>
    obtain ⟨pb, v, h3, h4, h5, h6⟩ := h
    exact ⟨pb, v, h3, hY _ h5.lt h4, h5, h6.to hZ⟩
/-- where its blocks lie, told otherwise -/
theorem Dk.to (h : Dk Y Z w g vt m p dead n N ts T f U pl) (hY : ∀ k, k < w.heap.size → Y k → Y' k) (hZ : ∀ k, k < w.heap.size → Z k → Z' k) : Dk Y' Z' w g vt m p dead n N ts T f U pl :=
  { h with
    oY := fun k hk => hY k (h.own.lt k hk).2 (h.oY k hk)
    tl := fun i t l a b => ⟨(h.tl i t l a b).1.to hZ, (h.tl i t l a b).2⟩
    wtl := fun x v hx => by obtain ⟨l, a, b, c⟩ := h.wtl x v hx; exact ⟨l, a, b.to hZ, c⟩
    hg := hY _ h.blk.lt h.hg
    hm := hY _ h.was.lt h.hm
    pln := h.pln.to hY hZ }
/-- one of the disk's own blocks turns, or blocks that are none of a disk's kinds -/
theorem Dk.keepT (h : Dk Y Z w g vt m p dead n N ts T f U pl) {F : Nat → Prop} (ht : Touch w w' F) (hF : ∀ k, F k → Dt w k) {v : Value} {l : List UInt8} (hv : Tl w Z v l) : Tl w' Z v l :=
  hv.touch ht (fun k hk hf => by
    obtain ⟨cs, hb⟩ := hv.bytes hk
    rcases hF k hf 5 cs hb with e | e | e <;> cases e)
theorem Dk.lens (h : Dk Y Z w g vt m p dead n N ts T f U pl) : ts.length = n := by have := h.own.1; simpa using this
theorem Dk.dtg (h : Dk Y Z w g vt m p dead n N ts T f U pl) : Dt w g := dt_blk h.blk (.inl rfl)
theorem Dk.dtv (h : Dk Y Z w g vt m p dead n N ts T f U pl) (hk : vt.ownBlock = some k) : Dt w k := by obtain ⟨cs, hb⟩ := h.row_blk hk; exact dt_blk hb (.inr (.inl rfl))
/-- the row has turned, or is another one; the struct names it -/
theorem Dk.row (h : Dk Y Z w g vt m p dead n N ts T f U pl) {n' : Nat} {ts' : List Value} {T' : List (List UInt8)} (hg : Touch w w1 (fun k => vt.ownBlock = some k)) (ho : w1.ownsRow 0 22 1 v1 n' ts') (hy : ∀ k, v1.ownBlock = some k → Y k) (hl : T'.length = n') (hn : n ≤ n')
    (htl : ∀ (i : Nat) (t : Value) (l : List UInt8), ts'[i]? = some t → T'[i]? = some l → (Tl w Z t l ∧ l.length = 64)) : Dk Y Z (w1.setCell ⟨g, 0, none⟩ v1) g v1 m p dead n' N ts' T' f U pl ∧ Turn Y w (w1.setCell ⟨g, 0, none⟩ v1) := by
  have t2 : Touch w1 (w1.setCell ⟨g, 0, none⟩ v1) (fun k => k = g) := Touch.setCell (F := fun k => k = g) (p := ⟨g, 0, none⟩) (Touch.refl w1 _) (fun _ => rfl) v1
  have t12 : Touch w (w1.setCell ⟨g, 0, none⟩ v1) (fun k => k = g ∨ vt.ownBlock = some k) := (hg.more (fun _ _ h => .inr h)).trans t2 (fun _ _ h => .inl h)
  have hdt : ∀ k, (k = g ∨ vt.ownBlock = some k) → Y k ∧ Dt w k := fun k hk => by
    rcases hk with rfl | hk
    · exact ⟨h.hg, h.dtg⟩
    · exact ⟨h.oY k hk, h.dtv hk⟩
  have hb1 : Blk w1 g 66 #[vt, .map (some m), .bool dead, .pointer p] := hg.blk h.blk h.gv
  have hv1 : v1.ownBlock ≠ some g := own_blk_ne ho hb1 (by decide)
  have kt : ∀ v l, Tl w Z v l → Tl (w1.setCell ⟨g, 0, none⟩ v1) Z v l := fun v l hv => h.keepT t12 (fun k hk => (hdt k hk).2) hv
  refine ⟨⟨?_, ownsRow_touch t2 ho (fun k hk e => hv1 (by rw [hk, e])), hy, hl, fun i t l h1 h2 => ⟨kt _ _ (htl i t l h1 h2).1, (htl i t l h1 h2).2⟩, h.was.touch t12 (fun e => ?_), h.iff, fun x v hx => ?_, fun x hx => by have := h.key x hx; omega, h.hg, h.hm, h.pln.touch t12 (fun k cs _ hk e => ?_) kt⟩, Turn.of_touch t12 hdt⟩
  · have := hb1.set_ 0 v1
    simpa using this
  · rcases e with e | e
    · exact h.gm e.symm
    · exact h.vm e
  · obtain ⟨l, h1, h2, h3⟩ := h.wtl x v hx
    exact ⟨l, h1, kt _ _ h2, h3⟩
  · rcases e with e | e
    · subst e; exact Blk.ne_ hk h.blk (by decide) rfl
    · exact own_blk_ne h.own hk (by decide) e
/-- the struct's third and fourth cell turn -/
theorem Dk.cell_ (h : Dk Y Z w g vt m p dead n N ts T f U pl) (d' : Bool) (hp : Pl w Y Z p' pl') (hw : Blk w' g 66 #[vt, .map (some m), .bool d', .pointer p']) (ht : Touch w w' (fun k => k = g)) :
    Dk Y Z w' g vt m p' d' n N ts T f U pl' ∧ Turn Y w w' := by
  have hdt : ∀ k, k = g → Y k ∧ Dt w k := fun k hk => by subst hk; exact ⟨h.hg, h.dtg⟩
  have kt : ∀ v l, Tl w Z v l → Tl w' Z v l := fun v l hv => h.keepT ht (fun k hk => (hdt k hk).2) hv
  refine ⟨{ h with blk := hw, own := ownsRow_touch ht h.own (fun k hk e => h.gv (by rw [hk, e])), tl := fun i t l h1 h2 => ⟨kt _ _ (h.tl i t l h1 h2).1, (h.tl i t l h1 h2).2⟩, was := h.was.touch ht (fun e => h.gm e.symm), wtl := fun x v hx => ?_, pln := hp.touch ht (fun k cs _ hk e => by subst e; exact Blk.ne_ hk h.blk (by decide) rfl) kt }, Turn.of_touch ht hdt⟩
  obtain ⟨l, h1, h2, h3⟩ := h.wtl x v hx
  exact ⟨l, h1, kt _ _ h2, h3⟩
/-- the table turns -/
theorem Dk.was_ (h : Dk Y Z w g vt m p dead n N ts T f U pl) {f' : Int → Option Value} {U' : Int → Option (List UInt8)} {N' : Nat} (hw : WasAt w' m N' f') (ht : Touch w w' (fun k => k = m)) (hi : ∀ x, (f' x).isSome = (U' x).isSome)
    (hl : ∀ (x : Int) (v : Value), f' x = some v → ∃ l, U' x = some l ∧ Tl w Z v l ∧ l.length = 64) (hk : ∀ x, (U' x).isSome = true → 0 ≤ x ∧ x < n) :
    Dk Y Z w' g vt m p dead n N' ts T f' U' pl ∧ Turn Y w w' := by
  have hdt : ∀ k, k = m → Y k ∧ Dt w k := fun k hk => by subst hk; exact ⟨h.hm, h.dtm⟩
  have kt : ∀ v l, Tl w Z v l → Tl w' Z v l := fun v l hv => h.keepT ht (fun k hk => (hdt k hk).2) hv
  refine ⟨⟨ht.blk h.blk h.gm, ownsRow_touch ht h.own (fun k hk e => h.vm (by rw [hk, e])), h.oY, h.len, fun i t l h1 h2 => ⟨kt _ _ (h.tl i t l h1 h2).1, (h.tl i t l h1 h2).2⟩, hw, hi, fun x v hx => ?_, hk, h.hg, h.hm, h.pln.touch ht (fun k cs _ hk e => ?_) kt⟩, Turn.of_touch ht hdt⟩
  · obtain ⟨l, h1, h2, h3⟩ := hl x v hx
    exact ⟨l, h1, kt _ _ h2, h3⟩
  · obtain ⟨D, h', _⟩ := h.was
    exact map_ne hk h' e
/-- the plan's first cell turns -/
theorem Dk.plan_ {a : Int} {M : List UInt8} {pb : Nat} {u : Value} (h : Dk Y Z w g vt m (some ⟨pb, 0, none⟩) dead n N ts T f U pl) (hy : Y pb) (hb : Blk w' pb 71 #[.int .i64 a, u]) (hu : Tl w Z u M) (hpb : ∃ cs, Blk w pb 71 cs) (ht : Touch w w' (fun k => k = pb)) :
    Dk Y Z w' g vt m (some ⟨pb, 0, none⟩) dead n N ts T f U (some (a, M)) ∧ Turn Y w w' := by
  obtain ⟨cs0, hb0⟩ := hpb
  have hdt : ∀ k, k = pb → Y k ∧ Dt w k := fun k hk => by subst hk; exact ⟨hy, dt_blk hb0 (.inr (.inr rfl))⟩
  have kt : ∀ v l, Tl w Z v l → Tl w' Z v l := fun v l hv => h.keepT ht (fun k hk => (hdt k hk).2) hv
  refine ⟨⟨ht.blk h.blk (Blk.ne_ h.blk hb0 (by decide)), ownsRow_touch ht h.own (fun k hk e => own_blk_ne h.own hb0 (by decide) (by rw [hk, e])), h.oY, h.len, fun i t l h1 h2 => ⟨kt _ _ (h.tl i t l h1 h2).1, (h.tl i t l h1 h2).2⟩, h.was.touch ht (fun e => ?_), h.iff, fun x v hx => ?_, h.key, h.hg, h.hm, ⟨pb, u, rfl, hy, hb, kt _ _ hu⟩⟩, Turn.of_touch ht hdt⟩
  · obtain ⟨D, h', _⟩ := h.was
    exact map_ne hb0 h' e.symm
  · obtain ⟨l, h1, h2, h3⟩ := h.wtl x v hx
    exact ⟨l, h1, kt _ _ h2, h3⟩
end
section
variable {W w w' : World} {Y Y' Z Z' : Nat → Prop} {g N : Nat} {dead : Bool} {T : List (List UInt8)} {U : Int → Option (List UInt8)} {pl : Option (Int × List UInt8)} {F : Nat → Prop}
theorem Disk.ext (h : Disk Y Z w g N dead T U pl) (he : Ext w w') : Disk Y Z w' g N dead T U pl := by
  obtain ⟨vt, m, p, ts, f, h⟩ := h
  exact ⟨vt, m, p, ts, f, h.ext he⟩
theorem Disk.touch (h : Disk Y Z w g N dead T U pl) (ht : Touch w w' F) (h1 : ∀ k, Y k → F k → ¬ Dt w k) (h2 : ∀ v l, Tl w Z v l → Tl w' Z v l) : Disk Y Z w' g N dead T U pl := by
  obtain ⟨vt, m, p, ts, f, h⟩ := h
  exact ⟨vt, m, p, ts, f, h.touch ht h1 h2⟩
theorem Disk.to (h : Disk Y Z w g N dead T U pl) (hY : ∀ k, k < w.heap.size → Y k → Y' k) (hZ : ∀ k, k < w.heap.size → Z k → Z' k) : Disk Y' Z' w g N dead T U pl := by
  obtain ⟨vt, m, p, ts, f, h⟩ := h
  exact ⟨vt, m, p, ts, f, h.to hY hZ⟩
/-- another disk has turned -/
theorem Disk.turn (h : Disk Y Z w g N dead T U pl) (ht : Turn Y' w w') (hd : ∀ k, Y k → ¬ Y' k) : Disk Y Z w' g N dead T U pl :=
  h.touch ht (fun k hy hf => absurd hf.1 (hd k hy)) (fun v l hv => Turn.tl ht hv)
/-- a block of another kind turns -/
theorem Disk.set_ {b i : Nat} {t : TypeId} {cs : Array Value} {u : Value} (h : Disk Y Z w g N dead T U pl) (hb : Blk w b t cs) (h1 : t ≠ 66) (h2 : t ≠ 22) (h3 : t ≠ 71) (h4 : t ≠ 5) : Disk Y Z (w.setCell ⟨b, i, none⟩ u) g N dead T U pl := by
  have ht : Touch w (w.setCell ⟨b, i, none⟩ u) (fun k => k = b) := Touch.setCell (F := fun k => k = b) (p := ⟨b, i, none⟩) (Touch.refl w _) (fun _ => rfl) u
  refine h.touch ht (fun k _ e hd => ?_) (fun v l hv => hv.touch ht (fun k hk e => ?_))
  · subst e
    exact (hd t cs hb).elim h1 (fun e => e.elim h2 h3)
  · subst e
    obtain ⟨cs', hb'⟩ := hv.bytes hk
    exact Blk.ne_ hb hb' h4 rfl
theorem Disk.len64 (h : Disk Y Z w g N dead T U pl) {i : Nat} {l : List UInt8} (hl : T[i]? = some l) : l.length = 64 := by
  obtain ⟨vt, m, p, ts, f, h⟩ := h
  have h1 : i < ts.length := by rw [h.lens]; exact (List.getElem?_eq_some_iff.1 hl).1
  exact (h.tl i _ l (List.getElem?_eq_getElem h1) hl).2
theorem Disk.keys (h : Disk Y Z w g N dead T U pl) (x : Int) (hx : (U x).isSome = true) : 0 ≤ x ∧ x < T.length := by
  obtain ⟨vt, m, p, ts, f, h⟩ := h
  exact h.key x hx
end
end Go.Proofs.Ytpbenpkgbhmldaa
