/- Tile: the document's disk in memory (whimref1.Disk); lists of two that are mixed. -/
import Derived.Test.YtpbenpkgbhmldaaTileO
import Derived.Test.YtpbenpkgbhmldaaTileY
namespace Go.Proofs.Ytpbenpkgbhmldaa
open Go.ChangeShapes Go.WideShapes Go.ChangeAt Go.RowKit Go.Maps
set_option linter.unusedVariables false

/-! ### plain lists -/
/-- b, of which the first i are a's -/
def mix {α : Type} (i : Nat) (a b : List α) : List α := a.take i ++ b.drop i
section
variable {α : Type} {a b : List α} {i j : Nat} {x y : α}
theorem mix_zero (a b : List α) : mix 0 a b = b := by simp [mix]
theorem mix_len (h : a.length = b.length) (hi : i ≤ a.length) : (mix i a b).length = a.length := by simp [mix]; omega
theorem mix_all (h : a.length = b.length) : mix a.length a b = a := by unfold mix; rw [List.take_length, List.drop_of_length_le (by omega), List.append_nil]
theorem mix_get (h : a.length = b.length) (hi : i ≤ a.length) : (mix i a b)[j]? = if j < i then a[j]? else b[j]? := by
  unfold mix
  by_cases hj : j < i
  · rw [if_pos hj, List.getElem?_append_left (by simp; omega), List.getElem?_take, if_pos hj]
  · rw [if_neg hj, List.getElem?_append_right (by simp; omega), List.getElem?_drop]
    congr 1
    simp
    omega
theorem mix_succ (h : a.length = b.length) (hi : i < a.length) (hx : a[i]? = some x) : mix (i + 1) a b = (mix i a b).set i x := by
  apply List.ext_getElem?
  intro j
  rw [mix_get h (by omega), List.getElem?_set, mix_get h (by omega)]
  have hl : i < (mix i a b).length := by rw [mix_len h (by omega)]; exact hi
  by_cases hj : j < i
  · rw [if_pos (by omega), if_neg (by omega), if_pos hj]
  · by_cases e : j = i
    · subst e
      rw [if_pos (by omega), if_pos rfl, if_pos hl, hx]
    · rw [if_neg (by omega), if_neg (by omega), if_neg hj]
theorem mix_skip (h : a.length = b.length) (hi : i < a.length) (he : a[i]? = b[i]?) : mix (i + 1) a b = mix i a b := by
  apply List.ext_getElem?
  intro j
  rw [mix_get h (by omega), mix_get h (by omega)]
  by_cases hj : j < i
  · rw [if_pos (by omega), if_pos hj]
  · by_cases e : j = i
    · subst e
      rw [if_pos (by omega), if_neg hj, he]
    · rw [if_neg (by omega), if_neg hj]
end
/-- what each tile was at the last Sync -/
def vL (T : List (List UInt8)) (U : Int → Option (List UInt8)) : List (List UInt8) := (List.range T.length).map fun j => (U (j : Nat)).getD (T.getD j [])
/-- which tiles are loose -/
def lL (T : List (List UInt8)) (U : Int → Option (List UInt8)) : List Bool := (List.range T.length).map fun j => (U (j : Nat)).isSome
theorem vL_len (T : List (List UInt8)) (U : Int → Option (List UInt8)) : (vL T U).length = T.length := by simp [vL]
theorem lL_len (T : List (List UInt8)) (U : Int → Option (List UInt8)) : (lL T U).length = T.length := by simp [lL]
theorem vL_get (T : List (List UInt8)) (U : Int → Option (List UInt8)) (j : Nat) : (vL T U)[j]? = if j < T.length then some ((U (j : Nat)).getD (T.getD j [])) else none := by
  unfold vL
  rw [List.getElem?_map]
  by_cases h : j < T.length
  · rw [List.getElem?_range h, if_pos h]; rfl
  · rw [if_neg h, List.getElem?_eq_none (by simp; omega)]; rfl
theorem lL_get (T : List (List UInt8)) (U : Int → Option (List UInt8)) (j : Nat) : (lL T U)[j]? = if j < T.length then some (U (j : Nat)).isSome else none := by
  unfold lL
  rw [List.getElem?_map]
  by_cases h : j < T.length
  · rw [List.getElem?_range h, if_pos h]; rfl
  · rw [if_neg h, List.getElem?_eq_none (by simp; omega)]; rfl
theorem vL_none (T : List (List UInt8)) : vL T (fun _ => none) = T := by
  apply List.ext_getElem?
  intro j
  rw [vL_get]
  by_cases h : j < T.length
  · rw [if_pos h, List.getElem?_eq_getElem h]
    simp [List.getD, List.getElem?_eq_getElem h]
  · rw [if_neg h, List.getElem?_eq_none (by omega)]
theorem lL_none (T : List (List UInt8)) : lL T (fun _ => none) = List.replicate T.length false := by
  apply List.ext_getElem?
  intro j
  rw [lL_get, List.getElem?_replicate]
  rfl
theorem lL_none' (T T' : List (List UInt8)) (h : T'.length = T.length) : lL T' (fun _ => none) = lL T (fun _ => none) := by rw [lL_none, lL_none, h]
theorem vL_wr (T : List (List UInt8)) (U : Int → Option (List UInt8)) (k : Nat) (bs : List UInt8) : vL (T.set k bs) (wrU T U k) = vL T U := by
  apply List.ext_getElem?
  intro j
  rw [vL_get, vL_get, List.length_set]
  by_cases h : j < T.length
  · rw [if_pos h, if_pos h]
    unfold wrU
    by_cases e : j = k
    · subst e
      rw [if_pos rfl]
      cases hU : U (j : Nat) with
      | some u => simp
      | none => simp [List.getD, List.getElem?_eq_getElem h]
    · rw [if_neg (by omega)]
      have : (T.set k bs).getD j [] = T.getD j [] := by simp [List.getD, List.getElem?_set_ne (Ne.symm e)]
      rw [this]
  · rw [if_neg h, if_neg h]
theorem lL_wr (T : List (List UInt8)) (U : Int → Option (List UInt8)) (k : Nat) (bs : List UInt8) (hk : k < T.length) : lL (T.set k bs) (wrU T U k) = (lL T U).set k true := by
  apply List.ext_getElem?
  intro j
  rw [lL_get, List.getElem?_set, lL_get, lL_len, List.length_set]
  unfold wrU
  by_cases e : k = j
  · subst e
    rw [if_pos hk, if_pos rfl, if_pos rfl, if_pos hk]
    cases hU : U (k : Nat) with
    | some u => rfl
    | none => simp [List.getElem?_eq_getElem hk]
  · rw [if_neg e]
    by_cases h : j < T.length
    · rw [if_pos h, if_pos h, if_neg (by omega)]
    · rw [if_neg h, if_neg h]
/-- a step of a crash, at a tile that is not loose: nothing differs -/
theorem cr_dry {M : List UInt8} {T : List (List UInt8)} {U : Int → Option (List UInt8)} {i : Nat} (hi : i < T.length) (h : U (i : Nat) = none) : (crT M U T)[i]? = T[i]? ∧ (crT M U T)[i]? = (vL T U)[i]? ∧ (lL (crT M U T) (fun _ => none))[i]? = (lL T U)[i]? ∧ cnt U (i + 1) = cnt U i := by
  rw [crT_get, vL_get, lL_get, lL_get, crT_len, if_pos hi, if_pos hi, if_pos hi, if_pos hi, h]
  refine ⟨?_, rfl, rfl, by simp [cnt, h]⟩
  simp [List.getD, List.getElem?_eq_getElem hi]
theorem cr_wet {M : List UInt8} {T : List (List UInt8)} {U : Int → Option (List UInt8)} {i : Nat} {t u : List UInt8} (hi : T[i]? = some t) (h : U (i : Nat) = some u) : (crT M U T)[i]? = some (if bit M (cnt U i) then t else u) ∧ (vL T U)[i]? = some u ∧ (lL T U)[i]? = some true ∧ cnt U (i + 1) = cnt U i + 1 := by
  have hl : i < T.length := (List.getElem?_eq_some_iff.1 hi).1
  rw [crT_get, vL_get, lL_get, if_pos hl, if_pos hl, if_pos hl, h]
  refine ⟨?_, rfl, rfl, by simp [cnt, h]⟩
  simp [List.getD, hi]

/-! ### the document's disk in memory -/
def sv (l : List (List UInt8)) : List Value := l.map (fun x => Value.string (str x))
def bb (bs : List Bool) : List Value := bs.map Value.bool
theorem sv_len (l : List (List UInt8)) : (sv l).length = l.length := by simp [sv]
theorem bb_len (l : List Bool) : (bb l).length = l.length := by simp [bb]
theorem sv_set (l : List (List UInt8)) (k : Nat) (x : List UInt8) : (sv l).set k (.string (str x)) = sv (l.set k x) := by simp [sv, List.map_set]
theorem bb_set (l : List Bool) (k : Nat) (x : Bool) : (bb l).set k (.bool x) = bb (l.set k x) := by simp [bb, List.map_set]
theorem sv_at {l : List (List UInt8)} {k : Nat} {x : List UInt8} (h : l[k]? = some x) : (sv l)[k]? = some (.string (str x)) := by simp [sv, h]
theorem bb_at {l : List Bool} {k : Nat} {x : Bool} (h : l[k]? = some x) : (bb l)[k]? = some (.bool x) := by simp [bb, h]
/-- a block of the document's disk's kinds -/
def Rt (w : World) (k : Nat) : Prop := ∃ t cs, Blk w k t cs ∧ (t = 59 ∨ t = 9 ∨ t = 4)
/-- w' is w with new blocks and draws, and with writes to blocks of the document's disk's kinds that lie behind B -/
def RTurn (B : Nat) (w w' : World) : Prop := Touch w w' (fun k => B ≤ k ∧ Rt w k)
section
variable {B : Nat} {w w' w1 w2 W : World} {k : Nat} {t : TypeId} {cs : Array Value}
theorem RTurn.refl (B : Nat) (w : World) : RTurn B w w := Touch.refl w _
theorem RTurn.of_ext (h : Ext w w') : RTurn B w w' := Touch.of_below h _
theorem RTurn.of_touch {F : Nat → Prop} (h : Touch w w' F) (hF : ∀ k, F k → B ≤ k ∧ Rt w k) : RTurn B w w' := h.more (fun k _ hk => hF k hk)
theorem RTurn.size (h : RTurn B w w') : w.heap.size ≤ w'.heap.size := Touch.size h
theorem RTurn.trans (h : RTurn B w w1) (h' : RTurn B w1 w2) : RTurn B w w2 := Touch.trans h h' (fun k hk e => ⟨e.1, by
  by_cases hr : Rt w k
  · exact hr
  · obtain ⟨t, cs, hb, ht⟩ := e.2
    have := h.block k hk (fun e => hr e.2)
    exact ⟨t, cs, this.symm.trans hb, ht⟩⟩)
theorem RTurn.blk (h : RTurn B w w') (hb : Blk w k t cs) (h1 : t ≠ 59) (h2 : t ≠ 9) (h3 : t ≠ 4) : Blk w' k t cs := Touch.blk h hb (fun e => by
  obtain ⟨t', cs', hb', ht⟩ := e.2
  have e : t = t' := by
    by_cases e : t = t'
    · exact e
    · exact absurd rfl (Blk.ne_ hb hb' e)
  subst e
  rcases ht with e | e | e <;> contradiction)
theorem RTurn.own {base e m n : Nat} {v : Value} {xs : List Value} (h : RTurn B w w') (ho : w.ownsRow base e m v n xs) (h1 : e ≠ 59) (h2 : e ≠ 9) (h3 : e ≠ 4) : w'.ownsRow base e m v n xs :=
  ownsRow_touch h ho (fun k hk hf => by
    obtain ⟨t', cs', hb', ht⟩ := hf.2
    exact own_blk_ne ho hb' (fun e => by rcases ht with e' | e' | e' <;> (rw [e'] at e; contradiction)) hk)
theorem RTurn.ext (h : RTurn W.heap.size w w') (he : Ext W w) : Ext W w' := Below.trans he (Touch.below h he.size (fun k e => e.1))
end
/-- another's disk is not met -/
theorem Disk.rturn {Y Z : Nat → Prop} {w w' : World} {g N B : Nat} {dead : Bool} {T : List (List UInt8)} {U : Int → Option (List UInt8)} {pl : Option (Int × List UInt8)} (h : Disk Y Z w g N dead T U pl) (ht : RTurn B w w') : Disk Y Z w' g N dead T U pl :=
  h.touch ht (fun k _ hf hd => by
    obtain ⟨t, cs, hb, e⟩ := hf.2
    have := hd t cs hb
    rcases e with rfl | rfl | rfl <;> rcases this with e | e | e <;> cases e)
    (fun v l hv => hv.touch ht (fun k hk hf => by
      obtain ⟨t, cs, hb, e⟩ := hf.2
      obtain ⟨cs', hb'⟩ := hv.bytes hk
      rcases e with rfl | rfl | rfl <;> exact Blk.ne_ hb hb' (by decide) rfl))
/-- the document's disk: its struct, its rows, the mask of its plan -/
structure Rk (B : Nat) (w : World) (b n : Nat) (A1 A2 A3 Am : Option Addr) (c1 c2 c3 km cm : Nat) (T V : List (List UInt8)) (L : List Bool) (dead on : Bool) (pa : Int) (M : List UInt8) : Prop where
  blk : Blk w b 59 #[.slice A1 n c1, .slice A2 n c2, .slice A3 n c3, .bool dead, .bool on, .int .i64 pa, .slice Am km cm]
  now : w.ownsRow B 9 1 (.slice A1 n c1) n (sv T)
  was : w.ownsRow B 9 1 (.slice A2 n c2) n (sv V)
  wet : w.ownsRow B 4 1 (.slice A3 n c3) n (bb L)
  ne : ∀ k, (Value.slice A1 n c1).ownBlock = some k → (Value.slice A2 n c2).ownBlock ≠ some k
  mask : w.ownsRow B 5 1 (.slice Am km cm) km (bv M)
  hb : B ≤ b
  kml : km ≤ 1048576
section
variable {B : Nat} {w w' : World} {b n : Nat} {A1 A2 A3 Am : Option Addr} {c1 c2 c3 km cm : Nat} {T V : List (List UInt8)} {L : List Bool} {dead on : Bool} {pa : Int} {M : List UInt8}
theorem Rk.ext (h : Rk B w b n A1 A2 A3 Am c1 c2 c3 km cm T V L dead on pa M) (he : Ext w w') : Rk B w' b n A1 A2 A3 Am c1 c2 c3 km cm T V L dead on pa M :=
  ⟨he.blk h.blk, he.own h.now, he.own h.was, he.own h.wet, h.ne, he.own h.mask, h.hb, h.kml⟩
theorem Rk.turn {Y : Nat → Prop} (h : Rk B w b n A1 A2 A3 Am c1 c2 c3 km cm T V L dead on pa M) (ht : Turn Y w w') : Rk B w' b n A1 A2 A3 Am c1 c2 c3 km cm T V L dead on pa M :=
  ⟨ht.blk h.blk (by decide) (by decide) (by decide), ht.own h.now (by decide) (by decide) (by decide), ht.own h.was (by decide) (by decide) (by decide), ht.own h.wet (by decide) (by decide) (by decide), h.ne, ht.own h.mask (by decide) (by decide) (by decide), h.hb, h.kml⟩
theorem Rk.cells (h : Rk B w b n A1 A2 A3 Am c1 c2 c3 km cm T V L dead on pa M) : w.cell? ⟨b, 0, none⟩ = some (.slice A1 n c1) ∧ w.cell? ⟨b, 1, none⟩ = some (.slice A2 n c2) ∧ w.cell? ⟨b, 2, none⟩ = some (.slice A3 n c3) ∧ w.cell? ⟨b, 3, none⟩ = some (.bool dead) ∧ w.cell? ⟨b, 4, none⟩ = some (.bool on) ∧ w.cell? ⟨b, 5, none⟩ = some (.int .i64 pa) ∧ w.cell? ⟨b, 6, none⟩ = some (.slice Am km cm) := h.blk.cells7
theorem Rk.lt_ (h : Rk B w b n A1 A2 A3 Am c1 c2 c3 km cm T V L dead on pa M) : T.length = n ∧ V.length = n ∧ L.length = n := by
  have h1 := h.now.1
  have h2 := h.was.1
  have h3 := h.wet.1
  rw [sv_len] at h1 h2
  rw [bb_len] at h3
  omega
/-- a cell of the struct turns -/
theorem Rk.set_ {d' o' : Bool} {a' : Int} (h : Rk B w b n A1 A2 A3 Am c1 c2 c3 km cm T V L dead on pa M) (hw : Blk w' b 59 #[.slice A1 n c1, .slice A2 n c2, .slice A3 n c3, .bool d', .bool o', .int .i64 a', .slice Am km cm]) (ht : Touch w w' (fun k => k = b)) :
    Rk B w' b n A1 A2 A3 Am c1 c2 c3 km cm T V L d' o' a' M ∧ RTurn B w w' :=
  ⟨⟨hw, ownsRow_touch ht h.now (fun k hk e => by subst e; exact own_blk_ne h.now h.blk (by decide) hk), ownsRow_touch ht h.was (fun k hk e => by subst e; exact own_blk_ne h.was h.blk (by decide) hk), ownsRow_touch ht h.wet (fun k hk e => by subst e; exact own_blk_ne h.wet h.blk (by decide) hk), h.ne, ownsRow_touch ht h.mask (fun k hk e => by subst e; exact own_blk_ne h.mask h.blk (by decide) hk), h.hb, h.kml⟩,
    RTurn.of_touch ht (fun k e => by subst e; exact ⟨h.hb, _, _, h.blk, .inl rfl⟩)⟩
theorem own_rt {e m n : Nat} {v : Value} {xs : List Value} {k : Nat} (h : w.ownsRow B e m v n xs) (hk : v.ownBlock = some k) (he : e = 59 ∨ e = 9 ∨ e = 4) : B ≤ k ∧ Rt w k := by
  refine ⟨(h.lt k hk).1, ?_⟩
  rcases h.2 with ⟨rfl, _⟩ | ⟨g', cap, cur, rfl, _, hh, _⟩
  · simp [Value.ownBlock] at hk
  · have : g' = k := by simpa [Value.ownBlock] using hk
    subst this
    exact ⟨_, _, hh, he⟩
theorem own_ne_own {e e' m m' n n' B' : Nat} {v v' : Value} {xs xs' : List Value} {k : Nat} (h : w.ownsRow B e m v n xs) (h' : w.ownsRow B' e' m' v' n' xs') (he : e ≠ e') (hk : v.ownBlock = some k) : v'.ownBlock ≠ some k := by
  rcases h.2 with ⟨rfl, _⟩ | ⟨g', cap, cur, rfl, _, hh, _⟩
  · simp [Value.ownBlock] at hk
  · have : g' = k := by simpa [Value.ownBlock] using hk
    subst this
    exact own_blk_ne h' hh (Ne.symm he)
theorem tset' (w : World) (g k : Nat) (u : Value) : Touch w (w.setCell ⟨g, k, none⟩ u) (fun x => x = g) := Touch.setCell (F := fun x => x = g) (p := ⟨g, k, none⟩) (Touch.refl w _) (fun _ => rfl) u
/-- a tile turns -/
theorem Rk.now_ {g1 : Nat} (h : Rk B w b n (some ⟨g1, 0, none⟩) A2 A3 Am c1 c2 c3 km cm T V L dead on pa M) (i : Nat) (x : List UInt8) :
    Rk B (w.setCell ⟨g1, i, none⟩ (.string (str x))) b n (some ⟨g1, 0, none⟩) A2 A3 Am c1 c2 c3 km cm (T.set i x) V L dead on pa M ∧ RTurn B w (w.setCell ⟨g1, i, none⟩ (.string (str x))) := by
  have ht := tset' w g1 i (.string (str x))
  have e1 : (Value.slice (some ⟨g1, 0, none⟩) n c1).ownBlock = some g1 := rfl
  refine ⟨⟨ht.blk h.blk (fun e => own_blk_ne h.now h.blk (by decide) (by rw [e1, e])), by rw [← sv_set]; exact (h.now.stored i _).1, ownsRow_touch ht h.was (fun k hk e => by subst e; exact h.ne _ e1 hk), ownsRow_touch ht h.wet (fun k hk e => by subst e; exact own_ne_own h.now h.wet (by decide) e1 hk), h.ne, ownsRow_touch ht h.mask (fun k hk e => by subst e; exact own_ne_own h.now h.mask (by decide) e1 hk), h.hb, h.kml⟩, RTurn.of_touch ht (fun k e => by subst e; exact own_rt h.now e1 (.inr (.inl rfl)))⟩
/-- what a tile was turns -/
theorem Rk.was_ {g2 : Nat} (h : Rk B w b n A1 (some ⟨g2, 0, none⟩) A3 Am c1 c2 c3 km cm T V L dead on pa M) (i : Nat) (x : List UInt8) :
    Rk B (w.setCell ⟨g2, i, none⟩ (.string (str x))) b n A1 (some ⟨g2, 0, none⟩) A3 Am c1 c2 c3 km cm T (V.set i x) L dead on pa M ∧ RTurn B w (w.setCell ⟨g2, i, none⟩ (.string (str x))) := by
  have ht := tset' w g2 i (.string (str x))
  have e1 : (Value.slice (some ⟨g2, 0, none⟩) n c2).ownBlock = some g2 := rfl
  refine ⟨⟨ht.blk h.blk (fun e => own_blk_ne h.was h.blk (by decide) (by rw [e1, e])), ownsRow_touch ht h.now (fun k hk e => by subst e; exact h.ne _ hk e1), by rw [← sv_set]; exact (h.was.stored i _).1, ownsRow_touch ht h.wet (fun k hk e => by subst e; exact own_ne_own h.was h.wet (by decide) e1 hk), h.ne, ownsRow_touch ht h.mask (fun k hk e => by subst e; exact own_ne_own h.was h.mask (by decide) e1 hk), h.hb, h.kml⟩, RTurn.of_touch ht (fun k e => by subst e; exact own_rt h.was e1 (.inr (.inl rfl)))⟩
/-- a tile is loose, or no more -/
theorem Rk.wet_ {g3 : Nat} (h : Rk B w b n A1 A2 (some ⟨g3, 0, none⟩) Am c1 c2 c3 km cm T V L dead on pa M) (i : Nat) (x : Bool) :
    Rk B (w.setCell ⟨g3, i, none⟩ (.bool x)) b n A1 A2 (some ⟨g3, 0, none⟩) Am c1 c2 c3 km cm T V (L.set i x) dead on pa M ∧ RTurn B w (w.setCell ⟨g3, i, none⟩ (.bool x)) := by
  have ht := tset' w g3 i (.bool x)
  have e1 : (Value.slice (some ⟨g3, 0, none⟩) n c3).ownBlock = some g3 := rfl
  refine ⟨⟨ht.blk h.blk (fun e => own_blk_ne h.wet h.blk (by decide) (by rw [e1, e])), ownsRow_touch ht h.now (fun k hk e => by subst e; exact own_ne_own h.now h.wet (by decide) hk e1), ownsRow_touch ht h.was (fun k hk e => by subst e; exact own_ne_own h.was h.wet (by decide) hk e1), by rw [← bb_set]; exact (h.wet.stored i _).1, h.ne, ownsRow_touch ht h.mask (fun k hk e => by subst e; exact own_ne_own h.wet h.mask (by decide) e1 hk), h.hb, h.kml⟩, RTurn.of_touch ht (fun k e => by subst e; exact own_rt h.wet e1 (.inr (.inr rfl)))⟩
/-- a tile's place: the rows' blocks, and what stands there -/
theorem Rk.at_ (h : Rk B w b n A1 A2 A3 Am c1 c2 c3 km cm T V L dead on pa M) {i : Nat} (hi : i < n) :
    ∃ g1 g2 g3 t v l, A1 = some ⟨g1, 0, none⟩ ∧ A2 = some ⟨g2, 0, none⟩ ∧ A3 = some ⟨g3, 0, none⟩ ∧ T[i]? = some t ∧ V[i]? = some v ∧ L[i]? = some l ∧
      w.cell? ⟨g1, i, none⟩ = some (.string (str t)) ∧ w.cell? ⟨g2, i, none⟩ = some (.string (str v)) ∧ w.cell? ⟨g3, i, none⟩ = some (.bool l) ∧
      w.frozen? ⟨g1, i, none⟩ = false ∧ w.frozen? ⟨g2, i, none⟩ = false ∧ w.frozen? ⟨g3, i, none⟩ = false ∧ g1 ≠ g2 ∧ g1 ≠ g3 ∧ g2 ≠ g3 ∧ b ≠ g1 ∧ b ≠ g2 ∧ b ≠ g3 := by
  obtain ⟨l1, l2, l3⟩ := h.lt_
  obtain ⟨g1, d1, e1, _, _⟩ := h.now.form (by omega)
  obtain ⟨g2, d2, e2, _, _⟩ := h.was.form (by omega)
  obtain ⟨g3, d3, e3, _, _⟩ := h.wet.form (by omega)
  injection e1 with e1 _ _
  injection e2 with e2 _ _
  injection e3 with e3 _ _
  subst e1 e2 e3
  have p1 := List.getElem?_eq_getElem (show i < T.length by omega)
  have p2 := List.getElem?_eq_getElem (show i < V.length by omega)
  have p3 := List.getElem?_eq_getElem (show i < L.length by omega)
  refine ⟨g1, g2, g3, _, _, _, rfl, rfl, rfl, p1, p2, p3, ?_, ?_, ?_, h.now.frozenAt i, h.was.frozenAt i, h.wet.frozenAt i, ?_, ?_, ?_, ?_, ?_, ?_⟩
  · rw [h.now.cellAt i (by omega)]; exact sv_at p1
  · rw [h.was.cellAt i (by omega)]; exact sv_at p2
  · rw [h.wet.cellAt i (by omega)]; exact bb_at p3
  · rintro rfl; exact h.ne _ rfl rfl
  · rintro rfl; exact own_ne_own h.now h.wet (by decide) rfl rfl
  · rintro rfl; exact own_ne_own h.was h.wet (by decide) rfl rfl
  · rintro rfl; exact own_blk_ne h.now h.blk (by decide) rfl
  · rintro rfl; exact own_blk_ne h.was h.blk (by decide) rfl
  · rintro rfl; exact own_blk_ne h.wet h.blk (by decide) rfl
end
/-- the document's disk says the same -/
def Rf (B : Nat) (w : World) (b : Nat) (dead : Bool) (T : List (List UInt8)) (U : Int → Option (List UInt8)) (pl : Option (Int × List UInt8)) : Prop :=
  ∃ A1 A2 A3 Am c1 c2 c3 km cm on pa M, Rk B w b T.length A1 A2 A3 Am c1 c2 c3 km cm T (vL T U) (lL T U) dead on pa M ∧ pl = (if on then some (pa, M) else none)
theorem Rf.ext {B : Nat} {w w' : World} {b : Nat} {dead : Bool} {T : List (List UInt8)} {U : Int → Option (List UInt8)} {pl : Option (Int × List UInt8)} (h : Rf B w b dead T U pl) (he : Ext w w') : Rf B w' b dead T U pl := by
  obtain ⟨A1, A2, A3, Am, c1, c2, c3, km, cm, on, pa, M, h, e⟩ := h
  exact ⟨A1, A2, A3, Am, c1, c2, c3, km, cm, on, pa, M, h.ext he, e⟩
theorem Rf.turn {B : Nat} {w w' : World} {b : Nat} {dead : Bool} {T : List (List UInt8)} {U : Int → Option (List UInt8)} {pl : Option (Int × List UInt8)} {Y : Nat → Prop} (h : Rf B w b dead T U pl) (he : Turn Y w w') : Rf B w' b dead T U pl := by
  obtain ⟨A1, A2, A3, Am, c1, c2, c3, km, cm, on, pa, M, h, e⟩ := h
  exact ⟨A1, A2, A3, Am, c1, c2, c3, km, cm, on, pa, M, h.turn he, e⟩
end Go.Proofs.Ytpbenpkgbhmldaa
