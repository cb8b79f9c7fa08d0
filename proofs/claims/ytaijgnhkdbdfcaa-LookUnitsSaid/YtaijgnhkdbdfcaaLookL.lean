/- Look: words: dirty pages, units, what is seen, an entry with lists; what an operation on what is seen may turn. -/
import Derived.Test.YtaijgnhkdbdfcaaLookK
namespace Go.Proofs.Ytaijgnhkdbdfcaa
open Go.ChangeShapes Go.WideShapes Go.ChangeAt Go.RowKit
set_option linter.unusedVariables false

/-- a dirty page -/
structure Dt where
  p : Int
  r : Int
def dtc (x : Dt) : List Value := [.int .i64 x.p, .int .i64 x.r]
def dts (l : List Dt) : List Value := l.flatMap dtc
theorem dts_one (l : List Dt) : ∀ u ∈ dts l, u.oneCell' = true := by
  intro u hu
  obtain ⟨x, _, hx⟩ := List.mem_flatMap.1 hu
  simp only [dtc, List.mem_cons, List.not_mem_nil, or_false] at hx
  rcases hx with rfl | rfl <;> rfl
theorem dts_len (l : List Dt) : (dts l).length = l.length * 2 := by
  induction l with
  | nil => rfl
  | cons a l ih => simp only [dts, List.flatMap_cons, List.length_append, List.length_cons, dtc] at ih ⊢; simp only [List.length_nil]; omega
theorem dts_at {l : List Dt} {q : Nat} {x : Dt} (h : l[q]? = some x) : (dts l)[q * 2]? = some (.int .i64 x.p) ∧ (dts l)[q * 2 + 1]? = some (.int .i64 x.r) := by
  obtain ⟨hq, e⟩ := List.getElem?_eq_some_iff.1 h
  have e1 : l = l.take q ++ (x :: l.drop (q + 1)) := by
    rw [← e, List.getElem_cons_drop, List.take_append_drop]
  have e2 : dts l = dts (l.take q) ++ (dtc x ++ dts (l.drop (q + 1))) := by
    conv => lhs; rw [e1]
    simp [dts]
  have hl : (dts (l.take q)).length = q * 2 := by rw [dts_len, List.length_take]; omega
  rw [e2]
  refine ⟨?_, ?_⟩
  · rw [List.getElem?_append_right (by omega), hl]; simp [dtc]
  · rw [List.getElem?_append_right (by omega), hl, show q * 2 + 1 - q * 2 = 1 by omega]; simp [dtc]
def putD (L : List Dt) (i : Nat) (x : Dt) : List Dt := L.take i ++ x :: L.drop i
theorem dts_take_drop : ∀ (L : List Dt) (i : Nat), (dts L).take (i * 2) = dts (L.take i) ∧ (dts L).drop (i * 2) = dts (L.drop i) := by
  intro L
  induction L with
  | nil => intro i; simp [dts]
  | cons a L ih =>
    intro i
    cases i with
    | zero => simp [dts]
    | succ i =>
      have h := ih i
      simp only [dts, List.flatMap_cons, dtc] at h ⊢
      rw [show (i + 1) * 2 = i * 2 + 1 + 1 by omega]
      simp [h.1, h.2, dtc]
theorem dts_put (L : List Dt) (i : Nat) (x : Dt) : dts (putD L i x) = (dts L).take (i * 2) ++ dtc x ++ (dts L).drop (i * 2) := by
  rw [(dts_take_drop L i).1, (dts_take_drop L i).2]
  simp [putD, dts]
theorem lvs_take_drop : ∀ (L : List Lv) (i : Nat), (lvs L).take (i * 4) = lvs (L.take i) ∧ (lvs L).drop (i * 4) = lvs (L.drop i) := by
  intro L
  induction L with
  | nil => intro i; simp [lvs]
  | cons a L ih =>
    intro i
    cases i with
    | zero => simp [lvs]
    | succ i =>
      have h := ih i
      simp only [lvs, List.flatMap_cons, lvc] at h ⊢
      rw [show (i + 1) * 4 = i * 4 + 1 + 1 + 1 + 1 by omega]
      simp [h.1, h.2, lvc]
/-- a unit that has not ended: its number, its moves, how many are done -/
structure Ou where
  u : Int
  mv : List Mv
  d : Int
/-- units' cells, one behind the other; their moves lie in rows of their own -/
def OusAre (w : World) (l : List Ou) (xs : List Value) : Prop :=
  xs.length = l.length * 3 ∧ ∀ k x, l[k]? = some x → ∃ A c, xs[k * 3]? = some (.int .i64 x.u) ∧ xs[k * 3 + 1]? = some (.slice A x.mv.length c) ∧ xs[k * 3 + 2]? = some (.int .i64 x.d) ∧ w.ownsRow 0 54 4 (.slice A x.mv.length c) x.mv.length (mvs x.mv)
section
variable {w w' : World} {l : List Ou} {xs : List Value}
theorem OusAre.nil (w : World) : OusAre w [] [] := ⟨rfl, fun k x h => by simp at h⟩
theorem OusAre.one (h : OusAre w l xs) : ∀ u ∈ xs, u.oneCell' = true := by
  intro u hu
  obtain ⟨j, hj, rfl⟩ := List.getElem_of_mem hu
  have hk : j / 3 < l.length := by have := h.1; omega
  obtain ⟨A, c, h0, h1, h2, _⟩ := h.2 (j / 3) _ (List.getElem?_eq_getElem hk)
  have hm : j = j / 3 * 3 ∨ j = j / 3 * 3 + 1 ∨ j = j / 3 * 3 + 2 := by omega
  have hg : xs[j]? = some xs[j] := List.getElem?_eq_getElem hj
  rcases hm with e | e | e
  · rw [← e, hg] at h0; injection h0 with h0; rw [h0]; rfl
  · rw [← e, hg] at h1; injection h1 with h1; rw [h1]; rfl
  · rw [← e, hg] at h2; injection h2 with h2; rw [h2]; rfl
theorem OusAre.keep (h : OusAre w l xs) (hk : ∀ v n ys, w.ownsRow 0 54 4 v n ys → w'.ownsRow 0 54 4 v n ys) : OusAre w' l xs :=
  ⟨h.1, fun k x hx => by
    obtain ⟨A, c, h0, h1, h2, h3⟩ := h.2 k x hx
    exact ⟨A, c, h0, h1, h2, hk _ _ _ h3⟩⟩
theorem OusAre.ext (h : OusAre w l xs) (hx : Ext w w') : OusAre w' l xs := h.keep fun _ _ _ ho => hx.own ho
theorem OusAre.snoc (h : OusAre w l xs) {x : Ou} {A : Option Addr} {c : Nat} (ho : w.ownsRow 0 54 4 (.slice A x.mv.length c) x.mv.length (mvs x.mv)) : OusAre w (l ++ [x]) (xs ++ [.int .i64 x.u, .slice A x.mv.length c, .int .i64 x.d]) := by
  refine ⟨by simp [h.1]; omega, fun k y hy => ?_⟩
  have hl := h.1
  by_cases hk : k < l.length
  · rw [List.getElem?_append_left hk] at hy
    obtain ⟨A', c', h0, h1, h2, h3⟩ := h.2 k y hy
    refine ⟨A', c', ?_, ?_, ?_, h3⟩
    · rw [List.getElem?_append_left (by omega)]; exact h0
    · rw [List.getElem?_append_left (by omega)]; exact h1
    · rw [List.getElem?_append_left (by omega)]; exact h2
  · rw [List.getElem?_append_right (by omega)] at hy
    have hk0 : k - l.length = 0 := by
      rcases Nat.eq_zero_or_pos (k - l.length) with h | h
      · exact h
      · rw [List.getElem?_eq_none (by simp; omega)] at hy; cases hy
    have hke : k = l.length := by omega
    rw [hk0] at hy
    simp at hy
    subst hy
    refine ⟨A, c, ?_, ?_, ?_, ho⟩
    · rw [List.getElem?_append_right (by omega), show k * 3 - xs.length = 0 by omega]; rfl
    · rw [List.getElem?_append_right (by omega), show k * 3 + 1 - xs.length = 1 by omega]; rfl
    · rw [List.getElem?_append_right (by omega), show k * 3 + 2 - xs.length = 2 by omega]; rfl
/-- one struck out -/
theorem OusAre.del (h : OusAre w l xs) (i : Nat) (hi : i < l.length) : OusAre w (l.take i ++ l.drop (i + 1)) (xs.take (i * 3) ++ xs.drop ((i + 1) * 3)) := by
  have hl := h.1
  have l1 : (xs.take (i * 3)).length = i * 3 := by rw [List.length_take]; omega
  have l2 : (l.take i).length = i := by rw [List.length_take]; omega
  refine ⟨by rw [List.length_append, List.length_append, l1, l2, List.length_drop, List.length_drop]; omega, fun k x hx => ?_⟩
  by_cases hk : k < i
  · rw [List.getElem?_append_left (by omega), List.getElem?_take, if_pos hk] at hx
    obtain ⟨A', c', h0, h1, h2, h3⟩ := h.2 k x hx
    refine ⟨A', c', ?_, ?_, ?_, h3⟩
    · rw [List.getElem?_append_left (by omega), List.getElem?_take, if_pos (by omega)]; exact h0
    · rw [List.getElem?_append_left (by omega), List.getElem?_take, if_pos (by omega)]; exact h1
    · rw [List.getElem?_append_left (by omega), List.getElem?_take, if_pos (by omega)]; exact h2
  · rw [List.getElem?_append_right (by omega), l2, List.getElem?_drop] at hx
    obtain ⟨A', c', h0, h1, h2, h3⟩ := h.2 _ x hx
    refine ⟨A', c', ?_, ?_, ?_, h3⟩
    · rw [List.getElem?_append_right (by omega), l1, List.getElem?_drop, ← h0]; congr 1; omega
    · rw [List.getElem?_append_right (by omega), l1, List.getElem?_drop, ← h1]; congr 1; omega
    · rw [List.getElem?_append_right (by omega), l1, List.getElem?_drop, ← h2]; congr 1; omega
/-- one has one move more done -/
theorem OusAre.setD (h : OusAre w l xs) (i : Nat) (x : Ou) (hx : l[i]? = some x) (d : Int) : OusAre w (l.set i { x with d := d }) (xs.set (i * 3 + 2) (.int .i64 d)) := by
  have hil : i < l.length := (List.getElem?_eq_some_iff.1 hx).1
  refine ⟨by simpa using h.1, fun k y hy => ?_⟩
  have hl := h.1
  by_cases hk : k = i
  · subst hk
    rw [List.getElem?_set_self hil] at hy
    injection hy with hy
    subst hy
    obtain ⟨A', c', h0, h1, h2, h3⟩ := h.2 k x hx
    refine ⟨A', c', ?_, ?_, ?_, h3⟩
    · rw [List.getElem?_set_ne (by omega)]; exact h0
    · rw [List.getElem?_set_ne (by omega)]; exact h1
    · rw [List.getElem?_set_self (by omega)]
  · rw [List.getElem?_set_ne (by omega)] at hy
    obtain ⟨A', c', h0, h1, h2, h3⟩ := h.2 k y hy
    refine ⟨A', c', ?_, ?_, ?_, h3⟩
    · rw [List.getElem?_set_ne (by omega)]; exact h0
    · rw [List.getElem?_set_ne (by omega)]; exact h1
    · rw [List.getElem?_set_ne (by omega)]; exact h2
/-- one's moves lie elsewhere now -/
theorem OusAre.setM (h : OusAre w l xs) (i : Nat) (x : Ou) (hx : l[i]? = some x) {A : Option Addr} {c : Nat} (ho : w.ownsRow 0 54 4 (.slice A x.mv.length c) x.mv.length (mvs x.mv)) : OusAre w l (xs.set (i * 3 + 1) (.slice A x.mv.length c)) := by
  have hil : i < l.length := (List.getElem?_eq_some_iff.1 hx).1
  refine ⟨by simpa using h.1, fun k y hy => ?_⟩
  have hl := h.1
  by_cases hk : k = i
  · subst hk
    rw [hx] at hy
    injection hy with hy
    subst hy
    obtain ⟨A', c', h0, h1, h2, h3⟩ := h.2 k x hx
    refine ⟨A, c, ?_, ?_, ?_, ho⟩
    · rw [List.getElem?_set_ne (by omega)]; exact h0
    · rw [List.getElem?_set_self (by omega)]
    · rw [List.getElem?_set_ne (by omega)]; exact h2
  · obtain ⟨A', c', h0, h1, h2, h3⟩ := h.2 k y hy
    refine ⟨A', c', ?_, ?_, ?_, h3⟩
    · rw [List.getElem?_set_ne (by omega)]; exact h0
    · rw [List.getElem?_set_ne (by omega)]; exact h1
    · rw [List.getElem?_set_ne (by omega)]; exact h2
end
/-- what is seen -/
structure Sn where
  L : List Lv
  D : List Dt
  O : List Ou
  u : Int
  h : Int
def snC (s : Sn) (AL : Option Addr) (cL : Nat) (AD : Option Addr) (cD : Nat) (AO : Option Addr) (cO : Nat) : List Value :=
  [.slice AL s.L.length cL, .slice AD s.D.length cD, .slice AO s.O.length cO, .int .i64 s.u, .int .i64 s.h]
/-- what is seen lies there: its rows from base on -/
structure SnAt (w : World) (base : Nat) (s : Sn) (AL : Option Addr) (cL : Nat) (AD : Option Addr) (cD : Nat) (AO : Option Addr) (cO : Nat) : Prop where
  l : w.ownsRow base 49 4 (.slice AL s.L.length cL) s.L.length (lvs s.L)
  d : w.ownsRow base 40 2 (.slice AD s.D.length cD) s.D.length (dts s.D)
  o : ∃ os, w.ownsRow base 56 3 (.slice AO s.O.length cO) s.O.length os ∧ OusAre w s.O os
def SnIs (w : World) (base : Nat) (s : Sn) (cs : List Value) : Prop :=
  ∃ AL cL AD cD AO cO, cs = snC s AL cL AD cD AO cO ∧ SnAt w base s AL cL AD cD AO cO
theorem SnAt.ext {w w' : World} {base : Nat} {s : Sn} {AL cL AD cD AO cO} (h : SnAt w base s AL cL AD cD AO cO) (hx : Ext w w') : SnAt w' base s AL cL AD cD AO cO := by
  obtain ⟨os, h1, h2⟩ := h.o
  exact ⟨hx.own h.l, hx.own h.d, os, hx.own h1, h2.ext hx⟩
theorem SnAt.base {w : World} {b b' : Nat} {s : Sn} {AL cL AD cD AO cO} (h : SnAt w b s AL cL AD cD AO cO) (hb : b' ≤ b) : SnAt w b' s AL cL AD cD AO cO := by
  obtain ⟨os, h1, h2⟩ := h.o
  exact ⟨own_base h.l hb, own_base h.d hb, os, own_base h1 hb, h2⟩
theorem SnIs.ext {w w' : World} {base : Nat} {s : Sn} {cs : List Value} (h : SnIs w base s cs) (hx : Ext w w') : SnIs w' base s cs := by
  obtain ⟨AL, cL, AD, cD, AO, cO, e, h⟩ := h
  exact ⟨AL, cL, AD, cD, AO, cO, e, h.ext hx⟩
theorem SnIs.base {w : World} {b b' : Nat} {s : Sn} {cs : List Value} (h : SnIs w b s cs) (hb : b' ≤ b) : SnIs w b' s cs := by
  obtain ⟨AL, cL, AD, cD, AO, cO, e, h⟩ := h
  exact ⟨AL, cL, AD, cD, AO, cO, e, h.base hb⟩
/-! ### What may be turned: rows of what is seen, from base on, and the block that holds it -/
def F0 (w : World) (base sb k : Nat) : Prop := base ≤ k ∧ ∃ t cs, Blk w k t cs ∧ (t = 49 ∨ t = 40 ∨ t = 56 ∨ (t = 37 ∧ k = sb))
def Tch (base sb : Nat) (w w' : World) : Prop := Touch w w' (F0 w base sb)
section
variable {w w1 w2 : World} {base sb g : Nat}
theorem Tch.refl (base sb : Nat) (w : World) : Tch base sb w w := Touch.refl w _
theorem Tch.trans (h : Tch base sb w w1) (k : Tch base sb w1 w2) : Tch base sb w w2 :=
  Touch.trans h k fun x hx ⟨hb, t, cs, hB, ht⟩ => by
    by_cases hf : F0 w base sb x
    · exact hf
    · exact ⟨hb, t, cs, (h.block x hx hf).symm.trans hB, ht⟩
theorem Tch.ext (h : Ext w w1) : Tch base sb w w1 := Touch.of_below h _
theorem Tch.of (h : Touch w w1 (fun k => k = g)) {t : TypeId} {cs : Array Value} (hB : Blk w g t cs) (hb : base ≤ g) (ht : t = 49 ∨ t = 40 ∨ t = 56 ∨ (t = 37 ∧ g = sb)) : Tch base sb w w1 :=
  h.more fun k _ e => by rw [e]; exact ⟨hb, t, cs, hB, ht⟩
theorem Tch.own {v : Value} {e m n : Nat} {xs : List Value} (h : Touch w w1 (fun k => v.ownBlock = some k)) (ho : w.ownsRow base e m v n xs) (ht : e = 49 ∨ e = 40 ∨ e = 56) : Tch base sb w w1 :=
  h.more fun k _ hk => by
    obtain ⟨cs, hB⟩ := own_block ho hk
    exact ⟨own_ge ho hk, e, cs, hB, by rcases ht with h | h | h <;> simp [h]⟩
theorem Tch.below (h : Tch base sb w w1) (hb : base ≤ w.heap.size) : Below base w w1 := Touch.below h hb fun k hk => hk.1
theorem Tch.size (h : Tch base sb w w1) : w.heap.size ≤ w1.heap.size := Touch.size h
theorem Tch.blk {t : TypeId} {cs : Array Value} (h : Tch base sb w w1) (hB : Blk w g t cs) (ht : ¬ (t = 49 ∨ t = 40 ∨ t = 56 ∨ t = 37)) : Blk w1 g t cs :=
  Touch.blk h hB fun ⟨_, t', cs', hB', ht'⟩ => by
    by_cases e : t = t'
    · subst e; exact ht (by rcases ht' with h | h | h | ⟨h, _⟩ <;> simp [h])
    · exact Blk.ne_ hB hB' e rfl
/-- another block that holds what is seen -/
theorem Tch.blk37 {cs : Array Value} (h : Tch base sb w w1) (hB : Blk w g 37 cs) (hg : g ≠ sb) : Blk w1 g 37 cs :=
  Touch.blk h hB fun ⟨_, t', cs', hB', ht'⟩ => by
    by_cases e : 37 = t'
    · subst e
      rcases ht' with h | h | h | ⟨_, h⟩
      · cases h
      · cases h
      · cases h
      · exact hg h
    · exact Blk.ne_ hB hB' e rfl
theorem Tch.row {e m n b : Nat} {v : Value} {xs : List Value} (h : Tch base sb w w1) (ho : w.ownsRow b e m v n xs) (ht : ¬ (e = 49 ∨ e = 40 ∨ e = 56 ∨ e = 37)) : w1.ownsRow b e m v n xs :=
  ownsRow_touch h ho fun k hk ⟨_, t', cs', hB', ht'⟩ => by
    obtain ⟨cs, hB⟩ := own_block ho hk
    by_cases e' : e = t'
    · subst e'; exact ht (by rcases ht' with h | h | h | ⟨h, _⟩ <;> simp [h])
    · exact Blk.ne_ hB hB' e' rfl
theorem Tch.ous {l : List Ou} {xs : List Value} (h : Tch base sb w w1) (ho : OusAre w l xs) : OusAre w1 l xs := ho.keep fun _ _ _ hr => h.row hr (by decide)
/-- what lay ahead of base is kept -/
theorem Tch.own0 {e m n b : Nat} {v : Value} {xs : List Value} (h : Tch base sb w w1) (ho : w.ownsRow b e m v n xs) (hv : ∀ k, v.ownBlock = some k → k < base) : w1.ownsRow b e m v n xs :=
  ownsRow_touch h ho fun k hk hf => by have := hv k hk; have := hf.1; omega
/-- a row is kept where another row is turned -/
theorem row_apart {e e' m n b : Nat} {v v' : Value} {xs : List Value} {n' m' b' : Nat} {xs' : List Value} (h : Touch w w1 (fun k => v'.ownBlock = some k)) (ho' : w.ownsRow b' e' m' v' n' xs') (ho : w.ownsRow b e m v n xs) (ht : e ≠ e') : w1.ownsRow b e m v n xs :=
  ownsRow_touch h ho fun k hk hk' => by
    obtain ⟨cs, hB⟩ := own_block ho hk
    obtain ⟨cs', hB'⟩ := own_block ho' hk'
    exact Blk.ne_ hB hB' ht rfl
theorem row_apart1 {e m n b : Nat} {v : Value} {xs : List Value} {t : TypeId} {cs : Array Value} (h : Touch w w1 (fun k => k = g)) (hB : Blk w g t cs) (ho : w.ownsRow b e m v n xs) (ht : e ≠ t) : w1.ownsRow b e m v n xs :=
  ownsRow_touch h ho fun k hk hk' => by
    obtain ⟨cs', hB'⟩ := own_block ho hk
    subst hk'
    exact Blk.ne_ hB' hB ht rfl
theorem touch_set (w : World) (g i : Nat) (u : Value) : Touch w (w.setCell ⟨g, i, none⟩ u) (fun k => k = g) := Touch.setCell (F := fun k => k = g) (p := ⟨g, i, none⟩) (Touch.refl w _) (fun _ => rfl) u
/-- what is seen is kept where a block of another kind is turned -/
theorem SnAt.touch {s : Sn} {AL cL AD cD AO cO} {t : TypeId} {cs : Array Value} (h : SnAt w base s AL cL AD cD AO cO) (ht : Touch w w1 (fun k => k = g)) (hB : Blk w g t cs) (h1 : t ≠ 49) (h2 : t ≠ 40) (h3 : t ≠ 56) (h4 : t ≠ 54) : SnAt w1 base s AL cL AD cD AO cO := by
  obtain ⟨os, ho, hos⟩ := h.o
  exact ⟨row_apart1 ht hB h.l h1.symm, row_apart1 ht hB h.d h2.symm, os, row_apart1 ht hB ho h3.symm, hos.keep fun _ _ _ hr => row_apart1 ht hB hr h4.symm⟩
end
/-- an entry with lists -/
structure En where
  E : EntS
  L : List Lv
  D : List Dt
  O : List Ou
def enC (X : En) (AN : Option Addr) (cN : Nat) (AM : Option Addr) (cM : Nat) (AL : Option Addr) (cL : Nat) (AD : Option Addr) (cD : Nat) (AO : Option Addr) (cO : Nat) : List Value :=
  [.int .i64 X.E.kind, .int .i64 X.E.t, .int .i64 X.E.u, .int .i64 X.E.h, .int .i64 X.E.p, .int .i64 X.E.nx, .int .i64 X.E.a0, .int .i64 X.E.a1, .int .i64 X.E.b0, .int .i64 X.E.b1, .slice none 0 0, .slice AN X.E.NL.length cN, .slice AM X.E.mv.length cM, .slice AL X.L.length cL, .slice AD X.D.length cD, .slice AO X.O.length cO]
structure EnAt (w : World) (X : En) (AN : Option Addr) (cN : Nat) (AM : Option Addr) (cM : Nat) (AL : Option Addr) (cL : Nat) (AD : Option Addr) (cD : Nat) (AO : Option Addr) (cO : Nat) : Prop where
  n : w.ownsRow 0 5 1 (.slice AN X.E.NL.length cN) X.E.NL.length (bv X.E.NL)
  m : w.ownsRow 0 54 4 (.slice AM X.E.mv.length cM) X.E.mv.length (mvs X.E.mv)
  s : SnAt w 0 ⟨X.L, X.D, X.O, 0, 0⟩ AL cL AD cD AO cO
def EnIs (w : World) (X : En) (cs : List Value) : Prop :=
  ∃ AN cN AM cM AL cL AD cD AO cO, cs = enC X AN cN AM cM AL cL AD cD AO cO ∧ EnAt w X AN cN AM cM AL cL AD cD AO cO
theorem EnAt.ext {w w' : World} {X : En} {AN cN AM cM AL cL AD cD AO cO} (h : EnAt w X AN cN AM cM AL cL AD cD AO cO) (hx : Ext w w') : EnAt w' X AN cN AM cM AL cL AD cD AO cO := ⟨hx.own h.n, hx.own h.m, h.s.ext hx⟩
theorem EnIs.ext {w w' : World} {X : En} {cs : List Value} (h : EnIs w X cs) (hx : Ext w w') : EnIs w' X cs := by
  obtain ⟨AN, cN, AM, cM, AL, cL, AD, cD, AO, cO, e, h⟩ := h
  exact ⟨AN, cN, AM, cM, AL, cL, AD, cD, AO, cO, e, h.ext hx⟩
theorem SnAt.nil (w : World) (u h : Int) : SnAt w 0 ⟨[], [], [], u, h⟩ none 0 none 0 none 0 := ⟨World.ownsRow_nil _ _ _ _, World.ownsRow_nil _ _ _ _, [], World.ownsRow_nil _ _ _ _, OusAre.nil w⟩
/-- an entry of which no list is told -/
theorem EntIs.en {w : World} {E : EntS} {cs : List Value} (h : EntIs w E cs) : EnIs w ⟨E, [], [], []⟩ cs := by
  obtain ⟨AN, cN, AM, cM, e, h1, h2⟩ := h
  exact ⟨AN, cN, AM, cM, none, 0, none, 0, none, 0, e, h1, h2, SnAt.nil w 0 0⟩
end Go.Proofs.Ytaijgnhkdbdfcaa
