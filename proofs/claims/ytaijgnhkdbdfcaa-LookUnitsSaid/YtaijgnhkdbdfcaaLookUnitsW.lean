/- LookUnits: the walk. (Printed by mk_units.py.) -/
import Derived.Test.YtaijgnhkdbdfcaaEnt2
import Derived.Test.YtaijgnhkdbdfcaaLawU
import Derived.Laws.MakeOwn
import Derived.Laws.Entries
import Derived.Deep.QuietTactic
import Derived.BigQuiet
namespace Go.Proofs.Ytaijgnhkdbdfcaa.lookUnits
open Go.ChangeShapes Go.WideShapes Go.ChangeAt Go.RowKit
set_option linter.unusedVariables false

def nb (ns : List Nat) : List Value := ns.map (fun (x : Nat) => Value.int .u8 (x : Int))
theorem make_moves (k : Nat) (hk : k ≤ 1000) (w : World) : ∃ cs : Array Value, cs.size = k * 4 ∧ (Instr.makeSlice 30 (.int .i64 (k : Int)) (.int .i64 (k : Int))).run Try.prog w = .ok (.slice (some ⟨w.heap.size, 0, none⟩) k k) (w.alloc (.cells cs 54)) := by
  obtain ⟨i0, z0, hi0, hz0, hzs0, hs0, hb0⟩ := info_parts2 Try.info54'
  have hr := run_make (P := Try.prog) w 30 54 i0 z0 Try.underlying30 hi0 hz0 .i64 .i64 (k : Int) (k : Int) (by omega) (by omega) (by rw [hb0]; omega) (by omega)
  simp only [Int.toNat_natCast] at hr
  exact ⟨_, by rw [size_madeCells, hs0], hr⟩
theorem fill4 (l : List Value) (p : Nat) (a b c d : Value) (h : p + 4 ≤ l.length) : ((((l.set p a).set (p + 1) b).set (p + 2) c).set (p + 3) d).take (p + 4) = l.take p ++ [a, b, c, d] := by
  apply List.ext_getElem?
  intro q
  have lt : (l.take p).length = p := by rw [List.length_take]; omega
  by_cases h1 : q < p
  · rw [List.getElem?_take, if_pos (by omega), List.getElem?_set_ne (by omega), List.getElem?_set_ne (by omega), List.getElem?_set_ne (by omega), List.getElem?_set_ne (by omega), List.getElem?_append_left (by omega), List.getElem?_take, if_pos h1]
  · rw [List.getElem?_append_right (by omega), lt]
    by_cases h2 : q < p + 4
    · rw [List.getElem?_take, if_pos h2]
      rcases (show q = p ∨ q = p + 1 ∨ q = p + 2 ∨ q = p + 3 by omega) with rfl | rfl | rfl | rfl
      · rw [List.getElem?_set_ne (by omega), List.getElem?_set_ne (by omega), List.getElem?_set_ne (by omega), List.getElem?_set_self (by omega), Nat.sub_self]
        rfl
      · rw [List.getElem?_set_ne (by omega), List.getElem?_set_ne (by omega), List.getElem?_set_self (by simp; omega), show p + 1 - p = 1 by omega]
        rfl
      · rw [List.getElem?_set_ne (by omega), List.getElem?_set_self (by simp; omega), show p + 2 - p = 2 by omega]
        rfl
      · rw [List.getElem?_set_self (by simp; omega), show p + 3 - p = 3 by omega]
        rfl
    · rw [List.getElem?_take, if_neg h2, List.getElem?_eq_none (by simp; omega)]
/-- a unit's moves, as far as they are made -/
def MvAt (wr : World) (mb i j k : Nat) : Prop := ∃ cs : Array Value, Blk wr mb 54 cs ∧ cs.size = k * 4 ∧ cs.toList.take (j * 4) = mvs (mvsU i j)
theorem mvsU_succ (i j : Nat) : mvs (mvsU i (j + 1)) = mvs (mvsU i j) ++ [.int .i64 (i : Int), .int .i64 (j : Int), .int .i64 (16 + (i : Int)), .int .i64 (j : Int)] := by
  simp [mvs, mvsU, List.range_succ, mvU, mvc]
theorem MvAt.put {wr : World} {mb i j k : Nat} (h : MvAt wr mb i j k) (hj : j < k) : MvAt ((((wr.setCell ⟨mb, j * 4, none⟩ (.int .i64 (i : Int))).setCell ⟨mb, j * 4 + 1, none⟩ (.int .i64 (j : Int))).setCell ⟨mb, j * 4 + 2, none⟩ (.int .i64 (16 + (i : Int)))).setCell ⟨mb, j * 4 + 3, none⟩ (.int .i64 (j : Int))) mb i (j + 1) k := by
  obtain ⟨cs, h1, h2, h3⟩ := h
  refine ⟨_, (((h1.set_ (j * 4) _).set_ (j * 4 + 1) _).set_ (j * 4 + 2) _).set_ (j * 4 + 3) _, by simpa using h2, ?_⟩
  rw [mvsU_succ, ← h3]
  have := fill4 cs.toList (j * 4) (.int .i64 (i : Int)) (.int .i64 (j : Int)) (.int .i64 (16 + (i : Int))) (.int .i64 (j : Int)) (by rw [Array.length_toList, h2]; omega)
  rw [show (j + 1) * 4 = j * 4 + 4 by omega]
  simpa using this
theorem movesU_succ (i j : Nat) (al : List En) (x : En) : al ++ x :: movesU i (j + 1) = (al ++ x :: movesU i j) ++ [moveX i j] := by
  simp [movesU, List.range_succ]
/-- what was turned are blocks of one type -/
def FT (w : World) (t : TypeId) (F : Nat → Prop) : Prop := ∀ k, F k → k < w.heap.size → ∃ cs, Blk w k t cs
theorem rowT {w w' : World} {t : TypeId} {F : Nat → Prop} {b e m n : Nat} {v : Value} {xs : List Value} (h : w.ownsRow b e m v n xs) (ht : Touch w w' F) (hF : FT w t F) (he : e ≠ t) : w'.ownsRow b e m v n xs :=
  ownsRow_touch ht h fun k hk hf => by
    obtain ⟨cs, hB⟩ := own_block h hk
    obtain ⟨cs', hB'⟩ := hF k hf hB.lt
    exact Blk.ne_ hB hB' he rfl
/-- entries in a row of the call's own; none of them holds open units -/
def EnsN (w : World) (base : Nat) (l : List En) (A : Option Addr) (n c : Nat) : Prop := n = l.length ∧ ∃ vs, w.ownsRow base 35 16 (.slice A n c) n vs ∧ EnsAre w l vs ∧ ∀ k, k < n → vs[k * 16 + 15]? = some (.slice none 0 0)
theorem EnsN.own {w : World} {base n c : Nat} {l : List En} {A : Option Addr} (h : EnsN w base l A n c) : EnsOwn w base l A n c := by
  obtain ⟨h0, vs, h1, h2, h3⟩ := h
  exact ⟨h0, vs, h1, h2⟩
theorem EnsN.nil (w : World) (base : Nat) : EnsN w base [] none 0 0 := ⟨rfl, [], World.ownsRow_nil _ _ _ _, EnsAre.nil w, fun k hk => absurd hk (Nat.not_lt_zero _)⟩
theorem EnsN.ext {w w' : World} {base n c : Nat} {l : List En} {A : Option Addr} (h : EnsN w base l A n c) (hx : Ext w w') : EnsN w' base l A n c := by
  obtain ⟨h0, vs, h1, h2, h3⟩ := h
  exact ⟨h0, vs, hx.own h1, h2.ext hx, h3⟩
theorem EnsN.ou {w w' : World} {base n c : Nat} {l : List En} {A : Option Addr} {F : Nat → Prop} (h : EnsN w base l A n c) (ht : Touch w w' F) (hF : FT w 56 F) : EnsN w' base l A n c := by
  obtain ⟨h0, vs, h1, ⟨h2, h3⟩, h4⟩ := h
  refine ⟨h0, vs, rowT h1 ht hF (by decide), ⟨h2, fun k X hX => ?_⟩, h4⟩
  obtain ⟨AN, cN, AM, cM, EL, cEL, ED, cED, EO, cEO, hc, he⟩ := h3 k X hX
  have hk := (List.getElem?_eq_some_iff.1 hX).1
  have h15 := hc 15 _ rfl
  rw [h4 k (by omega)] at h15
  injection h15 with h15
  injection h15 with e1 e2 e3
  have hO : X.O = [] := List.length_eq_zero_iff.1 e2.symm
  subst e1
  subst e3
  refine ⟨AN, cN, AM, cM, EL, cEL, ED, cED, none, 0, hc, rowT he.n ht hF (by decide), rowT he.m ht hF (by decide), rowT he.s.l ht hF (by decide), rowT he.s.d ht hF (by decide), [], ?_, ?_⟩
  · show w'.ownsRow 0 56 3 (.slice none X.O.length 0) X.O.length []
    rw [hO]
    exact World.ownsRow_nil _ _ _ _
  · show OusAre w' X.O []
    rw [hO]
    exact OusAre.nil w'
theorem ensN_snoc {w w' : World} {base n c' : Nat} {l : List En} {A' : Option Addr} {X : En} {vs cs : List Value} {F : Nat → Prop} (h0 : n = l.length) (h2 : EnsAre w l vs) (h3 : ∀ k, k < n → vs[k * 16 + 15]? = some (.slice none 0 0)) (hX : EnIs w X cs) (h15 : cs[15]? = some (.slice none 0 0)) (ht : Touch w w' F) (hF : F35 w F) (ho' : w'.ownsRow base 35 16 (.slice A' (n + 1) c') (n + 1) (vs ++ cs)) : EnsN w' base (l ++ [X]) A' (n + 1) c' := by
  refine ⟨by rw [List.length_append, h0]; rfl, _, ho', (h2.touch35 ht hF).snoc (hX.touch35 ht hF), fun k hk => ?_⟩
  have hl := h2.1
  by_cases hkn : k < n
  · rw [List.getElem?_append_left (by omega)]
    exact h3 k hkn
  · rw [List.getElem?_append_right (by omega), show k * 16 + 15 - vs.length = 15 by omega]
    exact h15
/-- an entry more, at the step -/
theorem step_append_ens {ops : Array Oper} {o : Oper} {a : Act} {K : Act → World → Prop} {Q : Exit → Act → World → Prop} {E : Prop} (w : World) (hgd : o.guard = none) (s x : Operand)
    (ho : o.op = .call { callee := .builtin .append, args := #[s, x], argTypes := #[25, 25] }) (base : Nat) (l : List En) (A : Option Addr) (n c : Nat) (hs : a.eval s = .slice A n c) (vb : Nat) (hx : a.eval x = .slice (some ⟨vb, 0, none⟩) 1 1) (X : En) (cs : List Value)
    (hown : EnsN w base l A n c) (hv : Blk w vb 35 cs.toArray) (hX : EnIs w X cs) (h15 : cs[15]? = some (.slice none 0 0)) (hn : n ≤ 1000) (hb : base ≤ w.heap.size)
    (h : ∀ A' c' w', EnsN w' base (l ++ [X]) A' (n + 1) c' → Touch w w' (fun k => Value.ownBlock (.slice A n c) = some k) → (∀ {w0 : World}, w0.heap.size ≤ base → Ext w0 w → Ext w0 w') → (∀ b e m v n xs, e ≠ 35 → w.ownsRow b e m v n xs → w'.ownsRow b e m v n xs) → K (a.put o.dst (.slice A' (n + 1) c')) w') :
    if Region.wanted o (yielded ops a.tmps) = true then Oper.wp Try.prog o a w K Q else E := by
  obtain ⟨i0, z0, hi0, hz0, hzs0, hs0, hb0⟩ := info_parts2 Try.info35'
  obtain ⟨h0, vs, h1, h2, h3⟩ := hown
  have hl : cs.length = 16 := by
    obtain ⟨AN, cN, AM, cM, AL, cL, AD, cD, AO, cO, rfl, _⟩ := hX
    rfl
  refine step_append_any w hgd s x 25 ho base 35 i0 z0 16 224 Try.underlying25 hi0 hz0 hs0 hb0 hzs0 (by omega) (.slice A n c) n vs hs h1 _ (some ⟨vb, 0, none⟩) 1 1 cs hx (by have := reads_blk (m := 16) hv (by simpa using hl); simpa using this) hX.one (by simp only [maxLen]; omega) (by omega) hb ?_
  intro v' w' ho' hg' hat'
  obtain ⟨A', c', hv', _⟩ := own_form ho'
  subst hv'
  have ht : Touch w w' (fun k => Value.ownBlock (.slice A n c) = some k) := (Touch.refl w _).grown hg' (fun k hk _ => hk)
  have hF : F35 w (fun k => Value.ownBlock (.slice A n c) = some k) := fun k hk _ => own_block h1 hk
  exact h A' c' w' (ensN_snoc h0 h2 h3 hX h15 ht hF ho') ht (fun {w0} hb0 hx0 => Below.trans hx0 (ht.below (Ext.size hx0) (fun k hk => Nat.le_trans hb0 (own_ge h1 hk)))) (fun b e m v n xs he hr => row35 hr ht hF he)
/-- an entry more, at the operation -/
theorem wpList_append_ensN {ops : Array Oper} {rest : List Oper} {o : Oper} {a : Act} {Q : Exit → Act → World → Prop} (w : World) (hgd : o.guard = none) (s x : Operand)
    (ho : o.op = .call { callee := .builtin .append, args := #[s, x], argTypes := #[25, 25] }) (base : Nat) (l : List En) (A : Option Addr) (n c : Nat) (hs : a.eval s = .slice A n c) (vb : Nat) (hx : a.eval x = .slice (some ⟨vb, 0, none⟩) 1 1) (X : En) (cs : List Value)
    (hown : EnsN w base l A n c) (hv : Blk w vb 35 cs.toArray) (hX : EnIs w X cs) (h15 : cs[15]? = some (.slice none 0 0)) (hn : n ≤ 1000) (hb : base ≤ w.heap.size)
    (h : ∀ A' c' w', EnsN w' base (l ++ [X]) A' (n + 1) c' → Touch w w' (fun k => Value.ownBlock (.slice A n c) = some k) → (∀ {w0 : World}, w0.heap.size ≤ base → Ext w0 w → Ext w0 w') → (∀ b e m v n xs, e ≠ 35 → w.ownsRow b e m v n xs → w'.ownsRow b e m v n xs) → wpList Try.prog ops Q rest (a.put o.dst (.slice A' (n + 1) c')) w') : wpList Try.prog ops Q (o :: rest) a w := by
  obtain ⟨i0, z0, hi0, hz0, hzs0, hs0, hb0⟩ := info_parts2 Try.info35'
  obtain ⟨h0, vs, h1, h2, h3⟩ := hown
  have hl : cs.length = 16 := by
    obtain ⟨AN, cN, AM, cM, AL, cL, AD, cD, AO, cO, rfl, _⟩ := hX
    rfl
  refine wpList_append_any w hgd s x 25 ho base 35 i0 z0 16 224 Try.underlying25 hi0 hz0 hs0 hb0 hzs0 (by omega) (.slice A n c) n vs hs h1 _ (some ⟨vb, 0, none⟩) 1 1 cs hx (by have := reads_blk (m := 16) hv (by simpa using hl); simpa using this) hX.one (by simp only [maxLen]; omega) (by omega) hb ?_
  intro v' w' ho' hg' hat'
  obtain ⟨A', c', hv', _⟩ := own_form ho'
  subst hv'
  have ht : Touch w w' (fun k => Value.ownBlock (.slice A n c) = some k) := (Touch.refl w _).grown hg' (fun k hk _ => hk)
  have hF : F35 w (fun k => Value.ownBlock (.slice A n c) = some k) := fun k hk _ => own_block h1 hk
  exact h A' c' w' (ensN_snoc h0 h2 h3 hX h15 ht hF ho') ht (fun {w0} hb0 hx0 => Below.trans hx0 (ht.below (Ext.size hx0) (fun k hk => Nat.le_trans hb0 (own_ge h1 hk)))) (fun b e m v n xs he hr => row35 hr ht hF he)
/-- an open unit more -/
theorem wpList_append_ou {ops : Array Oper} {rest : List Oper} {o : Oper} {a : Act} {Q : Exit → Act → World → Prop} (w : World) (hgd : o.guard = none) (s x : Operand)
    (ho : o.op = .call { callee := .builtin .append, args := #[s, x], argTypes := #[33, 33] }) (base : Nat) (O : List Ou) (A : Option Addr) (n c : Nat) (hs : a.eval s = .slice A n c) (vb : Nat) (hx : a.eval x = .slice (some ⟨vb, 0, none⟩) 1 1) (y : Ou) (Am : Option Addr) (cm : Nat)
    (hown : OwnO w base O A n c) (hv : Blk w vb 56 #[.int .i64 y.u, .slice Am y.mv.length cm, .int .i64 y.d]) (hm : w.ownsRow 0 54 4 (.slice Am y.mv.length cm) y.mv.length (mvs y.mv)) (hn : n ≤ 1000) (hb : base ≤ w.heap.size)
    (h : ∀ A' c' w', OwnO w' base (O ++ [y]) A' (n + 1) c' → Touch w w' (fun k => Value.ownBlock (.slice A n c) = some k) → FT w 56 (fun k => Value.ownBlock (.slice A n c) = some k) → (∀ {w0 : World}, w0.heap.size ≤ base → Ext w0 w → Ext w0 w') → wpList Try.prog ops Q rest (a.put o.dst (.slice A' (n + 1) c')) w') : wpList Try.prog ops Q (o :: rest) a w := by
  obtain ⟨i0, z0, hi0, hz0, hzs0, hs0, hb0⟩ := info_parts2 Try.info56'
  obtain ⟨os, h1, h2⟩ := hown
  refine wpList_append_any w hgd s x 33 ho base 56 i0 z0 3 40 Try.underlying33 hi0 hz0 hs0 hb0 hzs0 (by omega) (.slice A n c) n os hs h1 _ (some ⟨vb, 0, none⟩) 1 1 [.int .i64 y.u, .slice Am y.mv.length cm, .int .i64 y.d] hx (reads_blk hv rfl) (by intro u hu; simp only [List.mem_cons, List.not_mem_nil, or_false] at hu; rcases hu with rfl | rfl | rfl <;> rfl) (by simp only [maxLen]; omega) (by omega) hb ?_
  intro v' w' ho' hg' hat'
  obtain ⟨A', c', hv', _⟩ := own_form ho'
  subst hv'
  have ht : Touch w w' (fun k => Value.ownBlock (.slice A n c) = some k) := (Touch.refl w _).grown hg' (fun k hk _ => hk)
  have hF : FT w 56 (fun k => Value.ownBlock (.slice A n c) = some k) := fun k hk _ => own_block h1 hk
  exact h A' c' w' ⟨_, ho', (h2.keep (fun v n ys hr => rowT hr ht hF (by decide))).snoc (rowT hm ht hF (by decide))⟩ ht hF (fun {w0} hb0 hx0 => Below.trans hx0 (ht.below (Ext.size hx0) (fun k hk => Nat.le_trans hb0 (own_ge h1 hk))))
/-- a unit's entries as far as they are noted, its moves, the units that are wanted -/
def UAt (w wy : World) (al : List En) (wl : List Ou) (i k mb : Nat) (A4 : Option Addr) (m4 c4 j : Nat) (A5 : Option Addr) (m5 c5 : Nat) : Prop :=
  EnsN wy w.heap.size (al ++ unitX i k :: movesU i j) A5 m5 c5 ∧ Ext w wy ∧ wy.ownsRow 0 54 4 (.slice (some ⟨mb, 0, none⟩) k k) k (mvs (mvsU i k)) ∧ OwnO wy w.heap.size wl A4 m4 c4
theorem allU_bd (ns : List Nat) : ∀ k, ∀ X ∈ allU ns k, X.E.mv.length ≤ 3 ∧ X.L = [] ∧ X.D = [] ∧ X.O = []
  | 0, X, h => by simp [allU] at h
  | k + 1, X, h => by
    unfold allU at h
    cases hb : ns[k]? with
    | none =>
      rw [hb] at h
      exact allU_bd ns k X h
    | some b =>
      rw [hb] at h
      rcases List.mem_append.1 h with h | h
      · exact allU_bd ns k X h
      · unfold entsU at h
        rcases List.mem_append.1 h with h | h
        · rcases List.mem_cons.1 h with rfl | h
          · exact ⟨by simp [unitX, mvsU]; omega, rfl, rfl, rfl⟩
          · obtain ⟨j, _, rfl⟩ := List.mem_map.1 h
            exact ⟨by simp [moveX], rfl, rfl, rfl⟩
        · split at h
          · simp at h
            subst h
            exact ⟨by simp [doneX, mvsU]; omega, rfl, rfl, rfl⟩
          · simp at h
theorem allU_bdX (ns : List Nat) (n : Nat) (k : Nat) (X : En) (h : (allU ns n)[k]? = some X) : BdX (0 + k) X := by
  obtain ⟨h1, h2, h3, h4⟩ := allU_bd ns n X (List.mem_of_getElem? h)
  exact ⟨by omega, by rw [h2]; simp, by rw [h3]; simp, by rw [h4]; simp, by rw [h4]; simp⟩
theorem OwnO.cells3 {w : World} {base n c p : Nat} {O : List Ou} {A : Option Addr} {x : Ou} (h : OwnO w base O A n c) (hx : O[p]? = some x) (hp : p < n) :
    ∃ g Ax cx, A = some ⟨g, 0, none⟩ ∧ w.cell? ⟨g, p * 3, none⟩ = some (.int .i64 x.u) ∧ w.cell? ⟨g, p * 3 + 1, none⟩ = some (.slice Ax x.mv.length cx) ∧ w.cell? ⟨g, p * 3 + 2, none⟩ = some (.int .i64 x.d) := by
  obtain ⟨os, ho, hos⟩ := h
  obtain ⟨g, cp, hv', _, _⟩ := ho.form (by omega)
  injection hv' with hv1 _ _
  subst hv1
  obtain ⟨Ax, cx, q0, q1, q2, q3⟩ := hos.2 p x hx
  exact ⟨g, Ax, cx, rfl, by rw [ho.cellAt _ (by omega)]; exact q0, by rw [ho.cellAt _ (by omega)]; exact q1, by rw [ho.cellAt _ (by omega)]; exact q2⟩
theorem ownO_ext {w w' : World} {base n c : Nat} {O : List Ou} {A : Option Addr} (h : OwnO w base O A n c) (hx : Ext w w') : OwnO w' base O A n c := by
  obtain ⟨os, h1, h2⟩ := h
  exact ⟨os, hx.own h1, h2.ext hx⟩
set_option maxRecDepth 1000000 in
set_option maxHeartbeats 80000000 in
theorem walk_short (A : Option Addr) (c n : Nat) (ns : List Nat) (w0 : World) (hr : Reads w0 w0.heap.size 1 A n (nb ns)) (hn : n = ns.length) (hz : ∀ x ∈ ns, x ≤ 255) (hl : n ≤ 12) :
    Calls Try.prog 6 #[.slice A n c] w0 fun e w' => e = .returned (.bool true) ∧ Ext w0 w' := by
  have HR0 := hide hr
  have HN := hide hn
  have HZ := hide hz
  have dl : decide ((12 : Int) < (n : Int)) = false := decide_eq_false (by omega)
  clear hr hn hz
  go_enter Try.func6, Try.ntmps6
  go_wp2_with (go_at_call 8; refine (begun_any _).mono ?_; rintro e w ⟨rfl, hx0⟩; have X0 := hide hx0; clear hx0)
  have HR := hide (X0.out.read HR0.out)
  have P0 := hide (show EnsN w w.heap.size (allU ns 0) none 0 0 ∧ OwnO w w.heap.size (wantL ns 0) none 0 0 from ⟨EnsN.nil _ _, [], World.ownsRow_nil _ _ _ _, OusAre.nil _⟩)
  go_loopw [3, 4, 5] (fun s3 s4 s5 wr => (∃ i : Nat, i ≤ n ∧ s5 = .int .i64 i ∧ ∃ A3 m3 c3 A4 m4 c4, s3 = .slice A3 m3 c3 ∧ s4 = .slice A4 m4 c4 ∧ Hid (EnsN wr w.heap.size (allU ns i) A3 m3 c3 ∧ OwnO wr w.heap.size (wantL ns i) A4 m4 c4 ∧ Ext w wr ∧ m3 ≤ 5 * i ∧ m4 = (wantL ns i).length ∧ m4 ≤ i))) (fun _ _ s5 _ => (n - intOf s5).toNat)
  case atStart => exact ⟨0, by omega, rfl, none, 0, 0, none, 0, 0, rfl, rfl, P0.out.1, P0.out.2, Ext.refl _, Nat.le_refl _, rfl, Nat.le_refl _⟩
  case round =>
    obtain ⟨i, hi, rfl, A3, m3, c3, A4, m4, c4, rfl, rfl, hrel⟩ := hrel
    obtain ⟨ho3, ho4, hx, hm3, hm4, hm4i⟩ := hrel.out
    have O3 := hide ho3
    have O4 := hide ho4
    have XW := hide hx
    have M4 := hide hm4
    clear hrel ho3 ho4 hx hm4
    by_cases hlt : i < n
    · obtain ⟨wr0, rfl⟩ : ∃ wr0 : World, wr0 = wr := ⟨_, rfl⟩
      have dn : decide ((i : Int) < (n : Int)) = true := decide_eq_true (by omega)
      obtain ⟨bk, off, hAe, hbw, hcell⟩ := HR.out.plain (by omega) (by omega)
      subst hAe
      obtain ⟨x, hx⟩ : ∃ x, ns[i]? = some x := ⟨_, List.getElem?_eq_getElem (by rw [← HN.out]; exact hlt)⟩
      have hx1 : x ≤ 255 := HZ.out x (List.mem_of_getElem? hx)
      have gx := (XW.out.cell (p := ⟨bk, off + i, none⟩) hbw).trans (hcell i (.int .u8 (x : Int)) (by simp [nb, hx]))
      have HX := hide hx
      clear hcell hx
      obtain ⟨k, hk⟩ : ∃ k : Nat, x % 4 = k := ⟨_, rfl⟩
      obtain ⟨q, hq⟩ : ∃ q : Nat, x / 4 % 4 = q := ⟨_, rfl⟩
      have ek : (x : Int) % 4 = (k : Int) := by omega
      have eq_ : (x : Int) / 4 % 4 = (q : Int) := by omega
      have hk4 : k < 4 := by omega
      have hq4 : q < 4 := by omega
      have HK := hide hk
      have HQ := hide hq
      clear hk hq
      obtain ⟨cs0, hcs0, hmk⟩ := make_moves k (by omega) wr0
      go_upto_region 11 with (fail)
      obtain ⟨w2, hw2⟩ : ∃ w2, w2 = wr0.alloc (.cells cs0 54) := ⟨_, rfl⟩
      obtain ⟨mb, hmb⟩ : ∃ mb, mb = wr0.heap.size := ⟨_, rfl⟩
      have X2 := hide (show Ext wr0 w2 by rw [hw2]; exact Ext.new wr0 _)
      have M0 := hide (show MvAt w2 mb i 0 k from ⟨cs0, by rw [hw2, hmb]; exact Blk.new wr0 54 cs0, hcs0, by simp [mvs, mvsU]⟩)
      have HMB := hide hmb
      rw [← hw2, ← hmb]
      clear hw2 hmb hmk hcs0
      have hi12 : i ≤ 12 := by omega
      go_wp2_with (fail)
      go_loopw [7] (fun s7 wy => (∃ j : Nat, j ≤ k ∧ s7 = .int .i64 j ∧ Hid (MvAt wy mb i j k ∧ Touch w2 wy (fun x => x = mb)))) (fun s7 _ => (k - intOf s7).toNat)
      case atStart => exact ⟨0, by omega, rfl, M0.out, Touch.refl _ _⟩
      case round =>
        obtain ⟨j, hj, rfl, hrel⟩ := hrel
        by_cases hjk : j < k
        · obtain ⟨cs, hB, hcs, htk⟩ := hrel.out.1
          have hh : ∀ o, o < 4 → ∃ u, wr.cell? ⟨mb, j * 4 + o, none⟩ = some u := fun o ho => by
            rw [hB.cell]
            exact ⟨_, Array.getElem?_eq_getElem (by omega)⟩
          obtain ⟨u0, z0⟩ := hh 0 (by omega)
          obtain ⟨u1, z1⟩ := hh 1 (by omega)
          obtain ⟨u2, z2⟩ := hh 2 (by omega)
          obtain ⟨u3, z3⟩ := hh 3 (by omega)
          simp only [Nat.add_zero] at z0
          have f0 := hB.frozen (j * 4)
          have f1 := hB.frozen (j * 4 + 1)
          have f2 := hB.frozen (j * 4 + 2)
          have f3 := hB.frozen (j * 4 + 3)
          have dj : decide ((j : Int) < (k : Int)) = true := decide_eq_true (by omega)
          have hjki : (j : Int) < (k : Int) := by omega
          have MP := hide (hrel.out.1.put hjk)
          have TP := hide (show Touch w2 _ (fun x => x = mb) from ((((hrel.out.2.trans (touch_set wr mb (j * 4) (.int .i64 (i : Int))) (fun _ _ e => e)).trans (touch_set _ mb (j * 4 + 1) (.int .i64 (j : Int))) (fun _ _ e => e)).trans (touch_set _ mb (j * 4 + 2) (.int .i64 (16 + (i : Int)))) (fun _ _ e => e)).trans (touch_set _ mb (j * 4 + 3) (.int .i64 (j : Int))) (fun _ _ e => e)))
          clear hh hB hcs htk
          go_wp2_with (fail)
          go_roundw
          case rel => exact ⟨j + 1, by omega, by go_num, MP.out, TP.out⟩
          case measure => simp [intOf]; omega
        · obtain rfl : k = j := by omega
          have dj : decide ((k : Int) < (k : Int)) = false := decide_eq_false (by omega)
          have MB := hide (show Blk wr mb 54 (mvs (mvsU i k)).toArray by
            obtain ⟨cs, h1, h2, h3⟩ := hrel.out.1
            rw [List.take_of_length_le (by rw [Array.length_toList, h2]; exact Nat.le_refl _)] at h3
            rw [← h3]
            exact h1)
          have LMV := hide (show (mvsU i k).length = k by simp [mvsU])
          have MR := hide (show wr.ownsRow 0 54 4 (.slice (some ⟨mb, 0, none⟩) k k) k (mvs (mvsU i k)) by
            have := own_blkN (B := 0) (n := k) (m := 4) MB.out (Nat.zero_le _) (by simp [mvs_len, LMV.out]) (by omega)
            simpa using this)
          have XR := hide (show Ext w wr from Touch.ext (XW.out.trans X2.out) hrel.out.2 (by rw [HMB.out]; exact XW.out.size))
          have N3 := hide (O3.out.ext X2.out)
          have NX := hide (show Ext wr0 wr from Touch.ext X2.out hrel.out.2 (by rw [HMB.out]; exact Nat.le_refl _))
          clear hrel N3
          have X3 := hide (Ext.new wr (.cells #[.int .i64 6, .int .i64 0, .int .i64 ((i : Int) + 1), .int .i64 0, .int .i64 0, .int .i64 0, .int .i64 0, .int .i64 0, .int .i64 0, .int .i64 0, .slice none 0 0, .slice none 0 0, .slice (some ⟨mb, 0, none⟩) k k, .slice none 0 0, .slice none 0 0, .slice none 0 0] 35))
          have V3 := hide (Blk.new wr 35 #[.int .i64 6, .int .i64 0, .int .i64 ((i : Int) + 1), .int .i64 0, .int .i64 0, .int .i64 0, .int .i64 0, .int .i64 0, .int .i64 0, .int .i64 0, .slice none 0 0, .slice none 0 0, .slice (some ⟨mb, 0, none⟩) k k, .slice none 0 0, .slice none 0 0, .slice none 0 0])
          have E3 := hide (O3.out.ext (NX.out.trans X3.out))
          have HB3 := hide (show w.heap.size ≤ (wr.alloc (.cells #[.int .i64 6, .int .i64 0, .int .i64 ((i : Int) + 1), .int .i64 0, .int .i64 0, .int .i64 0, .int .i64 0, .int .i64 0, .int .i64 0, .int .i64 0, .slice none 0 0, .slice none 0 0, .slice (some ⟨mb, 0, none⟩) k k, .slice none 0 0, .slice none 0 0, .slice none 0 0] 35)).heap.size from (XR.out.trans X3.out).size)
          have HE3 := hide (show EnIs (wr.alloc (.cells #[.int .i64 6, .int .i64 0, .int .i64 ((i : Int) + 1), .int .i64 0, .int .i64 0, .int .i64 0, .int .i64 0, .int .i64 0, .int .i64 0, .int .i64 0, .slice none 0 0, .slice none 0 0, .slice (some ⟨mb, 0, none⟩) k k, .slice none 0 0, .slice none 0 0, .slice none 0 0] 35)) (unitX i k) [.int .i64 6, .int .i64 0, .int .i64 ((i : Int) + 1), .int .i64 0, .int .i64 0, .int .i64 0, .int .i64 0, .int .i64 0, .int .i64 0, .int .i64 0, .slice none 0 0, .slice none 0 0, .slice (some ⟨mb, 0, none⟩) k k, .slice none 0 0, .slice none 0 0, .slice none 0 0] from ⟨none, 0, some ⟨mb, 0, none⟩, k, none, 0, none, 0, none, 0, by simp [enC, unitX, mvsU], World.ownsRow_nil _ _ _ _, by
            show (wr.alloc (.cells #[.int .i64 6, .int .i64 0, .int .i64 ((i : Int) + 1), .int .i64 0, .int .i64 0, .int .i64 0, .int .i64 0, .int .i64 0, .int .i64 0, .int .i64 0, .slice none 0 0, .slice none 0 0, .slice (some ⟨mb, 0, none⟩) k k, .slice none 0 0, .slice none 0 0, .slice none 0 0] 35)).ownsRow 0 54 4 (.slice (some ⟨mb, 0, none⟩) (mvsU i k).length k) (mvsU i k).length (mvs (mvsU i k))
            rw [LMV.out]
            exact X3.out.own MR.out, SnAt.nil _ 0 0⟩)
          go_upto_region 16 with (at_builtin; refine wpList_append_ensN _ rfl (.tmp 47) (.tmp 52) rfl w.heap.size (allU ns i) A3 m3 c3 rfl wr.heap.size rfl (unitX i k) [.int .i64 6, .int .i64 0, .int .i64 ((i : Int) + 1), .int .i64 0, .int .i64 0, .int .i64 0, .int .i64 0, .int .i64 0, .int .i64 0, .int .i64 0, .slice none 0 0, .slice none 0 0, .slice (some ⟨mb, 0, none⟩) k k, .slice none 0 0, .slice none 0 0, .slice none 0 0] E3.out V3.out HE3.out rfl (by omega) HB3.out ?_; intro A9 c9 w4 ho4 _ hx4 hr4; have N4 := hide ho4; have X4 := hide (hx4 (Nat.le_refl _) (XR.out.trans X3.out)); have R4 := hide hr4; clear ho4 hx4 hr4)
          have MR4 := hide (R4.out 0 54 4 _ _ _ (by decide) (X3.out.own MR.out))
          have WO4 := hide (show OwnO w4 w.heap.size (wantL ns i) A4 m4 c4 by
            obtain ⟨os, h1, h2⟩ := O4.out
            exact ⟨os, R4.out _ 56 3 _ _ _ (by decide) ((NX.out.trans X3.out).own h1), (h2.ext (NX.out.trans X3.out)).keep (fun v n ys hr => R4.out 0 54 4 _ _ _ (by decide) hr)⟩)
          have GX := hide ((X4.out.cell (p := ⟨bk, off + i, none⟩) hbw).trans ((XW.out.cell (p := ⟨bk, off + i, none⟩) hbw).symm.trans gx))
          obtain ⟨d, hd⟩ : ∃ d, d = min k q := ⟨_, rfl⟩
          have HD := hide hd
          have hdk : d ≤ k := by omega
          have hdq : d ≤ q := by omega
          clear hd
          have Q4 := hide (show UAt w w4 (allU ns i) (wantL ns i) i k mb A4 m4 c4 0 A9 (m3 + 1) c9 from ⟨by simpa [movesU] using N4.out, X4.out, MR4.out, WO4.out⟩)
          go_upto_block 4 with (fail)
          go_cut [3, 8] (fun s3 s8 wx => s8 = .int .i64 (d : Nat) ∧ ∃ A5 c5, s3 = .slice A5 (m3 + 1 + d) c5 ∧ Hid (UAt w wx (allU ns i) (wantL ns i) i k mb A4 m4 c4 d A5 (m3 + 1 + d) c5))
          case first =>
            go_wp2_with (fail)
            go_loopw [3, 8, 9] (fun s3 s8 s9 wy => (∃ j : Nat, j ≤ d ∧ s8 = .int .i64 j ∧ s9 = .int .i64 j ∧ ∃ A5 c5, s3 = .slice A5 (m3 + 1 + j) c5 ∧ Hid (UAt w wy (allU ns i) (wantL ns i) i k mb A4 m4 c4 j A5 (m3 + 1 + j) c5))) (fun _ _ s9 _ => (d - intOf s9).toNat)
            case atStart => exact ⟨0, by omega, rfl, rfl, A9, c9, rfl, Q4.out⟩
            case round =>
              obtain ⟨j, hj, rfl, rfl, A5, c5, rfl, hu⟩ := hrel
              have gy : wr.cell? ⟨bk, off + i, none⟩ = some (.int .u8 (x : Int)) := (hu.out.2.1.cell (p := ⟨bk, off + i, none⟩) hbw).trans ((XW.out.cell (p := ⟨bk, off + i, none⟩) hbw).symm.trans gx)
              by_cases hjd : j < d
              · have d1 : decide ((j : Int) < (k : Int)) = true := decide_eq_true (by omega)
                have d2 : decide ((j : Int) < (q : Int)) = true := decide_eq_true (by omega)
                have d3 : decide (j < q) = true := decide_eq_true (by omega)
                have d4 : decide (j < x / 4 % 4) = true := decide_eq_true (by omega)
                have d5 : decide ((j : Int) < (x : Int) / 4 % 4) = true := decide_eq_true (by omega)
                have hjk : j < k := by omega
                have hjki : (j : Int) < (k : Int) := by omega
                have hmx := mvs_at (l := mvsU i k) (q := j) (x := mvU i j) (by simp [mvsU, hjk])
                have z0 : wr.cell? ⟨mb, j * 4, none⟩ = some (.int .i64 (i : Int)) := by rw [hu.out.2.2.1.cellAt _ (by omega)]; exact hmx.1
                have z1 : wr.cell? ⟨mb, j * 4 + 1, none⟩ = some (.int .i64 (j : Int)) := by rw [hu.out.2.2.1.cellAt _ (by omega)]; exact hmx.2.1
                have z2 : wr.cell? ⟨mb, j * 4 + 2, none⟩ = some (.int .i64 (16 + (i : Int))) := by rw [hu.out.2.2.1.cellAt _ (by omega)]; exact hmx.2.2.1
                have z3 : wr.cell? ⟨mb, j * 4 + 3, none⟩ = some (.int .i64 (j : Int)) := by rw [hu.out.2.2.1.cellAt _ (by omega)]; exact hmx.2.2.2
                have wi1 : IntKind.i64.wrap ((i : Int) + 1) = (i : Int) + 1 := by simp [IntKind.wrap, IntKind.signed, IntKind.bits]; omega
                have HMX := hide hmx
                clear hmx
                go_upto_region 20 with (fail)
                refine wp_region_F (S := (fun w' => w'.cell? ⟨mb, j * 4, none⟩ = some (.int .i64 (i : Int)) ∧ w'.cell? ⟨mb, j * 4 + 1, none⟩ = some (.int .i64 (j : Int)) ∧ w'.cell? ⟨mb, j * 4 + 2, none⟩ = some (.int .i64 (16 + (i : Int))) ∧ w'.cell? ⟨mb, j * 4 + 3, none⟩ = some (.int .i64 (j : Int)))) 16 (by kernel_rfl) (by kernel_rfl) ⟨z0, z1, z2, z3⟩ (fun hHeld => ?_)
                refine GoF.take 0 (some 71) (v := ?_) rfl rfl (by kernel_rfl) (by kernel_rfl) (by kernel_rfl) (fun _ _ _ h => h) (Or.inl ⟨by rfl, ?_⟩) (by assumption) ?_
                rotate_left
                · intro w' hSw
                  try dsimp only at hSw
                  go_simp
                  try with_reducible rfl
                try simp only [Act.put, List.setIfInBounds_toArray, List.set_cons_zero, List.set_cons_succ]
                refine GoF.take 1 (some 72) (v := ?_) rfl rfl (by kernel_rfl) (by kernel_rfl) (by kernel_rfl) (fun _ _ _ h => h) (Or.inl ⟨by rfl, ?_⟩) (by assumption) ?_
                rotate_left
                · intro w' hSw
                  try dsimp only at hSw
                  go_simp
                  try with_reducible rfl
                try simp only [Act.put, List.setIfInBounds_toArray, List.set_cons_zero, List.set_cons_succ]
                refine GoF.take 2 (some 73) (v := ?_) rfl rfl (by kernel_rfl) (by kernel_rfl) (by kernel_rfl) (fun _ _ _ h => h) (Or.inl ⟨by rfl, ?_⟩) (by assumption) ?_
                rotate_left
                · intro w' hSw
                  try dsimp only at hSw
                  go_simp
                  try with_reducible rfl
                try simp only [Act.put, List.setIfInBounds_toArray, List.set_cons_zero, List.set_cons_succ]
                refine GoF.take 3 (some 74) (v := ?_) rfl rfl (by kernel_rfl) (by kernel_rfl) (by kernel_rfl) (fun _ _ _ h => h) (Or.inl ⟨by rfl, ?_⟩) (by assumption) ?_
                rotate_left
                · intro w' hSw
                  try dsimp only at hSw
                  go_simp
                  try with_reducible rfl
                try simp only [Act.put, List.setIfInBounds_toArray, List.set_cons_zero, List.set_cons_succ]
                refine GoF.take 4 (some 75) (v := ?_) rfl rfl (by kernel_rfl) (by kernel_rfl) (by kernel_rfl) (fun _ _ _ h => h) (Or.inl ⟨by rfl, ?_⟩) (by assumption) ?_
                rotate_left
                · intro w' hSw
                  try dsimp only at hSw
                  go_simp
                  try with_reducible rfl
                try simp only [Act.put, List.setIfInBounds_toArray, List.set_cons_zero, List.set_cons_succ]
                refine GoF.take 5 (some 76) (v := ?_) rfl rfl (by kernel_rfl) (by kernel_rfl) (by kernel_rfl) (fun _ _ _ h => h) (Or.inl ⟨by rfl, ?_⟩) (by assumption) ?_
                rotate_left
                · intro w' hSw
                  try dsimp only at hSw
                  go_simp
                  try with_reducible rfl
                try simp only [Act.put, List.setIfInBounds_toArray, List.set_cons_zero, List.set_cons_succ]
                refine GoF.take 6 (some 77) (v := ?_) rfl rfl (by kernel_rfl) (by kernel_rfl) (by kernel_rfl) (fun _ _ _ h => h) (Or.inl ⟨by rfl, ?_⟩) (by assumption) ?_
                rotate_left
                · intro w' hSw
                  try dsimp only at hSw
                  go_simp
                  try with_reducible rfl
                try simp only [Act.put, List.setIfInBounds_toArray, List.set_cons_zero, List.set_cons_succ]
                refine GoF.take 7 (some 78) (v := ?_) rfl rfl (by kernel_rfl) (by kernel_rfl) (by kernel_rfl) (fun _ _ _ h => h) (Or.inl ⟨by rfl, ?_⟩) (by assumption) ?_
                rotate_left
                · intro w' hSw
                  try dsimp only at hSw
                  go_simp
                  try with_reducible rfl
                try simp only [Act.put, List.setIfInBounds_toArray, List.set_cons_zero, List.set_cons_succ]
                refine GoF.take 8 (some 79) (v := ?_) rfl rfl (by kernel_rfl) (by kernel_rfl) (by kernel_rfl) (fun _ _ _ h => h) (Or.inl ⟨by rfl, ?_⟩) (by assumption) ?_
                rotate_left
                · intro w' hSw
                  try dsimp only at hSw
                  go_simp
                  try with_reducible rfl
                try simp only [Act.put, List.setIfInBounds_toArray, List.set_cons_zero, List.set_cons_succ]
                refine GoF.take 9 (some 80) (v := ?_) rfl rfl (by kernel_rfl) (by kernel_rfl) (by kernel_rfl) (fun _ _ _ h => h) (Or.inl ⟨by rfl, ?_⟩) (by assumption) ?_
                rotate_left
                · intro w' hSw
                  try dsimp only at hSw
                  go_simp
                  try with_reducible rfl
                try simp only [Act.put, List.setIfInBounds_toArray, List.set_cons_zero, List.set_cons_succ]
                refine GoF.take 10 (some 81) (v := ?_) rfl rfl (by kernel_rfl) (by kernel_rfl) (by kernel_rfl) (fun _ _ _ h => h) (Or.inl ⟨by rfl, ?_⟩) (by assumption) ?_
                rotate_left
                · intro w' hSw
                  try dsimp only at hSw
                  go_simp
                  try with_reducible rfl
                try simp only [Act.put, List.setIfInBounds_toArray, List.set_cons_zero, List.set_cons_succ]
                refine GoF.take 11 (some 82) (v := ?_) rfl rfl (by kernel_rfl) (by kernel_rfl) (by kernel_rfl) (fun _ _ _ h => h) (Or.inl ⟨by rfl, ?_⟩) (by assumption) ?_
                rotate_left
                · intro w' hSw
                  try dsimp only at hSw
                  go_simp
                  try with_reducible rfl
                try simp only [Act.put, List.setIfInBounds_toArray, List.set_cons_zero, List.set_cons_succ]
                refine GoF.take 12 (some 83) (v := ?_) rfl rfl (by kernel_rfl) (by kernel_rfl) (by kernel_rfl) (fun _ _ _ h => h) (Or.inl ⟨by rfl, ?_⟩) (by assumption) ?_
                rotate_left
                · intro w' hSw
                  try dsimp only at hSw
                  go_simp
                  try with_reducible rfl
                try simp only [Act.put, List.setIfInBounds_toArray, List.set_cons_zero, List.set_cons_succ]
                refine GoF.take 13 (some 84) (v := ?_) rfl rfl (by kernel_rfl) (by kernel_rfl) (by kernel_rfl) (fun _ _ _ h => h) (Or.inl ⟨by rfl, ?_⟩) (by assumption) ?_
                rotate_left
                · intro w' hSw
                  try dsimp only at hSw
                  go_simp
                  try with_reducible rfl
                try simp only [Act.put, List.setIfInBounds_toArray, List.set_cons_zero, List.set_cons_succ]
                refine GoF.each (rs := [14]) (by kernel_rfl) (by kernel_rfl) (by kernel_rfl) ?_
                refine EachF.cons (i := 14) rfl (fun K hK => ?_) EachF.nil
                go_simp
                obtain ⟨w7, hw7⟩ : ∃ w7, w7 = (wr.alloc (.cells #[.int .i64 7, .int .i64 0, .int .i64 ((i : Int) + 1), .int .i64 0, .int .i64 0, .int .i64 0, .int .i64 (i : Int), .int .i64 (j : Int), .int .i64 (16 + (i : Int)), .int .i64 (j : Int), .slice none 0 0, .slice none 0 0, .slice none 0 0, .slice none 0 0, .slice none 0 0, .slice none 0 0] 35)).drew := ⟨_, rfl⟩
                obtain ⟨vb, hvb⟩ : ∃ vb, vb = wr.heap.size := ⟨_, rfl⟩
                have V7 := hide (show Blk w7 vb 35 #[.int .i64 7, .int .i64 0, .int .i64 ((i : Int) + 1), .int .i64 0, .int .i64 0, .int .i64 0, .int .i64 (i : Int), .int .i64 (j : Int), .int .i64 (16 + (i : Int)), .int .i64 (j : Int), .slice none 0 0, .slice none 0 0, .slice none 0 0, .slice none 0 0, .slice none 0 0, .slice none 0 0] by rw [hw7, hvb]; exact (Blk.new wr 35 _).drew)
                have X7 := hide (show Ext wr w7 by rw [hw7]; exact Ext.drew (Ext.new wr _))
                have E7 := hide (hu.out.1.ext X7.out)
                have c0 := (X7.out.cell (World.block_lt_of_cell? _ _ z0)).trans z0
                have c1 := (X7.out.cell (World.block_lt_of_cell? _ _ z1)).trans z1
                have c2 := (X7.out.cell (World.block_lt_of_cell? _ _ z2)).trans z2
                have c3 := (X7.out.cell (World.block_lt_of_cell? _ _ z3)).trans z3
                rw [← hw7, ← hvb]
                clear hw7 hvb
                refine hK.out _ _ ⟨c0, c1, c2, c3⟩ (fun hHeld => ?_)
                clear hK K
                refine GoF.each (rs := [15]) (by kernel_rfl) (by kernel_rfl) (by kernel_rfl) ?_
                refine EachF.cons (i := 15) rfl (fun K hK => ?_) EachF.nil
                have HBS := hide (show w.heap.size ≤ w7.heap.size from (hu.out.2.1.trans X7.out).size)
                have HE7 := hide (show EnIs w7 (moveX i j) [.int .i64 7, .int .i64 0, .int .i64 ((i : Int) + 1), .int .i64 0, .int .i64 0, .int .i64 0, .int .i64 (i : Int), .int .i64 (j : Int), .int .i64 (16 + (i : Int)), .int .i64 (j : Int), .slice none 0 0, .slice none 0 0, .slice none 0 0, .slice none 0 0, .slice none 0 0, .slice none 0 0] from ⟨none, 0, none, 0, none, 0, none, 0, none, 0, by simp [enC, moveX], enAt_nil w7 _ rfl rfl⟩)
                refine step_append_ens w7 rfl (.tmp 71) (.tmp 85) rfl w.heap.size (allU ns i ++ unitX i k :: movesU i j) A5 (m3 + 1 + j) c5 (by rfl) vb (by rfl) (moveX i j) [.int .i64 7, .int .i64 0, .int .i64 ((i : Int) + 1), .int .i64 0, .int .i64 0, .int .i64 0, .int .i64 (i : Int), .int .i64 (j : Int), .int .i64 (16 + (i : Int)), .int .i64 (j : Int), .slice none 0 0, .slice none 0 0, .slice none 0 0, .slice none 0 0, .slice none 0 0, .slice none 0 0] E7.out V7.out HE7.out rfl (by omega) HBS.out ?_
                intro A8 c8 w8 ho8 ht8 hx8 hr8
                have O8 := hide ho8
                have X8 := hide (hx8 (Nat.le_refl _) (hu.out.2.1.trans X7.out))
                have MR8 := hide (hr8 0 54 4 _ _ _ (by decide) (X7.out.own hu.out.2.2.1))
                have WO8 := hide (show OwnO w8 w.heap.size (wantL ns i) A4 m4 c4 by
                  obtain ⟨os, h1, h2⟩ := hu.out.2.2.2
                  exact ⟨os, hr8 _ 56 3 _ _ _ (by decide) (X7.out.own h1), (h2.ext X7.out).keep (fun v n ys hr => hr8 0 54 4 _ _ _ (by decide) hr)⟩)
                have c0 : w8.cell? ⟨mb, j * 4, none⟩ = some (.int .i64 (i : Int)) := by rw [MR8.out.cellAt _ (by omega)]; exact HMX.out.1
                have c1 : w8.cell? ⟨mb, j * 4 + 1, none⟩ = some (.int .i64 (j : Int)) := by rw [MR8.out.cellAt _ (by omega)]; exact HMX.out.2.1
                have c2 : w8.cell? ⟨mb, j * 4 + 2, none⟩ = some (.int .i64 (16 + (i : Int))) := by rw [MR8.out.cellAt _ (by omega)]; exact HMX.out.2.2.1
                have c3 : w8.cell? ⟨mb, j * 4 + 3, none⟩ = some (.int .i64 (j : Int)) := by rw [MR8.out.cellAt _ (by omega)]; exact HMX.out.2.2.2
                refine hK.out _ _ ⟨c0, c1, c2, c3⟩ (fun hHeld => ?_)
                clear hK K ho8 ht8 hx8 hr8 c0 c1 c2 c3
                change GoF _ _ _ _ _ _ _ _ (Act.put _ (some 86) _) _
                simp only [Act.put, List.setIfInBounds_toArray, List.set_cons_zero, List.set_cons_succ]
                refine GoF.last (by kernel_rfl) (by kernel_rfl) rfl (fun K hK => ?_)
                go_simp
                refine hK.out _ _ ?_
                clear hK K hHeld
                have N8 := hide (show EnsN w8 w.heap.size (allU ns i ++ unitX i k :: movesU i (j + 1)) A8 (m3 + 1 + (j + 1)) c8 by rw [movesU_succ]; exact O8.out)
                go_wp2_with (fail)
                go_roundw
                case rel => exact ⟨j + 1, by omega, by go_num, by go_num, A8, c8, rfl, N8.out, X8.out, MR8.out, WO8.out⟩
                case measure => simp [intOf]; omega
              · obtain rfl : j = d := by omega
                by_cases hjk : j < k
                · have d1 : decide ((j : Int) < (k : Int)) = true := decide_eq_true (by omega)
                  have hq' : ¬ j < q := by have := HD.out; omega
                  have d2 : decide ((j : Int) < (q : Int)) = false := decide_eq_false (by omega)
                  have d3 : decide (j < q) = false := decide_eq_false (by omega)
                  have d4 : decide (j < x / 4 % 4) = false := decide_eq_false (by omega)
                  have d5 : decide ((j : Int) < (x : Int) / 4 % 4) = false := decide_eq_false (by omega)
                  go_wp2_with (fail)
                  go_meet
                  case rel => exact ⟨rfl, A5, c5, rfl, hu.out⟩
                · have d1 : decide ((j : Int) < (k : Int)) = false := decide_eq_false (by omega)
                  go_wp2_with (fail)
                  go_meet
                  case rel => exact ⟨rfl, A5, c5, rfl, hu.out⟩
          case rest =>
            obtain ⟨rfl, A5, c5, rfl, hu⟩ := hcut
            have gy : wc.cell? ⟨bk, off + i, none⟩ = some (.int .u8 (x : Int)) := (hu.out.2.1.cell (p := ⟨bk, off + i, none⟩) hbw).trans ((XW.out.cell (p := ⟨bk, off + i, none⟩) hbw).symm.trans gx)
            have DN := hide (show dnU x = d by unfold dnU; rw [HK.out, HQ.out]; exact HD.out.symm)
            have wi1 : IntKind.i64.wrap ((i : Int) + 1) = (i : Int) + 1 := by simp [IntKind.wrap, IntKind.signed, IntKind.bits]; omega
            by_cases hbig : 127 < x
            · have e1 : decide ((127 : Int) < (x : Int)) = true := decide_eq_true (by omega)
              have e2 : decide (127 < x) = true := decide_eq_true hbig
              have EQ1 := hide (show (allU ns i ++ unitX i k :: movesU i d) ++ [doneX i k] = allU ns (i + 1) by
                rw [allU_next HX.out]
                unfold entsU
                rw [if_pos hbig, HK.out, DN.out]
                simp)
              have EQ2 := hide (show wantL ns (i + 1) = wantL ns i by
                rw [wantL_next HX.out]
                unfold wantU
                rw [if_pos hbig, List.append_nil])
              have X5 := hide (Ext.new wc (.cells #[.int .i64 8, .int .i64 0, .int .i64 ((i : Int) + 1), .int .i64 0, .int .i64 0, .int .i64 0, .int .i64 0, .int .i64 0, .int .i64 0, .int .i64 0, .slice none 0 0, .slice none 0 0, .slice (some ⟨mb, 0, none⟩) k k, .slice none 0 0, .slice none 0 0, .slice none 0 0] 35))
              have V5 := hide (Blk.new wc 35 #[.int .i64 8, .int .i64 0, .int .i64 ((i : Int) + 1), .int .i64 0, .int .i64 0, .int .i64 0, .int .i64 0, .int .i64 0, .int .i64 0, .int .i64 0, .slice none 0 0, .slice none 0 0, .slice (some ⟨mb, 0, none⟩) k k, .slice none 0 0, .slice none 0 0, .slice none 0 0])
              have E5 := hide (hu.out.1.ext X5.out)
              have HB5 := hide (show w.heap.size ≤ (wc.alloc (.cells #[.int .i64 8, .int .i64 0, .int .i64 ((i : Int) + 1), .int .i64 0, .int .i64 0, .int .i64 0, .int .i64 0, .int .i64 0, .int .i64 0, .int .i64 0, .slice none 0 0, .slice none 0 0, .slice (some ⟨mb, 0, none⟩) k k, .slice none 0 0, .slice none 0 0, .slice none 0 0] 35)).heap.size from (hu.out.2.1.trans X5.out).size)
              have HE5 := hide (show EnIs (wc.alloc (.cells #[.int .i64 8, .int .i64 0, .int .i64 ((i : Int) + 1), .int .i64 0, .int .i64 0, .int .i64 0, .int .i64 0, .int .i64 0, .int .i64 0, .int .i64 0, .slice none 0 0, .slice none 0 0, .slice (some ⟨mb, 0, none⟩) k k, .slice none 0 0, .slice none 0 0, .slice none 0 0] 35)) (doneX i k) [.int .i64 8, .int .i64 0, .int .i64 ((i : Int) + 1), .int .i64 0, .int .i64 0, .int .i64 0, .int .i64 0, .int .i64 0, .int .i64 0, .int .i64 0, .slice none 0 0, .slice none 0 0, .slice (some ⟨mb, 0, none⟩) k k, .slice none 0 0, .slice none 0 0, .slice none 0 0] from ⟨none, 0, some ⟨mb, 0, none⟩, k, none, 0, none, 0, none, 0, by simp [enC, doneX, mvsU], World.ownsRow_nil _ _ _ _, by
                show (wc.alloc (.cells #[.int .i64 8, .int .i64 0, .int .i64 ((i : Int) + 1), .int .i64 0, .int .i64 0, .int .i64 0, .int .i64 0, .int .i64 0, .int .i64 0, .int .i64 0, .slice none 0 0, .slice none 0 0, .slice (some ⟨mb, 0, none⟩) k k, .slice none 0 0, .slice none 0 0, .slice none 0 0] 35)).ownsRow 0 54 4 (.slice (some ⟨mb, 0, none⟩) (mvsU i k).length k) (mvsU i k).length (mvs (mvsU i k))
                rw [LMV.out]
                exact X5.out.own hu.out.2.2.1, SnAt.nil _ 0 0⟩)
              go_wp2_with (at_builtin; refine wpList_append_ensN _ rfl (.tmp 94) (.tmp 99) rfl w.heap.size (allU ns i ++ unitX i k :: movesU i d) A5 (m3 + 1 + d) c5 rfl wc.heap.size rfl (doneX i k) [.int .i64 8, .int .i64 0, .int .i64 ((i : Int) + 1), .int .i64 0, .int .i64 0, .int .i64 0, .int .i64 0, .int .i64 0, .int .i64 0, .int .i64 0, .slice none 0 0, .slice none 0 0, .slice (some ⟨mb, 0, none⟩) k k, .slice none 0 0, .slice none 0 0, .slice none 0 0] E5.out V5.out HE5.out rfl (by omega) HB5.out ?_; intro A9 c9 w6 ho6 _ hx6 hr6; have N6 := hide ho6; have X6 := hide (hx6 (Nat.le_refl _) (hu.out.2.1.trans X5.out)); have R6 := hide hr6; clear ho6 hx6 hr6)
              have WO6 := hide (show OwnO w6 w.heap.size (wantL ns i) A4 m4 c4 by
                obtain ⟨os, h1, h2⟩ := hu.out.2.2.2
                exact ⟨os, R6.out _ 56 3 _ _ _ (by decide) (X5.out.own h1), (h2.ext X5.out).keep (fun v n ys hr => R6.out 0 54 4 _ _ _ (by decide) hr)⟩)
              go_roundw
              case rel => exact ⟨i + 1, by omega, by go_num, A9, m3 + 1 + d + 1, c9, A4, m4, c4, rfl, rfl, by rw [← EQ1.out]; exact N6.out, by rw [EQ2.out]; exact WO6.out, X6.out, by omega, by rw [EQ2.out]; exact M4.out, by omega⟩
              case measure => simp [intOf]; omega
            · have e1 : decide ((127 : Int) < (x : Int)) = false := decide_eq_false (by omega)
              have e2 : decide (127 < x) = false := decide_eq_false hbig
              have EQ1 := hide (show allU ns i ++ unitX i k :: movesU i d = allU ns (i + 1) by
                rw [allU_next HX.out]
                unfold entsU
                rw [if_neg hbig, HK.out, DN.out]
                simp)
              have EQ2 := hide (show wantL ns (i + 1) = wantL ns i ++ [⟨(i : Int) + 1, mvsU i k, (d : Int)⟩] by
                rw [wantL_next HX.out]
                unfold wantU
                rw [if_neg hbig, HK.out, DN.out])
              have X5 := hide (Ext.new wc (.cells #[.int .i64 ((i : Int) + 1), .slice (some ⟨mb, 0, none⟩) k k, .int .i64 (d : Int)] 56))
              have V5 := hide (Blk.new wc 56 #[.int .i64 ((i : Int) + 1), .slice (some ⟨mb, 0, none⟩) k k, .int .i64 (d : Int)])
              have E5 := hide (hu.out.1.ext X5.out)
              have HB5 := hide (show w.heap.size ≤ (wc.alloc (.cells #[.int .i64 ((i : Int) + 1), .slice (some ⟨mb, 0, none⟩) k k, .int .i64 (d : Int)] 56)).heap.size from (hu.out.2.1.trans X5.out).size)
              have WO5 := hide (show OwnO (wc.alloc (.cells #[.int .i64 ((i : Int) + 1), .slice (some ⟨mb, 0, none⟩) k k, .int .i64 (d : Int)] 56)) w.heap.size (wantL ns i) A4 m4 c4 by
                obtain ⟨os, h1, h2⟩ := hu.out.2.2.2
                exact ⟨os, X5.out.own h1, h2.ext X5.out⟩)
              have MR5 := hide (X5.out.own hu.out.2.2.1)
              go_wp2_with (at_builtin; refine wpList_append_ou _ rfl (.tmp 101) (.tmp 107) rfl w.heap.size (wantL ns i) A4 m4 c4 rfl wc.heap.size rfl ⟨(i : Int) + 1, mvsU i k, (d : Int)⟩ (some ⟨mb, 0, none⟩) k WO5.out (by rw [LMV.out]; exact V5.out) (by rw [LMV.out]; exact MR5.out) (by omega) HB5.out ?_; intro A9 c9 w6 ho6 ht6 hf6 hx6; have N6 := hide (E5.out.ou ht6 hf6); have O6 := hide ho6; have X6 := hide (hx6 (Nat.le_refl _) (hu.out.2.1.trans X5.out)); clear ho6 hx6 ht6 hf6)
              go_roundw
              case rel => exact ⟨i + 1, by omega, by go_num, A5, m3 + 1 + d, c5, A9, m4 + 1, c9, rfl, rfl, by rw [← EQ1.out]; exact N6.out, by rw [EQ2.out]; exact O6.out, X6.out, by omega, by rw [EQ2.out, List.length_append, ← M4.out]; rfl, by omega⟩
              case measure => simp [intOf]; omega
    · obtain rfl : n = i := by omega
      obtain ⟨S, hS⟩ : ∃ S, S = seenN sn0 (allU ns n) 1 := ⟨_, rfl⟩
      obtain ⟨hso, hsu⟩ := units_run ns n (by rw [HN.out]; exact Nat.le_refl _)
      rw [← hS] at hso hsu
      have HSO := hide hso
      have HSU := hide hsu
      clear hso hsu
      have CA := hide (gives_lit (all_any wr A3 c3 m3 (allU ns n) 0 O3.out.own.at_ (allU_bdX ns n) (by omega)))
      rw [← hS] at CA
      clear hS
      go_upto_region 26 with (go_at_call 10; refine CA.out.mono ?_; rintro e w2 ⟨A6, c6, A7, c7, A8, c8, ml, md, mo, mu, mh, rfl, hs2, hx2, h1, h2, h3, h4, h5⟩; have S2 := hide hs2; have X2 := hide hx2; have H3 := hide h3; have H4 := hide h4; clear hs2 hx2 h1 h2 h3 h4 h5)
      obtain rfl : mo = m4 := by rw [H3.out, HSO.out, M4.out]
      obtain rfl : mu = (n : Int) := by rw [H4.out, HSU.out]
      obtain ⟨w3, hw3⟩ : ∃ w3, w3 = w2.alloc (.cells #[.slice A6 ml c6, .slice A7 md c7, .slice A8 mo c8, .int .i64 (n : Int), .int .i64 mh] 37) := ⟨_, rfl⟩
      obtain ⟨sb, hsb⟩ : ∃ sb, sb = w2.heap.size := ⟨_, rfl⟩
      have X3 := hide (show Ext w2 w3 by rw [hw3]; exact Ext.new w2 _)
      have B3 := hide (show Blk w3 sb 37 #[.slice A6 ml c6, .slice A7 md c7, .slice A8 mo c8, .int .i64 (n : Int), .int .i64 mh] by rw [hw3, hsb]; exact Blk.new w2 37 _)
      have OA := hide (show OwnO w3 0 (wantL ns n) A8 mo c8 by
        obtain ⟨os, q1, q2⟩ := S2.out.o
        rw [← H3.out] at q1
        rw [HSO.out] at q2
        exact ⟨os, X3.out.own (own_base q1 (Nat.zero_le _)), q2.ext X3.out⟩)
      have OB := hide (show OwnO w3 0 (wantL ns n) A4 mo c4 by
        obtain ⟨os, q1, q2⟩ := O4.out
        exact ⟨os, (X2.out.trans X3.out).own (own_base q1 (Nat.zero_le _)), q2.ext (X2.out.trans X3.out)⟩)
      rw [← hw3, ← hsb]
      clear hw3 hsb CA
      obtain ⟨b0, b1, b2, b3, b4⟩ := B3.out.cells5
      have dmm : (mo == mo) = true := by simp
      have dnn : (n == n) = true := by simp
      go_wp2_with (fail)
      clear b0 b1 b2 b3 b4
      go_loopw [11] (fun s11 wy => (∃ p : Nat, p ≤ mo ∧ s11 = .int .i64 p ∧ Hid (Ext w3 wy))) (fun s11 _ => (mo - intOf s11).toNat)
      case atStart => exact ⟨0, by omega, rfl, Ext.refl _⟩
      case round =>
        obtain ⟨p, hp, rfl, hxy⟩ := hrel
        by_cases hpm : p < mo
        · obtain ⟨x, hx⟩ : ∃ x, (wantL ns n)[p]? = some x := ⟨_, List.getElem?_eq_getElem (by rw [← M4.out]; exact hpm)⟩
          obtain ⟨gA, Ax, cx, rfl, p0, p1, p2⟩ := OwnO.cells3 (ownO_ext OA.out hxy.out) hx hpm
          obtain ⟨gB, Bx, dx, rfl, r0, r1, r2⟩ := OwnO.cells3 (ownO_ext OB.out hxy.out) hx hpm
          obtain ⟨b0, b1, b2, b3, b4⟩ := (hxy.out.blk B3.out).cells5
          obtain ⟨xu, hxu⟩ : ∃ xu, xu = x.u := ⟨_, rfl⟩
          obtain ⟨xd, hxd⟩ : ∃ xd, xd = x.d := ⟨_, rfl⟩
          obtain ⟨xm, hxm⟩ : ∃ xm, xm = x.mv.length := ⟨_, rfl⟩
          rw [← hxu] at p0 r0
          rw [← hxd] at p2 r2
          rw [← hxm] at p1 r1
          clear hxu hxd hxm hx
          have dpm : decide ((p : Int) < (mo : Int)) = true := decide_eq_true (by omega)
          have hpmi : (p : Int) < (mo : Int) := by omega
          have duu : (xu == xu) = true := by simp
          have ddd : (xd == xd) = true := by simp
          have dxx : (xm == xm) = true := by simp
          go_upto_region 31 with (fail)
          go_quiet (fail)
          go_wp2_with (fail)
          go_roundw
          case rel => exact ⟨p + 1, by omega, by go_num, hxy.out.drewN _⟩
          case measure => simp [intOf]; omega
        · obtain rfl : mo = p := by omega
          have dpp : decide ((mo : Int) < (mo : Int)) = false := decide_eq_false (by omega)
          go_wp2_with (fail)
          go_ret
          exact ⟨rfl, ((X0.out.trans XW.out).trans (X2.out.trans X3.out)).trans hxy.out⟩
set_option maxRecDepth 1000000 in
set_option maxHeartbeats 4000000 in
theorem walk_long (A : Option Addr) (n c : Nat) (w : World) (h1 : (12 : Int) < n) : Calls Try.prog 6 #[.slice A n c] w fun e w' => e = .returned (.bool true) ∧ Ext w w' := by
  go_enter Try.func6, Try.ntmps6
  go_wp2_with (go_at_call 8; refine (begun_any _).mono ?_; rintro e w1 ⟨rfl, b1⟩)
  go_ret
  exact ⟨rfl, b1⟩
end Go.Proofs.Ytaijgnhkdbdfcaa.lookUnits
