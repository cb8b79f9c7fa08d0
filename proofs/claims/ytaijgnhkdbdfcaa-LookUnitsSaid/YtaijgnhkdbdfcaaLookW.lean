/- Look: contracts: on. -/
import Derived.Test.YtaijgnhkdbdfcaaLookV
namespace Go.Proofs.Ytaijgnhkdbdfcaa
open Go.ChangeShapes Go.WideShapes Go.ChangeAt Go.RowKit
set_option linter.unusedVariables false

/-- what is seen behind entries, of which the first has a number -/
def seenN : Sn → List En → Int → Sn
  | s, [], _ => s
  | s, X :: l, lsn => seenN (onN s X lsn) l (lsn + 1)
def sn0 : Sn := ⟨[], [], [], 0, 0⟩
theorem seenN_snoc : ∀ (l : List En) (s : Sn) (X : En) (lsn : Int), seenN s (l ++ [X]) lsn = onN (seenN s l lsn) X (lsn + (l.length : Int))
  | [], s, X, lsn => by simp [seenN]
  | Y :: l, s, X, lsn => by
    simp only [List.cons_append, seenN, List.length_cons]
    rw [seenN_snoc l]
    congr 1
    push_cast
    omega
theorem seenN_take {l : List En} {k : Nat} {X : En} (h : l[k]? = some X) (s : Sn) (lsn : Int) : seenN s (l.take (k + 1)) lsn = onN (seenN s (l.take k) lsn) X (lsn + (k : Int)) := by
  have hk := (List.getElem?_eq_some_iff.1 h).1
  have e := (List.getElem?_eq_some_iff.1 h).2
  rw [List.take_succ_eq_append_getElem hk, e, seenN_snoc, List.length_take, Nat.min_eq_left (by omega)]
/-- entries lie there -/
def EnsAt (w : World) (A : Option Addr) (n : Nat) (l : List En) : Prop :=
  n = l.length ∧ ∀ k X, l[k]? = some X → ∃ g off AN cN AM cM EL cEL ED cED EO cEO, A = some ⟨g, off, none⟩ ∧ g < w.heap.size ∧ (∀ j u, (enC X AN cN AM cM EL cEL ED cED EO cEO)[j]? = some u → w.cell? ⟨g, off + k * 16 + j, none⟩ = some u) ∧ EnAt w X AN cN AM cM EL cEL ED cED EO cEO
theorem EnsAt.ext {w w' : World} {A : Option Addr} {n : Nat} {l : List En} (h : EnsAt w A n l) (hx : Ext w w') : EnsAt w' A n l :=
  ⟨h.1, fun k X hX => by
    obtain ⟨g, off, AN, cN, AM, cM, EL, cEL, ED, cED, EO, cEO, hA, hg, hc, he⟩ := h.2 k X hX
    exact ⟨g, off, AN, cN, AM, cM, EL, cEL, ED, cED, EO, cEO, hA, Nat.lt_of_lt_of_le hg hx.size, fun j u hj => (hx.cell (p := ⟨g, off + k * 16 + j, none⟩) hg).trans (hc j u hj), he.ext hx⟩⟩
/-- bounds behind k entries -/
structure Bd (k : Nat) (s : Sn) : Prop where
  l : s.L.length ≤ k
  d : s.D.length ≤ 10 * k
  o : s.O.length ≤ k
  m : ∀ x ∈ s.O, x.mv.length ≤ 10 ∧ 0 ≤ x.d ∧ x.d ≤ k
structure BdX (k : Nat) (X : En) : Prop where
  v : X.E.mv.length ≤ 10
  l : X.L.length ≤ k
  d : X.D.length ≤ 10 * k
  o : X.O.length ≤ k
  m : ∀ x ∈ X.O, x.mv.length ≤ 10 ∧ 0 ≤ x.d ∧ x.d ≤ k
theorem Bd.pre {k : Nat} {s : Sn} {X : En} (h : Bd k s) (hX : BdX k X) (hk : k ≤ 80) : OnPre s X :=
  ⟨by have := h.l; omega, by have := h.d; omega, by have := h.o; omega, fun x hx => by have := (h.m x hx).1; omega, fun x hx => by have := (h.m x hx).2; omega, by have := hX.l; omega, by have := hX.d; omega, by have := hX.o; omega, fun x hx => by have := (hX.m x hx).1; omega, by have := hX.v; omega⟩
theorem Bd.zero (k : Nat) : Bd k sn0 := ⟨by simp [sn0], by simp [sn0], by simp [sn0], by simp [sn0]⟩
theorem filter_or_len {α : Type} (p q : α → Bool) : ∀ R : List α, (R.filter fun x => p x || q x).length ≤ (R.filter p).length + (R.filter q).length
  | [] => by simp
  | x :: R => by
    have ih := filter_or_len p q R
    simp only [List.filter_cons]
    cases p x <;> cases q x <;> simp <;> omega
theorem filter_eq_len (a : Int) : ∀ R : List Int, R.Nodup → (R.filter fun x => decide (x = a)).length ≤ 1
  | [], _ => by simp
  | x :: R, h => by
    obtain ⟨h1, h2⟩ := List.nodup_cons.1 h
    simp only [List.filter_cons]
    by_cases e : x = a
    · subst e
      have e0 : R.filter (fun y => decide (y = x)) = [] := by
        rw [List.filter_eq_nil_iff]
        intro y hy hyx
        have : y = x := of_decide_eq_true hyx
        subst this
        exact h1 hy
      simp [e0]
    · have ih := filter_eq_len a R h2
      simp [e, ih]
theorem filter_mem_len (R : List Int) (hR : R.Nodup) : ∀ L : List Int, (R.filter fun n => decide (n ∈ L)).length ≤ L.length
  | [] => by simp
  | a :: L => by
    have ih := filter_mem_len R hR L
    have h1 := filter_eq_len a R hR
    have h2 := filter_or_len (fun x => decide (x = a)) (fun n => decide (n ∈ L)) R
    have e : (R.filter fun n => decide (n ∈ a :: L)) = R.filter fun x => decide (x = a) || decide (x ∈ L) := by
      congr 1
      funext n
      simp
    rw [e, List.length_cons]
    omega
theorem pages_nodup : (((List.range 32).map Int.ofNat) : List Int).Nodup := by decide
theorem pagesOf_len2 (L : List Int) : (pagesOf L).length ≤ L.length := filter_mem_len _ pages_nodup L
theorem touchL_len (kind a0 b0 : Int) (mv : List Mv) (h : mv.length ≤ 10) : (touchL kind a0 b0 mv).length ≤ 10 := by
  unfold touchL
  split
  · simp
  · split
    · simp
    · split
      · simpa using h
      · simp
theorem liveN_len (L : List Lv) (kind t nx lsn : Int) : (liveN L kind t nx lsn).length ≤ L.length + 1 := by
  have h1 : (liveI L t).length ≤ L.length + 1 := by
    unfold liveI
    split
    · omega
    · rw [putN_len _ _ _ (findN_le L t)]
      exact Nat.le_refl _
  unfold liveN
  split
  · simpa using h1
  · exact h1
theorem Bd.on {k : Nat} {s : Sn} {X : En} (h : Bd k s) (hX : BdX k X) (lsn : Int) : Bd (k + 1) (onN s X lsn) := by
  have hw : (swN s X lsn).L.length ≤ k + 1 ∧ (swN s X lsn).D.length ≤ 10 * k ∧ (swN s X lsn).O.length ≤ k + 1 ∧ ∀ x ∈ (swN s X lsn).O, x.mv.length ≤ 10 ∧ 0 ≤ x.d ∧ x.d ≤ ((k + 1 : Nat) : Int) := by
    have hm : ∀ x ∈ s.O, x.mv.length ≤ 10 ∧ 0 ≤ x.d ∧ x.d ≤ ((k + 1 : Nat) : Int) := fun x hx => by have := h.m x hx; omega
    have hl := h.l
    have hd := h.d
    have ho := h.o
    unfold swN
    split
    · exact ⟨by have := liveN_len s.L X.E.kind X.E.t X.E.nx lsn; simp only []; omega, hd, by simp only []; omega, hm⟩
    · split
      · refine ⟨?_, hd, by simp only []; omega, hm⟩
        unfold endN
        split
        · simp only [List.length_append, List.length_take, List.length_drop]; omega
        · (show s.L.length ≤ k + 1; omega)
      · split
        · refine ⟨by simp only []; omega, hd, by simp only [List.length_append, List.length_cons, List.length_nil]; omega, fun x hx => ?_⟩
          simp only [List.mem_append, List.mem_singleton] at hx
          rcases hx with hx | rfl
          · exact hm x hx
          · exact ⟨hX.v, by simp only []; omega, by simp only []; omega⟩
        · split
          · refine ⟨by simp only []; omega, hd, ?_, ?_⟩
            · unfold moveN
              split
              · split
                · simp only [List.length_set]; omega
                · (show s.O.length ≤ k + 1; omega)
              · (show s.O.length ≤ k + 1; omega)
            · intro x hx
              unfold moveN at hx
              split at hx
              · split at hx
                · rename_i i _ y hy
                  rcases List.mem_or_eq_of_mem_set hx with hx | rfl
                  · exact hm x hx
                  · have := h.m y (List.mem_of_getElem? hy)
                    exact ⟨this.1, by simp only []; omega, by simp only []; omega⟩
                · exact hm x hx
              · exact hm x hx
          · split
            · refine ⟨by simp only []; omega, hd, ?_, ?_⟩
              · unfold doneN
                split
                · simp only [List.length_append, List.length_take, List.length_drop]; omega
                · (show s.O.length ≤ k + 1; omega)
              · intro x hx
                unfold doneN at hx
                split at hx
                · rcases List.mem_append.1 hx with hx | hx
                  · exact hm x (List.mem_of_mem_take hx)
                  · exact hm x (List.mem_of_mem_drop hx)
                · exact hm x hx
            · split
              · exact ⟨by simp only []; omega, hd, by simp only []; omega, hm⟩
              · split
                · exact ⟨by have := hX.l; simp only []; omega, hX.d, by have := hX.o; simp only []; omega, fun x hx => by have := hX.m x hx; omega⟩
                · exact ⟨by omega, hd, by omega, hm⟩
  refine ⟨hw.1, ?_, hw.2.2.1, hw.2.2.2⟩
  have h1 := fold_len lsn (pagesOf (touchL X.E.kind X.E.a0 X.E.b0 X.E.mv)) (swN s X lsn).D
  have h2 := pagesOf_len2 (touchL X.E.kind X.E.a0 X.E.b0 X.E.mv)
  have h3 := touchL_len X.E.kind X.E.a0 X.E.b0 X.E.mv hX.v
  have h4 := hw.2.1
  unfold onN
  simp only []
  omega
theorem Bd.run {l : List En} {lsn : Int} {m : Nat} (hX : ∀ k X, l[k]? = some X → BdX (m + k) X) : ∀ k, k ≤ l.length → Bd (m + k) (seenN sn0 (l.take k) lsn)
  | 0, _ => Bd.zero _
  | k + 1, hk => by
    obtain ⟨X, hx⟩ : ∃ X, l[k]? = some X := ⟨_, List.getElem?_eq_getElem (by omega)⟩
    rw [seenN_take hx]
    exact (Bd.run hX k (by omega)).on (hX k X hx) _
end Go.Proofs.Ytaijgnhkdbdfcaa
