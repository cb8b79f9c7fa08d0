/- ModelAll: rows that rise, in plain Lean: where a key is, and what comes of a row put there, turned, taken away. -/
import Derived.Test.YtjjilaanlhpogaaModelP
namespace Go.Proofs.Ytjjilaanlhpogaa
open Go.ChangeShapes Go.WideShapes Go.ChangeAt Go.RowKit Go.Maps Go.MapKept Go.Sort
set_option linter.unusedVariables false

/-- a name's letters -/
def nm (x : ByteArray) : List UInt8 := x.data.toList
theorem nm_inj {x y : ByteArray} (h : nm x = nm y) : x = y := by
  unfold nm at h
  rw [← bt_of x, ← bt_of y, h]
/-- a list of rows is a table's, rising -/
structure Rep (f : ByteArray → Option Rw) (R : List Rw) : Prop where
  up : R.Pairwise (fun a b => nm a.k < nm b.k)
  mem : ∀ r, r ∈ R ↔ f r.k = some r
def Kd (f : ByteArray → Option Rw) : Prop := ∀ x r, f x = some r → r.k = x
theorem up_same {A : List Rw} : ∀ {B : List Rw}, A.Pairwise (fun a b => nm a.k < nm b.k) → B.Pairwise (fun a b => nm a.k < nm b.k) → (∀ r, r ∈ A ↔ r ∈ B) → A = B := by
  induction A with
  | nil =>
    intro B _ _ h
    cases B with
    | nil => rfl
    | cons b B => exact absurd ((h b).2 (List.mem_cons_self ..)) (List.not_mem_nil)
  | cons a A ih =>
    intro B hA hB h
    cases B with
    | nil => exact absurd ((h a).1 (List.mem_cons_self ..)) (List.not_mem_nil)
    | cons b B =>
      rw [List.pairwise_cons] at hA hB
      have e : a = b := by
        rcases List.mem_cons.1 ((h a).1 (List.mem_cons_self ..)) with e | e
        · exact e
        · rcases List.mem_cons.1 ((h b).2 (List.mem_cons_self ..)) with e' | e'
          · exact e'.symm
          · exact absurd (List.lt_trans (hA.1 b e') (hB.1 a e)) (List.lt_irrefl _)
      subst e
      congr 1
      refine ih hA.2 hB.2 fun r => ⟨fun hr => ?_, fun hr => ?_⟩
      · rcases List.mem_cons.1 ((h r).1 (List.mem_cons_of_mem _ hr)) with e | e
        · subst e; exact absurd (hA.1 _ hr) (List.lt_irrefl _)
        · exact e
      · rcases List.mem_cons.1 ((h r).2 (List.mem_cons_of_mem _ hr)) with e | e
        · subst e; exact absurd (hB.1 _ hr) (List.lt_irrefl _)
        · exact e
theorem Rep.same {f : ByteArray → Option Rw} {R S : List Rw} (h : Rep f R) (h' : Rep f S) : R = S := up_same h.up h'.up fun r => (h.mem r).trans (h'.mem r).symm
theorem rep_rows {f : ByteArray → Option Rw} {L : List (List UInt8)} (h : Keys f L) (hk : Kd f) : Rep f (rowsL f L) := by
  have at_ : ∀ l, l ∈ L → ∃ r, f (bt l) = some r ∧ (f (bt l)).getD r0 = r ∧ r.k = bt l := fun l hl => by
    obtain ⟨r, hr⟩ := Option.isSome_iff_exists.1 ((h.2 l).1 hl)
    exact ⟨r, hr, by rw [hr]; rfl, hk _ _ hr⟩
  constructor
  · unfold rowsL
    rw [List.pairwise_map]
    refine (h.1.1.and h.1.2).imp_of_mem fun {a b} ha hb hab => ?_
    obtain ⟨r, _, e1, k1⟩ := at_ a ha
    obtain ⟨s, _, e2, k2⟩ := at_ b hb
    rw [e1, e2, k1, k2]
    show (bt a).data.toList < (bt b).data.toList
    rw [bt_data, bt_data]
    have hle : a ≤ b := of_decide_eq_true hab.1
    rcases Decidable.em (a < b) with h1 | h1
    · exact h1
    · exact absurd (List.le_antisymm hle (List.not_lt.1 h1)) hab.2
  · intro r
    unfold rowsL
    rw [List.mem_map]
    constructor
    · rintro ⟨l, hl, rfl⟩
      obtain ⟨r, h1, e1, k1⟩ := at_ l hl
      rw [e1, k1, h1]
    · intro hr
      have hm : r.k.data.toList ∈ L := (h.2 _).2 (by rw [bt_of, hr]; rfl)
      exact ⟨_, hm, by rw [bt_of, hr]; rfl⟩
theorem Rep.nil : Rep (fun _ => none) [] := ⟨List.Pairwise.nil, fun r => ⟨fun h => absurd h List.not_mem_nil, fun h => by cases h⟩⟩
/-- where a key is, or would be -/
def At (R : List Rw) (x : ByteArray) (k : Nat) : Prop := k ≤ R.length ∧ (∀ j r, j < k → R[j]? = some r → nm r.k < nm x) ∧ (∀ r, R[k]? = some r → ¬ nm r.k < nm x)
/-- what is ahead, there, and behind -/
structure Cut (f : ByteArray → Option Rw) (R : List Rw) (x : ByteArray) (k : Nat) (A B : List Rw) : Prop where
  all : R = A ++ ((f x).toList ++ B)
  len : A.length = k
  lo : ∀ a ∈ A, nm a.k < nm x
  hi : ∀ b ∈ B, nm x < nm b.k
theorem lt_of_not {a b : List UInt8} (h : ¬ a < b) (hne : a ≠ b) : b < a := by
  have hle : b ≤ a := List.not_lt.1 h
  rcases Decidable.em (b < a) with h1 | h1
  · exact h1
  · exact absurd (List.le_antisymm (List.not_lt.1 h1) hle) hne
theorem Rep.cut {f : ByteArray → Option Rw} {R : List Rw} (h : Rep f R) (hk : Kd f) {x : ByteArray} {k : Nat} (ha : At R x k) : ∃ A B, Cut f R x k A B := by
  obtain ⟨h0, h1, h2⟩ := ha
  have lo : ∀ a ∈ R.take k, nm a.k < nm x := fun a ha => by
    obtain ⟨j, hj, e⟩ := List.mem_iff_getElem.1 ha
    rw [List.getElem_take] at e
    rw [List.length_take] at hj
    exact h1 j a (by omega) (by rw [← e]; exact List.getElem?_eq_getElem _)
  have hA : (R.take k).length = k := by rw [List.length_take]; omega
  have e0 : R = R.take k ++ R.drop k := (List.take_append_drop k R).symm
  have mem := h.mem
  have up := h.up
  rcases hd : R.drop k with _ | ⟨r, B⟩
  · refine ⟨R.take k, [], ?_, hA, lo, fun b hb => absurd hb List.not_mem_nil⟩
    rw [hd, List.append_nil] at e0
    have hf : f x = none := by
      rcases hf : f x with _ | o
      · rfl
      · have ek := hk _ _ hf
        have := lo o (by rw [← e0]; exact (mem o).2 (by rw [ek]; exact hf))
        rw [ek] at this
        exact absurd this (List.lt_irrefl _)
    rw [hf]
    simpa using e0
  · rw [hd] at e0
    have hr : R[k]? = some r := by rw [e0, List.getElem?_append_right (by omega), hA]; simp
    have n1 := h2 r hr
    rw [e0, List.pairwise_append, List.pairwise_cons] at up
    have hB : ∀ b ∈ B, nm r.k < nm b.k := up.2.1.1
    have hrf : f r.k = some r := (mem r).1 (List.mem_of_getElem? hr)
    by_cases e : nm r.k = nm x
    · have e' := nm_inj e
      refine ⟨R.take k, B, ?_, hA, lo, fun b hb => by rw [← e]; exact hB b hb⟩
      rw [← e', hrf]
      exact e0
    · have gt := lt_of_not n1 e
      refine ⟨R.take k, r :: B, ?_, hA, lo, fun b hb => ?_⟩
      · have hf : f x = none := by
          rcases hf : f x with _ | o
          · rfl
          · have ek := hk _ _ hf
            have hm : o ∈ R := (mem o).2 (by rw [ek]; exact hf)
            rw [e0, List.mem_append, List.mem_cons] at hm
            rcases hm with hm | rfl | hm
            · have := lo o hm; rw [ek] at this; exact absurd this (List.lt_irrefl _)
            · exact absurd (congrArg nm ek) e
            · have := List.lt_trans gt (hB o hm); rw [ek] at this; exact absurd this (List.lt_irrefl _)
        rw [hf]
        exact e0
      · rcases List.mem_cons.1 hb with rfl | hb
        · exact gt
        · exact List.lt_trans gt (hB b hb)
section
variable {f : ByteArray → Option Rw} {R A B : List Rw} {x : ByteArray} {k : Nat}
theorem Cut.take (h : Cut f R x k A B) : R.take k = A := by rw [h.all, ← h.len]; simp
theorem Cut.drop (h : Cut f R x k A B) : R.drop k = (f x).toList ++ B := by rw [h.all, ← h.len]; simp
theorem Cut.found (h : Cut f R x k A B) {o : Rw} (ho : f x = some o) : R[k]? = some o ∧ k < R.length ∧ R.drop (k + 1) = B := by
  have e := h.all
  rw [ho] at e
  refine ⟨?_, ?_, ?_⟩
  · rw [e, List.getElem?_append_right (by rw [h.len]; omega), h.len]; simp
  · rw [e]; simp [h.len]
  · rw [e, ← h.len, ← List.drop_drop, List.drop_left]; rfl
theorem Cut.none (h : Cut f R x k A B) (ho : f x = none) (hk : ∀ r, R[k]? = some r → r.k ≠ x) : True := trivial
theorem Cut.lost (h : Cut f R x k A B) (ho : f x = Option.none) : ∀ r, R[k]? = some r → r.k ≠ x := fun r hr e => by
  have e0 := h.all
  rw [ho] at e0
  rw [e0, List.getElem?_append_right (by rw [h.len]; omega), h.len] at hr
  have := h.hi r (List.mem_of_getElem? (by simpa using hr))
  rw [e] at this
  exact absurd this (List.lt_irrefl _)
/-- another row at the key, or none -/
theorem Cut.put (h : Cut f R x k A B) (hr : Rep f R) (hk : Kd f) {o : Option Rw} (ho : ∀ r, o = some r → r.k = x) : Rep (putR f x o) (A ++ (o.toList ++ B)) := by
  have up := hr.up
  rw [h.all, List.pairwise_append, List.pairwise_append] at up
  constructor
  · rw [List.pairwise_append, List.pairwise_append]
    refine ⟨up.1, ⟨?_, up.2.1.2.1, fun a ha b hb => ?_⟩, fun a ha b hb => ?_⟩
    · cases o with
      | none => exact List.Pairwise.nil
      | some r => simp
    · rw [Option.mem_toList] at ha
      rw [ho a ha]
      exact h.hi b hb
    · rcases List.mem_append.1 hb with hb | hb
      · rw [Option.mem_toList] at hb
        rw [ho b hb]
        exact h.lo a ha
      · exact List.lt_trans (h.lo a ha) (h.hi b hb)
  · intro r
    have m := hr.mem r
    rw [h.all] at m
    simp only [List.mem_append, Option.mem_toList] at m ⊢
    unfold putR
    by_cases e : r.k = x
    · rw [if_pos e]
      constructor
      · rintro (hm | hm | hm)
        · have := h.lo r hm; rw [e] at this; exact absurd this (List.lt_irrefl _)
        · exact hm
        · have := h.hi r hm; rw [e] at this; exact absurd this (List.lt_irrefl _)
      · exact fun hm => .inr (.inl hm)
    · rw [if_neg e]
      rw [← m]
      constructor
      · rintro (hm | hm | hm)
        · exact .inl hm
        · exact absurd (ho r hm) e
        · exact .inr (.inr hm)
      · rintro (hm | hm | hm)
        · exact .inl hm
        · exact absurd (hk _ _ hm) e
        · exact .inr (.inr hm)
theorem Cut.scan (h : Cut f R x k A B) (hk : Kd f) {q : Rw} (hq : q.k = x) : (R.filter fun r => geK r q) = R.drop k := by
  rw [h.drop, h.all, List.filter_append]
  have e1 : A.filter (fun r => geK r q) = [] := by
    rw [List.filter_eq_nil_iff]
    intro a ha
    unfold geK
    rw [hq, decide_eq_true_eq]
    exact List.not_le.2 (h.lo a ha)
  rw [e1, List.nil_append, List.filter_eq_self]
  intro b hb
  unfold geK
  rw [hq, decide_eq_true_eq]
  rcases List.mem_append.1 hb with hb | hb
  · rw [Option.mem_toList] at hb
    rw [hk _ _ hb]
    exact List.le_refl _
  · exact List.le_of_lt (h.hi b hb)
end
theorem kd_put {f : ByteArray → Option Rw} {x : ByteArray} {o : Option Rw} (h : Kd f) (ho : ∀ r, o = some r → r.k = x) : Kd (putR f x o) := fun y r hr => by
  unfold putR at hr
  by_cases e : y = x
  · rw [if_pos e] at hr; rw [e]; exact ho r hr
  · rw [if_neg e] at hr; exact h y r hr
end Go.Proofs.Ytjjilaanlhpogaa
