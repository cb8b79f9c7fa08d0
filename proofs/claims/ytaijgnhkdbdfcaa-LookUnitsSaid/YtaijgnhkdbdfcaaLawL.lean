/- Look, the plain law of those who live: a list that rises stands for a table; what an entry turns of it. -/
import Derived.Test.YtaijgnhkdbdfcaaLookW
namespace Go.Proofs.Ytaijgnhkdbdfcaa
set_option linter.unusedVariables false

/-- the list rises and holds what the table says -/
def Rep (L : List Lv) (f : Int → Option Lv) : Prop := L.Pairwise (fun a b => a.t < b.t) ∧ (∀ x, x ∈ L ↔ f x.t = some x) ∧ (∀ t x, f t = some x → x.t = t)
def upd {α : Type} (f : Int → α) (t : Int) (v : α) : Int → α := fun u => if u = t then v else f u
theorem upd_same {α : Type} (f : Int → α) (t : Int) (v : α) : upd f t v t = v := if_pos rfl
theorem upd_ne {α : Type} (f : Int → α) {t u : Int} (v : α) (h : u ≠ t) : upd f t v u = f u := if_neg h
theorem Rep.nil : Rep [] (fun _ => none) := ⟨List.Pairwise.nil, fun x => by simp, fun t x h => by cases h⟩
theorem findN_split : ∀ (L : List Lv) (t : Int), L.Pairwise (fun a b => a.t < b.t) → ∃ A B, L = A ++ B ∧ A.length = (findN L t).1 ∧ (∀ a ∈ A, a.t < t) ∧ (∀ b ∈ B, t ≤ b.t) ∧ (((findN L t).2 = true ∧ ∃ x B', B = x :: B' ∧ x.t = t ∧ ∀ b ∈ B', t < b.t) ∨ ((findN L t).2 = false ∧ ∀ b ∈ B, t < b.t))
  | [], t, _ => ⟨[], [], rfl, rfl, by simp, by simp, .inr ⟨rfl, by simp⟩⟩
  | x :: L, t, h => by
    obtain ⟨h1, h2⟩ := List.pairwise_cons.1 h
    by_cases hx : x.t < t
    · obtain ⟨A, B, e, hl, ha, hb, hc⟩ := findN_split L t h2
      have ef : findN (x :: L) t = ((findN L t).1 + 1, (findN L t).2) := by simp [findN, hx]
      rw [ef]
      refine ⟨x :: A, B, by rw [e]; rfl, by simp [hl], fun a hm => ?_, hb, hc⟩
      rcases List.mem_cons.1 hm with rfl | hm
      · exact hx
      · exact ha a hm
    · have ef : findN (x :: L) t = (0, decide (x.t = t)) := by simp [findN, hx]
      rw [ef]
      have hge : ∀ b ∈ L, t < b.t := fun b hm => by have := h1 b hm; omega
      refine ⟨[], x :: L, rfl, rfl, by simp, fun b hm => ?_, ?_⟩
      · rcases List.mem_cons.1 hm with rfl | hm
        · omega
        · have := hge b hm; omega
      · by_cases hxt : x.t = t
        · exact .inl ⟨by simpa using hxt, x, L, rfl, hxt, hge⟩
        · refine .inr ⟨by simpa using hxt, fun b hm => ?_⟩
          rcases List.mem_cons.1 hm with rfl | hm
          · omega
          · exact hge b hm
theorem rep_put {A B : List Lv} {t : Int} {y : Lv} {f : Int → Option Lv} (hs : (A ++ B).Pairwise (fun a b => a.t < b.t)) (ha : ∀ a ∈ A, a.t < t) (hb : ∀ b ∈ B, t < b.t) (hy : y.t = t) (hf : ∀ x, x.t ≠ t → (x ∈ A ++ B ↔ f x.t = some x)) (h3 : ∀ t x, f t = some x → x.t = t) : Rep (A ++ y :: B) (upd f t (some y)) := by
  obtain ⟨s1, s2, s3⟩ := List.pairwise_append.1 hs
  refine ⟨List.pairwise_append.2 ⟨s1, List.pairwise_cons.2 ⟨fun b hm => by have := hb b hm; omega, s2⟩, fun a hm b hm2 => ?_⟩, fun x => ?_, fun u x hu => ?_⟩
  · rcases List.mem_cons.1 hm2 with rfl | hm2
    · have := ha a hm; omega
    · exact s3 a hm b hm2
  · by_cases hx : x.t = t
    · rw [hx, upd_same]
      constructor
      · intro hm
        rcases List.mem_append.1 hm with hm | hm
        · have := ha x hm; omega
        · rcases List.mem_cons.1 hm with rfl | hm
          · rfl
          · have := hb x hm; omega
      · intro e
        injection e with e
        subst e
        simp
    · rw [upd_ne f _ hx, ← hf x hx]
      simp only [List.mem_append, List.mem_cons]
      constructor
      · rintro (h | rfl | h)
        · exact .inl h
        · exact absurd hy hx
        · exact .inr h
      · rintro (h | h)
        · exact .inl h
        · exact .inr (.inr h)
  · by_cases hut : u = t
    · subst hut
      rw [upd_same] at hu
      injection hu with hu
      rw [← hu]
      exact hy
    · rw [upd_ne f _ hut] at hu
      exact h3 u x hu
theorem take_app {α : Type} {A B : List α} {k : Nat} (h : A.length = k) : (A ++ B).take k = A ∧ (A ++ B).drop k = B := by
  subst h
  exact ⟨List.take_left, List.drop_left⟩
theorem liveX_t (x : Lv) (kind nx lsn : Int) : (liveX x kind nx lsn).t = x.t := by
  unfold liveX
  split
  · rfl
  · split
    · rfl
    · split <;> rfl
/-- an entry of a transaction, in the table -/
theorem Rep.live {L : List Lv} {f : Int → Option Lv} (h : Rep L f) (kind t nx lsn : Int) : Rep (liveN L kind t nx lsn) (upd f t (some (liveX ((f t).getD ⟨t, 0, 0, false⟩) kind nx lsn))) := by
  obtain ⟨A, B, e, hl, ha, hb, hc⟩ := findN_split L t h.1
  rcases hc with ⟨h2, x, B', rfl, hx, hb'⟩ | ⟨h2, hb'⟩
  · have hft : f t = some x := by
      rw [← hx]
      exact (h.2.1 x).1 (by rw [e]; simp)
    have hi : liveI L t = L := by unfold liveI; rw [h2]; rfl
    have hg : L[(findN L t).1]? = some x := by
      conv => lhs; arg 1; rw [e]
      rw [← hl, List.getElem?_append_right (Nat.le_refl _), Nat.sub_self]
      rfl
    have hN : liveN L kind t nx lsn = A ++ liveX x kind nx lsn :: B' := by
      unfold liveN
      rw [hi, hg]
      simp only []
      conv => lhs; arg 1; rw [e]
      rw [← hl, List.set_append_right _ _ (Nat.le_refl _), Nat.sub_self]
      rfl
    rw [hN, hft]
    have hs := h.1
    rw [e] at hs
    refine rep_put (List.Pairwise.sublist (List.Sublist.append_left (List.sublist_cons_self x B') A) hs) ha hb' (by rw [liveX_t]; exact hx) (fun y hy => ?_) h.2.2
    rw [← h.2.1 y, e]
    simp only [List.mem_append, List.mem_cons]
    constructor
    · rintro (h | h)
      · exact .inl h
      · exact .inr (.inr h)
    · rintro (h | rfl | h)
      · exact .inl h
      · exact absurd hx hy
      · exact .inr h
  · have hft : f t = none := by
      cases hf : f t with
      | none => rfl
      | some y =>
        exfalso
        have hyt := h.2.2 t y hf
        have := (h.2.1 y).2 (by rw [hyt]; exact hf)
        rw [e] at this
        rcases List.mem_append.1 this with hm | hm
        · have := ha y hm; omega
        · have := hb' y hm; omega
    obtain ⟨e1, e2⟩ := take_app (A := A) (B := B) hl
    have hi : liveI L t = A ++ ⟨t, 0, 0, false⟩ :: B := by
      unfold liveI putN
      rw [h2, if_neg (by decide)]
      conv => lhs; arg 1; arg 2; rw [e]
      conv => lhs; arg 2; arg 2; arg 2; rw [e]
      rw [e1, e2]
    have hN : liveN L kind t nx lsn = A ++ liveX ⟨t, 0, 0, false⟩ kind nx lsn :: B := by
      unfold liveN
      rw [hi, ← hl, List.getElem?_append_right (Nat.le_refl _), Nat.sub_self]
      simp only [List.getElem?_cons_zero]
      rw [List.set_append_right _ _ (Nat.le_refl _), Nat.sub_self]
      rfl
    rw [hN, hft]
    have hs := h.1
    rw [e] at hs
    refine rep_put hs ha hb' (by rw [liveX_t]) (fun y hy => ?_) h.2.2
    rw [← h.2.1 y, e]
/-- an end, in the table -/
theorem Rep.end_ {L : List Lv} {f : Int → Option Lv} (h : Rep L f) (t : Int) : Rep (endN L t) (upd f t none) := by
  obtain ⟨A, B, e, hl, ha, hb, hc⟩ := findN_split L t h.1
  have hu : ∀ u x, upd f t none u = some x → x.t = u := fun u x hu => by
    by_cases hut : u = t
    · subst hut
      rw [upd_same] at hu
      cases hu
    · rw [upd_ne f _ hut] at hu
      exact h.2.2 u x hu
  rcases hc with ⟨h2, x, B', rfl, hx, hb'⟩ | ⟨h2, hb'⟩
  · have hN : endN L t = A ++ B' := by
      unfold endN
      rw [h2, if_pos rfl]
      conv => lhs; arg 1; arg 2; rw [e]
      conv => lhs; arg 2; arg 2; rw [e]
      rw [← hl, List.take_left, show A ++ x :: B' = (A ++ [x]) ++ B' by simp, show A.length + 1 = (A ++ [x]).length by simp, List.drop_left]
    rw [hN]
    have hs := h.1
    rw [e] at hs
    refine ⟨List.Pairwise.sublist (List.Sublist.append_left (List.sublist_cons_self x B') A) hs, fun y => ?_, hu⟩
    by_cases hyt : y.t = t
    · rw [hyt, upd_same]
      constructor
      · intro hm
        rcases List.mem_append.1 hm with hm | hm
        · have := ha y hm; omega
        · have := hb' y hm; omega
      · intro hh; cases hh
    · rw [upd_ne f _ hyt, ← h.2.1 y, e]
      simp only [List.mem_append, List.mem_cons]
      constructor
      · rintro (h | h)
        · exact .inl h
        · exact .inr (.inr h)
      · rintro (h | rfl | h)
        · exact .inl h
        · exact absurd hx hyt
        · exact .inr h
  · have hN : endN L t = L := by unfold endN; rw [h2]; rfl
    rw [hN]
    refine ⟨h.1, fun y => ?_, hu⟩
    by_cases hyt : y.t = t
    · rw [hyt, upd_same]
      constructor
      · intro hm
        rw [e] at hm
        rcases List.mem_append.1 hm with hm | hm
        · have := ha y hm; omega
        · have := hb' y hm; omega
      · intro hh; cases hh
    · rw [upd_ne f _ hyt]
      exact h.2.1 y
/-- what an entry turns of the table -/
def onL (f : Int → Option Lv) (X : En) (lsn : Int) : Int → Option Lv :=
  if X.E.kind = 1 ∨ X.E.kind = 2 ∨ X.E.kind = 3 ∨ X.E.kind = 4 then upd f X.E.t (some (liveX ((f X.E.t).getD ⟨X.E.t, 0, 0, false⟩) X.E.kind X.E.nx lsn))
  else if X.E.kind = 5 then upd f X.E.t none else f
theorem Rep.on {s : Sn} {f : Int → Option Lv} (h : Rep s.L f) (X : En) (lsn : Int) (h9 : X.E.kind ≠ 9) : Rep (onN s X lsn).L (onL f X lsn) := by
  show Rep (swN s X lsn).L (onL f X lsn)
  unfold swN onL
  split
  · exact h.live _ _ _ _
  · split
    · exact h.end_ _
    · split
      · exact h
      · split
        · exact h
        · split
          · exact h
          · split
            · exact h
            · exact h
end Go.Proofs.Ytaijgnhkdbdfcaa
