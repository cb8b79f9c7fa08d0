/- Look, the plain law of marks: who begins at the last mark sees, but for the dirty pages, what one sees from the front on. -/
import Derived.Test.YtaijgnhkdbdfcaaLookY
namespace Go.Proofs.Ytaijgnhkdbdfcaa
set_option linter.unusedVariables false

/-- the same, but for the dirty pages -/
def Eq4 (s t : Sn) : Prop := s.L = t.L ∧ s.O = t.O ∧ s.u = t.u ∧ s.h = t.h
theorem Eq4.refl (s : Sn) : Eq4 s s := ⟨rfl, rfl, rfl, rfl⟩
theorem Eq4.on {s t : Sn} (h : Eq4 s t) (X : En) (lsn : Int) : Eq4 (onN s X lsn) (onN t X lsn) := by
  obtain ⟨h1, h2, h3, h4⟩ := h
  show Eq4 (swN s X lsn) (swN t X lsn)
  unfold swN
  split
  · exact ⟨by rw [h1], h2, h3, h4⟩
  · split
    · exact ⟨by rw [h1], h2, h3, h4⟩
    · split
      · exact ⟨h1, by rw [h2], by rw [h3], h4⟩
      · split
        · exact ⟨h1, by rw [h2], h3, h4⟩
        · split
          · exact ⟨h1, by rw [h2], h3, h4⟩
          · split
            · exact ⟨h1, h2, h3, rfl⟩
            · split
              · exact Eq4.refl _
              · exact ⟨h1, h2, h3, h4⟩
theorem Eq4.run : ∀ (l : List En) {s t : Sn} (lsn : Int), Eq4 s t → Eq4 (seenN s l lsn) (seenN t l lsn)
  | [], _, _, _, h => h
  | X :: l, _, _, lsn, h => Eq4.run l (lsn + 1) (h.on X lsn)
theorem Eq4.mark (s t : Sn) (X : En) (lsn : Int) (h9 : X.E.kind = 9) : Eq4 (onN s X lsn) (onN t X lsn) := by
  show Eq4 (swN s X lsn) (swN t X lsn)
  unfold swN
  rw [h9]
  exact Eq4.refl _
theorem lateF_at {l : List En} : ∀ {n m : Nat}, lateF l n = m + 1 → ∃ X, l[m]? = some X ∧ X.E.kind = 9
  | 0, m, h => by simp [lateF] at h
  | n + 1, m, h => by
    unfold lateF at h
    cases hx : l[n]? with
    | none => rw [hx] at h; cases h
    | some X =>
      rw [hx] at h
      simp only [] at h
      by_cases h9 : X.E.kind = 9
      · rw [if_pos h9] at h
        have : m = n := by omega
        subst this
        exact ⟨X, hx, h9⟩
      · rw [if_neg h9] at h
        exact lateF_at h
theorem seenN_app : ∀ (a b : List En) (s : Sn) (lsn : Int), seenN s (a ++ b) lsn = seenN (seenN s a lsn) b (lsn + (a.length : Int))
  | [], b, s, lsn => by simp [seenN]
  | X :: a, b, s, lsn => by
    simp only [List.cons_append, seenN, List.length_cons]
    rw [seenN_app a b]
    congr 1
    push_cast
    omega
theorem late_eq (l : List En) : Eq4 (seenN sn0 l 1) (lateS l) := by
  unfold lateS
  cases h : lateF l l.length with
  | zero => exact Eq4.refl _
  | succ m =>
    obtain ⟨X, hx, h9⟩ := lateF_at h
    have hm := (List.getElem?_eq_some_iff.1 hx).1
    have e : l.drop m = X :: l.drop (m + 1) := by
      rw [List.drop_eq_getElem_cons hm]
      congr 1
      exact (List.getElem?_eq_some_iff.1 hx).2
    have e2 : seenN sn0 l 1 = seenN (seenN sn0 (l.take m) 1) (l.drop m) (1 + (m : Int)) := by
      conv => lhs; rw [← List.take_append_drop m l]
      rw [seenN_app, List.length_take, Nat.min_eq_left (by omega)]
    rw [if_neg (by omega), e2, Nat.add_sub_cancel, e, show ((m + 1 : Nat) : Int) = 1 + (m : Int) by push_cast; omega]
    exact Eq4.run (l.drop (m + 1)) (1 + (m : Int) + 1) (Eq4.mark _ _ X _ h9)
end Go.Proofs.Ytaijgnhkdbdfcaa
