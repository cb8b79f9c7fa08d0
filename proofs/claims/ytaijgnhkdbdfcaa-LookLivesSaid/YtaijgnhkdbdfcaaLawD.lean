/- Look, the plain law of dirty pages: the list stands for a table of 32 numbers. -/
import Derived.Test.YtaijgnhkdbdfcaaLookW
namespace Go.Proofs.Ytaijgnhkdbdfcaa
set_option linter.unusedVariables false

def updN (r : Nat → Int) (p : Nat) (v : Int) : Nat → Int := fun k => if k = p then v else r k
/-- a page is noted in the table -/
def recS (r : Nat → Int) (p : Nat) (lsn : Int) : Nat → Int := if r p = 0 then updN r p lsn else r
def tabL (r : Nat → Int) (l : List Nat) : List Dt := (l.filter fun (k : Nat) => decide (r k ≠ 0)).map fun (k : Nat) => (⟨(k : Int), r k⟩ : Dt)
def tabD (r : Nat → Int) : List Dt := tabL r (List.range 32)
theorem tabL_app (r : Nat → Int) (a b : List Nat) : tabL r (a ++ b) = tabL r a ++ tabL r b := by simp [tabL]
theorem tabL_cons (r : Nat → Int) (k : Nat) (b : List Nat) : tabL r (k :: b) = (if r k = 0 then [] else [⟨(k : Int), r k⟩]) ++ tabL r b := by
  unfold tabL
  by_cases h : r k = 0 <;> simp [h]
theorem tabL_mem {r : Nat → Int} {l : List Nat} {x : Dt} (h : x ∈ tabL r l) : ∃ k ∈ l, x = ⟨(k : Int), r k⟩ := by
  obtain ⟨k, hk, rfl⟩ := List.mem_map.1 h
  exact ⟨k, (List.mem_filter.1 hk).1, rfl⟩
theorem tabL_congr {r r' : Nat → Int} {l : List Nat} (h : ∀ k ∈ l, r k = r' k) : tabL r l = tabL r' l := by
  induction l with
  | nil => rfl
  | cons k l ih =>
    rw [tabL_cons, tabL_cons, h k List.mem_cons_self, ih fun j hj => h j (List.mem_cons_of_mem _ hj)]
theorem findD_app : ∀ (A C : List Dt) (n : Int), (∀ a ∈ A, a.p < n) → (∀ c ∈ C, ¬ c.p < n) → findD (A ++ C) n = A.length
  | [], [], n, _, _ => rfl
  | [], c :: C, n, _, h => by
    have := h c List.mem_cons_self
    simp [findD, this]
  | a :: A, C, n, ha, h => by
    have h0 := ha a List.mem_cons_self
    have ih := findD_app A C n (fun x hx => ha x (List.mem_cons_of_mem _ hx)) h
    simp [findD, h0, ih]
theorem dirty_new (A C : List Dt) (n lsn : Int) (ha : ∀ a ∈ A, a.p < n) (hc : ∀ c ∈ C, n < c.p) : dirtyN (A ++ C) n lsn = A ++ ⟨n, lsn⟩ :: C := by
  have hf := findD_app A C n ha (fun c hm => by have := hc c hm; omega)
  unfold dirtyN putD
  rw [hf, List.take_left, List.drop_left]
  cases C with
  | nil => simp
  | cons c C =>
    rw [List.getElem?_append_right (Nat.le_refl _), Nat.sub_self]
    have := hc c List.mem_cons_self
    simp only [List.getElem?_cons_zero]
    rw [if_neg (by omega)]
theorem dirty_old (A C : List Dt) (c : Dt) (n lsn : Int) (ha : ∀ a ∈ A, a.p < n) (hc : ∀ c ∈ C, n < c.p) (he : c.p = n) : dirtyN (A ++ c :: C) n lsn = A ++ c :: C := by
  have hf := findD_app A (c :: C) n ha (fun x hm => by
    rcases List.mem_cons.1 hm with rfl | hm
    · omega
    · have := hc x hm; omega)
  unfold dirtyN
  rw [hf, List.getElem?_append_right (Nat.le_refl _), Nat.sub_self]
  simp only [List.getElem?_cons_zero]
  rw [if_pos he]
theorem range_split (p : Nat) (hp : p < 32) : ∃ B, List.range 32 = List.range p ++ p :: B ∧ (∀ k ∈ B, p < k) := by
  refine ⟨List.range' (p + 1) (31 - p), ?_, fun k hk => by rw [List.mem_range'_1] at hk; omega⟩
  rw [List.range_eq_range', List.range_eq_range', show (32 : Nat) = p + (31 - p + 1) by omega, ← List.range'_append_1, Nat.zero_add, List.range'_succ]
theorem dirtyN_tab (r : Nat → Int) (p : Nat) (lsn : Int) (hp : p < 32) (hl : lsn ≠ 0) : dirtyN (tabD r) (p : Int) lsn = tabD (recS r p lsn) := by
  obtain ⟨B, e, hB⟩ := range_split p hp
  have h1 : ∀ a ∈ tabL r (List.range p), a.p < (p : Int) := fun a ha => by
    obtain ⟨k, hk, rfl⟩ := tabL_mem ha
    have := List.mem_range.1 hk
    simp only []
    omega
  have h2 : ∀ a ∈ tabL r B, (p : Int) < a.p := fun a ha => by
    obtain ⟨k, hk, rfl⟩ := tabL_mem ha
    have := hB k hk
    simp only []
    omega
  unfold tabD
  rw [e, tabL_app, tabL_app, tabL_cons, tabL_cons]
  unfold recS
  by_cases h0 : r p = 0
  · rw [if_pos h0, if_pos h0, List.nil_append, dirty_new _ _ _ _ h1 h2]
    have e1 : tabL (updN r p lsn) (List.range p) = tabL r (List.range p) := tabL_congr fun k hk => by
      have := List.mem_range.1 hk
      exact if_neg (by omega)
    have e2 : tabL (updN r p lsn) B = tabL r B := tabL_congr fun k hk => by
      have := hB k hk
      exact if_neg (by omega)
    have e3 : updN r p lsn p = lsn := if_pos rfl
    rw [e1, e2, e3, if_neg hl]
    rfl
  · rw [if_neg h0, if_neg h0]
    show dirtyN (tabL r (List.range p) ++ ⟨(p : Int), r p⟩ :: tabL r B) (p : Int) lsn = _
    rw [dirty_old _ _ _ _ _ h1 h2 rfl, if_neg h0]
    rfl
/-- pages are noted one by one -/
def recP (r : Nat → Int) (T : List Nat) (lsn : Int) : Nat → Int := T.foldl (fun r p => recS r p lsn) r
theorem recP_val : ∀ (T : List Nat) (r : Nat → Int) (lsn : Int), lsn ≠ 0 → ∀ k, recP r T lsn k = if r k = 0 ∧ k ∈ T then lsn else r k
  | [], r, lsn, _, k => by simp [recP]
  | p :: T, r, lsn, hl, k => by
    have ih := recP_val T (recS r p lsn) lsn hl k
    have e : recP r (p :: T) lsn = recP (recS r p lsn) T lsn := rfl
    rw [e, ih]
    unfold recS
    by_cases hp : r p = 0
    · rw [if_pos hp]
      unfold updN
      by_cases hk : k = p
      · subst hk
        simp [hp, hl]
      · simp [hk]
    · rw [if_neg hp]
      by_cases hk : k = p
      · subst hk
        simp [hp]
      · simp [hk]
theorem fold_tab (lsn : Int) (hl : lsn ≠ 0) : ∀ (T : List Nat) (r : Nat → Int), (∀ p ∈ T, p < 32) → (T.map fun (p : Nat) => (p : Int)).foldl (fun D n => dirtyN D n lsn) (tabD r) = tabD (recP r T lsn)
  | [], r, _ => rfl
  | p :: T, r, h => by
    have ih := fold_tab lsn hl T (recS r p lsn) (fun q hq => h q (List.mem_cons_of_mem _ hq))
    show (T.map fun (p : Nat) => (p : Int)).foldl _ (dirtyN (tabD r) (p : Int) lsn) = _
    rw [dirtyN_tab r p lsn (h p List.mem_cons_self) hl, ih]
    rfl
/-- the pages of an entry, noted in their order, are those of its list -/
theorem pages_tab (T : List Nat) (hT : ∀ p ∈ T, p < 32) (r : Nat → Int) (lsn : Int) (hl : lsn ≠ 0) : (pagesOf (T.map fun (p : Nat) => (p : Int))).foldl (fun D n => dirtyN D n lsn) (tabD r) = tabD (recP r T lsn) := by
  have e : pagesOf (T.map fun (p : Nat) => (p : Int)) = ((List.range 32).filter fun k => decide (k ∈ T)).map fun (p : Nat) => (p : Int) := by
    unfold pagesOf
    rw [List.filter_map]
    congr 1
    apply List.filter_congr
    intro k _
    simp only [Function.comp_def, List.mem_map]
    congr 1
    apply propext
    constructor
    · rintro ⟨a, ha, e⟩
      have : a = k := by have e' : (a : Int) = (k : Int) := e; omega
      rw [← this]
      exact ha
    · intro h
      exact ⟨k, h, rfl⟩
  rw [e, fold_tab lsn hl _ r (fun p hp => hT p (by simpa using (List.mem_filter.1 hp).2))]
  congr 1
  funext k
  rw [recP_val _ _ _ hl, recP_val _ _ _ hl]
  by_cases hk : k ∈ T
  · have := hT k hk
    simp [hk, this]
  · simp [hk]
end Go.Proofs.Ytaijgnhkdbdfcaa
