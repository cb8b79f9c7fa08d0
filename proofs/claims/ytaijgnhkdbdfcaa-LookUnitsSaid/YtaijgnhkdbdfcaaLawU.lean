/- Look, the plain law of units: each one's entries stand together; what is open is what has not ended. -/
import Derived.Test.YtaijgnhkdbdfcaaLookY
namespace Go.Proofs.Ytaijgnhkdbdfcaa
set_option linter.unusedVariables false

def mvU (i j : Nat) : Mv := ⟨(i : Int), (j : Int), 16 + (i : Int), (j : Int)⟩
def mvsU (i k : Nat) : List Mv := (List.range k).map (mvU i)
def unitX (i k : Nat) : En := ⟨{ kind := 6, t := 0, u := (i : Int) + 1, h := 0, p := 0, nx := 0, a0 := 0, a1 := 0, b0 := 0, b1 := 0, NL := [], mv := mvsU i k }, [], [], []⟩
def moveX (i j : Nat) : En := ⟨{ kind := 7, t := 0, u := (i : Int) + 1, h := 0, p := 0, nx := 0, a0 := (i : Int), a1 := (j : Int), b0 := 16 + (i : Int), b1 := (j : Int), NL := [], mv := [] }, [], [], []⟩
def doneX (i k : Nat) : En := ⟨{ kind := 8, t := 0, u := (i : Int) + 1, h := 0, p := 0, nx := 0, a0 := 0, a1 := 0, b0 := 0, b1 := 0, NL := [], mv := mvsU i k }, [], [], []⟩
/-- how many of its moves are done -/
def dnU (b : Nat) : Nat := min (b % 4) (b / 4 % 4)
def movesU (i d : Nat) : List En := (List.range d).map (moveX i)
def entsU (i b : Nat) : List En := unitX i (b % 4) :: movesU i (dnU b) ++ (if 127 < b then [doneX i (b % 4)] else [])
def wantU (i b : Nat) : List Ou := if 127 < b then [] else [⟨(i : Int) + 1, mvsU i (b % 4), (dnU b : Int)⟩]
def allU (ns : List Nat) : Nat → List En
  | 0 => []
  | k + 1 => match ns[k]? with
    | some b => allU ns k ++ entsU k b
    | none => allU ns k
def wantL (ns : List Nat) : Nat → List Ou
  | 0 => []
  | k + 1 => match ns[k]? with
    | some b => wantL ns k ++ wantU k b
    | none => wantL ns k
theorem allU_next {ns : List Nat} {k b : Nat} (h : ns[k]? = some b) : allU ns (k + 1) = allU ns k ++ entsU k b := by
  conv => lhs; unfold allU
  rw [h]
theorem wantL_next {ns : List Nat} {k b : Nat} (h : ns[k]? = some b) : wantL ns (k + 1) = wantL ns k ++ wantU k b := by
  conv => lhs; unfold wantL
  rw [h]
theorem wantL_lt (ns : List Nat) : ∀ k, ∀ x ∈ wantL ns k, x.u ≤ (k : Int)
  | 0, x, h => by simp [wantL] at h
  | k + 1, x, h => by
    unfold wantL at h
    cases hb : ns[k]? with
    | none =>
      rw [hb] at h
      have := wantL_lt ns k x h
      omega
    | some b =>
      rw [hb] at h
      rcases List.mem_append.1 h with h | h
      · have := wantL_lt ns k x h
        omega
      · unfold wantU at h
        split at h
        · simp at h
        · simp at h
          subst h
          simp
theorem idxO_last : ∀ (O : List Ou) (x : Ou) (u : Int), (∀ y ∈ O, y.u ≠ u) → x.u = u → idxO (O ++ [x]) u = some O.length
  | [], x, u, _, hx => by simp [idxO, hx]
  | y :: O, x, u, h, hx => by
    have h0 := h y List.mem_cons_self
    have ih := idxO_last O x u (fun z hz => h z (List.mem_cons_of_mem _ hz)) hx
    simp [idxO, h0, ih]
theorem moveN_last (O : List Ou) (x : Ou) (h : ∀ y ∈ O, y.u ≠ x.u) : moveN (O ++ [x]) x.u = O ++ [{ x with d := x.d + 1 }] := by
  unfold moveN
  rw [idxO_last O x x.u h rfl]
  simp only []
  rw [List.getElem?_append_right (Nat.le_refl _), Nat.sub_self]
  simp only [List.getElem?_cons_zero]
  rw [List.set_append_right _ _ (Nat.le_refl _), Nat.sub_self]
  rfl
theorem doneN_last (O : List Ou) (x : Ou) (h : ∀ y ∈ O, y.u ≠ x.u) : doneN (O ++ [x]) x.u = O := by
  unfold doneN
  rw [idxO_last O x x.u h rfl]
  simp only []
  rw [List.take_left, List.drop_of_length_le (by simp), List.append_nil]
/-- the open units and the greatest number behind entries that are a unit's -/
theorem moves_run (i : Nat) (O : List Ou) (h : ∀ y ∈ O, y.u ≠ (i : Int) + 1) (mv : List Mv) : ∀ (d : Nat) (s : Sn) (lsn : Int) (d0 : Int), s.O = O ++ [⟨(i : Int) + 1, mv, d0⟩] →
    (seenN s (movesU i d) lsn).O = O ++ [⟨(i : Int) + 1, mv, d0 + (d : Int)⟩] ∧ (seenN s (movesU i d) lsn).u = s.u
  | 0, s, lsn, d0, hs => by simpa [movesU, seenN] using hs
  | d + 1, s, lsn, d0, hs => by
    obtain ⟨h1, h2⟩ := moves_run i O h mv d s lsn d0 hs
    have e : movesU i (d + 1) = movesU i d ++ [moveX i d] := by simp [movesU, List.range_succ]
    rw [e, seenN_snoc]
    obtain ⟨t, ht⟩ : ∃ t, t = seenN s (movesU i d) lsn := ⟨_, rfl⟩
    rw [← ht] at h1 h2 ⊢
    have hO : (onN t (moveX i d) (lsn + ((movesU i d).length : Int))).O = moveN t.O ((i : Int) + 1) := rfl
    have hu : (onN t (moveX i d) (lsn + ((movesU i d).length : Int))).u = t.u := rfl
    refine ⟨?_, hu.trans h2⟩
    rw [hO, h1, moveN_last O ⟨(i : Int) + 1, mv, d0 + (d : Int)⟩ h]
    have e2 : d0 + (d : Int) + 1 = d0 + ((d + 1 : Nat) : Int) := by push_cast; omega
    simp only [e2]
theorem unit_run (i b : Nat) (s : Sn) (lsn : Int) (O : List Ou) (hO : s.O = O) (h : ∀ y ∈ O, y.u ≤ (i : Int)) (hu : s.u = (i : Int)) :
    (seenN s (entsU i b) lsn).O = O ++ wantU i b ∧ (seenN s (entsU i b) lsn).u = (i : Int) + 1 := by
  have hne : ∀ y ∈ O, y.u ≠ (i : Int) + 1 := fun y hy => by have := h y hy; omega
  have h0 : (onN s (unitX i (b % 4)) lsn).O = O ++ [⟨(i : Int) + 1, mvsU i (b % 4), 0⟩] := by
    show s.O ++ _ = _
    rw [hO]
    rfl
  have hu0 : (onN s (unitX i (b % 4)) lsn).u = (i : Int) + 1 := by
    show max s.u ((i : Int) + 1) = _
    rw [hu]
    omega
  obtain ⟨h1, h2⟩ := moves_run i O hne (mvsU i (b % 4)) (dnU b) (onN s (unitX i (b % 4)) lsn) (lsn + 1) 0 h0
  unfold entsU wantU
  by_cases hb : 127 < b
  · rw [if_pos hb, if_pos hb]
    have e : unitX i (b % 4) :: movesU i (dnU b) ++ [doneX i (b % 4)] = unitX i (b % 4) :: (movesU i (dnU b) ++ [doneX i (b % 4)]) := rfl
    rw [e]
    show (seenN (onN s (unitX i (b % 4)) lsn) (movesU i (dnU b) ++ [doneX i (b % 4)]) (lsn + 1)).O = _ ∧ (seenN (onN s (unitX i (b % 4)) lsn) (movesU i (dnU b) ++ [doneX i (b % 4)]) (lsn + 1)).u = _
    rw [seenN_snoc]
    obtain ⟨t, ht⟩ : ∃ t, t = seenN (onN s (unitX i (b % 4)) lsn) (movesU i (dnU b)) (lsn + 1) := ⟨_, rfl⟩
    rw [← ht] at h1 h2 ⊢
    refine ⟨?_, h2.trans hu0⟩
    show doneN t.O ((i : Int) + 1) = _
    rw [h1, doneN_last O ⟨(i : Int) + 1, mvsU i (b % 4), 0 + (dnU b : Int)⟩ hne]
    simp
  · rw [if_neg hb, if_neg hb, List.append_nil]
    refine ⟨h1.trans (by simp), h2.trans hu0⟩
theorem seenN_app' : ∀ (a b : List En) (s : Sn) (lsn : Int), seenN s (a ++ b) lsn = seenN (seenN s a lsn) b (lsn + (a.length : Int))
  | [], b, s, lsn => by simp [seenN]
  | X :: a, b, s, lsn => by
    simp only [List.cons_append, seenN, List.length_cons]
    rw [seenN_app' a b]
    congr 1
    push_cast
    omega
theorem units_run (ns : List Nat) : ∀ k, k ≤ ns.length → (seenN sn0 (allU ns k) 1).O = wantL ns k ∧ (seenN sn0 (allU ns k) 1).u = (k : Int)
  | 0, _ => ⟨rfl, rfl⟩
  | k + 1, hk => by
    obtain ⟨b, hb⟩ : ∃ b, ns[k]? = some b := ⟨_, List.getElem?_eq_getElem (by omega)⟩
    obtain ⟨h1, h2⟩ := units_run ns k (by omega)
    rw [allU_next hb, wantL_next hb, seenN_app']
    have := unit_run k b (seenN sn0 (allU ns k) 1) (1 + ((allU ns k).length : Int)) (wantL ns k) h1 (wantL_lt ns k) h2
    exact ⟨this.1, this.2.trans (by push_cast; rfl)⟩
end Go.Proofs.Ytaijgnhkdbdfcaa
