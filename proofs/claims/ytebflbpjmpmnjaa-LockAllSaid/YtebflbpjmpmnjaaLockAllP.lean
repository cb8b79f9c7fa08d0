/- LockAll: the document's list of locks, in plain Lean. -/
import Derived.Test.YtebflbpjmpmnjaaLockR
namespace Go.Proofs.Ytebflbpjmpmnjaa
open Go.ChangeShapes Go.WideShapes Go.ChangeAt Go.RowKit Go.Maps
set_option linter.unusedVariables false

/-- a lock -/
structure Lw where
  who : Int
  what : ByteArray
  mode : Int
def lc (x : Lw) : List Value := [.int .i64 x.who, .string x.what, .int .i64 x.mode]
def lcs (R : List Lw) : List Value := R.flatMap lc
theorem lcs_len (R : List Lw) : (lcs R).length = R.length * 3 := by
  induction R with
  | nil => rfl
  | cons a R ih => simp only [lcs, List.flatMap_cons, List.length_append, List.length_cons, lc] at ih ⊢; simp only [List.length_nil]; omega
theorem lcs_snoc (R : List Lw) (x : Lw) : lcs (R ++ [x]) = lcs R ++ lc x := by simp [lcs]
theorem lc_one (x : Lw) : ∀ u ∈ lc x, u.oneCell' = true := by
  intro u hu
  simp [lc] at hu
  rcases hu with rfl | rfl | rfl <;> rfl
theorem lcs_one (R : List Lw) : ∀ u ∈ lcs R, u.oneCell' = true := by
  intro u hu
  obtain ⟨x, _, h⟩ := List.mem_flatMap.1 hu
  exact lc_one x u h
theorem lcs_at {R : List Lw} {q : Nat} {x : Lw} (h : R[q]? = some x) : (lcs R)[q * 3]? = some (.int .i64 x.who) ∧ (lcs R)[q * 3 + 1]? = some (.string x.what) ∧ (lcs R)[q * 3 + 2]? = some (.int .i64 x.mode) := by
  obtain ⟨hq, e⟩ := List.getElem?_eq_some_iff.1 h
  have e1 : R = R.take q ++ (x :: R.drop (q + 1)) := by
    rw [← e, List.getElem_cons_drop, List.take_append_drop]
  have e2 : lcs R = lcs (R.take q) ++ (lc x ++ lcs (R.drop (q + 1))) := by
    conv => lhs; rw [e1]
    simp [lcs]
  have hl : (lcs (R.take q)).length = q * 3 := by rw [lcs_len, List.length_take]; omega
  rw [e2]
  refine ⟨?_, ?_, ?_⟩
  · rw [List.getElem?_append_right (by omega), hl]; simp [lc]
  · rw [List.getElem?_append_right (by omega), hl, show q * 3 + 1 - q * 3 = 1 by omega]; simp [lc]
  · rw [List.getElem?_append_right (by omega), hl, show q * 3 + 2 - q * 3 = 2 by omega]; simp [lc]
theorem takeF {α : Type} {L : List α} {k : Nat} {x : α} (hx : L[k]? = some x) (P : α → Bool) : (L.take (k + 1)).filter P = (L.take k).filter P ++ (if P x = true then [x] else []) := by
  have hk := (List.getElem?_eq_some_iff.1 hx).1
  rw [List.take_succ_eq_append_getElem hk, List.filter_append]
  have e : L[k] = x := (List.getElem?_eq_some_iff.1 hx).2
  rw [e]
  by_cases h : P x = true <;> simp [h]
/-- the list is the table's -/
structure RepL (F : ByteArray → Int → Int) (R : List Lw) : Prop where
  at_ : ∀ x ∈ R, F x.what x.who = x.mode ∧ x.mode ≠ 0
  all : ∀ s y, F s y ≠ 0 → ∃ x ∈ R, x.what = s ∧ x.who = y
  one : R.Pairwise (fun a b => ¬ (a.who = b.who ∧ a.what = b.what))
theorem RepL.nil : RepL (fun _ _ => 0) [] := ⟨fun x h => absurd h List.not_mem_nil, fun _ _ h => absurd rfl h, List.Pairwise.nil⟩
/-- what one holds -/
theorem RepL.held_yes {F : ByteArray → Int → Int} {R : List Lw} (h : RepL F R) {x : Lw} {i : Nat} (hx : R[i]? = some x) : F x.what x.who = x.mode := (h.at_ x (List.mem_of_getElem? hx)).1
theorem RepL.held_no {F : ByteArray → Int → Int} {R : List Lw} (h : RepL F R) {who : Int} {s : ByteArray} (hn : ∀ (j : Nat) (x : Lw), R[j]? = some x → ¬ (x.who = who ∧ x.what = s)) : F s who = 0 := by
  rcases Decidable.em (F s who = 0) with e | e
  · exact e
  · obtain ⟨x, hx, h1, h2⟩ := h.all s who e
    obtain ⟨j, hj, e'⟩ := List.mem_iff_getElem.1 hx
    exact absurd ⟨h2, h1⟩ (hn j x (by rw [← e']; exact List.getElem?_eq_getElem _))
/-- those that are such, each once, rising -/
def rises (p : Lw → Bool) (R : List Lw) : List Int := R.foldl (fun l x => if p x = true then ins x.who l else l) []
theorem rises_snoc {p : Lw → Bool} {R : List Lw} {k : Nat} {x : Lw} (hx : R[k]? = some x) : rises p (R.take (k + 1)) = if p x = true then ins x.who (rises p (R.take k)) else rises p (R.take k) := by
  have hk := (List.getElem?_eq_some_iff.1 hx).1
  have e : R[k] = x := (List.getElem?_eq_some_iff.1 hx).2
  unfold rises
  rw [List.take_succ_eq_append_getElem hk, List.foldl_append, e]
  rfl
theorem rises_ok (p : Lw → Bool) (R : List Lw) : Rises (rises p R) ∧ ∀ y, y ∈ rises p R ↔ ∃ x ∈ R, p x = true ∧ x.who = y := by
  have key : ∀ (R : List Lw) (l : List Int), Rises l → Rises (R.foldl (fun l x => if p x = true then ins x.who l else l) l) ∧ ∀ y, y ∈ R.foldl (fun l x => if p x = true then ins x.who l else l) l ↔ y ∈ l ∨ ∃ x ∈ R, p x = true ∧ x.who = y := by
    intro R
    induction R with
    | nil => intro l hl; exact ⟨hl, fun y => by simp⟩
    | cons a R ih =>
      intro l hl
      by_cases ha : p a = true
      · obtain ⟨h1, h2⟩ := ih (ins a.who l) (ins_rises _ _ hl)
        rw [List.foldl_cons, if_pos ha]
        refine ⟨h1, fun y => ?_⟩
        rw [h2, ins_mem]
        constructor
        · rintro ((e | h) | ⟨x, hx, hp, hy⟩)
          · exact .inr ⟨a, List.mem_cons_self .., ha, e.symm⟩
          · exact .inl h
          · exact .inr ⟨x, List.mem_cons_of_mem _ hx, hp, hy⟩
        · rintro (h | ⟨x, hx, hp, hy⟩)
          · exact .inl (.inr h)
          · rcases List.mem_cons.1 hx with e | hx
            · subst e; exact .inl (.inl hy.symm)
            · exact .inr ⟨x, hx, hp, hy⟩
      · obtain ⟨h1, h2⟩ := ih l hl
        rw [List.foldl_cons, if_neg ha]
        refine ⟨h1, fun y => ?_⟩
        rw [h2]
        constructor
        · rintro (h | ⟨x, hx, hp, hy⟩)
          · exact .inl h
          · exact .inr ⟨x, List.mem_cons_of_mem _ hx, hp, hy⟩
        · rintro (h | ⟨x, hx, hp, hy⟩)
          · exact .inl h
          · rcases List.mem_cons.1 hx with e | hx
            · subst e; exact absurd hp ha
            · exact .inr ⟨x, hx, hp, hy⟩
  obtain ⟨h1, h2⟩ := key R [] List.Pairwise.nil
  exact ⟨h1, fun y => by unfold rises; rw [h2]; simp⟩
theorem ins_le (n : Int) (L : List Int) : (ins n L).length ≤ L.length + 1 := by
  induction L with
  | nil => simp [ins]
  | cons x r ih =>
    unfold ins
    split
    · simp; omega
    · split <;> simp
theorem rises_le (p : Lw → Bool) (R : List Lw) : (rises p R).length ≤ R.length := by
  have key : ∀ (R : List Lw) (l : List Int), (R.foldl (fun l x => if p x = true then ins x.who l else l) l).length ≤ l.length + R.length := by
    intro R
    induction R with
    | nil => intro l; simp
    | cons a R ih =>
      intro l
      rw [List.foldl_cons]
      by_cases ha : p a = true
      · rw [if_pos ha]
        have := ih (ins a.who l)
        have := ins_le a.who l
        simp only [List.length_cons]
        omega
      · rw [if_neg ha]
        have := ih l
        simp only [List.length_cons]
        omega
  have := key R []
  unfold rises
  simpa using this
/-- who holds something there -/
theorem RepL.holders {F : ByteArray → Int → Int} {R : List Lw} (h : RepL F R) (s : ByteArray) {L : List Int} (hL : Rises L) (hm : ∀ x, x ∈ L ↔ F s x ≠ 0) : L = rises (fun x => decide (x.what = s)) R := by
  obtain ⟨h1, h2⟩ := rises_ok (fun x => decide (x.what = s)) R
  refine rises_same hL h1 fun y => ?_
  rw [hm, h2]
  constructor
  · intro hy
    obtain ⟨x, hx, e1, e2⟩ := h.all s y hy
    exact ⟨x, hx, decide_eq_true e1, e2⟩
  · rintro ⟨x, hx, e1, e2⟩
    have := h.at_ x hx
    rw [of_decide_eq_true e1, e2] at this
    rw [this.1]
    exact this.2
/-- who hinders -/
def hinL (s : ByteArray) (who want : Int) (x : Lw) : Bool := decide (x.what = s) && (decide (x.who ≠ who) && !goesP x.mode want)
theorem RepL.others {F : ByteArray → Int → Int} {R : List Lw} (h : RepL F R) {s : ByteArray} {who m : Int} {L : List Int} (hL : Others F s who m L) : L = rises (hinL s who (joinP (F s who) m)) R := by
  obtain ⟨h1, h2⟩ := rises_ok (hinL s who (joinP (F s who) m)) R
  refine rises_same hL.1 h1 fun y => ?_
  rw [hL.2, h2]
  unfold hinL
  simp only [Bool.and_eq_true, decide_eq_true_eq, Bool.not_eq_true']
  constructor
  · rintro ⟨hy, hne, hg⟩
    obtain ⟨x, hx, e1, e2⟩ := h.all s y hy
    have := (h.at_ x hx).1
    rw [e1, e2] at this
    exact ⟨x, hx, ⟨e1, by rw [e2]; exact hne, by rw [← this]; exact hg⟩, e2⟩
  · rintro ⟨x, hx, ⟨e1, e3, e4⟩, e2⟩
    have := h.at_ x hx
    rw [e1, e2] at this
    exact ⟨by rw [this.1]; exact this.2, by rw [← e2]; exact e3, by rw [this.1]; exact e4⟩
/-- all but one's lock at a name -/
def notL (s : ByteArray) (who : Int) (x : Lw) : Bool := decide (x.who ≠ who) || decide (x.what ≠ s)
theorem RepL.set {F : ByteArray → Int → Int} {R : List Lw} (h : RepL F R) {s : ByteArray} {who m : Int} (hw : joinP (F s who) m ≠ 0) : RepL (setF F s who m) (R.filter (notL s who) ++ [⟨who, s, joinP (F s who) m⟩]) := by
  have hs : ∀ z y, setF F s who m z y = if z = s ∧ y = who then joinP (F s who) m else F z y := fun z y => by
    unfold setF putI
    by_cases e1 : z = s
    · subst e1
      by_cases e2 : y = who <;> simp [e2]
    · simp [e1]
  constructor
  · intro x hx
    rw [List.mem_append, List.mem_filter, List.mem_singleton] at hx
    rcases hx with ⟨hx, hn⟩ | e
    · unfold notL at hn
      rw [hs, if_neg]
      · exact h.at_ x hx
      · rintro ⟨e1, e2⟩
        simp [e1, e2] at hn
    · subst e
      rw [hs, if_pos ⟨rfl, rfl⟩]
      exact ⟨rfl, hw⟩
  · intro z y hy
    rw [hs] at hy
    by_cases e : z = s ∧ y = who
    · obtain ⟨rfl, rfl⟩ := e
      exact ⟨_, List.mem_append_right _ (List.mem_singleton.2 rfl), rfl, rfl⟩
    · rw [if_neg e] at hy
      obtain ⟨x, hx, e1, e2⟩ := h.all z y hy
      refine ⟨x, List.mem_append_left _ (List.mem_filter.2 ⟨hx, ?_⟩), e1, e2⟩
      unfold notL
      simp only [Bool.or_eq_true, decide_eq_true_eq]
      rw [e1, e2]
      rcases Decidable.em (y = who) with e' | e'
      · exact .inr fun e'' => e ⟨e'', e'⟩
      · exact .inl e'
  · rw [List.pairwise_append]
    refine ⟨h.one.filter _, List.pairwise_singleton _ _, fun a ha b hb => ?_⟩
    rw [List.mem_filter] at ha
    rw [List.mem_singleton] at hb
    subst hb
    rintro ⟨e1, e2⟩
    have := ha.2
    unfold notL at this
    simp [e1, e2] at this
theorem RepL.free {F : ByteArray → Int → Int} {R : List Lw} (h : RepL F R) (who : Int) : RepL (freeF F who) (R.filter fun x => decide (x.who ≠ who)) := by
  constructor
  · intro x hx
    rw [List.mem_filter, decide_eq_true_eq] at hx
    unfold freeF
    rw [if_neg hx.2]
    exact h.at_ x hx.1
  · intro z y hy
    unfold freeF at hy
    by_cases e : y = who
    · rw [if_pos e] at hy; exact absurd rfl hy
    · rw [if_neg e] at hy
      obtain ⟨x, hx, e1, e2⟩ := h.all z y hy
      exact ⟨x, List.mem_filter.2 ⟨hx, decide_eq_true (by rw [e2]; exact e)⟩, e1, e2⟩
  · exact h.one.filter _
/-! ### Names in their order -/
def SR (l : List (List UInt8)) : Prop := l.Pairwise (· < ·)
theorem SR.rises {l : List (List UInt8)} (h : SR l) : RisesS l :=
  ⟨h.imp fun h => decide_eq_true (List.le_of_lt h), h.imp fun h e => by subst e; exact absurd h (List.lt_irrefl _)⟩
theorem lt_of_nle {a b : List UInt8} (h : ¬ a < b) (hne : a ≠ b) : b < a := by
  have hle : b ≤ a := List.not_lt.1 h
  rcases Decidable.em (b < a) with h1 | h1
  · exact h1
  · exact absurd (List.le_antisymm (List.not_lt.1 h1) hle) hne
/-- a name laid where it is due -/
theorem SR.put {l : List (List UInt8)} (h : SR l) {s : List UInt8} (hs : s ∉ l) {k : Nat} (h1 : ∀ j x, j < k → l[j]? = some x → x < s) (h2 : ∀ x, l[k]? = some x → ¬ x < s) (hk : k ≤ l.length) : SR (l.take k ++ ([s] ++ l.drop k)) := by
  have lo : ∀ a ∈ l.take k, a < s := fun a ha => by
    obtain ⟨j, hj, e⟩ := List.mem_iff_getElem.1 ha
    rw [List.getElem_take] at e
    rw [List.length_take] at hj
    exact h1 j a (by omega) (by rw [← e]; exact List.getElem?_eq_getElem _)
  have up := h
  unfold SR at up
  rw [← List.take_append_drop k l, List.pairwise_append] at up
  have hi : ∀ b ∈ l.drop k, s < b := fun b hb => by
    rcases hd : l.drop k with _ | ⟨r, B⟩
    · rw [hd] at hb; exact absurd hb List.not_mem_nil
    · have hr : l[k]? = some r := by
        have := congrArg (fun z => z[0]?) hd
        simpa using this
      have hrm : r ∈ l := List.mem_of_getElem? hr
      have hsr : s < r := lt_of_nle (h2 r hr) (fun e => hs (e ▸ hrm))
      rw [hd] at hb
      have u2 := up.2.1
      rw [hd, List.pairwise_cons] at u2
      rcases List.mem_cons.1 hb with e | hb
      · subst e; exact hsr
      · exact List.lt_trans hsr (u2.1 b hb)
  unfold SR
  rw [List.pairwise_append, List.pairwise_append]
  refine ⟨up.1, ⟨List.pairwise_singleton _ _, up.2.1, fun a ha b hb => ?_⟩, fun a ha b hb => ?_⟩
  · rw [List.mem_singleton] at ha
    subst ha
    exact hi b hb
  · rcases List.mem_append.1 hb with hb | hb
    · rw [List.mem_singleton] at hb
      subst hb
      exact lo a ha
    · exact List.lt_trans (lo a ha) (hi b hb)
/-- the names at which one holds something, as far as k locks go -/
structure NamesL (R : List Lw) (who : Int) (k : Nat) (l : List (List UInt8)) : Prop where
  up : SR l
  mem : ∀ s, s ∈ l ↔ ∃ x ∈ R.take k, x.who = who ∧ x.what.data.toList = s
  len : l.length ≤ k
theorem NamesL.nil (R : List Lw) (who : Int) : NamesL R who 0 [] := ⟨List.Pairwise.nil, fun s => by simp, Nat.zero_le _⟩
theorem NamesL.skip {R : List Lw} {who : Int} {k : Nat} {l : List (List UInt8)} (h : NamesL R who k l) {x : Lw} (hx : R[k]? = some x) (hn : x.who ≠ who) : NamesL R who (k + 1) l := by
  have hk := (List.getElem?_eq_some_iff.1 hx).1
  have e : R[k] = x := (List.getElem?_eq_some_iff.1 hx).2
  refine ⟨h.up, fun s => ?_, Nat.le_succ_of_le h.len⟩
  rw [h.mem, List.take_succ_eq_append_getElem hk, e]
  constructor
  · rintro ⟨y, hy, h1, h2⟩; exact ⟨y, List.mem_append_left _ hy, h1, h2⟩
  · rintro ⟨y, hy, h1, h2⟩
    rcases List.mem_append.1 hy with hy | hy
    · exact ⟨y, hy, h1, h2⟩
    · rw [List.mem_singleton] at hy; subst hy; exact absurd h1 hn
theorem NamesL.take {F : ByteArray → Int → Int} {R : List Lw} (hR : RepL F R) {who : Int} {k : Nat} {l : List (List UInt8)} (h : NamesL R who k l) {x : Lw} (hx : R[k]? = some x) (hn : x.who = who) {p : Nat} (h1 : ∀ j y, j < p → l[j]? = some y → y < x.what.data.toList) (h2 : ∀ y, l[p]? = some y → ¬ y < x.what.data.toList) (hp : p ≤ l.length) :
    NamesL R who (k + 1) (l.take p ++ ([x.what.data.toList] ++ l.drop p)) := by
  have hk := (List.getElem?_eq_some_iff.1 hx).1
  have e : R[k] = x := (List.getElem?_eq_some_iff.1 hx).2
  have hnew : x.what.data.toList ∉ l := fun hm => by
    obtain ⟨y, hy, e1, e2⟩ := (h.mem _).1 hm
    have e3 : y.what = x.what := by
      have := congrArg bt e2
      rwa [bt_of, bt_of] at this
    have one := hR.one
    rw [← List.take_append_drop k R, List.pairwise_append] at one
    have hx2 : x ∈ R.drop k := by
      rw [← List.getElem_cons_drop hk, e]
      exact List.mem_cons_self ..
    exact one.2.2 y hy x hx2 ⟨by rw [e1, hn], e3⟩
  refine ⟨h.up.put hnew h1 h2 hp, fun s => ?_, ?_⟩
  · rw [List.take_succ_eq_append_getElem hk, e]
    have m := h.mem s
    rw [← List.take_append_drop p l, List.mem_append] at m
    rw [List.mem_append, List.mem_append, List.mem_singleton]
    constructor
    · rintro (hs | hs | hs)
      · obtain ⟨y, hy, q1, q2⟩ := m.1 (.inl hs); exact ⟨y, List.mem_append_left _ hy, q1, q2⟩
      · exact ⟨x, List.mem_append_right _ (List.mem_singleton.2 rfl), hn, hs.symm⟩
      · obtain ⟨y, hy, q1, q2⟩ := m.1 (.inr hs); exact ⟨y, List.mem_append_left _ hy, q1, q2⟩
    · rintro ⟨y, hy, q1, q2⟩
      rcases List.mem_append.1 hy with hy | hy
      · rcases m.2 ⟨y, hy, q1, q2⟩ with h' | h'
        · exact .inl h'
        · exact .inr (.inr h')
      · rw [List.mem_singleton] at hy
        subst hy
        exact .inr (.inl q2.symm)
  · have := h.len
    simp
    omega
theorem NamesL.same {F : ByteArray → Int → Int} {R : List Lw} (hR : RepL F R) {who : Int} {l L : List (List UInt8)} (h : NamesL R who R.length l) (hL : RisesS L) (hm : ∀ s, s ∈ L ↔ F (bt s) who ≠ 0) : L = l := by
  refine risesS_same hL h.up.rises fun s => ?_
  rw [hm, h.mem, List.take_length]
  constructor
  · intro hs
    obtain ⟨x, hx, e1, e2⟩ := hR.all _ _ hs
    exact ⟨x, hx, e2, by rw [e1, bt_data]⟩
  · rintro ⟨x, hx, e1, e2⟩
    have := hR.at_ x hx
    rw [e1, show x.what = bt s by rw [← e2, bt_of]] at this
    rw [this.1]
    exact this.2
end Go.Proofs.Ytebflbpjmpmnjaa
