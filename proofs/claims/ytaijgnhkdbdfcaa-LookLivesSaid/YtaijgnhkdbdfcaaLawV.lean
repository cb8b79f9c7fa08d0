/- Look, the plain law of those who live, in ten numbers: who did something last, who has committed. -/
import Derived.Test.YtaijgnhkdbdfcaaActs
import Derived.Test.YtaijgnhkdbdfcaaLawL
import Derived.Test.YtaijgnhkdbdfcaaLawD
namespace Go.Proofs.Ytaijgnhkdbdfcaa
set_option linter.unusedVariables false

theorem sorted_ext {α : Type} (key : α → Int) : ∀ (a b : List α), a.Pairwise (fun x y => key x < key y) → b.Pairwise (fun x y => key x < key y) → (∀ x, x ∈ a ↔ x ∈ b) → a = b
  | [], [], _, _, _ => rfl
  | [], y :: b, _, _, h => by simpa using (h y).2 List.mem_cons_self
  | x :: a, [], _, _, h => by simpa using (h x).1 List.mem_cons_self
  | x :: a, y :: b, ha, hb, h => by
    obtain ⟨ha1, ha2⟩ := List.pairwise_cons.1 ha
    obtain ⟨hb1, hb2⟩ := List.pairwise_cons.1 hb
    have hxy : x = y := by
      rcases List.mem_cons.1 ((h x).1 List.mem_cons_self) with e | hx
      · exact e
      · rcases List.mem_cons.1 ((h y).2 List.mem_cons_self) with e | hy
        · exact e.symm
        · have := hb1 x hx; have := ha1 y hy; omega
    subst hxy
    congr 1
    refine sorted_ext key a b ha2 hb2 fun z => ?_
    constructor
    · intro hz
      rcases List.mem_cons.1 ((h z).1 (List.mem_cons_of_mem _ hz)) with e | hz'
      · subst e
        have := ha1 z hz; omega
      · exact hz'
    · intro hz
      rcases List.mem_cons.1 ((h z).2 (List.mem_cons_of_mem _ hz)) with e | hz'
      · subst e
        have := hb1 z hz; omega
      · exact hz'
def updB (c : Nat → Bool) (p : Nat) (v : Bool) : Nat → Bool := fun k => if k = p then v else c k
structure LvT where
  la : Nat → Int
  co : Nat → Bool
  op : Nat
def stepT (s : LvT) (i x : Nat) : LvT :=
  if actK x = 1 ∨ actK x = 2 ∨ actK x = 3 ∨ actK x = 4 then ⟨updN s.la (1 + x % 5) ((i : Int) + 1), updB s.co (1 + x % 5) (s.co (1 + x % 5) || decide (actK x = 3)), s.op⟩
  else if actK x = 5 then ⟨updN s.la (1 + x % 5) 0, updB s.co (1 + x % 5) false, s.op⟩
  else if actK x = 6 then ⟨s.la, s.co, s.op + 1⟩
  else s
def runT (ns : List Nat) : Nat → LvT
  | 0 => ⟨fun _ => 0, fun _ => false, 0⟩
  | k + 1 => match ns[k]? with
    | some x => stepT (runT ns k) k x
    | none => runT ns k
theorem runT_next {ns : List Nat} {k x : Nat} (h : ns[k]? = some x) : runT ns (k + 1) = stepT (runT ns k) k x := by
  conv => lhs; unfold runT
  rw [h]
/-- the ten numbers tell the table -/
def Tab (f : Int → Option Lv) (s : LvT) : Prop :=
  (∀ u y, f u = some y → ∃ t : Nat, u = (t : Int) ∧ t < 10 ∧ s.la t ≠ 0 ∧ y.l = s.la t ∧ y.c = s.co t) ∧ (∀ t : Nat, t < 10 → s.la t ≠ 0 → ∃ y, f (t : Int) = some y) ∧ (∀ t : Nat, s.la t = 0 → s.co t = false)
theorem Tab.step {f : Int → Option Lv} {s : LvT} (h : Tab f s) (i x : Nat) : Tab (onL f (actX i x) ((i : Int) + 1)) (stepT s i x) := by
  obtain ⟨h1, h2, h3⟩ := h
  have h5 : x % 5 < 5 := Nat.mod_lt _ (by omega)
  have hk : (actX i x).E.kind = actK x := rfl
  have ht : (actX i x).E.t = ((1 + x % 5 : Nat) : Int) := by
    show (1 : Int) + ((x % 5 : Nat) : Int) = _
    push_cast
    rfl
  unfold onL stepT
  rw [hk, ht]
  obtain ⟨t, htn⟩ : ∃ t, t = 1 + x % 5 := ⟨_, rfl⟩
  rw [← htn]
  have ht10 : t < 10 := by omega
  split
  · refine ⟨fun u y hu => ?_, fun q hq hne => ?_, fun q hq => ?_⟩
    · by_cases hut : u = (t : Int)
      · subst hut
        rw [upd_same] at hu
        injection hu with hu
        subst hu
        refine ⟨t, rfl, ht10, by simp [updN]; omega, ?_, ?_⟩
        · have : ∀ (z : Lv) (kd nx l : Int), (liveX z kd nx l).l = l := fun z kd nx l => by
            unfold liveX
            split
            · rfl
            · split
              · rfl
              · split <;> rfl
          rw [this]
          simp [updN]
        · have : ∀ (z : Lv) (kd nx l : Int), (liveX z kd nx l).c = (z.c || decide (kd = 3)) := fun z kd nx l => by
            unfold liveX
            split
            · rename_i e; subst e; simp
            · split
              · rename_i e; subst e; simp
              · split
                · rename_i e; subst e; simp
                · rename_i e; simp [e]
          rw [this]
          simp only [updB, if_pos]
          congr 1
          cases hf : f (t : Int) with
          | none =>
            simp only [Option.getD_none]
            cases hl : decide (s.la t = 0) with
            | true => exact (h3 t (of_decide_eq_true hl)).symm
            | false =>
              obtain ⟨y, hy⟩ := h2 t ht10 (of_decide_eq_false hl)
              rw [hy] at hf
              cases hf
          | some y =>
            obtain ⟨t', e1, _, _, _, e5⟩ := h1 _ y hf
            have : t = t' := by omega
            subst this
            exact e5
      · rw [upd_ne f _ hut] at hu
        obtain ⟨t', e1, e2, e3, e4, e5⟩ := h1 u y hu
        have hne : t' ≠ t := fun e => hut (by rw [e1, e])
        exact ⟨t', e1, e2, by simpa [updN, hne] using e3, by simpa [updN, hne] using e4, by simpa [updB, hne] using e5⟩
    · by_cases hqt : q = t
      · subst hqt
        exact ⟨_, upd_same f _ _⟩
      · rw [upd_ne f _ (by omega)]
        exact h2 q hq (by simpa [updN, hqt] using hne)
    · by_cases hqt : q = t
      · subst hqt
        simp [updN] at hq
        omega
      · simp only [updN, if_neg hqt] at hq
        simp only [updB, if_neg hqt]
        exact h3 q hq
  · split
    · refine ⟨fun u y hu => ?_, fun q hq hne => ?_, fun q hq => ?_⟩
      · by_cases hut : u = (t : Int)
        · subst hut
          rw [upd_same] at hu
          cases hu
        · rw [upd_ne f _ hut] at hu
          obtain ⟨t', e1, e2, e3, e4, e5⟩ := h1 u y hu
          have hne : t' ≠ t := fun e => hut (by rw [e1, e])
          exact ⟨t', e1, e2, by simpa [updN, hne] using e3, by simpa [updN, hne] using e4, by simpa [updB, hne] using e5⟩
      · by_cases hqt : q = t
        · subst hqt
          simp [updN] at hne
        · rw [upd_ne f _ (by omega)]
          exact h2 q hq (by simpa [updN, hqt] using hne)
      · by_cases hqt : q = t
        · subst hqt
          simp [updB]
        · simp only [updN, if_neg hqt] at hq
          simp only [updB, if_neg hqt]
          exact h3 q hq
    · split <;> exact ⟨h1, h2, h3⟩
theorem doneN_len (O : List Ou) (u : Int) : (doneN O u).length ≤ O.length := by
  unfold doneN
  split
  · simp only [List.length_append, List.length_take, List.length_drop]; omega
  · exact Nat.le_refl _
theorem moveN_len (O : List Ou) (u : Int) : (moveN O u).length = O.length := by
  unfold moveN
  split
  · split
    · simp
    · rfl
  · rfl
theorem open_step (s : Sn) (i x : Nat) (lsn : Int) (t : LvT) (h : s.O.length ≤ t.op) : (onN s (actX i x) lsn).O.length ≤ (stepT t i x).op := by
  have h6 : x / 26 % 6 < 6 := Nat.mod_lt _ (by omega)
  have hk : (actX i x).E.kind = actK x := rfl
  have h9 : actK x ≠ 9 := by
    unfold actK kindOf
    repeat' split
    all_goals decide
  show (swN s (actX i x) lsn).O.length ≤ _
  unfold swN stepT
  rw [hk]
  by_cases a1 : actK x = 1 ∨ actK x = 2 ∨ actK x = 3 ∨ actK x = 4
  · rw [if_pos a1, if_pos a1]; exact h
  · rw [if_neg a1, if_neg a1]
    by_cases a5 : actK x = 5
    · rw [if_pos a5, if_pos a5]; exact h
    · rw [if_neg a5, if_neg a5]
      by_cases a6 : actK x = 6
      · rw [if_pos a6, if_pos a6]
        simp only [List.length_append, List.length_cons, List.length_nil]
        omega
      · rw [if_neg a6, if_neg a6]
        by_cases a7 : actK x = 7
        · rw [if_pos a7]; simp only [moveN_len]; exact h
        · rw [if_neg a7]
          by_cases a8 : actK x = 8
          · rw [if_pos a8]; exact Nat.le_trans (doneN_len _ _) h
          · rw [if_neg a8]
            by_cases a10 : actK x = 10
            · rw [if_pos a10]; exact h
            · rw [if_neg a10, if_neg h9]; exact h
theorem tab_nil : Tab (fun _ => none) ⟨fun _ => 0, fun _ => false, 0⟩ := ⟨fun u y h => by simp at h, fun t _ h => absurd rfl h, fun t _ => rfl⟩
theorem run_T (ns : List Nat) : ∀ k, k ≤ ns.length → (∃ f, Rep (seenN sn0 ((actsN 0 ns).take k) 1).L f ∧ Tab f (runT ns k)) ∧ (seenN sn0 ((actsN 0 ns).take k) 1).O.length ≤ (runT ns k).op
  | 0, _ => ⟨⟨_, Rep.nil, tab_nil⟩, Nat.le_refl _⟩
  | k + 1, hk => by
    obtain ⟨x, hx⟩ : ∃ x, ns[k]? = some x := ⟨_, List.getElem?_eq_getElem (by omega)⟩
    obtain ⟨⟨f, hr, ht⟩, ho⟩ := run_T ns k (by omega)
    have hX : (actsN 0 ns)[k]? = some (actX k x) := by rw [actsN_at, hx]; simp
    rw [seenN_take hX, runT_next hx, show (1 : Int) + (k : Int) = (k : Int) + 1 by omega]
    have h9 : (actX k x).E.kind ≠ 9 := by
      show actK x ≠ 9
      unfold actK kindOf
      repeat' split
      all_goals decide
    exact ⟨⟨_, hr.on _ _ h9, ht.step k x⟩, open_step _ k x _ _ ho⟩
/-- those of the ten who live -/
def liveT (la : Nat → Int) (l : List Nat) : List Nat := l.filter fun (k : Nat) => decide (la k ≠ 0)
theorem live_list {L : List Lv} {f : Int → Option Lv} {s : LvT} (hr : Rep L f) (ht : Tab f s) : L.map (fun y => (y.t, y.l, y.c)) = (liveT s.la (List.range 10)).map (fun (k : Nat) => ((k : Int), s.la k, s.co k)) := by
  refine sorted_ext (fun z => z.1) _ _ ?_ ?_ fun z => ?_
  · rw [List.pairwise_map]
    exact hr.1
  · rw [List.pairwise_map]
    refine List.Pairwise.imp ?_ (List.Pairwise.filter _ List.pairwise_lt_range)
    intro a b h
    simp only []
    omega
  · simp only [List.mem_map, liveT, List.mem_filter, List.mem_range]
    constructor
    · rintro ⟨y, hy, rfl⟩
      obtain ⟨t, e1, e2, e3, e4, e5⟩ := ht.1 _ y ((hr.2.1 y).1 hy)
      exact ⟨t, ⟨e2, by simpa using e3⟩, by rw [← e1, e4, e5]⟩
    · rintro ⟨k, ⟨h1, h2⟩, rfl⟩
      obtain ⟨y, hy⟩ := ht.2.1 k h1 (by simpa using h2)
      have hyt := hr.2.2 _ y hy
      obtain ⟨t, e1, e2, e3, e4, e5⟩ := ht.1 _ y hy
      have : k = t := by omega
      subst this
      exact ⟨y, (hr.2.1 y).2 (by rw [hyt]; exact hy), by rw [hyt, e4, e5]⟩
end Go.Proofs.Ytaijgnhkdbdfcaa
