/- Wait: the methods for whoever made the graph; 'begun' answers true. -/
import Derived.Test.YtppffbpocmgafaaWaitC
namespace Go.Proofs.Ytppffbpocmgafaa
open Go.ChangeShapes Go.WideShapes Go.ChangeAt Go.RowKit Go.Maps
set_option linter.unusedVariables false

/-- a graph that was made at the world W -/
def Has (W w : World) (g N c : Nat) (ks : List Int) (E : Int → Int → Bool) : Prop := ∃ m f, Gr w W.heap.size g m N c ks E f ∧ Ext W w
theorem Has.ext {W w w' : World} {g N c : Nat} {ks : List Int} {E : Int → Int → Bool} (h : Has W w g N c ks E) (he : Ext w w') : Has W w' g N c ks E := by
  obtain ⟨m, f, h1, h2⟩ := h; exact ⟨m, f, h1.ext he, h2.trans he⟩
theorem Has.world {W w : World} {g N c : Nat} {ks : List Int} {E : Int → Int → Bool} (h : Has W w g N c ks E) : Ext W w := by obtain ⟨m, f, h1, h2⟩ := h; exact h2
theorem Has.more {W w : World} {g N c c' : Nat} {ks : List Int} {E : Int → Int → Bool} (h : Has W w g N c ks E) (hc : c ≤ c') : Has W w g N c' ks E := by obtain ⟨m, f, h1, h2⟩ := h; exact ⟨m, f, h1.more hc, h2⟩
theorem Left.has {W w w' : World} {g m N c : Nat} {ks : List Int} {E : Int → Int → Bool} (h : Left w W.heap.size g m N c ks E w') (he : Ext W w) : Has W w' g N c ks E := by
  obtain ⟨f, h1, h2⟩ := h
  exact ⟨m, f, h1, Touch.ext he h2 h1.hm⟩
/-- blocks of cells are as they were -/
def Cells (w w' : World) : Prop := ∀ k t cs, Blk w k t cs → Blk w' k t cs
theorem Cells.own {w w' : World} {base e m n : Nat} {v : Value} {xs : List Value} (h : Cells w w') (ho : w.ownsRow base e m v n xs) : w'.ownsRow base e m v n xs := by
  refine ⟨ho.1, ?_⟩
  rcases ho.2 with h0 | ⟨g', cap, cur, hv', hb, hh, r⟩
  · exact .inl h0
  · exact .inr ⟨g', cap, cur, hv', hb, h g' e cur hh, r⟩
theorem Left.cells {w w' : World} {base g m N c n : Nat} {ks : List Int} {E : Int → Int → Bool} {f : Int → Option Nat} (h : Left w base g m N c ks E w') (ho : OutAt w m n f) : Cells w w' := by
  obtain ⟨f', h1, h2⟩ := h
  intro k t cs hk
  exact h2.blk hk (fun e => by obtain ⟨D, h', _⟩ := ho; exact map_ne hk (e ▸ h') rfl)
theorem has_new (W : World) : Calls Try.prog 8 #[] W fun e w' => e = .returned (.pointer (some ⟨W.heap.size + 1, 0, none⟩)) ∧ Has W w' (W.heap.size + 1) 0 0 [] (fun _ _ => false) :=
  (new_any W).mono fun _ _ ⟨h1, h2, h3⟩ => ⟨h1, _, _, h2, h3⟩
theorem has_set (W w : World) (g N c : Nat) (ks : List Int) (E : Int → Int → Bool) (who : Int) (A : Option Addr) (cap n : Nat) (l : List Int) (h : Has W w g N c ks E)
    (hl : l.length = n) (hr : Reads w w.heap.size 1 A n (iv l)) (hw : Wf who) (hlw : ∀ x ∈ l, Wf x) (hn : n ≤ c) (hc : c ≤ 1048576) (hN : N ≤ 1048576) :
    Calls Try.prog 9 #[.pointer (some ⟨g, 0, none⟩), .int .i64 who, .slice A n cap] w fun e w' => e = .returned (.tuple #[]) ∧ Has W w' g (N + 1) c (who :: ks) (setE E who l) ∧ Cells w w' := by
  obtain ⟨m, f, h1, h2⟩ := h
  exact (set_any _ g m N c ks E f who A cap n l w h1 h2.size hl hr hw hlw hn hc hN).mono fun _ _ ⟨e, h3⟩ => ⟨e, h3.has h2, h3.cells h1.out⟩
theorem has_clear (W w : World) (g N c : Nat) (ks : List Int) (E : Int → Int → Bool) (who : Int) (h : Has W w g N c ks E) (hw : Wf who) :
    Calls Try.prog 12 #[.pointer (some ⟨g, 0, none⟩), .int .i64 who] w fun e w' => e = .returned (.tuple #[]) ∧ Has W w' g N c ks (cutE E who) ∧ Cells w w' := by
  obtain ⟨m, f, h1, h2⟩ := h
  exact (clear_any _ g m N c ks E f who w h1 hw).mono fun _ _ ⟨e, h3⟩ => ⟨e, h3.has h2, h3.cells h1.out⟩
theorem has_on (W w : World) (g N c : Nat) (ks : List Int) (E : Int → Int → Bool) (who : Int) (h : Has W w g N c ks E) (hw : Wf who) (hc : c ≤ 1048576) :
    Calls Try.prog 11 #[.pointer (some ⟨g, 0, none⟩), .int .i64 who] w (GivesKeys w c (E who)) := by
  obtain ⟨m, f, h1, h2⟩ := h
  exact on_any _ g m N c ks E f who w h1 hw hc
theorem has_cycle (W w : World) (g N c : Nat) (ks : List Int) (E : Int → Int → Bool) (who : Int) (h : Has W w g N c ks E) (hw : Wf who) (hc : c + c * ks.length ≤ 1048576) :
    Calls Try.prog 10 #[.pointer (some ⟨g, 0, none⟩), .int .i64 who] w fun e w' => e = .returned (.bool (cyc E who)) ∧ Ext w w' := by
  obtain ⟨m, f, h1, h2⟩ := h
  exact cycle_any _ g m N c ks E f who w h1 hw hc
theorem rises_one {L : List Int} {a : Int} (h : Rises L) (hm : ∀ x, x ∈ L ↔ x = a) : L = [a] := by
  match L, h, hm with
  | [], _, hm => exact absurd ((hm a).2 rfl) (by simp)
  | [b], _, hm => rw [(hm b).1 (by simp)]
  | b :: c :: r, h, hm =>
    have h1 := (hm b).1 (by simp)
    have h2 := (hm c).1 (by simp)
    have h3 : b < c := by
      have := List.rel_of_pairwise_cons h (a' := c) (by simp)
      exact this
    omega
theorem rises_nil {L : List Int} (hm : ∀ x, x ∈ L ↔ False) : L = [] := List.eq_nil_iff_forall_not_mem.2 (fun y hy => (hm y).1 hy)
def E1 : Int → Int → Bool := setE (fun _ _ => false) 1 [2]
def E2 : Int → Int → Bool := setE E1 2 [1]
theorem e1_iff (a b : Int) : E1 a b = true ↔ a = 1 ∧ b = 2 := by
  unfold E1 setE but
  by_cases h : a = 1
  · simp [h]; omega
  · simp [h]
theorem cyc_e1 : cyc E1 1 = false := by
  refine cyc_false fun h => ?_
  have key : ∀ a b, Reach E1 a b → a = 1 ∧ b = 2 := by
    intro a b hab
    induction hab with
    | one h => exact (e1_iff _ _).1 h
    | step h _ ih =>
      have := (e1_iff _ _).1 h
      omega
  have := key 1 1 h
  omega
theorem cyc_e2 : cyc E2 1 = true := cyc_true (.step (b := 2) (by decide) (.one (by decide)))
theorem e2_iff (x : Int) : E2 1 x = true ↔ x = 2 := by
  unfold E2 setE
  rw [if_neg (by decide)]
  rw [e1_iff]
  simp
set_option maxRecDepth 100000 in
set_option maxHeartbeats 2000000 in
theorem begun_any (w : World) : Calls Try.prog 7 #[] w fun e w' => e = .returned (.bool true) ∧ Ext w w' := by
  have w1 : Wf 1 := by unfold Wf; decide
  have w2 : Wf 2 := by unfold Wf; decide
  have W1 := hide w1
  have W2 := hide w2
  clear w1 w2
  go_enter Try.func7, Try.ntmps7
  go_wp2_with (fail)
  refine (has_new w).mono ?_
  rintro e wa ⟨rfl, ha⟩
  have HA := hide ((ha.more (c' := 1) (by omega)).ext (Ext.new wa (.cells #[.int .i64 2] 3)))
  have RA := hide (reads_blk (m := 1) (Blk.new wa 3 #[.int .i64 2]) rfl)
  clear ha
  go_wp2_with (fail)
  refine (has_set w _ _ 0 1 [] (fun _ _ => false) 1 _ 1 1 [2] HA.out rfl RA.out W1.out (by intro x hx; simp at hx; rw [hx]; exact W2.out) (by omega) (by omega) (by omega)).mono ?_
  rintro e wb ⟨rfl, hb, _⟩
  have HB := hide hb
  clear hb
  go_wp2_with (fail)
  refine (has_cycle w _ _ 1 1 [1] E1 1 HB.out W1.out (by simp)).mono ?_
  rintro e wc ⟨rfl, hc⟩
  rw [cyc_e1]
  have HC := hide ((HB.out.ext hc).ext (Ext.new wc (.cells #[.int .i64 1] 3)))
  have RC := hide (reads_blk (m := 1) (Blk.new wc 3 #[.int .i64 1]) rfl)
  clear hc
  go_wp2_with (fail)
  refine (has_set w _ _ 1 1 [1] E1 2 _ 1 1 [1] HC.out rfl RC.out W2.out (by intro x hx; simp at hx; rw [hx]; exact W1.out) (by omega) (by omega) (by omega)).mono ?_
  rintro e wd ⟨rfl, hd, _⟩
  have HD := hide hd
  clear hd
  go_wp2_with (fail)
  refine (has_on w _ _ 2 1 [2, 1] E2 1 HD.out W1.out (by omega)).mono ?_
  rintro e we ⟨v, L, rfl, h1, h2, h3, h4, h5, h6⟩
  obtain rfl : L = [2] := rises_one h1 (fun x => by rw [h2, e2_iff])
  obtain ⟨ge, ce, rfl, _, hge⟩ := h5.form (by simp)
  have c0 : we.cell? ⟨ge, 0, none⟩ = some (.int .i64 2) := by
    have := h5.cells (g := ge) rfl 0 (.int .i64 2) (by simp [iv])
    have e : (⟨ge, 0, none⟩ : Addr).add 0 = ⟨ge, 0, none⟩ := by unfold Addr.add; split <;> simp_all
    rwa [e] at this
  have HE := hide (HD.out.ext h6)
  have H6 := hide h6
  have C0 := hide c0
  clear h1 h2 h3 h4 h5 h6 c0
  go_wp2_with (fail)
  refine (has_cycle w _ _ 2 1 [2, 1] E2 1 HE.out W1.out (by simp)).mono ?_
  rintro e wf ⟨rfl, hf⟩
  rw [cyc_e2]
  have c0 := (hf.cell (p := ⟨ge, 0, none⟩) hge).trans C0.out
  have HF := hide (HE.out.world.trans hf)
  clear hf
  go_wp2
  go_ret
  exact ⟨rfl, HF.out⟩
end Go.Proofs.Ytppffbpocmgafaa
