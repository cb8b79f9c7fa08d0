/- LockAll: one ask, by the table and by the document; none at all. -/
import Derived.Test.YtebflbpjmpmnjaaLockAllT
import Derived.Test.YtebflbpjmpmnjaaLockAllU
namespace Go.Proofs.Ytebflbpjmpmnjaa
open Go.ChangeShapes Go.WideShapes Go.ChangeAt Go.RowKit Go.Maps
set_option linter.unusedVariables false

theorem Rl.cells {W w w' : World} {rb c : Nat} {A : Option Addr} {R : List Lw} (h : Rl W w rb A c R) (hc : Cells w w') (hx : Ext W w') : Rl W w' rb A c R := ⟨hc _ _ _ h.blk, hc.own h.own, h.hb, hx⟩
theorem Has.touch {W w w' : World} {g N c rb : Nat} {F : ByteArray → Int → Int} {u : Value} (h0 : Has W w g N c F) (hb : Blk w rb 35 #[u]) (ht : Touch w w' (fun a => a = rb)) (hx : Ext W w') : Has W w' g N c F := by
  obtain ⟨m, f, h1, h2⟩ := h0
  refine ⟨m, f, { h1 with blk := ht.blk h1.blk (fun e => ?_), out := h1.out.touch ht (fun e => ?_), yes := fun x b hx => ?_ }, hx⟩
  · subst e
    exact Blk.ne_ hb h1.blk (by decide) rfl
  · obtain ⟨D, h', _⟩ := h1.out
    exact map_ne hb h' e.symm
  · have hz := h1.yes x b hx
    refine ⟨hz.1.touch ht (fun e => ?_), hz.2⟩
    obtain ⟨D, h', _⟩ := hz.1
    exact map_ne hb h' e.symm
theorem ask_bad (w : World) (g : Nat) (who : Int) (s : ByteArray) (m : Int) (hm : m ≤ 0 ∨ 4 < m) :
    Calls Try.prog 10 #[.pointer (some ⟨g, 0, none⟩), .int .i64 who, .string s, .int .i64 m] w fun e w' => e = .returned (.tuple #[.slice none 0 0, .bool false]) ∧ w = w' := by
  by_cases h0 : m ≤ 0
  · have d1 : decide (m ≤ 0) = true := decide_eq_true h0
    clear hm h0
    go_enter Try.func10, Try.ntmps10
    go_wp2
    exact bodyPost_ret (v := .tuple #[.slice none 0 0, .bool false]) (by simp [results, Try.results10, go_sem]) rfl ⟨rfl, rfl⟩
  · have d1 : decide (m ≤ 0) = false := decide_eq_false h0
    have d2 : decide (4 < m) = true := decide_eq_true (by omega)
    clear hm h0
    go_enter Try.func10, Try.ntmps10
    go_wp2
    exact bodyPost_ret (v := .tuple #[.slice none 0 0, .bool false]) (by simp [results, Try.results10, go_sem]) rfl ⟨rfl, rfl⟩
theorem ask_nil (w : World) (who : Int) (s : ByteArray) (m : Int) :
    Calls Try.prog 10 #[.pointer none, .int .i64 who, .string s, .int .i64 m] w fun e w' => e = .returned (.tuple #[.slice none 0 0, .bool false]) ∧ w = w' := by
  go_enter Try.func10, Try.ntmps10
  go_wp2
  exact bodyPost_ret (v := .tuple #[.slice none 0 0, .bool false]) (by simp [results, Try.results10, go_sem]) rfl ⟨rfl, rfl⟩
theorem free_nil (w : World) (who : Int) : Calls Try.prog 13 #[.pointer none, .int .i64 who] w fun e w' => e = .returned (.tuple #[]) ∧ w = w' := by
  go_enter Try.func13, Try.ntmps13
  go_wp2
  exact bodyPost_ret (v := .tuple #[]) (by simp [results, Try.results13, go_sem]) rfl ⟨rfl, rfl⟩
theorem held_nil (w : World) (who : Int) (s : ByteArray) : Calls Try.prog 12 #[.pointer none, .int .i64 who, .string s] w fun e w' => e = .returned (.int .i64 0) ∧ w = w' := by
  go_enter Try.func12, Try.ntmps12
  go_wp2
  go_ret
  exact ⟨rfl, rfl⟩
theorem holders_nil (w : World) (s : ByteArray) : Calls Try.prog 11 #[.pointer none, .string s] w fun e w' => e = .returned (.slice none 0 0) ∧ w = w' := by
  go_enter Try.func11, Try.ntmps11
  go_wp2
  go_ret
  exact ⟨rfl, rfl⟩
theorem locks_nil (w : World) (who : Int) : Calls Try.prog 18 #[.pointer none, .int .i64 who] w fun e w' => e = .returned (.slice none 0 0) ∧ w = w' := by
  go_enter Try.func18, Try.ntmps18
  go_wp2
  go_ret
  exact ⟨rfl, rfl⟩
/-- what an ask leaves, by the table -/
def AskP (F : ByteArray → Int → Int) (s : ByteArray) (who md : Int) (L : List Int) (b : Bool) (F1 : ByteArray → Int → Int) : Prop :=
  (¬ (0 < md ∧ md ≤ 4) ∧ L = [] ∧ b = false ∧ F1 = F) ∨ ((0 < md ∧ md ≤ 4) ∧ Others F s who md L ∧ ((L ≠ [] ∧ b = false ∧ F1 = F) ∨ (L = [] ∧ b = true ∧ F1 = setF F s who md)))
/-- by the document -/
def RAskP (F : ByteArray → Int → Int) (R : List Lw) (s : ByteArray) (who md : Int) (L : List Int) (b : Bool) (R1 : List Lw) : Prop :=
  (¬ (0 < md ∧ md ≤ 4) ∧ L = [] ∧ b = false ∧ R1 = R) ∨ ((0 < md ∧ md ≤ 4) ∧ L = rises (hinL s who (joinP (F s who) md)) R ∧ ((L ≠ [] ∧ b = false ∧ R1 = R) ∨ (L = [] ∧ b = true ∧ R1 = R.filter (notL s who) ++ [⟨who, s, joinP (F s who) md⟩])))
theorem ask_agree {F F1 : ByteArray → Int → Int} {R R1 : List Lw} {s : ByteArray} {who md : Int} {L L' : List Int} {b b' : Bool} (h : RepL F R) (hm : ∀ x y, 0 ≤ F x y ∧ F x y ≤ 4) (h1 : AskP F s who md L b F1) (h2 : RAskP F R s who md L' b' R1) :
    L = L' ∧ b = b' ∧ RepL F1 R1 ∧ R1.length ≤ R.length + 1 := by
  rcases h1 with ⟨hb, rfl, rfl, rfl⟩ | ⟨ho, hO, h1⟩
  · rcases h2 with ⟨_, rfl, rfl, rfl⟩ | ⟨ho, _⟩
    · exact ⟨rfl, rfl, h, Nat.le_succ _⟩
    · exact absurd ho hb
  · rcases h2 with ⟨hb, _⟩ | ⟨_, hL', h2⟩
    · exact absurd ho hb
    · have e := h.others hO
      rw [← hL'] at e
      subst e
      rcases h1 with ⟨hne, rfl, rfl⟩ | ⟨he, rfl, rfl⟩
      · rcases h2 with ⟨_, rfl, rfl⟩ | ⟨he, _⟩
        · exact ⟨rfl, rfl, h, Nat.le_succ _⟩
        · exact absurd he hne
      · rcases h2 with ⟨hne, _⟩ | ⟨_, rfl, rfl⟩
        · exact absurd he hne
        · refine ⟨rfl, rfl, h.set (by have := joinP_ok (hm s who).1 (hm s who).2 ho.1 ho.2; omega), ?_⟩
          have := List.length_filter_le (notL s who) R
          simp
          omega
theorem ask_all (W w : World) (g N c : Nat) (F : ByteArray → Int → Int) (s : ByteArray) (who md : Int) (h : Has W w g N c F) (hw : Wf who) (hs : Sz s) (hc : c ≤ 1000) (hN : N ≤ 1000) :
    Calls Try.prog 10 #[.pointer (some ⟨g, 0, none⟩), .int .i64 who, .string s, .int .i64 md] w fun e w' => ∃ A c1 L b F1, e = .returned (.tuple #[.slice A L.length c1, .bool b]) ∧ w'.ownsRow w.heap.size 3 1 (.slice A L.length c1) L.length (iv L) ∧ Has W w' g (N + 1) (c + 1) F1 ∧ Cells w w' ∧ L.length ≤ c ∧ AskP F s who md L b F1 := by
  by_cases hm : 0 < md ∧ md ≤ 4
  · refine (has_ask W w g N c F s who md h hw hs hm.1 hm.2 hc hN).mono ?_
    rintro e w' ⟨L, hL, hl, hC, ⟨hne, v, rfl, hv, hh, _⟩ | ⟨rfl, rfl, hh⟩⟩
    · obtain ⟨A, c1, rfl, _⟩ := own_form hv
      exact ⟨A, c1, L, false, F, rfl, hv, hh.grow (Nat.le_succ _) (Nat.le_succ _), hC, hl, .inr ⟨hm, hL, .inl ⟨hne, rfl, rfl⟩⟩⟩
    · exact ⟨none, 0, [], true, _, rfl, World.ownsRow_nil _ _ _ _, hh, hC, hl, .inr ⟨hm, hL, .inr ⟨rfl, rfl, rfl⟩⟩⟩
  · refine (ask_bad w g who s md (by omega)).mono ?_
    rintro e w' ⟨rfl, rfl⟩
    exact ⟨none, 0, [], false, F, rfl, World.ownsRow_nil _ _ _ _, h.grow (Nat.le_succ _) (Nat.le_succ _), Cells.refl _, Nat.zero_le _, .inl ⟨hm, rfl, rfl, rfl⟩⟩
theorem rask_all (W w : World) (rb : Nat) (A : Option Addr) (c : Nat) (R : List Lw) (F : ByteArray → Int → Int) (s : ByteArray) (who md : Int) (h : Rl W w rb A c R) (hn : R.length ≤ 1000) (hrep : RepL F R) :
    Calls Try.prog 16 #[.pointer (some ⟨rb, 0, none⟩), .int .i64 who, .string s, .int .i64 md] w fun e w' => ∃ A1 c1 L b R1 A2 c2, e = .returned (.tuple #[.slice A1 L.length c1, .bool b]) ∧ Reads w' w'.heap.size 1 A1 L.length (iv L) ∧ Rl W w' rb A2 c2 R1 ∧ Touch w w' (fun a => a = rb) ∧ RAskP F R s who md L b R1 := by
  by_cases hm : 0 < md ∧ md ≤ 4
  · refine (rask_any W w rb A c R F s who md h hn hrep hm.1 hm.2).mono ?_
    rintro e w' (⟨hne, A1, c1, rfl, hr, hx⟩ | ⟨he, rfl, A2, c2, hl, ht⟩)
    · exact ⟨A1, c1, _, false, R, A, c, rfl, hr, h.ex hx, Touch.of_below hx _, .inr ⟨hm, rfl, .inl ⟨hne, rfl, rfl⟩⟩⟩
    · exact ⟨none, 0, [], true, _, A2, c2, rfl, Reads.none_, hl, ht, .inr ⟨hm, he.symm, .inr ⟨rfl, rfl, rfl⟩⟩⟩
  · refine (rask_bad w rb who s md (by omega)).mono ?_
    rintro e w' ⟨rfl, rfl⟩
    exact ⟨none, 0, [], false, R, A, c, rfl, Reads.none_, h, Touch.refl _ _, .inl ⟨hm, rfl, rfl, rfl⟩⟩
end Go.Proofs.Ytebflbpjmpmnjaa
