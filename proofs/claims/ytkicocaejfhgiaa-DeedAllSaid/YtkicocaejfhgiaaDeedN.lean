/- Deed: newest: a list, the newest first, in new memory. -/
import Derived.Test.YtkicocaejfhgiaaDeed
import Derived.Test.YtkicocaejfhgiaaShelf
namespace Go.Proofs.Ytkicocaejfhgiaa
open Go.ChangeShapes Go.WideShapes Go.ChangeAt Go.RowKit Go.Sort
set_option linter.unusedVariables false

theorem iv_getElem? (l : List Int) (j : Nat) : (iv l)[j]? = (l[j]?).map (Value.int .i64) := by simp [iv]
theorem own_putRow {w : World} {base g n cap m : Nat} {cur : Array Value} {l : List Int} (hb : base ≤ g) (h : w.heap[g]? = some (.cells cur 3 (0, 0))) (hc : cur.size = cap) (hn : n ≤ cap) (hcap : cap ≤ maxLen) (hl : l.length = n) :
    (putRow (Value.int .i64) (Sort.ahead w m) g 0 l.toArray).ownsRow base 3 1 (.slice (some ⟨g, 0, none⟩) n cap) n (iv l) := by
  refine ⟨by simp [iv, hl], .inr ⟨g, cap, putCells (Value.int .i64) 0 l.toArray cur, rfl, hb, ?_, hn, hcap, by simp [putCells, hc], ?_⟩⟩
  · simp [putRow, mapBlock, Sort.ahead, Array.getElem?_modify, h, onCells]
  · apply List.ext_getElem
    · simp [putCells, iv, hc, hl]; omega
    · intro i h1 h2
      have hi : i < l.length := by simpa [iv] using h2
      simp [putCells, iv, hi]
theorem touch_putRow {w : World} {g m : Nat} {F : Nat → Prop} {l : List Int} (hF : g < w.heap.size → F g) : Touch w (putRow (Value.int .i64) (Sort.ahead w m) g 0 l.toArray) F := by
  refine ⟨rfl, rfl, rfl, by simp [Sort.ahead], fun k hk hn => ?_⟩
  simp only [putRow, mapBlock, Sort.ahead, Array.getElem?_modify]
  by_cases h : g = k
  · subst h
    exact absurd (hF hk) hn
  · rw [if_neg h]
/-- a list of the call's own comes back -/
def GivesInts (w : World) (l : List Int) (e : Ending) (w' : World) : Prop := ∃ v, e = .returned v ∧ w'.ownsRow w.heap.size 3 1 v l.length (iv l) ∧ Below w.heap.size w w'
theorem newest_any (A : Option Addr) (c : Nat) (l : List Int) (w : World) (hA : A = none → c = 0) (hr : Reads w w.heap.size 1 A l.length (iv l)) (hl : l.length ≤ 1048576) :
    Calls Try.prog 19 #[.slice A l.length c] w (GivesInts w l.reverse) := by
  rcases A with _ | ad
  · obtain rfl := hA rfl
    have h0 : l = [] := by
      rcases Nat.eq_zero_or_pos l.length with h | h
      · exact List.eq_nil_of_length_eq_zero h
      · obtain ⟨_, e, _⟩ := hr.2 h
        cases e
    subst h0
    clear hr
    go_enter Try.func19, Try.ntmps19
    go_wp2_with (first | (go_at_call 21; refine (Try.slices_Clone_int_nil _ _ _).mono ?_; rintro e w' ⟨rfl, rfl⟩) | (go_at_call 22; refine (Try.slices_Reverse_int_empty _ _ _).mono ?_; rintro e w' ⟨rfl, rfl⟩))
    go_ret
    exact ⟨_, rfl, World.ownsRow_nil _ _ _ _, Below.refl _ _⟩
  · by_cases h0 : l.length = 0
    · obtain rfl : l = [] := List.eq_nil_of_length_eq_zero h0
      clear hr h0
      go_enter Try.func19, Try.ntmps19
      go_wp2_with (fail)
      refine (Try.slices_Clone_int_zero ad c _).mono ?_
      rintro e w1 ⟨v', rfl, hown, _, hb⟩
      obtain ⟨A', c', rfl⟩ := own_form hown
      go_wp2_with (go_at_call 22; refine (Try.slices_Reverse_int_empty _ _ _).mono ?_; rintro e w' ⟨rfl, rfl⟩)
      go_ret
      exact ⟨_, rfl, hown, hb⟩
    · obtain ⟨b, off, hAd, hlt, hc⟩ := hr.plain (by omega) (by omega)
      injection hAd with hAd
      subst hAd
      have hcells : Hid (∀ j, j < l.length → w.cell? ⟨b, off + j, none⟩ = some (.int .i64 (l.getD j 0))) := fun j hj => hc j _ (by rw [iv_getElem?, List.getElem?_eq_getElem hj]; simp [List.getD, List.getElem?_eq_getElem hj])
      clear hr hc
      go_enter Try.func19, Try.ntmps19
      go_wp2_with (fail)
      refine (Try.slices_Clone_int b off l.length c l _ (Nat.le_refl _) (by omega) hcells.out).mono ?_
      rintro e w1 ⟨v', rfl, hown, _, hb⟩
      rw [List.take_length] at hown
      have hown2 := hown
      rcases hown2.2 with ⟨_, h00⟩ | ⟨g, cap, cur, rfl, hg, hh, hn, hm, hcs, htake⟩
      · exact absurd h00 h0
      · have hH : Hid (Holds (Value.int .i64) w1 g 0 l.toArray) := by
          intro j hj
          have hj' : j < l.length := by simpa using hj
          refine ⟨?_, ?_⟩
          · have := hown.cells (g := g) rfl j (.int .i64 l[j]) (by simp [hj'])
            have e : (⟨g, 0, none⟩ : Addr).add j = ⟨g, 0 + j, none⟩ := by unfold Addr.add; split <;> simp_all
            rw [e] at this
            simpa [getElem!_pos, hj'] using this
          · simp [World.frozen?, hh]
        have HR := hide (fun m => own_putRow (m := m) (n := l.length) (l := l.reverse) hg hh (by simpa using hcs) hn hm (by simp))
        have HT := hide (fun m => touch_putRow (w := w1) (g := g) (m := m) (F := fun k => w.heap.size ≤ k) (l := l.reverse) (fun _ => hg))
        have HB := hide hb
        clear hown hown2 hh htake hcs hb
        go_wp2_with (fail)
        refine (Try.slices_Reverse_int g 0 cap l _ hH.out (by omega)).mono ?_
        rintro e w2 ⟨rfl, m, rfl⟩
        have hz : w.heap.size ≤ w1.heap.size := HB.out.size
        go_wp2
        go_ret
        refine ⟨_, rfl, ?_, HB.out.trans ((HT.out m).below (by omega) (fun k hk => hk))⟩
        have := HR.out m
        rw [List.length_reverse]
        exact this
end Go.Proofs.Ytkicocaejfhgiaa
