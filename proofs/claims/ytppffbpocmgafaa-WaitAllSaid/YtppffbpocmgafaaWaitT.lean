/- Wait: the reference graph: On. -/
import Derived.Test.YtppffbpocmgafaaWaitS
import Derived.Test.YtppffbpocmgafaaWaitR
namespace Go.Proofs.Ytppffbpocmgafaa
open Go.ChangeShapes Go.WideShapes Go.ChangeAt Go.RowKit Go.Maps
set_option linter.unusedVariables false

/-- whom one waits for, by the first k edges -/
def onL (el : List (Int × Int)) (who : Int) : Nat → List Int
  | 0 => []
  | k + 1 => match el[k]? with
    | some p => if p.1 = who then ins p.2 (onL el who k) else onL el who k
    | none => onL el who k
theorem onL_rises (el : List (Int × Int)) (who : Int) : ∀ k, Rises (onL el who k)
  | 0 => List.Pairwise.nil
  | k + 1 => by
    unfold onL
    split
    · split
      · exact ins_rises _ _ (onL_rises el who k)
      · exact onL_rises el who k
    · exact onL_rises el who k
theorem onL_le (el : List (Int × Int)) (who : Int) : ∀ k, (onL el who k).length ≤ k
  | 0 => Nat.le_refl _
  | k + 1 => by
    have ih := onL_le el who k
    unfold onL
    split
    · rename_i p hp
      split
      · rcases ins_len p.2 _ (onL_rises el who k) with h | h <;> omega
      · omega
    · omega
theorem onL_mem (el : List (Int × Int)) (who y : Int) : ∀ k, y ∈ onL el who k ↔ (who, y) ∈ el.take k
  | 0 => by simp [onL]
  | k + 1 => by
    have ih := onL_mem el who y k
    unfold onL
    rw [List.take_add_one]
    split
    · rename_i p hp
      rw [hp]
      split
      · rename_i e
        rw [ins_mem, ih]
        simp
        constructor
        · rintro (h | h)
          · exact .inr (by rw [← e, h])
          · exact .inl h
        · rintro (h | h)
          · exact .inr h
          · exact .inl (by rw [← h])
      · rename_i e
        rw [ih]
        simp
        intro h
        exact absurd (by rw [← h]) e
    · rename_i hp
      rw [hp, ih]
      simp
structure Ro (w wr : World) (el : List (Int × Int)) (who : Int) (v : Value) (k : Nat) : Prop where
  row : ∃ A c, v = .slice A (onL el who k).length c ∧ Reads wr wr.heap.size 1 A (onL el who k).length (iv (onL el who k)) ∧ (onL el who k).length ≤ c ∧ c ≤ maxLen ∧ (A = none → c = 0)
  ext : Ext w wr
set_option maxRecDepth 100000 in
set_option maxHeartbeats 4000000 in
theorem ron_any (base r : Nat) (el : List (Int × Int)) (who : Int) (w : World) (h : Rf w base r el) (hl : el.length ≤ 100000) :
    Calls Try.prog 17 #[.pointer (some ⟨r, 0, none⟩), .int .i64 who] w (GivesRow w (onL el who el.length)) := by
  obtain ⟨n, hn⟩ : ∃ n, n = el.length := ⟨_, rfl⟩
  obtain ⟨v, h1, h2, h3⟩ := h
  rw [← hn] at h2 hl ⊢
  obtain ⟨A, c, hv, hA, _⟩ := own_form h2
  subst hv
  have HB := hide h1
  have HO := hide h2
  have HN := hide hn
  clear h1 h2 hn hA
  go_enter Try.func17, Try.ntmps17
  go_wp2_with (fail)
  go_loopw [5, 6] (fun s5 s6 wr => (∃ k : Nat, k ≤ n ∧ s6 = .int .i64 k ∧ Hid (Ro w wr el who s5 k))) (fun _ s6 _ => (n - intOf s6).toNat)
  case atStart => exact ⟨0, by omega, rfl, ⟨none, 0, rfl, ⟨rfl, fun h => absurd h (by simp [onL])⟩, Nat.le_refl _, Nat.zero_le _, fun _ => rfl⟩, Ext.refl _⟩
  case round =>
    obtain ⟨k, hk, rfl, hs⟩ := hrel
    have c0 := (hs.out.ext.blk HB.out).cell 0
    simp at c0
    by_cases hlt : k < n
    · obtain ⟨b, cap, hve, _, hbl⟩ := HO.out.form (by omega)
      have hAe : A = some ⟨b, 0, none⟩ := by injection hve
      subst hAe
      have hkl : k < el.length := by have := HN.out; omega
      obtain ⟨x, y, hp⟩ : ∃ x y, el[k]? = some (x, y) := ⟨_, _, List.getElem?_eq_getElem hkl⟩
      have g0 : wr.cell? ⟨b, k * 2, none⟩ = some (.int .i64 x) := by
        have := (hs.out.ext.own HO.out).cells (g := b) rfl (k * 2) _ (fl_at el k _ hp).1
        have e : (⟨b, 0, none⟩ : Addr).add (k * 2) = ⟨b, k * 2, none⟩ := by unfold Addr.add; split <;> simp_all
        rwa [e] at this
      have g1 : wr.cell? ⟨b, k * 2 + 1, none⟩ = some (.int .i64 y) := by
        have := (hs.out.ext.own HO.out).cells (g := b) rfl (k * 2 + 1) _ (fl_at el k _ hp).2
        have e : (⟨b, 0, none⟩ : Addr).add (k * 2 + 1) = ⟨b, k * 2 + 1, none⟩ := by unfold Addr.add; split <;> simp_all
        rwa [e] at this
      have hstep : onL el who (k + 1) = if x = who then ins y (onL el who k) else onL el who k := by
        show (match el[k]? with | some p => if p.1 = who then ins p.2 (onL el who k) else onL el who k | none => onL el who k) = _
        rw [hp]
      have HST := hide hstep
      clear hp hkl hve hstep
      by_cases hx : x = who
      · have e0 : (x == who) = true := by simp [hx]
        have e1 := hide (show onL el who (k + 1) = ins y (onL el who k) by rw [HST.out, if_pos hx])
        obtain ⟨⟨A5, c5, rfl, r5, l5, m5, z5⟩, x5⟩ := hs.out
        have hle := onL_le el who k
        obtain ⟨q, hq⟩ : ∃ q, q = (onL el who k).length := ⟨_, rfl⟩
        have HQ := hide hq
        rw [← hq] at r5 l5 hle ⊢
        have R5 := hide r5
        have X5 := hide x5
        have M5 := hide m5
        have Z5 := hide z5
        clear hx hs r5 x5 m5 z5 HST hq
        go_wp2_with (fail)
        refine (rise_any A5 c5 q (onL el who k) y wr HQ.out.symm R5.out l5 M5.out Z5.out (by omega)).mono ?_
        rintro e w4 ⟨A6, c6, rfl, r6, l6, m6, z6, x6⟩
        rw [← e1.out] at r6 l6 ⊢
        have hn1 : Hid (Ro w w4 el who (.slice A6 (onL el who (k + 1)).length c6) (k + 1)) := ⟨⟨A6, c6, rfl, r6, l6, m6, z6⟩, X5.out.trans x6⟩
        clear r6 l6 m6 z6 x6
        go_wp2
        go_roundw
        case rel => exact ⟨k + 1, by omega, by go_num, hn1.out⟩
        case measure => simp [intOf]; omega
      · have e0 : (x == who) = false := by simp [hx]
        have e1 : onL el who (k + 1) = onL el who k := by rw [HST.out, if_neg hx]
        have hn1 : Hid (Ro w wr el who u5 (k + 1)) := ⟨by rw [e1]; exact hs.out.row, hs.out.ext⟩
        clear hx hs e1
        go_wp2
        go_roundw
        case rel => exact ⟨k + 1, by omega, by go_num, hn1.out⟩
        case measure => simp [intOf]; omega
    · obtain rfl : k = n := by omega
      obtain ⟨⟨A5, c5, rfl, r5, l5, m5, z5⟩, x5⟩ := hs.out
      have hF := hide (show GivesRow w (onL el who k) (.returned (.slice A5 (onL el who k).length c5)) wr from ⟨A5, c5, rfl, r5, l5, m5, z5, x5⟩)
      clear hs r5 l5 m5 z5 x5
      go_wp2
      go_ret
      exact hF.out
end Go.Proofs.Ytppffbpocmgafaa
