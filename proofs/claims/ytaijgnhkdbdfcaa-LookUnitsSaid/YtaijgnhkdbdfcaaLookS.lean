/- Look: contracts: which unit an entry is of. -/
import Derived.Test.YtaijgnhkdbdfcaaLookR
namespace Go.Proofs.Ytaijgnhkdbdfcaa
open Go.ChangeShapes Go.WideShapes Go.ChangeAt Go.RowKit
set_option linter.unusedVariables false

/-- where a unit stands -/
def idxO : List Ou → Int → Option Nat
  | [], _ => none
  | x :: l, u => if x.u = u then some 0 else (idxO l u).map (· + 1)
def idxI : Option Nat → Int
  | some i => (i : Int)
  | none => -1
theorem idxO_some : ∀ (l : List Ou) (u : Int) (i : Nat) (x : Ou), (∀ j y, j < i → l[j]? = some y → ¬ y.u = u) → l[i]? = some x → x.u = u → idxO l u = some i
  | [], u, i, x, _, h, _ => by simp at h
  | a :: l, u, 0, x, _, h, hx => by
    simp at h
    subst h
    simp [idxO, hx]
  | a :: l, u, i + 1, x, hb, h, hx => by
    have h0 := hb 0 a (by omega) rfl
    have ih := idxO_some l u i x (fun j y hj hy => hb (j + 1) y (by omega) (by simpa using hy)) (by simpa using h) hx
    simp [idxO, h0, ih]
theorem idxO_none : ∀ (l : List Ou) (u : Int), (∀ (j : Nat) (y : Ou), l[j]? = some y → ¬ y.u = u) → idxO l u = none
  | [], u, _ => rfl
  | a :: l, u, hb => by
    have h0 := hb 0 a rfl
    have ih := idxO_none l u (fun j y hy => hb (j + 1) y (by simpa using hy))
    simp [idxO, h0, ih]
theorem idxO_at : ∀ (l : List Ou) (u : Int) (i : Nat), idxO l u = some i → ∃ x, l[i]? = some x ∧ x.u = u
  | [], u, i, h => by simp [idxO] at h
  | a :: l, u, i, h => by
    unfold idxO at h
    by_cases h0 : a.u = u
    · rw [if_pos h0] at h
      injection h with h
      subst h
      exact ⟨a, rfl, h0⟩
    · rw [if_neg h0] at h
      cases hi : idxO l u with
      | none => rw [hi] at h; cases h
      | some k =>
        rw [hi] at h
        injection h with h
        subst h
        obtain ⟨x, hx, hx2⟩ := idxO_at l u k hi
        exact ⟨x, by simpa using hx, hx2⟩
set_option maxRecDepth 100000 in
set_option maxHeartbeats 4000000 in
theorem clo_any (w : World) (eb : Nat) (A : Option Addr) (n c : Nat) (u d eu : Int) (h : w.cell? ⟨eb, 2, none⟩ = some (.int .i64 eu)) :
    Calls Try.prog 21 #[.agg #[.int .i64 u, .slice A n c, .int .i64 d], .pointer (some ⟨eb, 0, none⟩)] w fun e w' => e = .returned (.bool (u == eu)) ∧ Ext w w' := by
  have h' : (w.alloc (.cells #[.int .i64 u, .slice A n c, .int .i64 d] 56)).cell? ⟨eb, 2, none⟩ = some (.int .i64 eu) := ((Ext.new w _).cell (World.block_lt_of_cell? _ _ h)).trans h
  go_enter Try.func21, Try.ntmps21
  go_wp2_with (fail)
  go_ret
  exact ⟨rfl, Ext.new w _⟩
theorem Ext.ous {a b : World} {l : List Ou} {xs : List Value} (h : Ext a b) (k : OusAre a l xs) : OusAre b l xs := k.ext h
set_option maxRecDepth 100000 in
set_option maxHeartbeats 4000000 in
theorem index_any (w : World) (b eb : Nat) (A : Option Addr) (c n : Nat) (O : List Ou) (eu : Int) (hn : n = O.length) (ho : OwnO w b O A n c) (hl : n ≤ 1000) (he : w.cell? ⟨eb, 2, none⟩ = some (.int .i64 eu)) :
    Calls Try.prog 20 #[.slice A n c, .func (.func 21) #[] #[.pointer (some ⟨eb, 0, none⟩)]] w fun e w' => e = .returned (.int .i64 (idxI (idxO O eu))) ∧ Ext w w' := by
  obtain ⟨os, ho, hos⟩ := ho
  have HN := hide hn
  have HO := hide ho
  have HOS := hide hos
  have HE := hide he
  clear hn ho hos he
  go_enter Try.func20, Try.ntmps20
  go_wp2_with (fail)
  go_loopw [8] (fun s8 wr => (∃ k : Nat, k ≤ n ∧ s8 = .int .i64 k ∧ Hid (Ext w wr) ∧ Hid (∀ j y, j < k → O[j]? = some y → ¬ y.u = eu))) (fun s8 _ => (n - intOf s8).toNat)
  case atStart => exact ⟨0, by omega, rfl, Ext.refl w, fun j y hj => absurd hj (by omega)⟩
  case round =>
    obtain ⟨k, hk, rfl, hX, hb⟩ := hrel
    by_cases hlt : k < n
    · obtain ⟨x, hx⟩ : ∃ x, O[k]? = some x := ⟨_, List.getElem?_eq_getElem (by rw [← HN.out]; exact hlt)⟩
      have HX := hide hx
      obtain ⟨g, rfl⟩ : ∃ g, A = some ⟨g, 0, none⟩ := by
        obtain ⟨g, cp, hv', _, _⟩ := HO.out.form (by omega)
        injection hv' with hv1 _ _
        exact ⟨g, hv1⟩
      have OR := hide (hX.out.own HO.out)
      obtain ⟨Am, cm, h0, h1, h2, h3⟩ := HOS.out.2 k x hx
      have g0 : wr.cell? ⟨g, k * 3, none⟩ = some (.int .i64 x.u) := by rw [OR.out.cellAt _ (by omega)]; exact h0
      have g1 : wr.cell? ⟨g, k * 3 + 1, none⟩ = some (.slice Am x.mv.length cm) := by rw [OR.out.cellAt _ (by omega)]; exact h1
      have g2 : wr.cell? ⟨g, k * 3 + 2, none⟩ = some (.int .i64 x.d) := by rw [OR.out.cellAt _ (by omega)]; exact h2
      have GE := hide (show wr.cell? ⟨eb, 2, none⟩ = some (.int .i64 eu) from (hX.out.cell (World.block_lt_of_cell? _ _ HE.out)).trans HE.out)
      have dn : decide ((k : Int) < (n : Int)) = true := decide_eq_true (by omega)
      clear h0 h1 h2 h3 hx
      by_cases hxu : x.u = eu
      · have HF := hide (idxO_some O eu k x hb.out HX.out hxu)
        have de : (x.u == eu) = true := by simpa using hxu
        clear hxu
        go_wp2_with (go_at_call 21; refine (clo_any _ eb Am x.mv.length cm x.u x.d eu GE.out).mono ?_; rintro e w2 ⟨rfl, he2⟩; have X2 := hide he2; clear he2)
        go_ret
        exact ⟨by rw [HF.out]; rfl, hX.out.trans X2.out⟩
      · have de : (x.u == eu) = false := by simpa using hxu
        have HXU := hide hxu
        clear hxu
        go_wp2_with (go_at_call 21; refine (clo_any _ eb Am x.mv.length cm x.u x.d eu GE.out).mono ?_; rintro e w2 ⟨rfl, he2⟩; have X2 := hide he2; clear he2)
        go_roundw
        case rel => exact ⟨k + 1, by omega, by go_num, hX.out.trans X2.out, fun j y hj hy => by
          rcases Nat.lt_or_ge j k with h | h
          · exact hb.out j y h hy
          · obtain rfl : j = k := by omega
            rw [HX.out] at hy
            injection hy with hy
            subst hy
            exact HXU.out⟩
        case measure => simp [intOf]; omega
    · have dn : decide ((k : Int) < (n : Int)) = false := decide_eq_false (by omega)
      have HF := hide (idxO_none O eu (fun j y hy => hb.out j y (by have := (List.getElem?_eq_some_iff.1 hy).1; have := HN.out; omega) hy))
      go_wp2_with (fail)
      go_ret
      exact ⟨by rw [HF.out]; rfl, hX.out⟩
end Go.Proofs.Ytaijgnhkdbdfcaa
