/- Look: contracts: openTwin. -/
import Derived.Test.YtaijgnhkdbdfcaaLookL
namespace Go.Proofs.Ytaijgnhkdbdfcaa
open Go.ChangeShapes Go.WideShapes Go.ChangeAt Go.RowKit
set_option linter.unusedVariables false

/-- units in a row from base on -/
def OwnO (w : World) (base : Nat) (O : List Ou) (A : Option Addr) (n c : Nat) : Prop := ∃ os, w.ownsRow base 56 3 (.slice A n c) n os ∧ OusAre w O os
def GivesO (w : World) (O : List Ou) (e : Ending) (w' : World) : Prop := ∃ A c, e = .returned (.slice A O.length c) ∧ OwnO w' w.heap.size O A O.length c ∧ Ext w w'
theorem mvs_one (l : List Mv) : ∀ u ∈ mvs l, u.oneCell' = true := by
  intro u hu
  obtain ⟨x, _, hx⟩ := List.mem_flatMap.1 hu
  simp only [mvc, List.mem_cons, List.not_mem_nil, or_false] at hx
  rcases hx with rfl | rfl | rfl | rfl <;> rfl
theorem no_cap {w : World} {b e m n c : Nat} {A : Option Addr} {xs : List Value} (h : w.ownsRow b e m (.slice A n c) n xs) : A = none → c = 0 := by
  obtain ⟨_, _, e1, h1, _⟩ := own_form h
  injection e1 with a b c
  subst a c
  exact h1
theorem Ext.of_below {a b : World} {B : Nat} (h : Below B a b) (hb : a.heap.size ≤ B) : Ext a b := Below.mono h hb
theorem round_O {w wr w2 : World} {B g c n k : Nat} {O : List Ou} {os : List Value} {x : Ou} {A' : Option Addr} {c' : Nat} (hB : w.heap.size ≤ B) (ho : wr.ownsRow B 56 3 (.slice (some ⟨g, 0, none⟩) n c) n os) (hos : OusAre wr O os) (hx : O[k]? = some x) (hw : Ext w wr) (he : Ext wr w2) (hm : w2.ownsRow wr.heap.size 54 4 (.slice A' x.mv.length c') x.mv.length (mvs x.mv)) :
    OwnO (w2.setCell ⟨g, k * 3 + 1, none⟩ (.slice A' x.mv.length c')) B O (some ⟨g, 0, none⟩) n c ∧ Ext w (w2.setCell ⟨g, k * 3 + 1, none⟩ (.slice A' x.mv.length c')) := by
  have ho2 := he.own ho
  have hst := (ho2.stored (k * 3 + 1) (.slice A' x.mv.length c')).1
  obtain ⟨cs, hB2⟩ := own_block ho2 rfl
  refine ⟨⟨_, hst, ?_⟩, (hw.trans he).set_ (p := ⟨g, k * 3 + 1, none⟩) (Nat.le_trans hB (own_ge ho2 rfl)) _⟩
  have ht := touch_set w2 g (k * 3 + 1) (.slice A' x.mv.length c')
  exact ((hos.ext he).setM k x hx (own_base hm (Nat.zero_le _))).keep fun _ _ _ hr => row_apart1 ht hB2 hr (by decide)
set_option maxRecDepth 100000 in
set_option maxHeartbeats 4000000 in
theorem openTwin_any (w : World) (b : Nat) (A : Option Addr) (c n : Nat) (O : List Ou) (hn : n = O.length) (ho : OwnO w b O A n c) (hm : ∀ x ∈ O, x.mv.length ≤ 1000) (hl : n ≤ 1000) :
    Calls Try.prog 29 #[.slice A n c] w (GivesO w O) := by
  obtain ⟨os, ho, hos⟩ := ho
  have HN := hide hn
  have HR := hide (own_reads ho)
  have HA := hide (no_cap ho)
  have HOS := hide hos
  have HM := hide hm
  clear hm hn ho hos
  go_enter Try.func29, Try.ntmps29
  go_wp2_with (go_at_call 35; refine (clone_opens A c n os _ HA.out HR.out HOS.out.one (by omega)).mono ?_; rintro e w1 ⟨A1, c1, rfl, ho1, he1⟩; have O1 := hide ho1; have E1 := hide he1; have OS1 := hide (HOS.out.ext he1); clear ho1 he1)
  go_loopw [8] (fun s8 wr => (∃ k : Nat, k ≤ n ∧ s8 = .int .i64 k ∧ Hid (OwnO wr w.heap.size O A1 n c1 ∧ Ext w wr))) (fun s8 _ => (n - intOf s8).toNat)
  case atStart => exact ⟨0, by omega, rfl, ⟨os, O1.out, OS1.out⟩, E1.out⟩
  case round =>
    obtain ⟨k, hk, rfl, hrel⟩ := hrel
    by_cases hlt : k < n
    · obtain ⟨x, hx⟩ : ∃ x, O[k]? = some x := ⟨_, List.getElem?_eq_getElem (by rw [← HN.out]; exact hlt)⟩
      have HX := hide hx
      obtain ⟨⟨os', hro, hro2⟩, hre⟩ := hrel.out
      obtain ⟨g, rfl⟩ : ∃ g, A1 = some ⟨g, 0, none⟩ := by
        obtain ⟨g, cp, hv', _, _⟩ := hro.form (by omega)
        injection hv' with hv1 _ _
        exact ⟨g, hv1⟩
      obtain ⟨Am, cm, h0, h1, h2, h3⟩ := hro2.2 k x hx
      have HRO := hide hro
      have HRO2 := hide hro2
      have HRE := hide hre
      have HAm := hide (no_cap h3)
      have HRm := hide (own_reads h3)
      have hmx := HM.out x (List.mem_of_getElem? hx)
      have gc : wr.cell? ⟨g, k * 3 + 1, none⟩ = some (.slice Am x.mv.length cm) := by rw [hro.cellAt (k * 3 + 1) (by omega)]; exact h1
      have H1 := hide (mvs_one x.mv)
      have dn : decide ((k : Int) < (n : Int)) = true := decide_eq_true (by omega)
      clear h0 h1 h2 h3 hro hro2 hre hx hrel
      go_wp2_with (go_at_call 25; refine (clone_moves Am cm x.mv.length (mvs x.mv) _ HAm.out HRm.out H1.out (by omega)).mono ?_; rintro e w2 ⟨A2, c2, rfl, ho2, he2⟩; have O2 := hide ho2; have E2 := hide he2; have g2 : w2.cell? ⟨g, k * 3 + 1, none⟩ = some (.slice Am x.mv.length cm) := (he2.cell (World.block_lt_of_cell? _ _ gc)).trans gc; have f2 : w2.frozen? ⟨g, k * 3 + 1, none⟩ = false := (he2.own HRO.out).frozenAt _; clear ho2 he2)
      go_roundw
      case rel => exact ⟨k + 1, by omega, by go_num, round_O (Nat.le_refl _) HRO.out HRO2.out HX.out HRE.out E2.out O2.out⟩
      case measure => simp [intOf]; omega
    · have dn : decide ((k : Int) < (n : Int)) = false := decide_eq_false (by omega)
      go_wp2_with (fail)
      go_ret
      exact ⟨A1, c1, by rw [HN.out]; rfl, by rw [← HN.out]; exact hrel.out.1, hrel.out.2⟩
end Go.Proofs.Ytaijgnhkdbdfcaa
