/- LockApart: the walk. -/
import Derived.Test.YtebflbpjmpmnjaaLockB
namespace Go.Proofs.Ytebflbpjmpmnjaa
open Go.ChangeShapes Go.WideShapes Go.ChangeAt Go.RowKit
theorem joinP_zero {m : Int} (h0 : 0 < m) (h1 : m ≤ 4) : joinP 0 m = m := by
  unfold joinP
  rw [if_pos (by omega), if_neg (by omega)]
  omega
theorem u8_nat {z : Int} (h : (Lit.int .u8 z).wf = true) : ∃ n : Nat, z = n ∧ n < 256 := by
  have : 0 ≤ z ∧ z ≤ 255 := by simpa [Lit.wf, IntKind.min, IntKind.max, IntKind.signed, IntKind.bits] using h
  exact ⟨z.toNat, by omega, by omega⟩
def sa : ByteArray := ⟨#[97]⟩
def sb : ByteArray := ⟨#[98]⟩
theorem sza : Sz sa := by unfold Sz; decide
theorem szb : Sz sb := by unfold Sz; decide
theorem sab : sa ≠ sb := by decide
/-- nobody holds it: it is granted -/
theorem others_none {F : ByteArray → Int → Int} {s : ByteArray} (who md : Int) (h : ∀ x, F s x = 0) : Others F s who md [] := ⟨List.Pairwise.nil, fun x => by simp [h]⟩
end Go.Proofs.Ytebflbpjmpmnjaa
namespace Go.Proofs.Ytebflbpjmpmnjaa.lockApart
open Go.ChangeShapes Go.WideShapes Go.ChangeAt Go.RowKit Go.Maps
set_option linter.unusedVariables false

set_option maxRecDepth 100000 in
set_option maxHeartbeats 4000000 in
theorem walk_any (a b : Nat) (w : World) (ha : a < 256) (hb : b < 256) : Calls Try.prog 4 #[.int .u8 a, .int .u8 b] w fun e w' => e = .returned (.bool true) ∧ Ext w w' := by
  have w1 := hide (wf_small (x := 1) (by decide) (by decide))
  have w2 := hide (wf_small (x := 2) (by decide) (by decide))
  have SA := hide sza
  have SB := hide szb
  have SA' := hide (show Sz ⟨#[97]⟩ from sza)
  have SB' := hide (show Sz ⟨#[98]⟩ from szb)
  obtain ⟨p, hp⟩ : ∃ p, p = a % 4 := ⟨_, rfl⟩
  obtain ⟨q, hq⟩ : ∃ q, q = b % 4 := ⟨_, rfl⟩
  have hp1 : (a : Int) % 4 = (p : Int) := by omega
  have hq1 : (b : Int) % 4 = (q : Int) := by omega
  have hp4 : (p : Int) < 4 := by omega
  have hq4 : (q : Int) < 4 := by omega
  have hp0 : (0 : Int) ≤ (p : Int) := by omega
  have hq0 : (0 : Int) ≤ (q : Int) := by omega
  clear hp hq
  go_enter Try.func4, Try.ntmps4
  go_wp2_with (go_at_call 8; refine (begun_any _).mono ?_; rintro e W ⟨rfl, b1⟩)
  refine (has_new W).mono ?_
  rintro e wa ⟨rfl, ha'⟩
  have BW := hide b1
  have HA := hide ha'
  clear ha' b1
  go_wp2_with (fail)
  refine (ask_yes W wa _ 0 0 F0 sa 1 (1 + (p : Int)) HA.out w1.out SA.out (by omega) (by omega) (by decide) (by decide) (others0 _ _ _)).mono ?_
  rintro e wb ⟨rfl, hb', _⟩
  obtain ⟨G, hG⟩ : ∃ G, G = setF F0 sa 1 (1 + (p : Int)) := ⟨_, rfl⟩
  rw [← hG] at hb'
  have HB := hide hb'
  have hGa : ∀ s x, G s x = if s = sa ∧ x = 1 then 1 + (p : Int) else 0 := fun s x => by
    rw [hG, setF_at]
    have e : joinP (F0 sa 1) (1 + (p : Int)) = 1 + (p : Int) := joinP_zero (by omega) (by omega)
    rw [e]
    by_cases h : s = sa <;> by_cases h2 : x = 1 <;> simp [h, h2, F0]
  have HGA := hide hGa
  clear hb' hG hGa
  go_wp2_with (fail)
  refine (ask_yes W wb _ 1 1 G sb 2 (1 + (q : Int)) HB.out w2.out SB.out (by omega) (by omega) (by decide) (by decide) (others_none _ _ (fun x => by rw [HGA.out, if_neg (fun h => sab h.1.symm)]))).mono ?_
  rintro e wc ⟨rfl, hc', _⟩
  obtain ⟨E, hE⟩ : ∃ E, E = setF G sb 2 (1 + (q : Int)) := ⟨_, rfl⟩
  rw [← hE] at hc'
  have HC := hide hc'
  have e1 : E sa 1 = 1 + (p : Int) := by rw [hE, setF_at, if_neg sab, HGA.out]; simp
  have e2 : E sb 2 = 1 + (q : Int) := by
    rw [hE, setF_at, if_pos rfl, if_pos rfl, HGA.out, if_neg (fun h => sab h.1.symm)]
    exact joinP_zero (by omega) (by omega)
  have e3 : E sb 1 = 0 := by rw [hE, setF_at, if_pos rfl, if_neg (by decide), HGA.out, if_neg (fun h => sab h.1.symm)]
  have e4 : E sa 2 = 0 := by rw [hE, setF_at, if_neg sab, HGA.out, if_neg (fun h => absurd h.2 (by decide))]
  clear hc' hE
  go_wp2_with (first
    | (go_at_call 12; (with_reducible refine (has_held W _ _ 2 2 E 1 ⟨#[97]⟩ HC.out w1.out SA'.out).mono ?_); rintro e w' ⟨rfl, rfl⟩; rw [show E ⟨#[97]⟩ 1 = 1 + (p : Int) from e1])
    | (go_at_call 12; (with_reducible refine (has_held W _ _ 2 2 E 2 ⟨#[98]⟩ HC.out w2.out SB'.out).mono ?_); rintro e w' ⟨rfl, rfl⟩; rw [show E ⟨#[98]⟩ 2 = 1 + (q : Int) from e2])
    | (go_at_call 12; (with_reducible refine (has_held W _ _ 2 2 E 1 ⟨#[98]⟩ HC.out w1.out SB'.out).mono ?_); rintro e w' ⟨rfl, rfl⟩; rw [show E ⟨#[98]⟩ 1 = 0 from e3])
    | (go_at_call 12; (with_reducible refine (has_held W _ _ 2 2 E 2 ⟨#[97]⟩ HC.out w2.out SA'.out).mono ?_); rintro e w' ⟨rfl, rfl⟩; rw [show E ⟨#[97]⟩ 2 = 0 from e4]))
  go_ret
  exact ⟨rfl, BW.out.trans HC.out.world⟩
end Go.Proofs.Ytebflbpjmpmnjaa.lockApart
