/- Tile: contract: same: both disks say the same. -/
import Derived.Test.YtpbenpkgbhmldaaTileE
import Derived.BigQuiet
import Derived.Deep.QuietTactic
namespace Go.Proofs.Ytpbenpkgbhmldaa
open Go.ChangeShapes Go.WideShapes Go.ChangeAt Go.RowKit Go.Maps
set_option linter.unusedVariables false

/-- what both Reads say: bytes and an error -/
def Says (w w' : World) (e : Ending) (l : List UInt8) (n : Nat) (x : Int) : Prop := ∃ A c, e = .returned (.tuple #[.slice A n c, .int .i64 x]) ∧ Reads w' w'.heap.size 1 A n (bv l) ∧ Ext w w'
theorem both_read {Y Z : Nat → Prop} {B : Nat} {w : World} {d r N : Nat} {dead : Bool} {T : List (List UInt8)} {U : Int → Option (List UInt8)} {pl : Option (Int × List UInt8)} (h : Disk Y Z w d N dead T U pl) (hr : Rf B w r dead T U pl) (x : Int) :
    ∃ l n y, (∀ w', Ext w w' → Calls Try.prog 17 #[.pointer (some ⟨d, 0, none⟩), .int .i64 x] w' (fun e w'' => Says w' w'' e l n y)) ∧ (∀ w', Ext w w' → Calls Try.prog 40 #[.pointer (some ⟨r, 0, none⟩), .int .i64 x] w' (fun e w'' => Says w' w'' e l n y)) := by
  cases dead with
  | true =>
    refine ⟨[], 0, 2, fun w' hx => (read_dead Y Z w' d N T U pl x (h.ext hx)).mono ?_, fun w' hx => (rread_dead x (hr.ext hx)).mono ?_⟩
    · rintro e w'' ⟨rfl, rfl⟩
      exact ⟨none, 0, rfl, Reads.none_, Ext.refl _⟩
    · rintro e w'' ⟨rfl, rfl⟩
      exact ⟨none, 0, rfl, Reads.none_, Ext.refl _⟩
  | false =>
    by_cases hx : x < 0 ∨ (T.length : Int) ≤ x
    · refine ⟨[], 0, 1, fun w' he => (read_out Y Z w' d N T U pl x (h.ext he) hx).mono ?_, fun w' he => (rread_out x (hr.ext he) hx).mono ?_⟩
      · rintro e w'' ⟨rfl, rfl⟩
        exact ⟨none, 0, rfl, Reads.none_, Ext.refl _⟩
      · rintro e w'' ⟨rfl, rfl⟩
        exact ⟨none, 0, rfl, Reads.none_, Ext.refl _⟩
    · obtain ⟨k, rfl⟩ : ∃ k : Nat, x = (k : Int) := ⟨x.toNat, by omega⟩
      obtain ⟨l, hl⟩ : ∃ l, T[k]? = some l := ⟨_, List.getElem?_eq_getElem (by omega)⟩
      have h64 := h.len64 hl
      refine ⟨l, 64, 0, fun w' he => (read_in Y Z w' d N T U pl k l (h.ext he) hl).mono ?_, fun w' he => (rread_in k l (hr.ext he) hl h64).mono ?_⟩
      · rintro e w'' ⟨A, c, rfl, _, ho, hx⟩
        exact ⟨A, c, rfl, Reads.of_own ho, hx⟩
      · rintro e w'' ⟨A, c, rfl, ho, hx⟩
        exact ⟨A, c, rfl, ho, hx⟩
set_option maxRecDepth 100000 in
set_option maxHeartbeats 16000000 in
theorem same_any {Y Z : Nat → Prop} {B : Nat} {w : World} {d r N : Nat} {dead : Bool} {T : List (List UInt8)} {U : Int → Option (List UInt8)} {pl : Option (Int × List UInt8)} (h : Disk Y Z w d N dead T U pl) (hr : Rf B w r dead T U pl) (hN : N ≤ 1048576) (hT : T.length ≤ 2000) :
    Calls Try.prog 28 #[.pointer (some ⟨d, 0, none⟩), .pointer (some ⟨r, 0, none⟩)] w fun e w' => e = .returned (.bool true) ∧ Ext w w' := by
  have HD := hide h
  have HF := hide hr
  clear h hr
  go_enter Try.func28, Try.ntmps28
  go_wp2_with (first
    | (go_at_call 18; refine (loose_to Y Z w d N dead T U pl HD.out hN).mono ?_; rintro e w1 ⟨A1, c1, rfl, ho1, hx1⟩; have O1 := hide ho1; have X1 := hide hx1; clear ho1 hx1)
    | (go_at_call 39; refine (rloose_any (HF.out.ext X1.out) hT).mono ?_; rintro e w2 ⟨A2, c2, rfl, ho2, hx2⟩; have O2 := hide ho2; have X2 := hide hx2; clear ho2 hx2))
  have X := hide (X1.out.trans X2.out)
  have HL := hide (keysTo_len U T.length)
  have O1' := hide (X2.out.own O1.out)
  obtain ⟨L, hL⟩ : ∃ L, L = keysTo U T.length := ⟨_, rfl⟩
  obtain ⟨m, hm⟩ : ∃ m, m = cnt U T.length := ⟨_, rfl⟩
  rw [← hL] at O1' O2 HL
  rw [← hm] at O1' O2 HL ⊢
  obtain ⟨n, hn⟩ : ∃ n, n = T.length := ⟨_, rfl⟩
  have HN := hide hn
  have hmn : m ≤ 2000 := by have := cnt_le U T.length; omega
  have hn2 : n ≤ 2000 := by omega
  clear O1 hL hm hn
  obtain ⟨AA1, AA2, AA3, Am, cc1, cc2, cc3, km, cm, on, pa, M, hrk, _⟩ := HF.out.ext X.out
  rw [← HN.out] at hrk
  have RK := hide hrk
  obtain ⟨y0, y1, y2, y3, y4, y5, y6⟩ := hrk.cells
  have hTD := hide (HD.out.ext X.out)
  clear hrk
  have TD := hide (show ∀ w', Ext w2 w' → Calls Try.prog 21 #[.pointer (some ⟨d, 0, none⟩)] w' (fun e w'' => e = .returned (.int .i64 n) ∧ w' = w'') from fun w' hx => by rw [HN.out]; exact tiles_any Y Z w' d N dead T U pl (hTD.out.ext hx))
  have DD := hide (show ∀ w', Ext w2 w' → Calls Try.prog 19 #[.pointer (some ⟨d, 0, none⟩)] w' (fun e w'' => e = .returned (.bool dead) ∧ w' = w'') from fun w' hx => dead_any Y Z w' d N dead T U pl (hTD.out.ext hx))
  have dd : (dead != dead) = false := by simp
  have dn : (n != n) = false := by simp
  have dm : (m != m) = false := by simp
  go_upto_region 2 with (fail)
  go_quiet (first
    | (go_at_call 19; exact Calls.quiet_of_same ((DD.out _ ((Ext.refl _).drewN _)).mono fun e w' ⟨h1, h2⟩ => ⟨h1, h2.symm⟩))
    | (go_at_call 21; exact Calls.quiet_of_same ((TD.out _ ((Ext.refl _).drewN _)).mono fun e w' ⟨h1, h2⟩ => ⟨h1, h2.symm⟩)))
  clear y0 y1 y2 y3 y4 y5 y6
  go_wp2_with (fail)
  go_loopw [7] (fun s7 wr => (∃ i : Nat, i ≤ m ∧ s7 = .int .i64 i ∧ Hid (Ext w2 wr))) (fun s7 _ => (m - intOf s7).toNat)
  case atStart => exact ⟨0, by omega, rfl, (Ext.refl _).drewN _⟩
  case round =>
    obtain ⟨i, hi, rfl, hx⟩ := hrel
    by_cases hlt : i < m
    · have hii : (i : Int) < (m : Int) := by omega
      have hi0 : (0 : Int) ≤ (i : Int) := by omega
      obtain ⟨x, hxx⟩ : ∃ x, L[i]? = some x := ⟨_, List.getElem?_eq_getElem (by rw [HL.out]; exact hlt)⟩
      obtain ⟨g1, d1, e1, _, _⟩ := O1'.out.form (by omega)
      obtain ⟨g2, d2, e2, _, _⟩ := O2.out.form (by omega)
      injection e1 with e1 _ e3
      injection e2 with e2 _ e4
      obtain rfl : d1 = c1 := e3.symm
      obtain rfl : d2 = c2 := e4.symm
      subst e1 e2
      have z1 := (hx.out.own O1'.out).cellAt i (by omega)
      have z2 := (hx.out.own O2.out).cellAt i (by omega)
      rw [show (iv L)[i]? = some (.int .i64 x) by simp [iv, hxx]] at z1 z2
      have dx : (x != x) = false := by simp
      clear hxx
      go_wp2_with (fail)
      go_quiet (fail)
      go_wp2_with (fail)
      go_roundw
      case rel => exact ⟨i + 1, by omega, by go_num, hx.out.drewN _⟩
      case measure => simp [intOf]; omega
    · obtain rfl : i = m := by omega
      have HX := hide hx.out
      clear hx
      go_wp2_with (fail)
      go_loopw [8] (fun s8 wr => (∃ j : Nat, j ≤ n + 2 ∧ s8 = .int .i64 ((j : Int) - 1) ∧ Hid (Ext w2 wr))) (fun s8 _ => ((n : Int) + 1 - intOf s8).toNat)
      case atStart => exact ⟨0, by omega, rfl, HX.out⟩
      case round =>
        obtain ⟨j, hj, rfl, hx⟩ := hrel
        obtain ⟨x, hxx⟩ : ∃ x : Int, x = (j : Int) - 1 := ⟨_, rfl⟩
        rw [← hxx]
        have HXX := hide hxx
        have hx1 : -1 ≤ x := by omega
        have hx2 : x ≤ (n : Int) + 1 := by omega
        have hj2 : (j : Int) = x + 1 := by omega
        have HJ := hide hj2
        clear hxx hj2
        obtain ⟨y0, y1, y2, y3, y4, y5, y6⟩ := (RK.out.ext hx.out).cells
        by_cases hlt : x ≤ (n : Int)
        · obtain ⟨l, nn, yy, b1, b2⟩ := both_read (hTD.out.ext hx.out) (HF.out.ext (X.out.trans hx.out)) x
          have B1 := hide b1
          have B2 := hide b2
          obtain ⟨S, hS⟩ : ∃ S, S = str l := ⟨_, rfl⟩
          have HS := hide hS
          clear b1 b2 hS
          have dy : (yy != yy) = false := by simp
          go_wp2_with (fail)
          refine (B1.out _ (Ext.refl _)).mono ?_
          rintro e w3 ⟨A3, c3, rfl, hr3, hx3⟩
          have R3 := hide hr3
          have X3 := hide hx3
          clear hr3 hx3
          go_wp2_with (fail)
          refine (B2.out _ X3.out).mono ?_
          rintro e w4 ⟨A4, c4, rfl, hr4, hx4⟩
          have q3 := conv_reads (c := c3) (hx4.read R3.out)
          have q4 := conv_reads (c := c4) hr4
          rw [← HS.out] at q3 q4
          have X4 := hide (X3.out.trans hx4)
          clear hr4 hx4 y0 y1 y2 y3 y4 y5 y6
          go_wp2_with (fail)
          go_roundw
          case rel => exact ⟨j + 1, by have := HJ.out; omega, by rw [show (((j + 1 : Nat) : Int) - 1) = x + 1 by have := HJ.out; omega], hx.out.trans X4.out⟩
          case measure => simp [intOf]; have := HJ.out; omega
        · go_wp2_with (fail)
          go_ret
          exact ⟨rfl, X.out.trans hx.out⟩
end Go.Proofs.Ytpbenpkgbhmldaa
