/- TileLent: the walk. -/
import Derived.Test.YtpbenpkgbhmldaaTileY
import Derived.Deep.Cut
import Derived.Deep.DeepCutAuto
import Derived.Deep.CutBlock
namespace Go.Proofs.Ytpbenpkgbhmldaa.tileLent
open Go.ChangeShapes Go.WideShapes Go.ChangeAt Go.RowKit Go.Maps
set_option linter.unusedVariables false

/-- a block that is none of the disk's turns -/
theorem apart {Y Z : Nat → Prop} {w : World} {g N : Nat} {dead : Bool} {T : List (List UInt8)} {U : Int → Option (List UInt8)} {pl : Option (Int × List UInt8)} {b k : Nat} {u : Value} (h : Disk Y Z w g N dead T U pl) (hY : ¬ Y b) (hZ : ¬ Z b) : Disk Y Z (w.setCell ⟨b, k, none⟩ u) g N dead T U pl := by
  have ht : Touch w (w.setCell ⟨b, k, none⟩ u) (fun x => x = b) := Touch.setCell (F := fun x => x = b) (p := ⟨b, k, none⟩) (Touch.refl w _) (fun _ => rfl) u
  refine h.touch ht (fun x hx e => ?_) (fun v l hv => hv.touch ht (fun x hx e => ?_))
  · subst e; exact absurd hx hY
  · subst e; exact hZ (hv.2 _ hx)
set_option maxRecDepth 100000 in
set_option maxHeartbeats 8000000 in
theorem walk_any (c k0 : Nat) (w : World) (hc : c < 256) (hk0 : k0 < 256) : Calls Try.prog 6 #[.int .u8 c, .int .u8 k0] w fun e w' => e = .returned (.bool true) ∧ Ext w w' := by
  obtain ⟨kk, hkk⟩ : ∃ kk : Nat, k0 % 64 = kk := ⟨_, rfl⟩
  have e1 : (k0 : Int) % 64 = (kk : Int) := by omega
  have hk1 : (kk : Int) < 64 := by omega
  have hk3 : (k0 : Int) < 256 := by omega
  have hk2 : (0 : Int) ≤ (kk : Int) := by omega
  have HK := hide (show kk < 64 by omega)
  have HC := hide hc
  have hc2 : (c : Int) < 256 := by omega
  obtain ⟨S, hS⟩ : ∃ S, S = str (rep (UInt8.ofNat c)) := ⟨_, rfl⟩
  have HS := hide hS
  clear hkk hc hk0 hS
  go_enter Try.func6, Try.ntmps6
  go_wp2_with (go_at_call 10; refine (begun_any _).mono ?_; rintro e W ⟨rfl, b1⟩)
  refine (new_any 2 2 2 W (by decide) (by decide)).mono ?_
  rintro e wa ⟨rfl, ha, xa⟩
  have BW := hide b1
  have HA := hide ha
  have XA := hide xa
  clear ha xa b1
  go_wp2_with (fail)
  refine (full_any c wa HC.out).mono ?_
  rintro e w2 ⟨bb, rfl, hb2, hbb, hx2⟩
  have B2 := hide hb2
  have HBB := hide hbb
  have D2 := hide (show Disk (fun k => Fr W k ∧ k ≠ bb) (fun k => Fr W k ∧ k ≠ bb) w2 (W.heap.size + 1) 0 false (blanks 2) (fun _ => none) none from
    (HA.out.to (fun k h1 h2 => ⟨h2, by omega⟩) (fun k h1 h2 => ⟨h2, by omega⟩)).ext hx2)
  have X2 := hide (XA.out.trans hx2)
  have HXA := hide XA.out
  clear hb2 hbb hx2 HA XA
  go_wp2_with (fail)
  refine (write_none (fun k => Fr W k ∧ k ≠ bb) (fun k => Fr W k ∧ k ≠ bb) w2 _ 0 (blanks 2) (fun _ => none) 1 (rep (UInt8.ofNat c)) _ 64 D2.out (by decide) (by decide) (by decide) (fun k hk => ⟨Nat.le_trans X2.out.size hk, by have := B2.out.lt; omega⟩) (rep_len _) (fun h => by cases h) (reads_turn B2.out (arr_full c HC.out) (arr_size c))).mono ?_
  rintro e w3 ⟨rfl, h3, t3⟩
  have B3 := hide (t3.blk B2.out (by decide) (by decide) (by decide))
  have HWA := hide (show W.heap.size ≤ wa.heap.size from HXA.out.size)
  have X3 := hide (t3.ext X2.out (fun k _ h => h.1))
  have D3 := hide h3
  have y3 := B3.out.cell kk
  rw [arr_at _ HK.out] at y3
  have f3 := B3.out.frozen kk
  clear h3 t3 D2 X2 B2
  go_wp2_with (fail)
  obtain ⟨w4, hw4⟩ : ∃ w4, w4 = w3.setCell ⟨bb, kk, none⟩ (.int .u8 (bits .xor .u8 (c : Int) 1)) := ⟨_, rfl⟩
  rw [← hw4]
  have D4 := hide (show Disk (fun k => Fr W k ∧ k < w4.heap.size) (fun k => Fr W k ∧ k < w4.heap.size) w4 (W.heap.size + 1) 1 false ((blanks 2).set 1 (rep (UInt8.ofNat c))) (wrU (blanks 2) (fun _ => none) 1) none by
    have h4 : Disk (fun k => Fr W k ∧ k ≠ bb) (fun k => Fr W k ∧ k ≠ bb) w4 (W.heap.size + 1) 1 false ((blanks 2).set 1 (rep (UInt8.ofNat c))) (wrU (blanks 2) (fun _ => none) 1) none := by
      rw [hw4]; exact apart D3.out (fun h => h.2 rfl) (fun h => h.2 rfl)
    exact h4.to (fun k h1 h2 => ⟨h2.1, h1⟩) (fun k h1 h2 => ⟨h2.1, h1⟩))
  have X4 := hide (show Ext W w4 by rw [hw4]; exact X3.out.set_ (p := ⟨bb, kk, none⟩) (by rw [HBB.out]; exact HWA.out) _)
  have HW4 := hide X4.out.size
  clear hw4 D3 X3 y3 f3 B3
  refine (read_in _ _ w4 _ 1 _ _ none 1 (rep (UInt8.ofNat c)) D4.out (by simp [blanks])).mono ?_
  rintro e w5 ⟨A5, c5, rfl, _, o5, x5⟩
  obtain ⟨b5, rfl, l5, y5⟩ := row_at o5
  have y5k := y5 kk _ (rep_at _ HK.out)
  have f5 := o5.frozenAt kk
  have O5 := hide (conv_own o5)
  have L5 := hide (show w4.heap.size ≤ b5 from (o5.lt b5 rfl).1)
  have D5 := hide (D4.out.ext x5)
  have X5 := hide (X4.out.trans x5)
  have E5 := hide o5
  rw [show ((UInt8.ofNat c).toNat : Int) = (c : Int) by have := HC.out; simp; omega] at y5k
  rw [← HS.out] at O5
  clear o5 x5 y5 D4 X4
  go_wp2_with (fail)
  go_cut [46] (fun s wx => s = .bool false ∧ Ext w5 wx)
  case first =>
    have s0 := O5.out
    have s1 := conv_own (Ext.own (Ext.drew (Ext.refl w5)) E5.out)
    rw [← HS.out] at s1
    go_region_with ((go_at_call 13; refine (full_any c _ HC.out).mono ?_; rintro e w6 ⟨b6, rfl, hb6, hbb6, hx6⟩; have s7 := conv_full hb6 HC.out; rw [← HS.out] at s7; have X6 := hide (Ext.trans (Ext.drew (Ext.refl w5)) hx6); have s6 := conv_own (Ext.own X6.out E5.out); rw [← HS.out] at s6; clear hb6 hbb6 hx6))
    all_goals
      go_wp2_with (fail)
      go_meet
      case rel => exact ⟨by simp, X6.out⟩
  case rest =>
    obtain ⟨rfl, hx6⟩ := hcut
    have O6 := Ext.own hx6 E5.out
    obtain ⟨b5', hb5, l5', y6⟩ := row_at O6
    obtain rfl : b5 = b5' := by injection hb5 with hb5; injection hb5
    have y6k := y6 kk _ (rep_at _ HK.out)
    have f6 := O6.frozenAt kk
    rw [show ((UInt8.ofNat c).toNat : Int) = (c : Int) by have := HC.out; simp; omega] at y6k
    have D6 := hide (D5.out.ext hx6)
    have X6 := hide (X5.out.trans hx6)
    clear O6 y6 hx6 E5 O5 D5 X5 y5k f5
    go_wp2_with (fail)
    obtain ⟨w7, hw7⟩ : ∃ w7, w7 = wc.setCell ⟨b5, kk, none⟩ (.int .u8 (bits .xor .u8 (c : Int) 1)) := ⟨_, rfl⟩
    rw [← hw7]
    have D7 := hide (show Disk (fun k => Fr W k ∧ k < w4.heap.size) (fun k => Fr W k ∧ k < w4.heap.size) w7 (W.heap.size + 1) 1 false ((blanks 2).set 1 (rep (UInt8.ofNat c))) (wrU (blanks 2) (fun _ => none) 1) none by
      rw [hw7]; exact apart D6.out (fun h => by have := L5.out; have := h.2; omega) (fun h => by have := L5.out; have := h.2; omega))
    have X7 := hide (show Ext W w7 by rw [hw7]; exact X6.out.set_ (p := ⟨b5, kk, none⟩) (Nat.le_trans HW4.out L5.out) _)
    clear hw7 D6 X6 y6k f6
    refine (read_in _ _ w7 _ 1 _ _ none 1 (rep (UInt8.ofNat c)) D7.out (by simp [blanks])).mono ?_
    rintro e w8 ⟨A8, c8, rfl, _, o8, x8⟩
    obtain ⟨b8, rfl, l8, _⟩ := row_at o8
    have E8 := hide o8
    have X8 := hide (X7.out.trans x8)
    have s0 := conv_own o8
    have s1 := conv_own (Ext.own (Ext.drew (Ext.refl w8)) o8)
    rw [← HS.out] at s0 s1
    clear o8 x8 D7 X7
    go_wp2_with (fail)
    go_region_with ((go_at_call 13; refine (full_any c _ HC.out).mono ?_; rintro e w9 ⟨b9, rfl, hb9, hbb9, hx9⟩; have s7 := conv_full hb9 HC.out; rw [← HS.out] at s7; have X9 := hide (Ext.trans (Ext.drew (Ext.refl w8)) hx9); have s6 := conv_own (Ext.own X9.out E8.out); rw [← HS.out] at s6; clear hb9 hbb9 hx9))
    all_goals
      go_wp2_with (fail)
      go_ret
      exact ⟨ret_bool (by simp), (BW.out.trans X8.out).trans X9.out⟩
end Go.Proofs.Ytpbenpkgbhmldaa.tileLent
