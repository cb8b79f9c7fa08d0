/- Tile: Write without a plan; 'begun' answers true. -/
import Derived.Test.YtpbenpkgbhmldaaTileS
namespace Go.Proofs.Ytpbenpkgbhmldaa
open Go.ChangeShapes Go.WideShapes Go.ChangeAt Go.RowKit Go.Maps
set_option linter.unusedVariables false

theorem write_none (Y Z : Nat → Prop) (w : World) (g N : Nat) (T : List (List UInt8)) (U : Int → Option (List UInt8)) (k : Nat) (bs : List UInt8) (A : Option Addr) (c : Nat) (h : Disk Y Z w g N false T U none) (hk : k < T.length) (hT : T.length ≤ 2000) (hN : N ≤ 1000000)
    (hZ : ∀ k, w.heap.size ≤ k → Z k) (hl : bs.length = 64) (hA : A = none → c = 0) (hr : ∀ w', Turn Y w w' → Reads w' w'.heap.size 1 A 64 (bv bs)) :
    Calls Try.prog 12 #[.pointer (some ⟨g, 0, none⟩), .int .i64 k, .slice A 64 c] w fun e w' => e = .returned (.int .i64 0) ∧ Disk Y Z w' g (N + 1) false (T.set k bs) (wrU T U k) none ∧ Turn Y w w' := by
  refine (write_in Y Z w g N T U none k bs A c h hk hT hN trivial hZ hl hA hr).mono ?_
  rintro e w' ⟨t, ⟨he, _, hd⟩ | ⟨_, M, hM, _⟩⟩
  · exact ⟨he, hd, t⟩
  · cases hM
theorem sync_none (Y Z : Nat → Prop) (w : World) (g N : Nat) (T : List (List UInt8)) (U : Int → Option (List UInt8)) (h : Disk Y Z w g N false T U none) (hT : T.length ≤ 2000) (hN : N ≤ 1000000) :
    Calls Try.prog 14 #[.pointer (some ⟨g, 0, none⟩)] w fun e w' => e = .returned (.int .i64 0) ∧ Disk Y Z w' g 0 false T (fun _ => none) none ∧ Turn Y w w' := by
  refine (sync_in Y Z w g N T U none h hT hN trivial).mono ?_
  rintro e w' ⟨t, ⟨he, _, hd⟩ | ⟨_, M, hM, _⟩⟩
  · exact ⟨he, hd, t⟩
  · cases hM
/-- a block of bytes reads as it did while a disk turns -/
theorem reads_turn {Y : Nat → Prop} {w : World} {b n : Nat} {cs : Array Value} {bs : List UInt8} (h : Blk w b 5 cs) (hc : cs.toList = bv bs) (hn : cs.size = n) : ∀ w', Turn Y w w' → Reads w' w'.heap.size 1 (some ⟨b, 0, none⟩) n (bv bs) := fun w' ht => by
  have hb := ht.blk h (by decide) (by decide) (by decide)
  refine ⟨by rw [← hc]; simpa using hn, fun _ => ⟨_, rfl, hb.lt, fun j u hu => ?_⟩⟩
  have e : (⟨b, 0, none⟩ : Addr).add j = ⟨b, j, none⟩ := by unfold Addr.add; split <;> simp_all
  rw [e, hb.cell]
  rw [← hc] at hu
  simpa using hu
/-- a tile's row that came back: its block and cells -/
theorem row_at {w : World} {base : Nat} {A : Option Addr} {c : Nat} {l : List UInt8} (h : w.ownsRow base 5 1 (.slice A 64 c) 64 (bv l)) : ∃ b, A = some ⟨b, 0, none⟩ ∧ b < w.heap.size ∧ ∀ (k : Nat) (x : UInt8), l[k]? = some x → w.cell? ⟨b, k, none⟩ = some (.int .u8 (x.toNat : Int)) := by
  obtain ⟨b, cc, hv, _, hlt⟩ := h.form (by omega)
  injection hv with hA
  subst hA
  exact ⟨b, rfl, hlt, fun k x hx => own_at h k _ (by simp [bv, hx])⟩
def b9 : List UInt8 := 9 :: List.replicate 63 0
def ar9 : Array Value := (arr 0 64).setIfInBounds 0 (.int .u8 9)
theorem ar9_bv : ar9.toList = bv b9 := by kernel_rfl
theorem ar9_size : ar9.size = 64 := by kernel_rfl
theorem arr0_cell : (arr 0 64)[0]? = some (.int .u8 0) := by kernel_rfl
def T1 : List (List UInt8) := (blanks 3).set 0 b9
def U1 : Int → Option (List UInt8) := wrU (blanks 3) (fun _ => none) 0
def T2 : List (List UInt8) := T1.set 2 b9
def U2 : Int → Option (List UInt8) := wrU T1 U1 2
theorem cnt_u2 : cnt U2 T2.length = 2 := by decide +kernel
theorem cr_0 : (crT [2] U2 T2)[0]? = some (rep 0) := by decide +kernel
theorem cr_2 : (crT [2] U2 T2)[2]? = some b9 := by decide +kernel
set_option maxRecDepth 100000 in
set_option maxHeartbeats 8000000 in
theorem begun_any (w : World) : Calls Try.prog 10 #[] w fun e w' => e = .returned (.bool true) ∧ Ext w w' := by
  have hmk := made
  have hc0 := arr0_cell
  go_enter Try.func10, Try.ntmps10
  go_wp2_with (fail)
  refine (new_any 3 3 3 w (by decide) (by decide)).mono ?_
  rintro e wa ⟨rfl, ha, xa⟩
  have HA := hide ha
  have XA := hide xa
  clear ha xa
  go_wp2_with (fail)
  have hbl := hide (Ext.new wa (.cells ar9 5))
  have W1 := hide (HA.out.ext hbl.out)
  have B1 := hide (show Blk (wa.alloc (.cells ar9 5)) wa.heap.size 5 ar9 from Blk.new wa 5 ar9)
  have X1 := hide (XA.out.trans hbl.out)
  have hz0 := hide (fun (k : Nat) (h : (wa.alloc (.cells ar9 5)).heap.size ≤ k) => show Fr w k from Nat.le_trans X1.out.size h)
  change Calls Try.prog 21 _ (wa.alloc (.cells ar9 5)) _
  obtain ⟨w1, hw1⟩ : ∃ w1, w1 = wa.alloc (.cells ar9 5) := ⟨_, rfl⟩
  obtain ⟨bb, hbb⟩ : ∃ bb, bb = wa.heap.size := ⟨_, rfl⟩
  rw [← hw1] at W1 B1 X1 hz0 ⊢
  rw [← hbb] at B1 ⊢
  have hgw : Hid (w = w) := rfl
  clear hw1 hbl HA XA hbb hmk hc0
  refine (tiles_any (Fr w) (Fr w) w1 _ 0 false (blanks 3) _ none W1.out).mono ?_
  rintro e w' ⟨rfl, rfl⟩
  have hl3 : (((blanks 3).length : Nat) : Int) = 3 := by decide
  rw [hl3]
  clear hl3
  go_wp2_with (fail)
  refine (write_none (Fr w) (Fr w) w1 _ 0 (blanks 3) (fun _ => none) 0 b9 _ 64 W1.out (by decide) (by decide) (by decide) hz0.out (by decide) (fun h => by cases h) (reads_turn B1.out ar9_bv ar9_size)).mono ?_
  rintro e w2 ⟨rfl, h2, t2⟩
  have W2 := hide (show Disk (Fr w) (Fr w) w2 (w.heap.size + 1) 1 false T1 U1 none from h2)
  have TT2 := hide t2
  clear h2 t2
  go_wp2_with (fail)
  refine (write_none (Fr w) (Fr w) w2 _ 1 T1 U1 2 b9 _ 64 W2.out (by decide) (by decide) (by decide) (fun k hk => hz0.out k (Nat.le_trans TT2.out.size hk)) (by decide) (fun h => by cases h) (fun w' ht => reads_turn B1.out ar9_bv ar9_size w' (TT2.out.trans ht))).mono ?_
  rintro e w3 ⟨rfl, h3, t3⟩
  have W3 := hide (show Disk (Fr w) (Fr w) w3 (w.heap.size + 1) 2 false T2 U2 none from h3)
  have X3 := hide ((TT2.out.trans t3).ext X1.out (fun k _ h => h))
  clear h3 t3 W1 W2 TT2 B1 hz0 X1
  go_wp2_with (fail)
  refine (loose_to (Fr w) (Fr w) w3 _ 2 false T2 U2 none W3.out (by omega)).mono ?_
  rw [cnt_u2]
  rintro e w4 ⟨A4, c4, rfl, _, x4⟩
  have W4 := hide ((W3.out.ext x4).ext (Ext.new w4 (.cells #[.int .u8 2] 5)))
  have X4 := hide ((X3.out.trans x4).trans (Ext.new w4 (.cells #[.int .u8 2] 5)))
  have B4 := hide (reads_turn (Y := Fr w) (bs := [2]) (n := 1) (Blk.new w4 5 #[.int .u8 2]) rfl rfl)
  clear x4 W3 X3
  go_wp2_with (fail)
  refine (crash_any (Fr w) (Fr w) _ _ 2 false T2 U2 none _ 1 1 [2] W4.out (by omega) (by decide) rfl B4.out (by omega)).mono ?_
  rintro e w5 ⟨rfl, h5, t5⟩
  have W5 := hide h5
  have X5 := hide (t5.ext X4.out (fun k _ h => h))
  clear h5 t5 W4 X4 B4
  go_wp2_with (fail)
  refine (dead_any (Fr w) (Fr w) w5 _ 0 true _ _ none W5.out).mono ?_
  rintro e w' ⟨rfl, rfl⟩
  go_wp2_with (fail)
  refine (power_any (Fr w) (Fr w) w5 _ 0 true _ _ none W5.out).mono ?_
  rintro e w6 ⟨rfl, h6, t6⟩
  have W6 := hide h6
  have X6 := hide (t6.ext X5.out (fun k _ h => h))
  clear h6 t6 W5 X5
  go_wp2_with (fail)
  refine (read_in (Fr w) (Fr w) w6 _ 0 _ _ none 0 (rep 0) W6.out cr_0).mono ?_
  rintro e w7 ⟨A7, c7, rfl, _, o7, x7⟩
  obtain ⟨b7, rfl, l7, y7⟩ := row_at o7
  have z7 := y7 0 0 rfl
  have W7 := hide (W6.out.ext x7)
  have X7 := hide (X6.out.trans x7)
  have Z7 := hide z7
  clear o7 x7 y7 z7 W6 X6
  go_wp2_with (fail)
  refine (read_in (Fr w) (Fr w) w7 _ 0 _ _ none 2 b9 W7.out cr_2).mono ?_
  rintro e w8 ⟨A8, c8, rfl, _, o8, x8⟩
  obtain ⟨b8, rfl, l8, y8⟩ := row_at o8
  have z8 := y8 0 9 rfl
  have W8 := hide (W7.out.ext x8)
  have X8 := hide (X7.out.trans x8)
  have z7 := (x8.cell (p := ⟨b7, 0, none⟩) l7).trans Z7.out
  simp at z7 z8
  clear o8 x8 y8 W7 X7
  go_wp2_with (go_at_call 14; refine (sync_none (Fr w) (Fr w) w8 _ 0 _ _ W8.out (by rw [crT_len]; decide) (by omega)).mono ?_; rintro e w9 ⟨rfl, h9, t9⟩)
  go_ret
  exact ⟨rfl, t9.ext X8.out (fun k _ h => h)⟩
end Go.Proofs.Ytpbenpkgbhmldaa
