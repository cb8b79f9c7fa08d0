/- DeedAll: the walk. -/
import Derived.Test.YtkicocaejfhgiaaDeedP
import Derived.Deep.DeepCutAuto
import Derived.Deep.CutBlock
import Derived.Deep.RegionHeld3
namespace Go.Proofs.Ytkicocaejfhgiaa.deedAllW
open Go.ChangeShapes Go.WideShapes Go.ChangeAt Go.RowKit
set_option linter.unusedVariables false

/-- a nil stack -/
theorem may_nil (n : Int) (w : World) : Calls Try.prog 18 #[.pointer none, .int .i64 n] w fun e w' => e = .returned (.bool false) ∧ w = w' := by
  go_enter Try.func18, Try.ntmps18
  go_wp2
  go_ret
  exact ⟨rfl, rfl⟩
theorem push_nil (n : Int) (w : World) : Calls Try.prog 13 #[.pointer none, .int .i64 n] w fun e w' => e = .returned (.tuple #[]) ∧ w = w' := by
  go_enter Try.func13, Try.ntmps13
  go_wp2
  go_end0
  exact ⟨rfl, rfl⟩
theorem save_nil (n : Int) (w : World) : Calls Try.prog 8 #[.pointer none, .int .i64 n] w fun e w' => e = .returned (.bool false) ∧ w = w' := by
  go_enter Try.func8, Try.ntmps8
  go_wp2_with (go_at_call 18; refine (may_nil _ _).mono ?_; rintro e w' ⟨rfl, rfl⟩)
  go_ret
  exact ⟨rfl, rfl⟩
theorem back_nil (n : Int) (w : World) : Calls Try.prog 10 #[.pointer none, .int .i64 n] w fun e w' => e = .returned (.tuple #[.slice none 0 0, .bool false]) ∧ w = w' := by
  go_enter Try.func10, Try.ntmps10
  go_wp2_with (go_at_call 18; refine (may_nil _ _).mono ?_; rintro e w' ⟨rfl, rfl⟩)
  go_ret2
  exact ⟨rfl, rfl⟩
theorem all_nil (w : World) : Calls Try.prog 15 #[.pointer none] w fun e w' => e = .returned (.slice none 0 0) ∧ w = w' := by
  go_enter Try.func15, Try.ntmps15
  go_wp2
  go_ret
  exact ⟨rfl, rfl⟩
theorem len_nil (w : World) : Calls Try.prog 17 #[.pointer none] w fun e w' => e = .returned (.int .i64 0) ∧ w = w' := by
  go_enter Try.func17, Try.ntmps17
  go_wp2
  go_ret
  exact ⟨rfl, rfl⟩
theorem numbers_nil (w : World) : Calls Try.prog 12 #[.slice none 0 0, .slice none 0 0] w fun e w' => e = .returned (.bool true) ∧ ∃ m, w' = w.drewN m :=
  numbers_same none none 0 0 0 0 0 [] w rfl Reads.none_ Reads.none_ (by decide)
theorem walk_long (A : Option Addr) (len c : Nat) (w : World) (hl : (60 : Int) < len) : Calls Try.prog 3 #[.slice A len c] w fun e w' => e = .returned (.bool true) ∧ Below w.heap.size w w' := by
  go_enter Try.func3, Try.ntmps3
  go_wp2_with (go_at_call 6; refine (begun_any _).mono ?_; rintro e w1 ⟨rfl, b1⟩)
  go_ret
  exact ⟨rfl, b1⟩

theorem _root_.Go.Proofs.Ytkicocaejfhgiaa.Pair.drewN {w1 w : World} {g2 : Nat} {l l2 : List Int} {s t : Nat → Int} {b : Nat → Bool} (h : Pair w1 g2 l s l2 t b w) (n : Nat) : Pair w1 g2 l s l2 t b (w.drewN n) :=
  Pair.below h (below_drewN (Below.refl _ _) n)
theorem _root_.Go.Proofs.Ytkicocaejfhgiaa.Pair.drew {w1 w : World} {g2 : Nat} {l l2 : List Int} {s t : Nat → Int} {b : Nat → Bool} (h : Pair w1 g2 l s l2 t b w) : Pair w1 g2 l s l2 t b w.drew :=
  Pair.below h (Below.refl _ _).drew
theorem _root_.Go.Proofs.Ytkicocaejfhgiaa.Pair.rcell {w1 w : World} {g2 : Nat} {l l2 : List Int} {s t : Nat → Int} {b : Nat → Bool} (h : Pair w1 g2 l s l2 t b w) : ∃ A c, w.cell? ⟨g2, 0, none⟩ = some (.slice A l2.length c) := by
  obtain ⟨v, v2, h1, h2, _⟩ := h
  obtain ⟨A, c, rfl, _⟩ := h2.form
  exact ⟨A, c, h2.blk.cell 0⟩
/-- both stacks, in step -/
def Both (w1 : World) (g2 k : Nat) (w : World) : Prop := ∃ l s t b, Pair w1 g2 l s l t b w ∧ Rel s t b ∧ l.length ≤ k
/-- the deeds, as cells -/
def Deeds (xs : List Value) (n : Nat) : Prop := ∀ i, i < n → ∃ k x : Int, xs[i * 2]? = some (.int .i64 k) ∧ xs[i * 2 + 1]? = some (.int .i64 x)

set_option maxRecDepth 100000 in
set_option maxHeartbeats 40000000 in
theorem walk_short (A : Option Addr) (len c : Nat) (xs : List Value) (w : World) (hr : Reads w w.heap.size 2 A len xs) (hd : Deeds xs len) (hl : (len : Int) ≤ 60) :
    Calls Try.prog 3 #[.slice A len c] w fun e w' => e = .returned (.bool true) ∧ Below w.heap.size w w' := by
  have HR := hide hr
  have HD := hide hd
  clear hr hd
  go_enter Try.func3, Try.ntmps3
  go_wp2_with (fail)
  refine (begun_any _).mono ?_
  rintro e w1 ⟨rfl, b1⟩
  have z1 := b1.size
  have B1 := hide b1
  clear b1
  go_wp2_with (fail)
  refine (new_any _).mono ?_
  rintro e w2 ⟨rfl, s2, b2⟩
  have S2 : Both w1 w2.heap.size 0 (w2.alloc (.cells #[.slice none 0 0, .int .i64 0, .int .i64 0, .int .i64 0, .int .i64 0, .bool false, .bool false, .bool false, .bool false] 31)) := by
    refine ⟨[], fun _ => -1, fun _ => 0, fun _ => false, ⟨_, _, s2.below ((Below.refl _ _).alloc (Nat.le_refl _) _), ⟨Blk.new w2 31 _, World.ownsRow_nil _ _ _ _, b2.size, fun _ => Int.le_refl _, fun _ h => by cases h⟩, b2.alloc b2.size _, fun k hk => by cases hk⟩, fun _ => rfl, Nat.le_refl _⟩
  have S2 := hide S2
  clear s2 b2
  go_wp2_with (fail)
  go_loopw [5] (fun i wr => (∃ k : Nat, k ≤ len ∧ i = .int .i64 k ∧ Both w1 w2.heap.size k wr)) (fun i _ => (len - intOf i).toNat)
  case atStart => exact ⟨0, by omega, rfl, S2.out⟩
  case round =>
    obtain ⟨k, hk, rfl, sk⟩ := hrel
    have SK := hide sk
    clear sk
    by_cases hlt : k < len
    · obtain ⟨kind, x, hx1, hx2⟩ := HD.out k hlt
      obtain ⟨b, off, hA, hbw, hcell⟩ := HR.out.plain (by omega) (by omega)
      subst hA
      have hb1 : b < w1.heap.size := by omega
      have hc1 := hcell _ _ hx1
      have hc2 := hcell _ _ hx2
      obtain ⟨l, s, t, bb, hp, hrl, hlen⟩ := SK.out
      have hx' : ∀ w', Below w1.heap.size w1 w' → w'.cell? ⟨b, off + k * 2 + 1, none⟩ = some (.int .i64 x) := fun w' hb' =>
        (hb'.cell (p := ⟨b, off + k * 2 + 1, none⟩) hb1).trans ((B1.out.cell (p := ⟨b, off + k * 2 + 1, none⟩) hbw).trans hc2)
      have hk0 : wr.cell? ⟨b, off + k * 2, none⟩ = some (.int .i64 kind) := (hp.bel.cell (p := ⟨b, off + k * 2, none⟩) hb1).trans ((B1.out.cell (p := ⟨b, off + k * 2, none⟩) hbw).trans hc1)
      have HX := hide hx'
      have hx0 := hx' wr hp.bel
      have P0 := hide hp
      have R0 := hide hrl
      have hlen' : l.length ≤ 60 := by omega
      have hg2 := hp.glt
      clear hc1 hc2 hcell hx1 hx2 hx' hp hrl SK
      obtain ⟨r, hr⟩ : ∃ r : Int, (wrap64 (kind.tmod 8 + 8)).tmod 8 = r := ⟨_, rfl⟩
      go_upto_block 2 with (fail)
      go_cut [] (fun wx => Both w1 w2.heap.size (k + 1) wx)
      case first =>
        have h5 : r = 4 ∨ r = 5 ∨ r = 6 ∨ r = 7 ∨ (r ≠ 4 ∧ r ≠ 5 ∧ r ≠ 6 ∧ r ≠ 7) := by omega
        clear hr
        rcases h5 with rfl | rfl | rfl | rfl | ⟨q4, q5, q6, q7⟩
        · by_cases hxr : 0 ≤ x ∧ x < 4
          · obtain ⟨n, hn⟩ : ∃ n : Nat, x = n := ⟨x.toNat, by omega⟩
            subst hn
            have hn4 : n < 4 := by omega
            clear hxr
            as_aux_lemma =>
              go_wp2_with (fail)
              go_region_held3 (fun w' => w'.cell? ⟨b, off + k * 2 + 1, none⟩ = some (.int .i64 n)) (go_keep)
                (first
                  | (go_at_call 8; refine (pair_save _ _ _ _ _ _ _ _ n P0.out.drew hn4).mono ?_; rintro e w5 ⟨rfl, p5⟩; have P5 := hide p5; have hx5 := HX.out w5 p5.bel; clear p5)
                  | (go_at_call 9; refine (pair_rsave _ _ _ _ _ _ _ _ n P5.out hn4).mono ?_; rintro e w6 ⟨rfl, p6⟩; have P6 := hide p6; have hx6 := HX.out w6 p6.bel; clear p6))
              have RW := hide (R0.out.save n (l.length : Int))
              have LW := hide (show l.length ≤ k + 1 by omega)
              clear hx0 hx5 hx6 hk0
              go_wp2_with (fail)
              go_meet
              case rel => exact ⟨_, _, _, _, P6.out, RW.out, LW.out⟩
          · as_aux_lemma =>
              go_wp2_with (fail)
              go_region_held3 (fun w' => w'.cell? ⟨b, off + k * 2 + 1, none⟩ = some (.int .i64 x)) (go_keep)
                (first
                  | (go_at_call 8; refine (pair_save_no _ _ _ _ _ _ _ _ x P0.out.drew hxr).mono ?_; rintro e w5 ⟨rfl, rfl⟩)
                  | (go_at_call 9; refine (rsave_no _ x _ hxr).mono ?_; rintro e w6 ⟨rfl, rfl⟩))
              have P6 := hide (P0.out.drew)
              have RW := R0
              have LW := hide (show l.length ≤ k + 1 by omega)
              clear hx0 hk0
              go_wp2_with (fail)
              go_meet
              case rel => exact ⟨_, _, _, _, P6.out, RW.out, LW.out⟩
        · by_cases hxr : 0 ≤ x ∧ x < 4
          · obtain ⟨n, hn⟩ : ∃ n : Nat, x = n := ⟨x.toNat, by omega⟩
            subst hn
            have hn4 : n < 4 := by omega
            clear hxr
            as_aux_lemma =>
              go_wp2_with (fail)
              go_region_held3 (fun w' => w'.cell? ⟨b, off + k * 2 + 1, none⟩ = some (.int .i64 n)) (go_keep)
                (first
                  | (go_at_call 8; refine (pair_save _ _ _ _ _ _ _ _ n P0.out.drew hn4).mono ?_; rintro e w5 ⟨rfl, p5⟩; have P5 := hide p5; have hx5 := HX.out w5 p5.bel; clear p5)
                  | (go_at_call 9; refine (pair_rsave _ _ _ _ _ _ _ _ n P5.out hn4).mono ?_; rintro e w6 ⟨rfl, p6⟩; have P6 := hide p6; have hx6 := HX.out w6 p6.bel; clear p6))
              have RW := hide (R0.out.save n (l.length : Int))
              have LW := hide (show l.length ≤ k + 1 by omega)
              clear hx0 hx5 hx6 hk0
              go_wp2_with (fail)
              go_meet
              case rel => exact ⟨_, _, _, _, P6.out, RW.out, LW.out⟩
          · as_aux_lemma =>
              go_wp2_with (fail)
              go_region_held3 (fun w' => w'.cell? ⟨b, off + k * 2 + 1, none⟩ = some (.int .i64 x)) (go_keep)
                (first
                  | (go_at_call 8; refine (pair_save_no _ _ _ _ _ _ _ _ x P0.out.drew hxr).mono ?_; rintro e w5 ⟨rfl, rfl⟩)
                  | (go_at_call 9; refine (rsave_no _ x _ hxr).mono ?_; rintro e w6 ⟨rfl, rfl⟩))
              have P6 := hide (P0.out.drew)
              have RW := R0
              have LW := hide (show l.length ≤ k + 1 by omega)
              clear hx0 hk0
              go_wp2_with (fail)
              go_meet
              case rel => exact ⟨_, _, _, _, P6.out, RW.out, LW.out⟩
        · by_cases hxr : 0 ≤ x ∧ x < 4
          · obtain ⟨n, hn⟩ : ∃ n : Nat, x = n := ⟨x.toNat, by omega⟩
            subst hn
            have hn4 : n < 4 := by omega
            clear hxr
            by_cases hbn : bb n = true
            · have hsn : s n = t n := by rw [R0.out n, hbn]; rfl
              obtain ⟨h, hh⟩ : ∃ h : Nat, t n = h := ⟨(t n).toNat, by obtain ⟨_, _, _, h2, _⟩ := P0.out; have := h2.lo n; omega⟩
              have hhl : h ≤ l.length := by obtain ⟨_, _, _, h2, _⟩ := P0.out; have := h2.hi n hbn; omega
              have HS := hide (hsn.trans hh)
              have HT := hide hh
              have HBN := hide hbn
              clear hsn hh hbn
              as_aux_lemma =>
                go_wp2_with (fail)
                refine (pair_back _ _ _ _ _ _ _ _ n h P0.out hn4 HS.out (by omega)).mono ?_
                rintro e w5 ⟨A5, c5, rfl, hR5, hF5, p5⟩
                have hx5 := HX.out w5 p5.bel
                have P5 := hide p5
                have R5 := hide hR5
                have F5 := hide hF5
                have hg5 := p5.glt
                clear p5 hR5 hF5 hx0
                go_wp2_with (fail)
                refine (pair_rback _ _ _ _ _ _ _ _ n h P5.out hn4 HBN.out HT.out (by omega)).mono ?_
                rintro e w6 ⟨⟨A6, c6, rfl, hR6, hF6, p6⟩, ht6⟩
                have P6 := hide p6
                have R6 := hide hR6
                have R56 := hide (R5.out.touch ht6 (Nat.le_refl _) (fun ad e => by have := F5.out ad e; omega))
                clear p6 hR6 hF6 ht6 hx5
                go_wp2_with (go_at_call 12; refine (numbers_same _ _ _ _ _ _ _ _ _ (by simp) R56.out R6.out (by omega)).mono ?_; rintro e wn ⟨rfl, m0, rfl⟩)
                have P7 := hide (P6.out.drewN m0)
                have RW := hide (R0.out.cut (x := (h : Int)) (by omega))
                have LW := hide (show (l.take h).length ≤ k + 1 by rw [List.length_take]; omega)
                clear P6 hk0
                go_meet
                case rel => exact ⟨_, _, _, _, P7.out, RW.out, LW.out⟩
            · have hbf : bb n = false := by simpa using hbn
              have hsn := hide (show s n < 0 by rw [R0.out n, hbf]; simp)
              have HBN := hide hbf
              clear hbn hbf
              as_aux_lemma =>
                go_wp2_with (fail)
                refine (pair_back_none _ _ _ _ _ _ _ _ n P0.out hn4 hsn.out).mono ?_
                rintro e w5 ⟨rfl, rfl⟩
                go_wp2_with (fail)
                refine (pair_rback_none _ _ _ _ _ _ _ _ n P0.out hn4 HBN.out).mono ?_
                rintro e w6 ⟨rfl, rfl⟩
                go_wp2_with (go_at_call 12; refine (numbers_nil _).mono ?_; rintro e wn ⟨rfl, m0, rfl⟩)
                have P7 := hide (P0.out.drewN m0)
                have RW := R0
                have LW := hide (show l.length ≤ k + 1 by omega)
                clear hx0 hk0
                go_meet
                case rel => exact ⟨_, _, _, _, P7.out, RW.out, LW.out⟩
          · as_aux_lemma =>
              go_wp2_with (fail)
              refine (pair_back_no _ _ _ _ _ _ _ _ x P0.out hxr).mono ?_
              rintro e w5 ⟨rfl, rfl⟩
              go_wp2_with (fail)
              refine (rback_no _ x _ hxr).mono ?_
              rintro e w6 ⟨rfl, rfl⟩
              go_wp2_with (go_at_call 12; refine (numbers_nil _).mono ?_; rintro e wn ⟨rfl, m0, rfl⟩)
              have P7 := hide (P0.out.drewN m0)
              have RW := R0
              have LW := hide (show l.length ≤ k + 1 by omega)
              clear hx0 hk0
              go_meet
              case rel => exact ⟨_, _, _, _, P7.out, RW.out, LW.out⟩
        · by_cases hxr : 0 ≤ x ∧ x < 4
          · obtain ⟨n, hn⟩ : ∃ n : Nat, x = n := ⟨x.toNat, by omega⟩
            subst hn
            have hn4 : n < 4 := by omega
            clear hxr
            by_cases hbn : bb n = true
            · have hsn : s n = t n := by rw [R0.out n, hbn]; rfl
              obtain ⟨h, hh⟩ : ∃ h : Nat, t n = h := ⟨(t n).toNat, by obtain ⟨_, _, _, h2, _⟩ := P0.out; have := h2.lo n; omega⟩
              have hhl : h ≤ l.length := by obtain ⟨_, _, _, h2, _⟩ := P0.out; have := h2.hi n hbn; omega
              have HS := hide (hsn.trans hh)
              have HT := hide hh
              have HBN := hide hbn
              clear hsn hh hbn
              as_aux_lemma =>
                go_wp2_with (fail)
                refine (pair_back _ _ _ _ _ _ _ _ n h P0.out hn4 HS.out (by omega)).mono ?_
                rintro e w5 ⟨A5, c5, rfl, hR5, hF5, p5⟩
                have hx5 := HX.out w5 p5.bel
                have P5 := hide p5
                have R5 := hide hR5
                have F5 := hide hF5
                have hg5 := p5.glt
                clear p5 hR5 hF5 hx0
                go_wp2_with (fail)
                refine (pair_rback _ _ _ _ _ _ _ _ n h P5.out hn4 HBN.out HT.out (by omega)).mono ?_
                rintro e w6 ⟨⟨A6, c6, rfl, hR6, hF6, p6⟩, ht6⟩
                have P6 := hide p6
                have R6 := hide hR6
                have R56 := hide (R5.out.touch ht6 (Nat.le_refl _) (fun ad e => by have := F5.out ad e; omega))
                clear p6 hR6 hF6 ht6 hx5
                go_wp2_with (go_at_call 12; refine (numbers_same _ _ _ _ _ _ _ _ _ (by simp) R56.out R6.out (by omega)).mono ?_; rintro e wn ⟨rfl, m0, rfl⟩)
                have P7 := hide (P6.out.drewN m0)
                have RW := hide (R0.out.cut (x := (h : Int)) (by omega))
                have LW := hide (show (l.take h).length ≤ k + 1 by rw [List.length_take]; omega)
                clear P6 hk0
                go_meet
                case rel => exact ⟨_, _, _, _, P7.out, RW.out, LW.out⟩
            · have hbf : bb n = false := by simpa using hbn
              have hsn := hide (show s n < 0 by rw [R0.out n, hbf]; simp)
              have HBN := hide hbf
              clear hbn hbf
              as_aux_lemma =>
                go_wp2_with (fail)
                refine (pair_back_none _ _ _ _ _ _ _ _ n P0.out hn4 hsn.out).mono ?_
                rintro e w5 ⟨rfl, rfl⟩
                go_wp2_with (fail)
                refine (pair_rback_none _ _ _ _ _ _ _ _ n P0.out hn4 HBN.out).mono ?_
                rintro e w6 ⟨rfl, rfl⟩
                go_wp2_with (go_at_call 12; refine (numbers_nil _).mono ?_; rintro e wn ⟨rfl, m0, rfl⟩)
                have P7 := hide (P0.out.drewN m0)
                have RW := R0
                have LW := hide (show l.length ≤ k + 1 by omega)
                clear hx0 hk0
                go_meet
                case rel => exact ⟨_, _, _, _, P7.out, RW.out, LW.out⟩
          · as_aux_lemma =>
              go_wp2_with (fail)
              refine (pair_back_no _ _ _ _ _ _ _ _ x P0.out hxr).mono ?_
              rintro e w5 ⟨rfl, rfl⟩
              go_wp2_with (fail)
              refine (rback_no _ x _ hxr).mono ?_
              rintro e w6 ⟨rfl, rfl⟩
              go_wp2_with (go_at_call 12; refine (numbers_nil _).mono ?_; rintro e wn ⟨rfl, m0, rfl⟩)
              have P7 := hide (P0.out.drewN m0)
              have RW := R0
              have LW := hide (show l.length ≤ k + 1 by omega)
              clear hx0 hk0
              go_meet
              case rel => exact ⟨_, _, _, _, P7.out, RW.out, LW.out⟩
        · have e4 : (r == 4) = false := by simp; omega
          have e5 : (r == 5) = false := by simp; omega
          have e6 : (r == 6) = false := by simp; omega
          have e7 : (r == 7) = false := by simp; omega
          clear q4 q5 q6 q7
          as_aux_lemma =>
            go_wp2_with (fail)
            refine (pair_push _ _ _ _ _ _ _ _ x P0.out (by omega)).mono ?_
            rintro e w5 ⟨rfl, p5⟩
            have hx5 := HX.out w5 p5.bel
            have P5 := hide p5
            clear p5 hx0
            go_wp2_with (fail)
            refine (pair_rpush _ _ _ _ _ _ _ _ x P5.out (by omega)).mono ?_
            rintro e w6 ⟨rfl, p6⟩
            have P6 := hide p6
            have RW := R0
            have LW := hide (show (l ++ [x]).length ≤ k + 1 by simp; omega)
            clear p6 hx5 hk0 e4 e5 e6 e7
            go_wp2_with (fail)
            go_meet
            case rel => exact ⟨_, _, _, _, P6.out, RW.out, LW.out⟩
      case rest =>
        clear hr hx0 hk0 P0 R0 hg2 hlen' hlen
        obtain ⟨l', s', t', b', p6, rw6, lw6⟩ := hcut
        have P6 := hide p6
        have RW := hide rw6
        obtain ⟨Ac, cc, hcc⟩ := p6.rcell
        have Hcc := hide hcc
        have Hgl := hide p6.glt
        clear p6 rw6 hcc
        go_wp2_with (fail)
        go_region_held3 (fun w' => w'.cell? ⟨w2.heap.size, 0, none⟩ = some (.slice Ac l'.length cc)) (first | exact hcb.out | exact hca.out | exact Hcc.out)
          (first
            | (go_at_call 15; refine (pair_all _ _ _ _ _ _ _ _ P6.out.drew (by omega)).mono ?_; rintro e wa ⟨Aa, ca, rfl, hRa, pa, ba⟩; have hca := hide ((ba.cell (p := ⟨w2.heap.size, 0, none⟩) Hgl.out).trans Hcc.out); have Pa := hide pa; have Ra := hide hRa; clear pa ba hRa)
            | (go_at_call 16; refine (pair_rall _ _ _ _ _ _ _ _ Pa.out (by omega)).mono ?_; rintro e wb ⟨Ab, cb, rfl, hRb, pb, bb'⟩; have Pb := hide pb; have Rb := hide hRb; have Ra2 := hide (Ra.out.below bb'); have hcb := hide ((bb'.cell (p := ⟨w2.heap.size, 0, none⟩) Pa.out.glt).trans hca.out); clear pb bb' hRb)
            | (go_at_call 12; refine (numbers_same _ _ _ _ _ _ _ _ _ (by simp) Ra2.out Rb.out (by omega)).mono ?_; rintro e wn ⟨rfl, m, rfl⟩)
            | (go_at_call 17; refine (pair_len _ _ _ _ _ _ _ _ (Pb.out.drewN _)).mono ?_; rintro e wn ⟨rfl, rfl⟩))
        all_goals
          go_wp2
          go_roundw
          case rel => first | exact ⟨k + 1, by omega, by go_num, _, _, _, _, Pb.out.drewN _, RW.out, by omega⟩ | ((repeat apply Exists.intro); exact ⟨⟨k + 1, by omega, by go_num, _, _, _, _, Pb.out.drewN _, RW.out, by omega⟩, rfl⟩)
          case measure => simp [intOf]; omega
    · obtain rfl : k = len := by omega
      obtain ⟨l, s, t, bb, hp, hrl, hlen⟩ := SK.out
      go_wp2_with (first | (go_at_call 13; refine (push_nil _ _).mono ?_; rintro e w' ⟨rfl, rfl⟩) | (go_at_call 10; refine (back_nil _ _).mono ?_; rintro e w' ⟨rfl, rfl⟩) | (go_at_call 8; refine (save_nil _ _).mono ?_; rintro e w' ⟨rfl, rfl⟩) | (go_at_call 15; refine (all_nil _).mono ?_; rintro e w' ⟨rfl, rfl⟩) | (go_at_call 17; refine (len_nil _).mono ?_; rintro e w' ⟨rfl, rfl⟩))
      go_ret
      exact ⟨rfl, B1.out.trans (hp.bel.mono z1)⟩
end Go.Proofs.Ytkicocaejfhgiaa.deedAllW
