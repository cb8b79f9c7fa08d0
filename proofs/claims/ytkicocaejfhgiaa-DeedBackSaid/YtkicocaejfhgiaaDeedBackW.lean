/- DeedBack: the walk. -/
import Derived.Test.YtkicocaejfhgiaaDeedC
import Derived.Deep.DeepCutAuto
namespace Go.Proofs.Ytkicocaejfhgiaa.deedBackW
open Go.ChangeShapes Go.WideShapes Go.ChangeAt Go.RowKit
set_option linter.unusedVariables false

/-- the numbers below k -/
def rng (k : Nat) : List Int := (List.range k).map fun (i : Nat) => (i : Int)
theorem rng_length (k : Nat) : (rng k).length = k := by simp [rng]
theorem rng_succ (k : Nat) : rng (k + 1) = rng k ++ [(k : Int)] := by simp [rng, List.range_succ]
theorem rng_get {k i : Nat} (h : i < k) : (rng k)[i]? = some (i : Int) := by simp [rng, h]
/-- the savepoints when k were pushed -/
def sv (p q k : Nat) : Nat → Int := fun i => if i = 0 then (if p < k then p else -1) else if i = 1 then (if q < k then q else -1) else -1
theorem sv_0 (p q : Nat) : sv p q 0 = fun _ => -1 := by funext i; simp [sv]
theorem sv_both {p k : Nat} (h : k = p) : setAt (setAt (sv p p k) 0 k) 1 k = sv p p (k + 1) := by
  funext i; unfold setAt sv; (repeat' split) <;> omega
theorem sv_first {p q k : Nat} (h : k = p) (h2 : k ≠ q) : setAt (sv p q k) 0 k = sv p q (k + 1) := by
  funext i; unfold setAt sv; (repeat' split) <;> omega
theorem sv_second {p q k : Nat} (h : k ≠ p) (h2 : k = q) : setAt (sv p q k) 1 k = sv p q (k + 1) := by
  funext i; unfold setAt sv; (repeat' split) <;> omega
theorem sv_none {p q k : Nat} (h : k ≠ p) (h2 : k ≠ q) : sv p q k = sv p q (k + 1) := by
  funext i; unfold sv; (repeat' split) <;> omega
theorem rev_get {x y z h k : Nat} (h1 : h ≤ x + y + z) (hk : k < x + y + z - h) : (iv ((rng (x + y + z)).drop h).reverse)[k]? = some (.int .i64 ((x : Int) + y + z - 1 - k)) := by
  have hl : ((rng (x + y + z)).drop h).length = x + y + z - h := by rw [List.length_drop, rng_length]
  rw [iv_getElem?, List.getElem?_reverse (by omega), hl, List.getElem?_drop, rng_get (by omega)]
  simp only [Option.map_some]
  congr 2
  omega
theorem cut_same {s : Nat → Int} {h n : Nat} (hs : s n = h) : cutAt s h n = h := by rw [cutAt, if_neg (by omega), hs]
theorem cut_gone {s : Nat → Int} {h : Int} {n : Nat} (hs : s n > h) : cutAt s h n = -1 := by rw [cutAt, if_pos hs]
theorem cut_keep {s : Nat → Int} {h : Int} {n : Nat} (hs : ¬ s n > h) : cutAt s h n = s n := by rw [cutAt, if_neg hs]
/-- both savepoints, behind the loop -/
def both (p q : Nat) : Nat → Int := fun i => if i = 0 then p else if i = 1 then q else -1
theorem both_end {x y z : Nat} (h : z ≠ 0) : sv x (x + y) (x + y + z) = both x (x + y) := by
  funext i; unfold sv both; (repeat' split) <;> omega
theorem both_one {x y : Nat} (h : y ≠ 0) : setAt (sv x (x + y) (x + y)) 1 (x + y : Nat) = both x (x + y) := by
  funext i; unfold setAt sv both; (repeat' split) <;> omega
theorem both_two {x : Nat} : setAt (setAt (sv x x x) 0 (x : Nat)) 1 (x : Nat) = both x x := by
  funext i; unfold setAt sv both; (repeat' split) <;> omega
set_option maxRecDepth 100000 in
set_option maxHeartbeats 4000000 in
theorem walk (a b c : Int) (sec : Bool) (w : World) (ha : 0 ≤ a) (ha' : a ≤ 255) (hb : 0 ≤ b) (hb' : b ≤ 255) (hc : 0 ≤ c) (hc' : c ≤ 255) :
    Calls Try.prog 4 #[.int .u8 a, .int .u8 b, .int .u8 c, .bool sec] w fun e w' => e = .returned (.bool true) ∧ Below w.heap.size w w' := by
  obtain ⟨x, hx⟩ : ∃ x : Nat, a % 9 = x := ⟨(a % 9).toNat, by omega⟩
  obtain ⟨y, hy⟩ : ∃ y : Nat, b % 9 = y := ⟨(b % 9).toNat, by omega⟩
  obtain ⟨z, hz⟩ : ∃ z : Nat, c % 9 = z := ⟨(c % 9).toNat, by omega⟩
  have hx8 : x ≤ 8 := by omega
  have hy8 : y ≤ 8 := by omega
  have hz8 : z ≤ 8 := by omega
  go_enter Try.func4, Try.ntmps4
  go_wp2_with (fail)
  refine (begun_any _).mono ?_
  rintro e w1 ⟨rfl, b1⟩
  have z1 := b1.size
  have B1 := hide b1
  clear b1
  go_wp2_with (fail)
  refine (cur_new _).mono ?_
  rintro e w2 ⟨rfl, s2⟩
  have S2 := hide s2
  clear s2
  go_wp2_with (fail)
  clear hx hy hz ha ha' hb hb' hc hc'
  go_loopw [13] (fun i wr => (∃ k : Nat, k ≤ x + y + z ∧ i = .int .i64 k ∧ Cur w1 (rng k) (sv x (x + y) k) wr)) (fun i _ => (x + y + z - intOf i).toNat)
  case atStart => exact ⟨0, by omega, rfl, by rw [sv_0]; exact S2.out⟩
  case round =>
    obtain ⟨k, hk, rfl, sk⟩ := hrel
    have SK := hide sk
    have HLEN := hide (show (rng k).length ≤ 1048576 by rw [rng_length]; omega)
    clear sk
    by_cases hlt : k < x + y + z
    · by_cases h0 : k = x
      · by_cases h1 : k = x + y
        · have e0 : ((k : Int) == x) = true := by simp; omega
          have e1 : ((k : Int) == x + y) = true := by simp; omega
          have E := hide (show setAt (setAt (sv x (x + y) k) 0 (rng k).length) 1 (rng k).length = sv x (x + y) (k + 1) from by rw [rng_length, show x + y = x by omega]; exact sv_both h0)
          clear h0 h1
          go_wp2_with (fail)
          refine (cur_save _ _ (rng k) _ 0 SK.out (by decide)).mono ?_
          rintro e wa1 ⟨rfl, sa1⟩
          have SA1 := hide sa1
          clear sa1
          go_wp2_with (fail)
          refine (cur_save _ _ (rng k) _ 1 SA1.out (by decide)).mono ?_
          rintro e wa2 ⟨rfl, sa2⟩
          have SA2 := hide sa2
          clear sa2
          go_wp2_with (fail)
          refine (cur_push _ _ (rng k) _ k SA2.out HLEN.out).mono ?_
          rintro e w4 ⟨rfl, s4⟩
          have S4 := hide (s4.same (rng_succ k).symm E.out)
          clear s4
          go_wp2
          go_roundw
          case rel => exact ⟨k + 1, by omega, by go_num, S4.out⟩
          case measure => simp [intOf]; omega
        · have e0 : ((k : Int) == x) = true := by simp; omega
          have e1 : ((k : Int) == x + y) = false := by simp; omega
          have E := hide (show setAt (sv x (x + y) k) 0 (rng k).length = sv x (x + y) (k + 1) from by rw [rng_length]; exact sv_first h0 h1)
          clear h0 h1
          go_wp2_with (fail)
          refine (cur_save _ _ (rng k) _ 0 SK.out (by decide)).mono ?_
          rintro e wa1 ⟨rfl, sa1⟩
          have SA1 := hide sa1
          clear sa1
          go_wp2_with (fail)
          refine (cur_push _ _ (rng k) _ k SA1.out HLEN.out).mono ?_
          rintro e w4 ⟨rfl, s4⟩
          have S4 := hide (s4.same (rng_succ k).symm E.out)
          clear s4
          go_wp2
          go_roundw
          case rel => exact ⟨k + 1, by omega, by go_num, S4.out⟩
          case measure => simp [intOf]; omega
      · by_cases h1 : k = x + y
        · have e0 : ((k : Int) == x) = false := by simp; omega
          have e1 : ((k : Int) == x + y) = true := by simp; omega
          have E := hide (show setAt (sv x (x + y) k) 1 (rng k).length = sv x (x + y) (k + 1) from by rw [rng_length]; exact sv_second h0 h1)
          clear h0 h1
          go_wp2_with (fail)
          refine (cur_save _ _ (rng k) _ 1 SK.out (by decide)).mono ?_
          rintro e wa1 ⟨rfl, sa1⟩
          have SA1 := hide sa1
          clear sa1
          go_wp2_with (fail)
          refine (cur_push _ _ (rng k) _ k SA1.out HLEN.out).mono ?_
          rintro e w4 ⟨rfl, s4⟩
          have S4 := hide (s4.same (rng_succ k).symm E.out)
          clear s4
          go_wp2
          go_roundw
          case rel => exact ⟨k + 1, by omega, by go_num, S4.out⟩
          case measure => simp [intOf]; omega
        · have e0 : ((k : Int) == x) = false := by simp; omega
          have e1 : ((k : Int) == x + y) = false := by simp; omega
          have E := hide (show sv x (x + y) k = sv x (x + y) (k + 1) from sv_none h0 h1)
          clear h0 h1
          go_wp2_with (fail)
          refine (cur_push _ _ (rng k) _ k SK.out HLEN.out).mono ?_
          rintro e w4 ⟨rfl, s4⟩
          have S4 := hide (s4.same (rng_succ k).symm E.out)
          clear s4
          go_wp2
          go_roundw
          case rel => exact ⟨k + 1, by omega, by go_num, S4.out⟩
          case measure => simp [intOf]; omega
    · obtain rfl : k = x + y + z := by omega
      have hN := rng_length (x + y + z)
      go_upto_region 11 with (fail)
      go_cut [87] (fun s87 wx => s87 = .bool false ∧ Cur w1 (rng (x + y + z)) (both x (x + y)) wx)
      case first =>
        by_cases hz0 : z = 0
        · have t2 : ((z : Int) == 0) = true := by simp; omega
          by_cases hy0 : y = 0
          · have t1 : ((x : Int) + y + z == x) = true := by simp; omega
            have E := hide (show setAt (setAt (sv x (x + y) (x + y + z)) 0 (rng (x + y + z)).length) 1 (rng (x + y + z)).length = both x (x + y) from by rw [rng_length, show x + y + z = x by omega, show x + y = x by omega]; exact both_two)
            clear hN hz0 hy0
            go_wp2_with (fail)
            refine (cur_save _ _ (rng (x + y + z)) _ 0 SK.out (by decide)).mono ?_
            rintro e wa ⟨rfl, sa⟩
            have SA := hide sa
            clear sa
            go_wp2_with (fail)
            refine (cur_save _ _ (rng (x + y + z)) _ 1 SA.out (by decide)).mono ?_
            rintro e wb ⟨rfl, sb⟩
            have SB := hide (sb.same rfl E.out)
            clear sb
            go_wp2_with (fail)
            go_meet
            case rel => exact ⟨rfl, SB.out⟩
          · have t1 : ((x : Int) + y + z == x) = false := by simp; omega
            have E := hide (show setAt (sv x (x + y) (x + y + z)) 1 (rng (x + y + z)).length = both x (x + y) from by rw [rng_length, show x + y + z = x + y by omega]; exact both_one hy0)
            clear hN hz0 hy0
            go_wp2_with (fail)
            refine (cur_save _ _ (rng (x + y + z)) _ 1 SK.out (by decide)).mono ?_
            rintro e wb ⟨rfl, sb⟩
            have SB := hide (sb.same rfl E.out)
            clear sb
            go_wp2_with (fail)
            go_meet
            case rel => exact ⟨rfl, SB.out⟩
        · have t2 : ((z : Int) == 0) = false := by simp; omega
          have t1 : ((x : Int) + y + z == x) = false := by simp; omega
          have E := hide (both_end (x := x) (y := y) hz0)
          clear hN hz0
          go_wp2_with (fail)
          go_meet
          case rel => exact ⟨rfl, SK.out.same rfl E.out⟩
      case rest =>
        obtain ⟨rfl, sc⟩ := hcut
        have SC := hide sc
        have HN := hide hN
        clear sc hN SK
        go_upto_if 89 with (fail)
        go_cut [14, 15] (fun s14 s15 wx => s14 = .int .i64 ((if sec then 1 else 0 : Nat) : Int) ∧ s15 = .int .i64 ((if sec then x + y else x : Nat) : Int) ∧ Cur w1 (rng (x + y + z)) (both x (x + y)) wx)
        case first =>
          cases sec
          · go_wp2_with (fail)
            go_meet
            case rel => exact ⟨rfl, rfl, SC.out⟩
          · go_wp2_with (fail)
            go_meet
            case rel => exact ⟨rfl, by simp, SC.out⟩
        case rest =>
          obtain ⟨rfl, rfl, sc⟩ := hcut
          have SC := hide sc
          obtain ⟨m, hm⟩ : ∃ m : Nat, m = (if sec then 1 else 0) := ⟨_, rfl⟩
          obtain ⟨h, hh⟩ : ∃ h : Nat, h = (if sec then x + y else x) := ⟨_, rfl⟩
          rw [← hm, ← hh]
          have hm4 : m < 2 := by rw [hm]; split <;> omega
          have hhN : h ≤ x + y + z := by rw [hh]; split <;> omega
          have hmh : both x (x + y) m = h := by rw [hm, hh]; cases sec <;> simp [both]
          have HM := hide hm
          have HH := hide hh
          have HMH := hide hmh
          clear sc hm hh hmh
          go_wp2_with (fail)
          refine (cur_back _ _ (rng (x + y + z)) _ m h SC.out (by omega) HMH.out HLEN.out).mono ?_
          rintro e w5 ⟨A, c1, rfl, hR, hF, s5⟩
          rw [HN.out] at hR
          rw [HN.out]
          obtain ⟨D, hD⟩ : ∃ D : Nat, D = x + y + z - h := ⟨_, rfl⟩
          rw [← hD] at hR
          rw [← hD]
          have tD : ((D : Int) != (x : Int) + y + z - h) = false := by simp; omega
          have HD := hide hD
          have S5 := hide s5
          have HR := hide hR
          have HL5 := hide (show ((rng (x + y + z)).take h).length = h by rw [List.length_take, rng_length]; omega)
          clear s5 hR hF SC hD
          go_wp2_with (fail)
          refine (cur_len _ _ _ _ S5.out).mono ?_
          rintro e w6 ⟨rfl, rfl⟩
          rw [HL5.out]
          have hDb : D ≤ 24 := by have := HD.out; omega
          go_wp2_with (fail)
          clear tD
          go_loop [18] (fun i => ∃ k : Nat, k ≤ D ∧ i = .int .i64 k) (fun i => (D - intOf i).toNat)
          case atStart => exact ⟨0, by omega, rfl⟩
          case round =>
            obtain ⟨k, hk, rfl⟩ := hrel
            by_cases hkD : k < D
            · obtain ⟨b1, off, hA, hlt, hcell⟩ := HR.out.plain (by omega) (by omega)
              have hck : w5.cell? ⟨b1, off + k, none⟩ = some (.int .i64 ((x : Int) + y + z - 1 - k)) := hcell k _ (by
                have := HD.out
                exact rev_get (by omega) (by omega))
              subst hA
              clear hcell
              go_wp2
              go_round
              case rel => exact ⟨k + 1, by omega, by go_num⟩
              case measure => simp [intOf]; omega
            · obtain rfl : k = D := by omega
              cases sec
              · as_aux_lemma =>
                have em : m = 0 := by have := HM.out; simpa using this
                subst em
                have eh : x = h := by have := HH.out; simpa using this.symm
                subst eh
                have CM := hide (show cutAt (both x (x + y)) (x : Nat) 0 = (x : Nat) from cut_same HMH.out)
                clear HM HH
                go_wp2_with (fail)
                refine (cur_back _ _ _ _ 0 (x) S5.out (by decide) CM.out (by rw [HL5.out]; omega)).mono ?_
                rintro e w7 ⟨A2, c2, rfl, hR2, hF2, s7⟩
                rw [HL5.out, Nat.sub_self]
                have S7 := hide s7
                have HL7 := hide (show (((rng (x + y + z)).take (x)).take (x)).length = x by rw [List.length_take, HL5.out]; omega)
                clear s7 hR2 hF2 S5
                by_cases hy0 : y = 0
                · have ty : ((y : Int) == 0) = true := by simp; omega
                  have C2 := hide (show cutAt (cutAt (both x (x + y)) (x : Nat)) (x : Nat) 1 = (x : Nat) from by rw [hy0]; simp [cutAt, both])
                  clear hy0
                  go_wp2_with (fail)
                  refine (cur_back _ _ _ _ 1 x S7.out (by decide) C2.out (by rw [HL7.out]; omega)).mono ?_
                  rintro e w8 ⟨A3, c3, rfl, hR3, hF3, s8⟩
                  have S8 := hide s8
                  clear s8 hR3 hF3 S7
                  go_wp2_with (fail)
                  refine (cur_save_no _ _ _ _ 4 S8.out (by omega)).mono ?_
                  rintro e w9 ⟨rfl, rfl⟩
                  go_wp2_with (fail)
                  refine (cur_save_no _ _ _ _ (-1) S8.out (by omega)).mono ?_
                  rintro e w9 ⟨rfl, rfl⟩
                  go_wp2
                  go_ret
                  exact ⟨rfl, B1.out.trans (S8.out.bel.mono z1)⟩
                · have ty : ((y : Int) == 0) = false := by simp; omega
                  have C2 : cutAt (cutAt (both x (x + y)) (x : Nat)) (x : Nat) 1 < 0 := by
                    have h1 : both x (x + y) 1 > ((x : Nat) : Int) := by simp [both]; omega
                    rw [cut_keep (by rw [cut_gone h1]; omega), cut_gone h1]
                    decide
                  have C2 := hide C2
                  clear hy0
                  go_wp2_with (fail)
                  refine (cur_back_none _ _ _ _ 1 S7.out (by decide) C2.out).mono ?_
                  rintro e w8 ⟨rfl, rfl⟩
                  go_wp2_with (fail)
                  refine (cur_save_no _ _ _ _ 4 S7.out (by omega)).mono ?_
                  rintro e w9 ⟨rfl, rfl⟩
                  go_wp2_with (fail)
                  refine (cur_save_no _ _ _ _ (-1) S7.out (by omega)).mono ?_
                  rintro e w9 ⟨rfl, rfl⟩
                  go_wp2
                  go_ret
                  exact ⟨rfl, B1.out.trans (S7.out.bel.mono z1)⟩
              · as_aux_lemma =>
                have em : m = 1 := by have := HM.out; simpa using this
                subst em
                have eh : h = x + y := by have := HH.out; simpa using this
                subst eh
                have CM := hide (show cutAt (both x (x + y)) (x + y : Nat) 1 = (x + y : Nat) from cut_same HMH.out)
                clear HM HH
                go_wp2_with (fail)
                refine (cur_back _ _ _ _ 1 (x + y) S5.out (by decide) CM.out (by rw [HL5.out]; omega)).mono ?_
                rintro e w7 ⟨A2, c2, rfl, hR2, hF2, s7⟩
                rw [HL5.out, Nat.sub_self]
                have S7 := hide s7
                have HL7 := hide (show (((rng (x + y + z)).take (x + y)).take (x + y)).length = x + y by rw [List.length_take, HL5.out]; omega)
                clear s7 hR2 hF2 S5
                have C2 : cutAt (cutAt (both x (x + y)) (x + y : Nat)) (x + y : Nat) 0 = (x : Nat) := by
                  have h1 : ¬ both x (x + y) 0 > ((x + y : Nat) : Int) := by simp [both]; omega
                  rw [cut_keep (by rw [cut_keep h1]; exact h1), cut_keep h1]
                  simp [both]
                have C2 := hide C2
                go_wp2_with (fail)
                refine (cur_back _ _ _ _ 0 x S7.out (by decide) C2.out (by rw [HL7.out]; omega)).mono ?_
                rintro e w8 ⟨A3, c3, rfl, hR3, hF3, s8⟩
                have S8 := hide s8
                clear s8 hR3 hF3 S7
                go_wp2_with (fail)
                refine (cur_save_no _ _ _ _ 4 S8.out (by omega)).mono ?_
                rintro e w9 ⟨rfl, rfl⟩
                go_wp2_with (fail)
                refine (cur_save_no _ _ _ _ (-1) S8.out (by omega)).mono ?_
                rintro e w9 ⟨rfl, rfl⟩
                go_wp2
                go_ret
                exact ⟨rfl, B1.out.trans (S8.out.bel.mono z1)⟩
end Go.Proofs.Ytkicocaejfhgiaa.deedBackW
