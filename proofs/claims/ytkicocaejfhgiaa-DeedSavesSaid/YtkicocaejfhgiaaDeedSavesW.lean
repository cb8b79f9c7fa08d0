/- DeedSaves: the walk. -/
import Derived.Test.YtkicocaejfhgiaaDeedSavesP
import Derived.Deep.DeepCutAuto
import Derived.Deep.QuietTactic
import Derived.BigQuiet
namespace Go.Proofs.Ytkicocaejfhgiaa.deedSavesW
open Go.ChangeShapes Go.WideShapes Go.ChangeAt Go.RowKit deedSaves
set_option linter.unusedVariables false

theorem cur_drewN {w1 w : World} {l : List Int} {s : Nat → Int} (h : Cur w1 l s w) (n : Nat) : Cur w1 l s (w.drewN n) := by
  obtain ⟨v, h1, h2⟩ := h
  exact ⟨v, ⟨h1.blk, h1.own, h1.hb, h1.lo, h1.hi⟩, below_drewN h2 n⟩
theorem st_drewN {w1 w : World} {g : Nat} {l : List Int} {s t : Nat → Int} (h : St w1 g l s t w) (n : Nat) : St w1 g l s t (w.drewN n) := ⟨cur_drewN h.cur n, h.a, h.b, h.hg⟩
theorem len_q (w1 w : World) (l : List Int) (s : Nat → Int) (h : Cur w1 l s w) (n m : Nat) (hl : l.length = m) : Calls Try.prog 17 #[.pointer (some ⟨w1.heap.size, 0, none⟩)] (w.drewN n) fun e w' => e = .returned (.int .i64 m) ∧ w' = w.drewN n := by
  subst hl
  exact (cur_len w1 _ l s (cur_drewN h n)).mono fun _ _ ⟨h1, h2⟩ => ⟨h1, h2.symm⟩
theorem cut_idem {s : Nat → Int} {h : Int} (hh : 0 ≤ h) : cutAt (cutAt s h) h = cutAt s h := by
  funext i
  unfold cutAt
  (repeat' split) <;> omega
theorem cut_gone {s : Nat → Int} {h : Int} {n : Nat} (hs : s n > h) : cutAt s h n = -1 := by rw [cutAt, if_pos hs]
theorem cut_keep {s : Nat → Int} {h : Int} {n : Nat} (hs : ¬ s n > h) : cutAt s h n = s n := by rw [cutAt, if_neg hs]
theorem walk_long (A : Option Addr) (len c : Nat) (n : Int) (w : World) (hl : (12 : Int) < len) :
    Calls Try.prog 5 #[.slice A len c, .int .u8 n] w fun e w' => e = .returned (.bool true) ∧ Below w.heap.size w w' := by
  go_enter Try.func5, Try.ntmps5
  go_wp2_with (go_at_call 6; refine (begun_any _).mono ?_; rintro e w1 ⟨rfl, b1⟩)
  go_ret
  exact ⟨rfl, b1⟩

set_option maxRecDepth 100000 in
set_option maxHeartbeats 4000000 in
theorem walk_short (A : Option Addr) (c : Nat) (bs : List UInt8) (n : Int) (w : World) (hr : Reads w w.heap.size 1 A bs.length (bv bs)) (hl : (bs.length : Int) ≤ 12) (hn : 0 ≤ n) (hn' : n ≤ 255) :
    Calls Try.prog 5 #[.slice A bs.length c, .int .u8 n] w fun e w' => e = .returned (.bool true) ∧ Below w.heap.size w w' := by
  obtain ⟨m, hm⟩ : ∃ m : Nat, n % 4 = m := ⟨(n % 4).toNat, by omega⟩
  have hm4 : m < 4 := by omega
  have HR := hide hr
  have HM := hide hm
  clear hr hm
  go_enter Try.func5, Try.ntmps5
  go_wp2_with (fail)
  refine (begun_any _).mono ?_
  rintro e w1 ⟨rfl, b1⟩
  have z1 := b1.size
  have B1 := hide b1
  clear b1
  go_wp2_with (fail)
  refine (cur_new _).mono ?_
  rintro e w2 ⟨rfl, s2⟩
  have z2 := s2.size
  have S2 : St w1 w2.heap.size [] (fun _ => -1) (fun _ => -1) ((w2.alloc (.cells #[.int .i64 0, .int .i64 0, .int .i64 0, .int .i64 0] 28)).alloc (.cells #[.bool false, .bool false, .bool false, .bool false] 29)) := by
    refine ⟨s2.below (((Below.refl _ _).alloc (Nat.le_refl _) _).alloc (by simp) _), (Blk.new w2 28 _).alloc _, ?_, ?_⟩
    · have := Blk.new (w2.alloc (.cells #[.int .i64 0, .int .i64 0, .int .i64 0, .int .i64 0] 28)) 29 #[.bool false, .bool false, .bool false, .bool false]
      rw [World.size_alloc] at this
      exact this
    · obtain ⟨v, h, _⟩ := s2
      exact h.blk.lt
  have S2 := hide S2
  clear s2
  go_wp2_with (fail)
  go_loopw [8, 9] (fun i kk wr => (∃ k : Nat, k ≤ bs.length ∧ i = .int .i64 k ∧ St w1 w2.heap.size (rng k) (sS bs k) (sS bs k) wr)) (fun i _ _ => (bs.length - intOf i).toNat)
  case atStart => exact ⟨0, by omega, rfl, S2.out⟩
  case round =>
    obtain ⟨k, hk, rfl, sk⟩ := hrel
    have SK := hide sk
    have HLEN := hide (show (rng k).length ≤ 1048576 by rw [rng_length]; omega)
    have hbel := hide sk.cur.bel
    clear sk
    by_cases hlt : k < bs.length
    · obtain ⟨b, off, hA, hbw, hcell⟩ := HR.out.plain (by omega) (by omega)
      subst hA
      have hck := hcell k (.int .u8 (bs[k].toNat : Int)) (by simp [bv, hlt])
      clear hcell
      obtain ⟨y, hy⟩ : ∃ y : Int, y = (bs[k].toNat : Int) := ⟨_, rfl⟩
      rw [← hy] at hck
      have hyb : 0 ≤ y ∧ y ≤ 255 := by rw [hy]; have := bs[k].toNat_lt; omega
      have hq : Hid (y % 8 = (q bs k : Int)) := by
        show y % 8 = (q bs k : Int)
        rw [hy]; simp [q, hlt]
      obtain ⟨hy0, hy1⟩ := hyb
      clear hy
      have hbw1 : b < w1.heap.size := by omega
      go_wp2_with (fail)
      refine (curs_push _ _ (rng k) _ k SK.out.cur HLEN.out).mono ?_
      rintro e w4 ⟨rfl, s4⟩
      have S4 := (SK.out.step s4).same (rng_succ k).symm rfl rfl
      have hck4 : w4.cell? ⟨b, off + k, none⟩ = some (.int .u8 y) := (S4.cur.bel.cell (p := ⟨b, off + k, none⟩) hbw1).trans ((B1.out.cell (p := ⟨b, off + k, none⟩) hbw).trans hck)
      have S4 := hide S4
      have hq' := hq.out
      clear s4 SK hck
      by_cases hq4 : q bs k < 4
      · have cA : w4.cell? ⟨w2.heap.size, q bs k, none⟩ = some (.int .i64 (aP (sS bs k (q bs k)))) := (S4.out.a.cell _).trans (arrA_get hq4)
        clear cA
        go_wp2_with (fail)
        refine (curs_save _ _ (rng (k + 1)) _ (q bs k) S4.out.cur hq4).mono ?_
        rintro e w5 ⟨rfl, s5⟩
        have S5 := S4.out.step s5
        have cA : w5.cell? ⟨w2.heap.size, q bs k, none⟩ = some (.int .i64 (aP (sS bs k (q bs k)))) := (S5.a.cell _).trans (arrA_get hq4)
        have cB : w5.cell? ⟨w2.heap.size + 1, q bs k, none⟩ = some (.bool (iP (sS bs k (q bs k)))) := (S5.b.cell _).trans (arrB_get hq4)
        have fA := S5.a.frozen
        have fB := S5.b.frozen
        have S6 := (S5.put (x := (k : Int) + 1) hq4 (by omega)).same rfl (show setAt (sS bs k) (q bs k) ((rng (k + 1)).length : Int) = sS bs (k + 1) from by rw [rng_length, sS_yes hq4]) (show setAt (sS bs k) (q bs k) ((k : Int) + 1) = sS bs (k + 1) from by rw [sS_yes hq4]; rfl)
        have S6 := hide S6
        clear s5 S5 S4
        go_wp2
        clear hq'
        go_roundw
        case rel => exact ⟨k + 1, by omega, by go_num, S6.out⟩
        case measure => simp [intOf]; omega
      · have S6 := S4.out.same rfl (sS_no hq4).symm (sS_no hq4).symm
        have S6 := hide S6
        have hq4' : ¬ ((q bs k : Nat) : Int) < 4 := by omega
        clear S4
        go_wp2
        clear hq'
        go_roundw
        case rel => exact ⟨k + 1, by omega, by go_num, S6.out⟩
        case measure => simp [intOf]; omega
    · obtain rfl : k = bs.length := by omega
      have hm := HM.out
      go_upto_region 18 with (fail)
      have HN := hide (rng_length bs.length)
      have fA := SK.out.a.frozen
      clear fA hm
      rcases sS_form bs bs.length m with hneg | ⟨hpos, hmax⟩
      · have hi : iP (sS bs bs.length m) = false := by rw [hneg]; rfl
        have cB : wr.cell? ⟨w2.heap.size + 1, m, none⟩ = some (.bool (iP (sS bs bs.length m))) := (SK.out.b.cell _).trans (arrB_get hm4)
        rw [hi] at cB
        have hneg' := hide (show sS bs bs.length m < 0 by omega)
        clear hi hneg
        go_wp2_with (fail)
        refine (cur_back_none _ _ _ _ m SK.out.cur hm4 hneg'.out).mono ?_
        rintro e w5 ⟨rfl, rfl⟩
        go_wp2_with (fail)
        refine (cur_len _ _ _ _ SK.out.cur).mono ?_
        rintro e w6 ⟨rfl, rfl⟩
        rw [HN.out]
        go_wp2
        go_ret
        exact ⟨rfl, B1.out.trans (SK.out.cur.bel.mono z1)⟩
      · obtain ⟨h, hh⟩ : ∃ h : Nat, sS bs bs.length m = h := ⟨(sS bs bs.length m).toNat, by omega⟩
        rw [hh] at hpos hmax
        have hmax' : h ≤ bs.length := by omega
        have HH := hide hh
        obtain ⟨D, hD⟩ : ∃ D : Nat, D = bs.length - h := ⟨_, rfl⟩
        have tD : ((D : Int) != (bs.length : Int) - h) = false := by simp; omega
        have HD := hide hD
        clear hh hD
        go_wp2_with (fail)
        refine (curs_back _ _ (rng bs.length) _ m h SK.out.cur hm4 HH.out HLEN.out).mono ?_
        rintro e w5 ⟨A5, c5, rfl, s5⟩
        rw [HN.out, ← HD.out]
        have S5 := SK.out.step s5
        have HL5 := hide (show ((rng bs.length).take h).length = h by rw [List.length_take, rng_length]; omega)
        have cB : w5.cell? ⟨w2.heap.size + 1, m, none⟩ = some (.bool true) := (S5.b.cell _).trans (by rw [arrB_get hm4, HH.out]; simp [iP])
        have cA : w5.cell? ⟨w2.heap.size, m, none⟩ = some (.int .i64 h) := (S5.a.cell _).trans (by rw [arrA_get hm4, HH.out, aP_of (by omega)])
        have S5 := hide S5
        clear s5 SK hbel
        go_wp2_with (fail)
        go_quiet ((go_at_call 17; exact Calls.quiet_of_same (len_q _ _ _ _ S5.out.cur _ _ HL5.out)))
        clear cA cB tD
        go_wp2_with (fail)
        go_loopw [13, 14, 15] (fun i o1 o2 wr => (∃ j : Nat, j ≤ 4 ∧ i = .int .i64 j ∧ St w1 w2.heap.size ((rng bs.length).take h) (cutAt (sS bs bs.length) h) (sS bs bs.length) wr)) (fun i _ _ _ => (4 - intOf i).toNat)
        case atStart => exact ⟨0, by omega, rfl, st_drewN S5.out _⟩
        case round =>
          obtain ⟨j, hj, rfl, sk⟩ := hrel
          have SK := hide sk
          clear sk
          by_cases hj4 : j < 4
          · have cA : wr.cell? ⟨w2.heap.size, m, none⟩ = some (.int .i64 h) := (SK.out.a.cell _).trans (by rw [arrA_get hm4, HH.out, aP_of (by omega)])
            have cJ : wr.cell? ⟨w2.heap.size, j, none⟩ = some (.int .i64 (aP (sS bs bs.length j))) := (SK.out.a.cell _).trans (arrA_get hj4)
            have cB : wr.cell? ⟨w2.heap.size + 1, j, none⟩ = some (.bool (iP (sS bs bs.length j))) := (SK.out.b.cell _).trans (arrB_get hj4)
            have hjm : Hid (j < m ∧ True) ∨ Hid (decide (j < m) = false ∧ True) := by by_cases h : j < m <;> simp [h, Hid]
            rcases sS_form bs bs.length j with hneg | ⟨hp1, hp2⟩
            · rw [show iP (sS bs bs.length j) = false by rw [hneg]; rfl] at cB
              have hneg' := hide (show cutAt (sS bs bs.length) h j < 0 by rw [cut_keep (by omega)]; omega)
              clear hneg cJ
              go_wp2_with (fail)
              refine (cur_back_none _ _ _ _ j SK.out.cur hj4 hneg'.out).mono ?_
              rintro e w6 ⟨rfl, rfl⟩
              rcases hjm with hj1 | hj1
              all_goals
                go_wp2_with (fail)
                have g1 := hj1.out.1
                go_quiet (fail)
                clear g1
                go_wp2
                go_roundw
                case rel => exact ⟨j + 1, by omega, by go_num, st_drewN SK.out _⟩
                case measure => simp [intOf]; omega
            · obtain ⟨p, hp⟩ : ∃ p : Nat, sS bs bs.length j = p := ⟨(sS bs bs.length j).toNat, by omega⟩
              rw [show iP (sS bs bs.length j) = true by rw [hp]; simp [iP]] at cB
              rw [hp, aP_of (by omega)] at cJ
              rw [hp] at hp1 hp2
              have HP := hide hp
              clear hp
              by_cases hph : p ≤ h
              · have t1 := hide (show p ≤ h by omega)
                have t2 := hide (show decide (h < p) = false by simp; omega)
                have hcp := hide (show cutAt (sS bs bs.length) h j = p by rw [cut_keep (by rw [HP.out]; omega), HP.out])
                go_wp2_with (fail)
                refine (curs_back _ _ _ _ j p SK.out.cur hj4 hcp.out (by rw [HL5.out]; omega)).mono ?_
                rintro e w6 ⟨A6, c6, rfl, s6⟩
                have S6 := SK.out.step s6
                have cA : w6.cell? ⟨w2.heap.size, m, none⟩ = some (.int .i64 h) := (S6.a.cell _).trans (by rw [arrA_get hm4, HH.out, aP_of (by omega)])
                have cJ : w6.cell? ⟨w2.heap.size, j, none⟩ = some (.int .i64 p) := (S6.a.cell _).trans (by rw [arrA_get hj4, HP.out, aP_of (by omega)])
                have cB : w6.cell? ⟨w2.heap.size + 1, j, none⟩ = some (.bool true) := (S6.b.cell _).trans (by rw [arrB_get hj4, HP.out]; simp [iP])
                have S6 := hide S6
                clear s6
                by_cases hjk : j = m
                · have e1 : ((j : Int) != m) = false := by simp; omega
                  have hpe : p = h := by have h1 := HP.out; have h2 := HH.out; rw [hjk, h2] at h1; omega
                  have S7 := hide (S6.out.same (show _ = ((rng bs.length).take h) by rw [hpe, List.take_take, Nat.min_self]) (show _ = cutAt (sS bs bs.length) h by rw [hpe]; exact cut_idem (by omega)) rfl)
                  clear hpe hjk S6
                  rcases hjm with hj1 | hj1
                  all_goals
                    go_wp2_with (fail)
                    have g1 := hj1.out.1
                    have g2 := t1.out
                    have g3 := t2.out
                    go_quiet (fail)
                    clear g1 g2 g3
                    go_wp2
                    go_roundw
                    case rel => exact ⟨j + 1, by omega, by go_num, st_drewN S7.out _⟩
                    case measure => simp [intOf]; omega
                · have e1 : ((j : Int) != m) = true := by simp; omega
                  clear hjk
                  rcases hjm with hj1 | hj1
                  all_goals
                    go_wp2_with (fail)
                    have g1 := hj1.out.1
                    have g2 := t1.out
                    have g3 := t2.out
                    go_quiet (fail)
                    clear g1 g2 g3
                    go_wp2
                    go_ret
                    exact ⟨rfl, B1.out.trans ((st_drewN S6.out nq).cur.bel.mono z1)⟩
              · have t1 := hide (show decide (p ≤ h) = false by simp; omega)
                have t2 := hide (show h < p by omega)
                have hneg' := hide (show cutAt (sS bs bs.length) h j < 0 by rw [cut_gone (by rw [HP.out]; omega)]; decide)
                go_wp2_with (fail)
                refine (cur_back_none _ _ _ _ j SK.out.cur hj4 hneg'.out).mono ?_
                rintro e w6 ⟨rfl, rfl⟩
                rcases hjm with hj1 | hj1
                all_goals
                  go_wp2_with (fail)
                  have g1 := hj1.out.1
                  have g2 := t1.out
                  have g3 := t2.out
                  go_quiet (fail)
                  clear g1 g2 g3
                  go_wp2
                  go_roundw
                  case rel => exact ⟨j + 1, by omega, by go_num, st_drewN SK.out _⟩
                  case measure => simp [intOf]; omega
          · obtain rfl : j = 4 := by omega
            go_wp2
            go_ret
            exact ⟨rfl, B1.out.trans (SK.out.cur.bel.mono z1)⟩
end Go.Proofs.Ytkicocaejfhgiaa.deedSavesW
