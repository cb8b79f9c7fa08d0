/- LockAll: the document's answers: Locks. -/
import Derived.Test.YtebflbpjmpmnjaaLockAllS
import Derived.Test.YtebflbpjmpmnjaaLast
import Derived.Sort.Walk0
namespace Go.Proofs.Ytebflbpjmpmnjaa
open Go.ChangeShapes Go.WideShapes Go.ChangeAt Go.RowKit Go.Maps Go.Sort
set_option linter.unusedVariables false

theorem bl2 (y : List UInt8) (b : ByteArray) : Op.bytesLess y b.toList = decide (y < b.data.toList) := by
  rw [bytesLess_eq, ByteArray.toList_eq]
theorem sv_at {l : List (List UInt8)} {k : Nat} {y : List UInt8} (h : l[k]? = some y) : (sv l)[k]? = some (.string ⟨y.toArray⟩) := by
  simp [sv, h, encStr]
theorem reads_take1 {w : World} {B n k : Nat} {A : Option Addr} {l : List (List UInt8)} (h : Reads w B 1 A n (sv l)) (hk : k ≤ n) : Reads w B 1 A k (sv (l.take k)) := by
  have hl : l.length = n := by simpa [sv] using h.1
  refine ⟨by simp [sv]; omega, fun hn => ?_⟩
  obtain ⟨ad, e, hb, hc⟩ := h.2 (by omega)
  refine ⟨ad, e, hb, fun j u hu => hc j u ?_⟩
  have : sv (l.take k) = (sv l).take k := by simp [sv, List.map_take]
  rw [this, List.getElem?_take] at hu
  split at hu
  · exact hu
  · cases hu
theorem reads_drop1 {w : World} {B n k g c : Nat} {l : List (List UInt8)} (h : Reads w B 1 (some ⟨g, 0, none⟩) n (sv l)) (hk : k ≤ n) (hc : n ≤ c) (hne : c ≠ k) : Reads w B 1 (some ⟨g, k, none⟩) (n - k) (sv (l.drop k)) := by
  have hcut := h.cut (k := k) (cap := c) hk hc
  rw [if_neg hne, Option.map_some, Nat.mul_one] at hcut
  have e : (⟨g, 0, none⟩ : Addr).add k = ⟨g, k, none⟩ := by unfold Addr.add; split <;> simp_all
  rw [e] at hcut
  have : sv (l.drop k) = (sv l).drop k := by simp [sv, List.map_drop]
  rw [this]
  exact hcut
theorem reads_end1 {w : World} {B n k : Nat} {l : List (List UInt8)} (hl : l.length = n) (hk : n ≤ k) (A : Option Addr) : Reads w B 1 A 0 (sv (l.drop k)) := by
  rw [List.drop_eq_nil_of_le (by omega)]
  exact ⟨rfl, fun h => absurd h (by omega)⟩
theorem own_end {w : World} {B k n m c : Nat} {A : Option Addr} {l : List (List UInt8)} {what : ByteArray} (hl : l.length = n) (hk : k ≤ n) (hm : m = k + 1 + (n - k)) (ho : w.ownsRow B 9 1 (.slice A m c) m (sv (l.take k) ++ [.string what] ++ sv (l.drop k))) :
    w.ownsRow B 9 1 (.slice A (l.take k ++ ([what.data.toList] ++ l.drop k)).length c) (l.take k ++ ([what.data.toList] ++ l.drop k)).length (sv (l.take k ++ ([what.data.toList] ++ l.drop k))) := by
  have e1 : (l.take k ++ ([what.data.toList] ++ l.drop k)).length = m := by rw [hm]; simp; omega
  have e2 : sv (l.take k ++ ([what.data.toList] ++ l.drop k)) = sv (l.take k) ++ [.string what] ++ sv (l.drop k) := by simp [sv, encStr]
  rw [e1, e2]
  exact ho
/-- names, in new memory -/
def GivesL (w : World) (l : List (List UInt8)) (e : Ending) (w' : World) : Prop := ∃ A c, e = .returned (.slice A l.length c) ∧ w'.ownsRow w.heap.size 9 1 (.slice A l.length c) l.length (sv l) ∧ Ext w w'
set_option maxRecDepth 100000 in
set_option maxHeartbeats 8000000 in
theorem rlocks_any (W w : World) (rb : Nat) (A : Option Addr) (c : Nat) (R : List Lw) (F : ByteArray → Int → Int) (who : Int) (h : Rl W w rb A c R) (hn : R.length ≤ 1000) (hrep : RepL F R) :
    Calls Try.prog 19 #[.pointer (some ⟨rb, 0, none⟩), .int .i64 who] w fun e w' => ∃ l, NamesL R who R.length l ∧ GivesL w l e w' := by
  have H := hide h
  have HREP := hide hrep
  obtain ⟨i0, hi0, iz0, iz1, iz2⟩ := info_parts Try.info9'
  obtain ⟨n, hN⟩ : ∃ n, n = R.length := ⟨_, rfl⟩
  rw [← hN] at hn
  have HN := hide hN
  have c0 := h.blk.cell 0
  simp at c0
  rw [← hN] at c0
  clear h hN hrep
  go_enter Try.func19, Try.ntmps19
  go_wp2_with (fail)
  go_loopw [5, 6] (fun s5 s6 wr => (∃ i : Nat, i ≤ n ∧ s6 = .int .i64 i ∧ ∃ l, Hid (NamesL R who i l) ∧ ∃ A5 c5, s5 = .slice A5 l.length c5 ∧ wr.ownsRow w.heap.size 9 1 (.slice A5 l.length c5) l.length (sv l) ∧ Ext w wr)) (fun _ s6 _ => (n - intOf s6).toNat)
  case atStart => exact ⟨0, by omega, rfl, [], NamesL.nil R who, none, 0, rfl, World.ownsRow_nil _ _ _ _, Ext.refl _⟩
  case round =>
    obtain ⟨i, hi, rfl, l, hl, A5o, c5o, rfl, ho, hx0⟩ := hrel
    have X := hide hx0
    have HL := hl
    have HO := hide ho
    have HW := hide (H.out.ex hx0)
    have cw := HW.out.blk.cell 0
    simp at cw
    rw [← HN.out] at cw
    have hrl : rb < wr.heap.size := HW.out.blk.lt
    clear hl ho hx0 c0
    by_cases hlt : i < n
    · obtain ⟨x, hx⟩ : ∃ x, R[i]? = some x := ⟨_, List.getElem?_eq_getElem (by rw [← HN.out]; exact hlt)⟩
      obtain ⟨g, hA, hgl⟩ := Rl.some_ HW.out (by rw [← HN.out]; omega)
      subst hA
      obtain ⟨x0, x1, x2⟩ := own_lock_at HW.out.own hx
      have HX := hide hx
      clear hx
      by_cases h1 : x.who = who
      · have d1 : (x.who == who) = true := by rw [h1]; exact beq_self_eq_true _
        have d3 : (x.who != who) = false := by simp [h1]
        have HWHO := hide h1
        obtain ⟨what, hwhat⟩ : ∃ what, what = x.what := ⟨_, rfl⟩
        rw [← hwhat] at x1
        have HWT := hide hwhat
        obtain ⟨N, hNl⟩ : ∃ N, N = l.length := ⟨_, rfl⟩
        rw [← hNl] at HO ⊢
        have HLN := hide hNl
        have hN1 : N ≤ 1000 := by have := HL.out.len; omega
        clear h1 hwhat hNl
        go_upto_block 2 with (fail)
        go_cut [7] (fun s7 wx => ∃ k : Nat, s7 = .int .i64 k ∧ Ext wr wx ∧ Hid (k ≤ N ∧ (∀ j y, j < k → l[j]? = some y → y < what.data.toList) ∧ (∀ y, l[k]? = some y → ¬ y < what.data.toList)))
        case first =>
          go_wp2_with (fail)
          go_loopw [7] (fun s7 wz => ∃ k : Nat, k ≤ N ∧ s7 = .int .i64 k ∧ Hid (∃ m, wz = wr.drewN m) ∧ Hid (∀ j y, j < k → l[j]? = some y → y < what.data.toList)) (fun s7 _ => (N - intOf s7).toNat)
          case atStart => exact ⟨0, by omega, rfl, ⟨0, rfl⟩, fun j y hj => absurd hj (by omega)⟩
          case round =>
            obtain ⟨k, hk, rfl, hw, hlo⟩ := hrel
            obtain ⟨m, rfl⟩ := hw.out
            clear hw
            by_cases hkN : k < N
            · obtain ⟨y, hy⟩ : ∃ y, l[k]? = some y := ⟨_, List.getElem?_eq_getElem (by rw [← HLN.out]; exact hkN)⟩
              obtain ⟨g5, c5, hv5, _⟩ := HO.out.form (by omega)
              injection hv5 with q1 q2 q3
              subst q1 q3
              have e5 : (⟨g5, 0, none⟩ : Addr).add k = ⟨g5, k, none⟩ := by unfold Addr.add; split <;> simp_all
              have g0 := HO.out.cells (g := g5) rfl k _ (sv_at hy)
              rw [e5] at g0
              have HY := hide hy
              have dk : decide (k < N) = true := decide_eq_true hkN
              clear hy e5
              by_cases hyl : y < what.data.toList
              · have d2 : Op.bytesLess y what.toList = true := by rw [bl2]; exact decide_eq_true hyl
                have HYL := hide hyl
                clear hyl
                go_wp2_with (fail)
                go_quiet (fail)
                go_wp2_with (fail)
                go_roundw
                case rel => exact ⟨k + 1, by omega, by go_num, ⟨m + nq, by simp⟩, fun j z hj hz => by
                  rcases Nat.lt_or_ge j k with h | h
                  · exact hlo.out j z h hz
                  · obtain rfl : j = k := by omega
                    have hy := HY.out
                    rw [hy] at hz; injection hz with hz; rw [← hz]; exact HYL.out⟩
                case measure => simp [intOf]; omega
              · have d2 : Op.bytesLess y what.toList = false := by rw [bl2]; exact decide_eq_false hyl
                have HYL := hide hyl
                clear hyl
                go_wp2_with (fail)
                go_quiet (fail)
                go_wp2_with (fail)
                go_meet
                case rel => exact ⟨k, rfl, ((Ext.refl wr).drewN m).drewN nq, by omega, hlo.out, fun z hz => by have hy := HY.out; rw [hy] at hz; injection hz with hz; rw [← hz]; exact HYL.out⟩
            · obtain rfl : k = N := by omega
              have dk : decide (k < k) = false := decide_eq_false (by omega)
              go_wp2_with (fail)
              go_quiet (fail)
              go_wp2_with (fail)
              go_meet
              case rel => exact ⟨k, rfl, ((Ext.refl wr).drewN m).drewN nq, Nat.le_refl _, hlo.out, fun z hz => by rw [List.getElem?_eq_none (by rw [← HLN.out]; exact Nat.le_refl _)] at hz; cases hz⟩
        case rest =>
          obtain ⟨k, rfl, hxw, hkk⟩ := hcut
          have hkN := hkk.out.1
          have HKL := hide hkN
          have HFIN := hide (NamesL.take HREP.out HL.out HX.out HWHO.out (p := k) (by rw [← HWT.out]; exact hkk.out.2.1) (by rw [← HWT.out]; exact hkk.out.2.2) (by rw [← HLN.out]; exact hkN))
          rw [← HWT.out] at HFIN
          obtain ⟨w2, hw2⟩ : ∃ w2, w2 = wc := ⟨_, rfl⟩
          subst hw2
          have HO2 := hide (hxw.own HO.out)
          have X := hide (X.out.trans hxw)
          have HS := hide (show ∀ w' : World, Ext w2 w' → w'.cell? ⟨rb, 0, none⟩ = some (.slice (some ⟨g, 0, none⟩) n c) ∧ w'.cell? ⟨g, i * 3 + 1, none⟩ = some (.string what) from fun w' hx => ⟨((hxw.trans hx).cell (p := ⟨rb, 0, none⟩) hrl).trans cw, ((hxw.trans hx).cell (p := ⟨g, i * 3 + 1, none⟩) hgl).trans x1⟩)
          obtain ⟨A5x, c5x, hv5x, hnA, hnc, hcm, _⟩ := own_form HO2.out
          injection hv5x with q1 q2 q3
          subst q1 q3
          have hRO := Reads.of_own HO2.out
          have hsh : (A5o = none ∧ c5o = 0 ∧ N = 0) ∨ ∃ g5, A5o = some ⟨g5, 0, none⟩ := by
            rcases HO2.out.2 with ⟨hv, h0⟩ | ⟨g5, cap, cur, hv, _⟩
            · injection hv with q1 q2 q3; exact .inl ⟨q1, q3, h0⟩
            · injection hv with q1 q2 q3; exact .inr ⟨g5, q1⟩
          clear hxw cw x0 x1 x2 hkk
          go_upto_region 9 with (fail)
          rcases hsh with ⟨rfl, rfl, rfl⟩ | ⟨g5, rfl⟩
          · obtain rfl : k = 0 := by omega
            have RT : Hid (∀ A', Reads w2 w2.heap.size 1 A' 0 (sv (l.take 0))) := fun A' => ⟨rfl, fun h => absurd h (by omega)⟩
            have RD : Hid (∀ A', Reads w2 w2.heap.size 1 A' 0 (sv (l.drop 0))) := fun A' => reads_end1 HLN.out.symm (Nat.le_refl _) A'
            clear hRO hnA
            refine wp_region_F (S := (fun w' => w'.cell? ⟨rb, 0, none⟩ = some (.slice (some ⟨g, 0, none⟩) n c) ∧ w'.cell? ⟨g, i * 3 + 1, none⟩ = some (.string what))) 19 (by kernel_rfl) (by kernel_rfl) (HS.out _ (Ext.drew (Ext.refl w2))) (fun hHeld => ?_)
            refine GoF.take 1 (some 49) (v := ?_) rfl rfl (by kernel_rfl) (by kernel_rfl) (by kernel_rfl) (fun _ _ _ h => h) (Or.inl ⟨by rfl, ?_⟩) (by assumption) ?_
            rotate_left
            · intro w' hSw
              try dsimp only at hSw
              go_simp
              try with_reducible rfl
            try simp only [Act.put, List.setIfInBounds_toArray, List.set_cons_zero, List.set_cons_succ]
            refine GoF.take 2 (some 50) (v := ?_) rfl rfl (by kernel_rfl) (by kernel_rfl) (by kernel_rfl) (fun _ _ _ h => h) (Or.inl ⟨by rfl, ?_⟩) (by assumption) ?_
            rotate_left
            · intro w' hSw
              try dsimp only at hSw
              go_simp
              try with_reducible rfl
            try simp only [Act.put, List.setIfInBounds_toArray, List.set_cons_zero, List.set_cons_succ]
            refine GoF.take 3 (some 51) (v := ?_) rfl rfl (by kernel_rfl) (by kernel_rfl) (by kernel_rfl) (fun _ _ _ h => h) (Or.inl ⟨by rfl, ?_⟩) (by assumption) ?_
            rotate_left
            · intro w' hSw
              try dsimp only at hSw
              go_simp
              try with_reducible rfl
            try simp only [Act.put, List.setIfInBounds_toArray, List.set_cons_zero, List.set_cons_succ]
            refine GoF.take 5 (some 53) (v := ?_) rfl rfl (by kernel_rfl) (by kernel_rfl) (by kernel_rfl) (fun _ _ _ h => h) (Or.inl ⟨by rfl, ?_⟩) (by assumption) ?_
            rotate_left
            · intro w' hSw
              try dsimp only at hSw
              go_simp
              try with_reducible rfl
            try simp only [Act.put, List.setIfInBounds_toArray, List.set_cons_zero, List.set_cons_succ]
            refine GoF.take 6 (some 54) (v := ?_) rfl rfl (by kernel_rfl) (by kernel_rfl) (by kernel_rfl) (fun _ _ _ h => h) (Or.inl ⟨by rfl, ?_⟩) (by assumption) ?_
            rotate_left
            · intro w' hSw
              try dsimp only at hSw
              go_simp
              try with_reducible rfl
            try simp only [Act.put, List.setIfInBounds_toArray, List.set_cons_zero, List.set_cons_succ]
            refine GoF.take 7 (some 55) (v := ?_) rfl rfl (by kernel_rfl) (by kernel_rfl) (by kernel_rfl) (fun _ _ _ h => h) (Or.inl ⟨by rfl, ?_⟩) (by assumption) ?_
            rotate_left
            · intro w' hSw
              try dsimp only at hSw
              go_simp
              try with_reducible rfl
            try simp only [Act.put, List.setIfInBounds_toArray, List.set_cons_zero, List.set_cons_succ]
            refine GoF.take 8 (some 56) (v := ?_) rfl rfl (by kernel_rfl) (by kernel_rfl) (by kernel_rfl) (fun _ _ _ h => h) (Or.inl ⟨by rfl, ?_⟩) (by assumption) ?_
            rotate_left
            · intro w' hSw
              try dsimp only at hSw
              go_simp
              try with_reducible rfl
            try simp only [Act.put, List.setIfInBounds_toArray, List.set_cons_zero, List.set_cons_succ]
            refine GoF.take 9 (some 57) (v := ?_) rfl rfl (by kernel_rfl) (by kernel_rfl) (by kernel_rfl) (fun _ _ _ h => h) (Or.inl ⟨by rfl, ?_⟩) (by assumption) ?_
            rotate_left
            · intro w' hSw
              try dsimp only at hSw
              go_simp
              try with_reducible rfl
            try simp only [Act.put, List.setIfInBounds_toArray, List.set_cons_zero, List.set_cons_succ]
            refine GoF.take 10 (some 58) (v := ?_) rfl rfl (by kernel_rfl) (by kernel_rfl) (by kernel_rfl) (fun _ _ _ h => h) (Or.inl ⟨by rfl, ?_⟩) (by assumption) ?_
            rotate_left
            · intro w' hSw
              try dsimp only at hSw
              go_simp
              try with_reducible rfl
            try simp only [Act.put, List.setIfInBounds_toArray, List.set_cons_zero, List.set_cons_succ]
            refine GoF.take 11 (some 59) (v := ?_) rfl rfl (by kernel_rfl) (by kernel_rfl) (by kernel_rfl) (fun _ _ _ h => h) (Or.inl ⟨by rfl, ?_⟩) (by assumption) ?_
            rotate_left
            · intro w' hSw
              try dsimp only at hSw
              go_simp
              try with_reducible rfl
            try simp only [Act.put, List.setIfInBounds_toArray, List.set_cons_zero, List.set_cons_succ]
            refine GoF.take 12 (some 60) (v := ?_) rfl rfl (by kernel_rfl) (by kernel_rfl) (by kernel_rfl) (fun _ _ _ h => h) (Or.inl ⟨by rfl, ?_⟩) (by assumption) ?_
            rotate_left
            · intro w' hSw
              try dsimp only at hSw
              go_simp
              try with_reducible rfl
            try simp only [Act.put, List.setIfInBounds_toArray, List.set_cons_zero, List.set_cons_succ]
            refine GoF.take 15 (some 63) (v := ?_) rfl rfl (by kernel_rfl) (by kernel_rfl) (by kernel_rfl) (fun _ _ _ h => h) (Or.inl ⟨by rfl, ?_⟩) (by assumption) ?_
            rotate_left
            · intro w' hSw
              try dsimp only at hSw
              go_simp
              try with_reducible rfl
            try simp only [Act.put, List.setIfInBounds_toArray, List.set_cons_zero, List.set_cons_succ]
            refine GoF.take 16 (some 64) (v := ?_) rfl rfl (by kernel_rfl) (by kernel_rfl) (by kernel_rfl) (fun _ _ _ h => h) (Or.inl ⟨by rfl, ?_⟩) (by assumption) ?_
            rotate_left
            · intro w' hSw
              try dsimp only at hSw
              go_simp
              try with_reducible rfl
            try simp only [Act.put, List.setIfInBounds_toArray, List.set_cons_zero, List.set_cons_succ]
            refine GoF.take 17 (some 65) (v := ?_) rfl rfl (by kernel_rfl) (by kernel_rfl) (by kernel_rfl) (fun _ _ _ h => h) (Or.inl ⟨by rfl, ?_⟩) (by assumption) ?_
            rotate_left
            · intro w' hSw
              try dsimp only at hSw
              go_simp
              try with_reducible rfl
            try simp only [Act.put, List.setIfInBounds_toArray, List.set_cons_zero, List.set_cons_succ]
            refine GoF.each (rs := [0, 13]) (by kernel_rfl) (by kernel_rfl) (by kernel_rfl) ?_
            refine EachF.cons (i := 0) rfl (fun K hK => ?_) ?_
            · go_simp
              refine hK.out _ _ (HS.out _ (by (repeat (first | with_reducible exact Ext.refl _ | with_reducible refine Ext.drew ?_ | with_reducible refine Ext.alloc ?_ _)))) (fun hHeld => ?_)
              clear hK K
              try simp only [Act.put, List.setIfInBounds_toArray, List.set_cons_zero, List.set_cons_succ]
              refine GoF.each (rs := [4, 13]) (by kernel_rfl) (by kernel_rfl) (by kernel_rfl) ?_
              refine EachF.cons (i := 4) rfl (fun K hK => ?_) ?_
              · refine step_append_any _ rfl (.tmp 48) (.tmp 51) _ rfl w2.heap.size 9 i0 _ 1 16 Try.underlying41 hi0 iz0 iz1 iz2 rfl (by omega) (.slice (some ⟨_, 0, none⟩) 0 0) (0) ([]) rfl (World.ownsRow_made (base := w2.heap.size) (e := 9) (size := 1) w2.drew #[] 0 (Nat.le_refl _) (Nat.zero_le _) rfl) _ _ (0) _ (sv (l.take 0)) rfl (Ext.reads (a := w2) (by (repeat (first | with_reducible exact Ext.refl _ | with_reducible refine Ext.drew ?_ | with_reducible refine Ext.alloc ?_ _))) (RT.out _) (Nat.le_refl _)) (sv_one _) (by unfold maxLen; omega) (by omega) (by simp; try omega) ?_
                intro v3 w3 ho3 hg3 hat3
                rw [Nat.zero_add, List.nil_append] at ho3
                have E3 := hide (Ext.grown (a := w2) (by (repeat (first | with_reducible exact Ext.refl _ | with_reducible refine Ext.drew ?_ | with_reducible refine Ext.alloc ?_ _))) hg3 (fun z hz => by simp [Value.ownBlock] at hz; omega))
                obtain ⟨A3, c3, hv3, _⟩ := own_form ho3
                subst hv3
                have O3 := hide ho3
                refine hK.out _ _ (HS.out _ E3.out) (fun hHeld => ?_)
                clear ho3 hg3 hat3 hK K
                change GoF _ _ _ _ _ _ _ _ (Act.put _ (some 52) _) _
                simp only [Act.put, List.setIfInBounds_toArray, List.set_cons_zero, List.set_cons_succ]
                refine GoF.each (rs := [13]) (by kernel_rfl) (by kernel_rfl) (by kernel_rfl) ?_
                refine EachF.cons (i := 13) rfl (fun K hK => ?_) EachF.nil
                go_simp
                refine hK.out _ _ (HS.out _ (by (repeat (first | with_reducible exact Ext.refl _ | with_reducible exact E3.out | with_reducible refine Ext.drew ?_ | with_reducible refine Ext.alloc ?_ _)))) (fun hHeld => ?_)
                clear hK K
                try simp only [Act.put, List.setIfInBounds_toArray, List.set_cons_zero, List.set_cons_succ]
                refine GoF.each (rs := [14]) (by kernel_rfl) (by kernel_rfl) (by kernel_rfl) ?_
                refine EachF.cons (i := 14) rfl (fun K hK => ?_) EachF.nil
                refine step_append_any _ rfl (.tmp 52) (.tmp 61) _ rfl w2.heap.size 9 i0 _ 1 16 Try.underlying41 hi0 iz0 iz1 iz2 rfl (by omega) (.slice A3 (0) c3) (0) (sv (l.take 0)) rfl (O3.out.alloc _) _ _ (1) _ ([.string what]) rfl (reads_blk (m := 1) (Blk.new w3 9 #[.string what]) rfl) (by intro u hu; simp at hu; subst hu; rfl) (by unfold maxLen; omega) (by omega) (by have := E3.out.size; simp; try omega) ?_
                intro v4 w4 ho4 hg4 hat4
                have E4 := hide (Ext.grown (a := w2) (by (repeat (first | with_reducible exact Ext.refl _ | with_reducible exact E3.out | with_reducible refine Ext.drew ?_ | with_reducible refine Ext.alloc ?_ _))) hg4 (fun z hz => (O3.out.lt z hz).1))
                obtain ⟨A4, c4, hv4, _⟩ := own_form ho4
                subst hv4
                have O4 := hide ho4
                refine hK.out _ _ (HS.out _ E4.out) (fun hHeld => ?_)
                clear ho4 hg4 hat4 hK K
                change GoF _ _ _ _ _ _ _ _ (Act.put _ (some 62) _) _
                simp only [Act.put, List.setIfInBounds_toArray, List.set_cons_zero, List.set_cons_succ]
                refine GoF.each (rs := [18]) (by kernel_rfl) (by kernel_rfl) (by kernel_rfl) ?_
                refine EachF.cons (i := 18) rfl (fun K hK => ?_) EachF.nil
                refine step_append_any _ rfl (.tmp 62) (.tmp 65) _ rfl w2.heap.size 9 i0 _ 1 16 Try.underlying41 hi0 iz0 iz1 iz2 rfl (by omega) (.slice A4 (0 + 1) c4) (0 + 1) (sv (l.take 0) ++ [.string what]) rfl (O4.out) _ _ (0) _ (sv (l.drop 0)) rfl (Ext.reads E4.out (RD.out _) (Nat.le_refl _)) (sv_one _) (by unfold maxLen; omega) (by omega) (E4.out.size) ?_
                intro v5 w5 ho5 hg5 hat5
                have E5 := hide (Ext.grown (a := w2) E4.out hg5 (fun z hz => (O4.out.lt z hz).1))
                obtain ⟨A5, c5, hv5, _⟩ := own_form ho5
                subst hv5
                have O5 := hide ho5
                refine hK.out _ _ (HS.out _ E5.out) (fun hHeld => ?_)
                clear ho5 hg5 hat5 hK K
                change GoF _ _ _ _ _ _ _ _ (Act.put _ (some 66) _) _
                simp only [Act.put, List.setIfInBounds_toArray, List.set_cons_zero, List.set_cons_succ]
                refine GoF.last (by kernel_rfl) (by kernel_rfl) rfl (fun K hK => ?_)
                clear hHeld
                go_simp
                refine hK.out _ _ ?_
                clear hK K
                go_wp2_with (fail)
                go_roundw
                case rel => exact ⟨i + 1, by omega, by go_num, _, HFIN.out, A5, c5, congrArg (fun z => Value.slice A5 z c5) (by have := HLN.out; rw [List.length_append, List.length_append, List.length_take, List.length_drop]; simp only [List.length_cons, List.length_nil]; omega), own_end HLN.out.symm HKL.out (by try omega) (World.ownsRow.mono O5.out (Ext.size X.out)), X.out.trans E5.out⟩
                case measure => simp [intOf]; omega
              refine EachF.cons (i := 13) rfl (fun K hK => ?_) ?_
              · go_simp
                refine hK.out _ _ (HS.out _ (by (repeat (first | with_reducible exact Ext.refl _ | with_reducible refine Ext.drew ?_ | with_reducible refine Ext.alloc ?_ _)))) (fun hHeld => ?_)
                clear hK K
                try simp only [Act.put, List.setIfInBounds_toArray, List.set_cons_zero, List.set_cons_succ]
                refine GoF.each (rs := [4]) (by kernel_rfl) (by kernel_rfl) (by kernel_rfl) ?_
                refine EachF.cons (i := 4) rfl (fun K hK => ?_) EachF.nil
                refine step_append_any _ rfl (.tmp 48) (.tmp 51) _ rfl w2.heap.size 9 i0 _ 1 16 Try.underlying41 hi0 iz0 iz1 iz2 rfl (by omega) (.slice (some ⟨_, 0, none⟩) 0 0) (0) ([]) rfl ((World.ownsRow_made (base := w2.heap.size) (e := 9) (size := 1) w2.drew #[] 0 (Nat.le_refl _) (Nat.zero_le _) rfl).alloc _) _ _ (0) _ (sv (l.take 0)) rfl (Ext.reads (a := w2) (by (repeat (first | with_reducible exact Ext.refl _ | with_reducible refine Ext.drew ?_ | with_reducible refine Ext.alloc ?_ _))) (RT.out _) (Nat.le_refl _)) (sv_one _) (by unfold maxLen; omega) (by omega) (by simp; try omega) ?_
                intro v3 w3 ho3 hg3 hat3
                rw [Nat.zero_add, List.nil_append] at ho3
                have E3 := hide (Ext.grown (a := w2) (by (repeat (first | with_reducible exact Ext.refl _ | with_reducible refine Ext.drew ?_ | with_reducible refine Ext.alloc ?_ _))) hg3 (fun z hz => by simp [Value.ownBlock] at hz; omega))
                have KX := hide (show Blk w3 (w2.heap.size + 1) 9 #[.string what] from (by have h := Blk.grown (Blk.new (w2.drew.alloc (.cells #[] 9)) 9 #[.string what]) hg3 (by simp [Value.ownBlock]); have e : (w2.drew.alloc (.cells #[] 9)).heap.size = w2.heap.size + 1 := (by simp); rw [e] at h; exact h))
                obtain ⟨A3, c3, hv3, _⟩ := own_form ho3
                subst hv3
                have O3 := hide ho3
                refine hK.out _ _ (HS.out _ E3.out) (fun hHeld => ?_)
                clear ho3 hg3 hat3 hK K
                change GoF _ _ _ _ _ _ _ _ (Act.put _ (some 52) _) _
                simp only [Act.put, List.setIfInBounds_toArray, List.set_cons_zero, List.set_cons_succ]
                refine GoF.each (rs := [14]) (by kernel_rfl) (by kernel_rfl) (by kernel_rfl) ?_
                refine EachF.cons (i := 14) rfl (fun K hK => ?_) EachF.nil
                refine step_append_any _ rfl (.tmp 52) (.tmp 61) _ rfl w2.heap.size 9 i0 _ 1 16 Try.underlying41 hi0 iz0 iz1 iz2 rfl (by omega) (.slice A3 (0) c3) (0) (sv (l.take 0)) rfl (O3.out) _ _ (1) _ ([.string what]) rfl (reads_blk (m := 1) KX.out rfl) (by intro u hu; simp at hu; subst hu; rfl) (by unfold maxLen; omega) (by omega) (by have := E3.out.size; simp; try omega) ?_
                intro v4 w4 ho4 hg4 hat4
                have E4 := hide (Ext.grown (a := w2) (by (repeat (first | with_reducible exact Ext.refl _ | with_reducible exact E3.out | with_reducible refine Ext.drew ?_ | with_reducible refine Ext.alloc ?_ _))) hg4 (fun z hz => (O3.out.lt z hz).1))
                obtain ⟨A4, c4, hv4, _⟩ := own_form ho4
                subst hv4
                have O4 := hide ho4
                refine hK.out _ _ (HS.out _ E4.out) (fun hHeld => ?_)
                clear ho4 hg4 hat4 hK K
                change GoF _ _ _ _ _ _ _ _ (Act.put _ (some 62) _) _
                simp only [Act.put, List.setIfInBounds_toArray, List.set_cons_zero, List.set_cons_succ]
                refine GoF.each (rs := [18]) (by kernel_rfl) (by kernel_rfl) (by kernel_rfl) ?_
                refine EachF.cons (i := 18) rfl (fun K hK => ?_) EachF.nil
                refine step_append_any _ rfl (.tmp 62) (.tmp 65) _ rfl w2.heap.size 9 i0 _ 1 16 Try.underlying41 hi0 iz0 iz1 iz2 rfl (by omega) (.slice A4 (0 + 1) c4) (0 + 1) (sv (l.take 0) ++ [.string what]) rfl (O4.out) _ _ (0) _ (sv (l.drop 0)) rfl (Ext.reads E4.out (RD.out _) (Nat.le_refl _)) (sv_one _) (by unfold maxLen; omega) (by omega) (E4.out.size) ?_
                intro v5 w5 ho5 hg5 hat5
                have E5 := hide (Ext.grown (a := w2) E4.out hg5 (fun z hz => (O4.out.lt z hz).1))
                obtain ⟨A5, c5, hv5, _⟩ := own_form ho5
                subst hv5
                have O5 := hide ho5
                refine hK.out _ _ (HS.out _ E5.out) (fun hHeld => ?_)
                clear ho5 hg5 hat5 hK K
                change GoF _ _ _ _ _ _ _ _ (Act.put _ (some 66) _) _
                simp only [Act.put, List.setIfInBounds_toArray, List.set_cons_zero, List.set_cons_succ]
                refine GoF.last (by kernel_rfl) (by kernel_rfl) rfl (fun K hK => ?_)
                clear hHeld
                go_simp
                refine hK.out _ _ ?_
                clear hK K
                go_wp2_with (fail)
                go_roundw
                case rel => exact ⟨i + 1, by omega, by go_num, _, HFIN.out, A5, c5, congrArg (fun z => Value.slice A5 z c5) (by have := HLN.out; rw [List.length_append, List.length_append, List.length_take, List.length_drop]; simp only [List.length_cons, List.length_nil]; omega), own_end HLN.out.symm HKL.out (by try omega) (World.ownsRow.mono O5.out (Ext.size X.out)), X.out.trans E5.out⟩
                case measure => simp [intOf]; omega
              exact EachF.nil
            refine EachF.cons (i := 13) rfl (fun K hK => ?_) ?_
            · go_simp
              refine hK.out _ _ (HS.out _ (by (repeat (first | with_reducible exact Ext.refl _ | with_reducible refine Ext.drew ?_ | with_reducible refine Ext.alloc ?_ _)))) (fun hHeld => ?_)
              clear hK K
              try simp only [Act.put, List.setIfInBounds_toArray, List.set_cons_zero, List.set_cons_succ]
              refine GoF.each (rs := [0]) (by kernel_rfl) (by kernel_rfl) (by kernel_rfl) ?_
              refine EachF.cons (i := 0) rfl (fun K hK => ?_) EachF.nil
              go_simp
              refine hK.out _ _ (HS.out _ (by (repeat (first | with_reducible exact Ext.refl _ | with_reducible refine Ext.drew ?_ | with_reducible refine Ext.alloc ?_ _)))) (fun hHeld => ?_)
              clear hK K
              try simp only [Act.put, List.setIfInBounds_toArray, List.set_cons_zero, List.set_cons_succ]
              refine GoF.each (rs := [4]) (by kernel_rfl) (by kernel_rfl) (by kernel_rfl) ?_
              refine EachF.cons (i := 4) rfl (fun K hK => ?_) EachF.nil
              refine step_append_any _ rfl (.tmp 48) (.tmp 51) _ rfl w2.heap.size 9 i0 _ 1 16 Try.underlying41 hi0 iz0 iz1 iz2 rfl (by omega) (.slice (some ⟨_, 0, none⟩) 0 0) (0) ([]) rfl (by have h := World.ownsRow_made (base := w2.heap.size) (e := 9) (size := 1) (w2.drew.alloc (.cells #[.string what] 9)) #[] 0 (by simp) (Nat.zero_le _) rfl; have e : (w2.drew.alloc (.cells #[.string what] 9)).heap.size = w2.heap.size + 1 := (by simp); rw [e] at h; exact h) _ _ (0) _ (sv (l.take 0)) rfl (Ext.reads (a := w2) (by (repeat (first | with_reducible exact Ext.refl _ | with_reducible refine Ext.drew ?_ | with_reducible refine Ext.alloc ?_ _))) (RT.out _) (Nat.le_refl _)) (sv_one _) (by unfold maxLen; omega) (by omega) (by simp; try omega) ?_
              intro v3 w3 ho3 hg3 hat3
              rw [Nat.zero_add, List.nil_append] at ho3
              have E3 := hide (Ext.grown (a := w2) (by (repeat (first | with_reducible exact Ext.refl _ | with_reducible refine Ext.drew ?_ | with_reducible refine Ext.alloc ?_ _))) hg3 (fun z hz => by simp [Value.ownBlock] at hz; omega))
              have KX := hide (Blk.grown (Blk.alloc (Blk.new w2.drew 9 #[.string what]) (.cells #[] 9)) hg3 (by simp [Value.ownBlock]))
              obtain ⟨A3, c3, hv3, _⟩ := own_form ho3
              subst hv3
              have O3 := hide ho3
              refine hK.out _ _ (HS.out _ E3.out) (fun hHeld => ?_)
              clear ho3 hg3 hat3 hK K
              change GoF _ _ _ _ _ _ _ _ (Act.put _ (some 52) _) _
              simp only [Act.put, List.setIfInBounds_toArray, List.set_cons_zero, List.set_cons_succ]
              refine GoF.each (rs := [14]) (by kernel_rfl) (by kernel_rfl) (by kernel_rfl) ?_
              refine EachF.cons (i := 14) rfl (fun K hK => ?_) EachF.nil
              refine step_append_any _ rfl (.tmp 52) (.tmp 61) _ rfl w2.heap.size 9 i0 _ 1 16 Try.underlying41 hi0 iz0 iz1 iz2 rfl (by omega) (.slice A3 (0) c3) (0) (sv (l.take 0)) rfl (O3.out) _ _ (1) _ ([.string what]) rfl (reads_blk (m := 1) KX.out rfl) (by intro u hu; simp at hu; subst hu; rfl) (by unfold maxLen; omega) (by omega) (by have := E3.out.size; simp; try omega) ?_
              intro v4 w4 ho4 hg4 hat4
              have E4 := hide (Ext.grown (a := w2) (by (repeat (first | with_reducible exact Ext.refl _ | with_reducible exact E3.out | with_reducible refine Ext.drew ?_ | with_reducible refine Ext.alloc ?_ _))) hg4 (fun z hz => (O3.out.lt z hz).1))
              obtain ⟨A4, c4, hv4, _⟩ := own_form ho4
              subst hv4
              have O4 := hide ho4
              refine hK.out _ _ (HS.out _ E4.out) (fun hHeld => ?_)
              clear ho4 hg4 hat4 hK K
              change GoF _ _ _ _ _ _ _ _ (Act.put _ (some 62) _) _
              simp only [Act.put, List.setIfInBounds_toArray, List.set_cons_zero, List.set_cons_succ]
              refine GoF.each (rs := [18]) (by kernel_rfl) (by kernel_rfl) (by kernel_rfl) ?_
              refine EachF.cons (i := 18) rfl (fun K hK => ?_) EachF.nil
              refine step_append_any _ rfl (.tmp 62) (.tmp 65) _ rfl w2.heap.size 9 i0 _ 1 16 Try.underlying41 hi0 iz0 iz1 iz2 rfl (by omega) (.slice A4 (0 + 1) c4) (0 + 1) (sv (l.take 0) ++ [.string what]) rfl (O4.out) _ _ (0) _ (sv (l.drop 0)) rfl (Ext.reads E4.out (RD.out _) (Nat.le_refl _)) (sv_one _) (by unfold maxLen; omega) (by omega) (E4.out.size) ?_
              intro v5 w5 ho5 hg5 hat5
              have E5 := hide (Ext.grown (a := w2) E4.out hg5 (fun z hz => (O4.out.lt z hz).1))
              obtain ⟨A5, c5, hv5, _⟩ := own_form ho5
              subst hv5
              have O5 := hide ho5
              refine hK.out _ _ (HS.out _ E5.out) (fun hHeld => ?_)
              clear ho5 hg5 hat5 hK K
              change GoF _ _ _ _ _ _ _ _ (Act.put _ (some 66) _) _
              simp only [Act.put, List.setIfInBounds_toArray, List.set_cons_zero, List.set_cons_succ]
              refine GoF.last (by kernel_rfl) (by kernel_rfl) rfl (fun K hK => ?_)
              clear hHeld
              go_simp
              refine hK.out _ _ ?_
              clear hK K
              go_wp2_with (fail)
              go_roundw
              case rel => exact ⟨i + 1, by omega, by go_num, _, HFIN.out, A5, c5, congrArg (fun z => Value.slice A5 z c5) (by have := HLN.out; rw [List.length_append, List.length_append, List.length_take, List.length_drop]; simp only [List.length_cons, List.length_nil]; omega), own_end HLN.out.symm HKL.out (by try omega) (World.ownsRow.mono O5.out (Ext.size X.out)), X.out.trans E5.out⟩
              case measure => simp [intOf]; omega
            exact EachF.nil
          · by_cases hck : c5o = k
            · subst hck
              obtain rfl : N = c5o := by omega
              have RT := hide (reads_take1 hRO (Nat.le_refl N))
              have RD : Hid (∀ A', Reads w2 w2.heap.size 1 A' 0 (sv (l.drop N))) := fun A' => reads_end1 HLN.out.symm (Nat.le_refl _) A'
              clear hRO hnA
              refine wp_region_F (S := (fun w' => w'.cell? ⟨rb, 0, none⟩ = some (.slice (some ⟨g, 0, none⟩) n c) ∧ w'.cell? ⟨g, i * 3 + 1, none⟩ = some (.string what))) 19 (by kernel_rfl) (by kernel_rfl) (HS.out _ (Ext.drew (Ext.refl w2))) (fun hHeld => ?_)
              refine GoF.take 1 (some 49) (v := ?_) rfl rfl (by kernel_rfl) (by kernel_rfl) (by kernel_rfl) (fun _ _ _ h => h) (Or.inl ⟨by rfl, ?_⟩) (by assumption) ?_
              rotate_left
              · intro w' hSw
                try dsimp only at hSw
                go_simp
                try with_reducible rfl
              try simp only [Act.put, List.setIfInBounds_toArray, List.set_cons_zero, List.set_cons_succ]
              refine GoF.take 2 (some 50) (v := ?_) rfl rfl (by kernel_rfl) (by kernel_rfl) (by kernel_rfl) (fun _ _ _ h => h) (Or.inl ⟨by rfl, ?_⟩) (by assumption) ?_
              rotate_left
              · intro w' hSw
                try dsimp only at hSw
                go_simp
                try with_reducible rfl
              try simp only [Act.put, List.setIfInBounds_toArray, List.set_cons_zero, List.set_cons_succ]
              refine GoF.take 3 (some 51) (v := ?_) rfl rfl (by kernel_rfl) (by kernel_rfl) (by kernel_rfl) (fun _ _ _ h => h) (Or.inl ⟨by rfl, ?_⟩) (by assumption) ?_
              rotate_left
              · intro w' hSw
                try dsimp only at hSw
                go_simp
                try with_reducible rfl
              try simp only [Act.put, List.setIfInBounds_toArray, List.set_cons_zero, List.set_cons_succ]
              refine GoF.take 5 (some 53) (v := ?_) rfl rfl (by kernel_rfl) (by kernel_rfl) (by kernel_rfl) (fun _ _ _ h => h) (Or.inl ⟨by rfl, ?_⟩) (by assumption) ?_
              rotate_left
              · intro w' hSw
                try dsimp only at hSw
                go_simp
                try with_reducible rfl
              try simp only [Act.put, List.setIfInBounds_toArray, List.set_cons_zero, List.set_cons_succ]
              refine GoF.take 6 (some 54) (v := ?_) rfl rfl (by kernel_rfl) (by kernel_rfl) (by kernel_rfl) (fun _ _ _ h => h) (Or.inl ⟨by rfl, ?_⟩) (by assumption) ?_
              rotate_left
              · intro w' hSw
                try dsimp only at hSw
                go_simp
                try with_reducible rfl
              try simp only [Act.put, List.setIfInBounds_toArray, List.set_cons_zero, List.set_cons_succ]
              refine GoF.take 7 (some 55) (v := ?_) rfl rfl (by kernel_rfl) (by kernel_rfl) (by kernel_rfl) (fun _ _ _ h => h) (Or.inl ⟨by rfl, ?_⟩) (by assumption) ?_
              rotate_left
              · intro w' hSw
                try dsimp only at hSw
                go_simp
                try with_reducible rfl
              try simp only [Act.put, List.setIfInBounds_toArray, List.set_cons_zero, List.set_cons_succ]
              refine GoF.take 8 (some 56) (v := ?_) rfl rfl (by kernel_rfl) (by kernel_rfl) (by kernel_rfl) (fun _ _ _ h => h) (Or.inl ⟨by rfl, ?_⟩) (by assumption) ?_
              rotate_left
              · intro w' hSw
                try dsimp only at hSw
                go_simp
                try with_reducible rfl
              try simp only [Act.put, List.setIfInBounds_toArray, List.set_cons_zero, List.set_cons_succ]
              refine GoF.take 9 (some 57) (v := ?_) rfl rfl (by kernel_rfl) (by kernel_rfl) (by kernel_rfl) (fun _ _ _ h => h) (Or.inl ⟨by rfl, ?_⟩) (by assumption) ?_
              rotate_left
              · intro w' hSw
                try dsimp only at hSw
                go_simp
                try with_reducible rfl
              try simp only [Act.put, List.setIfInBounds_toArray, List.set_cons_zero, List.set_cons_succ]
              refine GoF.take 10 (some 58) (v := ?_) rfl rfl (by kernel_rfl) (by kernel_rfl) (by kernel_rfl) (fun _ _ _ h => h) (Or.inl ⟨by rfl, ?_⟩) (by assumption) ?_
              rotate_left
              · intro w' hSw
                try dsimp only at hSw
                go_simp
                try with_reducible rfl
              try simp only [Act.put, List.setIfInBounds_toArray, List.set_cons_zero, List.set_cons_succ]
              refine GoF.take 11 (some 59) (v := ?_) rfl rfl (by kernel_rfl) (by kernel_rfl) (by kernel_rfl) (fun _ _ _ h => h) (Or.inl ⟨by rfl, ?_⟩) (by assumption) ?_
              rotate_left
              · intro w' hSw
                try dsimp only at hSw
                go_simp
                try with_reducible rfl
              try simp only [Act.put, List.setIfInBounds_toArray, List.set_cons_zero, List.set_cons_succ]
              refine GoF.take 12 (some 60) (v := ?_) rfl rfl (by kernel_rfl) (by kernel_rfl) (by kernel_rfl) (fun _ _ _ h => h) (Or.inl ⟨by rfl, ?_⟩) (by assumption) ?_
              rotate_left
              · intro w' hSw
                try dsimp only at hSw
                go_simp
                try with_reducible rfl
              try simp only [Act.put, List.setIfInBounds_toArray, List.set_cons_zero, List.set_cons_succ]
              refine GoF.take 15 (some 63) (v := ?_) rfl rfl (by kernel_rfl) (by kernel_rfl) (by kernel_rfl) (fun _ _ _ h => h) (Or.inl ⟨by rfl, ?_⟩) (by assumption) ?_
              rotate_left
              · intro w' hSw
                try dsimp only at hSw
                go_simp
                try with_reducible rfl
              try simp only [Act.put, List.setIfInBounds_toArray, List.set_cons_zero, List.set_cons_succ]
              refine GoF.take 16 (some 64) (v := ?_) rfl rfl (by kernel_rfl) (by kernel_rfl) (by kernel_rfl) (fun _ _ _ h => h) (Or.inl ⟨by rfl, ?_⟩) (by assumption) ?_
              rotate_left
              · intro w' hSw
                try dsimp only at hSw
                go_simp
                try with_reducible rfl
              try simp only [Act.put, List.setIfInBounds_toArray, List.set_cons_zero, List.set_cons_succ]
              refine GoF.take 17 (some 65) (v := ?_) rfl rfl (by kernel_rfl) (by kernel_rfl) (by kernel_rfl) (fun _ _ _ h => h) (Or.inl ⟨by rfl, ?_⟩) (by assumption) ?_
              rotate_left
              · intro w' hSw
                try dsimp only at hSw
                go_simp
                try with_reducible rfl
              try simp only [Act.put, List.setIfInBounds_toArray, List.set_cons_zero, List.set_cons_succ]
              refine GoF.each (rs := [0, 13]) (by kernel_rfl) (by kernel_rfl) (by kernel_rfl) ?_
              refine EachF.cons (i := 0) rfl (fun K hK => ?_) ?_
              · go_simp
                refine hK.out _ _ (HS.out _ (by (repeat (first | with_reducible exact Ext.refl _ | with_reducible refine Ext.drew ?_ | with_reducible refine Ext.alloc ?_ _)))) (fun hHeld => ?_)
                clear hK K
                try simp only [Act.put, List.setIfInBounds_toArray, List.set_cons_zero, List.set_cons_succ]
                refine GoF.each (rs := [4, 13]) (by kernel_rfl) (by kernel_rfl) (by kernel_rfl) ?_
                refine EachF.cons (i := 4) rfl (fun K hK => ?_) ?_
                · refine step_append_any _ rfl (.tmp 48) (.tmp 51) _ rfl w2.heap.size 9 i0 _ 1 16 Try.underlying41 hi0 iz0 iz1 iz2 rfl (by omega) (.slice (some ⟨_, 0, none⟩) 0 0) (0) ([]) rfl (World.ownsRow_made (base := w2.heap.size) (e := 9) (size := 1) w2.drew #[] 0 (Nat.le_refl _) (Nat.zero_le _) rfl) _ _ (N) _ (sv (l.take N)) rfl (Ext.reads (a := w2) (by (repeat (first | with_reducible exact Ext.refl _ | with_reducible refine Ext.drew ?_ | with_reducible refine Ext.alloc ?_ _))) RT.out (Nat.le_refl _)) (sv_one _) (by unfold maxLen; omega) (by omega) (by simp; try omega) ?_
                  intro v3 w3 ho3 hg3 hat3
                  rw [Nat.zero_add, List.nil_append] at ho3
                  have E3 := hide (Ext.grown (a := w2) (by (repeat (first | with_reducible exact Ext.refl _ | with_reducible refine Ext.drew ?_ | with_reducible refine Ext.alloc ?_ _))) hg3 (fun z hz => by simp [Value.ownBlock] at hz; omega))
                  obtain ⟨A3, c3, hv3, _⟩ := own_form ho3
                  subst hv3
                  have O3 := hide ho3
                  refine hK.out _ _ (HS.out _ E3.out) (fun hHeld => ?_)
                  clear ho3 hg3 hat3 hK K
                  change GoF _ _ _ _ _ _ _ _ (Act.put _ (some 52) _) _
                  simp only [Act.put, List.setIfInBounds_toArray, List.set_cons_zero, List.set_cons_succ]
                  refine GoF.each (rs := [13]) (by kernel_rfl) (by kernel_rfl) (by kernel_rfl) ?_
                  refine EachF.cons (i := 13) rfl (fun K hK => ?_) EachF.nil
                  go_simp
                  refine hK.out _ _ (HS.out _ (by (repeat (first | with_reducible exact Ext.refl _ | with_reducible exact E3.out | with_reducible refine Ext.drew ?_ | with_reducible refine Ext.alloc ?_ _)))) (fun hHeld => ?_)
                  clear hK K
                  try simp only [Act.put, List.setIfInBounds_toArray, List.set_cons_zero, List.set_cons_succ]
                  refine GoF.each (rs := [14]) (by kernel_rfl) (by kernel_rfl) (by kernel_rfl) ?_
                  refine EachF.cons (i := 14) rfl (fun K hK => ?_) EachF.nil
                  refine step_append_any _ rfl (.tmp 52) (.tmp 61) _ rfl w2.heap.size 9 i0 _ 1 16 Try.underlying41 hi0 iz0 iz1 iz2 rfl (by omega) (.slice A3 (N) c3) (N) (sv (l.take N)) rfl (O3.out.alloc _) _ _ (1) _ ([.string what]) rfl (reads_blk (m := 1) (Blk.new w3 9 #[.string what]) rfl) (by intro u hu; simp at hu; subst hu; rfl) (by unfold maxLen; omega) (by omega) (by have := E3.out.size; simp; try omega) ?_
                  intro v4 w4 ho4 hg4 hat4
                  have E4 := hide (Ext.grown (a := w2) (by (repeat (first | with_reducible exact Ext.refl _ | with_reducible exact E3.out | with_reducible refine Ext.drew ?_ | with_reducible refine Ext.alloc ?_ _))) hg4 (fun z hz => (O3.out.lt z hz).1))
                  obtain ⟨A4, c4, hv4, _⟩ := own_form ho4
                  subst hv4
                  have O4 := hide ho4
                  refine hK.out _ _ (HS.out _ E4.out) (fun hHeld => ?_)
                  clear ho4 hg4 hat4 hK K
                  change GoF _ _ _ _ _ _ _ _ (Act.put _ (some 62) _) _
                  simp only [Act.put, List.setIfInBounds_toArray, List.set_cons_zero, List.set_cons_succ]
                  refine GoF.each (rs := [18]) (by kernel_rfl) (by kernel_rfl) (by kernel_rfl) ?_
                  refine EachF.cons (i := 18) rfl (fun K hK => ?_) EachF.nil
                  refine step_append_any _ rfl (.tmp 62) (.tmp 65) _ rfl w2.heap.size 9 i0 _ 1 16 Try.underlying41 hi0 iz0 iz1 iz2 rfl (by omega) (.slice A4 (N + 1) c4) (N + 1) (sv (l.take N) ++ [.string what]) rfl (O4.out) _ _ (0) _ (sv (l.drop N)) rfl (Ext.reads E4.out (RD.out _) (Nat.le_refl _)) (sv_one _) (by unfold maxLen; omega) (by omega) (E4.out.size) ?_
                  intro v5 w5 ho5 hg5 hat5
                  have E5 := hide (Ext.grown (a := w2) E4.out hg5 (fun z hz => (O4.out.lt z hz).1))
                  obtain ⟨A5, c5, hv5, _⟩ := own_form ho5
                  subst hv5
                  have O5 := hide ho5
                  refine hK.out _ _ (HS.out _ E5.out) (fun hHeld => ?_)
                  clear ho5 hg5 hat5 hK K
                  change GoF _ _ _ _ _ _ _ _ (Act.put _ (some 66) _) _
                  simp only [Act.put, List.setIfInBounds_toArray, List.set_cons_zero, List.set_cons_succ]
                  refine GoF.last (by kernel_rfl) (by kernel_rfl) rfl (fun K hK => ?_)
                  clear hHeld
                  go_simp
                  refine hK.out _ _ ?_
                  clear hK K
                  go_wp2_with (fail)
                  go_roundw
                  case rel => exact ⟨i + 1, by omega, by go_num, _, HFIN.out, A5, c5, congrArg (fun z => Value.slice A5 z c5) (by have := HLN.out; rw [List.length_append, List.length_append, List.length_take, List.length_drop]; simp only [List.length_cons, List.length_nil]; omega), own_end HLN.out.symm HKL.out (by try omega) (World.ownsRow.mono O5.out (Ext.size X.out)), X.out.trans E5.out⟩
                  case measure => simp [intOf]; omega
                refine EachF.cons (i := 13) rfl (fun K hK => ?_) ?_
                · go_simp
                  refine hK.out _ _ (HS.out _ (by (repeat (first | with_reducible exact Ext.refl _ | with_reducible refine Ext.drew ?_ | with_reducible refine Ext.alloc ?_ _)))) (fun hHeld => ?_)
                  clear hK K
                  try simp only [Act.put, List.setIfInBounds_toArray, List.set_cons_zero, List.set_cons_succ]
                  refine GoF.each (rs := [4]) (by kernel_rfl) (by kernel_rfl) (by kernel_rfl) ?_
                  refine EachF.cons (i := 4) rfl (fun K hK => ?_) EachF.nil
                  refine step_append_any _ rfl (.tmp 48) (.tmp 51) _ rfl w2.heap.size 9 i0 _ 1 16 Try.underlying41 hi0 iz0 iz1 iz2 rfl (by omega) (.slice (some ⟨_, 0, none⟩) 0 0) (0) ([]) rfl ((World.ownsRow_made (base := w2.heap.size) (e := 9) (size := 1) w2.drew #[] 0 (Nat.le_refl _) (Nat.zero_le _) rfl).alloc _) _ _ (N) _ (sv (l.take N)) rfl (Ext.reads (a := w2) (by (repeat (first | with_reducible exact Ext.refl _ | with_reducible refine Ext.drew ?_ | with_reducible refine Ext.alloc ?_ _))) RT.out (Nat.le_refl _)) (sv_one _) (by unfold maxLen; omega) (by omega) (by simp; try omega) ?_
                  intro v3 w3 ho3 hg3 hat3
                  rw [Nat.zero_add, List.nil_append] at ho3
                  have E3 := hide (Ext.grown (a := w2) (by (repeat (first | with_reducible exact Ext.refl _ | with_reducible refine Ext.drew ?_ | with_reducible refine Ext.alloc ?_ _))) hg3 (fun z hz => by simp [Value.ownBlock] at hz; omega))
                  have KX := hide (show Blk w3 (w2.heap.size + 1) 9 #[.string what] from (by have h := Blk.grown (Blk.new (w2.drew.alloc (.cells #[] 9)) 9 #[.string what]) hg3 (by simp [Value.ownBlock]); have e : (w2.drew.alloc (.cells #[] 9)).heap.size = w2.heap.size + 1 := (by simp); rw [e] at h; exact h))
                  obtain ⟨A3, c3, hv3, _⟩ := own_form ho3
                  subst hv3
                  have O3 := hide ho3
                  refine hK.out _ _ (HS.out _ E3.out) (fun hHeld => ?_)
                  clear ho3 hg3 hat3 hK K
                  change GoF _ _ _ _ _ _ _ _ (Act.put _ (some 52) _) _
                  simp only [Act.put, List.setIfInBounds_toArray, List.set_cons_zero, List.set_cons_succ]
                  refine GoF.each (rs := [14]) (by kernel_rfl) (by kernel_rfl) (by kernel_rfl) ?_
                  refine EachF.cons (i := 14) rfl (fun K hK => ?_) EachF.nil
                  refine step_append_any _ rfl (.tmp 52) (.tmp 61) _ rfl w2.heap.size 9 i0 _ 1 16 Try.underlying41 hi0 iz0 iz1 iz2 rfl (by omega) (.slice A3 (N) c3) (N) (sv (l.take N)) rfl (O3.out) _ _ (1) _ ([.string what]) rfl (reads_blk (m := 1) KX.out rfl) (by intro u hu; simp at hu; subst hu; rfl) (by unfold maxLen; omega) (by omega) (by have := E3.out.size; simp; try omega) ?_
                  intro v4 w4 ho4 hg4 hat4
                  have E4 := hide (Ext.grown (a := w2) (by (repeat (first | with_reducible exact Ext.refl _ | with_reducible exact E3.out | with_reducible refine Ext.drew ?_ | with_reducible refine Ext.alloc ?_ _))) hg4 (fun z hz => (O3.out.lt z hz).1))
                  obtain ⟨A4, c4, hv4, _⟩ := own_form ho4
                  subst hv4
                  have O4 := hide ho4
                  refine hK.out _ _ (HS.out _ E4.out) (fun hHeld => ?_)
                  clear ho4 hg4 hat4 hK K
                  change GoF _ _ _ _ _ _ _ _ (Act.put _ (some 62) _) _
                  simp only [Act.put, List.setIfInBounds_toArray, List.set_cons_zero, List.set_cons_succ]
                  refine GoF.each (rs := [18]) (by kernel_rfl) (by kernel_rfl) (by kernel_rfl) ?_
                  refine EachF.cons (i := 18) rfl (fun K hK => ?_) EachF.nil
                  refine step_append_any _ rfl (.tmp 62) (.tmp 65) _ rfl w2.heap.size 9 i0 _ 1 16 Try.underlying41 hi0 iz0 iz1 iz2 rfl (by omega) (.slice A4 (N + 1) c4) (N + 1) (sv (l.take N) ++ [.string what]) rfl (O4.out) _ _ (0) _ (sv (l.drop N)) rfl (Ext.reads E4.out (RD.out _) (Nat.le_refl _)) (sv_one _) (by unfold maxLen; omega) (by omega) (E4.out.size) ?_
                  intro v5 w5 ho5 hg5 hat5
                  have E5 := hide (Ext.grown (a := w2) E4.out hg5 (fun z hz => (O4.out.lt z hz).1))
                  obtain ⟨A5, c5, hv5, _⟩ := own_form ho5
                  subst hv5
                  have O5 := hide ho5
                  refine hK.out _ _ (HS.out _ E5.out) (fun hHeld => ?_)
                  clear ho5 hg5 hat5 hK K
                  change GoF _ _ _ _ _ _ _ _ (Act.put _ (some 66) _) _
                  simp only [Act.put, List.setIfInBounds_toArray, List.set_cons_zero, List.set_cons_succ]
                  refine GoF.last (by kernel_rfl) (by kernel_rfl) rfl (fun K hK => ?_)
                  clear hHeld
                  go_simp
                  refine hK.out _ _ ?_
                  clear hK K
                  go_wp2_with (fail)
                  go_roundw
                  case rel => exact ⟨i + 1, by omega, by go_num, _, HFIN.out, A5, c5, congrArg (fun z => Value.slice A5 z c5) (by have := HLN.out; rw [List.length_append, List.length_append, List.length_take, List.length_drop]; simp only [List.length_cons, List.length_nil]; omega), own_end HLN.out.symm HKL.out (by try omega) (World.ownsRow.mono O5.out (Ext.size X.out)), X.out.trans E5.out⟩
                  case measure => simp [intOf]; omega
                exact EachF.nil
              refine EachF.cons (i := 13) rfl (fun K hK => ?_) ?_
              · go_simp
                refine hK.out _ _ (HS.out _ (by (repeat (first | with_reducible exact Ext.refl _ | with_reducible refine Ext.drew ?_ | with_reducible refine Ext.alloc ?_ _)))) (fun hHeld => ?_)
                clear hK K
                try simp only [Act.put, List.setIfInBounds_toArray, List.set_cons_zero, List.set_cons_succ]
                refine GoF.each (rs := [0]) (by kernel_rfl) (by kernel_rfl) (by kernel_rfl) ?_
                refine EachF.cons (i := 0) rfl (fun K hK => ?_) EachF.nil
                go_simp
                refine hK.out _ _ (HS.out _ (by (repeat (first | with_reducible exact Ext.refl _ | with_reducible refine Ext.drew ?_ | with_reducible refine Ext.alloc ?_ _)))) (fun hHeld => ?_)
                clear hK K
                try simp only [Act.put, List.setIfInBounds_toArray, List.set_cons_zero, List.set_cons_succ]
                refine GoF.each (rs := [4]) (by kernel_rfl) (by kernel_rfl) (by kernel_rfl) ?_
                refine EachF.cons (i := 4) rfl (fun K hK => ?_) EachF.nil
                refine step_append_any _ rfl (.tmp 48) (.tmp 51) _ rfl w2.heap.size 9 i0 _ 1 16 Try.underlying41 hi0 iz0 iz1 iz2 rfl (by omega) (.slice (some ⟨_, 0, none⟩) 0 0) (0) ([]) rfl (by have h := World.ownsRow_made (base := w2.heap.size) (e := 9) (size := 1) (w2.drew.alloc (.cells #[.string what] 9)) #[] 0 (by simp) (Nat.zero_le _) rfl; have e : (w2.drew.alloc (.cells #[.string what] 9)).heap.size = w2.heap.size + 1 := (by simp); rw [e] at h; exact h) _ _ (N) _ (sv (l.take N)) rfl (Ext.reads (a := w2) (by (repeat (first | with_reducible exact Ext.refl _ | with_reducible refine Ext.drew ?_ | with_reducible refine Ext.alloc ?_ _))) RT.out (Nat.le_refl _)) (sv_one _) (by unfold maxLen; omega) (by omega) (by simp; try omega) ?_
                intro v3 w3 ho3 hg3 hat3
                rw [Nat.zero_add, List.nil_append] at ho3
                have E3 := hide (Ext.grown (a := w2) (by (repeat (first | with_reducible exact Ext.refl _ | with_reducible refine Ext.drew ?_ | with_reducible refine Ext.alloc ?_ _))) hg3 (fun z hz => by simp [Value.ownBlock] at hz; omega))
                have KX := hide (Blk.grown (Blk.alloc (Blk.new w2.drew 9 #[.string what]) (.cells #[] 9)) hg3 (by simp [Value.ownBlock]))
                obtain ⟨A3, c3, hv3, _⟩ := own_form ho3
                subst hv3
                have O3 := hide ho3
                refine hK.out _ _ (HS.out _ E3.out) (fun hHeld => ?_)
                clear ho3 hg3 hat3 hK K
                change GoF _ _ _ _ _ _ _ _ (Act.put _ (some 52) _) _
                simp only [Act.put, List.setIfInBounds_toArray, List.set_cons_zero, List.set_cons_succ]
                refine GoF.each (rs := [14]) (by kernel_rfl) (by kernel_rfl) (by kernel_rfl) ?_
                refine EachF.cons (i := 14) rfl (fun K hK => ?_) EachF.nil
                refine step_append_any _ rfl (.tmp 52) (.tmp 61) _ rfl w2.heap.size 9 i0 _ 1 16 Try.underlying41 hi0 iz0 iz1 iz2 rfl (by omega) (.slice A3 (N) c3) (N) (sv (l.take N)) rfl (O3.out) _ _ (1) _ ([.string what]) rfl (reads_blk (m := 1) KX.out rfl) (by intro u hu; simp at hu; subst hu; rfl) (by unfold maxLen; omega) (by omega) (by have := E3.out.size; simp; try omega) ?_
                intro v4 w4 ho4 hg4 hat4
                have E4 := hide (Ext.grown (a := w2) (by (repeat (first | with_reducible exact Ext.refl _ | with_reducible exact E3.out | with_reducible refine Ext.drew ?_ | with_reducible refine Ext.alloc ?_ _))) hg4 (fun z hz => (O3.out.lt z hz).1))
                obtain ⟨A4, c4, hv4, _⟩ := own_form ho4
                subst hv4
                have O4 := hide ho4
                refine hK.out _ _ (HS.out _ E4.out) (fun hHeld => ?_)
                clear ho4 hg4 hat4 hK K
                change GoF _ _ _ _ _ _ _ _ (Act.put _ (some 62) _) _
                simp only [Act.put, List.setIfInBounds_toArray, List.set_cons_zero, List.set_cons_succ]
                refine GoF.each (rs := [18]) (by kernel_rfl) (by kernel_rfl) (by kernel_rfl) ?_
                refine EachF.cons (i := 18) rfl (fun K hK => ?_) EachF.nil
                refine step_append_any _ rfl (.tmp 62) (.tmp 65) _ rfl w2.heap.size 9 i0 _ 1 16 Try.underlying41 hi0 iz0 iz1 iz2 rfl (by omega) (.slice A4 (N + 1) c4) (N + 1) (sv (l.take N) ++ [.string what]) rfl (O4.out) _ _ (0) _ (sv (l.drop N)) rfl (Ext.reads E4.out (RD.out _) (Nat.le_refl _)) (sv_one _) (by unfold maxLen; omega) (by omega) (E4.out.size) ?_
                intro v5 w5 ho5 hg5 hat5
                have E5 := hide (Ext.grown (a := w2) E4.out hg5 (fun z hz => (O4.out.lt z hz).1))
                obtain ⟨A5, c5, hv5, _⟩ := own_form ho5
                subst hv5
                have O5 := hide ho5
                refine hK.out _ _ (HS.out _ E5.out) (fun hHeld => ?_)
                clear ho5 hg5 hat5 hK K
                change GoF _ _ _ _ _ _ _ _ (Act.put _ (some 66) _) _
                simp only [Act.put, List.setIfInBounds_toArray, List.set_cons_zero, List.set_cons_succ]
                refine GoF.last (by kernel_rfl) (by kernel_rfl) rfl (fun K hK => ?_)
                clear hHeld
                go_simp
                refine hK.out _ _ ?_
                clear hK K
                go_wp2_with (fail)
                go_roundw
                case rel => exact ⟨i + 1, by omega, by go_num, _, HFIN.out, A5, c5, congrArg (fun z => Value.slice A5 z c5) (by have := HLN.out; rw [List.length_append, List.length_append, List.length_take, List.length_drop]; simp only [List.length_cons, List.length_nil]; omega), own_end HLN.out.symm HKL.out (by try omega) (World.ownsRow.mono O5.out (Ext.size X.out)), X.out.trans E5.out⟩
                case measure => simp [intOf]; omega
              exact EachF.nil
            · have hkc : k ≤ c5o := by omega
              have RT := hide (reads_take1 hRO hkN)
              have RD := hide (reads_drop1 hRO hkN hnc hck)
              clear hRO hnA
              refine wp_region_F (S := (fun w' => w'.cell? ⟨rb, 0, none⟩ = some (.slice (some ⟨g, 0, none⟩) n c) ∧ w'.cell? ⟨g, i * 3 + 1, none⟩ = some (.string what))) 19 (by kernel_rfl) (by kernel_rfl) (HS.out _ (Ext.drew (Ext.refl w2))) (fun hHeld => ?_)
              refine GoF.take 1 (some 49) (v := ?_) rfl rfl (by kernel_rfl) (by kernel_rfl) (by kernel_rfl) (fun _ _ _ h => h) (Or.inl ⟨by rfl, ?_⟩) (by assumption) ?_
              rotate_left
              · intro w' hSw
                try dsimp only at hSw
                go_simp
                try with_reducible rfl
              try simp only [Act.put, List.setIfInBounds_toArray, List.set_cons_zero, List.set_cons_succ]
              refine GoF.take 2 (some 50) (v := ?_) rfl rfl (by kernel_rfl) (by kernel_rfl) (by kernel_rfl) (fun _ _ _ h => h) (Or.inl ⟨by rfl, ?_⟩) (by assumption) ?_
              rotate_left
              · intro w' hSw
                try dsimp only at hSw
                go_simp
                try with_reducible rfl
              try simp only [Act.put, List.setIfInBounds_toArray, List.set_cons_zero, List.set_cons_succ]
              refine GoF.take 3 (some 51) (v := ?_) rfl rfl (by kernel_rfl) (by kernel_rfl) (by kernel_rfl) (fun _ _ _ h => h) (Or.inl ⟨by rfl, ?_⟩) (by assumption) ?_
              rotate_left
              · intro w' hSw
                try dsimp only at hSw
                go_simp
                try with_reducible rfl
              try simp only [Act.put, List.setIfInBounds_toArray, List.set_cons_zero, List.set_cons_succ]
              refine GoF.take 5 (some 53) (v := ?_) rfl rfl (by kernel_rfl) (by kernel_rfl) (by kernel_rfl) (fun _ _ _ h => h) (Or.inl ⟨by rfl, ?_⟩) (by assumption) ?_
              rotate_left
              · intro w' hSw
                try dsimp only at hSw
                go_simp
                try with_reducible rfl
              try simp only [Act.put, List.setIfInBounds_toArray, List.set_cons_zero, List.set_cons_succ]
              refine GoF.take 6 (some 54) (v := ?_) rfl rfl (by kernel_rfl) (by kernel_rfl) (by kernel_rfl) (fun _ _ _ h => h) (Or.inl ⟨by rfl, ?_⟩) (by assumption) ?_
              rotate_left
              · intro w' hSw
                try dsimp only at hSw
                go_simp
                try with_reducible rfl
              try simp only [Act.put, List.setIfInBounds_toArray, List.set_cons_zero, List.set_cons_succ]
              refine GoF.take 7 (some 55) (v := ?_) rfl rfl (by kernel_rfl) (by kernel_rfl) (by kernel_rfl) (fun _ _ _ h => h) (Or.inl ⟨by rfl, ?_⟩) (by assumption) ?_
              rotate_left
              · intro w' hSw
                try dsimp only at hSw
                go_simp
                try with_reducible rfl
              try simp only [Act.put, List.setIfInBounds_toArray, List.set_cons_zero, List.set_cons_succ]
              refine GoF.take 8 (some 56) (v := ?_) rfl rfl (by kernel_rfl) (by kernel_rfl) (by kernel_rfl) (fun _ _ _ h => h) (Or.inl ⟨by rfl, ?_⟩) (by assumption) ?_
              rotate_left
              · intro w' hSw
                try dsimp only at hSw
                go_simp
                try with_reducible rfl
              try simp only [Act.put, List.setIfInBounds_toArray, List.set_cons_zero, List.set_cons_succ]
              refine GoF.take 9 (some 57) (v := ?_) rfl rfl (by kernel_rfl) (by kernel_rfl) (by kernel_rfl) (fun _ _ _ h => h) (Or.inl ⟨by rfl, ?_⟩) (by assumption) ?_
              rotate_left
              · intro w' hSw
                try dsimp only at hSw
                go_simp
                try with_reducible rfl
              try simp only [Act.put, List.setIfInBounds_toArray, List.set_cons_zero, List.set_cons_succ]
              refine GoF.take 10 (some 58) (v := ?_) rfl rfl (by kernel_rfl) (by kernel_rfl) (by kernel_rfl) (fun _ _ _ h => h) (Or.inl ⟨by rfl, ?_⟩) (by assumption) ?_
              rotate_left
              · intro w' hSw
                try dsimp only at hSw
                go_simp
                try with_reducible rfl
              try simp only [Act.put, List.setIfInBounds_toArray, List.set_cons_zero, List.set_cons_succ]
              refine GoF.take 11 (some 59) (v := ?_) rfl rfl (by kernel_rfl) (by kernel_rfl) (by kernel_rfl) (fun _ _ _ h => h) (Or.inl ⟨by rfl, ?_⟩) (by assumption) ?_
              rotate_left
              · intro w' hSw
                try dsimp only at hSw
                go_simp
                try with_reducible rfl
              try simp only [Act.put, List.setIfInBounds_toArray, List.set_cons_zero, List.set_cons_succ]
              refine GoF.take 12 (some 60) (v := ?_) rfl rfl (by kernel_rfl) (by kernel_rfl) (by kernel_rfl) (fun _ _ _ h => h) (Or.inl ⟨by rfl, ?_⟩) (by assumption) ?_
              rotate_left
              · intro w' hSw
                try dsimp only at hSw
                go_simp
                try with_reducible rfl
              try simp only [Act.put, List.setIfInBounds_toArray, List.set_cons_zero, List.set_cons_succ]
              refine GoF.take 15 (some 63) (v := ?_) rfl rfl (by kernel_rfl) (by kernel_rfl) (by kernel_rfl) (fun _ _ _ h => h) (Or.inl ⟨by rfl, ?_⟩) (by assumption) ?_
              rotate_left
              · intro w' hSw
                try dsimp only at hSw
                go_simp
                try with_reducible rfl
              try simp only [Act.put, List.setIfInBounds_toArray, List.set_cons_zero, List.set_cons_succ]
              refine GoF.take 16 (some 64) (v := ?_) rfl rfl (by kernel_rfl) (by kernel_rfl) (by kernel_rfl) (fun _ _ _ h => h) (Or.inl ⟨by rfl, ?_⟩) (by assumption) ?_
              rotate_left
              · intro w' hSw
                try dsimp only at hSw
                go_simp
                try with_reducible rfl
              try simp only [Act.put, List.setIfInBounds_toArray, List.set_cons_zero, List.set_cons_succ]
              refine GoF.take 17 (some 65) (v := ?_) rfl rfl (by kernel_rfl) (by kernel_rfl) (by kernel_rfl) (fun _ _ _ h => h) (Or.inl ⟨by rfl, ?_⟩) (by assumption) ?_
              rotate_left
              · intro w' hSw
                try dsimp only at hSw
                go_simp
                try with_reducible rfl
              try simp only [Act.put, List.setIfInBounds_toArray, List.set_cons_zero, List.set_cons_succ]
              refine GoF.each (rs := [0, 13]) (by kernel_rfl) (by kernel_rfl) (by kernel_rfl) ?_
              refine EachF.cons (i := 0) rfl (fun K hK => ?_) ?_
              · go_simp
                refine hK.out _ _ (HS.out _ (by (repeat (first | with_reducible exact Ext.refl _ | with_reducible refine Ext.drew ?_ | with_reducible refine Ext.alloc ?_ _)))) (fun hHeld => ?_)
                clear hK K
                try simp only [Act.put, List.setIfInBounds_toArray, List.set_cons_zero, List.set_cons_succ]
                refine GoF.each (rs := [4, 13]) (by kernel_rfl) (by kernel_rfl) (by kernel_rfl) ?_
                refine EachF.cons (i := 4) rfl (fun K hK => ?_) ?_
                · refine step_append_any _ rfl (.tmp 48) (.tmp 51) _ rfl w2.heap.size 9 i0 _ 1 16 Try.underlying41 hi0 iz0 iz1 iz2 rfl (by omega) (.slice (some ⟨_, 0, none⟩) 0 0) (0) ([]) rfl (World.ownsRow_made (base := w2.heap.size) (e := 9) (size := 1) w2.drew #[] 0 (Nat.le_refl _) (Nat.zero_le _) rfl) _ _ (k) _ (sv (l.take k)) rfl (Ext.reads (a := w2) (by (repeat (first | with_reducible exact Ext.refl _ | with_reducible refine Ext.drew ?_ | with_reducible refine Ext.alloc ?_ _))) RT.out (Nat.le_refl _)) (sv_one _) (by unfold maxLen; omega) (by omega) (by simp; try omega) ?_
                  intro v3 w3 ho3 hg3 hat3
                  rw [Nat.zero_add, List.nil_append] at ho3
                  have E3 := hide (Ext.grown (a := w2) (by (repeat (first | with_reducible exact Ext.refl _ | with_reducible refine Ext.drew ?_ | with_reducible refine Ext.alloc ?_ _))) hg3 (fun z hz => by simp [Value.ownBlock] at hz; omega))
                  obtain ⟨A3, c3, hv3, _⟩ := own_form ho3
                  subst hv3
                  have O3 := hide ho3
                  refine hK.out _ _ (HS.out _ E3.out) (fun hHeld => ?_)
                  clear ho3 hg3 hat3 hK K
                  change GoF _ _ _ _ _ _ _ _ (Act.put _ (some 52) _) _
                  simp only [Act.put, List.setIfInBounds_toArray, List.set_cons_zero, List.set_cons_succ]
                  refine GoF.each (rs := [13]) (by kernel_rfl) (by kernel_rfl) (by kernel_rfl) ?_
                  refine EachF.cons (i := 13) rfl (fun K hK => ?_) EachF.nil
                  go_simp
                  refine hK.out _ _ (HS.out _ (by (repeat (first | with_reducible exact Ext.refl _ | with_reducible exact E3.out | with_reducible refine Ext.drew ?_ | with_reducible refine Ext.alloc ?_ _)))) (fun hHeld => ?_)
                  clear hK K
                  try simp only [Act.put, List.setIfInBounds_toArray, List.set_cons_zero, List.set_cons_succ]
                  refine GoF.each (rs := [14]) (by kernel_rfl) (by kernel_rfl) (by kernel_rfl) ?_
                  refine EachF.cons (i := 14) rfl (fun K hK => ?_) EachF.nil
                  refine step_append_any _ rfl (.tmp 52) (.tmp 61) _ rfl w2.heap.size 9 i0 _ 1 16 Try.underlying41 hi0 iz0 iz1 iz2 rfl (by omega) (.slice A3 (k) c3) (k) (sv (l.take k)) rfl (O3.out.alloc _) _ _ (1) _ ([.string what]) rfl (reads_blk (m := 1) (Blk.new w3 9 #[.string what]) rfl) (by intro u hu; simp at hu; subst hu; rfl) (by unfold maxLen; omega) (by omega) (by have := E3.out.size; simp; try omega) ?_
                  intro v4 w4 ho4 hg4 hat4
                  have E4 := hide (Ext.grown (a := w2) (by (repeat (first | with_reducible exact Ext.refl _ | with_reducible exact E3.out | with_reducible refine Ext.drew ?_ | with_reducible refine Ext.alloc ?_ _))) hg4 (fun z hz => (O3.out.lt z hz).1))
                  obtain ⟨A4, c4, hv4, _⟩ := own_form ho4
                  subst hv4
                  have O4 := hide ho4
                  refine hK.out _ _ (HS.out _ E4.out) (fun hHeld => ?_)
                  clear ho4 hg4 hat4 hK K
                  change GoF _ _ _ _ _ _ _ _ (Act.put _ (some 62) _) _
                  simp only [Act.put, List.setIfInBounds_toArray, List.set_cons_zero, List.set_cons_succ]
                  refine GoF.each (rs := [18]) (by kernel_rfl) (by kernel_rfl) (by kernel_rfl) ?_
                  refine EachF.cons (i := 18) rfl (fun K hK => ?_) EachF.nil
                  refine step_append_any _ rfl (.tmp 62) (.tmp 65) _ rfl w2.heap.size 9 i0 _ 1 16 Try.underlying41 hi0 iz0 iz1 iz2 rfl (by omega) (.slice A4 (k + 1) c4) (k + 1) (sv (l.take k) ++ [.string what]) rfl (O4.out) _ _ (N - k) _ (sv (l.drop k)) rfl (Ext.reads E4.out RD.out (Nat.le_refl _)) (sv_one _) (by unfold maxLen; omega) (by omega) (E4.out.size) ?_
                  intro v5 w5 ho5 hg5 hat5
                  have E5 := hide (Ext.grown (a := w2) E4.out hg5 (fun z hz => (O4.out.lt z hz).1))
                  obtain ⟨A5, c5, hv5, _⟩ := own_form ho5
                  subst hv5
                  have O5 := hide ho5
                  refine hK.out _ _ (HS.out _ E5.out) (fun hHeld => ?_)
                  clear ho5 hg5 hat5 hK K
                  change GoF _ _ _ _ _ _ _ _ (Act.put _ (some 66) _) _
                  simp only [Act.put, List.setIfInBounds_toArray, List.set_cons_zero, List.set_cons_succ]
                  refine GoF.last (by kernel_rfl) (by kernel_rfl) rfl (fun K hK => ?_)
                  clear hHeld
                  go_simp
                  refine hK.out _ _ ?_
                  clear hK K
                  go_wp2_with (fail)
                  go_roundw
                  case rel => exact ⟨i + 1, by omega, by go_num, _, HFIN.out, A5, c5, congrArg (fun z => Value.slice A5 z c5) (by have := HLN.out; rw [List.length_append, List.length_append, List.length_take, List.length_drop]; simp only [List.length_cons, List.length_nil]; omega), own_end HLN.out.symm HKL.out (by try omega) (World.ownsRow.mono O5.out (Ext.size X.out)), X.out.trans E5.out⟩
                  case measure => simp [intOf]; omega
                refine EachF.cons (i := 13) rfl (fun K hK => ?_) ?_
                · go_simp
                  refine hK.out _ _ (HS.out _ (by (repeat (first | with_reducible exact Ext.refl _ | with_reducible refine Ext.drew ?_ | with_reducible refine Ext.alloc ?_ _)))) (fun hHeld => ?_)
                  clear hK K
                  try simp only [Act.put, List.setIfInBounds_toArray, List.set_cons_zero, List.set_cons_succ]
                  refine GoF.each (rs := [4]) (by kernel_rfl) (by kernel_rfl) (by kernel_rfl) ?_
                  refine EachF.cons (i := 4) rfl (fun K hK => ?_) EachF.nil
                  refine step_append_any _ rfl (.tmp 48) (.tmp 51) _ rfl w2.heap.size 9 i0 _ 1 16 Try.underlying41 hi0 iz0 iz1 iz2 rfl (by omega) (.slice (some ⟨_, 0, none⟩) 0 0) (0) ([]) rfl ((World.ownsRow_made (base := w2.heap.size) (e := 9) (size := 1) w2.drew #[] 0 (Nat.le_refl _) (Nat.zero_le _) rfl).alloc _) _ _ (k) _ (sv (l.take k)) rfl (Ext.reads (a := w2) (by (repeat (first | with_reducible exact Ext.refl _ | with_reducible refine Ext.drew ?_ | with_reducible refine Ext.alloc ?_ _))) RT.out (Nat.le_refl _)) (sv_one _) (by unfold maxLen; omega) (by omega) (by simp; try omega) ?_
                  intro v3 w3 ho3 hg3 hat3
                  rw [Nat.zero_add, List.nil_append] at ho3
                  have E3 := hide (Ext.grown (a := w2) (by (repeat (first | with_reducible exact Ext.refl _ | with_reducible refine Ext.drew ?_ | with_reducible refine Ext.alloc ?_ _))) hg3 (fun z hz => by simp [Value.ownBlock] at hz; omega))
                  have KX := hide (show Blk w3 (w2.heap.size + 1) 9 #[.string what] from (by have h := Blk.grown (Blk.new (w2.drew.alloc (.cells #[] 9)) 9 #[.string what]) hg3 (by simp [Value.ownBlock]); have e : (w2.drew.alloc (.cells #[] 9)).heap.size = w2.heap.size + 1 := (by simp); rw [e] at h; exact h))
                  obtain ⟨A3, c3, hv3, _⟩ := own_form ho3
                  subst hv3
                  have O3 := hide ho3
                  refine hK.out _ _ (HS.out _ E3.out) (fun hHeld => ?_)
                  clear ho3 hg3 hat3 hK K
                  change GoF _ _ _ _ _ _ _ _ (Act.put _ (some 52) _) _
                  simp only [Act.put, List.setIfInBounds_toArray, List.set_cons_zero, List.set_cons_succ]
                  refine GoF.each (rs := [14]) (by kernel_rfl) (by kernel_rfl) (by kernel_rfl) ?_
                  refine EachF.cons (i := 14) rfl (fun K hK => ?_) EachF.nil
                  refine step_append_any _ rfl (.tmp 52) (.tmp 61) _ rfl w2.heap.size 9 i0 _ 1 16 Try.underlying41 hi0 iz0 iz1 iz2 rfl (by omega) (.slice A3 (k) c3) (k) (sv (l.take k)) rfl (O3.out) _ _ (1) _ ([.string what]) rfl (reads_blk (m := 1) KX.out rfl) (by intro u hu; simp at hu; subst hu; rfl) (by unfold maxLen; omega) (by omega) (by have := E3.out.size; simp; try omega) ?_
                  intro v4 w4 ho4 hg4 hat4
                  have E4 := hide (Ext.grown (a := w2) (by (repeat (first | with_reducible exact Ext.refl _ | with_reducible exact E3.out | with_reducible refine Ext.drew ?_ | with_reducible refine Ext.alloc ?_ _))) hg4 (fun z hz => (O3.out.lt z hz).1))
                  obtain ⟨A4, c4, hv4, _⟩ := own_form ho4
                  subst hv4
                  have O4 := hide ho4
                  refine hK.out _ _ (HS.out _ E4.out) (fun hHeld => ?_)
                  clear ho4 hg4 hat4 hK K
                  change GoF _ _ _ _ _ _ _ _ (Act.put _ (some 62) _) _
                  simp only [Act.put, List.setIfInBounds_toArray, List.set_cons_zero, List.set_cons_succ]
                  refine GoF.each (rs := [18]) (by kernel_rfl) (by kernel_rfl) (by kernel_rfl) ?_
                  refine EachF.cons (i := 18) rfl (fun K hK => ?_) EachF.nil
                  refine step_append_any _ rfl (.tmp 62) (.tmp 65) _ rfl w2.heap.size 9 i0 _ 1 16 Try.underlying41 hi0 iz0 iz1 iz2 rfl (by omega) (.slice A4 (k + 1) c4) (k + 1) (sv (l.take k) ++ [.string what]) rfl (O4.out) _ _ (N - k) _ (sv (l.drop k)) rfl (Ext.reads E4.out RD.out (Nat.le_refl _)) (sv_one _) (by unfold maxLen; omega) (by omega) (E4.out.size) ?_
                  intro v5 w5 ho5 hg5 hat5
                  have E5 := hide (Ext.grown (a := w2) E4.out hg5 (fun z hz => (O4.out.lt z hz).1))
                  obtain ⟨A5, c5, hv5, _⟩ := own_form ho5
                  subst hv5
                  have O5 := hide ho5
                  refine hK.out _ _ (HS.out _ E5.out) (fun hHeld => ?_)
                  clear ho5 hg5 hat5 hK K
                  change GoF _ _ _ _ _ _ _ _ (Act.put _ (some 66) _) _
                  simp only [Act.put, List.setIfInBounds_toArray, List.set_cons_zero, List.set_cons_succ]
                  refine GoF.last (by kernel_rfl) (by kernel_rfl) rfl (fun K hK => ?_)
                  clear hHeld
                  go_simp
                  refine hK.out _ _ ?_
                  clear hK K
                  go_wp2_with (fail)
                  go_roundw
                  case rel => exact ⟨i + 1, by omega, by go_num, _, HFIN.out, A5, c5, congrArg (fun z => Value.slice A5 z c5) (by have := HLN.out; rw [List.length_append, List.length_append, List.length_take, List.length_drop]; simp only [List.length_cons, List.length_nil]; omega), own_end HLN.out.symm HKL.out (by try omega) (World.ownsRow.mono O5.out (Ext.size X.out)), X.out.trans E5.out⟩
                  case measure => simp [intOf]; omega
                exact EachF.nil
              refine EachF.cons (i := 13) rfl (fun K hK => ?_) ?_
              · go_simp
                refine hK.out _ _ (HS.out _ (by (repeat (first | with_reducible exact Ext.refl _ | with_reducible refine Ext.drew ?_ | with_reducible refine Ext.alloc ?_ _)))) (fun hHeld => ?_)
                clear hK K
                try simp only [Act.put, List.setIfInBounds_toArray, List.set_cons_zero, List.set_cons_succ]
                refine GoF.each (rs := [0]) (by kernel_rfl) (by kernel_rfl) (by kernel_rfl) ?_
                refine EachF.cons (i := 0) rfl (fun K hK => ?_) EachF.nil
                go_simp
                refine hK.out _ _ (HS.out _ (by (repeat (first | with_reducible exact Ext.refl _ | with_reducible refine Ext.drew ?_ | with_reducible refine Ext.alloc ?_ _)))) (fun hHeld => ?_)
                clear hK K
                try simp only [Act.put, List.setIfInBounds_toArray, List.set_cons_zero, List.set_cons_succ]
                refine GoF.each (rs := [4]) (by kernel_rfl) (by kernel_rfl) (by kernel_rfl) ?_
                refine EachF.cons (i := 4) rfl (fun K hK => ?_) EachF.nil
                refine step_append_any _ rfl (.tmp 48) (.tmp 51) _ rfl w2.heap.size 9 i0 _ 1 16 Try.underlying41 hi0 iz0 iz1 iz2 rfl (by omega) (.slice (some ⟨_, 0, none⟩) 0 0) (0) ([]) rfl (by have h := World.ownsRow_made (base := w2.heap.size) (e := 9) (size := 1) (w2.drew.alloc (.cells #[.string what] 9)) #[] 0 (by simp) (Nat.zero_le _) rfl; have e : (w2.drew.alloc (.cells #[.string what] 9)).heap.size = w2.heap.size + 1 := (by simp); rw [e] at h; exact h) _ _ (k) _ (sv (l.take k)) rfl (Ext.reads (a := w2) (by (repeat (first | with_reducible exact Ext.refl _ | with_reducible refine Ext.drew ?_ | with_reducible refine Ext.alloc ?_ _))) RT.out (Nat.le_refl _)) (sv_one _) (by unfold maxLen; omega) (by omega) (by simp; try omega) ?_
                intro v3 w3 ho3 hg3 hat3
                rw [Nat.zero_add, List.nil_append] at ho3
                have E3 := hide (Ext.grown (a := w2) (by (repeat (first | with_reducible exact Ext.refl _ | with_reducible refine Ext.drew ?_ | with_reducible refine Ext.alloc ?_ _))) hg3 (fun z hz => by simp [Value.ownBlock] at hz; omega))
                have KX := hide (Blk.grown (Blk.alloc (Blk.new w2.drew 9 #[.string what]) (.cells #[] 9)) hg3 (by simp [Value.ownBlock]))
                obtain ⟨A3, c3, hv3, _⟩ := own_form ho3
                subst hv3
                have O3 := hide ho3
                refine hK.out _ _ (HS.out _ E3.out) (fun hHeld => ?_)
                clear ho3 hg3 hat3 hK K
                change GoF _ _ _ _ _ _ _ _ (Act.put _ (some 52) _) _
                simp only [Act.put, List.setIfInBounds_toArray, List.set_cons_zero, List.set_cons_succ]
                refine GoF.each (rs := [14]) (by kernel_rfl) (by kernel_rfl) (by kernel_rfl) ?_
                refine EachF.cons (i := 14) rfl (fun K hK => ?_) EachF.nil
                refine step_append_any _ rfl (.tmp 52) (.tmp 61) _ rfl w2.heap.size 9 i0 _ 1 16 Try.underlying41 hi0 iz0 iz1 iz2 rfl (by omega) (.slice A3 (k) c3) (k) (sv (l.take k)) rfl (O3.out) _ _ (1) _ ([.string what]) rfl (reads_blk (m := 1) KX.out rfl) (by intro u hu; simp at hu; subst hu; rfl) (by unfold maxLen; omega) (by omega) (by have := E3.out.size; simp; try omega) ?_
                intro v4 w4 ho4 hg4 hat4
                have E4 := hide (Ext.grown (a := w2) (by (repeat (first | with_reducible exact Ext.refl _ | with_reducible exact E3.out | with_reducible refine Ext.drew ?_ | with_reducible refine Ext.alloc ?_ _))) hg4 (fun z hz => (O3.out.lt z hz).1))
                obtain ⟨A4, c4, hv4, _⟩ := own_form ho4
                subst hv4
                have O4 := hide ho4
                refine hK.out _ _ (HS.out _ E4.out) (fun hHeld => ?_)
                clear ho4 hg4 hat4 hK K
                change GoF _ _ _ _ _ _ _ _ (Act.put _ (some 62) _) _
                simp only [Act.put, List.setIfInBounds_toArray, List.set_cons_zero, List.set_cons_succ]
                refine GoF.each (rs := [18]) (by kernel_rfl) (by kernel_rfl) (by kernel_rfl) ?_
                refine EachF.cons (i := 18) rfl (fun K hK => ?_) EachF.nil
                refine step_append_any _ rfl (.tmp 62) (.tmp 65) _ rfl w2.heap.size 9 i0 _ 1 16 Try.underlying41 hi0 iz0 iz1 iz2 rfl (by omega) (.slice A4 (k + 1) c4) (k + 1) (sv (l.take k) ++ [.string what]) rfl (O4.out) _ _ (N - k) _ (sv (l.drop k)) rfl (Ext.reads E4.out RD.out (Nat.le_refl _)) (sv_one _) (by unfold maxLen; omega) (by omega) (E4.out.size) ?_
                intro v5 w5 ho5 hg5 hat5
                have E5 := hide (Ext.grown (a := w2) E4.out hg5 (fun z hz => (O4.out.lt z hz).1))
                obtain ⟨A5, c5, hv5, _⟩ := own_form ho5
                subst hv5
                have O5 := hide ho5
                refine hK.out _ _ (HS.out _ E5.out) (fun hHeld => ?_)
                clear ho5 hg5 hat5 hK K
                change GoF _ _ _ _ _ _ _ _ (Act.put _ (some 66) _) _
                simp only [Act.put, List.setIfInBounds_toArray, List.set_cons_zero, List.set_cons_succ]
                refine GoF.last (by kernel_rfl) (by kernel_rfl) rfl (fun K hK => ?_)
                clear hHeld
                go_simp
                refine hK.out _ _ ?_
                clear hK K
                go_wp2_with (fail)
                go_roundw
                case rel => exact ⟨i + 1, by omega, by go_num, _, HFIN.out, A5, c5, congrArg (fun z => Value.slice A5 z c5) (by have := HLN.out; rw [List.length_append, List.length_append, List.length_take, List.length_drop]; simp only [List.length_cons, List.length_nil]; omega), own_end HLN.out.symm HKL.out (by try omega) (World.ownsRow.mono O5.out (Ext.size X.out)), X.out.trans E5.out⟩
                case measure => simp [intOf]; omega
              exact EachF.nil
      · have d1 : (x.who == who) = false := by simpa using h1
        have d3 : (x.who != who) = true := by simp [h1]
        have HNM := hide (HL.out.skip HX.out h1)
        clear h1
        go_wp2_with (fail)
        go_roundw
        case rel => exact ⟨i + 1, by omega, by go_num, l, HNM.out, A5o, c5o, rfl, HO.out, X.out⟩
        case measure => simp [intOf]; omega
    · obtain rfl : i = n := by omega
      go_wp2_with (fail)
      go_ret
      exact ⟨l, by rw [← HN.out]; exact HL.out, A5o, c5o, rfl, HO.out, X.out⟩
end Go.Proofs.Ytebflbpjmpmnjaa
