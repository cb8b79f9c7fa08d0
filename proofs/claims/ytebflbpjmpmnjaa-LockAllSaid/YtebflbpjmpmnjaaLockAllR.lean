/- LockAll: the document's answers: Held, Holders, Free; numbers. -/
import Derived.Test.YtebflbpjmpmnjaaLockAllP
namespace Go.Proofs.Ytebflbpjmpmnjaa
open Go.ChangeShapes Go.WideShapes Go.ChangeAt Go.RowKit Go.Maps
set_option linter.unusedVariables false

theorem be_eq (a b : ByteArray) : (a.toList == b.toList) = decide (a = b) := by
  rw [Bool.eq_iff_iff, ByteArray.toList_eq, ByteArray.toList_eq]
  simp only [beq_iff_eq, decide_eq_true_eq]
  constructor
  · intro e
    have := congrArg bt e
    rwa [bt_of, bt_of] at this
  · rintro e
    rw [e]
/-- the document's list of locks -/
structure Rl (W w : World) (rb : Nat) (A : Option Addr) (c : Nat) (R : List Lw) : Prop where
  blk : Blk w rb 35 #[.slice A R.length c]
  own : w.ownsRow W.heap.size 58 3 (.slice A R.length c) R.length (lcs R)
  hb : W.heap.size ≤ rb
  ext : Ext W w
theorem Rl.ex {W w w' : World} {rb : Nat} {A : Option Addr} {c : Nat} {R : List Lw} (h : Rl W w rb A c R) (hx : Ext w w') : Rl W w' rb A c R :=
  ⟨hx.blk h.blk, hx.own h.own, h.hb, h.ext.trans hx⟩
theorem own_lock_at {w : World} {B g n c k : Nat} {R : List Lw} {x : Lw} (h : w.ownsRow B 58 3 (.slice (some ⟨g, 0, none⟩) n c) n (lcs R)) (hk : R[k]? = some x) :
    w.cell? ⟨g, k * 3, none⟩ = some (.int .i64 x.who) ∧ w.cell? ⟨g, k * 3 + 1, none⟩ = some (.string x.what) ∧ w.cell? ⟨g, k * 3 + 2, none⟩ = some (.int .i64 x.mode) := by
  obtain ⟨y0, y1, y2⟩ := lcs_at hk
  have hc := h.cells (g := g) rfl
  have e : ∀ j, (⟨g, 0, none⟩ : Addr).add j = ⟨g, j, none⟩ := fun j => by unfold Addr.add; split <;> simp_all
  have h0 := hc _ _ y0
  have h1 := hc _ _ y1
  have h2 := hc _ _ y2
  rw [e] at h0 h1 h2
  exact ⟨h0, h1, h2⟩
theorem Rl.some_ {W w : World} {rb c : Nat} {A : Option Addr} {R : List Lw} (h : Rl W w rb A c R) (h0 : 0 < R.length) : ∃ g, A = some ⟨g, 0, none⟩ ∧ g < w.heap.size := by
  rcases h.own.2 with ⟨hv, hn⟩ | ⟨g, cap, cur, hv, _, hh, _⟩
  · omega
  · injection hv with q1 q2 q3
    subst q1
    exact ⟨g, rfl, Blk.lt (t := 58) (cs := cur) hh⟩
set_option maxRecDepth 100000 in
set_option maxHeartbeats 2000000 in
theorem rheld_any (W w : World) (rb : Nat) (A : Option Addr) (c : Nat) (R : List Lw) (F : ByteArray → Int → Int) (who : Int) (s : ByteArray) (h : Rl W w rb A c R) (hn : R.length ≤ 1000) (hrep : RepL F R) :
    Calls Try.prog 20 #[.pointer (some ⟨rb, 0, none⟩), .int .i64 who, .string s] w fun e w' => e = .returned (.int .i64 (F s who)) ∧ w = w' := by
  have c0 := h.blk.cell 0
  simp at c0
  have H := hide h
  have HP := hide hrep
  obtain ⟨n, hN⟩ : ∃ n, n = R.length := ⟨_, rfl⟩
  rw [← hN] at c0 hn
  have HN := hide hN
  clear h hN hrep
  go_enter Try.func20, Try.ntmps20
  go_wp2_with (fail)
  go_loopw [7] (fun s7 wr => (∃ i : Nat, i ≤ n ∧ s7 = .int .i64 i ∧ w = wr ∧ Hid (∀ (j : Nat) (x : Lw), j < i → R[j]? = some x → ¬ (x.who = who ∧ x.what = s)))) (fun s7 _ => (n - intOf s7).toNat)
  case atStart => exact ⟨0, by omega, rfl, rfl, fun j x hj => absurd hj (by omega)⟩
  case round =>
    obtain ⟨i, hi, rfl, rfl, hno⟩ := hrel
    by_cases hlt : i < n
    · obtain ⟨x, hx⟩ : ∃ x, R[i]? = some x := ⟨_, List.getElem?_eq_getElem (by rw [← HN.out]; exact hlt)⟩
      obtain ⟨g, hA, hgl⟩ := Rl.some_ H.out (by rw [← HN.out]; omega)
      subst hA
      obtain ⟨x0, x1, x2⟩ := own_lock_at H.out.own hx
      have HX := hide hx
      clear hx
      by_cases h1 : x.who = who
      · have d1 : (x.who == who) = true := by rw [h1]; exact beq_self_eq_true _
        by_cases h2 : x.what = s
        · have d2 : (x.what.toList == s.toList) = true := by rw [be_eq]; exact decide_eq_true h2
          have HF := hide (show F s who = x.mode by rw [← h1, ← h2]; exact HP.out.held_yes HX.out)
          clear h1 h2
          go_wp2_with (fail)
          go_ret
          exact ⟨by rw [HF.out]; rfl, rfl⟩
        · have d2 : (x.what.toList == s.toList) = false := by rw [be_eq]; exact decide_eq_false h2
          have HF := hide h2
          clear h1 h2
          go_wp2_with (fail)
          go_roundw
          case rel => exact ⟨i + 1, by omega, by go_num, by trivial, fun j y hj hy => by
            rcases Nat.lt_or_ge j i with h | h
            · exact hno.out j y h hy
            · obtain rfl : j = i := by omega
              have hx := HX.out
              rw [hx] at hy; injection hy with hy; subst hy
              exact fun e => HF.out e.2⟩
          case measure => simp [intOf]; omega
      · have d1 : (x.who == who) = false := by simpa using h1
        have HF := hide h1
        clear h1
        go_wp2_with (fail)
        go_roundw
        case rel => exact ⟨i + 1, by omega, by go_num, by trivial, fun j y hj hy => by
          rcases Nat.lt_or_ge j i with h | h
          · exact hno.out j y h hy
          · obtain rfl : j = i := by omega
            have hx := HX.out
            rw [hx] at hy; injection hy with hy; subst hy
            exact fun e => HF.out e.1⟩
        case measure => simp [intOf]; omega
    · obtain rfl : i = n := by omega
      have HF := hide (show F s who = 0 from HP.out.held_no (fun j x hx => hno.out j x (by rw [HN.out]; exact (List.getElem?_eq_some_iff.1 hx).1) hx))
      go_wp2_with (fail)
      go_ret
      exact ⟨by rw [HF.out]; rfl, rfl⟩
set_option maxRecDepth 100000 in
set_option maxHeartbeats 2000000 in
theorem rholders_any (W w : World) (rb : Nat) (A : Option Addr) (c : Nat) (R : List Lw) (s : ByteArray) (h : Rl W w rb A c R) (hn : R.length ≤ 1000) :
    Calls Try.prog 21 #[.pointer (some ⟨rb, 0, none⟩), .string s] w (GivesRow w (rises (fun x => decide (x.what = s)) R)) := by
  have H := hide h
  obtain ⟨n, hN⟩ : ∃ n, n = R.length := ⟨_, rfl⟩
  rw [← hN] at hn
  have HN := hide hN
  obtain ⟨p, hp⟩ : ∃ p : Lw → Bool, p = (fun x => decide (x.what = s)) := ⟨_, rfl⟩
  have HP := hide hp
  rw [← hp]
  have c0 := h.blk.cell 0
  simp at c0
  rw [← hN] at c0
  clear h hN hp
  go_enter Try.func21, Try.ntmps21
  go_wp2_with (fail)
  go_loopw [5, 6] (fun s5 s6 wr => (∃ i : Nat, i ≤ n ∧ s6 = .int .i64 i ∧ Hid (∃ A5 c5, s5 = .slice A5 (rises p (R.take i)).length c5 ∧ Reads wr wr.heap.size 1 A5 (rises p (R.take i)).length (iv (rises p (R.take i))) ∧ (rises p (R.take i)).length ≤ c5 ∧ c5 ≤ maxLen ∧ (A5 = none → c5 = 0) ∧ Ext w wr))) (fun _ s6 _ => (n - intOf s6).toNat)
  case atStart => exact ⟨0, by omega, rfl, none, 0, rfl, Reads.none_, Nat.le_refl _, Nat.zero_le _, fun _ => rfl, Ext.refl _⟩
  case round =>
    obtain ⟨i, hi, rfl, hs⟩ := hrel
    obtain ⟨A5, c5, rfl, h1, h2, h3, h4, h5⟩ := hs.out
    have HR := hide h1
    have H2 := hide h2
    have H3 := hide h3
    have H4 := hide h4
    have X := hide h5
    have HW := hide (H.out.ex h5)
    have cw := HW.out.blk.cell 0
    simp at cw
    rw [← HN.out] at cw
    clear h1 h2 h3 h4 h5 hs
    by_cases hlt : i < n
    · obtain ⟨x, hx⟩ : ∃ x, R[i]? = some x := ⟨_, List.getElem?_eq_getElem (by rw [← HN.out]; exact hlt)⟩
      obtain ⟨g, hA, hgl⟩ := Rl.some_ HW.out (by rw [← HN.out]; omega)
      subst hA
      obtain ⟨x0, x1, x2⟩ := own_lock_at HW.out.own hx
      have HX := hide hx
      have HL := hide (show (rises p (R.take i)).length ≤ 1000 by have := rises_le p (R.take i); rw [List.length_take] at this; omega)
      obtain ⟨l, hl⟩ : ∃ l, l = rises p (R.take i) := ⟨_, rfl⟩
      have HLL := hide hl
      rw [← hl] at HR H2 HL ⊢
      clear hx hl c0
      by_cases h2 : x.what = s
      · have d2 : (x.what.toList == s.toList) = true := by rw [be_eq]; exact decide_eq_true h2
        have HF := hide (show p x = true by rw [HP.out]; exact decide_eq_true h2)
        clear h2
        go_wp2_with (go_at_call 29; refine (rise_any A5 c5 l.length l x.who wr rfl HR.out H2.out H3.out H4.out (by have := HL.out; omega)).mono ?_; rintro e w2 ⟨A6, c6, rfl, q1, q2, q3, q4, q5⟩; have HR6 := hide q1; have H26 := hide q2; have H36 := hide q3; have H46 := hide q4; have X6 := hide (X.out.trans q5); clear q1 q2 q3 q4 q5)
        go_roundw
        case rel => exact ⟨i + 1, by omega, by go_num, by
          rw [rises_snoc HX.out, if_pos HF.out, ← HLL.out]
          exact ⟨A6, c6, rfl, HR6.out, H26.out, H36.out, H46.out, X6.out⟩⟩
        case measure => simp [intOf]; omega
      · have d2 : (x.what.toList == s.toList) = false := by rw [be_eq]; exact decide_eq_false h2
        have HF := hide (show ¬ p x = true by rw [HP.out]; simpa using h2)
        clear h2
        go_wp2_with (fail)
        go_roundw
        case rel => exact ⟨i + 1, by omega, by go_num, by
          rw [rises_snoc HX.out, if_neg HF.out, ← HLL.out]
          exact ⟨A5, c5, rfl, HR.out, H2.out, H3.out, H4.out, X.out⟩⟩
        case measure => simp [intOf]; omega
    · obtain rfl : i = n := by omega
      have eT : R.take i = R := List.take_of_length_le (by rw [← HN.out]; exact Nat.le_refl _)
      rw [eT] at HR H2 ⊢
      go_wp2_with (fail)
      go_ret
      exact ⟨A5, c5, rfl, HR.out, H2.out, H3.out, H4.out, X.out⟩
theorem Try.info58' : (Try.prog.info? 58).map (fun i => (i.zero, i.size, i.bytes)) = some (some (.agg #[.int .i64 0, .string .empty, .int .i64 0]), 3, 32) := by kernel_rfl
set_option maxRecDepth 100000 in
set_option maxHeartbeats 2000000 in
theorem numbers_any (A1 A2 : Option Addr) (c1 c2 n B1 B2 : Nat) (L : List Int) (w : World) (hn : n = L.length) (h1 : Reads w B1 1 A1 n (iv L)) (h2 : Reads w B2 1 A2 n (iv L)) (hl : n ≤ 1000) :
    Calls Try.prog 17 #[.slice A1 n c1, .slice A2 n c2] w fun e w' => e = .returned (.bool true) ∧ Ext w w' := by
  have H1 := hide h1
  have H2 := hide h2
  have HN := hide hn
  clear h1 h2 hn
  go_enter Try.func17, Try.ntmps17
  go_wp2_with (fail)
  go_loopw [5] (fun i wr => (∃ k : Nat, k ≤ n ∧ i = .int .i64 k ∧ Hid (∃ m, wr = w.drewN m))) (fun i _ => (n - intOf i).toNat)
  case atStart => exact ⟨0, by omega, rfl, 0, rfl⟩
  case round =>
    obtain ⟨k, hk, rfl, hw⟩ := hrel
    obtain ⟨m, rfl⟩ := hw.out
    by_cases hlt : k < n
    · obtain ⟨b1, o1, e1, _, d1⟩ := H1.out.plain (by omega) (by omega)
      obtain ⟨b2, o2, e2, _, d2⟩ := H2.out.plain (by omega) (by omega)
      obtain ⟨x, hx⟩ : ∃ x, L[k]? = some x := ⟨_, List.getElem?_eq_getElem (by rw [← HN.out]; exact hlt)⟩
      have g10 : w.cell? ⟨b1, o1 + k, none⟩ = some (.int .i64 x) := d1 _ _ (by simp [iv, hx])
      have g20 : w.cell? ⟨b2, o2 + k, none⟩ = some (.int .i64 x) := d2 _ _ (by simp [iv, hx])
      subst e1 e2
      clear d1 d2 hw hx
      go_wp2_with (fail)
      go_quiet (fail)
      go_wp2
      go_roundw
      case rel => exact ⟨k + 1, by omega, by go_num, m + nq, by simp⟩
      case measure => simp [intOf]; omega
    · obtain rfl : k = n := by omega
      clear hw
      go_wp2
      go_ret
      exact ⟨rfl, (Ext.refl w).drewN m⟩
end Go.Proofs.Ytebflbpjmpmnjaa
