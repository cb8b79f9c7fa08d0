/- LockAll: the document's answers: Ask. -/
import Derived.Test.YtebflbpjmpmnjaaLockAllS
namespace Go.Proofs.Ytebflbpjmpmnjaa
open Go.ChangeShapes Go.WideShapes Go.ChangeAt Go.RowKit Go.Maps
set_option linter.unusedVariables false

theorem rask_bad (w : World) (rb : Nat) (who : Int) (s : ByteArray) (m : Int) (hm : m ≤ 0 ∨ 4 < m) :
    Calls Try.prog 16 #[.pointer (some ⟨rb, 0, none⟩), .int .i64 who, .string s, .int .i64 m] w fun e w' => e = .returned (.tuple #[.slice none 0 0, .bool false]) ∧ w = w' := by
  by_cases h0 : m = 0
  · have h1 := mayP_t (m := m) (by omega) (by omega)
    subst h0
    go_enter Try.func16, Try.ntmps16
    go_wp2_with (go_at_call 28; refine (mode_any _ _).mono ?_; rintro e w' ⟨rfl, rfl⟩)
    exact bodyPost_ret (v := .tuple #[.slice none 0 0, .bool false]) (by simp [results, Try.results16, go_sem]) rfl ⟨rfl, rfl⟩
  · have h1 := mayP_f (m := m) (by omega)
    clear hm h0
    go_enter Try.func16, Try.ntmps16
    go_wp2_with (go_at_call 28; refine (mode_any _ _).mono ?_; rintro e w' ⟨rfl, rfl⟩)
    exact bodyPost_ret (v := .tuple #[.slice none 0 0, .bool false]) (by simp [results, Try.results16, go_sem]) rfl ⟨rfl, rfl⟩
/-- what the document's Ask answers -/
def RAsk (W w : World) (rb : Nat) (R : List Lw) (s : ByteArray) (who want : Int) (e : Ending) (w' : World) : Prop :=
  (rises (hinL s who want) R ≠ [] ∧ ∃ A c, e = .returned (.tuple #[.slice A (rises (hinL s who want) R).length c, .bool false]) ∧ Reads w' w'.heap.size 1 A (rises (hinL s who want) R).length (iv (rises (hinL s who want) R)) ∧ Ext w w') ∨
  (rises (hinL s who want) R = [] ∧ e = .returned (.tuple #[.slice none 0 0, .bool true]) ∧ ∃ A' c', Rl W w' rb A' c' (R.filter (notL s who) ++ [⟨who, s, want⟩]) ∧ Touch w w' (fun a => a = rb))
set_option maxRecDepth 100000 in
set_option maxHeartbeats 4000000 in
theorem rask_any (W w : World) (rb : Nat) (A : Option Addr) (c : Nat) (R : List Lw) (F : ByteArray → Int → Int) (s : ByteArray) (who m : Int) (h : Rl W w rb A c R) (hn : R.length ≤ 1000) (hrep : RepL F R) (hm0 : 0 < m) (hm1 : m ≤ 4) :
    Calls Try.prog 16 #[.pointer (some ⟨rb, 0, none⟩), .int .i64 who, .string s, .int .i64 m] w (RAsk W w rb R s who (joinP (F s who) m)) := by
  have H := hide h
  have HREP := hide hrep
  obtain ⟨i0, hi0, iz0, iz1, iz2⟩ := info_parts Try.info58'
  obtain ⟨n, hN⟩ : ∃ n, n = R.length := ⟨_, rfl⟩
  rw [← hN] at hn
  have HN := hide hN
  obtain ⟨want, hwant⟩ : ∃ want, want = joinP (F s who) m := ⟨_, rfl⟩
  have HWANT := hide hwant
  obtain ⟨p, hp⟩ : ∃ p : Lw → Bool, p = hinL s who want := ⟨_, rfl⟩
  have HP := hide hp
  have hmay := mayP_t (m := m) (by omega) hm1
  have hm2 : (m == 0) = false := by simp; omega
  have c0 := h.blk.cell 0
  simp at c0
  rw [← hN] at c0
  rw [← hwant]
  clear h hN hp hrep hwant
  go_enter Try.func16, Try.ntmps16
  go_wp2_with (first
    | (go_at_call 28; refine (mode_any _ _).mono ?_; rintro e w' ⟨rfl, rfl⟩)
    | (go_at_call 20; refine (rheld_any W w rb A c R F who s H.out (by rw [← HN.out]; exact hn) HREP.out).mono ?_; rintro e w' ⟨rfl, rfl⟩)
    | (go_at_call 22; refine (joinR_any _ _ _).mono ?_; rintro e w' ⟨rfl, rfl⟩; rw [← HWANT.out]))
  go_loopw [11, 12] (fun s11 s12 wr => (∃ i : Nat, i ≤ n ∧ s12 = .int .i64 i ∧ Hid (∃ A5 c5, s11 = .slice A5 (rises p (R.take i)).length c5 ∧ Reads wr wr.heap.size 1 A5 (rises p (R.take i)).length (iv (rises p (R.take i))) ∧ (rises p (R.take i)).length ≤ c5 ∧ c5 ≤ maxLen ∧ (A5 = none → c5 = 0) ∧ Ext w wr))) (fun _ s12 _ => (n - intOf s12).toNat)
  case atStart => exact ⟨0, by omega, rfl, none, 0, rfl, Reads.none_, Nat.le_refl _, Nat.zero_le _, fun _ => rfl, Ext.refl _⟩
  case round =>
    obtain ⟨i, hi, rfl, hs⟩ := hrel
    obtain ⟨A5, c5, rfl, h1, h2, h3, h4, h5⟩ := hs.out
    have HR := hide h1
    have H2 := hide h2
    have H3 := hide h3
    have H4 := hide h4
    have X := hide h5
    have HW := hide (H.out.ex h5)
    have cw := HW.out.blk.cell 0
    simp at cw
    rw [← HN.out] at cw
    have hrl : rb < wr.heap.size := HW.out.blk.lt
    clear h1 h2 h3 h4 h5 hs
    by_cases hlt : i < n
    · obtain ⟨x, hx⟩ : ∃ x, R[i]? = some x := ⟨_, List.getElem?_eq_getElem (by rw [← HN.out]; exact hlt)⟩
      obtain ⟨g, hA, hgl⟩ := Rl.some_ HW.out (by rw [← HN.out]; omega)
      subst hA
      obtain ⟨x0, x1, x2⟩ := own_lock_at HW.out.own hx
      have HX := hide hx
      have HL := hide (show (rises p (R.take i)).length ≤ 1000 by have := rises_le p (R.take i); rw [List.length_take] at this; omega)
      obtain ⟨l, hl⟩ : ∃ l, l = rises p (R.take i) := ⟨_, rfl⟩
      have HLL := hide hl
      rw [← hl] at HR H2 HL ⊢
      have X1 := hide (X.out.alloc (.cells #[.int .i64 x.who, .string x.what, .int .i64 x.mode] 58))
      have HR1 := hide ((Ext.new wr (.cells #[.int .i64 x.who, .string x.what, .int .i64 x.mode] 58)).read HR.out)
      clear hx hl c0
      have hskip : ∀ (hf : ¬ p x = true), Hid (∃ A5' c5', (Value.slice A5 l.length c5 = .slice A5' (rises p (R.take (i + 1))).length c5') ∧ Reads (wr.alloc (.cells #[.int .i64 x.who, .string x.what, .int .i64 x.mode] 58)) (wr.alloc (.cells #[.int .i64 x.who, .string x.what, .int .i64 x.mode] 58)).heap.size 1 A5' (rises p (R.take (i + 1))).length (iv (rises p (R.take (i + 1)))) ∧ (rises p (R.take (i + 1))).length ≤ c5' ∧ c5' ≤ maxLen ∧ (A5' = none → c5' = 0) ∧ Ext w (wr.alloc (.cells #[.int .i64 x.who, .string x.what, .int .i64 x.mode] 58))) := fun hf => by
        rw [rises_snoc HX.out, if_neg hf, ← HLL.out]
        exact ⟨A5, c5, rfl, HR1.out, H2.out, H3.out, H4.out, X1.out⟩
      have HSK := hide hskip
      clear hskip
      by_cases h2 : x.what = s
      · have d2 : (x.what.toList == s.toList) = true := by rw [be_eq]; exact decide_eq_true h2
        by_cases h1 : x.who = who
        · have d1 : (x.who == who) = true := by rw [h1]; exact beq_self_eq_true _
          have HF := hide (show ¬ p x = true by rw [HP.out]; simp [hinL, h1])
          have d3 : (x.who != who) = false := by simp [h1]
          have d4 : decide (x.who = who) = true := decide_eq_true h1
          clear h1 h2
          go_wp2_with (fail)
          go_roundw
          case rel => exact ⟨i + 1, by omega, by go_num, HSK.out HF.out⟩
          case measure => simp [intOf]; omega
        · have d1 : (x.who == who) = false := by simpa using h1
          have d3 : (x.who != who) = true := by simp [h1]
          have d4 : decide (x.who = who) = false := decide_eq_false h1
          by_cases hg : goesP x.mode want = true
          · have HF := hide (show ¬ p x = true by rw [HP.out]; simp [hinL, hg])
            clear h2
            go_wp2_with (go_at_call 23; refine (goesR_any _ _ _).mono ?_; rintro e w' ⟨rfl, rfl⟩; rw [hg])
            go_roundw
            case rel => exact ⟨i + 1, by omega, by go_num, HSK.out HF.out⟩
            case measure => simp [intOf]; omega
          · have hgf : goesP x.mode want = false := by simpa using hg
            have HF := hide (show p x = true by rw [HP.out]; simp [hinL, hgf, h1, h2])
            clear h2 hg
            go_wp2_with (first
              | (go_at_call 23; refine (goesR_any _ _ _).mono ?_; rintro e w' ⟨rfl, rfl⟩; rw [hgf])
              | (go_at_call 29; refine (rise_any A5 c5 l.length l x.who _ rfl HR1.out H2.out H3.out H4.out (by have := HL.out; omega)).mono ?_; rintro e w2 ⟨A6, c6, rfl, q1, q2, q3, q4, q5⟩; have HR6 := hide q1; have H26 := hide q2; have H36 := hide q3; have H46 := hide q4; have X6 := hide (X1.out.trans q5); clear q1 q2 q3 q4 q5))
            go_roundw
            case rel => exact ⟨i + 1, by omega, by go_num, by
              rw [rises_snoc HX.out, if_pos HF.out, ← HLL.out]
              exact ⟨A6, c6, rfl, HR6.out, H26.out, H36.out, H46.out, X6.out⟩⟩
            case measure => simp [intOf]; omega
      · have d2 : (x.what.toList == s.toList) = false := by rw [be_eq]; exact decide_eq_false h2
        have HF := hide (show ¬ p x = true by rw [HP.out]; simp [hinL, h2])
        clear h2
        go_wp2_with (fail)
        go_roundw
        case rel => exact ⟨i + 1, by omega, by go_num, HSK.out HF.out⟩
        case measure => simp [intOf]; omega
    · obtain rfl : i = n := by omega
      have eT : R.take i = R := List.take_of_length_le (by rw [← HN.out]; exact Nat.le_refl _)
      rw [eT] at HR H2 ⊢
      obtain ⟨l, hl⟩ : ∃ l, l = rises p R := ⟨_, rfl⟩
      have HLL := hide hl
      rw [← hl] at HR H2 ⊢
      have hll : l.length ≤ 1000 := by rw [hl]; exact Nat.le_trans (rises_le p R) (by rw [← HN.out]; exact hn)
      clear hl c0
      by_cases hz : l = []
      · subst hz
        simp only [List.length_nil] at *
        have d1 : decide ((0 : Int) < ((0 : Nat) : Int)) = false := rfl
        obtain ⟨wm, hwm⟩ : ∃ wm, wm = wr := ⟨_, rfl⟩
        subst hwm
        obtain ⟨q, hq⟩ : ∃ q : Lw → Bool, q = notL s who := ⟨_, rfl⟩
        have HQ := hide hq
        clear hq
        go_wp2_with (fail)
        go_loopw [14, 15] (fun s14 s15 wr => (∃ k : Nat, k ≤ i ∧ s15 = .int .i64 k ∧ Hid (Ext w wr ∧ wr.ownsRow w.heap.size 58 3 s14 ((R.take k).filter q).length (lcs ((R.take k).filter q))))) (fun _ s15 _ => (i - intOf s15).toNat)
        case atStart => exact ⟨0, by omega, rfl, X.out, World.ownsRow_nil _ _ _ _⟩
        case round =>
          obtain ⟨k, hk, rfl, hs⟩ := hrel
          have X2 := hide hs.out.1
          have ho := hs.out.2
          obtain ⟨A4, c4, hv4, _⟩ := own_form ho
          subst hv4
          have HO := hide ho
          have HW2 := hide (H.out.ex X2.out)
          have cw := HW2.out.blk.cell 0
          simp at cw
          rw [← HN.out] at cw
          have fw := HW2.out.blk.frozen 0
          have hrl : rb < wr.heap.size := HW2.out.blk.lt
          clear hs ho
          by_cases hlt : k < i
          · obtain ⟨x, hx⟩ : ∃ x, R[k]? = some x := ⟨_, List.getElem?_eq_getElem (by rw [← HN.out]; exact hlt)⟩
            obtain ⟨g, hA, hgl⟩ := Rl.some_ HW2.out (by rw [← HN.out]; omega)
            subst hA
            obtain ⟨x0, x1, x2⟩ := own_lock_at HW2.out.own hx
            have HX := hide hx
            have hcnt : ((R.take k).filter q).length ≤ 1000 := Nat.le_trans (List.length_filter_le _ _) (by rw [List.length_take]; omega)
            obtain ⟨T, hT⟩ : ∃ T, T = (R.take k).filter q := ⟨_, rfl⟩
            have HT := hide hT
            rw [← hT] at HO hcnt ⊢
            clear hx hT
            have hkeep : ∀ (w3 : World) (v3 : Value), q x = true → w3.ownsRow w.heap.size 58 3 v3 (T.length + 1) (lcs (T ++ [x])) → w3.ownsRow w.heap.size 58 3 v3 ((R.take (k + 1)).filter q).length (lcs ((R.take (k + 1)).filter q)) := fun w3 v3 hf h3 => by
              rw [takeF HX.out, if_pos hf, ← HT.out]
              have e : (T ++ [x]).length = T.length + 1 := by simp
              rw [e]
              exact h3
            have HKEEP := hide hkeep
            clear hkeep
            by_cases h1 : x.who = who
            · have d1 : (x.who == who) = true := by rw [h1]; exact beq_self_eq_true _
              have d3 : (x.who != who) = false := by simp [h1]
              by_cases h2 : x.what = s
              · have d2 : (x.what.toList == s.toList) = true := by rw [be_eq]; exact decide_eq_true h2
                have d5 : (x.what.toList != s.toList) = false := by rw [bne, d2]; rfl
                have HF := hide (show ¬ q x = true by rw [HQ.out]; simp [notL, h1, h2])
                clear h1 h2
                go_wp2_with (fail)
                go_roundw
                case rel => exact ⟨k + 1, by omega, by go_num, X2.out, by rw [takeF HX.out, if_neg HF.out, List.append_nil, ← HT.out]; exact HO.out⟩
                case measure => simp [intOf]; omega
              · have d2 : (x.what.toList == s.toList) = false := by rw [be_eq]; exact decide_eq_false h2
                have d5 : (x.what.toList != s.toList) = true := by rw [bne, d2]; rfl
                have HF := hide (show q x = true by rw [HQ.out]; simp [notL, h2])
                clear h1 h2
                go_wp2_with (at_builtin; refine wpList_append_any _ rfl (.tmp 101) (.tmp 109) _ rfl w.heap.size 58 i0 _ 3 32 Try.underlying33 hi0 iz0 iz1 iz2 rfl (by omega) (.slice A4 T.length c4) T.length (lcs T) rfl (Ext.own (Ext.new wr _) HO.out) _ (some ⟨wr.heap.size, 0, none⟩) 1 1 (lc x) rfl (reads_blk (m := 3) (Blk.new wr 58 #[.int .i64 x.who, .string x.what, .int .i64 x.mode]) rfl) (lc_one x) (by unfold maxLen; omega) (by omega) (by have := X2.out.size; simp; omega) ?_; intro v3 w3 ho3 hg3 hat3; have E3 := hide (Ext.grown (X2.out.alloc _) hg3 (fun z hz => (HO.out.lt z hz).1)); rw [← lcs_snoc] at ho3; have O3 := hide ho3; clear ho3 hg3 hat3)
                go_roundw
                case rel => exact ⟨k + 1, by omega, by go_num, E3.out, HKEEP.out _ _ HF.out O3.out⟩
                case measure => simp [intOf]; omega
            · have d1 : (x.who == who) = false := by simpa using h1
              have d3 : (x.who != who) = true := by simp [h1]
              have HF := hide (show q x = true by rw [HQ.out]; simp [notL, h1])
              clear h1
              go_wp2_with (at_builtin; refine wpList_append_any _ rfl (.tmp 101) (.tmp 109) _ rfl w.heap.size 58 i0 _ 3 32 Try.underlying33 hi0 iz0 iz1 iz2 rfl (by omega) (.slice A4 T.length c4) T.length (lcs T) rfl (Ext.own (Ext.new wr _) HO.out) _ (some ⟨wr.heap.size, 0, none⟩) 1 1 (lc x) rfl (reads_blk (m := 3) (Blk.new wr 58 #[.int .i64 x.who, .string x.what, .int .i64 x.mode]) rfl) (lc_one x) (by unfold maxLen; omega) (by omega) (by have := X2.out.size; simp; omega) ?_; intro v3 w3 ho3 hg3 hat3; have E3 := hide (Ext.grown (X2.out.alloc _) hg3 (fun z hz => (HO.out.lt z hz).1)); rw [← lcs_snoc] at ho3; have O3 := hide ho3; clear ho3 hg3 hat3)
              go_roundw
              case rel => exact ⟨k + 1, by omega, by go_num, E3.out, HKEEP.out _ _ HF.out O3.out⟩
              case measure => simp [intOf]; omega
          · obtain rfl : k = i := by omega
            have eT2 : R.take k = R := List.take_of_length_le (by rw [← HN.out]; exact Nat.le_refl _)
            rw [eT2] at HO ⊢
            have hcnt : (R.filter q).length ≤ 1000 := Nat.le_trans (List.length_filter_le _ _) (by rw [← HN.out]; exact hn)
            go_wp2_with (at_builtin; refine wpList_append_any _ rfl (.tmp 112) (.tmp 117) _ rfl w.heap.size 58 i0 _ 3 32 Try.underlying33 hi0 iz0 iz1 iz2 rfl (by omega) (.slice A4 (R.filter q).length c4) (R.filter q).length (lcs (R.filter q)) rfl (Ext.own (Ext.new wr _) HO.out) _ (some ⟨wr.heap.size, 0, none⟩) 1 1 (lc ⟨who, s, want⟩) rfl (reads_blk (m := 3) (Blk.new wr 58 #[.int .i64 who, .string s, .int .i64 want]) rfl) (lc_one _) (by unfold maxLen; omega) (by omega) (by have := X2.out.size; simp; omega) ?_; intro v3 w3 ho3 hg3 hat3; have E3 := hide (Ext.grown (X2.out.alloc _) hg3 (fun z hz => (HO.out.lt z hz).1)); rw [← lcs_snoc] at ho3; obtain ⟨A3, c3, hv3, _⟩ := own_form ho3; subst hv3; have O3 := hide ho3; have B3 := hide (E3.out.blk H.out.blk); have y3 := B3.out.cell 0; simp at y3; have z3 := B3.out.frozen 0; clear ho3 hg3 hat3)
            have hfin := Rl.turn (m := (R.filter q).length + 1) (R := R.filter q ++ [⟨who, s, want⟩]) H.out.ext H.out.hb E3.out B3.out (by simp) O3.out
            refine bodyPost_ret (v := .tuple #[.slice none 0 0, .bool true]) (by simp [results, Try.results16, go_sem]) rfl (.inr ⟨?_, rfl, A3, c3, ?_⟩)
            · rw [← HP.out, ← HLL.out]
            · rw [← HQ.out]
              exact hfin
      · have hpos : 0 < l.length := List.length_pos_iff.2 hz
        have d1 : decide ((0 : Int) < (l.length : Int)) = true := decide_eq_true (by omega)
        go_wp2_with (fail)
        refine bodyPost_ret (v := .tuple #[.slice A5 l.length c5, .bool false]) (by simp [results, Try.results16, go_sem]) rfl (.inl ?_)
        rw [← HP.out, ← HLL.out]
        exact ⟨hz, A5, c5, rfl, HR.out, X.out⟩
end Go.Proofs.Ytebflbpjmpmnjaa
