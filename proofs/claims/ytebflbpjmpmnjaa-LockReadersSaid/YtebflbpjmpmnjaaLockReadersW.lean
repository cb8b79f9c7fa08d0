/- LockReaders: the walk. -/
import Derived.Test.YtebflbpjmpmnjaaLockApartW
import Derived.BigQuiet
import Derived.Deep.QuietTactic
import Derived.Deep.DeepCutAuto
import Derived.Deep.CutBlock
namespace Go.Proofs.Ytebflbpjmpmnjaa.lockReaders
open Go.ChangeShapes Go.WideShapes Go.ChangeAt Go.RowKit Go.Maps
set_option linter.unusedVariables false

/-- the first j read -/
def G (j : Nat) : ByteArray → Int → Int := fun s x => if s = sa ∧ 1 ≤ x ∧ x ≤ (j : Int) then 3 else 0
theorem G_zero : G 0 = F0 := by
  funext s x
  unfold G F0
  rw [if_neg (fun h => by have := h.2; omega)]
theorem G_step (j : Nat) : setF (G j) sa ((j : Int) + 1) 3 = G (j + 1) := by
  funext s x
  rw [setF_at]
  unfold G
  by_cases h : s = sa
  · rw [if_pos h]
    by_cases hx : x = (j : Int) + 1
    · rw [if_pos hx, if_neg (fun h => by have := h.2; omega), if_pos ⟨h, by omega, by omega⟩]
      exact joinP_zero (by decide) (by decide)
    · rw [if_neg hx]
      by_cases h1 : 1 ≤ x ∧ x ≤ (j : Int)
      · rw [if_pos ⟨rfl, h1⟩, if_pos ⟨h, by omega, by omega⟩]
      · rw [if_neg (fun h' => h1 h'.2), if_neg (fun h' => h1 (by have := h'.2; omega))]
  · simp [h]
theorem G_others (j : Nat) : Others (G j) sa ((j : Int) + 1) 3 [] := ⟨List.Pairwise.nil, fun x => by
  have e : G j sa ((j : Int) + 1) = 0 := by unfold G; rw [if_neg (fun h => by have := h.2; omega)]
  rw [e]
  have e2 : joinP 0 3 = 3 := by decide
  rw [e2]
  unfold G
  by_cases h : 1 ≤ x ∧ x ≤ (j : Int)
  · rw [if_pos ⟨rfl, h⟩]
    simp
    intro _
    decide
  · rw [if_neg (fun h' => h h'.2)]
    simp⟩
def ups (k : Nat) : List Int := (List.range k).map fun i : Nat => (i : Int) + 1
theorem ups_mem (k : Nat) (x : Int) : x ∈ ups k ↔ 1 ≤ x ∧ x ≤ (k : Int) := by
  unfold ups
  rw [List.mem_map]
  constructor
  · rintro ⟨i, hi, rfl⟩
    rw [List.mem_range] at hi
    omega
  · rintro ⟨h1, h2⟩
    exact ⟨(x - 1).toNat, by rw [List.mem_range]; omega, by omega⟩
theorem ups_rises (k : Nat) : Rises (ups k) := by
  unfold ups Rises
  rw [List.pairwise_map]
  exact List.pairwise_lt_range.imp (fun h => by omega)
theorem G_ne (j : Nat) (x : Int) : G j sa x ≠ 0 ↔ 1 ≤ x ∧ x ≤ (j : Int) := by
  unfold G
  by_cases h : 1 ≤ x ∧ x ≤ (j : Int)
  · rw [if_pos ⟨rfl, h⟩]; simp [h]
  · rw [if_neg (fun h' => h h'.2)]; simp; omega
def oth (k w : Nat) : List Int := (ups k).filter fun x => decide (x ≠ (w : Int))
theorem oth_others (k w : Nat) : Others (G k) sa w 4 (oth k w) := ⟨List.Pairwise.filter _ (ups_rises k), fun x => by
  unfold oth
  rw [List.mem_filter, ups_mem]
  have e : joinP (G k sa w) 4 = 4 := by
    unfold G
    split <;> decide
  rw [e]
  unfold G
  by_cases h : 1 ≤ x ∧ x ≤ (k : Int)
  · rw [if_pos ⟨rfl, h⟩]
    simp [h]
    intro _
    decide
  · rw [if_neg (fun h' => h h'.2)]
    simp
    intro h1 h2
    exact absurd ⟨h1, h2⟩ h⟩
theorem wf_big {x : Int} (h0 : 0 ≤ x) (h1 : x ≤ 1000000) : Wf x := by
  unfold Wf
  simp [Lit.wf, IntKind.min, IntKind.max, IntKind.signed, IntKind.bits]
  omega
def wantAt (w i : Nat) : Nat := if w < i then i - 2 else i - 1
theorem oth_len : ∀ k < 7, ∀ w < 8, 1 ≤ w → (oth k w).length = wantAt w (k + 1) := by decide +kernel
theorem oth_all : ((List.range 7).all fun k => (List.range 8).all fun w => (List.range 7).all fun i => decide (1 ≤ w ∧ 1 ≤ i ∧ i ≤ k ∧ i ≠ w → (oth k w)[wantAt w i]? = some (i : Int))) = true := by decide +kernel
theorem oth_at {k w i : Nat} (hk : k < 7) (hw : w < 8) (hi : i < 7) (h : 1 ≤ w ∧ 1 ≤ i ∧ i ≤ k ∧ i ≠ w) : (oth k w)[wantAt w i]? = some (i : Int) := by
  have h1 := List.all_eq_true.1 oth_all k (List.mem_range.2 hk)
  have h2 := List.all_eq_true.1 h1 w (List.mem_range.2 hw)
  have h3 := List.all_eq_true.1 h2 i (List.mem_range.2 hi)
  exact of_decide_eq_true h3 h
theorem wantAt_same (w : Nat) (hw : 1 ≤ w) : wantAt w (w + 1) = wantAt w w := by unfold wantAt; rw [if_pos (by omega), if_neg (by omega)]; omega
theorem wantAt_next {w i : Nat} (h : i ≠ w) (hw : 1 ≤ w) (hi : 1 ≤ i) : wantAt w (i + 1) = wantAt w i + 1 := by
  unfold wantAt
  by_cases h1 : w < i
  · rw [if_pos (by omega), if_pos h1]; omega
  · rw [if_neg (by omega), if_neg h1]; omega
theorem alone_keys (x : Int) : setF (G 1) sa 1 4 sa x ≠ 0 ↔ x = 1 := by
  rw [setF_at, if_pos rfl]
  by_cases h : x = 1
  · rw [if_pos h]
    simp [h]
    decide
  · rw [if_neg h]
    unfold G
    rw [if_neg (fun h' => by have := h'.2; omega)]
    simp [h]

set_option maxRecDepth 100000 in
set_option maxHeartbeats 8000000 in
theorem walk_any (a b : Nat) (w : World) (ha : a < 256) (hb : b < 256) : Calls Try.prog 3 #[.int .u8 a, .int .u8 b] w fun e w' => e = .returned (.bool true) ∧ Ext w w' := by
  have SA' := hide (show Sz ⟨#[97]⟩ from sza)
  obtain ⟨p, hp⟩ : ∃ p, p = a % 6 := ⟨_, rfl⟩
  have hp1 : (a : Int) % 6 = (p : Int) := by omega
  have hp6 : (p : Int) < 6 := by omega
  have hp0 : (0 : Int) ≤ (p : Int) := by omega
  clear hp
  obtain ⟨k, hk⟩ : ∃ k : Nat, k = 1 + p := ⟨_, rfl⟩
  have hk1 : 1 + (p : Int) = (k : Int) := by omega
  have hk6 : (k : Int) ≤ 6 := by omega
  have hk0 : (1 : Int) ≤ (k : Int) := by omega
  have HK := hide hk
  clear hk
  go_enter Try.func3, Try.ntmps3
  go_wp2_with (go_at_call 8; refine (begun_any _).mono ?_; rintro e W ⟨rfl, b1⟩)
  refine (has_new W).mono ?_
  rintro e wa ⟨rfl, ha'⟩
  have BW := hide b1
  have HA := hide (show Has W wa (W.heap.size + 1) 0 0 (G 0) by rw [G_zero]; exact ha')
  clear ha' b1
  go_wp2_with (fail)
  go_loopw [7, 8, 9] (fun s7 _ _ wr => (∃ j : Nat, j ≤ k ∧ s7 = .int .i64 ((j : Int) + 1) ∧ Hid (Has W wr (W.heap.size + 1) j j (G j)))) (fun s7 _ _ _ => (k + 1 - intOf s7).toNat)
  case atStart => exact ⟨0, by omega, rfl, HA.out⟩
  case round =>
    obtain ⟨j, hj, rfl, hs⟩ := hrel
    by_cases hlt : j < k
    · have hj1 : (j : Int) + 1 ≤ (k : Int) := by omega
      have hjw := hide (wf_big (x := (j : Int) + 1) (by omega) (by omega))
      go_wp2_with (go_at_call 10; refine (ask_yes W wr _ j j (G j) sa ((j : Int) + 1) 3 hs.out hjw.out SA'.out (by decide) (by decide) (by omega) (by omega) (G_others j)).mono ?_; rintro e wb ⟨rfl, hb', _⟩; have HB := hide (show Has W wb (W.heap.size + 1) (j + 1) (j + 1) (G (j + 1)) by rw [← G_step]; exact hb'); clear hb')
      go_roundw
      case rel => exact ⟨j + 1, by omega, by go_num, HB.out⟩
      case measure => simp [intOf]; omega
    · obtain rfl : j = k := by omega
      obtain ⟨r, hr⟩ : ∃ r : Nat, r = b % (j + 1) := ⟨_, rfl⟩
      have hbr : (b : Int) % ((j : Int) + 1) = (r : Int) := by
        rw [hr, show ((j : Int) + 1) = ((j + 1 : Nat) : Int) by omega]
        exact (Int.natCast_emod b (j + 1)).symm
      have hrj : r < j + 1 := by rw [hr]; exact Nat.mod_lt b (by omega)
      obtain ⟨v, hv⟩ : ∃ v : Nat, v = 1 + r := ⟨_, rfl⟩
      have hrv : 1 + (r : Int) = (v : Int) := by omega
      have hr6 : (r : Int) ≤ 6 := by omega
      have hv1 : 1 ≤ v := by omega
      have hv2 : v ≤ j + 1 := by omega
      have hjw := hide (wf_big (x := (v : Int)) (by omega) (by omega))
      clear hv hr hrj
      go_wp2_with (fail)
      by_cases hal : j = 1 ∧ v = 1
      · obtain ⟨h1, h2⟩ := hal
        subst h1 h2
        refine (ask_yes W wr _ 1 1 (G 1) sa 1 4 hs.out hjw.out SA'.out (by decide) (by decide) (by omega) (by omega) (oth_others 1 1)).mono ?_
        rintro e wb ⟨rfl, hb', _⟩
        have HB := hide hb'
        clear hb' hs hbr hrv hv1 hv2
        go_wp2_with (fail)
        go_loop [14, 15] (fun s14 s15 => (∃ i : Nat, 1 ≤ i ∧ i ≤ 2 ∧ s15 = .int .i64 i ∧ s14 = .int .i64 0)) (fun _ s15 => (2 - intOf s15).toNat)
        case atStart => exact ⟨1, by omega, by omega, rfl, rfl⟩
        case round =>
          obtain ⟨i, hi1, hi2, rfl, rfl⟩ := hrel
          by_cases h1 : i = 1
          · subst h1
            go_wp2_with (fail)
            go_round
            case rel => exact ⟨2, by omega, by omega, rfl, rfl⟩
            case measure => simp [intOf]
          · obtain rfl : i = 2 := by omega
            go_wp2_with (go_at_call 11; refine (has_holders W wb _ 2 2 _ sa HB.out SA'.out (by omega)).mono ?_; rintro e wd ⟨vv, L, rfl, q1, q2, q3, q4, q5, q6⟩; obtain rfl : L = [1] := nodup_one q1.nodup (fun x => by rw [q2]; exact alone_keys x); obtain ⟨A3, c3, rfl, _⟩ := own_form q5; have HE := hide (HB.out.ext q6); clear q1 q2 q3 q4 q5 q6)
            go_ret
            exact ⟨rfl, BW.out.trans HE.out.world⟩
      · have hne : 0 < wantAt v (j + 1) := by
          unfold wantAt
          split <;> omega
        have hlen := oth_len j (by omega) v (by omega) hv1
        refine (ask_no W wr _ j j (G j) sa v 4 (oth j v) hs.out hjw.out SA'.out (by decide) (by decide) (by omega) (by omega) (oth_others j v) (fun e => by rw [e] at hlen; simp at hlen; omega)).mono ?_
        rintro e wb ⟨A, cc, rfl, ho, hb', _⟩
        rw [hlen] at ho ⊢
        obtain ⟨n, hn⟩ : ∃ n, n = wantAt v (j + 1) := ⟨_, rfl⟩
        rw [← hn] at ho hne ⊢
        have HB := hide hb'
        have HR := hide (Reads.of_own ho)
        have HN := hide hn
        have hn6 : n ≤ 6 := by rw [hn]; unfold wantAt; split <;> omega
        clear hb' hs ho hlen hn
        go_upto_region 13 with (fail)
        go_cut [13] (fun s13 wx => s13 = .bool false ∧ wx = wb)
        case first =>
          by_cases h1 : j = 1
          · have h2 : v = 2 := by omega
            subst h1 h2
            go_wp2_with (fail)
            go_meet
            case rel => exact ⟨rfl, rfl⟩
          · have e1 : ((j : Int) == 1) = false := by simp; omega
            clear h1
            go_wp2_with (fail)
            go_meet
            case rel => exact ⟨rfl, rfl⟩
        case rest =>
          obtain ⟨rfl, rfl⟩ := hcut
          clear hbr hrv
          go_wp2_with (fail)
          go_loop [14, 15] (fun s14 s15 => (∃ i q : Nat, 1 ≤ i ∧ i ≤ j + 1 ∧ s15 = .int .i64 i ∧ s14 = .int .i64 q ∧ Hid (q = wantAt v i))) (fun _ s15 => (j + 1 - intOf s15).toNat)
          case atStart => exact ⟨1, 0, by omega, by omega, rfl, rfl, by show 0 = wantAt v 1; unfold wantAt; rw [if_neg (by omega)]⟩
          case round =>
            obtain ⟨i, q, hi1, hi2, rfl, rfl, hq⟩ := hrel
            by_cases hlt : i ≤ j
            · have hij : (i : Int) ≤ (j : Int) := by omega
              by_cases hiv : i = v
              · have e1 : ((i : Int) == (v : Int)) = true := by simp [hiv]
                have hn1 := hide (show q = wantAt v (i + 1) by rw [hiv, wantAt_same v hv1, hq.out, hiv])
                go_wp2_with (fail)
                go_round
                case rel => exact ⟨i + 1, q, by omega, by omega, by go_num, rfl, hn1.out⟩
                case measure => simp [intOf]; omega
              · have e1 : ((i : Int) == (v : Int)) = false := by simp; omega
                have hn1 := hide (show q + 1 = wantAt v (i + 1) by rw [wantAt_next hiv hv1 hi1, hq.out])
                have hat := oth_at (k := j) (w := v) (i := i) (by omega) (by omega) (by omega) ⟨hv1, hi1, hlt, hiv⟩
                rw [← hq.out] at hat
                have hqn : q < n := by
                  have h1 := (List.getElem?_eq_some_iff.1 hat).1
                  have h2 := oth_len j (by omega) v (by omega) hv1
                  rw [h2, ← HN.out] at h1
                  exact h1
                obtain ⟨bb, off, hAe, hbw, hcell⟩ := HR.out.plain (by omega) (by omega)
                subst hAe
                have g0 := hcell q (.int .i64 i) (by simp [iv, hat])
                have e2 : decide ((n : Int) ≤ (q : Int)) = false := by simp; omega
                clear hcell hat hiv
                go_wp2_with (fail)
                go_round
                case rel => exact ⟨i + 1, q + 1, by omega, by omega, by go_num, by go_num, hn1.out⟩
                case measure => simp [intOf]; omega
            · have hqn : q = n := by rw [HN.out, hq.out, show i = j + 1 by omega]
              subst hqn
              have hji : (j : Int) < (i : Int) := by omega
              clear hlt
              go_wp2_with (fail)
              refine (has_holders W _ _ j j (G j) sa HB.out SA'.out (by omega)).mono ?_
              rintro e wd ⟨vv, L, rfl, q1, q2, q3, q4, q5, q6⟩
              have hL : L = ups j := rises_same q1 (ups_rises j) (fun x => by rw [q2, ups_mem]; exact G_ne j x)
              have hl : L.length = j := by rw [hL]; simp [ups]
              rw [hl] at q5
              obtain ⟨A3, c3, rfl, _⟩ := own_form q5
              have HE := hide (HB.out.ext q6)
              clear q1 q2 q3 q4 q5 q6 hL hl
              go_wp2_with (fail)
              go_ret
              exact ⟨rfl, BW.out.trans HE.out.world⟩
end Go.Proofs.Ytebflbpjmpmnjaa.lockReaders
