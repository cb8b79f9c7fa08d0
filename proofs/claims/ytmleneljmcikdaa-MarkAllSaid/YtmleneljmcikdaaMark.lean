/- Mark: contracts: from which entry on one does again, in the code and in the reference. -/
import Derived.Test.YtmleneljmcikdaaMarkP
import Derived.WalkLawsBesides
import Derived.WalkSpells
import Derived.LoopTactic
import Derived.Deep.QuietTactic
import Derived.BigQuiet
import Derived.Deep.RegionHeld3
namespace Go.Proofs.Ytmleneljmcikdaa
open Go.ChangeShapes Go.WideShapes Go.ChangeAt Go.RowKit
set_option linter.unusedVariables false

/-- pages and numbers, as cells -/
def dv : List (Int × Int) → List Value
  | [] => []
  | d :: l => .int .i64 d.1 :: .int .i64 d.2 :: dv l
theorem dv_length : ∀ l : List (Int × Int), (dv l).length = l.length * 2
  | [] => rfl
  | d :: l => by simp [dv, dv_length l]; omega
theorem dv_at : ∀ (l : List (Int × Int)) (k : Nat) (h : k < l.length), (dv l)[k * 2]? = some (.int .i64 l[k].1) ∧ (dv l)[k * 2 + 1]? = some (.int .i64 l[k].2)
  | d :: l, 0, _ => ⟨rfl, rfl⟩
  | d :: l, k + 1, h => by
    have := dv_at l k (by simpa using h)
    have e : (k + 1) * 2 = k * 2 + 2 := by omega
    rw [e]
    simpa [dv] using this
theorem dv_one : ∀ (l : List (Int × Int)), ∀ u ∈ dv l, u.oneCell' = true
  | [], u, h => by cases h
  | d :: l, u, h => by
    simp only [dv, List.mem_cons] at h
    rcases h with rfl | rfl | h
    · rfl
    · rfl
    · exact dv_one l u h
theorem dv_append (a b : List (Int × Int)) : dv (a ++ b) = dv a ++ dv b := by
  induction a with
  | nil => rfl
  | cons d a ih => simp [dv, ih]
def recs (l : List (Int × Int)) : List Int := l.map (·.2)
theorem recs_at (l : List (Int × Int)) (k : Nat) (h : k < l.length) : (recs l).getD k 0 = l[k].2 := by
  simp [recs, List.getD, h]

set_option maxRecDepth 100000 in
set_option maxHeartbeats 2000000 in
theorem redo_any (vL vO vU vH : Value) (A : Option Addr) (c : Nat) (ds : List (Int × Int)) (f : Int) (w : World) (hr : Reads w w.heap.size 2 A ds.length (dv ds)) (hl : ds.length ≤ 1048576) (f0 : -1099511627776 ≤ f) (f1 : f ≤ 1099511627776) :
    Calls Try.prog 9 #[.agg #[vL, .slice A ds.length c, vO, vU, vH], .int .i64 f] w fun e w' => e = .returned (.int .i64 (redoV (recs ds) f)) ∧ Below w.heap.size w w' := by
  have HR := hide hr
  clear hr
  obtain ⟨n, hn⟩ : ∃ n, n = ds.length := ⟨_, rfl⟩
  have HN := hide hn
  rw [← hn]
  rw [← hn] at hl
  clear hn
  go_enter Try.func9, Try.ntmps9
  go_wp2_with (fail)
  go_loopw [5, 13] (fun v i wr => (∃ k : Nat, k ≤ n ∧ i = .int .i64 k ∧ v = .int .i64 (least (recs ds) (f + 1) k) ∧ Hid (Below w.heap.size w wr))) (fun _ i _ => (n - intOf i).toNat)
  case atStart => exact ⟨0, by omega, rfl, rfl, (Below.refl _ _).alloc (Nat.le_refl _) _⟩
  case round =>
    obtain ⟨k, hk, rfl, rfl, hb⟩ := hrel
    by_cases hlt : k < n
    · obtain ⟨b, off, hA, hbw, hcell⟩ := HR.out.plain (by have := HN.out; omega) (by omega)
      subst hA
      have hkl : k < ds.length := by have := HN.out; omega
      obtain ⟨p, hp⟩ : ∃ p, p = ds[k].1 := ⟨_, rfl⟩
      obtain ⟨r, hr⟩ : ∃ r, r = ds[k].2 := ⟨_, rfl⟩
      obtain ⟨L, hL⟩ : ∃ L, L = least (recs ds) (f + 1) k := ⟨_, rfl⟩
      have hc0 := hcell _ _ (dv_at ds k hkl).1
      have hc1 := hcell _ _ (dv_at ds k hkl).2
      rw [← hp] at hc0
      rw [← hr] at hc1
      have g0 : wr.cell? ⟨b, off + k * 2, none⟩ = some (.int .i64 p) := (hb.out.cell (p := ⟨b, off + k * 2, none⟩) hbw).trans hc0
      have g1 : wr.cell? ⟨b, off + (k * 2 + 1), none⟩ = some (.int .i64 r) := (hb.out.cell (p := ⟨b, off + (k * 2 + 1), none⟩) hbw).trans hc1
      have g1' : wr.cell? ⟨b, off + k * 2 + 1, none⟩ = some (.int .i64 r) := by rw [Nat.add_assoc]; exact g1
      have HL := hide hL
      have HRR := hide (hr.trans (recs_at ds k hkl).symm)
      rw [← hL]
      have hbr : b < wr.heap.size := Nat.lt_of_lt_of_le hbw hb.out.size
      clear hcell hc0 hc1 hp hr hL hkl g1
      have hbn : Below w.heap.size w (wr.alloc (.cells #[.int .i64 p, .int .i64 r] 41)) := hb.out.alloc hb.out.size _
      have HBN := hide hbn
      clear hbn
      by_cases hk0 : k = 0
      · subst hk0
        simp only [Nat.zero_mul, Nat.add_zero] at g0 g1'
        have hv := hide (show r = least (recs ds) (f + 1) (0 + 1) by rw [HRR.out, least_take (.inl rfl)])
        go_wp2
        go_roundw
        case rel => exact ⟨1, by omega, by go_num, by rw [hv.out], HBN.out⟩
        case measure => simp [intOf]; omega
      · have e0 : ((k : Int) == 0) = false := by simpa using hk0
        by_cases hlt' : r < L
        · have hv := hide (show r = least (recs ds) (f + 1) (k + 1) by rw [HRR.out, least_take (.inr (by rw [← HRR.out, ← HL.out]; exact hlt'))])
          clear hk0
          go_wp2
          go_roundw
          case rel => exact ⟨k + 1, by omega, by go_num, by rw [hv.out], HBN.out⟩
          case measure => simp [intOf]; omega
        · have hv := hide (show L = least (recs ds) (f + 1) (k + 1) by rw [HL.out, least_keep (by rw [← HRR.out, ← HL.out]; omega)])
          clear hk0
          go_wp2
          go_roundw
          case rel => exact ⟨k + 1, by omega, by go_num, by rw [hv.out], HBN.out⟩
          case measure => simp [intOf]; omega
    · obtain rfl : k = n := by omega
      have hln : k = (recs ds).length := by rw [HN.out]; simp [recs]
      obtain ⟨L, hL⟩ : ∃ L, L = least (recs ds) (f + 1) k := ⟨_, rfl⟩
      rw [← hL]
      by_cases hf : f = 0
      · have hv := hide (show redoV (recs ds) f = if L ≤ 1 then L else 1 by unfold redoV; rw [if_pos hf, hL, hln])
        have HF := hide hf
        have ef : (f == 0) = true := by simpa using hf
        clear hf hL hln
        by_cases h1 : L ≤ 1
        · go_wp2
          go_ret
          exact ⟨ret_int (by rw [hv.out, if_pos h1]), hb.out⟩
        · go_wp2
          go_ret
          exact ⟨ret_int (by rw [hv.out, if_neg (by omega)]), hb.out⟩
      · have hv := hide (show redoV (recs ds) f = L by unfold redoV; rw [if_neg hf, hL, hln])
        have ef : (f == 0) = false := by simpa using hf
        clear hf hL hln
        go_wp2
        go_ret
        exact ⟨ret_int (by rw [hv.out]), hb.out⟩
set_option maxRecDepth 100000 in
set_option maxHeartbeats 2000000 in
theorem rredo_any (vL vO vU vH : Value) (A : Option Addr) (c : Nat) (ds : List (Int × Int)) (f : Int) (w : World) (hr : Reads w w.heap.size 2 A ds.length (dv ds)) (hl : ds.length ≤ 1048576) (f0 : -1099511627776 ≤ f) (f1 : f ≤ 1099511627776) :
    Calls Try.prog 10 #[.agg #[vL, .slice A ds.length c, vO, vU, vH], .int .i64 f] w fun e w' => e = .returned (.int .i64 (redoV (recs ds) f)) ∧ Below w.heap.size w w' := by
  have HR := hide hr
  clear hr
  obtain ⟨n, hn⟩ : ∃ n, n = ds.length := ⟨_, rfl⟩
  have HN := hide hn
  rw [← hn]
  rw [← hn] at hl
  clear hn
  have HB := hide ((Below.refl w.heap.size w).alloc (Nat.le_refl _) (.cells #[vL, .slice A n c, vO, vU, vH] 26))
  go_enter Try.func10, Try.ntmps10
  go_wp2_with (fail)
  go_loop [5, 6] (fun v i => (∃ k : Nat, k ≤ n ∧ i = .int .i64 k ∧ v = .int .i64 (least (recs ds) (f + 1) k))) (fun _ i => (n - intOf i).toNat)
  case atStart => exact ⟨0, by omega, rfl, rfl⟩
  case round =>
    obtain ⟨k, hk, rfl, rfl⟩ := hrel
    by_cases hlt : k < n
    · obtain ⟨b, off, hA, hbw, hcell⟩ := HR.out.plain (by have := HN.out; omega) (by omega)
      subst hA
      have hkl : k < ds.length := by have := HN.out; omega
      obtain ⟨r, hr⟩ : ∃ r, r = ds[k].2 := ⟨_, rfl⟩
      obtain ⟨L, hL⟩ : ∃ L, L = least (recs ds) (f + 1) k := ⟨_, rfl⟩
      have hc1 := hcell _ _ (dv_at ds k hkl).2
      rw [← hr] at hc1
      have g1' : w.cell? ⟨b, off + k * 2 + 1, none⟩ = some (.int .i64 r) := by rw [Nat.add_assoc]; exact hc1
      have HL := hide hL
      have HRR := hide (hr.trans (recs_at ds k hkl).symm)
      rw [← hL]
      clear hcell hc1 hr hL hkl
      by_cases hk0 : k = 0
      · subst hk0
        simp only [Nat.zero_mul, Nat.add_zero] at g1'
        have hv := hide (show r = least (recs ds) (f + 1) (0 + 1) by rw [HRR.out, least_take (.inl rfl)])
        go_wp2
        go_round
        case rel => exact ⟨1, by omega, by go_num, by rw [hv.out]⟩
        case measure => simp [intOf]; omega
      · have e0 : ((k : Int) == 0) = false := by simpa using hk0
        by_cases hlt' : r < L
        · have hv := hide (show r = least (recs ds) (f + 1) (k + 1) by rw [HRR.out, least_take (.inr (by rw [← HRR.out, ← HL.out]; exact hlt'))])
          clear hk0
          go_wp2
          go_round
          case rel => exact ⟨k + 1, by omega, by go_num, by rw [hv.out]⟩
          case measure => simp [intOf]; omega
        · have hv := hide (show L = least (recs ds) (f + 1) (k + 1) by rw [HL.out, least_keep (by rw [← HRR.out, ← HL.out]; omega)])
          clear hk0
          go_wp2
          go_round
          case rel => exact ⟨k + 1, by omega, by go_num, by rw [hv.out]⟩
          case measure => simp [intOf]; omega
    · obtain rfl : k = n := by omega
      have hln : k = (recs ds).length := by rw [HN.out]; simp [recs]
      obtain ⟨L, hL⟩ : ∃ L, L = least (recs ds) (f + 1) k := ⟨_, rfl⟩
      rw [← hL]
      by_cases hf : f = 0
      · have hv := hide (show redoV (recs ds) f = if L ≤ 1 then L else 1 by unfold redoV; rw [if_pos hf, hL, hln])
        have HF := hide hf
        have ef : (f == 0) = true := by simpa using hf
        clear hf hL hln
        by_cases h1 : L ≤ 1
        · go_wp2
          go_ret
          exact ⟨ret_int (by rw [hv.out, if_pos h1]), HB.out⟩
        · go_wp2
          go_ret
          exact ⟨ret_int (by rw [hv.out, if_neg (by omega)]), HB.out⟩
      · have hv := hide (show redoV (recs ds) f = L by unfold redoV; rw [if_neg hf, hL, hln])
        have ef : (f == 0) = false := by simpa using hf
        clear hf hL hln
        go_wp2
        go_ret
        exact ⟨ret_int (by rw [hv.out]), HB.out⟩
end Go.Proofs.Ytmleneljmcikdaa
