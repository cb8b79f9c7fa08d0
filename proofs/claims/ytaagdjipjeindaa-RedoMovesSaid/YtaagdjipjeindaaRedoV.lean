/- Redo: the document's reading of a text and of a cell. -/
import Derived.Test.YtaagdjipjeindaaRedoQ
namespace Go.Proofs.Ytaagdjipjeindaa
open Go.ChangeShapes Go.WideShapes Go.ChangeAt Go.RowKit
set_option linter.unusedVariables false

theorem bv_append (a b : List UInt8) : bv (a ++ b) = bv a ++ bv b := by simp [bv]
set_option maxRecDepth 100000 in
set_option maxHeartbeats 4000000 in
theorem text_any (A : Option Addr) (c N n B : Nat) (l s r : List UInt8) (w : World) (hr : Reads w B 1 A N (bv l)) (hN : N = l.length) (hc : N ≤ c) (hl : l = padL s n ++ r) (hs : s.length ≤ n) (hn : n ≤ 100) (hn1 : 1 ≤ n) :
    Calls Try.prog 31 #[.slice A N c, .int .i64 n] w fun e w' => e = .returned (.tuple #[.string ⟨s.toArray⟩, .bool true]) ∧ w = w' := by
  obtain ⟨q, hq⟩ : ∃ q, q = s.length := ⟨_, rfl⟩
  have hlen : l.length = n + 1 + r.length := by rw [hl, List.length_append, padL_len hs]
  have h0 : (bv l)[0]? = some (.int .u8 (q : Int)) := by
    rw [hl, hq]
    simp only [padL, List.cons_append, bv, List.map_cons, List.getElem?_cons_zero, UInt8.toNat_ofNat']
    rw [Nat.mod_eq_of_lt (by omega)]
  have hz : ∀ j, q + 1 ≤ j → j ≤ n → (bv l)[j]? = some (.int .u8 0) := by
    intro j h1 h2
    rw [hl]
    obtain ⟨i, rfl⟩ : ∃ i, j = i + 1 := ⟨j - 1, by omega⟩
    simp only [padL, List.cons_append, bv, List.map_cons, List.getElem?_cons_succ, List.map_append]
    rw [List.append_assoc, List.getElem?_append_right (by simp; omega), List.getElem?_append_left (by simp; omega)]
    simp only [List.length_map, List.map_replicate]
    rw [List.getElem?_replicate, if_pos (by omega)]
    rfl
  have hr2 : Reads w B 1 (if c = 1 then A else A.map (·.add (1 * 1))) q (bv s) := by
    have hcut := hr.cut (k := 1) (cap := c) (by omega) (by omega)
    refine ⟨by rw [bv_length]; omega, fun hq0 => ?_⟩
    obtain ⟨ad, e, hb, hcell⟩ := hcut.2 (by omega)
    refine ⟨ad, e, hb, fun j u hu => hcell j u ?_⟩
    rw [← hu, List.getElem?_drop, hl]
    have hj : j < s.length := by
      have := (List.getElem?_eq_some_iff.1 hu).1
      rwa [bv_length] at this
    simp only [padL, List.cons_append, bv, List.map_cons, List.map_append]
    rw [show 1 * 1 + j = j + 1 by omega, List.getElem?_cons_succ, List.append_assoc, List.getElem?_append_left (by simpa using hj)]
  obtain ⟨bk, off, hAe, hbw, hcell⟩ := hr.plain (by omega) (by omega)
  subst hAe
  have g0 := hcell 0 _ h0
  rw [Nat.add_zero] at g0
  have HC := hide (show ∀ j, q + 1 ≤ j → j ≤ n → w.cell? ⟨bk, off + j, none⟩ = some (.int .u8 0) from fun j h1 h2 => hcell j _ (hz j h1 h2))
  have hqn : q ≤ n := by omega
  have hnN : n + 1 ≤ N := by omega
  have hc2 : 2 ≤ c := by omega
  rw [if_neg (by omega), Option.map_some, show (⟨bk, off, none⟩ : Addr).add (1 * 1) = ⟨bk, off + 1, none⟩ from rfl] at hr2
  have kc := fun d => run_string_of_reads 22 9 5 d Try.underlying22 Try.underlying5 Try.underlying9 hr2
  have HQ := hide hq
  have KC := hide kc
  clear hcell hz h0 hr2 hr hlen hl hq hs hN kc
  go_enter Try.func31, Try.ntmps31
  go_wp2_with (fail)
  go_loopw [7] (fun s7 wr => (∃ j : Nat, q + 1 ≤ j ∧ j ≤ n + 1 ∧ s7 = .int .i64 j ∧ w = wr)) (fun s7 _ => (n + 1 - intOf s7).toNat)
  case atStart => exact ⟨q + 1, by omega, by omega, by go_num, rfl⟩
  case round =>
    obtain ⟨j, hj1, hj2, rfl, rfl⟩ := hrel
    by_cases hlt : j ≤ n
    · have gj := HC.out j hj1 hlt
      go_wp2_with (fail)
      go_roundw
      case rel => exact ⟨j + 1, by omega, by omega, by go_num, by trivial⟩
      case measure => simp [intOf]; omega
    · have kc := KC.out
      go_wp2_with (fail)
      trace_state
      exact bodyPost_ret (v := .tuple #[.string ⟨s.toArray⟩, .bool true]) (by simp [results, Try.results31, go_sem]) rfl ⟨rfl, rfl⟩
end Go.Proofs.Ytaagdjipjeindaa
