/- Redo: the document's There and Stub. -/
import Derived.Test.YtaagdjipjeindaaRedoO
namespace Go.Proofs.Ytaagdjipjeindaa
open Go.ChangeShapes Go.WideShapes Go.ChangeAt Go.RowKit
set_option linter.unusedVariables false

/-- there is such a cell -/
def inP (b0 b1 : Int) : Prop := 0 ≤ b0 ∧ b0 < 32 ∧ 0 ≤ b1 ∧ b1 < 4
instance (b0 b1 : Int) : Decidable (inP b0 b1) := inferInstanceAs (Decidable (_ ∧ _))
set_option maxRecDepth 100000 in
theorem there_any (w : World) (b0 b1 : Int) : Calls Try.prog 32 #[.agg #[.int .i64 b0, .int .i64 b1]] w fun e w' => e = .returned (.bool (decide (inP b0 b1))) ∧ Ext w w' := by
  have X1 := hide (Ext.new w (.cells #[.int .i64 b0, .int .i64 b1] 25))
  by_cases c1 : 0 ≤ b0
  · have d1 : decide ((0 : Int) ≤ b0) = true := decide_eq_true c1
    by_cases c2 : b0 < 32
    · have d2 : decide (b0 < 32) = true := decide_eq_true c2
      by_cases c3 : 0 ≤ b1
      · have d3 : decide ((0 : Int) ≤ b1) = true := decide_eq_true c3
        by_cases c4 : b1 < 4
        · have d4 : decide (b1 < 4) = true := decide_eq_true c4
          have HI := hide (decide_eq_true (show inP b0 b1 from ⟨c1, c2, c3, c4⟩))
          clear c1 c2 c3 c4
          go_enter Try.func32, Try.ntmps32
          go_wp2_with (fail)
          go_ret
          rw [HI.out]
          exact ⟨rfl, X1.out⟩
        · have d4 : decide (b1 < 4) = false := decide_eq_false c4
          have HI := hide (decide_eq_false (show ¬ inP b0 b1 from fun h => c4 h.2.2.2))
          clear c1 c2 c3 c4
          go_enter Try.func32, Try.ntmps32
          go_wp2_with (fail)
          go_ret
          rw [HI.out]
          exact ⟨rfl, X1.out⟩
      · have d3 : decide ((0 : Int) ≤ b1) = false := decide_eq_false c3
        have HI := hide (decide_eq_false (show ¬ inP b0 b1 from fun h => c3 h.2.2.1))
        clear c1 c2 c3
        go_enter Try.func32, Try.ntmps32
        go_wp2_with (fail)
        go_ret
        rw [HI.out]
        exact ⟨rfl, X1.out⟩
    · have d2 : decide (b0 < 32) = false := decide_eq_false c2
      have HI := hide (decide_eq_false (show ¬ inP b0 b1 from fun h => c2 h.2.1))
      clear c1 c2
      go_enter Try.func32, Try.ntmps32
      go_wp2_with (fail)
      go_ret
      rw [HI.out]
      exact ⟨rfl, X1.out⟩
  · have d1 : decide ((0 : Int) ≤ b0) = false := decide_eq_false c1
    have HI := hide (decide_eq_false (show ¬ inP b0 b1 from fun h => c1 h.1))
    clear c1
    go_enter Try.func32, Try.ntmps32
    go_wp2_with (fail)
    go_ret
    rw [HI.out]
    exact ⟨rfl, X1.out⟩
theorem stub_row {p k : Nat} (hp : p < 32) (hk : k < 4) : [Value.int .u8 2, .int .u8 (p : Int), .int .u8 (k : Int)] ++ bv (List.replicate 23 0) = bv (stubL p k) := by
  have e1 : ((UInt8.ofNat p).toNat : Int) = p := by rw [UInt8.toNat_ofNat', Nat.mod_eq_of_lt (by omega)]
  have e2 : ((UInt8.ofNat k).toNat : Int) = k := by rw [UInt8.toNat_ofNat', Nat.mod_eq_of_lt (by omega)]
  simp only [bv, stubL, List.map_cons, e1, e2]
  rfl
set_option maxRecDepth 100000 in
set_option maxHeartbeats 4000000 in
theorem rstub_any (w : World) (b0 b1 : Int) : Calls Try.prog 17 #[.agg #[.int .i64 b0, .int .i64 b1]] w (GivesStub w b0 b1) := by
  have X1 := hide (Ext.new w (.cells #[.int .i64 b0, .int .i64 b1] 25))
  by_cases hin : inP b0 b1
  · obtain ⟨h1, h2, h3, h4⟩ := hin
    obtain ⟨p, rfl⟩ : ∃ p : Nat, b0 = (p : Int) := ⟨b0.toNat, by omega⟩
    obtain ⟨k, rfl⟩ : ∃ k : Nat, b1 = (k : Int) := ⟨b1.toNat, by omega⟩
    have HPK := hide (show p < 32 ∧ k < 4 by omega)
    have HI := hide (decide_eq_true (show inP p k from ⟨h1, h2, h3, h4⟩))
    have HT := hide (fun w' => there_any w' p k)
    have wp8 : IntKind.u8.wrap (p : Int) = (p : Int) := by simp [IntKind.wrap, IntKind.signed, IntKind.bits]; omega
    have wk8 : IntKind.u8.wrap (k : Int) = (k : Int) := by simp [IntKind.wrap, IntKind.signed, IntKind.bits]; omega
    obtain ⟨i0, hi0, hz0, hz1, hz2⟩ := info_parts Try.info5'
    clear h1 h2 h3 h4
    go_enter Try.func17, Try.ntmps17
    go_upto_region 3 with (go_at_call 32; refine (HT.out _).mono ?_; rintro e w2 ⟨rfl, hx⟩; rw [HI.out]; have X2 := hide hx; clear hx)
    have B2 := hide (X2.out.blk (Blk.new w 25 #[.int .i64 (p : Int), .int .i64 (k : Int)]))
    obtain ⟨y0, y1⟩ := B2.out.cells2
    have X12 := hide (X1.out.trans X2.out)
    have H0 := hide (own_blk (n := 3) (Blk.new w2 5 #[.int .u8 2, .int .u8 (p : Int), .int .u8 (k : Int)]) (Nat.le_refl _) rfl (by omega))
    go_wp2_with (at_builtin; refine wpList_append_zeros rfl (.tmp 13) (.const (.int .i64 23)) 22 3 9 rfl w2.heap.size 5 i0 .i64 .i64 Try.underlying22 Try.underlying3 Try.underlying9 hi0 hz0 hz1 hz2 _ 3 _ rfl H0.out 23 rfl (by simp only [maxLen]; omega) (by omega) (by simp) ?_; intro v3 w3 ho3 hg3; have X3 := hide (Ext.grown (Ext.new w2 _) hg3 (fun z hz => own_ge H0.out hz)); obtain ⟨A3, c3, hv3, hA3, hC3, _⟩ := own_form ho3; subst hv3; have O3 := hide ho3; have HA3 := hide (And.intro hA3 hC3); clear ho3 hg3 hA3)
    have hr := Reads.of_own O3.out
    rw [stub_row HPK.out.1 HPK.out.2] at hr
    exact bodyPost_ret (v := .tuple #[.slice A3 26 c3, .int .i64 0]) (by simp [results, Try.results17, go_sem]) rfl ⟨X12.out.trans X3.out, .inr ⟨by have := HPK.out; omega, _, rfl, A3, c3, rfl, HA3.out, hr⟩⟩
  · have HI := hide (decide_eq_false hin)
    have HT := hide (fun w' => there_any w' b0 b1)
    have HN := hide hin
    clear hin
    go_enter Try.func17, Try.ntmps17
    go_wp2_with (go_at_call 32; refine (HT.out _).mono ?_; rintro e w2 ⟨rfl, hx⟩; rw [HI.out]; have X2 := hide hx; clear hx)
    exact bodyPost_ret (v := .tuple #[.slice none 0 0, .int .i64 1]) (by simp [results, Try.results17, go_sem]) rfl ⟨X1.out.trans X2.out, .inl ⟨HN.out, rfl⟩⟩
theorem rstub_all (w : World) (b0 b1 : Int) : Calls Try.prog 17 #[.agg #[.int .i64 b0, .int .i64 b1]] w fun e w' => ∃ v er, e = .returned (.tuple #[v, .int .i64 er]) ∧ BB w' v (stubOf b0 b1) ∧ (stubOf b0 b1).length ≤ 1000 ∧ Ext w w' := by
  refine (rstub_any w b0 b1).mono ?_
  rintro e w' ⟨hx, ⟨hn, rfl⟩ | ⟨hy, v, rfl, hb⟩⟩
  · exact ⟨_, _, rfl, by rw [stubOf, if_neg hn]; exact BB.nil w', stubOf_len _ _, hx⟩
  · exact ⟨_, _, rfl, by rw [stubOf, if_pos hy]; exact hb, stubOf_len _ _, hx⟩
end Go.Proofs.Ytaagdjipjeindaa
