/- Mark: 'begun' answers true. -/
import Derived.Test.YtmleneljmcikdaaMarkM
namespace Go.Proofs.Ytmleneljmcikdaa
open Go.ChangeShapes Go.WideShapes Go.ChangeAt Go.RowKit
set_option linter.unusedVariables false

theorem redo_n (vL vO vU vH : Value) (A : Option Addr) (n c : Nat) (ds : List (Int × Int)) (f : Int) (w : World) (hn : n = ds.length) (hr : Reads w w.heap.size 2 A n (dv ds)) (hl : n ≤ 1048576) (f0 : -1099511627776 ≤ f) (f1 : f ≤ 1099511627776) :
    Calls Try.prog 9 #[.agg #[vL, .slice A n c, vO, vU, vH], .int .i64 f] w fun e w' => e = .returned (.int .i64 (redoV (recs ds) f)) ∧ Ext w w' := by
  subst hn
  exact redo_any vL vO vU vH A c ds f w hr hl f0 f1
theorem rredo_n (vL vO vU vH : Value) (A : Option Addr) (n c : Nat) (ds : List (Int × Int)) (f : Int) (w : World) (hn : n = ds.length) (hr : Reads w w.heap.size 2 A n (dv ds)) (hl : n ≤ 1048576) (f0 : -1099511627776 ≤ f) (f1 : f ≤ 1099511627776) :
    Calls Try.prog 10 #[.agg #[vL, .slice A n c, vO, vU, vH], .int .i64 f] w fun e w' => e = .returned (.int .i64 (redoV (recs ds) f)) ∧ Ext w w' := by
  subst hn
  exact rredo_any vL vO vU vH A c ds f w hr hl f0 f1
theorem reads_nil (w : World) (B m : Nat) : Reads w B m none 0 [] := Reads.none_
set_option maxRecDepth 100000 in
set_option maxHeartbeats 4000000 in
theorem begun_any (w : World) : Calls Try.prog 5 #[] w fun e w' => e = .returned (.bool true) ∧ Ext w w' := by
  have hx : Reads ((w.alloc (.cells #[.int .i64 1, .int .i64 9, .int .i64 2, .int .i64 6] 41)).alloc (.cells #[.slice none 0 0, .slice (some ⟨w.heap.size, 0, none⟩) 2 2, .slice none 0 0, .int .i64 4, .int .i64 1] 26)) ((w.alloc (.cells #[.int .i64 1, .int .i64 9, .int .i64 2, .int .i64 6] 41)).alloc (.cells #[.slice none 0 0, .slice (some ⟨w.heap.size, 0, none⟩) 2 2, .slice none 0 0, .int .i64 4, .int .i64 1] 26)).heap.size 2 (some ⟨w.heap.size, 0, none⟩) 2 (dv [(1, 9), (2, 6)]) := by
    have h0 : Reads (w.alloc (.cells #[.int .i64 1, .int .i64 9, .int .i64 2, .int .i64 6] 41)) (w.alloc (.cells #[.int .i64 1, .int .i64 9, .int .i64 2, .int .i64 6] 41)).heap.size 2 (some ⟨w.heap.size, 0, none⟩) 2 (dv [(1, 9), (2, 6)]) := by
      refine ⟨rfl, fun _ => ⟨_, rfl, by simp, fun j u hu => ?_⟩⟩
      have e : (⟨w.heap.size, 0, none⟩ : Addr).add j = ⟨w.heap.size, j, none⟩ := by unfold Addr.add; split <;> simp_all
      rw [e, (Blk.new w 41 #[.int .i64 1, .int .i64 9, .int .i64 2, .int .i64 6]).cell]
      simpa [dv] using hu
    exact Ext.read (Ext.new _ _) h0
  have ks := Blk.new (w.alloc (.cells #[.int .i64 1, .int .i64 9, .int .i64 2, .int .i64 6] 41)) 26 #[.slice none 0 0, .slice (some ⟨w.heap.size, 0, none⟩) 2 2, .slice none 0 0, .int .i64 4, .int .i64 1]
  simp at ks
  have KS := hide ks
  have HX := hide hx
  have HE := hide (((Ext.refl w).alloc (.cells #[.int .i64 1, .int .i64 9, .int .i64 2, .int .i64 6] 41)).alloc (.cells #[.slice none 0 0, .slice (some ⟨w.heap.size, 0, none⟩) 2 2, .slice none 0 0, .int .i64 4, .int .i64 1] 26))
  clear ks hx
  go_enter Try.func5, Try.ntmps5
  go_wp2_with (fail)
  refine (make_any none (some ⟨w.heap.size, 0, none⟩) none 0 2 0 0 2 0 4 1 [] (dv [(1, 9), (2, 6)]) [] _ (fun k hk => absurd hk (by omega)) (reads_nil _ _ _) (fun _ => rfl) (by omega) (dv_one _) HX.out (fun h => by cases h) (by omega) (fun k hk => absurd hk (by omega)) (reads_nil _ _ _) (fun _ => rfl) (by omega)).mono ?_
  rintro e w1 ⟨A1, A2, A3, c1, c2, c3, yO, rfl, r1, r2, r3, ho, he⟩
  obtain ⟨x0, x1, x2, x3, x4⟩ := (he.blk KS.out).cells5
  have hz : w.heap.size + 1 < w1.heap.size := (he.blk KS.out).lt
  have HR := hide (he.read HX.out)
  have HE1 := hide (HE.out.trans he)
  clear r1 r2 r3 ho he
  have d1 : redoV (recs [(1, 9), (2, 6)]) 8 = 6 := by decide
  have d2 : redoV (recs []) 7 = 8 := by decide
  go_wp2_with (fail)
  refine (redo_n _ _ _ _ (some ⟨w.heap.size, 0, none⟩) 2 2 [(1, 9), (2, 6)] 8 _ rfl (Ext.read (Ext.new _ _) HR.out) (by decide) (by omega) (by omega)).mono ?_
  rintro e w2 ⟨rfl, h2⟩
  rw [d1]
  go_wp2_with (fail)
  refine (redo_n _ _ _ _ none 0 0 [] 7 _ rfl (reads_nil _ _ _) (by decide) (by omega) (by omega)).mono ?_
  rintro e w3 ⟨rfl, h3⟩
  rw [d2]
  go_wp2
  go_ret
  exact ⟨rfl, (HE1.out.alloc _).trans (Ext.trans h2 h3)⟩
end Go.Proofs.Ytmleneljmcikdaa
