/- MarkAll: the walk. -/
import Derived.Test.YtmleneljmcikdaaMarkB
import Derived.Test.YtmleneljmcikdaaMarkE
namespace Go.Proofs.Ytmleneljmcikdaa.markAll
open Go.ChangeShapes Go.WideShapes Go.ChangeAt Go.RowKit
set_option linter.unusedVariables false

set_option maxRecDepth 100000 in
set_option maxHeartbeats 8000000 in
theorem walk_long (A1 A2 A3 : Option Addr) (n1 n2 n3 c1 c2 c3 : Nat) (u h : Value) (f : Int) (w : World) (hl : 10 < n1 ∨ 10 < n2 ∨ 10 < n3 ∨ f < -1099511627776 ∨ 1099511627776 < f) :
    Calls Try.prog 3 #[.agg #[.slice A1 n1 c1, .slice A2 n2 c2, .slice A3 n3 c3, u, h], .int .i64 f] w fun e w' => e = .returned (.bool true) ∧ Ext w w' := by
  by_cases h1 : (10 : Int) < n1
  · clear hl
    go_enter Try.func3, Try.ntmps3
    go_wp2_with (go_at_call 5; refine (begun_any _).mono ?_; rintro e w1 ⟨rfl, b1⟩; obtain ⟨x0, x1, x2, x3, x4⟩ := (b1.blk (Blk.new w 26 #[.slice A1 n1 c1, .slice A2 n2 c2, .slice A3 n3 c3, u, h])).cells5)
    go_ret
    exact ⟨rfl, ((Ext.refl w).alloc _).trans b1⟩
  · by_cases h2 : (10 : Int) < n2
    · clear hl
      go_enter Try.func3, Try.ntmps3
      go_wp2_with (go_at_call 5; refine (begun_any _).mono ?_; rintro e w1 ⟨rfl, b1⟩; obtain ⟨x0, x1, x2, x3, x4⟩ := (b1.blk (Blk.new w 26 #[.slice A1 n1 c1, .slice A2 n2 c2, .slice A3 n3 c3, u, h])).cells5)
      go_ret
      exact ⟨rfl, ((Ext.refl w).alloc _).trans b1⟩
    · by_cases h3 : (10 : Int) < n3
      · clear hl
        go_enter Try.func3, Try.ntmps3
        go_wp2_with (go_at_call 5; refine (begun_any _).mono ?_; rintro e w1 ⟨rfl, b1⟩; obtain ⟨x0, x1, x2, x3, x4⟩ := (b1.blk (Blk.new w 26 #[.slice A1 n1 c1, .slice A2 n2 c2, .slice A3 n3 c3, u, h])).cells5)
        go_ret
        exact ⟨rfl, ((Ext.refl w).alloc _).trans b1⟩
      · by_cases h4 : f < -1099511627776
        · clear hl
          go_enter Try.func3, Try.ntmps3
          go_wp2_with (go_at_call 5; refine (begun_any _).mono ?_; rintro e w1 ⟨rfl, b1⟩; obtain ⟨x0, x1, x2, x3, x4⟩ := (b1.blk (Blk.new w 26 #[.slice A1 n1 c1, .slice A2 n2 c2, .slice A3 n3 c3, u, h])).cells5)
          go_ret
          exact ⟨rfl, ((Ext.refl w).alloc _).trans b1⟩
        · have h5 : 1099511627776 < f := by omega
          clear hl
          go_enter Try.func3, Try.ntmps3
          go_wp2_with (go_at_call 5; refine (begun_any _).mono ?_; rintro e w1 ⟨rfl, b1⟩; obtain ⟨x0, x1, x2, x3, x4⟩ := (b1.blk (Blk.new w 26 #[.slice A1 n1 c1, .slice A2 n2 c2, .slice A3 n3 c3, u, h])).cells5)
          go_ret
          exact ⟨rfl, ((Ext.refl w).alloc _).trans b1⟩

theorem dirty_row (ds : List (Int × Int)) : DirtyRow (dv ds) ds.length := fun k hk => ⟨_, _, (dv_at ds k hk).1, (dv_at ds k hk).2⟩
set_option maxRecDepth 100000 in
set_option maxHeartbeats 20000000 in
theorem walk_short (A1 A2 A3 : Option Addr) (n1 n3 c1 c2 c3 : Nat) (u h f : Int) (xL xO : List Value) (ds : List (Int × Int)) (w : World)
    (hL : LiveRow xL n1) (rL : Reads w w.heap.size 4 A1 n1 xL) (a1 : A1 = none → c1 = 0) (l1 : (n1 : Int) ≤ 10) (rD : Reads w w.heap.size 2 A2 ds.length (dv ds)) (a2 : A2 = none → c2 = 0) (l2 : (ds.length : Int) ≤ 10)
    (hO : OpenIn w xO n3) (rO : Reads w w.heap.size 3 A3 n3 xO) (a3 : A3 = none → c3 = 0) (l3 : (n3 : Int) ≤ 10) (f0 : -1099511627776 ≤ f) (f1 : f ≤ 1099511627776) :
    Calls Try.prog 3 #[.agg #[.slice A1 n1 c1, .slice A2 ds.length c2, .slice A3 n3 c3, .int .i64 u, .int .i64 h], .int .i64 f] w fun e w' => e = .returned (.bool true) ∧ Ext w w' := by
  obtain ⟨n2, hn2⟩ : ∃ n2, n2 = ds.length := ⟨_, rfl⟩
  rw [← hn2] at rD l2
  rw [← hn2]
  have HN2 := hide hn2
  have HL := hide hL
  have RL := hide rL
  have RD := hide rD
  have HO := hide hO
  have RO := hide rO
  have N1 := hide a1
  have N2 := hide a2
  have N3 := hide a3
  clear hL rL rD hO rO a1 a2 a3 hn2
  go_enter Try.func3, Try.ntmps3
  go_wp2_with (fail)
  refine (begun_any _).mono ?_
  rintro e w1 ⟨rfl, b1⟩
  have k0 := b1.blk (Blk.new w 26 #[.slice A1 n1 c1, .slice A2 n2 c2, .slice A3 n3 c3, .int .i64 u, .int .i64 h])
  have E1 := hide (((Ext.refl w).alloc _).trans b1)
  have K0 := hide k0
  obtain ⟨x0, x1, x2, x3, x4⟩ := k0.cells5
  have hz1 : w.heap.size < w1.heap.size := k0.lt
  clear b1 k0
  go_wp2_with (fail)
  go_region_held3 (fun w' => w'.cell? ⟨w.heap.size, 0, none⟩ = some (.slice A1 n1 c1) ∧ w'.cell? ⟨w.heap.size, 1, none⟩ = some (.slice A2 n2 c2) ∧ w'.cell? ⟨w.heap.size, 2, none⟩ = some (.slice A3 n3 c3) ∧ w'.cell? ⟨w.heap.size, 3, none⟩ = some (.int .i64 u) ∧ w'.cell? ⟨w.heap.size, 4, none⟩ = some (.int .i64 h))
    ((refine Blk.cells5 (Ext.blk (a := w1) ?_ K0.out); (repeat (first | with_reducible exact E6.out | with_reducible exact E5.out | with_reducible exact E4.out | with_reducible exact E3.out | with_reducible exact E2.out | with_reducible exact Ext.refl _ | with_reducible refine Ext.drew ?_))))
    (first
      | (go_at_call 7; refine (make_any A1 A2 A3 n1 n2 n3 c1 c2 c3 u h xL (dv ds) xO _ HL.out (Ext.read (E1.out.drew) RL.out) N1.out (by omega) (dv_one _) (Ext.read (E1.out.drew) RD.out) N2.out (by omega) (fun k hk => by obtain ⟨p0, p1, p2, p3, p4, p5, q0, q1, q2, q3, q4, q5⟩ := HO.out k hk; exact ⟨p0, p1, p2, p3, p4, p5, q0, q1, q2, q3, Ext.read (E1.out.drew) q4, q5⟩) (Ext.read (E1.out.drew) RO.out) N3.out (by omega)).mono ?_; rintro e w2 ⟨B1, B2, B3, e1, e2, e3, yO, rfl, r1, r2, r3, ho, he⟩; have E2 := hide (show Ext w1 w2 from Ext.trans (Ext.drew (Ext.refl w1)) he); have R1 := hide r1; have R2 := hide r2; have R3 := hide r3; have HOO := hide ho; clear r1 r2 r3 ho he)
      | (go_at_call 8; refine (rmark_any _ _ _ u h A1 A2 A3 n1 n2 n3 c1 c2 c3 _ rfl rfl rfl).mono ?_; rintro e w3 ⟨rfl, he⟩; have F3 := hide he; have E3 := hide (E2.out.trans he); clear he)
      | (go_at_call 6; refine (same_entry B1 B2 B3 A1 A2 A3 n1 n2 n3 e1 e2 e3 c1 c2 c3 u h xL (dv ds) yO xO _ HL.out (F3.out.read R1.out) ((E1.out.trans E3.out).read RL.out) (by unfold maxLen; omega) (by rw [HN2.out]; exact dirty_row ds) (F3.out.read R2.out) ((E1.out.trans E3.out).read RD.out) (by unfold maxLen; omega) (HOO.out.ext F3.out) (F3.out.read R3.out) ((E1.out.trans E3.out).read RO.out) (by unfold maxLen; omega)).mono ?_; rintro e w4 ⟨rfl, he⟩; have E4 := hide (E3.out.trans he); clear he)
      | (go_at_call 9; refine (redo_n _ _ _ _ A2 n2 c2 ds f _ HN2.out ((E1.out.trans E4.out).read RD.out) (by omega) f0 f1).mono ?_; rintro e w5 ⟨rfl, he⟩; have E5 := hide (E4.out.trans he); clear he)
      | (go_at_call 10; refine (rredo_n _ _ _ _ A2 n2 c2 ds f _ HN2.out ((E1.out.trans E5.out).read RD.out) (by omega) f0 f1).mono ?_; rintro e w6 ⟨rfl, he⟩; have E6 := hide (E5.out.trans he); clear he))
  go_wp2
  go_ret
  exact ⟨rfl, E1.out.trans E6.out⟩
end Go.Proofs.Ytmleneljmcikdaa.markAll
