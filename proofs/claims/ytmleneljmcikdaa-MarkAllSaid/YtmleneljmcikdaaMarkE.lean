/- Mark: two marks that hold the same are told to be the same. -/
import Derived.Test.YtmleneljmcikdaaMarkD
namespace Go.Proofs.Ytmleneljmcikdaa
open Go.ChangeShapes Go.WideShapes Go.ChangeAt Go.RowKit
set_option linter.unusedVariables false

set_option maxRecDepth 100000 in
set_option maxHeartbeats 8000000 in
theorem same_entry (A1 A2 A3 B1 B2 B3 : Option Addr) (n1 n2 n3 c1 c2 c3 d1 d2 d3 : Nat) (u h : Int) (xL xD xO yO : List Value) (w : World)
    (hL : LiveRow xL n1) (rL : Reads w w.heap.size 4 A1 n1 xL) (rL' : Reads w w.heap.size 4 B1 n1 xL) (l1 : n1 ≤ maxLen)
    (hD : DirtyRow xD n2) (rD : Reads w w.heap.size 2 A2 n2 xD) (rD' : Reads w w.heap.size 2 B2 n2 xD) (l2 : n2 ≤ maxLen)
    (hO : OpenRows w xO yO n3) (rO : Reads w w.heap.size 3 A3 n3 xO) (rO' : Reads w w.heap.size 3 B3 n3 yO) (l3 : n3 ≤ maxLen) :
    Calls Try.prog 6 #[.agg #[.int .i64 9, .int .i64 0, .int .i64 u, .int .i64 h, .int .i64 0, .int .i64 0, .int .i64 0, .int .i64 0, .int .i64 0, .int .i64 0, .slice none 0 0, .slice none 0 0, .slice none 0 0, .slice A1 n1 c1, .slice A2 n2 c2, .slice A3 n3 c3],
      .agg #[.int .i64 9, .int .i64 0, .int .i64 u, .int .i64 h, .int .i64 0, .int .i64 0, .int .i64 0, .int .i64 0, .int .i64 0, .int .i64 0, .slice none 0 0, .slice none 0 0, .slice none 0 0, .slice B1 n1 d1, .slice B2 n2 d2, .slice B3 n3 d3]] w
      fun e w' => e = .returned (.bool true) ∧ Ext w w' := by
  have s0 : ∀ W : World, (convert 31 9 (.slice none 0 0)).run Try.prog W = .ok (.string ⟨[].toArray⟩) W := fun W =>
    run_string_of_reads (B := 0) (l := []) 31 9 5 0 Try.underlying31 Try.underlying5 Try.underlying9 Reads.none_
  have hE := ((Ext.refl w).alloc (.cells #[.int .i64 9, .int .i64 0, .int .i64 u, .int .i64 h, .int .i64 0, .int .i64 0, .int .i64 0, .int .i64 0, .int .i64 0, .int .i64 0, .slice none 0 0, .slice none 0 0, .slice none 0 0, .slice A1 n1 c1, .slice A2 n2 c2, .slice A3 n3 c3] 34)).alloc (.cells #[.int .i64 9, .int .i64 0, .int .i64 u, .int .i64 h, .int .i64 0, .int .i64 0, .int .i64 0, .int .i64 0, .int .i64 0, .int .i64 0, .slice none 0 0, .slice none 0 0, .slice none 0 0, .slice B1 n1 d1, .slice B2 n2 d2, .slice B3 n3 d3] 34)
  have RL := hide (hE.read rL)
  have RL' := hide (hE.read rL')
  have RD := hide (hE.read rD)
  have RD' := hide (hE.read rD')
  have RO := hide (hE.read rO)
  have RO' := hide (hE.read rO')
  have HO := hide (hO.ext hE)
  have HE := hide hE
  have HL := hide hL
  have HD := hide hD
  have L1 := hide l1
  have L2 := hide l2
  have L3 := hide l3
  clear rL rL' rD rD' rO rO' hO hE hL hD l1 l2 l3
  go_enter Try.func6, Try.ntmps6
  go_wp2_with (first | (go_at_call 13; refine (same_Move none none 0 0 0 0 0 [] _ (fun k hk => absurd hk (by omega)) Reads.none_ Reads.none_ (by decide)).mono ?_; rintro e w' ⟨rfl, m0, rfl⟩) | (go_at_call 14; refine (same_Live _ _ _ _ _ _ _ _ _ HL.out (RL.out.drewN _) (RL'.out.drewN _) L1.out).mono ?_; rintro e w' ⟨rfl, m1, rfl⟩) | (go_at_call 15; refine (same_Dirty _ _ _ _ _ _ _ _ _ HD.out (RD.out.drewN _) (RD'.out.drewN _) L2.out).mono ?_; rintro e w' ⟨rfl, m2, rfl⟩) | (go_at_call 16; refine (same_Opens _ _ _ _ _ _ _ _ _ _ (HO.out.ext ((Ext.refl _).drewN _)) (RO.out.drewN _) (RO'.out.drewN _) L3.out).mono ?_; rintro e w' ⟨rfl, m3, rfl⟩))
  go_ret
  exact ⟨rfl, HE.out.drewN _⟩
end Go.Proofs.Ytmleneljmcikdaa
