/- Deed: the contracts in the form that one stack alone wants; 'begun'. -/
import Derived.Test.YtkicocaejfhgiaaDeedB
namespace Go.Proofs.Ytkicocaejfhgiaa
open Go.ChangeShapes Go.WideShapes Go.ChangeAt Go.RowKit
set_option linter.unusedVariables false

/-- behind a method there is a stack; below base nothing has turned -/
def Goes (w : World) (base g : Nat) (l : List Int) (s : Nat → Int) (w' : World) : Prop := ∃ v, Stack w' base g v l s ∧ Below base w w'
theorem Leaves.goes {w w' : World} {base g : Nat} {v : Value} {l l' : List Int} {s s' : Nat → Int} (h : Leaves w base g v l' s' w') (hs : Stack w base g v l s) (hb : base ≤ w.heap.size) : Goes w base g l' s' w' := by
  obtain ⟨v', h1, h2, _⟩ := h
  exact ⟨v', h1, h2.below hb hs.foot_base⟩
theorem push_go (base g : Nat) (v : Value) (l : List Int) (s : Nat → Int) (x : Int) (w : World) (hs : Stack w base g v l s) (hl : l.length ≤ 1048576) (hbase : base ≤ w.heap.size) :
    Calls Try.prog 13 #[.pointer (some ⟨g, 0, none⟩), .int .i64 x] w fun e w' => e = .returned (.tuple #[]) ∧ Goes w base g (l ++ [x]) s w' :=
  (push_any base g v l s x w hs hl hbase).mono fun _ _ ⟨h1, h2⟩ => ⟨h1, h2.goes hs hbase⟩
theorem save_go (base g : Nat) (v : Value) (l : List Int) (s : Nat → Int) (n : Nat) (w : World) (hs : Stack w base g v l s) (hn : n < 4) (hbase : base ≤ w.heap.size) :
    Calls Try.prog 8 #[.pointer (some ⟨g, 0, none⟩), .int .i64 n] w fun e w' => e = .returned (.bool true) ∧ Goes w base g l (setAt s n l.length) w' :=
  (save_yes base g v l s n w hs hn).mono fun _ _ ⟨h1, h2⟩ => ⟨h1, h2.goes hs hbase⟩
def GoesBack (w : World) (base g : Nat) (l : List Int) (s : Nat → Int) (h : Nat) (e : Ending) (w' : World) : Prop :=
  ∃ A c, e = .returned (.tuple #[.slice A (l.length - h) c, .bool true]) ∧ w'.ownsRow w.heap.size 3 1 (.slice A (l.length - h) c) (l.length - h) (iv (l.drop h).reverse) ∧ Goes w base g (l.take h) (cutAt s h) w'
theorem back_go (base g : Nat) (v : Value) (l : List Int) (s : Nat → Int) (n h : Nat) (w : World) (hs : Stack w base g v l s) (hn : n < 4) (hh : s n = h) (hl : l.length ≤ 1048576) (hbase : base ≤ w.heap.size) :
    Calls Try.prog 10 #[.pointer (some ⟨g, 0, none⟩), .int .i64 n] w (GoesBack w base g l s h) :=
  (back_yes base g v l s n h w hs hn hh hl hbase).mono fun _ _ ⟨u, h1, h2, h3⟩ => by
    obtain ⟨A, c, rfl⟩ := own_form h2
    exact ⟨A, c, h1, h2, h3.goes hs hbase⟩
/-- All -/
theorem all_any (base g : Nat) (v : Value) (l : List Int) (s : Nat → Int) (w : World) (hs : Stack w base g v l s) (hl : l.length ≤ 1048576) :
    Calls Try.prog 15 #[.pointer (some ⟨g, 0, none⟩)] w (GivesInts w l.reverse) := by
  obtain ⟨A, c, hv, _, _, hAn, _⟩ := hs.form
  subst hv
  have hr : Hid (Reads w w.heap.size 1 A l.length (iv l)) := Reads.of_own hs.own
  have c0 := hs.blk.cell 0
  simp at c0
  clear hs
  go_enter Try.func15, Try.ntmps15
  go_wp2_with (go_at_call 19; refine (newest_any A c l w hAn hr.out hl).mono ?_; rintro e w1 ⟨u, rfl, hu, hb⟩)
  go_ret
  exact ⟨_, rfl, hu, hb⟩
theorem Stack.below {w w' : World} {base g : Nat} {v : Value} {l : List Int} {s : Nat → Int} (h : Stack w base g v l s) (hb : Below w.heap.size w w') : Stack w' base g v l s :=
  ⟨h.blk.below hb h.blk.lt, ownsRow_touch (Touch.of_below hb (fun _ => False)) h.own (fun _ _ h => h), h.hb, h.lo, h.hi⟩

set_option maxRecDepth 100000 in
theorem begun_any (w : World) : Calls Try.prog 6 #[] w fun e w' => e = .returned (.bool true) ∧ Below w.heap.size w w' := by
  go_enter Try.func6, Try.ntmps6
  go_wp2_with (fail)
  refine (new_any _).mono ?_
  rintro e w1 ⟨rfl, s1, b1⟩
  have z1 := b1.size
  have S1 := hide s1
  have B1 := hide b1
  clear s1 b1
  go_wp2_with (fail)
  refine (push_go _ _ _ [] _ 1 _ S1.out (by decide) z1).mono ?_
  rintro e w2 ⟨rfl, v2, s2, b2⟩
  have z2 := Nat.le_trans z1 b2.size
  have S2 := hide s2
  have B2 := hide (B1.out.trans b2)
  clear s2 b2 S1 B1
  go_wp2_with (fail)
  refine (save_go _ _ _ [1] _ 0 _ S2.out (by decide) z2).mono ?_
  rintro e w3 ⟨rfl, v3, s3, b3⟩
  have z3 := Nat.le_trans z2 b3.size
  have S3 := hide s3
  have B3 := hide (B2.out.trans b3)
  clear s3 b3 S2 B2
  go_wp2_with (fail)
  refine (push_go _ _ _ [1] _ 2 _ S3.out (by decide) z3).mono ?_
  rintro e w4 ⟨rfl, v4, s4, b4⟩
  have z4 := Nat.le_trans z3 b4.size
  have S4 := hide s4
  have B4 := hide (B3.out.trans b4)
  clear s4 b4 S3 B3
  go_wp2_with (fail)
  refine (back_go _ _ _ [1, 2] _ 0 1 _ S4.out (by decide) rfl (by decide) z4).mono ?_
  rintro e w5 ⟨A, c, rfl, hu, v5, s5, b5⟩
  have z5 := Nat.le_trans z4 b5.size
  have hR := Reads.of_own hu
  obtain ⟨b, off, rfl, hlt, hc⟩ := hR.plain (by decide) (by decide)
  have hc0 : w5.cell? ⟨b, off, none⟩ = some (.int .i64 2) := hc 0 _ rfl
  have S5 := hide s5
  have B5 := hide (B4.out.trans b5)
  clear s5 b5 S4 B4 hR hc hu
  go_wp2_with (go_at_call 17; refine (len_any _ _ _ [1] _ _ S5.out).mono ?_; rintro e w6 ⟨rfl, rfl⟩)
  refine (all_any _ _ _ [1] _ _ S5.out (by decide)).mono ?_
  rintro e w6 ⟨u, rfl, hu, hb⟩
  obtain ⟨A', c', rfl⟩ := own_form hu
  go_wp2
  go_ret
  exact ⟨rfl, B5.out.trans (hb.mono z5)⟩
end Go.Proofs.Ytkicocaejfhgiaa
