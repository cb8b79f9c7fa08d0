/- Deed: the stack in memory, and contracts of its small methods: New, may, Push, Save, Len. -/
import Derived.Test.YtkicocaejfhgiaaKit
import Derived.WalkLawsBesides
import Derived.WalkSpells
import Derived.LoopTactic
import Derived.Deep.QuietTactic
import Derived.BigQuiet
import Derived.Deep.RegionHeld3
namespace Go.Proofs.Ytkicocaejfhgiaa
open Go.ChangeShapes Go.WideShapes Go.ChangeAt Go.RowKit
set_option linter.unusedVariables false

theorem Try.info3' : (Try.prog.info? 3).map (fun i => (i.zero, i.size, i.bytes)) = some (some (.int .i64 0), 1, 8) := by kernel_rfl
def iv (l : List Int) : List Value := l.map (Value.int .i64)
theorem iv_one (l : List Int) : ∀ u ∈ iv l, u.oneCell' = true := by
  intro u hu
  obtain ⟨b, _, rfl⟩ := List.mem_map.1 hu
  rfl

/-- The stack: its struct in block g, its list in a row of the call's own. -/
structure Stack (w : World) (base g : Nat) (v : Value) (l : List Int) (s : Nat → Int) : Prop where
  blk : Blk w g 46 #[v, .int .i64 (s 0), .int .i64 (s 1), .int .i64 (s 2), .int .i64 (s 3)]
  own : w.ownsRow base 3 1 v l.length (iv l)
  hb : base ≤ g
  lo : ∀ i, -1 ≤ s i
  hi : ∀ i, s i ≤ l.length
/-- What a method may write: the struct, the row. -/
def foot (g : Nat) (v : Value) (k : Nat) : Prop := k = g ∨ v.ownBlock = some k
theorem Stack.foot_base {w : World} {base g : Nat} {v : Value} {l : List Int} {s : Nat → Int} (h : Stack w base g v l s) : ∀ k, foot g v k → base ≤ k := by
  rintro k (rfl | hk)
  · exact h.hb
  · exact (h.own.lt k hk).1
theorem Stack.form {w : World} {base g : Nat} {v : Value} {l : List Int} {s : Nat → Int} (h : Stack w base g v l s) : ∃ A c, v = .slice A l.length c ∧ l.length ≤ c ∧ c ≤ maxLen ∧ (A = none → c = 0) ∧ ∀ ad, A = some ad → ad.off = 0 ∧ ad.spot = none := by
  rcases h.own.2 with ⟨rfl, h0⟩ | ⟨b, c, cur, rfl, _, _, h1, h2, _⟩
  · rw [h0]
    exact ⟨none, 0, rfl, Nat.le_refl _, Nat.zero_le _, fun _ => rfl, fun _ h => by cases h⟩
  · exact ⟨_, c, rfl, h1, h2, (fun h => by cases h), fun ad h => by injection h with h; subst h; exact ⟨rfl, rfl⟩⟩
/-- what a method leaves -/
def Leaves (w : World) (base g : Nat) (v : Value) (l : List Int) (s : Nat → Int) (w' : World) : Prop :=
  ∃ v', Stack w' base g v' l s ∧ Touch w w' (foot g v) ∧ (v'.ownBlock = v.ownBlock ∨ ∀ k, v'.ownBlock = some k → w.heap.size ≤ k)

theorem may_any (g : Nat) (n : Int) (w : World) : Calls Try.prog 18 #[.pointer (some ⟨g, 0, none⟩), .int .i64 n] w fun e w' => e = .returned (.bool (decide (0 ≤ n ∧ n < 4))) ∧ w = w' := by
  by_cases h0 : 0 ≤ n
  · by_cases h1 : n < 4
    · have hd : decide (0 ≤ n ∧ n < 4) = true := by simp [h0, h1]
      rw [hd]
      clear hd
      go_enter Try.func18, Try.ntmps18
      go_wp2
      go_ret
      exact ⟨rfl, rfl⟩
    · have hd : decide (0 ≤ n ∧ n < 4) = false := by simp; omega
      rw [hd]
      clear hd
      go_enter Try.func18, Try.ntmps18
      go_wp2
      go_ret
      exact ⟨rfl, rfl⟩
  · have hd : decide (0 ≤ n ∧ n < 4) = false := by simp; omega
    rw [hd]
    clear hd
    go_enter Try.func18, Try.ntmps18
    go_wp2
    go_ret
    exact ⟨rfl, rfl⟩

theorem new_any (w : World) : Calls Try.prog 7 #[] w fun e w' => e = .returned (.pointer (some ⟨w.heap.size, 0, none⟩)) ∧ Stack w' w.heap.size w.heap.size (.slice none 0 0) [] (fun _ => -1) ∧ Below w.heap.size w w' := by
  go_enter Try.func7, Try.ntmps7
  go_wp2
  refine wp_loop_rounds 5 ?_
  rw [rounds_succ]
  go_wp2
  rw [rounds_succ]
  go_wp2
  rw [rounds_succ]
  go_wp2
  rw [rounds_succ]
  go_wp2
  rw [rounds_succ]
  go_wp2
  go_ret
  refine ⟨rfl, ⟨?_, World.ownsRow_nil _ _ _ _, Nat.le_refl _, fun _ => Int.le_refl _, fun _ => by simp⟩, (Below.refl _ _).alloc (Nat.le_refl _) _⟩
  exact Blk.new w 46 _

theorem own_form {w : World} {base n : Nat} {v : Value} {xs : List Value} (h : w.ownsRow base 3 1 v n xs) : ∃ A c, v = .slice A n c := by
  rcases h.2 with ⟨rfl, rfl⟩ | ⟨b, c, cur, rfl, _⟩
  · exact ⟨_, _, rfl⟩
  · exact ⟨_, _, rfl⟩
theorem leaves_push {base g : Nat} {v v1 : Value} {l : List Int} {s : Nat → Int} {x : Int} {w w1 : World} (hs : Stack w base g v l s)
    (hown1 : w1.ownsRow base 3 1 v1 (l.length + 1) (iv l ++ [.int .i64 x])) (hg1 : (w.alloc (.cells #[.int .i64 x] 3)).grownBy w1 v.ownBlock)
    (hat1 : v1.ownBlock = v.ownBlock ∨ v1.ownBlock = some (w.alloc (.cells #[.int .i64 x] 3)).heap.size) : Leaves w base g v (l ++ [x]) s (w1.setCell ⟨g, 0, none⟩ v1) := by
  have k0 := hs.blk.alloc (.cells #[.int .i64 x] 3)
  have hne : some g ≠ v.ownBlock := fun e => own_blk_ne (hs.own.alloc (.cells #[.int .i64 x] 3)) k0 (by decide) e.symm
  have k1 := k0.grown hg1 hne
  have hne1 : v1.ownBlock ≠ some g := own_blk_ne hown1 k1 (by decide)
  have ht : Touch w (w1.setCell ⟨g, 0, none⟩ v1) (foot g v) :=
    (((Touch.refl w _).alloc _).grown hg1 (fun k hk _ => .inr hk)).setCell (fun _ => .inl rfl) _
  refine ⟨v1, ⟨by simpa using k1.set_ 0 v1, ?_, hs.hb, hs.lo, fun i => ?_⟩, ht, ?_⟩
  · have := ownsRow_touch (w1 := w1.setCell ⟨g, 0, none⟩ v1) (F := fun k => k = g) (Touch.setCell (F := fun k => k = g) (p := ⟨g, 0, none⟩) (Touch.refl w1 _) (fun _ => rfl) v1) hown1 (fun k hk e => hne1 (by rw [hk, e]))
    simpa [iv] using this
  · have := hs.hi i
    simp
    omega
  · rcases hat1 with h | h
    · exact .inl h
    · exact .inr fun k hk => by rw [h] at hk; injection hk with hk; subst hk; simp
/-- Push -/
theorem push_any (base g : Nat) (v : Value) (l : List Int) (s : Nat → Int) (x : Int) (w : World) (hs : Stack w base g v l s) (hl : l.length ≤ 1048576) (hbase : base ≤ w.heap.size) :
    Calls Try.prog 13 #[.pointer (some ⟨g, 0, none⟩), .int .i64 x] w fun e w' => e = .returned (.tuple #[]) ∧ Leaves w base g v (l ++ [x]) s w' := by
  obtain ⟨i0, hi0, hz0, hz1, hz2⟩ := info_parts Try.info3'
  have c0 := hs.blk.cell 0
  simp at c0
  have f0 := hs.blk.frozen 0
  have hlt := hs.blk.lt
  have HS := hide hs
  clear hs
  have hnews : Hid (Reads (w.alloc (.cells #[.int .i64 x] 3)) (w.heap.size + 1) 1 (some ⟨w.heap.size, 0, none⟩) 1 [.int .i64 x]) := by
    refine ⟨rfl, fun _ => ⟨_, rfl, by simp, fun j u hu => ?_⟩⟩
    match j, hu with
    | 0, hu => simp at hu; subst hu; simp [Addr.add]
  go_enter Try.func13, Try.ntmps13
  go_wp2_with (at_builtin; refine wpList_append_any _ rfl (.tmp 10) (.tmp 12) _ rfl base 3 i0 _ 1 8 Try.underlying27 hi0 hz0 hz1 hz2 rfl (by omega) v l.length (iv l) rfl (HS.out.own.alloc _) (w.heap.size + 1) _ 1 1 [.int .i64 x] rfl hnews.out (by simp [Value.oneCell']) (by simp only [maxLen]; omega) (by omega) (by simp; omega) ?_; intro v1 w1 hown1 hg1 hat1; have L := hide (leaves_push HS.out hown1 hg1 hat1); have k1 := (HS.out.blk.alloc (.cells #[.int .i64 x] 3)).grown hg1 (fun e => own_blk_ne (HS.out.own.alloc (.cells #[.int .i64 x] 3)) (HS.out.blk.alloc (.cells #[.int .i64 x] 3)) (by decide) e.symm); have c1 := k1.cell 0; have f1 := k1.frozen 0; simp at c1; obtain ⟨A1, c, hv⟩ := own_form hown1; rw [hv]; rw [hv] at L; clear hown1 hg1 hat1 hv c0 f0 k1)
  go_end0
  exact ⟨rfl, L.out⟩

/-- a savepoint that may be -/
def setAt (s : Nat → Int) (n : Nat) (h : Int) : Nat → Int := fun i => if i = n then h else s i
theorem four {n : Int} (h : 0 ≤ n ∧ n < 4) : n = 0 ∨ n = 1 ∨ n = 2 ∨ n = 3 := by omega
theorem stack_set {base g : Nat} {v : Value} {l : List Int} {s s' : Nat → Int} {w w1 : World} (hs : Stack w base g v l s) (ht : Touch w w1 (fun k => k = g))
    (hblk : Blk w1 g 46 #[v, .int .i64 (s' 0), .int .i64 (s' 1), .int .i64 (s' 2), .int .i64 (s' 3)]) (hlo : ∀ i, -1 ≤ s' i) (hhi : ∀ i, s' i ≤ l.length) : Leaves w base g v l s' w1 :=
  ⟨v, ⟨hblk, ownsRow_touch ht hs.own (fun k hk e => own_blk_ne hs.own hs.blk (by decide) (by rw [hk, e])), hs.hb, hlo, hhi⟩, ht.more (fun k _ h => .inl h), .inl rfl⟩
theorem setAt_lo {s : Nat → Int} {n : Nat} {h : Int} (hs : ∀ i, -1 ≤ s i) (hh : -1 ≤ h) : ∀ i, -1 ≤ setAt s n h i := fun i => by unfold setAt; split <;> simp_all
theorem setAt_hi {s : Nat → Int} {n : Nat} {h m : Int} (hs : ∀ i, s i ≤ m) (hh : h ≤ m) : ∀ i, setAt s n h i ≤ m := fun i => by unfold setAt; split <;> simp_all
theorem save_no (base g : Nat) (v : Value) (l : List Int) (s : Nat → Int) (n : Int) (w : World) (hs : Stack w base g v l s) (hn : ¬ (0 ≤ n ∧ n < 4)) :
    Calls Try.prog 8 #[.pointer (some ⟨g, 0, none⟩), .int .i64 n] w fun e w' => e = .returned (.bool false) ∧ w = w' := by
  have hd : decide (0 ≤ n ∧ n < 4) = false := by simpa using hn
  clear hn hs
  go_enter Try.func8, Try.ntmps8
  go_wp2_with (go_at_call 18; refine (may_any _ _ _).mono ?_; rintro e w' ⟨rfl, rfl⟩)
  go_ret
  exact ⟨rfl, rfl⟩
set_option maxHeartbeats 1000000 in
theorem save_yes (base g : Nat) (v : Value) (l : List Int) (s : Nat → Int) (n : Nat) (w : World) (hs : Stack w base g v l s) (hn : n < 4) :
    Calls Try.prog 8 #[.pointer (some ⟨g, 0, none⟩), .int .i64 n] w fun e w' => e = .returned (.bool true) ∧ Leaves w base g v l (setAt s n l.length) w' := by
  obtain ⟨A, c, hv, _⟩ := hs.form
  subst hv
  have hlo := setAt_lo (n := n) hs.lo (show -1 ≤ (l.length : Int) by omega)
  have hhi := setAt_hi (n := n) hs.hi (Int.le_refl (l.length : Int))
  have c0 := hs.blk.cell 0
  have c1 := hs.blk.cell 1
  have c2 := hs.blk.cell 2
  have c3 := hs.blk.cell 3
  have c4 := hs.blk.cell 4
  have ff := hs.blk.frozen
  have hlt := hs.blk.lt
  simp at c0 c1 c2 c3 c4
  have HS := hide hs
  have Hlo := hide hlo
  have Hhi := hide hhi
  clear hs hlo hhi
  have h4 : n = 0 ∨ n = 1 ∨ n = 2 ∨ n = 3 := by omega
  rcases h4 with rfl | rfl | rfl | rfl
  · have hd : decide ((0 : Int) ≤ 0 ∧ (0 : Int) < 4) = true := by decide
    have HB := hide (HS.out.blk.set_ 1 (.int .i64 l.length))
    go_enter Try.func8, Try.ntmps8
    go_wp2_with (go_at_call 18; refine (may_any _ _ _).mono ?_; rintro e w' ⟨rfl, rfl⟩)
    go_region
    all_goals go_wp2
    all_goals go_ret
    all_goals exact ⟨rfl, stack_set HS.out (Touch.setCell (F := fun k => k = g) (p := ⟨g, 1, none⟩) (Touch.refl _ _) (fun _ => rfl) _).drew (by have := HB.out.drew; simpa [setAt] using this) Hlo.out Hhi.out⟩
  · have hd : decide ((0 : Int) ≤ 1 ∧ (1 : Int) < 4) = true := by decide
    have HB := hide (HS.out.blk.set_ 2 (.int .i64 l.length))
    go_enter Try.func8, Try.ntmps8
    go_wp2_with (go_at_call 18; refine (may_any _ _ _).mono ?_; rintro e w' ⟨rfl, rfl⟩)
    go_region
    all_goals go_wp2
    all_goals go_ret
    all_goals exact ⟨rfl, stack_set HS.out (Touch.setCell (F := fun k => k = g) (p := ⟨g, 2, none⟩) (Touch.refl _ _) (fun _ => rfl) _).drew (by have := HB.out.drew; simpa [setAt] using this) Hlo.out Hhi.out⟩
  · have hd : decide ((0 : Int) ≤ 2 ∧ (2 : Int) < 4) = true := by decide
    have HB := hide (HS.out.blk.set_ 3 (.int .i64 l.length))
    go_enter Try.func8, Try.ntmps8
    go_wp2_with (go_at_call 18; refine (may_any _ _ _).mono ?_; rintro e w' ⟨rfl, rfl⟩)
    go_region
    all_goals go_wp2
    all_goals go_ret
    all_goals exact ⟨rfl, stack_set HS.out (Touch.setCell (F := fun k => k = g) (p := ⟨g, 3, none⟩) (Touch.refl _ _) (fun _ => rfl) _).drew (by have := HB.out.drew; simpa [setAt] using this) Hlo.out Hhi.out⟩
  · have hd : decide ((0 : Int) ≤ 3 ∧ (3 : Int) < 4) = true := by decide
    have HB := hide (HS.out.blk.set_ 4 (.int .i64 l.length))
    go_enter Try.func8, Try.ntmps8
    go_wp2_with (go_at_call 18; refine (may_any _ _ _).mono ?_; rintro e w' ⟨rfl, rfl⟩)
    go_region
    all_goals go_wp2
    all_goals go_ret
    all_goals exact ⟨rfl, stack_set HS.out (Touch.setCell (F := fun k => k = g) (p := ⟨g, 4, none⟩) (Touch.refl _ _) (fun _ => rfl) _).drew (by have := HB.out.drew; simpa [setAt] using this) Hlo.out Hhi.out⟩

/-- Len -/
theorem len_any (base g : Nat) (v : Value) (l : List Int) (s : Nat → Int) (w : World) (hs : Stack w base g v l s) :
    Calls Try.prog 17 #[.pointer (some ⟨g, 0, none⟩)] w fun e w' => e = .returned (.int .i64 l.length) ∧ w = w' := by
  obtain ⟨A, c, hv, _⟩ := hs.form
  subst hv
  have c0 := hs.blk.cell 0
  simp at c0
  clear hs
  go_enter Try.func17, Try.ntmps17
  go_wp2
  go_ret
  exact ⟨rfl, rfl⟩
end Go.Proofs.Ytkicocaejfhgiaa
