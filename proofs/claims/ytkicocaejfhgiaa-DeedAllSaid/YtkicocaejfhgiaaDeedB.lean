/- Deed: Back. -/
import Derived.Test.YtkicocaejfhgiaaDeedN
namespace Go.Proofs.Ytkicocaejfhgiaa
open Go.ChangeShapes Go.WideShapes Go.ChangeAt Go.RowKit
set_option linter.unusedVariables false

/-- the savepoints behind a Back to height h -/
def cutAt (s : Nat → Int) (h : Int) : Nat → Int := fun i => if s i > h then -1 else s i
theorem back_no (base g : Nat) (v : Value) (l : List Int) (s : Nat → Int) (n : Int) (w : World) (hs : Stack w base g v l s) (hn : ¬ (0 ≤ n ∧ n < 4)) :
    Calls Try.prog 10 #[.pointer (some ⟨g, 0, none⟩), .int .i64 n] w fun e w' => e = .returned (.tuple #[.slice none 0 0, .bool false]) ∧ w = w' := by
  have hd : decide (0 ≤ n ∧ n < 4) = false := by simpa using hn
  clear hn hs
  go_enter Try.func10, Try.ntmps10
  go_wp2_with (go_at_call 18; refine (may_any _ _ _).mono ?_; rintro e w' ⟨rfl, rfl⟩)
  go_ret2
  exact ⟨rfl, rfl⟩
theorem back_none (base g : Nat) (v : Value) (l : List Int) (s : Nat → Int) (n : Nat) (w : World) (hs : Stack w base g v l s) (hn : n < 4) (hneg : s n < 0) :
    Calls Try.prog 10 #[.pointer (some ⟨g, 0, none⟩), .int .i64 n] w fun e w' => e = .returned (.tuple #[.slice none 0 0, .bool false]) ∧ w = w' := by
  have c1 := hs.blk.cell 1
  have c2 := hs.blk.cell 2
  have c3 := hs.blk.cell 3
  have c4 := hs.blk.cell 4
  have hlt := hs.blk.lt
  simp at c1 c2 c3 c4
  clear hs
  have h4 : n = 0 ∨ n = 1 ∨ n = 2 ∨ n = 3 := by omega
  rcases h4 with rfl | rfl | rfl | rfl
  · have hd : decide ((0 : Int) ≤ 0 ∧ (0 : Int) < 4) = true := by decide
    go_enter Try.func10, Try.ntmps10
    go_wp2_with (go_at_call 18; refine (may_any _ _ _).mono ?_; rintro e w' ⟨rfl, rfl⟩)
    go_ret2
    exact ⟨rfl, rfl⟩
  · have hd : decide ((0 : Int) ≤ 1 ∧ (1 : Int) < 4) = true := by decide
    go_enter Try.func10, Try.ntmps10
    go_wp2_with (go_at_call 18; refine (may_any _ _ _).mono ?_; rintro e w' ⟨rfl, rfl⟩)
    go_ret2
    exact ⟨rfl, rfl⟩
  · have hd : decide ((0 : Int) ≤ 2 ∧ (2 : Int) < 4) = true := by decide
    go_enter Try.func10, Try.ntmps10
    go_wp2_with (go_at_call 18; refine (may_any _ _ _).mono ?_; rintro e w' ⟨rfl, rfl⟩)
    go_ret2
    exact ⟨rfl, rfl⟩
  · have hd : decide ((0 : Int) ≤ 3 ∧ (3 : Int) < 4) = true := by decide
    go_enter Try.func10, Try.ntmps10
    go_wp2_with (go_at_call 18; refine (may_any _ _ _).mono ?_; rintro e w' ⟨rfl, rfl⟩)
    go_ret2
    exact ⟨rfl, rfl⟩

theorem own_take {w : World} {base n k : Nat} {A : Option Addr} {c : Nat} {l : List Int} (h : w.ownsRow base 3 1 (.slice A n c) n (iv l)) (hk : k ≤ n) : w.ownsRow base 3 1 (.slice A k c) k (iv (l.take k)) := by
  have hl : l.length = n := by simpa [iv] using h.1
  rcases h.2 with ⟨hv, rfl⟩ | ⟨b, cap, cur, hv, hb, hh, h1, h2, h3, h4⟩
  · obtain rfl : k = 0 := by omega
    injection hv with h1 h2 h3
    subst h1 h3
    exact ⟨by simp [iv], .inl ⟨rfl, rfl⟩⟩
  · injection hv with h5 h6 h7
    subst h5 h7
    refine ⟨by simp [iv]; omega, .inr ⟨b, c, cur, rfl, hb, hh, by omega, h2, h3, ?_⟩⟩
    have : iv (l.take k) = (iv l).take k := by simp [iv, List.map_take]
    rw [this, ← h4, List.take_take]
    congr 1
    omega
theorem newest_at (A : Option Addr) (c n : Nat) (l : List Int) (w : World) (hn : l.length = n) (hA : A = none → c = 0) (hr : Reads w w.heap.size 1 A n (iv l)) (hl : n ≤ 1048576) :
    Calls Try.prog 19 #[.slice A n c] w (GivesInts w l.reverse) := by
  subst hn
  exact newest_any A c l w hA hr hl
theorem cell_s {w : World} {g : Nat} {v : Value} {s : Nat → Int} {n : Nat} (h : Blk w g 46 #[v, .int .i64 (s 0), .int .i64 (s 1), .int .i64 (s 2), .int .i64 (s 3)]) (hn : n < 4) : w.cell? ⟨g, 1 + n, none⟩ = some (.int .i64 (s n)) := by
  rw [h.cell]
  have h4 : n = 0 ∨ n = 1 ∨ n = 2 ∨ n = 3 := by omega
  rcases h4 with rfl | rfl | rfl | rfl <;> rfl
/-- the savepoints, the first k of them looked at -/
def part (s : Nat → Int) (h : Int) (k i : Nat) : Int := if i < k then cutAt s h i else s i
theorem cutAt_lo {s : Nat → Int} {h : Int} (hs : ∀ i, -1 ≤ s i) : ∀ i, -1 ≤ cutAt s h i := fun i => by
  unfold cutAt
  split
  · exact Int.le_refl _
  · exact hs i
theorem cutAt_hi {s : Nat → Int} {h : Nat} : ∀ i, cutAt s h i ≤ h := fun i => by
  unfold cutAt
  split <;> omega
/-- what Back gives -/
def GivesBack (base g : Nat) (v : Value) (l : List Int) (s : Nat → Int) (h : Nat) (w : World) (e : Ending) (w' : World) : Prop :=
  ∃ u, e = .returned (.tuple #[u, .bool true]) ∧ w'.ownsRow w.heap.size 3 1 u (l.length - h) (iv (l.drop h).reverse) ∧ Leaves w base g v (l.take h) (cutAt s h) w'
theorem gives_back {base g : Nat} {A : Option Addr} {c : Nat} {u : Value} {l : List Int} {s : Nat → Int} {h : Nat} {w w1 wr : World} (hs : Stack w base g (.slice A l.length c) l s) (hhl : h ≤ l.length) (hbase : base ≤ w.heap.size)
    (hb : Below w.heap.size w w1) (hu : w1.ownsRow w.heap.size 3 1 u (l.length - h) (iv (l.drop h).reverse))
    (hblk : Blk wr g 46 #[.slice A h c, .int .i64 (part s h 4 0), .int .i64 (part s h 4 1), .int .i64 (part s h 4 2), .int .i64 (part s h 4 3)]) (ht : Touch w1 wr (fun b => b = g)) :
    GivesBack base g (.slice A l.length c) l s h w (.returned (.tuple #[u, .bool true])) wr := by
  have hg := hs.blk.lt
  have h0 : Touch w w1 (fun _ => False) := Touch.of_below hb _
  have ho1 := ownsRow_touch h0 (own_take hs.own hhl) (fun _ _ h => h)
  have hk1 := h0.blk hs.blk (fun h => h)
  refine ⟨u, rfl, ownsRow_touch ht hu (fun k hk e => ?_), .slice A h c, ⟨hblk, ?_, hs.hb, cutAt_lo hs.lo, fun i => ?_⟩, ?_, .inl ?_⟩
  · have := (hu.lt k hk).1
    omega
  · have := ownsRow_touch ht ho1 (fun k hk e => own_blk_ne ho1 hk1 (by decide) (by rw [hk, e]))
    rw [List.length_take, Nat.min_eq_left hhl]
    exact this
  · rw [List.length_take, Nat.min_eq_left hhl]
    exact cutAt_hi i
  · exact (h0.more (fun _ _ h => h.elim)).trans ht (fun k _ hk => .inl hk)
  · cases A <;> rfl
theorem part_lt {s : Nat → Int} {h : Int} {k : Nat} (hk : s k > h) : part s h (k + 1) k = -1 := by simp [part, cutAt, hk]
theorem part_ge {s : Nat → Int} {h : Int} {k : Nat} (hk : ¬ s k > h) : part s h (k + 1) k = s k := by simp [part, cutAt, hk]
theorem part_ne {s : Nat → Int} {h : Int} {k i : Nat} (hi : i ≠ k) : part s h (k + 1) i = part s h k i := by
  unfold part
  by_cases h1 : i < k
  · rw [if_pos h1, if_pos (by omega)]
  · rw [if_neg h1, if_neg (by omega)]
theorem part_step {s : Nat → Int} {h : Int} {k : Nat} (hk : ¬ s k > h) (i : Nat) : part s h (k + 1) i = part s h k i := by
  by_cases hi : i = k
  · rw [hi, part_ge hk]; simp [part]
  · exact part_ne hi
theorem part_0 {s : Nat → Int} {h : Int} {i : Nat} : part s h 0 i = s i := by simp [part]
theorem part_same {s : Nat → Int} {h : Int} {k : Nat} : part s h k k = s k := by simp [part]
set_option maxRecDepth 100000 in
set_option maxHeartbeats 8000000 in
theorem back_yes (base g : Nat) (v : Value) (l : List Int) (s : Nat → Int) (n h : Nat) (w : World) (hs : Stack w base g v l s) (hn : n < 4) (hh : s n = h) (hl : l.length ≤ 1048576) (hbase : base ≤ w.heap.size) :
    Calls Try.prog 10 #[.pointer (some ⟨g, 0, none⟩), .int .i64 n] w (GivesBack base g v l s h w) := by
  obtain ⟨A, c, hv, hlc, hcm, hAn, hA0⟩ := hs.form
  subst hv
  have hhl : h ≤ l.length := by have := hs.hi n; omega
  have hr : Reads w w.heap.size 1 A l.length (iv l) := Reads.of_own hs.own
  have hcut := hide (hr.cut (k := h) (cap := c) hhl hlc)
  have c0 := hs.blk.cell 0
  have c1 := cell_s hs.blk hn
  have ff := hs.blk.frozen
  have hlt := hs.blk.lt
  rw [hh] at c1
  simp at c0
  have HS := hide hs
  have hd : decide ((0 : Int) ≤ n ∧ (n : Int) < 4) = true := by simp; omega
  have HH := hide hh
  unfold maxLen at hcm
  clear hs hr hh
  by_cases hch : c = h
  · have hR0 : Reads w w.heap.size 1 A (l.length - h) (iv (l.drop h)) := by
      have := hcut.out
      rw [if_pos hch] at this
      simpa [iv, List.map_drop] using this
    subst c
    rw [show l.length - h = 0 by omega] at hR0
    have hR0 := hide hR0
    clear hcut
    go_enter Try.func10, Try.ntmps10
    go_wp2_with (go_at_call 18; refine (may_any _ _ _).mono ?_; rintro e w' ⟨rfl, rfl⟩)
    refine (newest_at _ _ 0 (l.drop h) _ (by simp; omega) (fun _ => rfl) hR0.out (by omega)).mono ?_
    rintro e w1 ⟨u, rfl, hu, hb⟩
    have HU := hide hu
    obtain ⟨Au, cu, rfl⟩ := own_form hu
    have HB := hide hb
    have k1 := HS.out.blk.below hb hlt
    have K1 := hide k1
    have d0 := k1.cell 0
    have d1 := k1.cell 1
    have d2 := k1.cell 2
    have d3 := k1.cell 3
    have d4 := k1.cell 4
    have gg := k1.frozen
    simp at d0 d1 d2 d3 d4
    rw [List.length_reverse, List.length_drop] at HU
    clear hu hb k1 c0 c1 ff
    go_wp2
    go_loopw [48] (fun i wr => ∃ k : Nat, k ≤ 4 ∧ i = .int .i64 k ∧ Blk wr g 46 #[.slice A h h, .int .i64 (part s h k 0), .int .i64 (part s h k 1), .int .i64 (part s h k 2), .int .i64 (part s h k 3)] ∧ Touch w1 wr (fun b => b = g)) (fun i _ => (4 - intOf i).toNat)
    case atStart =>
      refine ⟨0, by omega, rfl, ?_, Touch.setCell (F := fun b => b = g) (p := ⟨g, 0, none⟩) (Touch.refl _ _) (fun _ => rfl) _⟩
      have := K1.out.set_ 0 (.slice A h h)
      simpa [part_0] using this
    case round =>
      obtain ⟨k, hk, rfl, hblk, ht⟩ := hrel
      by_cases hk4 : k = 4
      · subst hk4
        have G := hide (gives_back HS.out hhl hbase HB.out (by simpa using HU.out) hblk ht)
        clear hblk ht
        go_wp2
        go_ret2
        have g2 := G.out
        rw [show l.length - h = 0 by omega] at g2
        exact g2
      · have e0 := hblk.cell 0
        have ff := hblk.frozen
        have HK := hide hblk
        have HT := hide ht
        have ex : w1.heap.size ≤ wr.heap.size := ht.size
        have h4 : k = 0 ∨ k = 1 ∨ k = 2 ∨ k = 3 := by omega
        have e1 := hblk.cell 1
        have e2 := hblk.cell 2
        have e3 := hblk.cell 3
        have e4 := hblk.cell 4
        simp at e0 e1 e2 e3 e4
        clear hblk ht
        rcases h4 with rfl | rfl | rfl | rfl
        · have ik : ∀ w, (Instr.index 28 (.agg #[.int .i64 (s 0), .int .i64 (s 1), .int .i64 (s 2), .int .i64 (s 3)]) (.int .i64 0)).run Try.prog w = .ok (.int .i64 (s 0)) w := fun _ => by kernel_rfl
          by_cases hgt : (h : Int) < s 0
          · have HN := hide (HK.out.set_ 1 (.int .i64 (-1)))
            go_wp2
            go_roundw
            case rel => exact ⟨1, by omega, by go_num, (by have := HN.out; simpa [part_lt hgt, part_ne] using this), HT.out.setCell (p := ⟨g, 1, none⟩) (fun _ => rfl) _⟩
            case measure => simp [intOf]
          · go_wp2
            go_roundw
            case rel => exact ⟨1, by omega, by go_num, (by have hp := part_step (s := s) (h := (h : Int)) (k := 0) (by omega); rw [show (0 + 1 : Nat) = 1 from rfl] at hp; rw [hp 0, hp 1, hp 2, hp 3]; exact HK.out), HT.out⟩
            case measure => simp [intOf]
        · have ik : ∀ w, (Instr.index 28 (.agg #[.int .i64 (s 0), .int .i64 (s 1), .int .i64 (s 2), .int .i64 (s 3)]) (.int .i64 1)).run Try.prog w = .ok (.int .i64 (s 1)) w := fun _ => by kernel_rfl
          by_cases hgt : (h : Int) < s 1
          · have HN := hide (HK.out.set_ 2 (.int .i64 (-1)))
            go_wp2
            go_roundw
            case rel => exact ⟨2, by omega, by go_num, (by have := HN.out; simpa [part_lt hgt, part_ne] using this), HT.out.setCell (p := ⟨g, 2, none⟩) (fun _ => rfl) _⟩
            case measure => simp [intOf]
          · go_wp2
            go_roundw
            case rel => exact ⟨2, by omega, by go_num, (by have hp := part_step (s := s) (h := (h : Int)) (k := 1) (by omega); rw [show (1 + 1 : Nat) = 2 from rfl] at hp; rw [hp 0, hp 1, hp 2, hp 3]; exact HK.out), HT.out⟩
            case measure => simp [intOf]
        · have ik : ∀ w, (Instr.index 28 (.agg #[.int .i64 (s 0), .int .i64 (s 1), .int .i64 (s 2), .int .i64 (s 3)]) (.int .i64 2)).run Try.prog w = .ok (.int .i64 (s 2)) w := fun _ => by kernel_rfl
          by_cases hgt : (h : Int) < s 2
          · have HN := hide (HK.out.set_ 3 (.int .i64 (-1)))
            go_wp2
            go_roundw
            case rel => exact ⟨3, by omega, by go_num, (by have := HN.out; simpa [part_lt hgt, part_ne] using this), HT.out.setCell (p := ⟨g, 3, none⟩) (fun _ => rfl) _⟩
            case measure => simp [intOf]
          · go_wp2
            go_roundw
            case rel => exact ⟨3, by omega, by go_num, (by have hp := part_step (s := s) (h := (h : Int)) (k := 2) (by omega); rw [show (2 + 1 : Nat) = 3 from rfl] at hp; rw [hp 0, hp 1, hp 2, hp 3]; exact HK.out), HT.out⟩
            case measure => simp [intOf]
        · have ik : ∀ w, (Instr.index 28 (.agg #[.int .i64 (s 0), .int .i64 (s 1), .int .i64 (s 2), .int .i64 (s 3)]) (.int .i64 3)).run Try.prog w = .ok (.int .i64 (s 3)) w := fun _ => by kernel_rfl
          by_cases hgt : (h : Int) < s 3
          · have HN := hide (HK.out.set_ 4 (.int .i64 (-1)))
            go_wp2
            go_roundw
            case rel => exact ⟨4, by omega, by go_num, (by have := HN.out; simpa [part_lt hgt, part_ne] using this), HT.out.setCell (p := ⟨g, 4, none⟩) (fun _ => rfl) _⟩
            case measure => simp [intOf]
          · go_wp2
            go_roundw
            case rel => exact ⟨4, by omega, by go_num, (by have hp := part_step (s := s) (h := (h : Int)) (k := 3) (by omega); rw [show (3 + 1 : Nat) = 4 from rfl] at hp; rw [hp 0, hp 1, hp 2, hp 3]; exact HK.out), HT.out⟩
            case measure => simp [intOf]
  · have hR0 : Reads w w.heap.size 1 (A.map (·.add h)) (l.length - h) (iv (l.drop h)) := by
      have := hcut.out
      rw [if_neg hch] at this
      simpa [iv, List.map_drop] using this
    have hR0 := hide hR0
    have hAn' : A.map (·.add h) = none → c - h = 0 := fun e => by
      have : A = none := by cases A with
        | none => rfl
        | some a => cases e
      have := hAn this
      omega
    clear hcut
    go_enter Try.func10, Try.ntmps10
    go_wp2_with (go_at_call 18; refine (may_any _ _ _).mono ?_; rintro e w' ⟨rfl, rfl⟩)
    refine (newest_at _ _ (l.length - h) (l.drop h) _ (by simp) hAn' hR0.out (by omega)).mono ?_
    rintro e w1 ⟨u, rfl, hu, hb⟩
    have HU := hide hu
    obtain ⟨Au, cu, rfl⟩ := own_form hu
    have HB := hide hb
    have k1 := HS.out.blk.below hb hlt
    have K1 := hide k1
    have d0 := k1.cell 0
    have d1 := k1.cell 1
    have d2 := k1.cell 2
    have d3 := k1.cell 3
    have d4 := k1.cell 4
    have gg := k1.frozen
    simp at d0 d1 d2 d3 d4
    rw [List.length_reverse, List.length_drop] at HU
    clear hu hb k1 c0 c1 ff
    go_wp2
    have HC := hide hch
    clear hch
    go_loopw [48] (fun i wr => ∃ k : Nat, k ≤ 4 ∧ i = .int .i64 k ∧ Blk wr g 46 #[.slice A h c, .int .i64 (part s h k 0), .int .i64 (part s h k 1), .int .i64 (part s h k 2), .int .i64 (part s h k 3)] ∧ Touch w1 wr (fun b => b = g)) (fun i _ => (4 - intOf i).toNat)
    case atStart =>
      refine ⟨0, by omega, rfl, ?_, Touch.setCell (F := fun b => b = g) (p := ⟨g, 0, none⟩) (Touch.refl _ _) (fun _ => rfl) _⟩
      have := K1.out.set_ 0 (.slice A h c)
      simpa [part_0] using this
    case round =>
      obtain ⟨k, hk, rfl, hblk, ht⟩ := hrel
      by_cases hk4 : k = 4
      · subst hk4
        have G := hide (gives_back HS.out hhl hbase HB.out (by simpa using HU.out) hblk ht)
        clear hblk ht
        go_wp2
        go_ret2
        exact G.out
      · have e0 := hblk.cell 0
        have ff := hblk.frozen
        have HK := hide hblk
        have HT := hide ht
        have ex : w1.heap.size ≤ wr.heap.size := ht.size
        have h4 : k = 0 ∨ k = 1 ∨ k = 2 ∨ k = 3 := by omega
        have e1 := hblk.cell 1
        have e2 := hblk.cell 2
        have e3 := hblk.cell 3
        have e4 := hblk.cell 4
        simp at e0 e1 e2 e3 e4
        clear hblk ht
        rcases h4 with rfl | rfl | rfl | rfl
        · have ik : ∀ w, (Instr.index 28 (.agg #[.int .i64 (s 0), .int .i64 (s 1), .int .i64 (s 2), .int .i64 (s 3)]) (.int .i64 0)).run Try.prog w = .ok (.int .i64 (s 0)) w := fun _ => by kernel_rfl
          by_cases hgt : (h : Int) < s 0
          · have HN := hide (HK.out.set_ 1 (.int .i64 (-1)))
            go_wp2
            go_roundw
            case rel => exact ⟨1, by omega, by go_num, (by have := HN.out; simpa [part_lt hgt, part_ne] using this), HT.out.setCell (p := ⟨g, 1, none⟩) (fun _ => rfl) _⟩
            case measure => simp [intOf]
          · go_wp2
            go_roundw
            case rel => exact ⟨1, by omega, by go_num, (by have hp := part_step (s := s) (h := (h : Int)) (k := 0) (by omega); rw [show (0 + 1 : Nat) = 1 from rfl] at hp; rw [hp 0, hp 1, hp 2, hp 3]; exact HK.out), HT.out⟩
            case measure => simp [intOf]
        · have ik : ∀ w, (Instr.index 28 (.agg #[.int .i64 (s 0), .int .i64 (s 1), .int .i64 (s 2), .int .i64 (s 3)]) (.int .i64 1)).run Try.prog w = .ok (.int .i64 (s 1)) w := fun _ => by kernel_rfl
          by_cases hgt : (h : Int) < s 1
          · have HN := hide (HK.out.set_ 2 (.int .i64 (-1)))
            go_wp2
            go_roundw
            case rel => exact ⟨2, by omega, by go_num, (by have := HN.out; simpa [part_lt hgt, part_ne] using this), HT.out.setCell (p := ⟨g, 2, none⟩) (fun _ => rfl) _⟩
            case measure => simp [intOf]
          · go_wp2
            go_roundw
            case rel => exact ⟨2, by omega, by go_num, (by have hp := part_step (s := s) (h := (h : Int)) (k := 1) (by omega); rw [show (1 + 1 : Nat) = 2 from rfl] at hp; rw [hp 0, hp 1, hp 2, hp 3]; exact HK.out), HT.out⟩
            case measure => simp [intOf]
        · have ik : ∀ w, (Instr.index 28 (.agg #[.int .i64 (s 0), .int .i64 (s 1), .int .i64 (s 2), .int .i64 (s 3)]) (.int .i64 2)).run Try.prog w = .ok (.int .i64 (s 2)) w := fun _ => by kernel_rfl
          by_cases hgt : (h : Int) < s 2
          · have HN := hide (HK.out.set_ 3 (.int .i64 (-1)))
            go_wp2
            go_roundw
            case rel => exact ⟨3, by omega, by go_num, (by have := HN.out; simpa [part_lt hgt, part_ne] using this), HT.out.setCell (p := ⟨g, 3, none⟩) (fun _ => rfl) _⟩
            case measure => simp [intOf]
          · go_wp2
            go_roundw
            case rel => exact ⟨3, by omega, by go_num, (by have hp := part_step (s := s) (h := (h : Int)) (k := 2) (by omega); rw [show (2 + 1 : Nat) = 3 from rfl] at hp; rw [hp 0, hp 1, hp 2, hp 3]; exact HK.out), HT.out⟩
            case measure => simp [intOf]
        · have ik : ∀ w, (Instr.index 28 (.agg #[.int .i64 (s 0), .int .i64 (s 1), .int .i64 (s 2), .int .i64 (s 3)]) (.int .i64 3)).run Try.prog w = .ok (.int .i64 (s 3)) w := fun _ => by kernel_rfl
          by_cases hgt : (h : Int) < s 3
          · have HN := hide (HK.out.set_ 4 (.int .i64 (-1)))
            go_wp2
            go_roundw
            case rel => exact ⟨4, by omega, by go_num, (by have := HN.out; simpa [part_lt hgt, part_ne] using this), HT.out.setCell (p := ⟨g, 4, none⟩) (fun _ => rfl) _⟩
            case measure => simp [intOf]
          · go_wp2
            go_roundw
            case rel => exact ⟨4, by omega, by go_num, (by have hp := part_step (s := s) (h := (h : Int)) (k := 3) (by omega); rw [show (3 + 1 : Nat) = 4 from rfl] at hp; rw [hp 0, hp 1, hp 2, hp 3]; exact HK.out), HT.out⟩
            case measure => simp [intOf]
end Go.Proofs.Ytkicocaejfhgiaa
