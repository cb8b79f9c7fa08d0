/- Tile: the document's disk: contract: New. (Printed by mk_tilef.py.) -/
import Derived.Test.YtpbenpkgbhmldaaTileE
import Derived.Test.YtpbenpkgbhmldaaTailM
namespace Go.Proofs.Ytpbenpkgbhmldaa
open Go.ChangeShapes Go.WideShapes Go.ChangeAt Go.RowKit Go.Maps
set_option linter.unusedVariables false

theorem Try.info9' : (Try.prog.info? 9).map (fun i => (i.zero, i.size, i.bytes)) = some (some (.string ByteArray.empty), 1, 16) := by kernel_rfl
theorem Try.info4' : (Try.prog.info? 4).map (fun i => (i.zero, i.size, i.bytes)) = some (some (.bool false), 1, 1) := by kernel_rfl
/-- a disk that is being made: what its struct says (the first rows), and the rows that it is to say -/
structure NSt (W q0 q : World) (b k : Nat) (A1 : Option Addr) (c1 : Nat) (A2 : Option Addr) (c2 : Nat) (A3 : Option Addr) (c3 : Nat) (v1 v2 v3 : Value) (n1 n2 n3 : Nat) (T V : List (List UInt8)) (L : List Bool) : Prop where
  bk : Blk q b 59 #[.slice A1 k c1, .slice A2 k c2, .slice A3 k c3, .bool false, .bool false, .int .i64 0, .slice none 0 0]
  o1 : q.ownsRow W.heap.size 9 1 v1 n1 (sv T)
  o2 : q.ownsRow W.heap.size 9 1 v2 n2 (sv V)
  o3 : q.ownsRow W.heap.size 4 1 v3 n3 (bb L)
  ne : ∀ j, v1.ownBlock = some j → v2.ownBlock ≠ some j
  x : Ext W q
  hq : q0.heap.size ≤ q.heap.size
  hb : W.heap.size ≤ b
section
variable {W q0 q q' : World} {b k c1 c2 c3 n1 n2 n3 n' : Nat} {A1 A2 A3 : Option Addr} {v1 v2 v3 v' : Value} {T V : List (List UInt8)} {L : List Bool}
theorem NSt.cells (h : NSt W q0 q b k A1 c1 A2 c2 A3 c3 v1 v2 v3 n1 n2 n3 T V L) : q.cell? ⟨b, 0, none⟩ = some (.slice A1 k c1) ∧ q.cell? ⟨b, 1, none⟩ = some (.slice A2 k c2) ∧ q.cell? ⟨b, 2, none⟩ = some (.slice A3 k c3) := by
  obtain ⟨y0, y1, y2, _⟩ := h.bk.cells7
  exact ⟨y0, y1, y2⟩
theorem NSt.ext (h : NSt W q0 q b k A1 c1 A2 c2 A3 c3 v1 v2 v3 n1 n2 n3 T V L) (he : Ext q q') : NSt W q0 q' b k A1 c1 A2 c2 A3 c3 v1 v2 v3 n1 n2 n3 T V L :=
  ⟨he.blk h.bk, he.own h.o1, he.own h.o2, he.own h.o3, h.ne, h.x.trans he, Nat.le_trans h.hq he.size, h.hb⟩
theorem NSt.drew (h : NSt W q0 q b k A1 c1 A2 c2 A3 c3 v1 v2 v3 n1 n2 n3 T V L) : NSt W q.drew q.drew b k A1 c1 A2 c2 A3 c3 v1 v2 v3 n1 n2 n3 T V L := by
  have := h.ext (Ext.drew (Ext.refl q))
  exact { this with hq := Nat.le_refl _ }
theorem grown_touch {w w' : World} {v : Value} (hg : w.grownBy w' v.ownBlock) : Touch w w' (fun k => v.ownBlock = some k) := (Touch.refl w _).grown hg (fun k e _ => e)
theorem NSt.app1 {x : List UInt8} (h : NSt W q0 q b k A1 c1 A2 c2 A3 c3 v1 v2 v3 n1 n2 n3 T V L) (hg : q.grownBy q' v1.ownBlock) (ho : q'.ownsRow W.heap.size 9 1 v' n' (sv T ++ [.string (str x)])) (hat : v'.ownBlock = v1.ownBlock ∨ v'.ownBlock = some q.heap.size) :
    NSt W q0 q' b k A1 c1 A2 c2 A3 c3 v' v2 v3 n' n2 n3 (T ++ [x]) V L := by
  have ht := grown_touch hg
  refine ⟨ht.blk h.bk (fun e => own_blk_ne h.o1 h.bk (by decide) e), by simpa [sv] using ho, ownsRow_touch ht h.o2 (fun j hj e => h.ne _ e hj), ownsRow_touch ht h.o3 (fun j hj e => own_ne_own h.o1 h.o3 (by decide) e hj), fun j hj hj2 => ?_, h.x.grown hg (fun j hj => (h.o1.lt j hj).1), Nat.le_trans h.hq ht.size, h.hb⟩
  rcases hat with e | e
  · exact h.ne j (by rw [← e]; exact hj) hj2
  · rw [e] at hj
    injection hj with hj
    have := (h.o2.lt j hj2).2
    omega
theorem NSt.app2 {x : List UInt8} (h : NSt W q0 q b k A1 c1 A2 c2 A3 c3 v1 v2 v3 n1 n2 n3 T V L) (hg : q.grownBy q' v2.ownBlock) (ho : q'.ownsRow W.heap.size 9 1 v' n' (sv V ++ [.string (str x)])) (hat : v'.ownBlock = v2.ownBlock ∨ v'.ownBlock = some q.heap.size) :
    NSt W q0 q' b k A1 c1 A2 c2 A3 c3 v1 v' v3 n1 n' n3 T (V ++ [x]) L := by
  have ht := grown_touch hg
  refine ⟨ht.blk h.bk (fun e => own_blk_ne h.o2 h.bk (by decide) e), ownsRow_touch ht h.o1 (fun j hj e => h.ne _ hj e), by simpa [sv] using ho, ownsRow_touch ht h.o3 (fun j hj e => own_ne_own h.o2 h.o3 (by decide) e hj), fun j hj hj2 => ?_, h.x.grown hg (fun j hj => (h.o2.lt j hj).1), Nat.le_trans h.hq ht.size, h.hb⟩
  rcases hat with e | e
  · exact h.ne j hj (by rw [← e]; exact hj2)
  · rw [e] at hj2
    injection hj2 with hj2
    have := (h.o1.lt j hj).2
    omega
theorem NSt.app3 {x : Bool} (h : NSt W q0 q b k A1 c1 A2 c2 A3 c3 v1 v2 v3 n1 n2 n3 T V L) (hg : q.grownBy q' v3.ownBlock) (ho : q'.ownsRow W.heap.size 4 1 v' n' (bb L ++ [.bool x])) (hat : v'.ownBlock = v3.ownBlock ∨ v'.ownBlock = some q.heap.size) :
    NSt W q0 q' b k A1 c1 A2 c2 A3 c3 v1 v2 v' n1 n2 n' T V (L ++ [x]) := by
  have ht := grown_touch hg
  exact ⟨ht.blk h.bk (fun e => own_blk_ne h.o3 h.bk (by decide) e), ownsRow_touch ht h.o1 (fun j hj e => own_ne_own h.o1 h.o3 (by decide) hj e), ownsRow_touch ht h.o2 (fun j hj e => own_ne_own h.o2 h.o3 (by decide) hj e), by simpa [bb] using ho, h.ne, h.x.grown hg (fun j hj => (h.o3.lt j hj).1), Nat.le_trans h.hq ht.size, h.hb⟩
/-- the struct says the new rows -/
theorem NSt.done {B1 B2 B3 : Option Addr} {d1 d2 d3 m : Nat} (h : NSt W q0 q b k A1 c1 A2 c2 A3 c3 (.slice B1 m d1) (.slice B2 m d2) (.slice B3 m d3) n1 n2 n3 T V L) :
    NSt W (((q.setCell ⟨b, 0, none⟩ (.slice B1 m d1)).setCell ⟨b, 1, none⟩ (.slice B2 m d2)).setCell ⟨b, 2, none⟩ (.slice B3 m d3)) (((q.setCell ⟨b, 0, none⟩ (.slice B1 m d1)).setCell ⟨b, 1, none⟩ (.slice B2 m d2)).setCell ⟨b, 2, none⟩ (.slice B3 m d3)) b m B1 d1 B2 d2 B3 d3 (.slice B1 m d1) (.slice B2 m d2) (.slice B3 m d3) n1 n2 n3 T V L := by
  have ht := touch_set3 q b (.slice B1 m d1) (.slice B2 m d2) (.slice B3 m d3)
  exact ⟨by have := ((h.bk.set_ 0 (.slice B1 m d1)).set_ 1 (.slice B2 m d2)).set_ 2 (.slice B3 m d3); simpa using this, ownsRow_touch ht h.o1 (fun j hj e => by subst e; exact own_blk_ne h.o1 h.bk (by decide) hj), ownsRow_touch ht h.o2 (fun j hj e => by subst e; exact own_blk_ne h.o2 h.bk (by decide) hj), ownsRow_touch ht h.o3 (fun j hj e => by subst e; exact own_blk_ne h.o3 h.bk (by decide) hj), h.ne, Touch.ext h.x ht h.hb, Nat.le_refl _, h.hb⟩
end
set_option maxRecDepth 100000 in
set_option maxHeartbeats 16000000 in
theorem rnew_any (W : World) (k0 : Nat) (hk : k0 ≤ 2000) : Calls Try.prog 23 #[.int .i64 k0] W fun e w' => ∃ b, e = .returned (.pointer (some ⟨b, 0, none⟩)) ∧ Rf W.heap.size w' b false (blanks k0) (fun _ => none) none ∧ Ext W w' := by
  obtain ⟨i9, hi9, hz9, hs9, hb9⟩ := info_parts Try.info9'
  obtain ⟨i4, hi4, hz4, hs4, hb4⟩ := info_parts Try.info4'
  have hmk := made
  obtain ⟨b, hb⟩ : ∃ b, b = W.heap.size := ⟨_, rfl⟩
  have hcv : (convert 22 9 (.slice (some ⟨W.heap.size + 1, 0, none⟩) 64 64)).run Try.prog ((W.alloc (.cells #[.slice none 0 0, .slice none 0 0, .slice none 0 0, .bool false, .bool false, .int .i64 0, .slice none 0 0] 59)).alloc (.cells (arr 0 64) 5)) = .ok (.string (str (rep 0))) ((W.alloc (.cells #[.slice none 0 0, .slice none 0 0, .slice none 0 0, .bool false, .bool false, .int .i64 0, .slice none 0 0] 59)).alloc (.cells (arr 0 64) 5)) := by
    have h1 := blk2 W (.cells #[.slice none 0 0, .slice none 0 0, .slice none 0 0, .bool false, .bool false, .int .i64 0, .slice none 0 0] 59) 5 (arr 0 64)
    exact conv_full (c := 0) h1 (by decide)
  have ST0 := hide (show ∀ q, q = ((W.alloc (.cells #[.slice none 0 0, .slice none 0 0, .slice none 0 0, .bool false, .bool false, .int .i64 0, .slice none 0 0] 59)).alloc (.cells (arr 0 64) 5)) → NSt W q q b 0 none 0 none 0 none 0 (.slice none 0 0) (.slice none 0 0) (.slice none 0 0) 0 0 0 (blanks 0) (blanks 0) (List.replicate 0 false) from fun q hq => by
    subst hq hb
    exact ⟨(Blk.new W 59 _).alloc _, World.ownsRow_nil _ _ _ _, World.ownsRow_nil _ _ _ _, World.ownsRow_nil _ _ _ _, (fun j hj => by simp [Value.ownBlock] at hj), (Ext.new W _).alloc _, Nat.le_refl _, Nat.le_refl _⟩)
  have HB := hide hb
  clear hb
  go_enter Try.func23, Try.ntmps23
  go_wp2_with (fail)
  obtain ⟨q, hq⟩ : ∃ q, q = ((W.alloc (.cells #[.slice none 0 0, .slice none 0 0, .slice none 0 0, .bool false, .bool false, .int .i64 0, .slice none 0 0] 59)).alloc (.cells (arr 0 64) 5)) := ⟨_, rfl⟩
  have ST := hide (ST0.out q hq)
  rw [← hq, ← HB.out]
  clear hq hcv ST0 hmk
  go_loopw [5] (fun s5 wr => (∃ k : Nat, k ≤ k0 ∧ s5 = .int .i64 k ∧ Hid (∃ A1 c1 A2 c2 A3 c3, NSt W wr wr b k A1 c1 A2 c2 A3 c3 (.slice A1 k c1) (.slice A2 k c2) (.slice A3 k c3) k k k (blanks k) (blanks k) (List.replicate k false)))) (fun s5 _ => (k0 - intOf s5).toNat)
  case atStart => exact ⟨0, by omega, rfl, _, _, _, _, _, _, ST.out⟩
  case round =>
    obtain ⟨k, hk, rfl, hs⟩ := hrel
    clear ST
    obtain ⟨A1, c1, A2, c2, A3, c3, hst⟩ := hs.out
    have ST := hide hst
    clear hs hst
    by_cases hlt : k < k0
    · have hki : (k : Int) < (k0 : Int) := by omega
      have hk2 : (k : Int) < 2000 := by omega
      have dk : decide (k < k0) = true := decide_eq_true hlt
      have dk2 : decide ((k : Int) < 2000) = true := decide_eq_true hk2
      have e1 : blanks k ++ [rep 0] = blanks (k + 1) := blanks_snoc k
      go_wp2_with (fail)
      have HE1 := hide e1
      clear e1
      refine wp_region_G (S := (fun w' => w'.cell? ⟨b, 0, none⟩ = some (.slice A1 k c1) ∧ w'.cell? ⟨b, 1, none⟩ = some (.slice A2 k c2) ∧ w'.cell? ⟨b, 2, none⟩ = some (.slice A3 k c3))) 25 (by kernel_rfl) (by kernel_rfl) ST.out.cells (fun hHeld => ?_)
      obtain ⟨q0, hq0⟩ : ∃ x, x = wr.drew := ⟨_, rfl⟩
      have LO1 := hide (show ∀ j, (Value.slice A1 k c1).ownBlock = some j → j < q0.heap.size from fun j e => by rw [hq0]; exact (ST.out.o1.lt j e).2)
      have LO2 := hide (show ∀ j, (Value.slice A2 k c2).ownBlock = some j → j < q0.heap.size from fun j e => by rw [hq0]; exact (ST.out.o2.lt j e).2)
      have LO3 := hide (show ∀ j, (Value.slice A3 k c3).ownBlock = some j → j < q0.heap.size from fun j e => by rw [hq0]; exact (ST.out.o3.lt j e).2)
      have ST := hide (show NSt W q0 q0 b k A1 c1 A2 c2 A3 c3 (.slice A1 k c1) (.slice A2 k c2) (.slice A3 k c3) k k k (blanks k) (blanks k) (List.replicate k false) from by rw [hq0]; exact ST.out.drew)
      rw [← hq0]
      clear hq0 hHeld
      have hHeld := ST.out.cells
      refine GoG.take 0 30 (some 19) (v := ?_) rfl rfl (by kernel_rfl) (by kernel_rfl) (by kernel_rfl) (fun _ _ _ h => h) (Or.inl ⟨by rfl, ?_⟩) (by assumption) ?_
      rotate_left
      · intro w' hSw
        try dsimp only at hSw
        go_simp
        try with_reducible rfl
      try simp only [Act.put, List.setIfInBounds_toArray, List.set_cons_zero, List.set_cons_succ]
      refine GoG.pure 1 (some 20) (v := ?_) rfl rfl (by kernel_rfl) (by kernel_rfl) (by kernel_rfl) (fun _ _ _ h => h) (Or.inl ⟨by rfl, ?_⟩) (by assumption) ?_
      rotate_left
      · intro w' hSw
        try dsimp only at hSw
        go_simp
        try with_reducible rfl
      try simp only [Act.put, List.setIfInBounds_toArray, List.set_cons_zero, List.set_cons_succ]
      refine GoG.pure 2 (some 21) (v := ?_) rfl rfl (by kernel_rfl) (by kernel_rfl) (by kernel_rfl) (fun _ _ _ h => h) (Or.inl ⟨by rfl, ?_⟩) (by assumption) ?_
      rotate_left
      · intro w' hSw
        try dsimp only at hSw
        go_simp
        try with_reducible rfl
      try simp only [Act.put, List.setIfInBounds_toArray, List.set_cons_zero, List.set_cons_succ]
      refine GoG.take 3 30 (some 22) (v := ?_) rfl rfl (by kernel_rfl) (by kernel_rfl) (by kernel_rfl) (fun _ _ _ h => h) (Or.inl ⟨by rfl, ?_⟩) (by assumption) ?_
      rotate_left
      · intro w' hSw
        try dsimp only at hSw
        go_simp
        try with_reducible rfl
      try simp only [Act.put, List.setIfInBounds_toArray, List.set_cons_zero, List.set_cons_succ]
      refine GoG.take 4 30 (some 23) (v := ?_) rfl rfl (by kernel_rfl) (by kernel_rfl) (by kernel_rfl) (fun _ _ _ h => h) (Or.inl ⟨by rfl, ?_⟩) (by assumption) ?_
      rotate_left
      · intro w' hSw
        try dsimp only at hSw
        go_simp
        try with_reducible rfl
      try simp only [Act.put, List.setIfInBounds_toArray, List.set_cons_zero, List.set_cons_succ]
      refine GoG.take 5 30 (some 24) (v := ?_) rfl rfl (by kernel_rfl) (by kernel_rfl) (by kernel_rfl) (fun _ _ _ h => h) (Or.inl ⟨by rfl, ?_⟩) (by assumption) ?_
      rotate_left
      · intro w' hSw
        try dsimp only at hSw
        go_simp
        try with_reducible rfl
      try simp only [Act.put, List.setIfInBounds_toArray, List.set_cons_zero, List.set_cons_succ]
      refine GoG.take 6 30 (some 25) (v := ?_) rfl rfl (by kernel_rfl) (by kernel_rfl) (by kernel_rfl) (fun _ _ _ h => h) (Or.inl ⟨by rfl, ?_⟩) (by assumption) ?_
      rotate_left
      · intro w' hSw
        try dsimp only at hSw
        go_simp
        try with_reducible rfl
      try simp only [Act.put, List.setIfInBounds_toArray, List.set_cons_zero, List.set_cons_succ]
      refine GoG.take 7 30 (some 26) (v := ?_) rfl rfl (by kernel_rfl) (by kernel_rfl) (by kernel_rfl) (fun _ _ _ h => h) (Or.inl ⟨by rfl, ?_⟩) (by assumption) ?_
      rotate_left
      · intro w' hSw
        try dsimp only at hSw
        go_simp
        try with_reducible rfl
      try simp only [Act.put, List.setIfInBounds_toArray, List.set_cons_zero, List.set_cons_succ]
      refine GoG.take 10 30 (some 29) (v := ?_) rfl rfl (by kernel_rfl) (by kernel_rfl) (by kernel_rfl) (fun _ _ _ h => h) (Or.inl ⟨by rfl, ?_⟩) (by assumption) ?_
      rotate_left
      · intro w' hSw
        try dsimp only at hSw
        go_simp
        try with_reducible rfl
      try simp only [Act.put, List.setIfInBounds_toArray, List.set_cons_zero, List.set_cons_succ]
      refine GoG.take 11 30 (some 30) (v := ?_) rfl rfl (by kernel_rfl) (by kernel_rfl) (by kernel_rfl) (fun _ _ _ h => h) (Or.inl ⟨by rfl, ?_⟩) (by assumption) ?_
      rotate_left
      · intro w' hSw
        try dsimp only at hSw
        go_simp
        try with_reducible rfl
      try simp only [Act.put, List.setIfInBounds_toArray, List.set_cons_zero, List.set_cons_succ]
      refine GoG.take 12 30 (some 31) (v := ?_) rfl rfl (by kernel_rfl) (by kernel_rfl) (by kernel_rfl) (fun _ _ _ h => h) (Or.inl ⟨by rfl, ?_⟩) (by assumption) ?_
      rotate_left
      · intro w' hSw
        try dsimp only at hSw
        go_simp
        try with_reducible rfl
      try simp only [Act.put, List.setIfInBounds_toArray, List.set_cons_zero, List.set_cons_succ]
      refine GoG.take 13 30 (some 32) (v := ?_) rfl rfl (by kernel_rfl) (by kernel_rfl) (by kernel_rfl) (fun _ _ _ h => h) (Or.inl ⟨by rfl, ?_⟩) (by assumption) ?_
      rotate_left
      · intro w' hSw
        try dsimp only at hSw
        go_simp
        try with_reducible rfl
      try simp only [Act.put, List.setIfInBounds_toArray, List.set_cons_zero, List.set_cons_succ]
      refine GoG.take 14 30 (some 33) (v := ?_) rfl rfl (by kernel_rfl) (by kernel_rfl) (by kernel_rfl) (fun _ _ _ h => h) (Or.inl ⟨by rfl, ?_⟩) (by assumption) ?_
      rotate_left
      · intro w' hSw
        try dsimp only at hSw
        go_simp
        try with_reducible rfl
      try simp only [Act.put, List.setIfInBounds_toArray, List.set_cons_zero, List.set_cons_succ]
      refine GoG.take 17 30 (some 36) (v := ?_) rfl rfl (by kernel_rfl) (by kernel_rfl) (by kernel_rfl) (fun _ _ _ h => h) (Or.inl ⟨by rfl, ?_⟩) (by assumption) ?_
      rotate_left
      · intro w' hSw
        try dsimp only at hSw
        go_simp
        try with_reducible rfl
      try simp only [Act.put, List.setIfInBounds_toArray, List.set_cons_zero, List.set_cons_succ]
      refine GoG.take 18 30 (some 37) (v := ?_) rfl rfl (by kernel_rfl) (by kernel_rfl) (by kernel_rfl) (fun _ _ _ h => h) (Or.inl ⟨by rfl, ?_⟩) (by assumption) ?_
      rotate_left
      · intro w' hSw
        try dsimp only at hSw
        go_simp
        try with_reducible rfl
      try simp only [Act.put, List.setIfInBounds_toArray, List.set_cons_zero, List.set_cons_succ]
      refine GoG.take 19 30 (some 38) (v := ?_) rfl rfl (by kernel_rfl) (by kernel_rfl) (by kernel_rfl) (fun _ _ _ h => h) (Or.inl ⟨by rfl, ?_⟩) (by assumption) ?_
      rotate_left
      · intro w' hSw
        try dsimp only at hSw
        go_simp
        try with_reducible rfl
      try simp only [Act.put, List.setIfInBounds_toArray, List.set_cons_zero, List.set_cons_succ]
      refine GoG.take 20 30 (some 39) (v := ?_) rfl rfl (by kernel_rfl) (by kernel_rfl) (by kernel_rfl) (fun _ _ _ h => h) (Or.inl ⟨by rfl, ?_⟩) (by assumption) ?_
      rotate_left
      · intro w' hSw
        try dsimp only at hSw
        go_simp
        try with_reducible rfl
      try simp only [Act.put, List.setIfInBounds_toArray, List.set_cons_zero, List.set_cons_succ]
      refine GoG.each (rs := [8, 15, 21]) (by kernel_rfl) (by kernel_rfl) ?_
      refine EachG.cons (i := 8) rfl (fun K hK => ?_) ?_
      · go_simp
        obtain ⟨q1, hq1⟩ : ∃ x, x = q0.alloc (.cells #[.string (str (rep 0))] 9) := ⟨_, rfl⟩
        obtain ⟨vb1, hv1⟩ : ∃ x, x = q0.heap.size := ⟨_, rfl⟩
        have XN := hide (show Ext q0 q1 by rw [hq1]; exact Ext.new _ _)
        have V1 := hide (show Blk q1 vb1 9 #[.string (str (rep 0))] by rw [hq1, hv1]; exact Blk.new _ _ _)
        have VN1 := hide (show q0.heap.size ≤ vb1 by rw [hv1]; exact ST.out.hq)
        have ST := hide (ST.out.ext XN.out)
        rw [← hq1, ← hv1]
        clear hq1 hv1 XN
        refine hK.out _ _ ST.out.cells (fun hHeld => ?_)
        clear hK K
        try simp only [Act.put, List.setIfInBounds_toArray, List.set_cons_zero, List.set_cons_succ]
        refine GoG.each (rs := [9, 15, 21]) (by kernel_rfl) (by kernel_rfl) ?_
        refine EachG.cons (i := 9) rfl (fun K hK => ?_) ?_
        · refine step_append_any q1 rfl (.tmp 25) (.tmp 27) 56 rfl W.heap.size 9 i9 _ 1 16 Try.underlying56 hi9 hz9 hs9 hb9 rfl (by omega) (.slice A1 k c1) k (sv (blanks k)) (by rfl) ST.out.o1 _ _ 1 1 [.string (str (rep 0))] (by rfl) (reads_blk (m := 1) V1.out rfl) (by simp [Value.oneCell']) (by unfold maxLen; omega) (by omega) ST.out.x.size ?_
          intro v1 q2 ho1 hg1 hat1
          obtain ⟨B1, d1, hv1, _⟩ := own_form ho1
          subst hv1
          have ST := hide (ST.out.app1 hg1 ho1 hat1)
          refine hK.out _ _ ST.out.cells (fun hHeld => ?_)
          clear hK K ho1 hg1 hat1
          change GoG _ _ _ _ _ _ _ _ (Act.put _ (some 28) _) _
          simp only [Act.put, List.setIfInBounds_toArray, List.set_cons_zero, List.set_cons_succ]
          refine GoG.each (rs := [15, 21]) (by kernel_rfl) (by kernel_rfl) ?_
          refine EachG.cons (i := 15) rfl (fun K hK => ?_) ?_
          · go_simp
            obtain ⟨q3, hq1⟩ : ∃ x, x = q2.alloc (.cells #[.string (str (rep 0))] 9) := ⟨_, rfl⟩
            obtain ⟨vb2, hv2⟩ : ∃ x, x = q2.heap.size := ⟨_, rfl⟩
            have XN := hide (show Ext q2 q3 by rw [hq1]; exact Ext.new _ _)
            have V2 := hide (show Blk q3 vb2 9 #[.string (str (rep 0))] by rw [hq1, hv2]; exact Blk.new _ _ _)
            have VN2 := hide (show q0.heap.size ≤ vb2 by rw [hv2]; exact ST.out.hq)
            have ST := hide (ST.out.ext XN.out)
            rw [← hq1, ← hv2]
            clear hq1 hv2 XN
            refine hK.out _ _ ST.out.cells (fun hHeld => ?_)
            clear hK K
            try simp only [Act.put, List.setIfInBounds_toArray, List.set_cons_zero, List.set_cons_succ]
            refine GoG.each (rs := [16, 21]) (by kernel_rfl) (by kernel_rfl) ?_
            refine EachG.cons (i := 16) rfl (fun K hK => ?_) ?_
            · refine step_append_any q3 rfl (.tmp 32) (.tmp 34) 56 rfl W.heap.size 9 i9 _ 1 16 Try.underlying56 hi9 hz9 hs9 hb9 rfl (by omega) (.slice A2 k c2) k (sv (blanks k)) (by rfl) ST.out.o2 _ _ 1 1 [.string (str (rep 0))] (by rfl) (reads_blk (m := 1) V2.out rfl) (by simp [Value.oneCell']) (by unfold maxLen; omega) (by omega) ST.out.x.size ?_
              intro v1 q4 ho1 hg1 hat1
              obtain ⟨B2, d2, hv1, _⟩ := own_form ho1
              subst hv1
              have ST := hide (ST.out.app2 hg1 ho1 hat1)
              refine hK.out _ _ ST.out.cells (fun hHeld => ?_)
              clear hK K ho1 hg1 hat1
              change GoG _ _ _ _ _ _ _ _ (Act.put _ (some 35) _) _
              simp only [Act.put, List.setIfInBounds_toArray, List.set_cons_zero, List.set_cons_succ]
              refine GoG.each (rs := [21]) (by kernel_rfl) (by kernel_rfl) ?_
              refine EachG.cons (i := 21) rfl (fun K hK => ?_) EachG.nil
              go_simp
              obtain ⟨q5, hq1⟩ : ∃ x, x = q4.alloc (.cells #[.bool false] 4) := ⟨_, rfl⟩
              obtain ⟨vb3, hv3⟩ : ∃ x, x = q4.heap.size := ⟨_, rfl⟩
              have XN := hide (show Ext q4 q5 by rw [hq1]; exact Ext.new _ _)
              have V3 := hide (show Blk q5 vb3 4 #[.bool false] by rw [hq1, hv3]; exact Blk.new _ _ _)
              have VN3 := hide (show q0.heap.size ≤ vb3 by rw [hv3]; exact ST.out.hq)
              have ST := hide (ST.out.ext XN.out)
              rw [← hq1, ← hv3]
              clear hq1 hv3 XN
              refine hK.out _ _ ST.out.cells (fun hHeld => ?_)
              clear hK K
              try simp only [Act.put, List.setIfInBounds_toArray, List.set_cons_zero, List.set_cons_succ]
              refine GoG.each (rs := [22]) (by kernel_rfl) (by kernel_rfl) ?_
              refine EachG.cons (i := 22) rfl (fun K hK => ?_) EachG.nil
              refine step_append_any q5 rfl (.tmp 39) (.tmp 40) 57 rfl W.heap.size 4 i4 _ 1 1 Try.underlying57 hi4 hz4 hs4 hb4 rfl (by omega) (.slice A3 k c3) k (bb (List.replicate k false)) (by rfl) ST.out.o3 _ _ 1 1 [.bool false] (by rfl) (reads_blk (m := 1) V3.out rfl) (by simp [Value.oneCell']) (by unfold maxLen; omega) (by omega) ST.out.x.size ?_
              intro v1 q6 ho1 hg1 hat1
              obtain ⟨B3, d3, hv1, _⟩ := own_form ho1
              subst hv1
              have ST := hide (ST.out.app3 hg1 ho1 hat1)
              refine hK.out _ _ ST.out.cells (fun hHeld => ?_)
              clear hK K ho1 hg1 hat1
              change GoG _ _ _ _ _ _ _ _ (Act.put _ (some 41) _) _
              simp only [Act.put, List.setIfInBounds_toArray, List.set_cons_zero, List.set_cons_succ]
              refine GoG.take 23 30 (some 42) (v := ?_) rfl rfl (by kernel_rfl) (by kernel_rfl) (by kernel_rfl) (fun _ _ _ h => h) (Or.inl ⟨by rfl, ?_⟩) (by assumption) ?_
              rotate_left
              · intro w' hSw
                try dsimp only at hSw
                go_simp
                try with_reducible rfl
              try simp only [Act.put, List.setIfInBounds_toArray, List.set_cons_zero, List.set_cons_succ]
              refine GoG.take 24 30 (some 43) (v := ?_) rfl rfl (by kernel_rfl) (by kernel_rfl) (by kernel_rfl) (fun _ _ _ h => h) (Or.inl ⟨by rfl, ?_⟩) (by assumption) ?_
              rotate_left
              · intro w' hSw
                try dsimp only at hSw
                go_simp
                try with_reducible rfl
              try simp only [Act.put, List.setIfInBounds_toArray, List.set_cons_zero, List.set_cons_succ]
              refine GoG.store (by kernel_rfl) rfl (fun K hK => ?_)
              obtain ⟨z0, z1, z2⟩ := ST.out.cells
              have f0 := ST.out.bk.frozen 0
              have f1 := ST.out.bk.frozen 1
              have f2 := ST.out.bk.frozen 2
              go_simp
              refine hK.out _ _ ?_
              clear hK K
              try simp only [Act.put, List.setIfInBounds_toArray, List.set_cons_zero, List.set_cons_succ]
              refine GoG.pure2 26 (some 44) (v := ?_) (by kernel_rfl) rfl rfl (by kernel_rfl) (by kernel_rfl) (by kernel_rfl) (fun _ _ _ h => h) (Or.inl ⟨by rfl, ?_⟩) ?_
              rotate_left
              · intro w' hSw
                try dsimp only at hSw
                go_simp
                try with_reducible rfl
              try simp only [Act.put, List.setIfInBounds_toArray, List.set_cons_zero, List.set_cons_succ]
              refine GoG.pure2 27 (some 45) (v := ?_) (by kernel_rfl) rfl rfl (by kernel_rfl) (by kernel_rfl) (by kernel_rfl) (fun _ _ _ h => h) (Or.inl ⟨by rfl, ?_⟩) ?_
              rotate_left
              · intro w' hSw
                try dsimp only at hSw
                go_simp
                try with_reducible rfl
              try simp only [Act.put, List.setIfInBounds_toArray, List.set_cons_zero, List.set_cons_succ]
              refine GoG.store2 28 (by kernel_rfl) (by kernel_rfl) rfl (fun K hK => ?_)
              go_simp
              refine hK.out _ _ ?_
              clear hK K
              try simp only [Act.put, List.setIfInBounds_toArray, List.set_cons_zero, List.set_cons_succ]
              refine GoG.pure2 29 (some 46) (v := ?_) (by kernel_rfl) rfl rfl (by kernel_rfl) (by kernel_rfl) (by kernel_rfl) (fun _ _ _ h => h) (Or.inl ⟨by rfl, ?_⟩) ?_
              rotate_left
              · intro w' hSw
                try dsimp only at hSw
                go_simp
                try with_reducible rfl
              try simp only [Act.put, List.setIfInBounds_toArray, List.set_cons_zero, List.set_cons_succ]
              refine GoG.pure2 30 (some 47) (v := ?_) (by kernel_rfl) rfl rfl (by kernel_rfl) (by kernel_rfl) (by kernel_rfl) (fun _ _ _ h => h) (Or.inl ⟨by rfl, ?_⟩) ?_
              rotate_left
              · intro w' hSw
                try dsimp only at hSw
                go_simp
                try with_reducible rfl
              try simp only [Act.put, List.setIfInBounds_toArray, List.set_cons_zero, List.set_cons_succ]
              refine GoG.last2 31 (by kernel_rfl) (by kernel_rfl) (by kernel_rfl) rfl (fun K hK => ?_)
              go_simp
              refine hK.out _ _ ?_
              clear hK K z0 z1 z2 f0 f1 f2
              have SD := hide ST.out.done
              clear ST
              go_wp2_with (fail)
              go_roundw
              case rel => exact ⟨k + 1, by omega, by go_num, _, _, _, _, _, _, by
                have h := SD.out
                rw [HE1.out, ← List.replicate_succ'] at h
                exact h⟩
              case measure => simp [intOf]; omega
            refine EachG.cons (i := 21) rfl (fun K hK => ?_) ?_
            · go_simp
              obtain ⟨q4, hq1⟩ : ∃ x, x = q3.alloc (.cells #[.bool false] 4) := ⟨_, rfl⟩
              obtain ⟨vb3, hv3⟩ : ∃ x, x = q3.heap.size := ⟨_, rfl⟩
              have XN := hide (show Ext q3 q4 by rw [hq1]; exact Ext.new _ _)
              have V2 := hide (Ext.blk XN.out V2.out)
              have V3 := hide (show Blk q4 vb3 4 #[.bool false] by rw [hq1, hv3]; exact Blk.new _ _ _)
              have VN3 := hide (show q0.heap.size ≤ vb3 by rw [hv3]; exact ST.out.hq)
              have ST := hide (ST.out.ext XN.out)
              rw [← hq1, ← hv3]
              clear hq1 hv3 XN
              refine hK.out _ _ ST.out.cells (fun hHeld => ?_)
              clear hK K
              try simp only [Act.put, List.setIfInBounds_toArray, List.set_cons_zero, List.set_cons_succ]
              refine GoG.each (rs := [16]) (by kernel_rfl) (by kernel_rfl) ?_
              refine EachG.cons (i := 16) rfl (fun K hK => ?_) EachG.nil
              refine step_append_any q4 rfl (.tmp 32) (.tmp 34) 56 rfl W.heap.size 9 i9 _ 1 16 Try.underlying56 hi9 hz9 hs9 hb9 rfl (by omega) (.slice A2 k c2) k (sv (blanks k)) (by rfl) ST.out.o2 _ _ 1 1 [.string (str (rep 0))] (by rfl) (reads_blk (m := 1) V2.out rfl) (by simp [Value.oneCell']) (by unfold maxLen; omega) (by omega) ST.out.x.size ?_
              intro v1 q5 ho1 hg1 hat1
              obtain ⟨B2, d2, hv1, _⟩ := own_form ho1
              subst hv1
              have V3 := hide (V3.out.grown hg1 (fun e => absurd (LO2.out _ e.symm) (Nat.not_lt.2 VN3.out)))
              have ST := hide (ST.out.app2 hg1 ho1 hat1)
              refine hK.out _ _ ST.out.cells (fun hHeld => ?_)
              clear hK K ho1 hg1 hat1
              change GoG _ _ _ _ _ _ _ _ (Act.put _ (some 35) _) _
              simp only [Act.put, List.setIfInBounds_toArray, List.set_cons_zero, List.set_cons_succ]
              refine GoG.each (rs := [22]) (by kernel_rfl) (by kernel_rfl) ?_
              refine EachG.cons (i := 22) rfl (fun K hK => ?_) EachG.nil
              refine step_append_any q5 rfl (.tmp 39) (.tmp 40) 57 rfl W.heap.size 4 i4 _ 1 1 Try.underlying57 hi4 hz4 hs4 hb4 rfl (by omega) (.slice A3 k c3) k (bb (List.replicate k false)) (by rfl) ST.out.o3 _ _ 1 1 [.bool false] (by rfl) (reads_blk (m := 1) V3.out rfl) (by simp [Value.oneCell']) (by unfold maxLen; omega) (by omega) ST.out.x.size ?_
              intro v1 q6 ho1 hg1 hat1
              obtain ⟨B3, d3, hv1, _⟩ := own_form ho1
              subst hv1
              have ST := hide (ST.out.app3 hg1 ho1 hat1)
              refine hK.out _ _ ST.out.cells (fun hHeld => ?_)
              clear hK K ho1 hg1 hat1
              change GoG _ _ _ _ _ _ _ _ (Act.put _ (some 41) _) _
              simp only [Act.put, List.setIfInBounds_toArray, List.set_cons_zero, List.set_cons_succ]
              refine GoG.take 23 30 (some 42) (v := ?_) rfl rfl (by kernel_rfl) (by kernel_rfl) (by kernel_rfl) (fun _ _ _ h => h) (Or.inl ⟨by rfl, ?_⟩) (by assumption) ?_
              rotate_left
              · intro w' hSw
                try dsimp only at hSw
                go_simp
                try with_reducible rfl
              try simp only [Act.put, List.setIfInBounds_toArray, List.set_cons_zero, List.set_cons_succ]
              refine GoG.take 24 30 (some 43) (v := ?_) rfl rfl (by kernel_rfl) (by kernel_rfl) (by kernel_rfl) (fun _ _ _ h => h) (Or.inl ⟨by rfl, ?_⟩) (by assumption) ?_
              rotate_left
              · intro w' hSw
                try dsimp only at hSw
                go_simp
                try with_reducible rfl
              try simp only [Act.put, List.setIfInBounds_toArray, List.set_cons_zero, List.set_cons_succ]
              refine GoG.store (by kernel_rfl) rfl (fun K hK => ?_)
              obtain ⟨z0, z1, z2⟩ := ST.out.cells
              have f0 := ST.out.bk.frozen 0
              have f1 := ST.out.bk.frozen 1
              have f2 := ST.out.bk.frozen 2
              go_simp
              refine hK.out _ _ ?_
              clear hK K
              try simp only [Act.put, List.setIfInBounds_toArray, List.set_cons_zero, List.set_cons_succ]
              refine GoG.pure2 26 (some 44) (v := ?_) (by kernel_rfl) rfl rfl (by kernel_rfl) (by kernel_rfl) (by kernel_rfl) (fun _ _ _ h => h) (Or.inl ⟨by rfl, ?_⟩) ?_
              rotate_left
              · intro w' hSw
                try dsimp only at hSw
                go_simp
                try with_reducible rfl
              try simp only [Act.put, List.setIfInBounds_toArray, List.set_cons_zero, List.set_cons_succ]
              refine GoG.pure2 27 (some 45) (v := ?_) (by kernel_rfl) rfl rfl (by kernel_rfl) (by kernel_rfl) (by kernel_rfl) (fun _ _ _ h => h) (Or.inl ⟨by rfl, ?_⟩) ?_
              rotate_left
              · intro w' hSw
                try dsimp only at hSw
                go_simp
                try with_reducible rfl
              try simp only [Act.put, List.setIfInBounds_toArray, List.set_cons_zero, List.set_cons_succ]
              refine GoG.store2 28 (by kernel_rfl) (by kernel_rfl) rfl (fun K hK => ?_)
              go_simp
              refine hK.out _ _ ?_
              clear hK K
              try simp only [Act.put, List.setIfInBounds_toArray, List.set_cons_zero, List.set_cons_succ]
              refine GoG.pure2 29 (some 46) (v := ?_) (by kernel_rfl) rfl rfl (by kernel_rfl) (by kernel_rfl) (by kernel_rfl) (fun _ _ _ h => h) (Or.inl ⟨by rfl, ?_⟩) ?_
              rotate_left
              · intro w' hSw
                try dsimp only at hSw
                go_simp
                try with_reducible rfl
              try simp only [Act.put, List.setIfInBounds_toArray, List.set_cons_zero, List.set_cons_succ]
              refine GoG.pure2 30 (some 47) (v := ?_) (by kernel_rfl) rfl rfl (by kernel_rfl) (by kernel_rfl) (by kernel_rfl) (fun _ _ _ h => h) (Or.inl ⟨by rfl, ?_⟩) ?_
              rotate_left
              · intro w' hSw
                try dsimp only at hSw
                go_simp
                try with_reducible rfl
              try simp only [Act.put, List.setIfInBounds_toArray, List.set_cons_zero, List.set_cons_succ]
              refine GoG.last2 31 (by kernel_rfl) (by kernel_rfl) (by kernel_rfl) rfl (fun K hK => ?_)
              go_simp
              refine hK.out _ _ ?_
              clear hK K z0 z1 z2 f0 f1 f2
              have SD := hide ST.out.done
              clear ST
              go_wp2_with (fail)
              go_roundw
              case rel => exact ⟨k + 1, by omega, by go_num, _, _, _, _, _, _, by
                have h := SD.out
                rw [HE1.out, ← List.replicate_succ'] at h
                exact h⟩
              case measure => simp [intOf]; omega
            exact EachG.nil
          refine EachG.cons (i := 21) rfl (fun K hK => ?_) ?_
          · go_simp
            obtain ⟨q3, hq1⟩ : ∃ x, x = q2.alloc (.cells #[.bool false] 4) := ⟨_, rfl⟩
            obtain ⟨vb3, hv3⟩ : ∃ x, x = q2.heap.size := ⟨_, rfl⟩
            have XN := hide (show Ext q2 q3 by rw [hq1]; exact Ext.new _ _)
            have V3 := hide (show Blk q3 vb3 4 #[.bool false] by rw [hq1, hv3]; exact Blk.new _ _ _)
            have VN3 := hide (show q0.heap.size ≤ vb3 by rw [hv3]; exact ST.out.hq)
            have ST := hide (ST.out.ext XN.out)
            rw [← hq1, ← hv3]
            clear hq1 hv3 XN
            refine hK.out _ _ ST.out.cells (fun hHeld => ?_)
            clear hK K
            try simp only [Act.put, List.setIfInBounds_toArray, List.set_cons_zero, List.set_cons_succ]
            refine GoG.each (rs := [15]) (by kernel_rfl) (by kernel_rfl) ?_
            refine EachG.cons (i := 15) rfl (fun K hK => ?_) EachG.nil
            go_simp
            obtain ⟨q4, hq1⟩ : ∃ x, x = q3.alloc (.cells #[.string (str (rep 0))] 9) := ⟨_, rfl⟩
            obtain ⟨vb2, hv2⟩ : ∃ x, x = q3.heap.size := ⟨_, rfl⟩
            have XN := hide (show Ext q3 q4 by rw [hq1]; exact Ext.new _ _)
            have V3 := hide (Ext.blk XN.out V3.out)
            have V2 := hide (show Blk q4 vb2 9 #[.string (str (rep 0))] by rw [hq1, hv2]; exact Blk.new _ _ _)
            have VN2 := hide (show q0.heap.size ≤ vb2 by rw [hv2]; exact ST.out.hq)
            have ST := hide (ST.out.ext XN.out)
            rw [← hq1, ← hv2]
            clear hq1 hv2 XN
            refine hK.out _ _ ST.out.cells (fun hHeld => ?_)
            clear hK K
            try simp only [Act.put, List.setIfInBounds_toArray, List.set_cons_zero, List.set_cons_succ]
            refine GoG.each (rs := [16]) (by kernel_rfl) (by kernel_rfl) ?_
            refine EachG.cons (i := 16) rfl (fun K hK => ?_) EachG.nil
            refine step_append_any q4 rfl (.tmp 32) (.tmp 34) 56 rfl W.heap.size 9 i9 _ 1 16 Try.underlying56 hi9 hz9 hs9 hb9 rfl (by omega) (.slice A2 k c2) k (sv (blanks k)) (by rfl) ST.out.o2 _ _ 1 1 [.string (str (rep 0))] (by rfl) (reads_blk (m := 1) V2.out rfl) (by simp [Value.oneCell']) (by unfold maxLen; omega) (by omega) ST.out.x.size ?_
            intro v1 q5 ho1 hg1 hat1
            obtain ⟨B2, d2, hv1, _⟩ := own_form ho1
            subst hv1
            have V3 := hide (V3.out.grown hg1 (fun e => absurd (LO2.out _ e.symm) (Nat.not_lt.2 VN3.out)))
            have ST := hide (ST.out.app2 hg1 ho1 hat1)
            refine hK.out _ _ ST.out.cells (fun hHeld => ?_)
            clear hK K ho1 hg1 hat1
            change GoG _ _ _ _ _ _ _ _ (Act.put _ (some 35) _) _
            simp only [Act.put, List.setIfInBounds_toArray, List.set_cons_zero, List.set_cons_succ]
            refine GoG.each (rs := [22]) (by kernel_rfl) (by kernel_rfl) ?_
            refine EachG.cons (i := 22) rfl (fun K hK => ?_) EachG.nil
            refine step_append_any q5 rfl (.tmp 39) (.tmp 40) 57 rfl W.heap.size 4 i4 _ 1 1 Try.underlying57 hi4 hz4 hs4 hb4 rfl (by omega) (.slice A3 k c3) k (bb (List.replicate k false)) (by rfl) ST.out.o3 _ _ 1 1 [.bool false] (by rfl) (reads_blk (m := 1) V3.out rfl) (by simp [Value.oneCell']) (by unfold maxLen; omega) (by omega) ST.out.x.size ?_
            intro v1 q6 ho1 hg1 hat1
            obtain ⟨B3, d3, hv1, _⟩ := own_form ho1
            subst hv1
            have ST := hide (ST.out.app3 hg1 ho1 hat1)
            refine hK.out _ _ ST.out.cells (fun hHeld => ?_)
            clear hK K ho1 hg1 hat1
            change GoG _ _ _ _ _ _ _ _ (Act.put _ (some 41) _) _
            simp only [Act.put, List.setIfInBounds_toArray, List.set_cons_zero, List.set_cons_succ]
            refine GoG.take 23 30 (some 42) (v := ?_) rfl rfl (by kernel_rfl) (by kernel_rfl) (by kernel_rfl) (fun _ _ _ h => h) (Or.inl ⟨by rfl, ?_⟩) (by assumption) ?_
            rotate_left
            · intro w' hSw
              try dsimp only at hSw
              go_simp
              try with_reducible rfl
            try simp only [Act.put, List.setIfInBounds_toArray, List.set_cons_zero, List.set_cons_succ]
            refine GoG.take 24 30 (some 43) (v := ?_) rfl rfl (by kernel_rfl) (by kernel_rfl) (by kernel_rfl) (fun _ _ _ h => h) (Or.inl ⟨by rfl, ?_⟩) (by assumption) ?_
            rotate_left
            · intro w' hSw
              try dsimp only at hSw
              go_simp
              try with_reducible rfl
            try simp only [Act.put, List.setIfInBounds_toArray, List.set_cons_zero, List.set_cons_succ]
            refine GoG.store (by kernel_rfl) rfl (fun K hK => ?_)
            obtain ⟨z0, z1, z2⟩ := ST.out.cells
            have f0 := ST.out.bk.frozen 0
            have f1 := ST.out.bk.frozen 1
            have f2 := ST.out.bk.frozen 2
            go_simp
            refine hK.out _ _ ?_
            clear hK K
            try simp only [Act.put, List.setIfInBounds_toArray, List.set_cons_zero, List.set_cons_succ]
            refine GoG.pure2 26 (some 44) (v := ?_) (by kernel_rfl) rfl rfl (by kernel_rfl) (by kernel_rfl) (by kernel_rfl) (fun _ _ _ h => h) (Or.inl ⟨by rfl, ?_⟩) ?_
            rotate_left
            · intro w' hSw
              try dsimp only at hSw
              go_simp
              try with_reducible rfl
            try simp only [Act.put, List.setIfInBounds_toArray, List.set_cons_zero, List.set_cons_succ]
            refine GoG.pure2 27 (some 45) (v := ?_) (by kernel_rfl) rfl rfl (by kernel_rfl) (by kernel_rfl) (by kernel_rfl) (fun _ _ _ h => h) (Or.inl ⟨by rfl, ?_⟩) ?_
            rotate_left
            · intro w' hSw
              try dsimp only at hSw
              go_simp
              try with_reducible rfl
            try simp only [Act.put, List.setIfInBounds_toArray, List.set_cons_zero, List.set_cons_succ]
            refine GoG.store2 28 (by kernel_rfl) (by kernel_rfl) rfl (fun K hK => ?_)
            go_simp
            refine hK.out _ _ ?_
            clear hK K
            try simp only [Act.put, List.setIfInBounds_toArray, List.set_cons_zero, List.set_cons_succ]
            refine GoG.pure2 29 (some 46) (v := ?_) (by kernel_rfl) rfl rfl (by kernel_rfl) (by kernel_rfl) (by kernel_rfl) (fun _ _ _ h => h) (Or.inl ⟨by rfl, ?_⟩) ?_
            rotate_left
            · intro w' hSw
              try dsimp only at hSw
              go_simp
              try with_reducible rfl
            try simp only [Act.put, List.setIfInBounds_toArray, List.set_cons_zero, List.set_cons_succ]
            refine GoG.pure2 30 (some 47) (v := ?_) (by kernel_rfl) rfl rfl (by kernel_rfl) (by kernel_rfl) (by kernel_rfl) (fun _ _ _ h => h) (Or.inl ⟨by rfl, ?_⟩) ?_
            rotate_left
            · intro w' hSw
              try dsimp only at hSw
              go_simp
              try with_reducible rfl
            try simp only [Act.put, List.setIfInBounds_toArray, List.set_cons_zero, List.set_cons_succ]
            refine GoG.last2 31 (by kernel_rfl) (by kernel_rfl) (by kernel_rfl) rfl (fun K hK => ?_)
            go_simp
            refine hK.out _ _ ?_
            clear hK K z0 z1 z2 f0 f1 f2
            have SD := hide ST.out.done
            clear ST
            go_wp2_with (fail)
            go_roundw
            case rel => exact ⟨k + 1, by omega, by go_num, _, _, _, _, _, _, by
              have h := SD.out
              rw [HE1.out, ← List.replicate_succ'] at h
              exact h⟩
            case measure => simp [intOf]; omega
          exact EachG.nil
        refine EachG.cons (i := 15) rfl (fun K hK => ?_) ?_
        · go_simp
          obtain ⟨q2, hq1⟩ : ∃ x, x = q1.alloc (.cells #[.string (str (rep 0))] 9) := ⟨_, rfl⟩
          obtain ⟨vb2, hv2⟩ : ∃ x, x = q1.heap.size := ⟨_, rfl⟩
          have XN := hide (show Ext q1 q2 by rw [hq1]; exact Ext.new _ _)
          have V1 := hide (Ext.blk XN.out V1.out)
          have V2 := hide (show Blk q2 vb2 9 #[.string (str (rep 0))] by rw [hq1, hv2]; exact Blk.new _ _ _)
          have VN2 := hide (show q0.heap.size ≤ vb2 by rw [hv2]; exact ST.out.hq)
          have ST := hide (ST.out.ext XN.out)
          rw [← hq1, ← hv2]
          clear hq1 hv2 XN
          refine hK.out _ _ ST.out.cells (fun hHeld => ?_)
          clear hK K
          try simp only [Act.put, List.setIfInBounds_toArray, List.set_cons_zero, List.set_cons_succ]
          refine GoG.each (rs := [9, 21]) (by kernel_rfl) (by kernel_rfl) ?_
          refine EachG.cons (i := 9) rfl (fun K hK => ?_) ?_
          · refine step_append_any q2 rfl (.tmp 25) (.tmp 27) 56 rfl W.heap.size 9 i9 _ 1 16 Try.underlying56 hi9 hz9 hs9 hb9 rfl (by omega) (.slice A1 k c1) k (sv (blanks k)) (by rfl) ST.out.o1 _ _ 1 1 [.string (str (rep 0))] (by rfl) (reads_blk (m := 1) V1.out rfl) (by simp [Value.oneCell']) (by unfold maxLen; omega) (by omega) ST.out.x.size ?_
            intro v1 q3 ho1 hg1 hat1
            obtain ⟨B1, d1, hv1, _⟩ := own_form ho1
            subst hv1
            have V2 := hide (V2.out.grown hg1 (fun e => absurd (LO1.out _ e.symm) (Nat.not_lt.2 VN2.out)))
            have ST := hide (ST.out.app1 hg1 ho1 hat1)
            refine hK.out _ _ ST.out.cells (fun hHeld => ?_)
            clear hK K ho1 hg1 hat1
            change GoG _ _ _ _ _ _ _ _ (Act.put _ (some 28) _) _
            simp only [Act.put, List.setIfInBounds_toArray, List.set_cons_zero, List.set_cons_succ]
            refine GoG.each (rs := [16, 21]) (by kernel_rfl) (by kernel_rfl) ?_
            refine EachG.cons (i := 16) rfl (fun K hK => ?_) ?_
            · refine step_append_any q3 rfl (.tmp 32) (.tmp 34) 56 rfl W.heap.size 9 i9 _ 1 16 Try.underlying56 hi9 hz9 hs9 hb9 rfl (by omega) (.slice A2 k c2) k (sv (blanks k)) (by rfl) ST.out.o2 _ _ 1 1 [.string (str (rep 0))] (by rfl) (reads_blk (m := 1) V2.out rfl) (by simp [Value.oneCell']) (by unfold maxLen; omega) (by omega) ST.out.x.size ?_
              intro v1 q4 ho1 hg1 hat1
              obtain ⟨B2, d2, hv1, _⟩ := own_form ho1
              subst hv1
              have ST := hide (ST.out.app2 hg1 ho1 hat1)
              refine hK.out _ _ ST.out.cells (fun hHeld => ?_)
              clear hK K ho1 hg1 hat1
              change GoG _ _ _ _ _ _ _ _ (Act.put _ (some 35) _) _
              simp only [Act.put, List.setIfInBounds_toArray, List.set_cons_zero, List.set_cons_succ]
              refine GoG.each (rs := [21]) (by kernel_rfl) (by kernel_rfl) ?_
              refine EachG.cons (i := 21) rfl (fun K hK => ?_) EachG.nil
              go_simp
              obtain ⟨q5, hq1⟩ : ∃ x, x = q4.alloc (.cells #[.bool false] 4) := ⟨_, rfl⟩
              obtain ⟨vb3, hv3⟩ : ∃ x, x = q4.heap.size := ⟨_, rfl⟩
              have XN := hide (show Ext q4 q5 by rw [hq1]; exact Ext.new _ _)
              have V3 := hide (show Blk q5 vb3 4 #[.bool false] by rw [hq1, hv3]; exact Blk.new _ _ _)
              have VN3 := hide (show q0.heap.size ≤ vb3 by rw [hv3]; exact ST.out.hq)
              have ST := hide (ST.out.ext XN.out)
              rw [← hq1, ← hv3]
              clear hq1 hv3 XN
              refine hK.out _ _ ST.out.cells (fun hHeld => ?_)
              clear hK K
              try simp only [Act.put, List.setIfInBounds_toArray, List.set_cons_zero, List.set_cons_succ]
              refine GoG.each (rs := [22]) (by kernel_rfl) (by kernel_rfl) ?_
              refine EachG.cons (i := 22) rfl (fun K hK => ?_) EachG.nil
              refine step_append_any q5 rfl (.tmp 39) (.tmp 40) 57 rfl W.heap.size 4 i4 _ 1 1 Try.underlying57 hi4 hz4 hs4 hb4 rfl (by omega) (.slice A3 k c3) k (bb (List.replicate k false)) (by rfl) ST.out.o3 _ _ 1 1 [.bool false] (by rfl) (reads_blk (m := 1) V3.out rfl) (by simp [Value.oneCell']) (by unfold maxLen; omega) (by omega) ST.out.x.size ?_
              intro v1 q6 ho1 hg1 hat1
              obtain ⟨B3, d3, hv1, _⟩ := own_form ho1
              subst hv1
              have ST := hide (ST.out.app3 hg1 ho1 hat1)
              refine hK.out _ _ ST.out.cells (fun hHeld => ?_)
              clear hK K ho1 hg1 hat1
              change GoG _ _ _ _ _ _ _ _ (Act.put _ (some 41) _) _
              simp only [Act.put, List.setIfInBounds_toArray, List.set_cons_zero, List.set_cons_succ]
              refine GoG.take 23 30 (some 42) (v := ?_) rfl rfl (by kernel_rfl) (by kernel_rfl) (by kernel_rfl) (fun _ _ _ h => h) (Or.inl ⟨by rfl, ?_⟩) (by assumption) ?_
              rotate_left
              · intro w' hSw
                try dsimp only at hSw
                go_simp
                try with_reducible rfl
              try simp only [Act.put, List.setIfInBounds_toArray, List.set_cons_zero, List.set_cons_succ]
              refine GoG.take 24 30 (some 43) (v := ?_) rfl rfl (by kernel_rfl) (by kernel_rfl) (by kernel_rfl) (fun _ _ _ h => h) (Or.inl ⟨by rfl, ?_⟩) (by assumption) ?_
              rotate_left
              · intro w' hSw
                try dsimp only at hSw
                go_simp
                try with_reducible rfl
              try simp only [Act.put, List.setIfInBounds_toArray, List.set_cons_zero, List.set_cons_succ]
              refine GoG.store (by kernel_rfl) rfl (fun K hK => ?_)
              obtain ⟨z0, z1, z2⟩ := ST.out.cells
              have f0 := ST.out.bk.frozen 0
              have f1 := ST.out.bk.frozen 1
              have f2 := ST.out.bk.frozen 2
              go_simp
              refine hK.out _ _ ?_
              clear hK K
              try simp only [Act.put, List.setIfInBounds_toArray, List.set_cons_zero, List.set_cons_succ]
              refine GoG.pure2 26 (some 44) (v := ?_) (by kernel_rfl) rfl rfl (by kernel_rfl) (by kernel_rfl) (by kernel_rfl) (fun _ _ _ h => h) (Or.inl ⟨by rfl, ?_⟩) ?_
              rotate_left
              · intro w' hSw
                try dsimp only at hSw
                go_simp
                try with_reducible rfl
              try simp only [Act.put, List.setIfInBounds_toArray, List.set_cons_zero, List.set_cons_succ]
              refine GoG.pure2 27 (some 45) (v := ?_) (by kernel_rfl) rfl rfl (by kernel_rfl) (by kernel_rfl) (by kernel_rfl) (fun _ _ _ h => h) (Or.inl ⟨by rfl, ?_⟩) ?_
              rotate_left
              · intro w' hSw
                try dsimp only at hSw
                go_simp
                try with_reducible rfl
              try simp only [Act.put, List.setIfInBounds_toArray, List.set_cons_zero, List.set_cons_succ]
              refine GoG.store2 28 (by kernel_rfl) (by kernel_rfl) rfl (fun K hK => ?_)
              go_simp
              refine hK.out _ _ ?_
              clear hK K
              try simp only [Act.put, List.setIfInBounds_toArray, List.set_cons_zero, List.set_cons_succ]
              refine GoG.pure2 29 (some 46) (v := ?_) (by kernel_rfl) rfl rfl (by kernel_rfl) (by kernel_rfl) (by kernel_rfl) (fun _ _ _ h => h) (Or.inl ⟨by rfl, ?_⟩) ?_
              rotate_left
              · intro w' hSw
                try dsimp only at hSw
                go_simp
                try with_reducible rfl
              try simp only [Act.put, List.setIfInBounds_toArray, List.set_cons_zero, List.set_cons_succ]
              refine GoG.pure2 30 (some 47) (v := ?_) (by kernel_rfl) rfl rfl (by kernel_rfl) (by kernel_rfl) (by kernel_rfl) (fun _ _ _ h => h) (Or.inl ⟨by rfl, ?_⟩) ?_
              rotate_left
              · intro w' hSw
                try dsimp only at hSw
                go_simp
                try with_reducible rfl
              try simp only [Act.put, List.setIfInBounds_toArray, List.set_cons_zero, List.set_cons_succ]
              refine GoG.last2 31 (by kernel_rfl) (by kernel_rfl) (by kernel_rfl) rfl (fun K hK => ?_)
              go_simp
              refine hK.out _ _ ?_
              clear hK K z0 z1 z2 f0 f1 f2
              have SD := hide ST.out.done
              clear ST
              go_wp2_with (fail)
              go_roundw
              case rel => exact ⟨k + 1, by omega, by go_num, _, _, _, _, _, _, by
                have h := SD.out
                rw [HE1.out, ← List.replicate_succ'] at h
                exact h⟩
              case measure => simp [intOf]; omega
            refine EachG.cons (i := 21) rfl (fun K hK => ?_) ?_
            · go_simp
              obtain ⟨q4, hq1⟩ : ∃ x, x = q3.alloc (.cells #[.bool false] 4) := ⟨_, rfl⟩
              obtain ⟨vb3, hv3⟩ : ∃ x, x = q3.heap.size := ⟨_, rfl⟩
              have XN := hide (show Ext q3 q4 by rw [hq1]; exact Ext.new _ _)
              have V2 := hide (Ext.blk XN.out V2.out)
              have V3 := hide (show Blk q4 vb3 4 #[.bool false] by rw [hq1, hv3]; exact Blk.new _ _ _)
              have VN3 := hide (show q0.heap.size ≤ vb3 by rw [hv3]; exact ST.out.hq)
              have ST := hide (ST.out.ext XN.out)
              rw [← hq1, ← hv3]
              clear hq1 hv3 XN
              refine hK.out _ _ ST.out.cells (fun hHeld => ?_)
              clear hK K
              try simp only [Act.put, List.setIfInBounds_toArray, List.set_cons_zero, List.set_cons_succ]
              refine GoG.each (rs := [16]) (by kernel_rfl) (by kernel_rfl) ?_
              refine EachG.cons (i := 16) rfl (fun K hK => ?_) EachG.nil
              refine step_append_any q4 rfl (.tmp 32) (.tmp 34) 56 rfl W.heap.size 9 i9 _ 1 16 Try.underlying56 hi9 hz9 hs9 hb9 rfl (by omega) (.slice A2 k c2) k (sv (blanks k)) (by rfl) ST.out.o2 _ _ 1 1 [.string (str (rep 0))] (by rfl) (reads_blk (m := 1) V2.out rfl) (by simp [Value.oneCell']) (by unfold maxLen; omega) (by omega) ST.out.x.size ?_
              intro v1 q5 ho1 hg1 hat1
              obtain ⟨B2, d2, hv1, _⟩ := own_form ho1
              subst hv1
              have V3 := hide (V3.out.grown hg1 (fun e => absurd (LO2.out _ e.symm) (Nat.not_lt.2 VN3.out)))
              have ST := hide (ST.out.app2 hg1 ho1 hat1)
              refine hK.out _ _ ST.out.cells (fun hHeld => ?_)
              clear hK K ho1 hg1 hat1
              change GoG _ _ _ _ _ _ _ _ (Act.put _ (some 35) _) _
              simp only [Act.put, List.setIfInBounds_toArray, List.set_cons_zero, List.set_cons_succ]
              refine GoG.each (rs := [22]) (by kernel_rfl) (by kernel_rfl) ?_
              refine EachG.cons (i := 22) rfl (fun K hK => ?_) EachG.nil
              refine step_append_any q5 rfl (.tmp 39) (.tmp 40) 57 rfl W.heap.size 4 i4 _ 1 1 Try.underlying57 hi4 hz4 hs4 hb4 rfl (by omega) (.slice A3 k c3) k (bb (List.replicate k false)) (by rfl) ST.out.o3 _ _ 1 1 [.bool false] (by rfl) (reads_blk (m := 1) V3.out rfl) (by simp [Value.oneCell']) (by unfold maxLen; omega) (by omega) ST.out.x.size ?_
              intro v1 q6 ho1 hg1 hat1
              obtain ⟨B3, d3, hv1, _⟩ := own_form ho1
              subst hv1
              have ST := hide (ST.out.app3 hg1 ho1 hat1)
              refine hK.out _ _ ST.out.cells (fun hHeld => ?_)
              clear hK K ho1 hg1 hat1
              change GoG _ _ _ _ _ _ _ _ (Act.put _ (some 41) _) _
              simp only [Act.put, List.setIfInBounds_toArray, List.set_cons_zero, List.set_cons_succ]
              refine GoG.take 23 30 (some 42) (v := ?_) rfl rfl (by kernel_rfl) (by kernel_rfl) (by kernel_rfl) (fun _ _ _ h => h) (Or.inl ⟨by rfl, ?_⟩) (by assumption) ?_
              rotate_left
              · intro w' hSw
                try dsimp only at hSw
                go_simp
                try with_reducible rfl
              try simp only [Act.put, List.setIfInBounds_toArray, List.set_cons_zero, List.set_cons_succ]
              refine GoG.take 24 30 (some 43) (v := ?_) rfl rfl (by kernel_rfl) (by kernel_rfl) (by kernel_rfl) (fun _ _ _ h => h) (Or.inl ⟨by rfl, ?_⟩) (by assumption) ?_
              rotate_left
              · intro w' hSw
                try dsimp only at hSw
                go_simp
                try with_reducible rfl
              try simp only [Act.put, List.setIfInBounds_toArray, List.set_cons_zero, List.set_cons_succ]
              refine GoG.store (by kernel_rfl) rfl (fun K hK => ?_)
              obtain ⟨z0, z1, z2⟩ := ST.out.cells
              have f0 := ST.out.bk.frozen 0
              have f1 := ST.out.bk.frozen 1
              have f2 := ST.out.bk.frozen 2
              go_simp
              refine hK.out _ _ ?_
              clear hK K
              try simp only [Act.put, List.setIfInBounds_toArray, List.set_cons_zero, List.set_cons_succ]
              refine GoG.pure2 26 (some 44) (v := ?_) (by kernel_rfl) rfl rfl (by kernel_rfl) (by kernel_rfl) (by kernel_rfl) (fun _ _ _ h => h) (Or.inl ⟨by rfl, ?_⟩) ?_
              rotate_left
              · intro w' hSw
                try dsimp only at hSw
                go_simp
                try with_reducible rfl
              try simp only [Act.put, List.setIfInBounds_toArray, List.set_cons_zero, List.set_cons_succ]
              refine GoG.pure2 27 (some 45) (v := ?_) (by kernel_rfl) rfl rfl (by kernel_rfl) (by kernel_rfl) (by kernel_rfl) (fun _ _ _ h => h) (Or.inl ⟨by rfl, ?_⟩) ?_
              rotate_left
              · intro w' hSw
                try dsimp only at hSw
                go_simp
                try with_reducible rfl
              try simp only [Act.put, List.setIfInBounds_toArray, List.set_cons_zero, List.set_cons_succ]
              refine GoG.store2 28 (by kernel_rfl) (by kernel_rfl) rfl (fun K hK => ?_)
              go_simp
              refine hK.out _ _ ?_
              clear hK K
              try simp only [Act.put, List.setIfInBounds_toArray, List.set_cons_zero, List.set_cons_succ]
              refine GoG.pure2 29 (some 46) (v := ?_) (by kernel_rfl) rfl rfl (by kernel_rfl) (by kernel_rfl) (by kernel_rfl) (fun _ _ _ h => h) (Or.inl ⟨by rfl, ?_⟩) ?_
              rotate_left
              · intro w' hSw
                try dsimp only at hSw
                go_simp
                try with_reducible rfl
              try simp only [Act.put, List.setIfInBounds_toArray, List.set_cons_zero, List.set_cons_succ]
              refine GoG.pure2 30 (some 47) (v := ?_) (by kernel_rfl) rfl rfl (by kernel_rfl) (by kernel_rfl) (by kernel_rfl) (fun _ _ _ h => h) (Or.inl ⟨by rfl, ?_⟩) ?_
              rotate_left
              · intro w' hSw
                try dsimp only at hSw
                go_simp
                try with_reducible rfl
              try simp only [Act.put, List.setIfInBounds_toArray, List.set_cons_zero, List.set_cons_succ]
              refine GoG.last2 31 (by kernel_rfl) (by kernel_rfl) (by kernel_rfl) rfl (fun K hK => ?_)
              go_simp
              refine hK.out _ _ ?_
              clear hK K z0 z1 z2 f0 f1 f2
              have SD := hide ST.out.done
              clear ST
              go_wp2_with (fail)
              go_roundw
              case rel => exact ⟨k + 1, by omega, by go_num, _, _, _, _, _, _, by
                have h := SD.out
                rw [HE1.out, ← List.replicate_succ'] at h
                exact h⟩
              case measure => simp [intOf]; omega
            exact EachG.nil
          refine EachG.cons (i := 21) rfl (fun K hK => ?_) ?_
          · go_simp
            obtain ⟨q3, hq1⟩ : ∃ x, x = q2.alloc (.cells #[.bool false] 4) := ⟨_, rfl⟩
            obtain ⟨vb3, hv3⟩ : ∃ x, x = q2.heap.size := ⟨_, rfl⟩
            have XN := hide (show Ext q2 q3 by rw [hq1]; exact Ext.new _ _)
            have V1 := hide (Ext.blk XN.out V1.out)
            have V2 := hide (Ext.blk XN.out V2.out)
            have V3 := hide (show Blk q3 vb3 4 #[.bool false] by rw [hq1, hv3]; exact Blk.new _ _ _)
            have VN3 := hide (show q0.heap.size ≤ vb3 by rw [hv3]; exact ST.out.hq)
            have ST := hide (ST.out.ext XN.out)
            rw [← hq1, ← hv3]
            clear hq1 hv3 XN
            refine hK.out _ _ ST.out.cells (fun hHeld => ?_)
            clear hK K
            try simp only [Act.put, List.setIfInBounds_toArray, List.set_cons_zero, List.set_cons_succ]
            refine GoG.each (rs := [9]) (by kernel_rfl) (by kernel_rfl) ?_
            refine EachG.cons (i := 9) rfl (fun K hK => ?_) EachG.nil
            refine step_append_any q3 rfl (.tmp 25) (.tmp 27) 56 rfl W.heap.size 9 i9 _ 1 16 Try.underlying56 hi9 hz9 hs9 hb9 rfl (by omega) (.slice A1 k c1) k (sv (blanks k)) (by rfl) ST.out.o1 _ _ 1 1 [.string (str (rep 0))] (by rfl) (reads_blk (m := 1) V1.out rfl) (by simp [Value.oneCell']) (by unfold maxLen; omega) (by omega) ST.out.x.size ?_
            intro v1 q4 ho1 hg1 hat1
            obtain ⟨B1, d1, hv1, _⟩ := own_form ho1
            subst hv1
            have V2 := hide (V2.out.grown hg1 (fun e => absurd (LO1.out _ e.symm) (Nat.not_lt.2 VN2.out)))
            have V3 := hide (V3.out.grown hg1 (fun e => absurd (LO1.out _ e.symm) (Nat.not_lt.2 VN3.out)))
            have ST := hide (ST.out.app1 hg1 ho1 hat1)
            refine hK.out _ _ ST.out.cells (fun hHeld => ?_)
            clear hK K ho1 hg1 hat1
            change GoG _ _ _ _ _ _ _ _ (Act.put _ (some 28) _) _
            simp only [Act.put, List.setIfInBounds_toArray, List.set_cons_zero, List.set_cons_succ]
            refine GoG.each (rs := [16]) (by kernel_rfl) (by kernel_rfl) ?_
            refine EachG.cons (i := 16) rfl (fun K hK => ?_) EachG.nil
            refine step_append_any q4 rfl (.tmp 32) (.tmp 34) 56 rfl W.heap.size 9 i9 _ 1 16 Try.underlying56 hi9 hz9 hs9 hb9 rfl (by omega) (.slice A2 k c2) k (sv (blanks k)) (by rfl) ST.out.o2 _ _ 1 1 [.string (str (rep 0))] (by rfl) (reads_blk (m := 1) V2.out rfl) (by simp [Value.oneCell']) (by unfold maxLen; omega) (by omega) ST.out.x.size ?_
            intro v1 q5 ho1 hg1 hat1
            obtain ⟨B2, d2, hv1, _⟩ := own_form ho1
            subst hv1
            have V3 := hide (V3.out.grown hg1 (fun e => absurd (LO2.out _ e.symm) (Nat.not_lt.2 VN3.out)))
            have ST := hide (ST.out.app2 hg1 ho1 hat1)
            refine hK.out _ _ ST.out.cells (fun hHeld => ?_)
            clear hK K ho1 hg1 hat1
            change GoG _ _ _ _ _ _ _ _ (Act.put _ (some 35) _) _
            simp only [Act.put, List.setIfInBounds_toArray, List.set_cons_zero, List.set_cons_succ]
            refine GoG.each (rs := [22]) (by kernel_rfl) (by kernel_rfl) ?_
            refine EachG.cons (i := 22) rfl (fun K hK => ?_) EachG.nil
            refine step_append_any q5 rfl (.tmp 39) (.tmp 40) 57 rfl W.heap.size 4 i4 _ 1 1 Try.underlying57 hi4 hz4 hs4 hb4 rfl (by omega) (.slice A3 k c3) k (bb (List.replicate k false)) (by rfl) ST.out.o3 _ _ 1 1 [.bool false] (by rfl) (reads_blk (m := 1) V3.out rfl) (by simp [Value.oneCell']) (by unfold maxLen; omega) (by omega) ST.out.x.size ?_
            intro v1 q6 ho1 hg1 hat1
            obtain ⟨B3, d3, hv1, _⟩ := own_form ho1
            subst hv1
            have ST := hide (ST.out.app3 hg1 ho1 hat1)
            refine hK.out _ _ ST.out.cells (fun hHeld => ?_)
            clear hK K ho1 hg1 hat1
            change GoG _ _ _ _ _ _ _ _ (Act.put _ (some 41) _) _
            simp only [Act.put, List.setIfInBounds_toArray, List.set_cons_zero, List.set_cons_succ]
            refine GoG.take 23 30 (some 42) (v := ?_) rfl rfl (by kernel_rfl) (by kernel_rfl) (by kernel_rfl) (fun _ _ _ h => h) (Or.inl ⟨by rfl, ?_⟩) (by assumption) ?_
            rotate_left
            · intro w' hSw
              try dsimp only at hSw
              go_simp
              try with_reducible rfl
            try simp only [Act.put, List.setIfInBounds_toArray, List.set_cons_zero, List.set_cons_succ]
            refine GoG.take 24 30 (some 43) (v := ?_) rfl rfl (by kernel_rfl) (by kernel_rfl) (by kernel_rfl) (fun _ _ _ h => h) (Or.inl ⟨by rfl, ?_⟩) (by assumption) ?_
            rotate_left
            · intro w' hSw
              try dsimp only at hSw
              go_simp
              try with_reducible rfl
            try simp only [Act.put, List.setIfInBounds_toArray, List.set_cons_zero, List.set_cons_succ]
            refine GoG.store (by kernel_rfl) rfl (fun K hK => ?_)
            obtain ⟨z0, z1, z2⟩ := ST.out.cells
            have f0 := ST.out.bk.frozen 0
            have f1 := ST.out.bk.frozen 1
            have f2 := ST.out.bk.frozen 2
            go_simp
            refine hK.out _ _ ?_
            clear hK K
            try simp only [Act.put, List.setIfInBounds_toArray, List.set_cons_zero, List.set_cons_succ]
            refine GoG.pure2 26 (some 44) (v := ?_) (by kernel_rfl) rfl rfl (by kernel_rfl) (by kernel_rfl) (by kernel_rfl) (fun _ _ _ h => h) (Or.inl ⟨by rfl, ?_⟩) ?_
            rotate_left
            · intro w' hSw
              try dsimp only at hSw
              go_simp
              try with_reducible rfl
            try simp only [Act.put, List.setIfInBounds_toArray, List.set_cons_zero, List.set_cons_succ]
            refine GoG.pure2 27 (some 45) (v := ?_) (by kernel_rfl) rfl rfl (by kernel_rfl) (by kernel_rfl) (by kernel_rfl) (fun _ _ _ h => h) (Or.inl ⟨by rfl, ?_⟩) ?_
            rotate_left
            · intro w' hSw
              try dsimp only at hSw
              go_simp
              try with_reducible rfl
            try simp only [Act.put, List.setIfInBounds_toArray, List.set_cons_zero, List.set_cons_succ]
            refine GoG.store2 28 (by kernel_rfl) (by kernel_rfl) rfl (fun K hK => ?_)
            go_simp
            refine hK.out _ _ ?_
            clear hK K
            try simp only [Act.put, List.setIfInBounds_toArray, List.set_cons_zero, List.set_cons_succ]
            refine GoG.pure2 29 (some 46) (v := ?_) (by kernel_rfl) rfl rfl (by kernel_rfl) (by kernel_rfl) (by kernel_rfl) (fun _ _ _ h => h) (Or.inl ⟨by rfl, ?_⟩) ?_
            rotate_left
            · intro w' hSw
              try dsimp only at hSw
              go_simp
              try with_reducible rfl
            try simp only [Act.put, List.setIfInBounds_toArray, List.set_cons_zero, List.set_cons_succ]
            refine GoG.pure2 30 (some 47) (v := ?_) (by kernel_rfl) rfl rfl (by kernel_rfl) (by kernel_rfl) (by kernel_rfl) (fun _ _ _ h => h) (Or.inl ⟨by rfl, ?_⟩) ?_
            rotate_left
            · intro w' hSw
              try dsimp only at hSw
              go_simp
              try with_reducible rfl
            try simp only [Act.put, List.setIfInBounds_toArray, List.set_cons_zero, List.set_cons_succ]
            refine GoG.last2 31 (by kernel_rfl) (by kernel_rfl) (by kernel_rfl) rfl (fun K hK => ?_)
            go_simp
            refine hK.out _ _ ?_
            clear hK K z0 z1 z2 f0 f1 f2
            have SD := hide ST.out.done
            clear ST
            go_wp2_with (fail)
            go_roundw
            case rel => exact ⟨k + 1, by omega, by go_num, _, _, _, _, _, _, by
              have h := SD.out
              rw [HE1.out, ← List.replicate_succ'] at h
              exact h⟩
            case measure => simp [intOf]; omega
          exact EachG.nil
        refine EachG.cons (i := 21) rfl (fun K hK => ?_) ?_
        · go_simp
          obtain ⟨q2, hq1⟩ : ∃ x, x = q1.alloc (.cells #[.bool false] 4) := ⟨_, rfl⟩
          obtain ⟨vb3, hv3⟩ : ∃ x, x = q1.heap.size := ⟨_, rfl⟩
          have XN := hide (show Ext q1 q2 by rw [hq1]; exact Ext.new _ _)
          have V1 := hide (Ext.blk XN.out V1.out)
          have V3 := hide (show Blk q2 vb3 4 #[.bool false] by rw [hq1, hv3]; exact Blk.new _ _ _)
          have VN3 := hide (show q0.heap.size ≤ vb3 by rw [hv3]; exact ST.out.hq)
          have ST := hide (ST.out.ext XN.out)
          rw [← hq1, ← hv3]
          clear hq1 hv3 XN
          refine hK.out _ _ ST.out.cells (fun hHeld => ?_)
          clear hK K
          try simp only [Act.put, List.setIfInBounds_toArray, List.set_cons_zero, List.set_cons_succ]
          refine GoG.each (rs := [9, 15]) (by kernel_rfl) (by kernel_rfl) ?_
          refine EachG.cons (i := 9) rfl (fun K hK => ?_) ?_
          · refine step_append_any q2 rfl (.tmp 25) (.tmp 27) 56 rfl W.heap.size 9 i9 _ 1 16 Try.underlying56 hi9 hz9 hs9 hb9 rfl (by omega) (.slice A1 k c1) k (sv (blanks k)) (by rfl) ST.out.o1 _ _ 1 1 [.string (str (rep 0))] (by rfl) (reads_blk (m := 1) V1.out rfl) (by simp [Value.oneCell']) (by unfold maxLen; omega) (by omega) ST.out.x.size ?_
            intro v1 q3 ho1 hg1 hat1
            obtain ⟨B1, d1, hv1, _⟩ := own_form ho1
            subst hv1
            have V3 := hide (V3.out.grown hg1 (fun e => absurd (LO1.out _ e.symm) (Nat.not_lt.2 VN3.out)))
            have ST := hide (ST.out.app1 hg1 ho1 hat1)
            refine hK.out _ _ ST.out.cells (fun hHeld => ?_)
            clear hK K ho1 hg1 hat1
            change GoG _ _ _ _ _ _ _ _ (Act.put _ (some 28) _) _
            simp only [Act.put, List.setIfInBounds_toArray, List.set_cons_zero, List.set_cons_succ]
            refine GoG.each (rs := [15]) (by kernel_rfl) (by kernel_rfl) ?_
            refine EachG.cons (i := 15) rfl (fun K hK => ?_) EachG.nil
            go_simp
            obtain ⟨q4, hq1⟩ : ∃ x, x = q3.alloc (.cells #[.string (str (rep 0))] 9) := ⟨_, rfl⟩
            obtain ⟨vb2, hv2⟩ : ∃ x, x = q3.heap.size := ⟨_, rfl⟩
            have XN := hide (show Ext q3 q4 by rw [hq1]; exact Ext.new _ _)
            have V3 := hide (Ext.blk XN.out V3.out)
            have V2 := hide (show Blk q4 vb2 9 #[.string (str (rep 0))] by rw [hq1, hv2]; exact Blk.new _ _ _)
            have VN2 := hide (show q0.heap.size ≤ vb2 by rw [hv2]; exact ST.out.hq)
            have ST := hide (ST.out.ext XN.out)
            rw [← hq1, ← hv2]
            clear hq1 hv2 XN
            refine hK.out _ _ ST.out.cells (fun hHeld => ?_)
            clear hK K
            try simp only [Act.put, List.setIfInBounds_toArray, List.set_cons_zero, List.set_cons_succ]
            refine GoG.each (rs := [16]) (by kernel_rfl) (by kernel_rfl) ?_
            refine EachG.cons (i := 16) rfl (fun K hK => ?_) EachG.nil
            refine step_append_any q4 rfl (.tmp 32) (.tmp 34) 56 rfl W.heap.size 9 i9 _ 1 16 Try.underlying56 hi9 hz9 hs9 hb9 rfl (by omega) (.slice A2 k c2) k (sv (blanks k)) (by rfl) ST.out.o2 _ _ 1 1 [.string (str (rep 0))] (by rfl) (reads_blk (m := 1) V2.out rfl) (by simp [Value.oneCell']) (by unfold maxLen; omega) (by omega) ST.out.x.size ?_
            intro v1 q5 ho1 hg1 hat1
            obtain ⟨B2, d2, hv1, _⟩ := own_form ho1
            subst hv1
            have V3 := hide (V3.out.grown hg1 (fun e => absurd (LO2.out _ e.symm) (Nat.not_lt.2 VN3.out)))
            have ST := hide (ST.out.app2 hg1 ho1 hat1)
            refine hK.out _ _ ST.out.cells (fun hHeld => ?_)
            clear hK K ho1 hg1 hat1
            change GoG _ _ _ _ _ _ _ _ (Act.put _ (some 35) _) _
            simp only [Act.put, List.setIfInBounds_toArray, List.set_cons_zero, List.set_cons_succ]
            refine GoG.each (rs := [22]) (by kernel_rfl) (by kernel_rfl) ?_
            refine EachG.cons (i := 22) rfl (fun K hK => ?_) EachG.nil
            refine step_append_any q5 rfl (.tmp 39) (.tmp 40) 57 rfl W.heap.size 4 i4 _ 1 1 Try.underlying57 hi4 hz4 hs4 hb4 rfl (by omega) (.slice A3 k c3) k (bb (List.replicate k false)) (by rfl) ST.out.o3 _ _ 1 1 [.bool false] (by rfl) (reads_blk (m := 1) V3.out rfl) (by simp [Value.oneCell']) (by unfold maxLen; omega) (by omega) ST.out.x.size ?_
            intro v1 q6 ho1 hg1 hat1
            obtain ⟨B3, d3, hv1, _⟩ := own_form ho1
            subst hv1
            have ST := hide (ST.out.app3 hg1 ho1 hat1)
            refine hK.out _ _ ST.out.cells (fun hHeld => ?_)
            clear hK K ho1 hg1 hat1
            change GoG _ _ _ _ _ _ _ _ (Act.put _ (some 41) _) _
            simp only [Act.put, List.setIfInBounds_toArray, List.set_cons_zero, List.set_cons_succ]
            refine GoG.take 23 30 (some 42) (v := ?_) rfl rfl (by kernel_rfl) (by kernel_rfl) (by kernel_rfl) (fun _ _ _ h => h) (Or.inl ⟨by rfl, ?_⟩) (by assumption) ?_
            rotate_left
            · intro w' hSw
              try dsimp only at hSw
              go_simp
              try with_reducible rfl
            try simp only [Act.put, List.setIfInBounds_toArray, List.set_cons_zero, List.set_cons_succ]
            refine GoG.take 24 30 (some 43) (v := ?_) rfl rfl (by kernel_rfl) (by kernel_rfl) (by kernel_rfl) (fun _ _ _ h => h) (Or.inl ⟨by rfl, ?_⟩) (by assumption) ?_
            rotate_left
            · intro w' hSw
              try dsimp only at hSw
              go_simp
              try with_reducible rfl
            try simp only [Act.put, List.setIfInBounds_toArray, List.set_cons_zero, List.set_cons_succ]
            refine GoG.store (by kernel_rfl) rfl (fun K hK => ?_)
            obtain ⟨z0, z1, z2⟩ := ST.out.cells
            have f0 := ST.out.bk.frozen 0
            have f1 := ST.out.bk.frozen 1
            have f2 := ST.out.bk.frozen 2
            go_simp
            refine hK.out _ _ ?_
            clear hK K
            try simp only [Act.put, List.setIfInBounds_toArray, List.set_cons_zero, List.set_cons_succ]
            refine GoG.pure2 26 (some 44) (v := ?_) (by kernel_rfl) rfl rfl (by kernel_rfl) (by kernel_rfl) (by kernel_rfl) (fun _ _ _ h => h) (Or.inl ⟨by rfl, ?_⟩) ?_
            rotate_left
            · intro w' hSw
              try dsimp only at hSw
              go_simp
              try with_reducible rfl
            try simp only [Act.put, List.setIfInBounds_toArray, List.set_cons_zero, List.set_cons_succ]
            refine GoG.pure2 27 (some 45) (v := ?_) (by kernel_rfl) rfl rfl (by kernel_rfl) (by kernel_rfl) (by kernel_rfl) (fun _ _ _ h => h) (Or.inl ⟨by rfl, ?_⟩) ?_
            rotate_left
            · intro w' hSw
              try dsimp only at hSw
              go_simp
              try with_reducible rfl
            try simp only [Act.put, List.setIfInBounds_toArray, List.set_cons_zero, List.set_cons_succ]
            refine GoG.store2 28 (by kernel_rfl) (by kernel_rfl) rfl (fun K hK => ?_)
            go_simp
            refine hK.out _ _ ?_
            clear hK K
            try simp only [Act.put, List.setIfInBounds_toArray, List.set_cons_zero, List.set_cons_succ]
            refine GoG.pure2 29 (some 46) (v := ?_) (by kernel_rfl) rfl rfl (by kernel_rfl) (by kernel_rfl) (by kernel_rfl) (fun _ _ _ h => h) (Or.inl ⟨by rfl, ?_⟩) ?_
            rotate_left
            · intro w' hSw
              try dsimp only at hSw
              go_simp
              try with_reducible rfl
            try simp only [Act.put, List.setIfInBounds_toArray, List.set_cons_zero, List.set_cons_succ]
            refine GoG.pure2 30 (some 47) (v := ?_) (by kernel_rfl) rfl rfl (by kernel_rfl) (by kernel_rfl) (by kernel_rfl) (fun _ _ _ h => h) (Or.inl ⟨by rfl, ?_⟩) ?_
            rotate_left
            · intro w' hSw
              try dsimp only at hSw
              go_simp
              try with_reducible rfl
            try simp only [Act.put, List.setIfInBounds_toArray, List.set_cons_zero, List.set_cons_succ]
            refine GoG.last2 31 (by kernel_rfl) (by kernel_rfl) (by kernel_rfl) rfl (fun K hK => ?_)
            go_simp
            refine hK.out _ _ ?_
            clear hK K z0 z1 z2 f0 f1 f2
            have SD := hide ST.out.done
            clear ST
            go_wp2_with (fail)
            go_roundw
            case rel => exact ⟨k + 1, by omega, by go_num, _, _, _, _, _, _, by
              have h := SD.out
              rw [HE1.out, ← List.replicate_succ'] at h
              exact h⟩
            case measure => simp [intOf]; omega
          refine EachG.cons (i := 15) rfl (fun K hK => ?_) ?_
          · go_simp
            obtain ⟨q3, hq1⟩ : ∃ x, x = q2.alloc (.cells #[.string (str (rep 0))] 9) := ⟨_, rfl⟩
            obtain ⟨vb2, hv2⟩ : ∃ x, x = q2.heap.size := ⟨_, rfl⟩
            have XN := hide (show Ext q2 q3 by rw [hq1]; exact Ext.new _ _)
            have V1 := hide (Ext.blk XN.out V1.out)
            have V3 := hide (Ext.blk XN.out V3.out)
            have V2 := hide (show Blk q3 vb2 9 #[.string (str (rep 0))] by rw [hq1, hv2]; exact Blk.new _ _ _)
            have VN2 := hide (show q0.heap.size ≤ vb2 by rw [hv2]; exact ST.out.hq)
            have ST := hide (ST.out.ext XN.out)
            rw [← hq1, ← hv2]
            clear hq1 hv2 XN
            refine hK.out _ _ ST.out.cells (fun hHeld => ?_)
            clear hK K
            try simp only [Act.put, List.setIfInBounds_toArray, List.set_cons_zero, List.set_cons_succ]
            refine GoG.each (rs := [9]) (by kernel_rfl) (by kernel_rfl) ?_
            refine EachG.cons (i := 9) rfl (fun K hK => ?_) EachG.nil
            refine step_append_any q3 rfl (.tmp 25) (.tmp 27) 56 rfl W.heap.size 9 i9 _ 1 16 Try.underlying56 hi9 hz9 hs9 hb9 rfl (by omega) (.slice A1 k c1) k (sv (blanks k)) (by rfl) ST.out.o1 _ _ 1 1 [.string (str (rep 0))] (by rfl) (reads_blk (m := 1) V1.out rfl) (by simp [Value.oneCell']) (by unfold maxLen; omega) (by omega) ST.out.x.size ?_
            intro v1 q4 ho1 hg1 hat1
            obtain ⟨B1, d1, hv1, _⟩ := own_form ho1
            subst hv1
            have V3 := hide (V3.out.grown hg1 (fun e => absurd (LO1.out _ e.symm) (Nat.not_lt.2 VN3.out)))
            have V2 := hide (V2.out.grown hg1 (fun e => absurd (LO1.out _ e.symm) (Nat.not_lt.2 VN2.out)))
            have ST := hide (ST.out.app1 hg1 ho1 hat1)
            refine hK.out _ _ ST.out.cells (fun hHeld => ?_)
            clear hK K ho1 hg1 hat1
            change GoG _ _ _ _ _ _ _ _ (Act.put _ (some 28) _) _
            simp only [Act.put, List.setIfInBounds_toArray, List.set_cons_zero, List.set_cons_succ]
            refine GoG.each (rs := [16]) (by kernel_rfl) (by kernel_rfl) ?_
            refine EachG.cons (i := 16) rfl (fun K hK => ?_) EachG.nil
            refine step_append_any q4 rfl (.tmp 32) (.tmp 34) 56 rfl W.heap.size 9 i9 _ 1 16 Try.underlying56 hi9 hz9 hs9 hb9 rfl (by omega) (.slice A2 k c2) k (sv (blanks k)) (by rfl) ST.out.o2 _ _ 1 1 [.string (str (rep 0))] (by rfl) (reads_blk (m := 1) V2.out rfl) (by simp [Value.oneCell']) (by unfold maxLen; omega) (by omega) ST.out.x.size ?_
            intro v1 q5 ho1 hg1 hat1
            obtain ⟨B2, d2, hv1, _⟩ := own_form ho1
            subst hv1
            have V3 := hide (V3.out.grown hg1 (fun e => absurd (LO2.out _ e.symm) (Nat.not_lt.2 VN3.out)))
            have ST := hide (ST.out.app2 hg1 ho1 hat1)
            refine hK.out _ _ ST.out.cells (fun hHeld => ?_)
            clear hK K ho1 hg1 hat1
            change GoG _ _ _ _ _ _ _ _ (Act.put _ (some 35) _) _
            simp only [Act.put, List.setIfInBounds_toArray, List.set_cons_zero, List.set_cons_succ]
            refine GoG.each (rs := [22]) (by kernel_rfl) (by kernel_rfl) ?_
            refine EachG.cons (i := 22) rfl (fun K hK => ?_) EachG.nil
            refine step_append_any q5 rfl (.tmp 39) (.tmp 40) 57 rfl W.heap.size 4 i4 _ 1 1 Try.underlying57 hi4 hz4 hs4 hb4 rfl (by omega) (.slice A3 k c3) k (bb (List.replicate k false)) (by rfl) ST.out.o3 _ _ 1 1 [.bool false] (by rfl) (reads_blk (m := 1) V3.out rfl) (by simp [Value.oneCell']) (by unfold maxLen; omega) (by omega) ST.out.x.size ?_
            intro v1 q6 ho1 hg1 hat1
            obtain ⟨B3, d3, hv1, _⟩ := own_form ho1
            subst hv1
            have ST := hide (ST.out.app3 hg1 ho1 hat1)
            refine hK.out _ _ ST.out.cells (fun hHeld => ?_)
            clear hK K ho1 hg1 hat1
            change GoG _ _ _ _ _ _ _ _ (Act.put _ (some 41) _) _
            simp only [Act.put, List.setIfInBounds_toArray, List.set_cons_zero, List.set_cons_succ]
            refine GoG.take 23 30 (some 42) (v := ?_) rfl rfl (by kernel_rfl) (by kernel_rfl) (by kernel_rfl) (fun _ _ _ h => h) (Or.inl ⟨by rfl, ?_⟩) (by assumption) ?_
            rotate_left
            · intro w' hSw
              try dsimp only at hSw
              go_simp
              try with_reducible rfl
            try simp only [Act.put, List.setIfInBounds_toArray, List.set_cons_zero, List.set_cons_succ]
            refine GoG.take 24 30 (some 43) (v := ?_) rfl rfl (by kernel_rfl) (by kernel_rfl) (by kernel_rfl) (fun _ _ _ h => h) (Or.inl ⟨by rfl, ?_⟩) (by assumption) ?_
            rotate_left
            · intro w' hSw
              try dsimp only at hSw
              go_simp
              try with_reducible rfl
            try simp only [Act.put, List.setIfInBounds_toArray, List.set_cons_zero, List.set_cons_succ]
            refine GoG.store (by kernel_rfl) rfl (fun K hK => ?_)
            obtain ⟨z0, z1, z2⟩ := ST.out.cells
            have f0 := ST.out.bk.frozen 0
            have f1 := ST.out.bk.frozen 1
            have f2 := ST.out.bk.frozen 2
            go_simp
            refine hK.out _ _ ?_
            clear hK K
            try simp only [Act.put, List.setIfInBounds_toArray, List.set_cons_zero, List.set_cons_succ]
            refine GoG.pure2 26 (some 44) (v := ?_) (by kernel_rfl) rfl rfl (by kernel_rfl) (by kernel_rfl) (by kernel_rfl) (fun _ _ _ h => h) (Or.inl ⟨by rfl, ?_⟩) ?_
            rotate_left
            · intro w' hSw
              try dsimp only at hSw
              go_simp
              try with_reducible rfl
            try simp only [Act.put, List.setIfInBounds_toArray, List.set_cons_zero, List.set_cons_succ]
            refine GoG.pure2 27 (some 45) (v := ?_) (by kernel_rfl) rfl rfl (by kernel_rfl) (by kernel_rfl) (by kernel_rfl) (fun _ _ _ h => h) (Or.inl ⟨by rfl, ?_⟩) ?_
            rotate_left
            · intro w' hSw
              try dsimp only at hSw
              go_simp
              try with_reducible rfl
            try simp only [Act.put, List.setIfInBounds_toArray, List.set_cons_zero, List.set_cons_succ]
            refine GoG.store2 28 (by kernel_rfl) (by kernel_rfl) rfl (fun K hK => ?_)
            go_simp
            refine hK.out _ _ ?_
            clear hK K
            try simp only [Act.put, List.setIfInBounds_toArray, List.set_cons_zero, List.set_cons_succ]
            refine GoG.pure2 29 (some 46) (v := ?_) (by kernel_rfl) rfl rfl (by kernel_rfl) (by kernel_rfl) (by kernel_rfl) (fun _ _ _ h => h) (Or.inl ⟨by rfl, ?_⟩) ?_
            rotate_left
            · intro w' hSw
              try dsimp only at hSw
              go_simp
              try with_reducible rfl
            try simp only [Act.put, List.setIfInBounds_toArray, List.set_cons_zero, List.set_cons_succ]
            refine GoG.pure2 30 (some 47) (v := ?_) (by kernel_rfl) rfl rfl (by kernel_rfl) (by kernel_rfl) (by kernel_rfl) (fun _ _ _ h => h) (Or.inl ⟨by rfl, ?_⟩) ?_
            rotate_left
            · intro w' hSw
              try dsimp only at hSw
              go_simp
              try with_reducible rfl
            try simp only [Act.put, List.setIfInBounds_toArray, List.set_cons_zero, List.set_cons_succ]
            refine GoG.last2 31 (by kernel_rfl) (by kernel_rfl) (by kernel_rfl) rfl (fun K hK => ?_)
            go_simp
            refine hK.out _ _ ?_
            clear hK K z0 z1 z2 f0 f1 f2
            have SD := hide ST.out.done
            clear ST
            go_wp2_with (fail)
            go_roundw
            case rel => exact ⟨k + 1, by omega, by go_num, _, _, _, _, _, _, by
              have h := SD.out
              rw [HE1.out, ← List.replicate_succ'] at h
              exact h⟩
            case measure => simp [intOf]; omega
          exact EachG.nil
        exact EachG.nil
      refine EachG.cons (i := 15) rfl (fun K hK => ?_) ?_
      · go_simp
        obtain ⟨q1, hq1⟩ : ∃ x, x = q0.alloc (.cells #[.string (str (rep 0))] 9) := ⟨_, rfl⟩
        obtain ⟨vb2, hv2⟩ : ∃ x, x = q0.heap.size := ⟨_, rfl⟩
        have XN := hide (show Ext q0 q1 by rw [hq1]; exact Ext.new _ _)
        have V2 := hide (show Blk q1 vb2 9 #[.string (str (rep 0))] by rw [hq1, hv2]; exact Blk.new _ _ _)
        have VN2 := hide (show q0.heap.size ≤ vb2 by rw [hv2]; exact ST.out.hq)
        have ST := hide (ST.out.ext XN.out)
        rw [← hq1, ← hv2]
        clear hq1 hv2 XN
        refine hK.out _ _ ST.out.cells (fun hHeld => ?_)
        clear hK K
        try simp only [Act.put, List.setIfInBounds_toArray, List.set_cons_zero, List.set_cons_succ]
        refine GoG.each (rs := [8, 21]) (by kernel_rfl) (by kernel_rfl) ?_
        refine EachG.cons (i := 8) rfl (fun K hK => ?_) ?_
        · go_simp
          obtain ⟨q2, hq1⟩ : ∃ x, x = q1.alloc (.cells #[.string (str (rep 0))] 9) := ⟨_, rfl⟩
          obtain ⟨vb1, hv1⟩ : ∃ x, x = q1.heap.size := ⟨_, rfl⟩
          have XN := hide (show Ext q1 q2 by rw [hq1]; exact Ext.new _ _)
          have V2 := hide (Ext.blk XN.out V2.out)
          have V1 := hide (show Blk q2 vb1 9 #[.string (str (rep 0))] by rw [hq1, hv1]; exact Blk.new _ _ _)
          have VN1 := hide (show q0.heap.size ≤ vb1 by rw [hv1]; exact ST.out.hq)
          have ST := hide (ST.out.ext XN.out)
          rw [← hq1, ← hv1]
          clear hq1 hv1 XN
          refine hK.out _ _ ST.out.cells (fun hHeld => ?_)
          clear hK K
          try simp only [Act.put, List.setIfInBounds_toArray, List.set_cons_zero, List.set_cons_succ]
          refine GoG.each (rs := [9, 21]) (by kernel_rfl) (by kernel_rfl) ?_
          refine EachG.cons (i := 9) rfl (fun K hK => ?_) ?_
          · refine step_append_any q2 rfl (.tmp 25) (.tmp 27) 56 rfl W.heap.size 9 i9 _ 1 16 Try.underlying56 hi9 hz9 hs9 hb9 rfl (by omega) (.slice A1 k c1) k (sv (blanks k)) (by rfl) ST.out.o1 _ _ 1 1 [.string (str (rep 0))] (by rfl) (reads_blk (m := 1) V1.out rfl) (by simp [Value.oneCell']) (by unfold maxLen; omega) (by omega) ST.out.x.size ?_
            intro v1 q3 ho1 hg1 hat1
            obtain ⟨B1, d1, hv1, _⟩ := own_form ho1
            subst hv1
            have V2 := hide (V2.out.grown hg1 (fun e => absurd (LO1.out _ e.symm) (Nat.not_lt.2 VN2.out)))
            have ST := hide (ST.out.app1 hg1 ho1 hat1)
            refine hK.out _ _ ST.out.cells (fun hHeld => ?_)
            clear hK K ho1 hg1 hat1
            change GoG _ _ _ _ _ _ _ _ (Act.put _ (some 28) _) _
            simp only [Act.put, List.setIfInBounds_toArray, List.set_cons_zero, List.set_cons_succ]
            refine GoG.each (rs := [16, 21]) (by kernel_rfl) (by kernel_rfl) ?_
            refine EachG.cons (i := 16) rfl (fun K hK => ?_) ?_
            · refine step_append_any q3 rfl (.tmp 32) (.tmp 34) 56 rfl W.heap.size 9 i9 _ 1 16 Try.underlying56 hi9 hz9 hs9 hb9 rfl (by omega) (.slice A2 k c2) k (sv (blanks k)) (by rfl) ST.out.o2 _ _ 1 1 [.string (str (rep 0))] (by rfl) (reads_blk (m := 1) V2.out rfl) (by simp [Value.oneCell']) (by unfold maxLen; omega) (by omega) ST.out.x.size ?_
              intro v1 q4 ho1 hg1 hat1
              obtain ⟨B2, d2, hv1, _⟩ := own_form ho1
              subst hv1
              have ST := hide (ST.out.app2 hg1 ho1 hat1)
              refine hK.out _ _ ST.out.cells (fun hHeld => ?_)
              clear hK K ho1 hg1 hat1
              change GoG _ _ _ _ _ _ _ _ (Act.put _ (some 35) _) _
              simp only [Act.put, List.setIfInBounds_toArray, List.set_cons_zero, List.set_cons_succ]
              refine GoG.each (rs := [21]) (by kernel_rfl) (by kernel_rfl) ?_
              refine EachG.cons (i := 21) rfl (fun K hK => ?_) EachG.nil
              go_simp
              obtain ⟨q5, hq1⟩ : ∃ x, x = q4.alloc (.cells #[.bool false] 4) := ⟨_, rfl⟩
              obtain ⟨vb3, hv3⟩ : ∃ x, x = q4.heap.size := ⟨_, rfl⟩
              have XN := hide (show Ext q4 q5 by rw [hq1]; exact Ext.new _ _)
              have V3 := hide (show Blk q5 vb3 4 #[.bool false] by rw [hq1, hv3]; exact Blk.new _ _ _)
              have VN3 := hide (show q0.heap.size ≤ vb3 by rw [hv3]; exact ST.out.hq)
              have ST := hide (ST.out.ext XN.out)
              rw [← hq1, ← hv3]
              clear hq1 hv3 XN
              refine hK.out _ _ ST.out.cells (fun hHeld => ?_)
              clear hK K
              try simp only [Act.put, List.setIfInBounds_toArray, List.set_cons_zero, List.set_cons_succ]
              refine GoG.each (rs := [22]) (by kernel_rfl) (by kernel_rfl) ?_
              refine EachG.cons (i := 22) rfl (fun K hK => ?_) EachG.nil
              refine step_append_any q5 rfl (.tmp 39) (.tmp 40) 57 rfl W.heap.size 4 i4 _ 1 1 Try.underlying57 hi4 hz4 hs4 hb4 rfl (by omega) (.slice A3 k c3) k (bb (List.replicate k false)) (by rfl) ST.out.o3 _ _ 1 1 [.bool false] (by rfl) (reads_blk (m := 1) V3.out rfl) (by simp [Value.oneCell']) (by unfold maxLen; omega) (by omega) ST.out.x.size ?_
              intro v1 q6 ho1 hg1 hat1
              obtain ⟨B3, d3, hv1, _⟩ := own_form ho1
              subst hv1
              have ST := hide (ST.out.app3 hg1 ho1 hat1)
              refine hK.out _ _ ST.out.cells (fun hHeld => ?_)
              clear hK K ho1 hg1 hat1
              change GoG _ _ _ _ _ _ _ _ (Act.put _ (some 41) _) _
              simp only [Act.put, List.setIfInBounds_toArray, List.set_cons_zero, List.set_cons_succ]
              refine GoG.take 23 30 (some 42) (v := ?_) rfl rfl (by kernel_rfl) (by kernel_rfl) (by kernel_rfl) (fun _ _ _ h => h) (Or.inl ⟨by rfl, ?_⟩) (by assumption) ?_
              rotate_left
              · intro w' hSw
                try dsimp only at hSw
                go_simp
                try with_reducible rfl
              try simp only [Act.put, List.setIfInBounds_toArray, List.set_cons_zero, List.set_cons_succ]
              refine GoG.take 24 30 (some 43) (v := ?_) rfl rfl (by kernel_rfl) (by kernel_rfl) (by kernel_rfl) (fun _ _ _ h => h) (Or.inl ⟨by rfl, ?_⟩) (by assumption) ?_
              rotate_left
              · intro w' hSw
                try dsimp only at hSw
                go_simp
                try with_reducible rfl
              try simp only [Act.put, List.setIfInBounds_toArray, List.set_cons_zero, List.set_cons_succ]
              refine GoG.store (by kernel_rfl) rfl (fun K hK => ?_)
              obtain ⟨z0, z1, z2⟩ := ST.out.cells
              have f0 := ST.out.bk.frozen 0
              have f1 := ST.out.bk.frozen 1
              have f2 := ST.out.bk.frozen 2
              go_simp
              refine hK.out _ _ ?_
              clear hK K
              try simp only [Act.put, List.setIfInBounds_toArray, List.set_cons_zero, List.set_cons_succ]
              refine GoG.pure2 26 (some 44) (v := ?_) (by kernel_rfl) rfl rfl (by kernel_rfl) (by kernel_rfl) (by kernel_rfl) (fun _ _ _ h => h) (Or.inl ⟨by rfl, ?_⟩) ?_
              rotate_left
              · intro w' hSw
                try dsimp only at hSw
                go_simp
                try with_reducible rfl
              try simp only [Act.put, List.setIfInBounds_toArray, List.set_cons_zero, List.set_cons_succ]
              refine GoG.pure2 27 (some 45) (v := ?_) (by kernel_rfl) rfl rfl (by kernel_rfl) (by kernel_rfl) (by kernel_rfl) (fun _ _ _ h => h) (Or.inl ⟨by rfl, ?_⟩) ?_
              rotate_left
              · intro w' hSw
                try dsimp only at hSw
                go_simp
                try with_reducible rfl
              try simp only [Act.put, List.setIfInBounds_toArray, List.set_cons_zero, List.set_cons_succ]
              refine GoG.store2 28 (by kernel_rfl) (by kernel_rfl) rfl (fun K hK => ?_)
              go_simp
              refine hK.out _ _ ?_
              clear hK K
              try simp only [Act.put, List.setIfInBounds_toArray, List.set_cons_zero, List.set_cons_succ]
              refine GoG.pure2 29 (some 46) (v := ?_) (by kernel_rfl) rfl rfl (by kernel_rfl) (by kernel_rfl) (by kernel_rfl) (fun _ _ _ h => h) (Or.inl ⟨by rfl, ?_⟩) ?_
              rotate_left
              · intro w' hSw
                try dsimp only at hSw
                go_simp
                try with_reducible rfl
              try simp only [Act.put, List.setIfInBounds_toArray, List.set_cons_zero, List.set_cons_succ]
              refine GoG.pure2 30 (some 47) (v := ?_) (by kernel_rfl) rfl rfl (by kernel_rfl) (by kernel_rfl) (by kernel_rfl) (fun _ _ _ h => h) (Or.inl ⟨by rfl, ?_⟩) ?_
              rotate_left
              · intro w' hSw
                try dsimp only at hSw
                go_simp
                try with_reducible rfl
              try simp only [Act.put, List.setIfInBounds_toArray, List.set_cons_zero, List.set_cons_succ]
              refine GoG.last2 31 (by kernel_rfl) (by kernel_rfl) (by kernel_rfl) rfl (fun K hK => ?_)
              go_simp
              refine hK.out _ _ ?_
              clear hK K z0 z1 z2 f0 f1 f2
              have SD := hide ST.out.done
              clear ST
              go_wp2_with (fail)
              go_roundw
              case rel => exact ⟨k + 1, by omega, by go_num, _, _, _, _, _, _, by
                have h := SD.out
                rw [HE1.out, ← List.replicate_succ'] at h
                exact h⟩
              case measure => simp [intOf]; omega
            refine EachG.cons (i := 21) rfl (fun K hK => ?_) ?_
            · go_simp
              obtain ⟨q4, hq1⟩ : ∃ x, x = q3.alloc (.cells #[.bool false] 4) := ⟨_, rfl⟩
              obtain ⟨vb3, hv3⟩ : ∃ x, x = q3.heap.size := ⟨_, rfl⟩
              have XN := hide (show Ext q3 q4 by rw [hq1]; exact Ext.new _ _)
              have V2 := hide (Ext.blk XN.out V2.out)
              have V3 := hide (show Blk q4 vb3 4 #[.bool false] by rw [hq1, hv3]; exact Blk.new _ _ _)
              have VN3 := hide (show q0.heap.size ≤ vb3 by rw [hv3]; exact ST.out.hq)
              have ST := hide (ST.out.ext XN.out)
              rw [← hq1, ← hv3]
              clear hq1 hv3 XN
              refine hK.out _ _ ST.out.cells (fun hHeld => ?_)
              clear hK K
              try simp only [Act.put, List.setIfInBounds_toArray, List.set_cons_zero, List.set_cons_succ]
              refine GoG.each (rs := [16]) (by kernel_rfl) (by kernel_rfl) ?_
              refine EachG.cons (i := 16) rfl (fun K hK => ?_) EachG.nil
              refine step_append_any q4 rfl (.tmp 32) (.tmp 34) 56 rfl W.heap.size 9 i9 _ 1 16 Try.underlying56 hi9 hz9 hs9 hb9 rfl (by omega) (.slice A2 k c2) k (sv (blanks k)) (by rfl) ST.out.o2 _ _ 1 1 [.string (str (rep 0))] (by rfl) (reads_blk (m := 1) V2.out rfl) (by simp [Value.oneCell']) (by unfold maxLen; omega) (by omega) ST.out.x.size ?_
              intro v1 q5 ho1 hg1 hat1
              obtain ⟨B2, d2, hv1, _⟩ := own_form ho1
              subst hv1
              have V3 := hide (V3.out.grown hg1 (fun e => absurd (LO2.out _ e.symm) (Nat.not_lt.2 VN3.out)))
              have ST := hide (ST.out.app2 hg1 ho1 hat1)
              refine hK.out _ _ ST.out.cells (fun hHeld => ?_)
              clear hK K ho1 hg1 hat1
              change GoG _ _ _ _ _ _ _ _ (Act.put _ (some 35) _) _
              simp only [Act.put, List.setIfInBounds_toArray, List.set_cons_zero, List.set_cons_succ]
              refine GoG.each (rs := [22]) (by kernel_rfl) (by kernel_rfl) ?_
              refine EachG.cons (i := 22) rfl (fun K hK => ?_) EachG.nil
              refine step_append_any q5 rfl (.tmp 39) (.tmp 40) 57 rfl W.heap.size 4 i4 _ 1 1 Try.underlying57 hi4 hz4 hs4 hb4 rfl (by omega) (.slice A3 k c3) k (bb (List.replicate k false)) (by rfl) ST.out.o3 _ _ 1 1 [.bool false] (by rfl) (reads_blk (m := 1) V3.out rfl) (by simp [Value.oneCell']) (by unfold maxLen; omega) (by omega) ST.out.x.size ?_
              intro v1 q6 ho1 hg1 hat1
              obtain ⟨B3, d3, hv1, _⟩ := own_form ho1
              subst hv1
              have ST := hide (ST.out.app3 hg1 ho1 hat1)
              refine hK.out _ _ ST.out.cells (fun hHeld => ?_)
              clear hK K ho1 hg1 hat1
              change GoG _ _ _ _ _ _ _ _ (Act.put _ (some 41) _) _
              simp only [Act.put, List.setIfInBounds_toArray, List.set_cons_zero, List.set_cons_succ]
              refine GoG.take 23 30 (some 42) (v := ?_) rfl rfl (by kernel_rfl) (by kernel_rfl) (by kernel_rfl) (fun _ _ _ h => h) (Or.inl ⟨by rfl, ?_⟩) (by assumption) ?_
              rotate_left
              · intro w' hSw
                try dsimp only at hSw
                go_simp
                try with_reducible rfl
              try simp only [Act.put, List.setIfInBounds_toArray, List.set_cons_zero, List.set_cons_succ]
              refine GoG.take 24 30 (some 43) (v := ?_) rfl rfl (by kernel_rfl) (by kernel_rfl) (by kernel_rfl) (fun _ _ _ h => h) (Or.inl ⟨by rfl, ?_⟩) (by assumption) ?_
              rotate_left
              · intro w' hSw
                try dsimp only at hSw
                go_simp
                try with_reducible rfl
              try simp only [Act.put, List.setIfInBounds_toArray, List.set_cons_zero, List.set_cons_succ]
              refine GoG.store (by kernel_rfl) rfl (fun K hK => ?_)
              obtain ⟨z0, z1, z2⟩ := ST.out.cells
              have f0 := ST.out.bk.frozen 0
              have f1 := ST.out.bk.frozen 1
              have f2 := ST.out.bk.frozen 2
              go_simp
              refine hK.out _ _ ?_
              clear hK K
              try simp only [Act.put, List.setIfInBounds_toArray, List.set_cons_zero, List.set_cons_succ]
              refine GoG.pure2 26 (some 44) (v := ?_) (by kernel_rfl) rfl rfl (by kernel_rfl) (by kernel_rfl) (by kernel_rfl) (fun _ _ _ h => h) (Or.inl ⟨by rfl, ?_⟩) ?_
              rotate_left
              · intro w' hSw
                try dsimp only at hSw
                go_simp
                try with_reducible rfl
              try simp only [Act.put, List.setIfInBounds_toArray, List.set_cons_zero, List.set_cons_succ]
              refine GoG.pure2 27 (some 45) (v := ?_) (by kernel_rfl) rfl rfl (by kernel_rfl) (by kernel_rfl) (by kernel_rfl) (fun _ _ _ h => h) (Or.inl ⟨by rfl, ?_⟩) ?_
              rotate_left
              · intro w' hSw
                try dsimp only at hSw
                go_simp
                try with_reducible rfl
              try simp only [Act.put, List.setIfInBounds_toArray, List.set_cons_zero, List.set_cons_succ]
              refine GoG.store2 28 (by kernel_rfl) (by kernel_rfl) rfl (fun K hK => ?_)
              go_simp
              refine hK.out _ _ ?_
              clear hK K
              try simp only [Act.put, List.setIfInBounds_toArray, List.set_cons_zero, List.set_cons_succ]
              refine GoG.pure2 29 (some 46) (v := ?_) (by kernel_rfl) rfl rfl (by kernel_rfl) (by kernel_rfl) (by kernel_rfl) (fun _ _ _ h => h) (Or.inl ⟨by rfl, ?_⟩) ?_
              rotate_left
              · intro w' hSw
                try dsimp only at hSw
                go_simp
                try with_reducible rfl
              try simp only [Act.put, List.setIfInBounds_toArray, List.set_cons_zero, List.set_cons_succ]
              refine GoG.pure2 30 (some 47) (v := ?_) (by kernel_rfl) rfl rfl (by kernel_rfl) (by kernel_rfl) (by kernel_rfl) (fun _ _ _ h => h) (Or.inl ⟨by rfl, ?_⟩) ?_
              rotate_left
              · intro w' hSw
                try dsimp only at hSw
                go_simp
                try with_reducible rfl
              try simp only [Act.put, List.setIfInBounds_toArray, List.set_cons_zero, List.set_cons_succ]
              refine GoG.last2 31 (by kernel_rfl) (by kernel_rfl) (by kernel_rfl) rfl (fun K hK => ?_)
              go_simp
              refine hK.out _ _ ?_
              clear hK K z0 z1 z2 f0 f1 f2
              have SD := hide ST.out.done
              clear ST
              go_wp2_with (fail)
              go_roundw
              case rel => exact ⟨k + 1, by omega, by go_num, _, _, _, _, _, _, by
                have h := SD.out
                rw [HE1.out, ← List.replicate_succ'] at h
                exact h⟩
              case measure => simp [intOf]; omega
            exact EachG.nil
          refine EachG.cons (i := 21) rfl (fun K hK => ?_) ?_
          · go_simp
            obtain ⟨q3, hq1⟩ : ∃ x, x = q2.alloc (.cells #[.bool false] 4) := ⟨_, rfl⟩
            obtain ⟨vb3, hv3⟩ : ∃ x, x = q2.heap.size := ⟨_, rfl⟩
            have XN := hide (show Ext q2 q3 by rw [hq1]; exact Ext.new _ _)
            have V2 := hide (Ext.blk XN.out V2.out)
            have V1 := hide (Ext.blk XN.out V1.out)
            have V3 := hide (show Blk q3 vb3 4 #[.bool false] by rw [hq1, hv3]; exact Blk.new _ _ _)
            have VN3 := hide (show q0.heap.size ≤ vb3 by rw [hv3]; exact ST.out.hq)
            have ST := hide (ST.out.ext XN.out)
            rw [← hq1, ← hv3]
            clear hq1 hv3 XN
            refine hK.out _ _ ST.out.cells (fun hHeld => ?_)
            clear hK K
            try simp only [Act.put, List.setIfInBounds_toArray, List.set_cons_zero, List.set_cons_succ]
            refine GoG.each (rs := [9]) (by kernel_rfl) (by kernel_rfl) ?_
            refine EachG.cons (i := 9) rfl (fun K hK => ?_) EachG.nil
            refine step_append_any q3 rfl (.tmp 25) (.tmp 27) 56 rfl W.heap.size 9 i9 _ 1 16 Try.underlying56 hi9 hz9 hs9 hb9 rfl (by omega) (.slice A1 k c1) k (sv (blanks k)) (by rfl) ST.out.o1 _ _ 1 1 [.string (str (rep 0))] (by rfl) (reads_blk (m := 1) V1.out rfl) (by simp [Value.oneCell']) (by unfold maxLen; omega) (by omega) ST.out.x.size ?_
            intro v1 q4 ho1 hg1 hat1
            obtain ⟨B1, d1, hv1, _⟩ := own_form ho1
            subst hv1
            have V2 := hide (V2.out.grown hg1 (fun e => absurd (LO1.out _ e.symm) (Nat.not_lt.2 VN2.out)))
            have V3 := hide (V3.out.grown hg1 (fun e => absurd (LO1.out _ e.symm) (Nat.not_lt.2 VN3.out)))
            have ST := hide (ST.out.app1 hg1 ho1 hat1)
            refine hK.out _ _ ST.out.cells (fun hHeld => ?_)
            clear hK K ho1 hg1 hat1
            change GoG _ _ _ _ _ _ _ _ (Act.put _ (some 28) _) _
            simp only [Act.put, List.setIfInBounds_toArray, List.set_cons_zero, List.set_cons_succ]
            refine GoG.each (rs := [16]) (by kernel_rfl) (by kernel_rfl) ?_
            refine EachG.cons (i := 16) rfl (fun K hK => ?_) EachG.nil
            refine step_append_any q4 rfl (.tmp 32) (.tmp 34) 56 rfl W.heap.size 9 i9 _ 1 16 Try.underlying56 hi9 hz9 hs9 hb9 rfl (by omega) (.slice A2 k c2) k (sv (blanks k)) (by rfl) ST.out.o2 _ _ 1 1 [.string (str (rep 0))] (by rfl) (reads_blk (m := 1) V2.out rfl) (by simp [Value.oneCell']) (by unfold maxLen; omega) (by omega) ST.out.x.size ?_
            intro v1 q5 ho1 hg1 hat1
            obtain ⟨B2, d2, hv1, _⟩ := own_form ho1
            subst hv1
            have V3 := hide (V3.out.grown hg1 (fun e => absurd (LO2.out _ e.symm) (Nat.not_lt.2 VN3.out)))
            have ST := hide (ST.out.app2 hg1 ho1 hat1)
            refine hK.out _ _ ST.out.cells (fun hHeld => ?_)
            clear hK K ho1 hg1 hat1
            change GoG _ _ _ _ _ _ _ _ (Act.put _ (some 35) _) _
            simp only [Act.put, List.setIfInBounds_toArray, List.set_cons_zero, List.set_cons_succ]
            refine GoG.each (rs := [22]) (by kernel_rfl) (by kernel_rfl) ?_
            refine EachG.cons (i := 22) rfl (fun K hK => ?_) EachG.nil
            refine step_append_any q5 rfl (.tmp 39) (.tmp 40) 57 rfl W.heap.size 4 i4 _ 1 1 Try.underlying57 hi4 hz4 hs4 hb4 rfl (by omega) (.slice A3 k c3) k (bb (List.replicate k false)) (by rfl) ST.out.o3 _ _ 1 1 [.bool false] (by rfl) (reads_blk (m := 1) V3.out rfl) (by simp [Value.oneCell']) (by unfold maxLen; omega) (by omega) ST.out.x.size ?_
            intro v1 q6 ho1 hg1 hat1
            obtain ⟨B3, d3, hv1, _⟩ := own_form ho1
            subst hv1
            have ST := hide (ST.out.app3 hg1 ho1 hat1)
            refine hK.out _ _ ST.out.cells (fun hHeld => ?_)
            clear hK K ho1 hg1 hat1
            change GoG _ _ _ _ _ _ _ _ (Act.put _ (some 41) _) _
            simp only [Act.put, List.setIfInBounds_toArray, List.set_cons_zero, List.set_cons_succ]
            refine GoG.take 23 30 (some 42) (v := ?_) rfl rfl (by kernel_rfl) (by kernel_rfl) (by kernel_rfl) (fun _ _ _ h => h) (Or.inl ⟨by rfl, ?_⟩) (by assumption) ?_
            rotate_left
            · intro w' hSw
              try dsimp only at hSw
              go_simp
              try with_reducible rfl
            try simp only [Act.put, List.setIfInBounds_toArray, List.set_cons_zero, List.set_cons_succ]
            refine GoG.take 24 30 (some 43) (v := ?_) rfl rfl (by kernel_rfl) (by kernel_rfl) (by kernel_rfl) (fun _ _ _ h => h) (Or.inl ⟨by rfl, ?_⟩) (by assumption) ?_
            rotate_left
            · intro w' hSw
              try dsimp only at hSw
              go_simp
              try with_reducible rfl
            try simp only [Act.put, List.setIfInBounds_toArray, List.set_cons_zero, List.set_cons_succ]
            refine GoG.store (by kernel_rfl) rfl (fun K hK => ?_)
            obtain ⟨z0, z1, z2⟩ := ST.out.cells
            have f0 := ST.out.bk.frozen 0
            have f1 := ST.out.bk.frozen 1
            have f2 := ST.out.bk.frozen 2
            go_simp
            refine hK.out _ _ ?_
            clear hK K
            try simp only [Act.put, List.setIfInBounds_toArray, List.set_cons_zero, List.set_cons_succ]
            refine GoG.pure2 26 (some 44) (v := ?_) (by kernel_rfl) rfl rfl (by kernel_rfl) (by kernel_rfl) (by kernel_rfl) (fun _ _ _ h => h) (Or.inl ⟨by rfl, ?_⟩) ?_
            rotate_left
            · intro w' hSw
              try dsimp only at hSw
              go_simp
              try with_reducible rfl
            try simp only [Act.put, List.setIfInBounds_toArray, List.set_cons_zero, List.set_cons_succ]
            refine GoG.pure2 27 (some 45) (v := ?_) (by kernel_rfl) rfl rfl (by kernel_rfl) (by kernel_rfl) (by kernel_rfl) (fun _ _ _ h => h) (Or.inl ⟨by rfl, ?_⟩) ?_
            rotate_left
            · intro w' hSw
              try dsimp only at hSw
              go_simp
              try with_reducible rfl
            try simp only [Act.put, List.setIfInBounds_toArray, List.set_cons_zero, List.set_cons_succ]
            refine GoG.store2 28 (by kernel_rfl) (by kernel_rfl) rfl (fun K hK => ?_)
            go_simp
            refine hK.out _ _ ?_
            clear hK K
            try simp only [Act.put, List.setIfInBounds_toArray, List.set_cons_zero, List.set_cons_succ]
            refine GoG.pure2 29 (some 46) (v := ?_) (by kernel_rfl) rfl rfl (by kernel_rfl) (by kernel_rfl) (by kernel_rfl) (fun _ _ _ h => h) (Or.inl ⟨by rfl, ?_⟩) ?_
            rotate_left
            · intro w' hSw
              try dsimp only at hSw
              go_simp
              try with_reducible rfl
            try simp only [Act.put, List.setIfInBounds_toArray, List.set_cons_zero, List.set_cons_succ]
            refine GoG.pure2 30 (some 47) (v := ?_) (by kernel_rfl) rfl rfl (by kernel_rfl) (by kernel_rfl) (by kernel_rfl) (fun _ _ _ h => h) (Or.inl ⟨by rfl, ?_⟩) ?_
            rotate_left
            · intro w' hSw
              try dsimp only at hSw
              go_simp
              try with_reducible rfl
            try simp only [Act.put, List.setIfInBounds_toArray, List.set_cons_zero, List.set_cons_succ]
            refine GoG.last2 31 (by kernel_rfl) (by kernel_rfl) (by kernel_rfl) rfl (fun K hK => ?_)
            go_simp
            refine hK.out _ _ ?_
            clear hK K z0 z1 z2 f0 f1 f2
            have SD := hide ST.out.done
            clear ST
            go_wp2_with (fail)
            go_roundw
            case rel => exact ⟨k + 1, by omega, by go_num, _, _, _, _, _, _, by
              have h := SD.out
              rw [HE1.out, ← List.replicate_succ'] at h
              exact h⟩
            case measure => simp [intOf]; omega
          exact EachG.nil
        refine EachG.cons (i := 21) rfl (fun K hK => ?_) ?_
        · go_simp
          obtain ⟨q2, hq1⟩ : ∃ x, x = q1.alloc (.cells #[.bool false] 4) := ⟨_, rfl⟩
          obtain ⟨vb3, hv3⟩ : ∃ x, x = q1.heap.size := ⟨_, rfl⟩
          have XN := hide (show Ext q1 q2 by rw [hq1]; exact Ext.new _ _)
          have V2 := hide (Ext.blk XN.out V2.out)
          have V3 := hide (show Blk q2 vb3 4 #[.bool false] by rw [hq1, hv3]; exact Blk.new _ _ _)
          have VN3 := hide (show q0.heap.size ≤ vb3 by rw [hv3]; exact ST.out.hq)
          have ST := hide (ST.out.ext XN.out)
          rw [← hq1, ← hv3]
          clear hq1 hv3 XN
          refine hK.out _ _ ST.out.cells (fun hHeld => ?_)
          clear hK K
          try simp only [Act.put, List.setIfInBounds_toArray, List.set_cons_zero, List.set_cons_succ]
          refine GoG.each (rs := [8]) (by kernel_rfl) (by kernel_rfl) ?_
          refine EachG.cons (i := 8) rfl (fun K hK => ?_) EachG.nil
          go_simp
          obtain ⟨q3, hq1⟩ : ∃ x, x = q2.alloc (.cells #[.string (str (rep 0))] 9) := ⟨_, rfl⟩
          obtain ⟨vb1, hv1⟩ : ∃ x, x = q2.heap.size := ⟨_, rfl⟩
          have XN := hide (show Ext q2 q3 by rw [hq1]; exact Ext.new _ _)
          have V2 := hide (Ext.blk XN.out V2.out)
          have V3 := hide (Ext.blk XN.out V3.out)
          have V1 := hide (show Blk q3 vb1 9 #[.string (str (rep 0))] by rw [hq1, hv1]; exact Blk.new _ _ _)
          have VN1 := hide (show q0.heap.size ≤ vb1 by rw [hv1]; exact ST.out.hq)
          have ST := hide (ST.out.ext XN.out)
          rw [← hq1, ← hv1]
          clear hq1 hv1 XN
          refine hK.out _ _ ST.out.cells (fun hHeld => ?_)
          clear hK K
          try simp only [Act.put, List.setIfInBounds_toArray, List.set_cons_zero, List.set_cons_succ]
          refine GoG.each (rs := [9]) (by kernel_rfl) (by kernel_rfl) ?_
          refine EachG.cons (i := 9) rfl (fun K hK => ?_) EachG.nil
          refine step_append_any q3 rfl (.tmp 25) (.tmp 27) 56 rfl W.heap.size 9 i9 _ 1 16 Try.underlying56 hi9 hz9 hs9 hb9 rfl (by omega) (.slice A1 k c1) k (sv (blanks k)) (by rfl) ST.out.o1 _ _ 1 1 [.string (str (rep 0))] (by rfl) (reads_blk (m := 1) V1.out rfl) (by simp [Value.oneCell']) (by unfold maxLen; omega) (by omega) ST.out.x.size ?_
          intro v1 q4 ho1 hg1 hat1
          obtain ⟨B1, d1, hv1, _⟩ := own_form ho1
          subst hv1
          have V2 := hide (V2.out.grown hg1 (fun e => absurd (LO1.out _ e.symm) (Nat.not_lt.2 VN2.out)))
          have V3 := hide (V3.out.grown hg1 (fun e => absurd (LO1.out _ e.symm) (Nat.not_lt.2 VN3.out)))
          have ST := hide (ST.out.app1 hg1 ho1 hat1)
          refine hK.out _ _ ST.out.cells (fun hHeld => ?_)
          clear hK K ho1 hg1 hat1
          change GoG _ _ _ _ _ _ _ _ (Act.put _ (some 28) _) _
          simp only [Act.put, List.setIfInBounds_toArray, List.set_cons_zero, List.set_cons_succ]
          refine GoG.each (rs := [16]) (by kernel_rfl) (by kernel_rfl) ?_
          refine EachG.cons (i := 16) rfl (fun K hK => ?_) EachG.nil
          refine step_append_any q4 rfl (.tmp 32) (.tmp 34) 56 rfl W.heap.size 9 i9 _ 1 16 Try.underlying56 hi9 hz9 hs9 hb9 rfl (by omega) (.slice A2 k c2) k (sv (blanks k)) (by rfl) ST.out.o2 _ _ 1 1 [.string (str (rep 0))] (by rfl) (reads_blk (m := 1) V2.out rfl) (by simp [Value.oneCell']) (by unfold maxLen; omega) (by omega) ST.out.x.size ?_
          intro v1 q5 ho1 hg1 hat1
          obtain ⟨B2, d2, hv1, _⟩ := own_form ho1
          subst hv1
          have V3 := hide (V3.out.grown hg1 (fun e => absurd (LO2.out _ e.symm) (Nat.not_lt.2 VN3.out)))
          have ST := hide (ST.out.app2 hg1 ho1 hat1)
          refine hK.out _ _ ST.out.cells (fun hHeld => ?_)
          clear hK K ho1 hg1 hat1
          change GoG _ _ _ _ _ _ _ _ (Act.put _ (some 35) _) _
          simp only [Act.put, List.setIfInBounds_toArray, List.set_cons_zero, List.set_cons_succ]
          refine GoG.each (rs := [22]) (by kernel_rfl) (by kernel_rfl) ?_
          refine EachG.cons (i := 22) rfl (fun K hK => ?_) EachG.nil
          refine step_append_any q5 rfl (.tmp 39) (.tmp 40) 57 rfl W.heap.size 4 i4 _ 1 1 Try.underlying57 hi4 hz4 hs4 hb4 rfl (by omega) (.slice A3 k c3) k (bb (List.replicate k false)) (by rfl) ST.out.o3 _ _ 1 1 [.bool false] (by rfl) (reads_blk (m := 1) V3.out rfl) (by simp [Value.oneCell']) (by unfold maxLen; omega) (by omega) ST.out.x.size ?_
          intro v1 q6 ho1 hg1 hat1
          obtain ⟨B3, d3, hv1, _⟩ := own_form ho1
          subst hv1
          have ST := hide (ST.out.app3 hg1 ho1 hat1)
          refine hK.out _ _ ST.out.cells (fun hHeld => ?_)
          clear hK K ho1 hg1 hat1
          change GoG _ _ _ _ _ _ _ _ (Act.put _ (some 41) _) _
          simp only [Act.put, List.setIfInBounds_toArray, List.set_cons_zero, List.set_cons_succ]
          refine GoG.take 23 30 (some 42) (v := ?_) rfl rfl (by kernel_rfl) (by kernel_rfl) (by kernel_rfl) (fun _ _ _ h => h) (Or.inl ⟨by rfl, ?_⟩) (by assumption) ?_
          rotate_left
          · intro w' hSw
            try dsimp only at hSw
            go_simp
            try with_reducible rfl
          try simp only [Act.put, List.setIfInBounds_toArray, List.set_cons_zero, List.set_cons_succ]
          refine GoG.take 24 30 (some 43) (v := ?_) rfl rfl (by kernel_rfl) (by kernel_rfl) (by kernel_rfl) (fun _ _ _ h => h) (Or.inl ⟨by rfl, ?_⟩) (by assumption) ?_
          rotate_left
          · intro w' hSw
            try dsimp only at hSw
            go_simp
            try with_reducible rfl
          try simp only [Act.put, List.setIfInBounds_toArray, List.set_cons_zero, List.set_cons_succ]
          refine GoG.store (by kernel_rfl) rfl (fun K hK => ?_)
          obtain ⟨z0, z1, z2⟩ := ST.out.cells
          have f0 := ST.out.bk.frozen 0
          have f1 := ST.out.bk.frozen 1
          have f2 := ST.out.bk.frozen 2
          go_simp
          refine hK.out _ _ ?_
          clear hK K
          try simp only [Act.put, List.setIfInBounds_toArray, List.set_cons_zero, List.set_cons_succ]
          refine GoG.pure2 26 (some 44) (v := ?_) (by kernel_rfl) rfl rfl (by kernel_rfl) (by kernel_rfl) (by kernel_rfl) (fun _ _ _ h => h) (Or.inl ⟨by rfl, ?_⟩) ?_
          rotate_left
          · intro w' hSw
            try dsimp only at hSw
            go_simp
            try with_reducible rfl
          try simp only [Act.put, List.setIfInBounds_toArray, List.set_cons_zero, List.set_cons_succ]
          refine GoG.pure2 27 (some 45) (v := ?_) (by kernel_rfl) rfl rfl (by kernel_rfl) (by kernel_rfl) (by kernel_rfl) (fun _ _ _ h => h) (Or.inl ⟨by rfl, ?_⟩) ?_
          rotate_left
          · intro w' hSw
            try dsimp only at hSw
            go_simp
            try with_reducible rfl
          try simp only [Act.put, List.setIfInBounds_toArray, List.set_cons_zero, List.set_cons_succ]
          refine GoG.store2 28 (by kernel_rfl) (by kernel_rfl) rfl (fun K hK => ?_)
          go_simp
          refine hK.out _ _ ?_
          clear hK K
          try simp only [Act.put, List.setIfInBounds_toArray, List.set_cons_zero, List.set_cons_succ]
          refine GoG.pure2 29 (some 46) (v := ?_) (by kernel_rfl) rfl rfl (by kernel_rfl) (by kernel_rfl) (by kernel_rfl) (fun _ _ _ h => h) (Or.inl ⟨by rfl, ?_⟩) ?_
          rotate_left
          · intro w' hSw
            try dsimp only at hSw
            go_simp
            try with_reducible rfl
          try simp only [Act.put, List.setIfInBounds_toArray, List.set_cons_zero, List.set_cons_succ]
          refine GoG.pure2 30 (some 47) (v := ?_) (by kernel_rfl) rfl rfl (by kernel_rfl) (by kernel_rfl) (by kernel_rfl) (fun _ _ _ h => h) (Or.inl ⟨by rfl, ?_⟩) ?_
          rotate_left
          · intro w' hSw
            try dsimp only at hSw
            go_simp
            try with_reducible rfl
          try simp only [Act.put, List.setIfInBounds_toArray, List.set_cons_zero, List.set_cons_succ]
          refine GoG.last2 31 (by kernel_rfl) (by kernel_rfl) (by kernel_rfl) rfl (fun K hK => ?_)
          go_simp
          refine hK.out _ _ ?_
          clear hK K z0 z1 z2 f0 f1 f2
          have SD := hide ST.out.done
          clear ST
          go_wp2_with (fail)
          go_roundw
          case rel => exact ⟨k + 1, by omega, by go_num, _, _, _, _, _, _, by
            have h := SD.out
            rw [HE1.out, ← List.replicate_succ'] at h
            exact h⟩
          case measure => simp [intOf]; omega
        exact EachG.nil
      refine EachG.cons (i := 21) rfl (fun K hK => ?_) ?_
      · go_simp
        obtain ⟨q1, hq1⟩ : ∃ x, x = q0.alloc (.cells #[.bool false] 4) := ⟨_, rfl⟩
        obtain ⟨vb3, hv3⟩ : ∃ x, x = q0.heap.size := ⟨_, rfl⟩
        have XN := hide (show Ext q0 q1 by rw [hq1]; exact Ext.new _ _)
        have V3 := hide (show Blk q1 vb3 4 #[.bool false] by rw [hq1, hv3]; exact Blk.new _ _ _)
        have VN3 := hide (show q0.heap.size ≤ vb3 by rw [hv3]; exact ST.out.hq)
        have ST := hide (ST.out.ext XN.out)
        rw [← hq1, ← hv3]
        clear hq1 hv3 XN
        refine hK.out _ _ ST.out.cells (fun hHeld => ?_)
        clear hK K
        try simp only [Act.put, List.setIfInBounds_toArray, List.set_cons_zero, List.set_cons_succ]
        refine GoG.each (rs := [8, 15]) (by kernel_rfl) (by kernel_rfl) ?_
        refine EachG.cons (i := 8) rfl (fun K hK => ?_) ?_
        · go_simp
          obtain ⟨q2, hq1⟩ : ∃ x, x = q1.alloc (.cells #[.string (str (rep 0))] 9) := ⟨_, rfl⟩
          obtain ⟨vb1, hv1⟩ : ∃ x, x = q1.heap.size := ⟨_, rfl⟩
          have XN := hide (show Ext q1 q2 by rw [hq1]; exact Ext.new _ _)
          have V3 := hide (Ext.blk XN.out V3.out)
          have V1 := hide (show Blk q2 vb1 9 #[.string (str (rep 0))] by rw [hq1, hv1]; exact Blk.new _ _ _)
          have VN1 := hide (show q0.heap.size ≤ vb1 by rw [hv1]; exact ST.out.hq)
          have ST := hide (ST.out.ext XN.out)
          rw [← hq1, ← hv1]
          clear hq1 hv1 XN
          refine hK.out _ _ ST.out.cells (fun hHeld => ?_)
          clear hK K
          try simp only [Act.put, List.setIfInBounds_toArray, List.set_cons_zero, List.set_cons_succ]
          refine GoG.each (rs := [9, 15]) (by kernel_rfl) (by kernel_rfl) ?_
          refine EachG.cons (i := 9) rfl (fun K hK => ?_) ?_
          · refine step_append_any q2 rfl (.tmp 25) (.tmp 27) 56 rfl W.heap.size 9 i9 _ 1 16 Try.underlying56 hi9 hz9 hs9 hb9 rfl (by omega) (.slice A1 k c1) k (sv (blanks k)) (by rfl) ST.out.o1 _ _ 1 1 [.string (str (rep 0))] (by rfl) (reads_blk (m := 1) V1.out rfl) (by simp [Value.oneCell']) (by unfold maxLen; omega) (by omega) ST.out.x.size ?_
            intro v1 q3 ho1 hg1 hat1
            obtain ⟨B1, d1, hv1, _⟩ := own_form ho1
            subst hv1
            have V3 := hide (V3.out.grown hg1 (fun e => absurd (LO1.out _ e.symm) (Nat.not_lt.2 VN3.out)))
            have ST := hide (ST.out.app1 hg1 ho1 hat1)
            refine hK.out _ _ ST.out.cells (fun hHeld => ?_)
            clear hK K ho1 hg1 hat1
            change GoG _ _ _ _ _ _ _ _ (Act.put _ (some 28) _) _
            simp only [Act.put, List.setIfInBounds_toArray, List.set_cons_zero, List.set_cons_succ]
            refine GoG.each (rs := [15]) (by kernel_rfl) (by kernel_rfl) ?_
            refine EachG.cons (i := 15) rfl (fun K hK => ?_) EachG.nil
            go_simp
            obtain ⟨q4, hq1⟩ : ∃ x, x = q3.alloc (.cells #[.string (str (rep 0))] 9) := ⟨_, rfl⟩
            obtain ⟨vb2, hv2⟩ : ∃ x, x = q3.heap.size := ⟨_, rfl⟩
            have XN := hide (show Ext q3 q4 by rw [hq1]; exact Ext.new _ _)
            have V3 := hide (Ext.blk XN.out V3.out)
            have V2 := hide (show Blk q4 vb2 9 #[.string (str (rep 0))] by rw [hq1, hv2]; exact Blk.new _ _ _)
            have VN2 := hide (show q0.heap.size ≤ vb2 by rw [hv2]; exact ST.out.hq)
            have ST := hide (ST.out.ext XN.out)
            rw [← hq1, ← hv2]
            clear hq1 hv2 XN
            refine hK.out _ _ ST.out.cells (fun hHeld => ?_)
            clear hK K
            try simp only [Act.put, List.setIfInBounds_toArray, List.set_cons_zero, List.set_cons_succ]
            refine GoG.each (rs := [16]) (by kernel_rfl) (by kernel_rfl) ?_
            refine EachG.cons (i := 16) rfl (fun K hK => ?_) EachG.nil
            refine step_append_any q4 rfl (.tmp 32) (.tmp 34) 56 rfl W.heap.size 9 i9 _ 1 16 Try.underlying56 hi9 hz9 hs9 hb9 rfl (by omega) (.slice A2 k c2) k (sv (blanks k)) (by rfl) ST.out.o2 _ _ 1 1 [.string (str (rep 0))] (by rfl) (reads_blk (m := 1) V2.out rfl) (by simp [Value.oneCell']) (by unfold maxLen; omega) (by omega) ST.out.x.size ?_
            intro v1 q5 ho1 hg1 hat1
            obtain ⟨B2, d2, hv1, _⟩ := own_form ho1
            subst hv1
            have V3 := hide (V3.out.grown hg1 (fun e => absurd (LO2.out _ e.symm) (Nat.not_lt.2 VN3.out)))
            have ST := hide (ST.out.app2 hg1 ho1 hat1)
            refine hK.out _ _ ST.out.cells (fun hHeld => ?_)
            clear hK K ho1 hg1 hat1
            change GoG _ _ _ _ _ _ _ _ (Act.put _ (some 35) _) _
            simp only [Act.put, List.setIfInBounds_toArray, List.set_cons_zero, List.set_cons_succ]
            refine GoG.each (rs := [22]) (by kernel_rfl) (by kernel_rfl) ?_
            refine EachG.cons (i := 22) rfl (fun K hK => ?_) EachG.nil
            refine step_append_any q5 rfl (.tmp 39) (.tmp 40) 57 rfl W.heap.size 4 i4 _ 1 1 Try.underlying57 hi4 hz4 hs4 hb4 rfl (by omega) (.slice A3 k c3) k (bb (List.replicate k false)) (by rfl) ST.out.o3 _ _ 1 1 [.bool false] (by rfl) (reads_blk (m := 1) V3.out rfl) (by simp [Value.oneCell']) (by unfold maxLen; omega) (by omega) ST.out.x.size ?_
            intro v1 q6 ho1 hg1 hat1
            obtain ⟨B3, d3, hv1, _⟩ := own_form ho1
            subst hv1
            have ST := hide (ST.out.app3 hg1 ho1 hat1)
            refine hK.out _ _ ST.out.cells (fun hHeld => ?_)
            clear hK K ho1 hg1 hat1
            change GoG _ _ _ _ _ _ _ _ (Act.put _ (some 41) _) _
            simp only [Act.put, List.setIfInBounds_toArray, List.set_cons_zero, List.set_cons_succ]
            refine GoG.take 23 30 (some 42) (v := ?_) rfl rfl (by kernel_rfl) (by kernel_rfl) (by kernel_rfl) (fun _ _ _ h => h) (Or.inl ⟨by rfl, ?_⟩) (by assumption) ?_
            rotate_left
            · intro w' hSw
              try dsimp only at hSw
              go_simp
              try with_reducible rfl
            try simp only [Act.put, List.setIfInBounds_toArray, List.set_cons_zero, List.set_cons_succ]
            refine GoG.take 24 30 (some 43) (v := ?_) rfl rfl (by kernel_rfl) (by kernel_rfl) (by kernel_rfl) (fun _ _ _ h => h) (Or.inl ⟨by rfl, ?_⟩) (by assumption) ?_
            rotate_left
            · intro w' hSw
              try dsimp only at hSw
              go_simp
              try with_reducible rfl
            try simp only [Act.put, List.setIfInBounds_toArray, List.set_cons_zero, List.set_cons_succ]
            refine GoG.store (by kernel_rfl) rfl (fun K hK => ?_)
            obtain ⟨z0, z1, z2⟩ := ST.out.cells
            have f0 := ST.out.bk.frozen 0
            have f1 := ST.out.bk.frozen 1
            have f2 := ST.out.bk.frozen 2
            go_simp
            refine hK.out _ _ ?_
            clear hK K
            try simp only [Act.put, List.setIfInBounds_toArray, List.set_cons_zero, List.set_cons_succ]
            refine GoG.pure2 26 (some 44) (v := ?_) (by kernel_rfl) rfl rfl (by kernel_rfl) (by kernel_rfl) (by kernel_rfl) (fun _ _ _ h => h) (Or.inl ⟨by rfl, ?_⟩) ?_
            rotate_left
            · intro w' hSw
              try dsimp only at hSw
              go_simp
              try with_reducible rfl
            try simp only [Act.put, List.setIfInBounds_toArray, List.set_cons_zero, List.set_cons_succ]
            refine GoG.pure2 27 (some 45) (v := ?_) (by kernel_rfl) rfl rfl (by kernel_rfl) (by kernel_rfl) (by kernel_rfl) (fun _ _ _ h => h) (Or.inl ⟨by rfl, ?_⟩) ?_
            rotate_left
            · intro w' hSw
              try dsimp only at hSw
              go_simp
              try with_reducible rfl
            try simp only [Act.put, List.setIfInBounds_toArray, List.set_cons_zero, List.set_cons_succ]
            refine GoG.store2 28 (by kernel_rfl) (by kernel_rfl) rfl (fun K hK => ?_)
            go_simp
            refine hK.out _ _ ?_
            clear hK K
            try simp only [Act.put, List.setIfInBounds_toArray, List.set_cons_zero, List.set_cons_succ]
            refine GoG.pure2 29 (some 46) (v := ?_) (by kernel_rfl) rfl rfl (by kernel_rfl) (by kernel_rfl) (by kernel_rfl) (fun _ _ _ h => h) (Or.inl ⟨by rfl, ?_⟩) ?_
            rotate_left
            · intro w' hSw
              try dsimp only at hSw
              go_simp
              try with_reducible rfl
            try simp only [Act.put, List.setIfInBounds_toArray, List.set_cons_zero, List.set_cons_succ]
            refine GoG.pure2 30 (some 47) (v := ?_) (by kernel_rfl) rfl rfl (by kernel_rfl) (by kernel_rfl) (by kernel_rfl) (fun _ _ _ h => h) (Or.inl ⟨by rfl, ?_⟩) ?_
            rotate_left
            · intro w' hSw
              try dsimp only at hSw
              go_simp
              try with_reducible rfl
            try simp only [Act.put, List.setIfInBounds_toArray, List.set_cons_zero, List.set_cons_succ]
            refine GoG.last2 31 (by kernel_rfl) (by kernel_rfl) (by kernel_rfl) rfl (fun K hK => ?_)
            go_simp
            refine hK.out _ _ ?_
            clear hK K z0 z1 z2 f0 f1 f2
            have SD := hide ST.out.done
            clear ST
            go_wp2_with (fail)
            go_roundw
            case rel => exact ⟨k + 1, by omega, by go_num, _, _, _, _, _, _, by
              have h := SD.out
              rw [HE1.out, ← List.replicate_succ'] at h
              exact h⟩
            case measure => simp [intOf]; omega
          refine EachG.cons (i := 15) rfl (fun K hK => ?_) ?_
          · go_simp
            obtain ⟨q3, hq1⟩ : ∃ x, x = q2.alloc (.cells #[.string (str (rep 0))] 9) := ⟨_, rfl⟩
            obtain ⟨vb2, hv2⟩ : ∃ x, x = q2.heap.size := ⟨_, rfl⟩
            have XN := hide (show Ext q2 q3 by rw [hq1]; exact Ext.new _ _)
            have V3 := hide (Ext.blk XN.out V3.out)
            have V1 := hide (Ext.blk XN.out V1.out)
            have V2 := hide (show Blk q3 vb2 9 #[.string (str (rep 0))] by rw [hq1, hv2]; exact Blk.new _ _ _)
            have VN2 := hide (show q0.heap.size ≤ vb2 by rw [hv2]; exact ST.out.hq)
            have ST := hide (ST.out.ext XN.out)
            rw [← hq1, ← hv2]
            clear hq1 hv2 XN
            refine hK.out _ _ ST.out.cells (fun hHeld => ?_)
            clear hK K
            try simp only [Act.put, List.setIfInBounds_toArray, List.set_cons_zero, List.set_cons_succ]
            refine GoG.each (rs := [9]) (by kernel_rfl) (by kernel_rfl) ?_
            refine EachG.cons (i := 9) rfl (fun K hK => ?_) EachG.nil
            refine step_append_any q3 rfl (.tmp 25) (.tmp 27) 56 rfl W.heap.size 9 i9 _ 1 16 Try.underlying56 hi9 hz9 hs9 hb9 rfl (by omega) (.slice A1 k c1) k (sv (blanks k)) (by rfl) ST.out.o1 _ _ 1 1 [.string (str (rep 0))] (by rfl) (reads_blk (m := 1) V1.out rfl) (by simp [Value.oneCell']) (by unfold maxLen; omega) (by omega) ST.out.x.size ?_
            intro v1 q4 ho1 hg1 hat1
            obtain ⟨B1, d1, hv1, _⟩ := own_form ho1
            subst hv1
            have V3 := hide (V3.out.grown hg1 (fun e => absurd (LO1.out _ e.symm) (Nat.not_lt.2 VN3.out)))
            have V2 := hide (V2.out.grown hg1 (fun e => absurd (LO1.out _ e.symm) (Nat.not_lt.2 VN2.out)))
            have ST := hide (ST.out.app1 hg1 ho1 hat1)
            refine hK.out _ _ ST.out.cells (fun hHeld => ?_)
            clear hK K ho1 hg1 hat1
            change GoG _ _ _ _ _ _ _ _ (Act.put _ (some 28) _) _
            simp only [Act.put, List.setIfInBounds_toArray, List.set_cons_zero, List.set_cons_succ]
            refine GoG.each (rs := [16]) (by kernel_rfl) (by kernel_rfl) ?_
            refine EachG.cons (i := 16) rfl (fun K hK => ?_) EachG.nil
            refine step_append_any q4 rfl (.tmp 32) (.tmp 34) 56 rfl W.heap.size 9 i9 _ 1 16 Try.underlying56 hi9 hz9 hs9 hb9 rfl (by omega) (.slice A2 k c2) k (sv (blanks k)) (by rfl) ST.out.o2 _ _ 1 1 [.string (str (rep 0))] (by rfl) (reads_blk (m := 1) V2.out rfl) (by simp [Value.oneCell']) (by unfold maxLen; omega) (by omega) ST.out.x.size ?_
            intro v1 q5 ho1 hg1 hat1
            obtain ⟨B2, d2, hv1, _⟩ := own_form ho1
            subst hv1
            have V3 := hide (V3.out.grown hg1 (fun e => absurd (LO2.out _ e.symm) (Nat.not_lt.2 VN3.out)))
            have ST := hide (ST.out.app2 hg1 ho1 hat1)
            refine hK.out _ _ ST.out.cells (fun hHeld => ?_)
            clear hK K ho1 hg1 hat1
            change GoG _ _ _ _ _ _ _ _ (Act.put _ (some 35) _) _
            simp only [Act.put, List.setIfInBounds_toArray, List.set_cons_zero, List.set_cons_succ]
            refine GoG.each (rs := [22]) (by kernel_rfl) (by kernel_rfl) ?_
            refine EachG.cons (i := 22) rfl (fun K hK => ?_) EachG.nil
            refine step_append_any q5 rfl (.tmp 39) (.tmp 40) 57 rfl W.heap.size 4 i4 _ 1 1 Try.underlying57 hi4 hz4 hs4 hb4 rfl (by omega) (.slice A3 k c3) k (bb (List.replicate k false)) (by rfl) ST.out.o3 _ _ 1 1 [.bool false] (by rfl) (reads_blk (m := 1) V3.out rfl) (by simp [Value.oneCell']) (by unfold maxLen; omega) (by omega) ST.out.x.size ?_
            intro v1 q6 ho1 hg1 hat1
            obtain ⟨B3, d3, hv1, _⟩ := own_form ho1
            subst hv1
            have ST := hide (ST.out.app3 hg1 ho1 hat1)
            refine hK.out _ _ ST.out.cells (fun hHeld => ?_)
            clear hK K ho1 hg1 hat1
            change GoG _ _ _ _ _ _ _ _ (Act.put _ (some 41) _) _
            simp only [Act.put, List.setIfInBounds_toArray, List.set_cons_zero, List.set_cons_succ]
            refine GoG.take 23 30 (some 42) (v := ?_) rfl rfl (by kernel_rfl) (by kernel_rfl) (by kernel_rfl) (fun _ _ _ h => h) (Or.inl ⟨by rfl, ?_⟩) (by assumption) ?_
            rotate_left
            · intro w' hSw
              try dsimp only at hSw
              go_simp
              try with_reducible rfl
            try simp only [Act.put, List.setIfInBounds_toArray, List.set_cons_zero, List.set_cons_succ]
            refine GoG.take 24 30 (some 43) (v := ?_) rfl rfl (by kernel_rfl) (by kernel_rfl) (by kernel_rfl) (fun _ _ _ h => h) (Or.inl ⟨by rfl, ?_⟩) (by assumption) ?_
            rotate_left
            · intro w' hSw
              try dsimp only at hSw
              go_simp
              try with_reducible rfl
            try simp only [Act.put, List.setIfInBounds_toArray, List.set_cons_zero, List.set_cons_succ]
            refine GoG.store (by kernel_rfl) rfl (fun K hK => ?_)
            obtain ⟨z0, z1, z2⟩ := ST.out.cells
            have f0 := ST.out.bk.frozen 0
            have f1 := ST.out.bk.frozen 1
            have f2 := ST.out.bk.frozen 2
            go_simp
            refine hK.out _ _ ?_
            clear hK K
            try simp only [Act.put, List.setIfInBounds_toArray, List.set_cons_zero, List.set_cons_succ]
            refine GoG.pure2 26 (some 44) (v := ?_) (by kernel_rfl) rfl rfl (by kernel_rfl) (by kernel_rfl) (by kernel_rfl) (fun _ _ _ h => h) (Or.inl ⟨by rfl, ?_⟩) ?_
            rotate_left
            · intro w' hSw
              try dsimp only at hSw
              go_simp
              try with_reducible rfl
            try simp only [Act.put, List.setIfInBounds_toArray, List.set_cons_zero, List.set_cons_succ]
            refine GoG.pure2 27 (some 45) (v := ?_) (by kernel_rfl) rfl rfl (by kernel_rfl) (by kernel_rfl) (by kernel_rfl) (fun _ _ _ h => h) (Or.inl ⟨by rfl, ?_⟩) ?_
            rotate_left
            · intro w' hSw
              try dsimp only at hSw
              go_simp
              try with_reducible rfl
            try simp only [Act.put, List.setIfInBounds_toArray, List.set_cons_zero, List.set_cons_succ]
            refine GoG.store2 28 (by kernel_rfl) (by kernel_rfl) rfl (fun K hK => ?_)
            go_simp
            refine hK.out _ _ ?_
            clear hK K
            try simp only [Act.put, List.setIfInBounds_toArray, List.set_cons_zero, List.set_cons_succ]
            refine GoG.pure2 29 (some 46) (v := ?_) (by kernel_rfl) rfl rfl (by kernel_rfl) (by kernel_rfl) (by kernel_rfl) (fun _ _ _ h => h) (Or.inl ⟨by rfl, ?_⟩) ?_
            rotate_left
            · intro w' hSw
              try dsimp only at hSw
              go_simp
              try with_reducible rfl
            try simp only [Act.put, List.setIfInBounds_toArray, List.set_cons_zero, List.set_cons_succ]
            refine GoG.pure2 30 (some 47) (v := ?_) (by kernel_rfl) rfl rfl (by kernel_rfl) (by kernel_rfl) (by kernel_rfl) (fun _ _ _ h => h) (Or.inl ⟨by rfl, ?_⟩) ?_
            rotate_left
            · intro w' hSw
              try dsimp only at hSw
              go_simp
              try with_reducible rfl
            try simp only [Act.put, List.setIfInBounds_toArray, List.set_cons_zero, List.set_cons_succ]
            refine GoG.last2 31 (by kernel_rfl) (by kernel_rfl) (by kernel_rfl) rfl (fun K hK => ?_)
            go_simp
            refine hK.out _ _ ?_
            clear hK K z0 z1 z2 f0 f1 f2
            have SD := hide ST.out.done
            clear ST
            go_wp2_with (fail)
            go_roundw
            case rel => exact ⟨k + 1, by omega, by go_num, _, _, _, _, _, _, by
              have h := SD.out
              rw [HE1.out, ← List.replicate_succ'] at h
              exact h⟩
            case measure => simp [intOf]; omega
          exact EachG.nil
        refine EachG.cons (i := 15) rfl (fun K hK => ?_) ?_
        · go_simp
          obtain ⟨q2, hq1⟩ : ∃ x, x = q1.alloc (.cells #[.string (str (rep 0))] 9) := ⟨_, rfl⟩
          obtain ⟨vb2, hv2⟩ : ∃ x, x = q1.heap.size := ⟨_, rfl⟩
          have XN := hide (show Ext q1 q2 by rw [hq1]; exact Ext.new _ _)
          have V3 := hide (Ext.blk XN.out V3.out)
          have V2 := hide (show Blk q2 vb2 9 #[.string (str (rep 0))] by rw [hq1, hv2]; exact Blk.new _ _ _)
          have VN2 := hide (show q0.heap.size ≤ vb2 by rw [hv2]; exact ST.out.hq)
          have ST := hide (ST.out.ext XN.out)
          rw [← hq1, ← hv2]
          clear hq1 hv2 XN
          refine hK.out _ _ ST.out.cells (fun hHeld => ?_)
          clear hK K
          try simp only [Act.put, List.setIfInBounds_toArray, List.set_cons_zero, List.set_cons_succ]
          refine GoG.each (rs := [8]) (by kernel_rfl) (by kernel_rfl) ?_
          refine EachG.cons (i := 8) rfl (fun K hK => ?_) EachG.nil
          go_simp
          obtain ⟨q3, hq1⟩ : ∃ x, x = q2.alloc (.cells #[.string (str (rep 0))] 9) := ⟨_, rfl⟩
          obtain ⟨vb1, hv1⟩ : ∃ x, x = q2.heap.size := ⟨_, rfl⟩
          have XN := hide (show Ext q2 q3 by rw [hq1]; exact Ext.new _ _)
          have V3 := hide (Ext.blk XN.out V3.out)
          have V2 := hide (Ext.blk XN.out V2.out)
          have V1 := hide (show Blk q3 vb1 9 #[.string (str (rep 0))] by rw [hq1, hv1]; exact Blk.new _ _ _)
          have VN1 := hide (show q0.heap.size ≤ vb1 by rw [hv1]; exact ST.out.hq)
          have ST := hide (ST.out.ext XN.out)
          rw [← hq1, ← hv1]
          clear hq1 hv1 XN
          refine hK.out _ _ ST.out.cells (fun hHeld => ?_)
          clear hK K
          try simp only [Act.put, List.setIfInBounds_toArray, List.set_cons_zero, List.set_cons_succ]
          refine GoG.each (rs := [9]) (by kernel_rfl) (by kernel_rfl) ?_
          refine EachG.cons (i := 9) rfl (fun K hK => ?_) EachG.nil
          refine step_append_any q3 rfl (.tmp 25) (.tmp 27) 56 rfl W.heap.size 9 i9 _ 1 16 Try.underlying56 hi9 hz9 hs9 hb9 rfl (by omega) (.slice A1 k c1) k (sv (blanks k)) (by rfl) ST.out.o1 _ _ 1 1 [.string (str (rep 0))] (by rfl) (reads_blk (m := 1) V1.out rfl) (by simp [Value.oneCell']) (by unfold maxLen; omega) (by omega) ST.out.x.size ?_
          intro v1 q4 ho1 hg1 hat1
          obtain ⟨B1, d1, hv1, _⟩ := own_form ho1
          subst hv1
          have V3 := hide (V3.out.grown hg1 (fun e => absurd (LO1.out _ e.symm) (Nat.not_lt.2 VN3.out)))
          have V2 := hide (V2.out.grown hg1 (fun e => absurd (LO1.out _ e.symm) (Nat.not_lt.2 VN2.out)))
          have ST := hide (ST.out.app1 hg1 ho1 hat1)
          refine hK.out _ _ ST.out.cells (fun hHeld => ?_)
          clear hK K ho1 hg1 hat1
          change GoG _ _ _ _ _ _ _ _ (Act.put _ (some 28) _) _
          simp only [Act.put, List.setIfInBounds_toArray, List.set_cons_zero, List.set_cons_succ]
          refine GoG.each (rs := [16]) (by kernel_rfl) (by kernel_rfl) ?_
          refine EachG.cons (i := 16) rfl (fun K hK => ?_) EachG.nil
          refine step_append_any q4 rfl (.tmp 32) (.tmp 34) 56 rfl W.heap.size 9 i9 _ 1 16 Try.underlying56 hi9 hz9 hs9 hb9 rfl (by omega) (.slice A2 k c2) k (sv (blanks k)) (by rfl) ST.out.o2 _ _ 1 1 [.string (str (rep 0))] (by rfl) (reads_blk (m := 1) V2.out rfl) (by simp [Value.oneCell']) (by unfold maxLen; omega) (by omega) ST.out.x.size ?_
          intro v1 q5 ho1 hg1 hat1
          obtain ⟨B2, d2, hv1, _⟩ := own_form ho1
          subst hv1
          have V3 := hide (V3.out.grown hg1 (fun e => absurd (LO2.out _ e.symm) (Nat.not_lt.2 VN3.out)))
          have ST := hide (ST.out.app2 hg1 ho1 hat1)
          refine hK.out _ _ ST.out.cells (fun hHeld => ?_)
          clear hK K ho1 hg1 hat1
          change GoG _ _ _ _ _ _ _ _ (Act.put _ (some 35) _) _
          simp only [Act.put, List.setIfInBounds_toArray, List.set_cons_zero, List.set_cons_succ]
          refine GoG.each (rs := [22]) (by kernel_rfl) (by kernel_rfl) ?_
          refine EachG.cons (i := 22) rfl (fun K hK => ?_) EachG.nil
          refine step_append_any q5 rfl (.tmp 39) (.tmp 40) 57 rfl W.heap.size 4 i4 _ 1 1 Try.underlying57 hi4 hz4 hs4 hb4 rfl (by omega) (.slice A3 k c3) k (bb (List.replicate k false)) (by rfl) ST.out.o3 _ _ 1 1 [.bool false] (by rfl) (reads_blk (m := 1) V3.out rfl) (by simp [Value.oneCell']) (by unfold maxLen; omega) (by omega) ST.out.x.size ?_
          intro v1 q6 ho1 hg1 hat1
          obtain ⟨B3, d3, hv1, _⟩ := own_form ho1
          subst hv1
          have ST := hide (ST.out.app3 hg1 ho1 hat1)
          refine hK.out _ _ ST.out.cells (fun hHeld => ?_)
          clear hK K ho1 hg1 hat1
          change GoG _ _ _ _ _ _ _ _ (Act.put _ (some 41) _) _
          simp only [Act.put, List.setIfInBounds_toArray, List.set_cons_zero, List.set_cons_succ]
          refine GoG.take 23 30 (some 42) (v := ?_) rfl rfl (by kernel_rfl) (by kernel_rfl) (by kernel_rfl) (fun _ _ _ h => h) (Or.inl ⟨by rfl, ?_⟩) (by assumption) ?_
          rotate_left
          · intro w' hSw
            try dsimp only at hSw
            go_simp
            try with_reducible rfl
          try simp only [Act.put, List.setIfInBounds_toArray, List.set_cons_zero, List.set_cons_succ]
          refine GoG.take 24 30 (some 43) (v := ?_) rfl rfl (by kernel_rfl) (by kernel_rfl) (by kernel_rfl) (fun _ _ _ h => h) (Or.inl ⟨by rfl, ?_⟩) (by assumption) ?_
          rotate_left
          · intro w' hSw
            try dsimp only at hSw
            go_simp
            try with_reducible rfl
          try simp only [Act.put, List.setIfInBounds_toArray, List.set_cons_zero, List.set_cons_succ]
          refine GoG.store (by kernel_rfl) rfl (fun K hK => ?_)
          obtain ⟨z0, z1, z2⟩ := ST.out.cells
          have f0 := ST.out.bk.frozen 0
          have f1 := ST.out.bk.frozen 1
          have f2 := ST.out.bk.frozen 2
          go_simp
          refine hK.out _ _ ?_
          clear hK K
          try simp only [Act.put, List.setIfInBounds_toArray, List.set_cons_zero, List.set_cons_succ]
          refine GoG.pure2 26 (some 44) (v := ?_) (by kernel_rfl) rfl rfl (by kernel_rfl) (by kernel_rfl) (by kernel_rfl) (fun _ _ _ h => h) (Or.inl ⟨by rfl, ?_⟩) ?_
          rotate_left
          · intro w' hSw
            try dsimp only at hSw
            go_simp
            try with_reducible rfl
          try simp only [Act.put, List.setIfInBounds_toArray, List.set_cons_zero, List.set_cons_succ]
          refine GoG.pure2 27 (some 45) (v := ?_) (by kernel_rfl) rfl rfl (by kernel_rfl) (by kernel_rfl) (by kernel_rfl) (fun _ _ _ h => h) (Or.inl ⟨by rfl, ?_⟩) ?_
          rotate_left
          · intro w' hSw
            try dsimp only at hSw
            go_simp
            try with_reducible rfl
          try simp only [Act.put, List.setIfInBounds_toArray, List.set_cons_zero, List.set_cons_succ]
          refine GoG.store2 28 (by kernel_rfl) (by kernel_rfl) rfl (fun K hK => ?_)
          go_simp
          refine hK.out _ _ ?_
          clear hK K
          try simp only [Act.put, List.setIfInBounds_toArray, List.set_cons_zero, List.set_cons_succ]
          refine GoG.pure2 29 (some 46) (v := ?_) (by kernel_rfl) rfl rfl (by kernel_rfl) (by kernel_rfl) (by kernel_rfl) (fun _ _ _ h => h) (Or.inl ⟨by rfl, ?_⟩) ?_
          rotate_left
          · intro w' hSw
            try dsimp only at hSw
            go_simp
            try with_reducible rfl
          try simp only [Act.put, List.setIfInBounds_toArray, List.set_cons_zero, List.set_cons_succ]
          refine GoG.pure2 30 (some 47) (v := ?_) (by kernel_rfl) rfl rfl (by kernel_rfl) (by kernel_rfl) (by kernel_rfl) (fun _ _ _ h => h) (Or.inl ⟨by rfl, ?_⟩) ?_
          rotate_left
          · intro w' hSw
            try dsimp only at hSw
            go_simp
            try with_reducible rfl
          try simp only [Act.put, List.setIfInBounds_toArray, List.set_cons_zero, List.set_cons_succ]
          refine GoG.last2 31 (by kernel_rfl) (by kernel_rfl) (by kernel_rfl) rfl (fun K hK => ?_)
          go_simp
          refine hK.out _ _ ?_
          clear hK K z0 z1 z2 f0 f1 f2
          have SD := hide ST.out.done
          clear ST
          go_wp2_with (fail)
          go_roundw
          case rel => exact ⟨k + 1, by omega, by go_num, _, _, _, _, _, _, by
            have h := SD.out
            rw [HE1.out, ← List.replicate_succ'] at h
            exact h⟩
          case measure => simp [intOf]; omega
        exact EachG.nil
      exact EachG.nil
    · obtain rfl : k = k0 := by omega
      have dk : decide (k < k) = false := decide_eq_false (by omega)
      go_wp2_with (fail)
      go_ret
      refine ⟨b, rfl, ⟨A1, A2, A3, none, c1, c2, c3, 0, 0, false, 0, [], ?_, rfl⟩, ST.out.x⟩
      have e : (blanks k).length = k := by simp [blanks]
      rw [vL_none, lL_none, e]
      exact ⟨ST.out.bk, ST.out.o1, ST.out.o2, ST.out.o3, ST.out.ne, World.ownsRow_nil _ _ _ _, ST.out.hb, by omega⟩
end Go.Proofs.Ytpbenpkgbhmldaa
