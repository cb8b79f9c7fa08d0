/- LookDirty: the walk. (Printed by mk_dirty.py.) -/
import Derived.Test.YtaijgnhkdbdfcaaEnt2
import Derived.Test.YtaijgnhkdbdfcaaLawD
import Derived.Deep.QuietTactic
import Derived.BigQuiet
namespace Go.Proofs.Ytaijgnhkdbdfcaa.lookDirty
open Go.ChangeShapes Go.WideShapes Go.ChangeAt Go.RowKit
set_option linter.unusedVariables false

/-- the pages of an entry by its number -/
def pgT (x : Nat) : List Nat := if x / 26 % 6 = 3 then [x / 7 % 4, x / 11 % 4] else if x / 26 % 6 = 5 then [] else [x / 7 % 4]
theorem pgT_lt (x : Nat) : ∀ p ∈ pgT x, p < 4 := by
  intro p hp
  unfold pgT at hp
  have h1 : x / 7 % 4 < 4 := Nat.mod_lt _ (by omega)
  have h2 : x / 11 % 4 < 4 := Nat.mod_lt _ (by omega)
  split at hp
  · simp at hp; omega
  · split at hp
    · simp at hp
    · simp at hp; omega
theorem pgT_touch (x : Nat) : touchL (someE x).kind (someE x).a0 (someE x).b0 (someE x).mv = (pgT x).map fun (p : Nat) => (p : Int) := by
  unfold pgT someE kindOf touchL
  have h6 : x / 26 % 6 < 6 := Nat.mod_lt _ (by omega)
  rcases (show x / 26 % 6 = 0 ∨ x / 26 % 6 = 1 ∨ x / 26 % 6 = 2 ∨ x / 26 % 6 = 3 ∨ x / 26 % 6 = 4 ∨ x / 26 % 6 = 5 by omega) with h | h | h | h | h | h <;> simp [h]
def recR (ns : List Nat) : Nat → Nat → Int
  | 0 => fun _ => 0
  | k + 1 => match ns[k]? with
    | some x => recP (recR ns k) (pgT x) ((k : Int) + 1)
    | none => recR ns k
theorem recR_next {ns : List Nat} {k x : Nat} (h : ns[k]? = some x) : recR ns (k + 1) = recP (recR ns k) (pgT x) ((k : Int) + 1) := by
  conv => lhs; unfold recR
  rw [h]
theorem swN_some (s : Sn) (x : Nat) (lsn : Int) : (swN s (someX x) lsn).D = s.D := by
  have h6 : x / 26 % 6 < 6 := Nat.mod_lt _ (by omega)
  have hk : (someX x).E.kind = kindOf (x / 26 % 6) := rfl
  unfold swN
  rw [hk]
  rcases (show x / 26 % 6 = 0 ∨ x / 26 % 6 = 1 ∨ x / 26 % 6 = 2 ∨ x / 26 % 6 = 3 ∨ x / 26 % 6 = 4 ∨ x / 26 % 6 = 5 by omega) with h | h | h | h | h | h <;> rw [h] <;> rfl
theorem run_tab (ns : List Nat) : ∀ k, k ≤ ns.length → (seenN sn0 ((ns.map someX).take k) 1).D = tabD (recR ns k)
  | 0, _ => by
    show ([] : List Dt) = tabD (fun _ => 0)
    rfl
  | k + 1, hk => by
    obtain ⟨x, hx⟩ : ∃ x, ns[k]? = some x := ⟨_, List.getElem?_eq_getElem (by omega)⟩
    have hX : (ns.map someX)[k]? = some (someX x) := by rw [List.getElem?_map, hx]; rfl
    rw [seenN_take hX, recR_next hx]
    show (pagesOf (touchL (someE x).kind (someE x).a0 (someE x).b0 (someE x).mv)).foldl _ (swN _ (someX x) _).D = _
    rw [swN_some, run_tab ns k (by omega), pgT_touch, show (1 : Int) + (k : Int) = (k : Int) + 1 by omega]
    exact pages_tab (pgT x) (fun p hp => by have := pgT_lt x p hp; omega) _ _ (by omega)
theorem tabD_len (R : Nat → Int) : (tabD R).length ≤ 32 := by
  unfold tabD tabL
  rw [List.length_map]
  have := List.length_filter_le (fun k => decide (R k ≠ 0)) (List.range 32)
  simpa using this
theorem tabL_none {R : Nat → Int} {k : Nat} (h : R k = 0) : (tabL R (List.range (k + 1))).length = (tabL R (List.range k)).length := by
  rw [List.range_succ, tabL_app, tabL_cons, if_pos h]
  simp [tabL]
theorem tabL_some {R : Nat → Int} {k : Nat} (h : ¬ R k = 0) : (tabL R (List.range (k + 1))).length = (tabL R (List.range k)).length + 1 := by
  rw [List.range_succ, tabL_app, tabL_cons, if_neg h]
  simp [tabL]
theorem tabD_at {R : Nat → Int} {k : Nat} (hk : k < 32) (h : ¬ R k = 0) : (tabD R)[(tabL R (List.range k)).length]? = some ⟨(k : Int), R k⟩ := by
  obtain ⟨B, e, _⟩ := range_split k hk
  unfold tabD
  rw [e, tabL_app, tabL_cons, if_neg h, List.getElem?_append_right (Nat.le_refl _), Nat.sub_self]
  rfl
/-- the table's cells -/
def rcs (r : Nat → Int) : Array Value := ((List.range 32).map fun (k : Nat) => Value.int .i64 (r k)).toArray
theorem rcs_at (r : Nat → Int) (p : Nat) (hp : p < 32) : (rcs r)[p]? = some (.int .i64 (r p)) := by
  simp [rcs, hp]
theorem rcs_set (r : Nat → Int) (p : Nat) (v : Int) (hp : p < 32) : (rcs r).setIfInBounds p (.int .i64 v) = rcs (updN r p v) := by
  apply Array.ext_getElem?
  intro k
  by_cases hk : k < 32
  · rw [rcs_at _ k hk, Array.getElem?_setIfInBounds]
    have hs : (rcs r).size = 32 := by simp [rcs]
    by_cases hpk : p = k
    · subst hpk
      rw [if_pos rfl, if_pos (by omega)]
      exact congrArg some (by rw [updN, if_pos rfl])
    · rw [if_neg hpk, rcs_at _ k hk, updN, if_neg (Ne.symm hpk)]
  · rw [Array.getElem?_eq_none (by simp [rcs]; omega), Array.getElem?_eq_none (by simp [rcs]; omega)]
set_option maxRecDepth 1000000 in
set_option maxHeartbeats 40000000 in
theorem walk_short (A : Option Addr) (c n : Nat) (ns : List Nat) (w0 : World) (hr : Reads w0 w0.heap.size 1 A n (nv ns)) (hn : n = ns.length) (hz : ∀ x ∈ ns, x ≤ 65535) (hl : n ≤ 30) :
    Calls Try.prog 5 #[.slice A n c] w0 fun e w' => e = .returned (.bool true) ∧ Ext w0 w' := by
  have HR0 := hide hr
  have HN := hide hn
  have HZ := hide hz
  have dl : decide ((30 : Int) < (n : Int)) = false := decide_eq_false (by omega)
  clear hr hn hz
  go_enter Try.func5, Try.ntmps5
  go_upto_region 6 with (first | (go_at_call 8; refine (begun_any _).mono ?_; rintro e w ⟨rfl, hx0⟩; have X0 := hide hx0; have HR := hide (X0.out.read HR0.out); clear hx0) | (go_at_call 14; refine (some_lit A c n ns w HR.out HN.out HZ.out (by omega)).mono ?_; rintro e w1 ⟨A3, c3, rfl, ho1, hx1⟩; have O1 := hide ho1; have X1 := hide hx1; clear ho1 hx1))
  go_upto_region 7 with (fail)
  obtain ⟨w2, hw2⟩ : ∃ w2, w2 = w1.alloc (.cells #[.int .i64 0, .int .i64 0, .int .i64 0, .int .i64 0, .int .i64 0, .int .i64 0, .int .i64 0, .int .i64 0, .int .i64 0, .int .i64 0, .int .i64 0, .int .i64 0, .int .i64 0, .int .i64 0, .int .i64 0, .int .i64 0, .int .i64 0, .int .i64 0, .int .i64 0, .int .i64 0, .int .i64 0, .int .i64 0, .int .i64 0, .int .i64 0, .int .i64 0, .int .i64 0, .int .i64 0, .int .i64 0, .int .i64 0, .int .i64 0, .int .i64 0, .int .i64 0] 51) := ⟨_, rfl⟩
  obtain ⟨rb, hrb⟩ : ∃ rb, rb = w1.heap.size := ⟨_, rfl⟩
  have X2 := hide (show Ext w1 w2 by rw [hw2]; exact Ext.new w1 _)
  have R2 := hide (show Blk w2 rb 51 (rcs (recR ns 0)) by rw [hw2, hrb]; exact Blk.new w1 51 _)
  have HRB := hide (show w0.heap.size ≤ rb by rw [hrb]; exact (X0.out.trans X1.out).size)
  rw [← hw2, ← hrb]
  clear hw2 hrb
  have O2 := hide (O1.out.ext X2.out)
  have HRR := hide ((X1.out.trans X2.out).read HR.out)
  go_wp2_with (fail)
  go_loopw [5] (fun s5 wr => (∃ i : Nat, i ≤ n ∧ s5 = .int .i64 i ∧ Hid (Blk wr rb 51 (rcs (recR ns i)) ∧ Touch w2 wr (fun k => k = rb)))) (fun s5 _ => (n - intOf s5).toNat)
  case atStart => exact ⟨0, by omega, rfl, R2.out, Touch.refl _ _⟩
  case round =>
    obtain ⟨i, hi, rfl, hrel⟩ := hrel
    have HO := hide (O2.out.far hrel.out.2 R2.out (by decide))
    by_cases hlt : i < n
    · obtain ⟨x, hx⟩ : ∃ x, ns[i]? = some x := ⟨_, List.getElem?_eq_getElem (by rw [← HN.out]; exact hlt)⟩
      obtain ⟨g, AN, cN, AM, cM, EL, cEL, ED, cED, EO, cEO, hA, hg, hc, he⟩ := HO.out.cells (X := someX x) (by rw [List.getElem?_map, hx]; rfl)
      subst hA
      have q0 := hc 0 _ rfl
      have q6 := hc 6 _ rfl
      have q8 := hc 8 _ rfl
      have q12 := hc 12 _ rfl
      obtain ⟨gm, rfl⟩ := own_some he.m (by simp [someX, someE])
      have m0 : wr.cell? ⟨gm, 0, none⟩ = some (.int .i64 ((x / 7 % 4 : Nat) : Int)) := by rw [he.m.cellAt 0 (by simp [someX, someE])]; rfl
      simp only [Nat.add_zero] at q0
      have dn : decide ((i : Int) < (n : Int)) = true := decide_eq_true (by omega)
      have HX := hide hx
      clear hc he hx
      obtain ⟨kd, hkd⟩ : ∃ kd, kd = (someX x).E.kind := ⟨_, rfl⟩
      obtain ⟨pa, hpa⟩ : ∃ pa : Nat, pa = x / 7 % 4 := ⟨_, rfl⟩
      obtain ⟨pb, hpb⟩ : ∃ pb : Nat, pb = x / 11 % 4 := ⟨_, rfl⟩
      rw [← hkd] at q0
      rw [← hpa] at m0
      replace q6 : wr.cell? ⟨g, i * 16 + 6, none⟩ = some (.int .i64 (pa : Int)) := by rw [hpa]; exact q6
      replace q8 : wr.cell? ⟨g, i * 16 + 8, none⟩ = some (.int .i64 (pb : Int)) := by rw [hpb]; exact q8
      replace q12 : wr.cell? ⟨g, i * 16 + 12, none⟩ = some (.slice (some ⟨gm, 0, none⟩) 1 cM) := q12
      have HK := hide (show (kd = 1 ∧ pgT x = [pa]) ∨ (kd = 2 ∧ pgT x = [pa]) ∨ (kd = 7 ∧ pgT x = [pa, pb]) ∨ (kd = 8 ∧ pgT x = [pa]) ∨ (kd = 3 ∧ pgT x = []) by
        rw [hkd, hpa, hpb]
        unfold pgT someX someE kindOf
        have h6 : x / 26 % 6 < 6 := Nat.mod_lt _ (by omega)
        rcases (show x / 26 % 6 = 0 ∨ x / 26 % 6 = 1 ∨ x / 26 % 6 = 2 ∨ x / 26 % 6 = 3 ∨ x / 26 % 6 = 4 ∨ x / 26 % 6 = 5 by omega) with h | h | h | h | h | h <;> simp [h])
      have HT := hide (show ∀ p ∈ pgT x, p < 4 from pgT_lt x)
      have HML := hide (show (pgT x).length ≤ 2 by
        unfold pgT
        repeat' split
        all_goals simp)
      clear hkd hpa hpb
      obtain ⟨T, hT⟩ : ∃ T, T = pgT x := ⟨_, rfl⟩
      rw [← hT] at HK HT HML
      have HTX := hide hT
      clear hT
      obtain ⟨m, hm⟩ : ∃ m, m = T.length := ⟨_, rfl⟩
      have HM := hide hm
      have hm2 : m ≤ 2 := by rw [hm]; exact HML.out
      clear hm
      obtain ⟨r, hr⟩ : ∃ r, r = recR ns i := ⟨_, rfl⟩
      rw [← hr] at hrel
      have HRI := hide hr
      clear hr
      go_upto_block 2 with (fail)
      go_cut [6] (fun s6 wx => ∃ A6 c6, s6 = .slice A6 m c6 ∧ Hid (wx.ownsRow 0 3 1 (.slice A6 m c6) m (iv (T.map fun (p : Nat) => (p : Int))) ∧ Ext wr wx))
      case first =>
        rcases HK.out with ⟨rfl, hT⟩ | ⟨rfl, hT⟩ | ⟨rfl, hT⟩ | ⟨rfl, hT⟩ | ⟨rfl, hT⟩
        · subst hT
          obtain rfl : m = 1 := by rw [HM.out]; rfl
          go_wp2_with (fail)
          go_meet
          case rel => exact ⟨some ⟨wr.heap.size, 0, none⟩, 1, rfl, own_blkN (Blk.new wr 3 #[.int .i64 (pa : Int)]) (Nat.zero_le _) rfl (by omega), Ext.new wr _⟩
        · subst hT
          obtain rfl : m = 1 := by rw [HM.out]; rfl
          go_wp2_with (fail)
          go_meet
          case rel => exact ⟨some ⟨wr.heap.size, 0, none⟩, 1, rfl, own_blkN (Blk.new wr 3 #[.int .i64 (pa : Int)]) (Nat.zero_le _) rfl (by omega), Ext.new wr _⟩
        · subst hT
          obtain rfl : m = 2 := by rw [HM.out]; rfl
          go_upto_region 16 with (fail)
          refine wp_region_F (S := (fun w' => w'.cell? ⟨g, i * 16 + 6, none⟩ = some (.int .i64 (pa : Int)) ∧ w'.cell? ⟨g, i * 16 + 8, none⟩ = some (.int .i64 (pb : Int)))) 13 (by kernel_rfl) (by kernel_rfl) ⟨q6, q8⟩ (fun hHeld => ?_)
          refine GoF.take 0 (some 41) (v := ?_) rfl rfl (by kernel_rfl) (by kernel_rfl) (by kernel_rfl) (fun _ _ _ h => h) (Or.inl ⟨by rfl, ?_⟩) (by assumption) ?_
          rotate_left
          · intro w' hSw
            try dsimp only at hSw
            go_simp
            try with_reducible rfl
          try simp only [Act.put, List.setIfInBounds_toArray, List.set_cons_zero, List.set_cons_succ]
          refine GoF.take 1 (some 42) (v := ?_) rfl rfl (by kernel_rfl) (by kernel_rfl) (by kernel_rfl) (fun _ _ _ h => h) (Or.inl ⟨by rfl, ?_⟩) (by assumption) ?_
          rotate_left
          · intro w' hSw
            try dsimp only at hSw
            go_simp
            try with_reducible rfl
          try simp only [Act.put, List.setIfInBounds_toArray, List.set_cons_zero, List.set_cons_succ]
          refine GoF.take 2 (some 43) (v := ?_) rfl rfl (by kernel_rfl) (by kernel_rfl) (by kernel_rfl) (fun _ _ _ h => h) (Or.inl ⟨by rfl, ?_⟩) (by assumption) ?_
          rotate_left
          · intro w' hSw
            try dsimp only at hSw
            go_simp
            try with_reducible rfl
          try simp only [Act.put, List.setIfInBounds_toArray, List.set_cons_zero, List.set_cons_succ]
          refine GoF.take 3 (some 44) (v := ?_) rfl rfl (by kernel_rfl) (by kernel_rfl) (by kernel_rfl) (fun _ _ _ h => h) (Or.inl ⟨by rfl, ?_⟩) (by assumption) ?_
          rotate_left
          · intro w' hSw
            try dsimp only at hSw
            go_simp
            try with_reducible rfl
          try simp only [Act.put, List.setIfInBounds_toArray, List.set_cons_zero, List.set_cons_succ]
          refine GoF.take 4 (some 45) (v := ?_) rfl rfl (by kernel_rfl) (by kernel_rfl) (by kernel_rfl) (fun _ _ _ h => h) (Or.inl ⟨by rfl, ?_⟩) (by assumption) ?_
          rotate_left
          · intro w' hSw
            try dsimp only at hSw
            go_simp
            try with_reducible rfl
          try simp only [Act.put, List.setIfInBounds_toArray, List.set_cons_zero, List.set_cons_succ]
          refine GoF.take 5 (some 46) (v := ?_) rfl rfl (by kernel_rfl) (by kernel_rfl) (by kernel_rfl) (fun _ _ _ h => h) (Or.inl ⟨by rfl, ?_⟩) (by assumption) ?_
          rotate_left
          · intro w' hSw
            try dsimp only at hSw
            go_simp
            try with_reducible rfl
          try simp only [Act.put, List.setIfInBounds_toArray, List.set_cons_zero, List.set_cons_succ]
          refine GoF.take 6 (some 47) (v := ?_) rfl rfl (by kernel_rfl) (by kernel_rfl) (by kernel_rfl) (fun _ _ _ h => h) (Or.inl ⟨by rfl, ?_⟩) (by assumption) ?_
          rotate_left
          · intro w' hSw
            try dsimp only at hSw
            go_simp
            try with_reducible rfl
          try simp only [Act.put, List.setIfInBounds_toArray, List.set_cons_zero, List.set_cons_succ]
          refine GoF.take 7 (some 48) (v := ?_) rfl rfl (by kernel_rfl) (by kernel_rfl) (by kernel_rfl) (fun _ _ _ h => h) (Or.inl ⟨by rfl, ?_⟩) (by assumption) ?_
          rotate_left
          · intro w' hSw
            try dsimp only at hSw
            go_simp
            try with_reducible rfl
          try simp only [Act.put, List.setIfInBounds_toArray, List.set_cons_zero, List.set_cons_succ]
          refine GoF.take 8 (some 49) (v := ?_) rfl rfl (by kernel_rfl) (by kernel_rfl) (by kernel_rfl) (fun _ _ _ h => h) (Or.inl ⟨by rfl, ?_⟩) (by assumption) ?_
          rotate_left
          · intro w' hSw
            try dsimp only at hSw
            go_simp
            try with_reducible rfl
          try simp only [Act.put, List.setIfInBounds_toArray, List.set_cons_zero, List.set_cons_succ]
          refine GoF.take 9 (some 50) (v := ?_) rfl rfl (by kernel_rfl) (by kernel_rfl) (by kernel_rfl) (fun _ _ _ h => h) (Or.inl ⟨by rfl, ?_⟩) (by assumption) ?_
          rotate_left
          · intro w' hSw
            try dsimp only at hSw
            go_simp
            try with_reducible rfl
          try simp only [Act.put, List.setIfInBounds_toArray, List.set_cons_zero, List.set_cons_succ]
          refine GoF.take 10 (some 51) (v := ?_) rfl rfl (by kernel_rfl) (by kernel_rfl) (by kernel_rfl) (fun _ _ _ h => h) (Or.inl ⟨by rfl, ?_⟩) (by assumption) ?_
          rotate_left
          · intro w' hSw
            try dsimp only at hSw
            go_simp
            try with_reducible rfl
          try simp only [Act.put, List.setIfInBounds_toArray, List.set_cons_zero, List.set_cons_succ]
          refine GoF.take 11 (some 52) (v := ?_) rfl rfl (by kernel_rfl) (by kernel_rfl) (by kernel_rfl) (fun _ _ _ h => h) (Or.inl ⟨by rfl, ?_⟩) (by assumption) ?_
          rotate_left
          · intro w' hSw
            try dsimp only at hSw
            go_simp
            try with_reducible rfl
          try simp only [Act.put, List.setIfInBounds_toArray, List.set_cons_zero, List.set_cons_succ]
          refine GoF.each (rs := [12]) (by kernel_rfl) (by kernel_rfl) (by kernel_rfl) ?_
          refine EachF.cons (i := 12) rfl (fun K hK => ?_) EachF.nil
          go_simp
          have ho := (Ext.new wr (.cells #[.int .i64 (pa : Int), .int .i64 (pb : Int)] 3))
          have h6 := (ho.cell (World.block_lt_of_cell? _ _ q6)).trans q6
          have h8 := (ho.cell (World.block_lt_of_cell? _ _ q8)).trans q8
          refine hK.out _ _ ⟨h6, h8⟩ (fun hHeld => ?_)
          clear hK K
          refine GoF.last (by kernel_rfl) (by kernel_rfl) rfl (fun K hK => ?_)
          go_simp
          refine hK.out _ _ ?_
          clear hK K
          go_wp2_with (fail)
          go_meet
          case rel => exact ⟨some ⟨wr.heap.size, 0, none⟩, 2, rfl, own_blkN ((Blk.new wr 3 #[.int .i64 (pa : Int), .int .i64 (pb : Int)])) (Nat.zero_le _) rfl (by omega), Ext.drew (Ext.new wr _)⟩
        · subst hT
          obtain rfl : m = 1 := by rw [HM.out]; rfl
          go_wp2_with (fail)
          go_meet
          case rel => exact ⟨some ⟨wr.heap.size, 0, none⟩, 1, rfl, own_blkN (Blk.new wr 3 #[.int .i64 (pa : Int)]) (Nat.zero_le _) rfl (by omega), Ext.new wr _⟩
        · subst hT
          obtain rfl : m = 0 := by rw [HM.out]; rfl
          go_wp2_with (fail)
          go_meet
          case rel => exact ⟨none, 0, rfl, World.ownsRow_nil _ _ _ _, Ext.refl wr⟩
      case rest =>
        obtain ⟨A6, c6, rfl, hcc⟩ := hcut
        have OT := hide hcc.out.1
        have X6 := hide hcc.out.2
        have RW := hide (X6.out.blk hrel.out.1)
        have T6 := hide (show Touch w2 wc (fun k => k = rb) from Touch.trans hrel.out.2 (Touch.of_below X6.out (fun k => k = rb)) (fun _ _ e => e))
        clear hcc q0 q6 q8 q12 m0 HK hrel
        have RL := hide (show Blk wc rb 51 (rcs (recP r (T.take 0) ((i : Int) + 1))) from RW.out)
        go_wp2_with (fail)
        go_loopw [7] (fun s7 wy => (∃ j : Nat, j ≤ m ∧ s7 = .int .i64 j ∧ Hid (Blk wy rb 51 (rcs (recP r (T.take j) ((i : Int) + 1))) ∧ Touch wc wy (fun k => k = rb)))) (fun s7 _ => (m - intOf s7).toNat)
        case atStart => exact ⟨0, by omega, rfl, RL.out, Touch.refl _ _⟩
        case round =>
          obtain ⟨j, hj, rfl, hrel⟩ := hrel
          by_cases hjl : j < m
          · obtain ⟨p, hp⟩ : ∃ p, T[j]? = some p := ⟨_, List.getElem?_eq_getElem (by rw [← HM.out]; exact hjl)⟩
            have hp4 := HT.out p (List.mem_of_getElem? hp)
            obtain ⟨gt, rfl⟩ := own_some OT.out (by omega)
            have OY := hide (row_apart1 hrel.out.2 RW.out OT.out (by decide))
            have gp : wr.cell? ⟨gt, j, none⟩ = some (.int .i64 (p : Int)) := by rw [OY.out.cellAt _ (by omega)]; simp [iv, hp]
            have gr : wr.cell? ⟨rb, p, none⟩ = some (.int .i64 (recP r (T.take j) ((i : Int) + 1) p)) := (hrel.out.1.cell p).trans (rcs_at _ p (by omega))
            have fr := hrel.out.1.frozen p
            have dj : decide ((j : Int) < (m : Int)) = true := decide_eq_true (by omega)
            have hp32 : (p : Int) < 32 := by omega
            have hgr := Blk.ne_ hrel.out.1 (own_block OY.out rfl).choose_spec (by decide)
            have HPJ := hide hp
            obtain ⟨v, hv⟩ : ∃ v, v = recP r (T.take j) ((i : Int) + 1) p := ⟨_, rfl⟩
            rw [← hv] at gr
            have HV := hide hv
            have HTJ := hide (show recP r (T.take (j + 1)) ((i : Int) + 1) = recS (recP r (T.take j) ((i : Int) + 1)) p ((i : Int) + 1) by
              have hk := (List.getElem?_eq_some_iff.1 HPJ.out).1
              have e : T[j] = p := (List.getElem?_eq_some_iff.1 HPJ.out).2
              rw [List.take_succ_eq_append_getElem hk, e]
              unfold recP
              rw [List.foldl_append]
              rfl)
            clear hp hv
            by_cases hv0 : v = 0
            · subst hv0
              have d0 : ((0 : Int) == 0) = true := rfl
              go_wp2_with (fail)
              go_roundw
              case rel => exact ⟨j + 1, by omega, by go_num, by
                have h1 := hrel.out.1.set_ p (.int .i64 ((i : Int) + 1))
                rw [rcs_set _ _ _ (by omega)] at h1
                rw [HTJ.out]
                unfold recS
                rw [if_pos HV.out.symm]
                exact h1, hrel.out.2.trans (touch_set wr rb p _) (fun _ _ e => e)⟩
              case measure => simp [intOf]; omega
            · have d0 : (v == 0) = false := by simpa using hv0
              have HV0 := hide (show ¬ recP r (T.take j) ((i : Int) + 1) p = 0 by rw [← HV.out]; exact hv0)
              clear hv0
              go_wp2_with (fail)
              go_roundw
              case rel => exact ⟨j + 1, by omega, by go_num, by
                rw [HTJ.out]
                unfold recS
                rw [if_neg HV0.out]
                exact hrel.out.1, hrel.out.2⟩
              case measure => simp [intOf]; omega
          · obtain rfl : j = m := by omega
            have dj : decide ((j : Int) < (j : Int)) = false := decide_eq_false (by omega)
            have e1 : T.take j = T := List.take_of_length_le (by rw [← HM.out]; exact Nat.le_refl _)
            rw [e1] at hrel
            have HFB := hide (show Blk wr rb 51 (rcs (recR ns (i + 1))) by rw [recR_next HX.out, ← HRI.out, ← HTX.out]; exact hrel.out.1)
            have HFT := hide (show Touch w2 wr (fun k => k = rb) from Touch.trans T6.out hrel.out.2 (fun _ _ e => e))
            clear e1 hrel
            go_wp2_with (fail)
            go_roundw
            case rel => exact ⟨i + 1, by omega, by go_num, HFB.out, HFT.out⟩
            case measure => simp [intOf]; omega
    · obtain rfl : i = n := by omega
      have dn : decide ((i : Int) < (i : Int)) = false := decide_eq_false (by omega)
      have CA := hide (gives_lit (all_any wr A3 c3 i (ns.map someX) 0 HO.out.at_ (some_bd ns 0) (by omega)))
      have HSD := hide (show (seenN sn0 (ns.map someX) 1).D = tabD (recR ns i) by
        have := run_tab ns ns.length (Nat.le_refl _)
        rwa [List.take_of_length_le (by simp), ← HN.out] at this)
      obtain ⟨S, hS⟩ : ∃ S, S = seenN sn0 (ns.map someX) 1 := ⟨_, rfl⟩
      rw [← hS] at CA HSD
      clear hS
      have HRB2 := hide hrel.out.1
      have HTC := hide (show Ext w0 wr from Touch.ext ((X0.out.trans X1.out).trans X2.out) hrel.out.2 HRB.out)
      obtain ⟨R, hR⟩ : ∃ R, R = recR ns i := ⟨_, rfl⟩
      rw [← hR] at HSD HRB2
      clear hR hrel
      go_upto_region 25 with (go_at_call 10; refine CA.out.mono ?_; rintro e w3 ⟨A5, c5, A6, c6, A7, c7, ml, md, mo, mu, mh, rfl, hs3, hx3, hl, hd, ho, hu, hh⟩; have S3 := hide hs3.d; have X3 := hide hx3; have MD := hide hd; clear hs3 hx3 hl hd ho hu hh)
      obtain ⟨w4, hw4⟩ : ∃ w4, w4 = w3.alloc (.cells #[.slice A5 ml c5, .slice A6 md c6, .slice A7 mo c7, .int .i64 mu, .int .i64 mh] 37) := ⟨_, rfl⟩
      obtain ⟨s8, hs8⟩ : ∃ s8, s8 = w3.heap.size := ⟨_, rfl⟩
      have X4 := hide (show Ext w3 w4 by rw [hw4]; exact Ext.new w3 _)
      have B4 := hide (show Blk w4 s8 37 #[.slice A5 ml c5, .slice A6 md c6, .slice A7 mo c7, .int .i64 mu, .int .i64 mh] by rw [hw4, hs8]; exact Blk.new w3 37 _)
      rw [← hw4, ← hs8]
      clear hw4 hs8
      have S4 := hide (X4.out.own S3.out)
      rw [HSD.out] at S4 MD
      have R4 := hide ((X3.out.trans X4.out).blk HRB2.out)
      have XF := hide (HTC.out.trans (X3.out.trans X4.out))
      have hmd : md ≤ 32 := by rw [MD.out]; exact tabD_len R
      go_wp2_with (fail)
      go_loopw [9, 10] (fun s9 s10 wr => (∃ k : Nat, k ≤ 32 ∧ s10 = .int .i64 k ∧ s9 = .int .i64 ((tabL R (List.range k)).length : Nat) ∧ Hid (Ext w4 wr))) (fun _ s10 _ => (32 - intOf s10).toNat)
      case atStart => exact ⟨0, by omega, rfl, rfl, Ext.refl _⟩
      case round =>
        obtain ⟨k, hk, rfl, rfl, hX⟩ := hrel
        by_cases hk32 : k < 32
        · have gr : wr.cell? ⟨rb, k, none⟩ = some (.int .i64 (R k)) := ((hX.out.blk R4.out).cell k).trans (rcs_at R k hk32)
          have d32 : decide ((k : Int) < 32) = true := decide_eq_true (by omega)
          have hki : (k : Int) < 32 := by omega
          obtain ⟨v, hv⟩ : ∃ v, v = R k := ⟨_, rfl⟩
          have HV := hide hv
          rw [← hv] at gr
          clear hv
          by_cases hv0 : v = 0
          · subst hv0
            have d0 : ((0 : Int) == 0) = true := rfl
            have HC := hide (tabL_none (R := R) (k := k) HV.out.symm)
            go_wp2_with (fail)
            go_roundw
            case rel => exact ⟨k + 1, by omega, by go_num, by rw [HC.out], hX.out⟩
            case measure => simp [intOf]; omega
          · have d0 : (v == 0) = false := by simpa using hv0
            have hv1 : ¬ R k = 0 := by rw [← HV.out]; exact hv0
            have HC := hide (tabL_some (R := R) (k := k) hv1)
            have HAT := hide (tabD_at (R := R) hk32 hv1)
            obtain ⟨q, hq⟩ : ∃ q, q = (tabL R (List.range k)).length := ⟨_, rfl⟩
            rw [← hq] at HAT HC ⊢
            clear hq
            have hqm : q < md := by rw [MD.out]; exact (List.getElem?_eq_some_iff.1 HAT.out).1
            obtain ⟨gd, rfl⟩ := own_some S4.out (by rw [← MD.out]; omega)
            have OD := hide (hX.out.own S4.out)
            have g1 : wr.cell? ⟨s8, 1, none⟩ = some (.slice (some ⟨gd, 0, none⟩) md c6) := ((hX.out.blk B4.out).cell 1).trans rfl
            have gp : wr.cell? ⟨gd, q * 2, none⟩ = some (.int .i64 (k : Int)) := by rw [OD.out.cellAt _ (by rw [← MD.out]; omega)]; exact (dts_at HAT.out).1
            have gv : wr.cell? ⟨gd, q * 2 + 1, none⟩ = some (.int .i64 v) := by rw [OD.out.cellAt _ (by rw [← MD.out]; omega), HV.out]; exact (dts_at HAT.out).2
            have dq : decide ((md : Int) ≤ (q : Int)) = false := decide_eq_false (by omega)
            have dqn : decide (md ≤ q) = false := decide_eq_false (by omega)
            have dk : ((k : Int) != (k : Int)) = false := by simp
            have dv : (v != v) = false := by simp
            have hqi : (q : Int) < (md : Int) := by omega
            clear hv0 hv1
            go_wp2_with (fail)
            go_quiet (fail)
            go_wp2_with (fail)
            go_roundw
            case rel => exact ⟨k + 1, by omega, by go_num, by rw [HC.out]; go_num, (hX.out).drewN _⟩
            case measure => simp [intOf]; omega
        · obtain rfl : k = 32 := by omega
          have d32 : decide (((32 : Nat) : Int) < 32) = false := rfl
          have HL := hide (show (tabL R (List.range 32)).length = md from MD.out.symm)
          rw [HL.out]
          have g1 : wr.cell? ⟨s8, 1, none⟩ = some (.slice A6 md c6) := ((hX.out.blk B4.out).cell 1).trans rfl
          go_wp2_with (fail)
          go_ret
          exact ⟨rfl, XF.out.trans hX.out⟩
set_option maxRecDepth 1000000 in
theorem walk_long (A : Option Addr) (n c : Nat) (w : World) (h1 : (30 : Int) < n) : Calls Try.prog 5 #[.slice A n c] w fun e w' => e = .returned (.bool true) ∧ Ext w w' := by
  go_enter Try.func5, Try.ntmps5
  go_wp2_with (go_at_call 8; refine (begun_any _).mono ?_; rintro e w1 ⟨rfl, b1⟩)
  go_ret
  exact ⟨rfl, b1⟩
end Go.Proofs.Ytaijgnhkdbdfcaa.lookDirty
