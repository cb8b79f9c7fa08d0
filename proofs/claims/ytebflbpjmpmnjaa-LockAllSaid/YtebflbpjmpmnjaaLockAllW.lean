/- LockAll: the walk. -/
import Derived.Test.YtebflbpjmpmnjaaLockAllX
import Derived.Test.YtebflbpjmpmnjaaLockGoesW
namespace Go.Proofs.Ytebflbpjmpmnjaa.lockAll
open Go.ChangeShapes Go.WideShapes Go.ChangeAt Go.RowKit Go.Maps lockGoes
set_option linter.unusedVariables false

/-- the two tables, the same -/
def St (W : World) (rb i : Nat) (wr : World) : Prop :=
  ∃ F R A0 c0, Has W wr (W.heap.size + 1) i i F ∧ Rl W wr rb A0 c0 R ∧ RepL F R ∧ R.length ≤ i
theorem nset (b : Bool) : (b != b) = false := by cases b <;> rfl
set_option maxRecDepth 100000 in
set_option maxHeartbeats 16000000 in
theorem walk_short (A : Option Addr) (c n : Nat) (xs : List Value) (w : World) (hr : Reads w w.heap.size 4 A n xs) (hx : Deeds xs n) (h60 : (n : Int) ≤ 60) :
    Calls Try.prog 5 #[.slice A n c] w fun e w' => e = .returned (.bool true) ∧ Ext w w' := by
  have HR := hide hr
  have HX := hide hx
  clear hr hx
  go_enter Try.func5, Try.ntmps5
  go_wp2_with (go_at_call 8; refine (begun_any _).mono ?_; rintro e W ⟨rfl, b1⟩)
  refine (has_new W).mono ?_
  rintro e wa ⟨rfl, ha'⟩
  have BW := hide b1
  have HA := hide ha'
  clear ha' b1
  go_wp2_with (fail)
  obtain ⟨rb, hrb⟩ : ∃ rb, rb = wa.heap.size := ⟨_, rfl⟩
  have H0 := hide (show St W rb 0 (wa.alloc (.cells #[.slice none 0 0] 35)) from
    ⟨_, [], none, 0, HA.out.ext (Ext.new wa _), ⟨by rw [hrb]; exact Blk.new wa 35 _, World.ownsRow_nil _ _ _ _, by rw [hrb]; exact HA.out.world.size, HA.out.world.trans (Ext.new wa _)⟩, RepL.nil, Nat.le_refl _⟩)
  rw [← hrb]
  clear hrb HA
  go_loopw [5] (fun s5 wr => (∃ i : Nat, i ≤ n ∧ s5 = .int .i64 i ∧ Hid (St W rb i wr))) (fun s5 _ => (n - intOf s5).toNat)
  case atStart => exact ⟨0, by omega, rfl, H0.out⟩
  case round =>
    obtain ⟨i, hi, rfl, hs⟩ := hrel
    obtain ⟨F, R, A0, c0, hF, hRl, hrep, hlen⟩ := hs.out
    have HF := hide hF
    have HRL := hide hRl
    have HREP := hide hrep
    have HLEN := hide hlen
    clear hs hRl hrep hlen H0
    by_cases hlt : i < n
    · obtain ⟨bk, off, hAe, hbw, hcell⟩ := HR.out.plain (by omega) (by omega)
      subst hAe
      obtain ⟨kind, who, md, wh, d0, d1, d2, d3, wk, wo, wm, hwh⟩ := HX.out i hlt
      have far : ∀ j u, xs[j]? = some u → wr.cell? ⟨bk, off + j, none⟩ = some u := fun j u hu => ((BW.out.trans hF.world).cell (p := ⟨bk, off + j, none⟩) hbw).trans (hcell j u hu)
      have g0 := far _ _ d0
      have g1 := far _ _ d1
      have g2 := far _ _ d2
      have g3 := far _ _ d3
      rw [← Nat.add_assoc] at g1 g2 g3
      have hbr : bk < wr.heap.size := Nat.lt_of_lt_of_le hbw (BW.out.trans hF.world).size
      have WO := hide wo
      obtain ⟨S, hS⟩ : ∃ S, S = nm (wh % 5) := ⟨_, rfl⟩
      have HSN := hide hS
      have HSZ := hide (show Sz S by rw [hS]; exact nm_size _)
      have HWH := hide hwh
      clear far hcell d0 d1 d2 d3 hF wk wo wm hS hwh
      go_upto_region 10 with (fail)
      obtain ⟨w1, hw1⟩ : ∃ w1, w1 = wr.alloc (.cells #[.int .i64 kind, .int .i64 who, .int .i64 md, .int .u8 (wh : Int)] 37) := ⟨_, rfl⟩
      have X1 := hide (show Ext wr w1 by rw [hw1]; exact Ext.new wr _)
      have B1 := hide (show Blk w1 wr.heap.size 37 #[.int .i64 kind, .int .i64 who, .int .i64 md, .int .u8 (wh : Int)] by rw [hw1]; exact Blk.new wr 37 _)
      obtain ⟨ob, hob⟩ : ∃ ob, ob = wr.heap.size := ⟨_, rfl⟩
      rw [← hw1, ← hob]
      rw [← hob] at B1
      have H1 := hide (HF.out.ext X1.out)
      have R1 := hide (HRL.out.ex X1.out)
      have HS := hide (show ∀ w' : World, Blk w' ob 37 #[.int .i64 kind, .int .i64 who, .int .i64 md, .int .u8 (wh : Int)] → w'.cell? ⟨ob, 0, none⟩ = some (.int .i64 kind) ∧ w'.cell? ⟨ob, 1, none⟩ = some (.int .i64 who) ∧ w'.cell? ⟨ob, 2, none⟩ = some (.int .i64 md) ∧ w'.cell? ⟨ob, 3, none⟩ = some (.int .u8 (wh : Int)) from fun w' hb => ⟨by simpa using hb.cell 0, by simpa using hb.cell 1, by simpa using hb.cell 2, by simpa using hb.cell 3⟩)
      have Hi := hide (show i ≤ 1000 by omega)
      obtain ⟨y0, y1, y2, y3⟩ := HS.out _ B1.out
      clear g0 g1 g2 g3 hw1 hob HF HRL
      go_upto_if 40 with (fail)
      go_cut [] (fun wx => ∃ F' R' A' c', Has W wx (W.heap.size + 1) (i + 1) (i + 1) F' ∧ Rl W wx rb A' c' R' ∧ RepL F' R' ∧ R'.length ≤ i + 1 ∧ Blk wx ob 37 #[.int .i64 kind, .int .i64 who, .int .i64 md, .int .u8 (wh : Int)])
      case first =>
        cases hb7 : ((wrap64 (kind.tmod 8 + 8)).tmod 8 == 7) with
        | true =>
          go_wp2_with (first
            | (go_at_call 13; refine (has_free W w1 _ i i F who H1.out WO.out).mono ?_; rintro e w2 ⟨rfl, h2, hc2⟩; have H2 := hide h2; have R2 := hide (R1.out.cells hc2 h2.world); have B2 := hide (hc2 _ _ _ B1.out); have u1 := (HS.out _ B2.out).2.1; clear h2 hc2)
            | (go_at_call 14; refine (rfree_any W w2 rb A0 c0 R who R2.out (by have := HLEN.out; omega)).mono ?_; rintro e w3 ⟨rfl, A3, c3, hl3, ht3⟩; have R3 := hide hl3; have H3 := hide ((H2.out.touch R2.out.blk ht3 hl3.ext).grow (Nat.le_succ i) (Nat.le_succ i)); have B3 := hide (ht3.blk B2.out (Blk.ne_ B2.out R2.out.blk (by decide))); clear hl3 ht3))
          go_meet
          case rel => exact ⟨_, _, A3, c3, H3.out, R3.out, HREP.out.free who, Nat.le_succ_of_le (Nat.le_trans (List.length_filter_le _ _) HLEN.out), B3.out⟩
        | false =>
          go_wp2_with (fail)
          refine wp_region_F (S := (fun w' => w'.cell? ⟨ob, 0, none⟩ = some (.int .i64 kind) ∧ w'.cell? ⟨ob, 1, none⟩ = some (.int .i64 who) ∧ w'.cell? ⟨ob, 2, none⟩ = some (.int .i64 md) ∧ w'.cell? ⟨ob, 3, none⟩ = some (.int .u8 (wh : Int)))) 13 (by kernel_rfl) (by kernel_rfl) (HS.out _ (Blk.drew B1.out)) (fun hHeld => ?_)
          refine GoF.take 0 (some 50) (v := ?_) rfl rfl (by kernel_rfl) (by kernel_rfl) (by kernel_rfl) (fun _ _ _ h => h) (Or.inl ⟨by rfl, ?_⟩) (by assumption) ?_
          rotate_left
          · intro w' hSw
            try dsimp only at hSw
            go_simp
            try with_reducible rfl
          try simp only [Act.put, List.setIfInBounds_toArray, List.set_cons_zero, List.set_cons_succ]
          refine GoF.take 1 (some 51) (v := ?_) rfl rfl (by kernel_rfl) (by kernel_rfl) (by kernel_rfl) (fun _ _ _ h => h) (Or.inl ⟨by rfl, ?_⟩) (by assumption) ?_
          rotate_left
          · intro w' hSw
            try dsimp only at hSw
            go_simp
            try with_reducible rfl
          try simp only [Act.put, List.setIfInBounds_toArray, List.set_cons_zero, List.set_cons_succ]
          refine GoF.take 2 (some 52) (v := ?_) rfl rfl (by kernel_rfl) (by kernel_rfl) (by kernel_rfl) (fun _ _ _ h => h) (Or.inl ⟨by rfl, ?_⟩) (by assumption) ?_
          rotate_left
          · intro w' hSw
            try dsimp only at hSw
            go_simp
            try with_reducible rfl
          try simp only [Act.put, List.setIfInBounds_toArray, List.set_cons_zero, List.set_cons_succ]
          refine GoF.take 3 (some 53) (v := ?_) rfl rfl (by kernel_rfl) (by kernel_rfl) (by kernel_rfl) (fun _ _ _ h => h) (Or.inl ⟨by rfl, ?_⟩) (by assumption) ?_
          rotate_left
          · intro w' hSw
            try dsimp only at hSw
            go_simp
            try with_reducible rfl
          try simp only [Act.put, List.setIfInBounds_toArray, List.set_cons_zero, List.set_cons_succ]
          refine GoF.take 4 (some 54) (v := ?_) rfl rfl (by kernel_rfl) (by kernel_rfl) (by kernel_rfl) (fun _ _ _ h => h) (Or.inl ⟨by rfl, ?_⟩) (by assumption) ?_
          rotate_left
          · intro w' hSw
            try dsimp only at hSw
            go_simp
            try with_reducible rfl
          try simp only [Act.put, List.setIfInBounds_toArray, List.set_cons_zero, List.set_cons_succ]
          refine GoF.take 6 (some 56) (v := ?_) rfl rfl (by kernel_rfl) (by kernel_rfl) (by kernel_rfl) (fun _ _ _ h => h) (Or.inl ⟨by rfl, ?_⟩) (by assumption) ?_
          rotate_left
          · intro w' hSw
            try dsimp only at hSw
            go_simp
            try with_reducible rfl
          try simp only [Act.put, List.setIfInBounds_toArray, List.set_cons_zero, List.set_cons_succ]
          refine GoF.take 7 (some 57) (v := ?_) rfl rfl (by kernel_rfl) (by kernel_rfl) (by kernel_rfl) (fun _ _ _ h => h) (Or.inl ⟨by rfl, ?_⟩) (by assumption) ?_
          rotate_left
          · intro w' hSw
            try dsimp only at hSw
            go_simp
            try with_reducible rfl
          try simp only [Act.put, List.setIfInBounds_toArray, List.set_cons_zero, List.set_cons_succ]
          refine GoF.each (rs := [5]) (by kernel_rfl) (by kernel_rfl) (by kernel_rfl) ?_
          refine EachF.cons (i := 5) rfl (fun K hK => ?_) EachF.nil
          go_simp
          refine (name_any wh (wh % 5) _ HWH.out rfl).mono ?_
          rintro e w2 ⟨rfl, x2⟩
          rw [← HSN.out]
          have Xw2 := hide (show Ext w1 w2 from (Ext.drew (Ext.refl w1)).trans x2)
          have B2 := hide (Xw2.out.blk B1.out)
          have H2 := hide (H1.out.ext Xw2.out)
          have R2 := hide (R1.out.ex Xw2.out)
          clear x2
          try go_simp
          refine hK.out _ _ (HS.out _ B2.out) (fun hHeld => ?_)
          clear hK K
          try simp only [Act.put, List.setIfInBounds_toArray, List.set_cons_zero, List.set_cons_succ]
          refine GoF.each (rs := [8]) (by kernel_rfl) (by kernel_rfl) (by kernel_rfl) ?_
          refine EachF.cons (i := 8) rfl (fun K hK => ?_) EachF.nil
          go_simp
          refine (ask_all W w2 _ i i F S who md H2.out WO.out HSZ.out Hi.out Hi.out).mono ?_
          rintro e w3 ⟨A3, c3, L3, b3, F3, rfl, ho3, hh3, hc3, hl3, hp3⟩
          have O3 := hide ho3
          have H3 := hide hh3
          have R3 := hide (R2.out.cells hc3 hh3.world)
          have B3 := hide (hc3 _ _ _ B2.out)
          have P3 := hide hp3
          have HL3 := hide hl3
          clear ho3 hh3 hc3 hl3 hp3
          try go_simp
          refine hK.out _ _ (HS.out _ B3.out) (fun hHeld => ?_)
          clear hK K
          try simp only [Act.put, List.setIfInBounds_toArray, List.set_cons_zero, List.set_cons_succ]
          refine GoF.take 9 (some 49) (v := ?_) rfl rfl (by kernel_rfl) (by kernel_rfl) (by kernel_rfl) (fun _ _ _ h => h) (Or.inl ⟨by rfl, ?_⟩) (by assumption) ?_
          rotate_left
          · intro w' hSw
            try dsimp only at hSw
            go_simp
            try with_reducible rfl
          try simp only [Act.put, List.setIfInBounds_toArray, List.set_cons_zero, List.set_cons_succ]
          refine GoF.take 10 (some 59) (v := ?_) rfl rfl (by kernel_rfl) (by kernel_rfl) (by kernel_rfl) (fun _ _ _ h => h) (Or.inl ⟨by rfl, ?_⟩) (by assumption) ?_
          rotate_left
          · intro w' hSw
            try dsimp only at hSw
            go_simp
            try with_reducible rfl
          try simp only [Act.put, List.setIfInBounds_toArray, List.set_cons_zero, List.set_cons_succ]
          refine GoF.take 11 (some 60) (v := ?_) rfl rfl (by kernel_rfl) (by kernel_rfl) (by kernel_rfl) (fun _ _ _ h => h) (Or.inl ⟨by rfl, ?_⟩) (by assumption) ?_
          rotate_left
          · intro w' hSw
            try dsimp only at hSw
            go_simp
            try with_reducible rfl
          try simp only [Act.put, List.setIfInBounds_toArray, List.set_cons_zero, List.set_cons_succ]
          refine GoF.take 12 (some 7) (v := ?_) rfl rfl (by kernel_rfl) (by kernel_rfl) (by kernel_rfl) (fun _ _ _ h => h) (Or.inl ⟨by rfl, ?_⟩) (by assumption) ?_
          rotate_left
          · intro w' hSw
            try dsimp only at hSw
            go_simp
            try with_reducible rfl
          try simp only [Act.put, List.setIfInBounds_toArray, List.set_cons_zero, List.set_cons_succ]
          refine GoF.last (by kernel_rfl) (by kernel_rfl) rfl (fun K hK => ?_)
          clear hHeld
          go_simp
          refine hK.out _ _ ?_
          clear hK K
          go_wp2_with (fail)
          refine wp_region_F (S := (fun w' => w'.cell? ⟨ob, 0, none⟩ = some (.int .i64 kind) ∧ w'.cell? ⟨ob, 1, none⟩ = some (.int .i64 who) ∧ w'.cell? ⟨ob, 2, none⟩ = some (.int .i64 md) ∧ w'.cell? ⟨ob, 3, none⟩ = some (.int .u8 (wh : Int)))) 13 (by kernel_rfl) (by kernel_rfl) (HS.out _ (Blk.drew B3.out)) (fun hHeld => ?_)
          refine GoF.take 0 (some 62) (v := ?_) rfl rfl (by kernel_rfl) (by kernel_rfl) (by kernel_rfl) (fun _ _ _ h => h) (Or.inl ⟨by rfl, ?_⟩) (by assumption) ?_
          rotate_left
          · intro w' hSw
            try dsimp only at hSw
            go_simp
            try with_reducible rfl
          try simp only [Act.put, List.setIfInBounds_toArray, List.set_cons_zero, List.set_cons_succ]
          refine GoF.take 1 (some 63) (v := ?_) rfl rfl (by kernel_rfl) (by kernel_rfl) (by kernel_rfl) (fun _ _ _ h => h) (Or.inl ⟨by rfl, ?_⟩) (by assumption) ?_
          rotate_left
          · intro w' hSw
            try dsimp only at hSw
            go_simp
            try with_reducible rfl
          try simp only [Act.put, List.setIfInBounds_toArray, List.set_cons_zero, List.set_cons_succ]
          refine GoF.take 2 (some 64) (v := ?_) rfl rfl (by kernel_rfl) (by kernel_rfl) (by kernel_rfl) (fun _ _ _ h => h) (Or.inl ⟨by rfl, ?_⟩) (by assumption) ?_
          rotate_left
          · intro w' hSw
            try dsimp only at hSw
            go_simp
            try with_reducible rfl
          try simp only [Act.put, List.setIfInBounds_toArray, List.set_cons_zero, List.set_cons_succ]
          refine GoF.take 3 (some 65) (v := ?_) rfl rfl (by kernel_rfl) (by kernel_rfl) (by kernel_rfl) (fun _ _ _ h => h) (Or.inl ⟨by rfl, ?_⟩) (by assumption) ?_
          rotate_left
          · intro w' hSw
            try dsimp only at hSw
            go_simp
            try with_reducible rfl
          try simp only [Act.put, List.setIfInBounds_toArray, List.set_cons_zero, List.set_cons_succ]
          refine GoF.take 4 (some 66) (v := ?_) rfl rfl (by kernel_rfl) (by kernel_rfl) (by kernel_rfl) (fun _ _ _ h => h) (Or.inl ⟨by rfl, ?_⟩) (by assumption) ?_
          rotate_left
          · intro w' hSw
            try dsimp only at hSw
            go_simp
            try with_reducible rfl
          try simp only [Act.put, List.setIfInBounds_toArray, List.set_cons_zero, List.set_cons_succ]
          refine GoF.take 6 (some 68) (v := ?_) rfl rfl (by kernel_rfl) (by kernel_rfl) (by kernel_rfl) (fun _ _ _ h => h) (Or.inl ⟨by rfl, ?_⟩) (by assumption) ?_
          rotate_left
          · intro w' hSw
            try dsimp only at hSw
            go_simp
            try with_reducible rfl
          try simp only [Act.put, List.setIfInBounds_toArray, List.set_cons_zero, List.set_cons_succ]
          refine GoF.take 7 (some 69) (v := ?_) rfl rfl (by kernel_rfl) (by kernel_rfl) (by kernel_rfl) (fun _ _ _ h => h) (Or.inl ⟨by rfl, ?_⟩) (by assumption) ?_
          rotate_left
          · intro w' hSw
            try dsimp only at hSw
            go_simp
            try with_reducible rfl
          try simp only [Act.put, List.setIfInBounds_toArray, List.set_cons_zero, List.set_cons_succ]
          refine GoF.each (rs := [5]) (by kernel_rfl) (by kernel_rfl) (by kernel_rfl) ?_
          refine EachF.cons (i := 5) rfl (fun K hK => ?_) EachF.nil
          go_simp
          refine (name_any wh (wh % 5) _ HWH.out rfl).mono ?_
          rintro e w4 ⟨rfl, x2⟩
          rw [← HSN.out]
          have Xw4 := hide (show Ext w3 w4 from (Ext.drew (Ext.refl w3)).trans x2)
          have B4 := hide (Xw4.out.blk B3.out)
          have H4 := hide (H3.out.ext Xw4.out)
          have R4 := hide (R3.out.ex Xw4.out)
          have O4 := hide (Xw4.out.own O3.out)
          clear x2
          try go_simp
          refine hK.out _ _ (HS.out _ B4.out) (fun hHeld => ?_)
          clear hK K
          try simp only [Act.put, List.setIfInBounds_toArray, List.set_cons_zero, List.set_cons_succ]
          refine GoF.each (rs := [8]) (by kernel_rfl) (by kernel_rfl) (by kernel_rfl) ?_
          refine EachF.cons (i := 8) rfl (fun K hK => ?_) EachF.nil
          go_simp
          refine (rask_all W w4 rb A0 c0 R F S who md R4.out (by have := HLEN.out; omega) HREP.out).mono ?_
          rintro e w5 ⟨A5, c5, L5, b5, R5', A6, c6, rfl, hr5, hl5, ht5, hp5⟩
          obtain ⟨rfl, rfl, hrep5, hlen5⟩ := ask_agree HREP.out (fun x y => H1.out.md x y) P3.out hp5
          have O5 := hide (ownsRow_touch ht5 O4.out (fun z hz e => by subst e; exact own_blk_ne O4.out R4.out.blk (by decide) hz))
          have H5 := hide (H4.out.touch R4.out.blk ht5 hl5.ext)
          have B5 := hide (ht5.blk B4.out (Blk.ne_ B4.out R4.out.blk (by decide)))
          have R5 := hide hl5
          have RD5 := hide hr5
          have HREP5 := hide hrep5
          have HLEN5 := hide hlen5
          clear hr5 hl5 ht5 hp5 hrep5 hlen5
          try go_simp
          refine hK.out _ _ (HS.out _ B5.out) (fun hHeld => ?_)
          clear hK K
          try simp only [Act.put, List.setIfInBounds_toArray, List.set_cons_zero, List.set_cons_succ]
          refine GoF.take 9 (some 61) (v := ?_) rfl rfl (by kernel_rfl) (by kernel_rfl) (by kernel_rfl) (fun _ _ _ h => h) (Or.inl ⟨by rfl, ?_⟩) (by assumption) ?_
          rotate_left
          · intro w' hSw
            try dsimp only at hSw
            go_simp
            try with_reducible rfl
          try simp only [Act.put, List.setIfInBounds_toArray, List.set_cons_zero, List.set_cons_succ]
          refine GoF.take 10 (some 71) (v := ?_) rfl rfl (by kernel_rfl) (by kernel_rfl) (by kernel_rfl) (fun _ _ _ h => h) (Or.inl ⟨by rfl, ?_⟩) (by assumption) ?_
          rotate_left
          · intro w' hSw
            try dsimp only at hSw
            go_simp
            try with_reducible rfl
          try simp only [Act.put, List.setIfInBounds_toArray, List.set_cons_zero, List.set_cons_succ]
          refine GoF.take 11 (some 72) (v := ?_) rfl rfl (by kernel_rfl) (by kernel_rfl) (by kernel_rfl) (fun _ _ _ h => h) (Or.inl ⟨by rfl, ?_⟩) (by assumption) ?_
          rotate_left
          · intro w' hSw
            try dsimp only at hSw
            go_simp
            try with_reducible rfl
          try simp only [Act.put, List.setIfInBounds_toArray, List.set_cons_zero, List.set_cons_succ]
          refine GoF.take 12 (some 9) (v := ?_) rfl rfl (by kernel_rfl) (by kernel_rfl) (by kernel_rfl) (fun _ _ _ h => h) (Or.inl ⟨by rfl, ?_⟩) (by assumption) ?_
          rotate_left
          · intro w' hSw
            try dsimp only at hSw
            go_simp
            try with_reducible rfl
          try simp only [Act.put, List.setIfInBounds_toArray, List.set_cons_zero, List.set_cons_succ]
          refine GoF.last (by kernel_rfl) (by kernel_rfl) rfl (fun K hK => ?_)
          clear hHeld
          go_simp
          refine hK.out _ _ ?_
          clear hK K
          have hbb := nset b3
          go_wp2_with (go_at_call 17; refine (numbers_any A3 A5 c3 c5 L3.length _ _ L3 w5 rfl (Reads.of_own O5.out) RD5.out (by have := HL3.out; omega)).mono ?_; rintro e w6 ⟨rfl, x6⟩; have H6 := hide (H5.out.ext x6); have R6 := hide (R5.out.ex x6); have B6 := hide (x6.blk B5.out); clear x6)
          go_meet
          case rel => exact ⟨F3, R5', A6, c6, H6.out, R6.out, HREP5.out, by have := HLEN5.out; have := HLEN.out; omega, B6.out⟩
      case rest =>
        obtain ⟨F7, R7', A7, c7, h7, r7, hrep7, hlen7, b7⟩ := hcut
        have H7 := hide h7
        have R7 := hide r7
        have HREP7 := hide hrep7
        have HLEN7 := hide hlen7
        have B7 := hide b7
        clear h7 r7 hrep7 hlen7 b7 y0 y1 y2 y3 H1 R1 B1
        go_wp2_with (fail)
        refine wp_region_F (S := (fun w' => w'.cell? ⟨ob, 0, none⟩ = some (.int .i64 kind) ∧ w'.cell? ⟨ob, 1, none⟩ = some (.int .i64 who) ∧ w'.cell? ⟨ob, 2, none⟩ = some (.int .i64 md) ∧ w'.cell? ⟨ob, 3, none⟩ = some (.int .u8 (wh : Int)))) 9 (by kernel_rfl) (by kernel_rfl) (HS.out _ (Blk.drew B7.out)) (fun hHeld => ?_)
        refine GoF.take 0 (some 82) (v := ?_) rfl rfl (by kernel_rfl) (by kernel_rfl) (by kernel_rfl) (fun _ _ _ h => h) (Or.inl ⟨by rfl, ?_⟩) (by assumption) ?_
        rotate_left
        · intro w' hSw
          try dsimp only at hSw
          go_simp
          try with_reducible rfl
        try simp only [Act.put, List.setIfInBounds_toArray, List.set_cons_zero, List.set_cons_succ]
        refine GoF.take 1 (some 83) (v := ?_) rfl rfl (by kernel_rfl) (by kernel_rfl) (by kernel_rfl) (fun _ _ _ h => h) (Or.inl ⟨by rfl, ?_⟩) (by assumption) ?_
        rotate_left
        · intro w' hSw
          try dsimp only at hSw
          go_simp
          try with_reducible rfl
        try simp only [Act.put, List.setIfInBounds_toArray, List.set_cons_zero, List.set_cons_succ]
        refine GoF.take 2 (some 84) (v := ?_) rfl rfl (by kernel_rfl) (by kernel_rfl) (by kernel_rfl) (fun _ _ _ h => h) (Or.inl ⟨by rfl, ?_⟩) (by assumption) ?_
        rotate_left
        · intro w' hSw
          try dsimp only at hSw
          go_simp
          try with_reducible rfl
        try simp only [Act.put, List.setIfInBounds_toArray, List.set_cons_zero, List.set_cons_succ]
        refine GoF.take 4 (some 86) (v := ?_) rfl rfl (by kernel_rfl) (by kernel_rfl) (by kernel_rfl) (fun _ _ _ h => h) (Or.inl ⟨by rfl, ?_⟩) (by assumption) ?_
        rotate_left
        · intro w' hSw
          try dsimp only at hSw
          go_simp
          try with_reducible rfl
        try simp only [Act.put, List.setIfInBounds_toArray, List.set_cons_zero, List.set_cons_succ]
        refine GoF.take 5 (some 87) (v := ?_) rfl rfl (by kernel_rfl) (by kernel_rfl) (by kernel_rfl) (fun _ _ _ h => h) (Or.inl ⟨by rfl, ?_⟩) (by assumption) ?_
        rotate_left
        · intro w' hSw
          try dsimp only at hSw
          go_simp
          try with_reducible rfl
        try simp only [Act.put, List.setIfInBounds_toArray, List.set_cons_zero, List.set_cons_succ]
        refine GoF.take 6 (some 88) (v := ?_) rfl rfl (by kernel_rfl) (by kernel_rfl) (by kernel_rfl) (fun _ _ _ h => h) (Or.inl ⟨by rfl, ?_⟩) (by assumption) ?_
        rotate_left
        · intro w' hSw
          try dsimp only at hSw
          go_simp
          try with_reducible rfl
        try simp only [Act.put, List.setIfInBounds_toArray, List.set_cons_zero, List.set_cons_succ]
        refine GoF.each (rs := [3]) (by kernel_rfl) (by kernel_rfl) (by kernel_rfl) ?_
        refine EachF.cons (i := 3) rfl (fun K hK => ?_) EachF.nil
        go_simp
        refine (has_locks W wc.drew _ (i + 1) (i + 1) F7 who (H7.out.ext (Ext.drew (Ext.refl wc))) WO.out (by omega)).mono ?_
        rintro e w8 ⟨v8, L8, rfl, hs8, hm8, hl8, ho8, x8⟩
        obtain ⟨A8, c8, hv8, _⟩ := own_form ho8
        subst hv8
        have O8 := hide ho8
        have HS8 := hide hs8
        have HM8 := hide hm8
        have HL8 := hide hl8
        have Xw8 := hide (show Ext wc w8 from (Ext.drew (Ext.refl wc)).trans x8)
        have B8 := hide (Xw8.out.blk B7.out)
        have H8 := hide (H7.out.ext Xw8.out)
        have R8 := hide (R7.out.ex Xw8.out)
        clear ho8 hs8 hm8 hl8 x8
        try go_simp
        refine hK.out _ _ (HS.out _ B8.out) (fun hHeld => ?_)
        clear hK K
        try simp only [Act.put, List.setIfInBounds_toArray, List.set_cons_zero, List.set_cons_succ]
        refine GoF.each (rs := [7]) (by kernel_rfl) (by kernel_rfl) (by kernel_rfl) ?_
        refine EachF.cons (i := 7) rfl (fun K hK => ?_) EachF.nil
        go_simp
        refine (rlocks_any W w8 rb A7 c7 R7' F7 who R8.out (by have := HLEN7.out; omega) HREP7.out).mono ?_
        rintro e w9 ⟨l9, hn9, A9, c9, rfl, ho9, x9⟩
        obtain rfl := NamesL.same HREP7.out hn9 HS8.out HM8.out
        have Q9 := hide ho9
        have Xw9 := hide (show Ext w8 w9 from x9)
        have B9 := hide (Xw9.out.blk B8.out)
        have H9 := hide (H8.out.ext Xw9.out)
        have R9 := hide (R8.out.ex Xw9.out)
        have O9 := hide (Xw9.out.own O8.out)
        clear ho9 hn9 x9
        try go_simp
        refine hK.out _ _ (HS.out _ B9.out) (fun hHeld => ?_)
        clear hK K
        try simp only [Act.put, List.setIfInBounds_toArray, List.set_cons_zero, List.set_cons_succ]
        refine GoF.take 8 (some 11) (v := ?_) rfl rfl (by kernel_rfl) (by kernel_rfl) (by kernel_rfl) (fun _ _ _ h => h) (Or.inl ⟨by rfl, ?_⟩) (by assumption) ?_
        rotate_left
        · intro w' hSw
          try dsimp only at hSw
          go_simp
          try with_reducible rfl
        try simp only [Act.put, List.setIfInBounds_toArray, List.set_cons_zero, List.set_cons_succ]
        refine GoF.last (by kernel_rfl) (by kernel_rfl) rfl (fun K hK => ?_)
        clear hHeld
        go_simp
        refine hK.out _ _ ?_
        clear hK K
        obtain ⟨D, hD⟩ : ∃ D, D = F7 S who := ⟨_, rfl⟩
        have HD := hide hD
        clear hD
        go_wp2_with (fail)
        refine wp_region_F (S := (fun w' => w'.cell? ⟨ob, 0, none⟩ = some (.int .i64 kind) ∧ w'.cell? ⟨ob, 1, none⟩ = some (.int .i64 who) ∧ w'.cell? ⟨ob, 2, none⟩ = some (.int .i64 md) ∧ w'.cell? ⟨ob, 3, none⟩ = some (.int .u8 (wh : Int)))) 35 (by kernel_rfl) (by kernel_rfl) (HS.out _ (Blk.drew B9.out)) (fun hHeld => ?_)
        refine GoF.take 0 (some 90) (v := ?_) rfl rfl (by kernel_rfl) (by kernel_rfl) (by kernel_rfl) (fun _ _ _ h => h) (Or.inl ⟨by rfl, ?_⟩) (by assumption) ?_
        rotate_left
        · intro w' hSw
          try dsimp only at hSw
          go_simp
          try with_reducible rfl
        try simp only [Act.put, List.setIfInBounds_toArray, List.set_cons_zero, List.set_cons_succ]
        refine GoF.take 1 (some 91) (v := ?_) rfl rfl (by kernel_rfl) (by kernel_rfl) (by kernel_rfl) (fun _ _ _ h => h) (Or.inl ⟨by rfl, ?_⟩) (by assumption) ?_
        rotate_left
        · intro w' hSw
          try dsimp only at hSw
          go_simp
          try with_reducible rfl
        try simp only [Act.put, List.setIfInBounds_toArray, List.set_cons_zero, List.set_cons_succ]
        refine GoF.take 2 (some 92) (v := ?_) rfl rfl (by kernel_rfl) (by kernel_rfl) (by kernel_rfl) (fun _ _ _ h => h) (Or.inl ⟨by rfl, ?_⟩) (by assumption) ?_
        rotate_left
        · intro w' hSw
          try dsimp only at hSw
          go_simp
          try with_reducible rfl
        try simp only [Act.put, List.setIfInBounds_toArray, List.set_cons_zero, List.set_cons_succ]
        refine GoF.take 3 (some 93) (v := ?_) rfl rfl (by kernel_rfl) (by kernel_rfl) (by kernel_rfl) (fun _ _ _ h => h) (Or.inl ⟨by rfl, ?_⟩) (by assumption) ?_
        rotate_left
        · intro w' hSw
          try dsimp only at hSw
          go_simp
          try with_reducible rfl
        try simp only [Act.put, List.setIfInBounds_toArray, List.set_cons_zero, List.set_cons_succ]
        refine GoF.take 4 (some 94) (v := ?_) rfl rfl (by kernel_rfl) (by kernel_rfl) (by kernel_rfl) (fun _ _ _ h => h) (Or.inl ⟨by rfl, ?_⟩) (by assumption) ?_
        rotate_left
        · intro w' hSw
          try dsimp only at hSw
          go_simp
          try with_reducible rfl
        try simp only [Act.put, List.setIfInBounds_toArray, List.set_cons_zero, List.set_cons_succ]
        refine GoF.take 7 (some 97) (v := ?_) rfl rfl (by kernel_rfl) (by kernel_rfl) (by kernel_rfl) (fun _ _ _ h => h) (Or.inl ⟨by rfl, ?_⟩) (by assumption) ?_
        rotate_left
        · intro w' hSw
          try dsimp only at hSw
          go_simp
          try with_reducible rfl
        try simp only [Act.put, List.setIfInBounds_toArray, List.set_cons_zero, List.set_cons_succ]
        refine GoF.take 8 (some 98) (v := ?_) rfl rfl (by kernel_rfl) (by kernel_rfl) (by kernel_rfl) (fun _ _ _ h => h) (Or.inl ⟨by rfl, ?_⟩) (by assumption) ?_
        rotate_left
        · intro w' hSw
          try dsimp only at hSw
          go_simp
          try with_reducible rfl
        try simp only [Act.put, List.setIfInBounds_toArray, List.set_cons_zero, List.set_cons_succ]
        refine GoF.take 9 (some 99) (v := ?_) rfl rfl (by kernel_rfl) (by kernel_rfl) (by kernel_rfl) (fun _ _ _ h => h) (Or.inl ⟨by rfl, ?_⟩) (by assumption) ?_
        rotate_left
        · intro w' hSw
          try dsimp only at hSw
          go_simp
          try with_reducible rfl
        try simp only [Act.put, List.setIfInBounds_toArray, List.set_cons_zero, List.set_cons_succ]
        refine GoF.take 10 (some 100) (v := ?_) rfl rfl (by kernel_rfl) (by kernel_rfl) (by kernel_rfl) (fun _ _ _ h => h) (Or.inl ⟨by rfl, ?_⟩) (by assumption) ?_
        rotate_left
        · intro w' hSw
          try dsimp only at hSw
          go_simp
          try with_reducible rfl
        try simp only [Act.put, List.setIfInBounds_toArray, List.set_cons_zero, List.set_cons_succ]
        refine GoF.take 11 (some 101) (v := ?_) rfl rfl (by kernel_rfl) (by kernel_rfl) (by kernel_rfl) (fun _ _ _ h => h) (Or.inl ⟨by rfl, ?_⟩) (by assumption) ?_
        rotate_left
        · intro w' hSw
          try dsimp only at hSw
          go_simp
          try with_reducible rfl
        try simp only [Act.put, List.setIfInBounds_toArray, List.set_cons_zero, List.set_cons_succ]
        refine GoF.each (rs := [5]) (by kernel_rfl) (by kernel_rfl) (by kernel_rfl) ?_
        refine EachF.cons (i := 5) rfl (fun K hK => ?_) EachF.nil
        go_simp
        refine (name_any wh (wh % 5) _ HWH.out rfl).mono ?_
        rintro e w10 ⟨rfl, x2⟩
        rw [← HSN.out]
        have Xw10 := hide (show Ext w9 w10 from (Ext.drew (Ext.refl w9)).trans x2)
        have B10 := hide (Xw10.out.blk B9.out)
        have H10 := hide (H9.out.ext Xw10.out)
        have R10 := hide (R9.out.ex Xw10.out)
        have O10 := hide (Xw10.out.own O9.out)
        have Q10 := hide (Xw10.out.own Q9.out)
        clear x2
        try go_simp
        refine hK.out _ _ (HS.out _ B10.out) (fun hHeld => ?_)
        clear hK K
        try simp only [Act.put, List.setIfInBounds_toArray, List.set_cons_zero, List.set_cons_succ]
        refine GoF.each (rs := [6]) (by kernel_rfl) (by kernel_rfl) (by kernel_rfl) ?_
        refine EachF.cons (i := 6) rfl (fun K hK => ?_) EachF.nil
        go_simp
        refine (has_held W w10 _ (i + 1) (i + 1) F7 who S H10.out WO.out HSZ.out).mono ?_
        rintro e w' ⟨rfl, rfl⟩
        rw [← HD.out]
        try go_simp
        refine hK.out _ _ (HS.out _ B10.out) (fun hHeld => ?_)
        clear hK K
        try simp only [Act.put, List.setIfInBounds_toArray, List.set_cons_zero, List.set_cons_succ]
        refine GoF.each (rs := [12]) (by kernel_rfl) (by kernel_rfl) (by kernel_rfl) ?_
        refine EachF.cons (i := 12) rfl (fun K hK => ?_) EachF.nil
        go_simp
        refine (name_any wh (wh % 5) _ HWH.out rfl).mono ?_
        rintro e w11 ⟨rfl, x2⟩
        rw [← HSN.out]
        have Xw11 := hide (show Ext w10 w11 from x2)
        have B11 := hide (Xw11.out.blk B10.out)
        have H11 := hide (H10.out.ext Xw11.out)
        have R11 := hide (R10.out.ex Xw11.out)
        have O11 := hide (Xw11.out.own O10.out)
        have Q11 := hide (Xw11.out.own Q10.out)
        clear x2
        try go_simp
        refine hK.out _ _ (HS.out _ B11.out) (fun hHeld => ?_)
        clear hK K
        try simp only [Act.put, List.setIfInBounds_toArray, List.set_cons_zero, List.set_cons_succ]
        refine GoF.each (rs := [13]) (by kernel_rfl) (by kernel_rfl) (by kernel_rfl) ?_
        refine EachF.cons (i := 13) rfl (fun K hK => ?_) EachF.nil
        go_simp
        refine (rheld_any W w11 rb A7 c7 R7' F7 who S R11.out (by have := HLEN7.out; omega) HREP7.out).mono ?_
        rintro e w' ⟨rfl, rfl⟩
        rw [← HD.out]
        try go_simp
        refine hK.out _ _ (HS.out _ B11.out) (fun hHeld => ?_)
        clear hK K
        try simp only [Act.put, List.setIfInBounds_toArray, List.set_cons_zero, List.set_cons_succ]
        refine GoF.take 14 (some 104) (v := ?_) rfl rfl (by kernel_rfl) (by kernel_rfl) (by kernel_rfl) (fun _ _ _ h => h) (Or.inl ⟨by rfl, ?_⟩) (by assumption) ?_
        rotate_left
        · intro w' hSw
          try dsimp only at hSw
          go_simp
          try with_reducible rfl
        try simp only [Act.put, List.setIfInBounds_toArray, List.set_cons_zero, List.set_cons_succ]
        refine GoF.take 15 (some 105) (v := ?_) rfl rfl (by kernel_rfl) (by kernel_rfl) (by kernel_rfl) (fun _ _ _ h => h) (Or.inl ⟨by rfl, ?_⟩) (by assumption) ?_
        rotate_left
        · intro w' hSw
          try dsimp only at hSw
          go_simp
          try with_reducible rfl
        try simp only [Act.put, List.setIfInBounds_toArray, List.set_cons_zero, List.set_cons_succ]
        refine GoF.take 16 (some 106) (v := ?_) rfl rfl (by kernel_rfl) (by kernel_rfl) (by kernel_rfl) (fun _ _ _ h => h) (Or.inl ⟨by rfl, ?_⟩) (by assumption) ?_
        rotate_left
        · intro w' hSw
          try dsimp only at hSw
          go_simp
          try with_reducible rfl
        try simp only [Act.put, List.setIfInBounds_toArray, List.set_cons_zero, List.set_cons_succ]
        refine GoF.take 17 (some 107) (v := ?_) rfl rfl (by kernel_rfl) (by kernel_rfl) (by kernel_rfl) (fun _ _ _ h => h) (Or.inl ⟨by rfl, ?_⟩) (by assumption) ?_
        rotate_left
        · intro w' hSw
          try dsimp only at hSw
          go_simp
          try with_reducible rfl
        try simp only [Act.put, List.setIfInBounds_toArray, List.set_cons_zero, List.set_cons_succ]
        refine GoF.take 18 (some 108) (v := ?_) rfl rfl (by kernel_rfl) (by kernel_rfl) (by kernel_rfl) (fun _ _ _ h => h) (Or.inl ⟨by rfl, ?_⟩) (by assumption) ?_
        rotate_left
        · intro w' hSw
          try dsimp only at hSw
          go_simp
          try with_reducible rfl
        try simp only [Act.put, List.setIfInBounds_toArray, List.set_cons_zero, List.set_cons_succ]
        refine GoF.take 21 (some 111) (v := ?_) rfl rfl (by kernel_rfl) (by kernel_rfl) (by kernel_rfl) (fun _ _ _ h => h) (Or.inl ⟨by rfl, ?_⟩) (by assumption) ?_
        rotate_left
        · intro w' hSw
          try dsimp only at hSw
          go_simp
          try with_reducible rfl
        try simp only [Act.put, List.setIfInBounds_toArray, List.set_cons_zero, List.set_cons_succ]
        refine GoF.take 22 (some 112) (v := ?_) rfl rfl (by kernel_rfl) (by kernel_rfl) (by kernel_rfl) (fun _ _ _ h => h) (Or.inl ⟨by rfl, ?_⟩) (by assumption) ?_
        rotate_left
        · intro w' hSw
          try dsimp only at hSw
          go_simp
          try with_reducible rfl
        try simp only [Act.put, List.setIfInBounds_toArray, List.set_cons_zero, List.set_cons_succ]
        refine GoF.take 23 (some 113) (v := ?_) rfl rfl (by kernel_rfl) (by kernel_rfl) (by kernel_rfl) (fun _ _ _ h => h) (Or.inl ⟨by rfl, ?_⟩) (by assumption) ?_
        rotate_left
        · intro w' hSw
          try dsimp only at hSw
          go_simp
          try with_reducible rfl
        try simp only [Act.put, List.setIfInBounds_toArray, List.set_cons_zero, List.set_cons_succ]
        refine GoF.each (rs := [19]) (by kernel_rfl) (by kernel_rfl) (by kernel_rfl) ?_
        refine EachF.cons (i := 19) rfl (fun K hK => ?_) EachF.nil
        go_simp
        refine (name_any wh (wh % 5) _ HWH.out rfl).mono ?_
        rintro e w12 ⟨rfl, x2⟩
        rw [← HSN.out]
        have Xw12 := hide (show Ext w11 w12 from x2)
        have B12 := hide (Xw12.out.blk B11.out)
        have H12 := hide (H11.out.ext Xw12.out)
        have R12 := hide (R11.out.ex Xw12.out)
        have O12 := hide (Xw12.out.own O11.out)
        have Q12 := hide (Xw12.out.own Q11.out)
        clear x2
        try go_simp
        refine hK.out _ _ (HS.out _ B12.out) (fun hHeld => ?_)
        clear hK K
        try simp only [Act.put, List.setIfInBounds_toArray, List.set_cons_zero, List.set_cons_succ]
        refine GoF.each (rs := [20]) (by kernel_rfl) (by kernel_rfl) (by kernel_rfl) ?_
        refine EachF.cons (i := 20) rfl (fun K hK => ?_) EachF.nil
        go_simp
        refine (has_holders W w12 _ (i + 1) (i + 1) F7 S H12.out HSZ.out (by omega)).mono ?_
        rintro e w13 ⟨v13, L13, rfl, hs13, hm13, hl13, _, ho13, x13⟩
        obtain ⟨A13, c13, hv13, _⟩ := own_form ho13
        subst hv13
        have V13 := hide ho13
        have HS13 := hide hs13
        have HM13 := hide hm13
        have HL13 := hide hl13
        have Xw13 := hide (show Ext w12 w13 from x13)
        have B13 := hide (Xw13.out.blk B12.out)
        have H13 := hide (H12.out.ext Xw13.out)
        have R13 := hide (R12.out.ex Xw13.out)
        have O13 := hide (Xw13.out.own O12.out)
        have Q13 := hide (Xw13.out.own Q12.out)
        clear ho13 hs13 hm13 hl13 x13
        try go_simp
        refine hK.out _ _ (HS.out _ B13.out) (fun hHeld => ?_)
        clear hK K
        try simp only [Act.put, List.setIfInBounds_toArray, List.set_cons_zero, List.set_cons_succ]
        refine GoF.each (rs := [24]) (by kernel_rfl) (by kernel_rfl) (by kernel_rfl) ?_
        refine EachF.cons (i := 24) rfl (fun K hK => ?_) EachF.nil
        go_simp
        refine (name_any wh (wh % 5) _ HWH.out rfl).mono ?_
        rintro e w14 ⟨rfl, x2⟩
        rw [← HSN.out]
        have Xw14 := hide (show Ext w13 w14 from x2)
        have B14 := hide (Xw14.out.blk B13.out)
        have H14 := hide (H13.out.ext Xw14.out)
        have R14 := hide (R13.out.ex Xw14.out)
        have O14 := hide (Xw14.out.own O13.out)
        have Q14 := hide (Xw14.out.own Q13.out)
        have V14 := hide (Xw14.out.own V13.out)
        clear x2
        try go_simp
        refine hK.out _ _ (HS.out _ B14.out) (fun hHeld => ?_)
        clear hK K
        try simp only [Act.put, List.setIfInBounds_toArray, List.set_cons_zero, List.set_cons_succ]
        refine GoF.each (rs := [25]) (by kernel_rfl) (by kernel_rfl) (by kernel_rfl) ?_
        refine EachF.cons (i := 25) rfl (fun K hK => ?_) EachF.nil
        go_simp
        have hcall := rholders_any W w14 rb A7 c7 R7' S R14.out (by have := HLEN7.out; omega)
        rw [← HREP7.out.holders S HS13.out HM13.out] at hcall
        refine hcall.mono ?_
        clear hcall
        rintro e w15 ⟨A15, c15, rfl, hr15, _, _, _, x15⟩
        have RD15 := hide hr15
        have Xw15 := hide (show Ext w14 w15 from x15)
        have B15 := hide (Xw15.out.blk B14.out)
        have H15 := hide (H14.out.ext Xw15.out)
        have R15 := hide (R14.out.ex Xw15.out)
        have O15 := hide (Xw15.out.own O14.out)
        have Q15 := hide (Xw15.out.own Q14.out)
        have V15 := hide (Xw15.out.own V14.out)
        clear hr15 x15
        try go_simp
        refine hK.out _ _ (HS.out _ B15.out) (fun hHeld => ?_)
        clear hK K
        try simp only [Act.put, List.setIfInBounds_toArray, List.set_cons_zero, List.set_cons_succ]
        refine GoF.each (rs := [26]) (by kernel_rfl) (by kernel_rfl) (by kernel_rfl) ?_
        refine EachF.cons (i := 26) rfl (fun K hK => ?_) EachF.nil
        go_simp
        refine (numbers_any A13 A15 c13 c15 L13.length _ _ L13 w15 rfl (Reads.of_own V15.out) RD15.out (by have := HL13.out; omega)).mono ?_
        rintro e w16 ⟨rfl, x16⟩
        have Xw16 := hide (show Ext w15 w16 from x16)
        have B16 := hide (Xw16.out.blk B15.out)
        have H16 := hide (H15.out.ext Xw16.out)
        have R16 := hide (R15.out.ex Xw16.out)
        have O16 := hide (Xw16.out.own O15.out)
        have Q16 := hide (Xw16.out.own Q15.out)
        clear x16
        try go_simp
        refine hK.out _ _ (HS.out _ B16.out) (fun hHeld => ?_)
        clear hK K
        try simp only [Act.put, List.setIfInBounds_toArray, List.set_cons_zero, List.set_cons_succ]
        refine GoF.take 27 (some 117) (v := ?_) rfl rfl (by kernel_rfl) (by kernel_rfl) (by kernel_rfl) (fun _ _ _ h => h) (Or.inl ⟨by rfl, ?_⟩) (by assumption) ?_
        rotate_left
        · intro w' hSw
          try dsimp only at hSw
          go_simp
          try with_reducible rfl
        try simp only [Act.put, List.setIfInBounds_toArray, List.set_cons_zero, List.set_cons_succ]
        refine GoF.take 28 (some 118) (v := ?_) rfl rfl (by kernel_rfl) (by kernel_rfl) (by kernel_rfl) (fun _ _ _ h => h) (Or.inl ⟨by rfl, ?_⟩) (by assumption) ?_
        rotate_left
        · intro w' hSw
          try dsimp only at hSw
          go_simp
          try with_reducible rfl
        try simp only [Act.put, List.setIfInBounds_toArray, List.set_cons_zero, List.set_cons_succ]
        refine GoF.take 29 (some 119) (v := ?_) rfl rfl (by kernel_rfl) (by kernel_rfl) (by kernel_rfl) (fun _ _ _ h => h) (Or.inl ⟨by rfl, ?_⟩) (by assumption) ?_
        rotate_left
        · intro w' hSw
          try dsimp only at hSw
          go_simp
          try with_reducible rfl
        try simp only [Act.put, List.setIfInBounds_toArray, List.set_cons_zero, List.set_cons_succ]
        refine GoF.take 30 (some 120) (v := ?_) rfl rfl (by kernel_rfl) (by kernel_rfl) (by kernel_rfl) (fun _ _ _ h => h) (Or.inl ⟨by rfl, ?_⟩) (by assumption) ?_
        rotate_left
        · intro w' hSw
          try dsimp only at hSw
          go_simp
          try with_reducible rfl
        try simp only [Act.put, List.setIfInBounds_toArray, List.set_cons_zero, List.set_cons_succ]
        refine GoF.take 31 (some 121) (v := ?_) rfl rfl (by kernel_rfl) (by kernel_rfl) (by kernel_rfl) (fun _ _ _ h => h) (Or.inl ⟨by rfl, ?_⟩) (by assumption) ?_
        rotate_left
        · intro w' hSw
          try dsimp only at hSw
          go_simp
          try with_reducible rfl
        try simp only [Act.put, List.setIfInBounds_toArray, List.set_cons_zero, List.set_cons_succ]
        refine GoF.take 32 (some 122) (v := ?_) rfl rfl (by kernel_rfl) (by kernel_rfl) (by kernel_rfl) (fun _ _ _ h => h) (Or.inl ⟨by rfl, ?_⟩) (by assumption) ?_
        rotate_left
        · intro w' hSw
          try dsimp only at hSw
          go_simp
          try with_reducible rfl
        try simp only [Act.put, List.setIfInBounds_toArray, List.set_cons_zero, List.set_cons_succ]
        refine GoF.take 33 (some 123) (v := ?_) rfl rfl (by kernel_rfl) (by kernel_rfl) (by kernel_rfl) (fun _ _ _ h => h) (Or.inl ⟨by rfl, ?_⟩) (by assumption) ?_
        rotate_left
        · intro w' hSw
          try dsimp only at hSw
          go_simp
          try with_reducible rfl
        try simp only [Act.put, List.setIfInBounds_toArray, List.set_cons_zero, List.set_cons_succ]
        refine GoF.take 34 (some 124) (v := ?_) rfl rfl (by kernel_rfl) (by kernel_rfl) (by kernel_rfl) (fun _ _ _ h => h) (Or.inl ⟨by rfl, ?_⟩) (by assumption) ?_
        rotate_left
        · intro w' hSw
          try dsimp only at hSw
          go_simp
          try with_reducible rfl
        try simp only [Act.put, List.setIfInBounds_toArray, List.set_cons_zero, List.set_cons_succ]
        refine GoF.last (by kernel_rfl) (by kernel_rfl) rfl (fun K hK => ?_)
        clear hHeld
        go_simp
        refine hK.out _ _ ?_
        clear hK K
        go_wp2_with (fail)
        go_loopw [13] (fun s13 wz => (∃ k : Nat, k ≤ L8.length ∧ s13 = .int .i64 k ∧ Hid (∃ m, wz = w16.drewN m))) (fun s13 _ => (L8.length - intOf s13).toNat)
        case atStart => exact ⟨0, by omega, rfl, 0, rfl⟩
        case round =>
          obtain ⟨k, hk, rfl, hw⟩ := hrel
          obtain ⟨m, rfl⟩ := hw.out
          clear hw
          have hl1000 : L8.length ≤ 1000 := by have := HL8.out; omega
          by_cases hkl : k < L8.length
          · obtain ⟨y, hy⟩ : ∃ y, L8[k]? = some y := ⟨_, List.getElem?_eq_getElem hkl⟩
            obtain ⟨g8, q8, hv8, _⟩ := O16.out.form (by omega)
            obtain ⟨g9, q9, hv9, _⟩ := Q16.out.form (by omega)
            injection hv8 with e1 e2 e3
            injection hv9 with e4 e5 e6
            subst e1 e3 e4 e6
            have f8 : (⟨g8, 0, none⟩ : Addr).add k = ⟨g8, k, none⟩ := by unfold Addr.add; split <;> simp_all
            have f9 : (⟨g9, 0, none⟩ : Addr).add k = ⟨g9, k, none⟩ := by unfold Addr.add; split <;> simp_all
            have k8 := O16.out.cells (g := g8) rfl k _ (sv_at hy)
            have k9 := Q16.out.cells (g := g9) rfl k _ (sv_at hy)
            rw [f8] at k8
            rw [f9] at k9
            clear hy f8 f9 e2 e5
            go_wp2_with (fail)
            go_quiet (fail)
            go_wp2_with (fail)
            go_roundw
            case rel => exact ⟨k + 1, by omega, by go_num, m + nq, by simp⟩
            case measure => simp [intOf]; omega
          · obtain rfl : k = L8.length := by omega
            go_wp2_with (fail)
            have XM := (Ext.refl w16).drewN m
            go_roundw
            case rel => exact ⟨i + 1, by omega, by go_num, F7, R7', A7, c7, H16.out.ext XM, R16.out.ex XM, HREP7.out, HLEN7.out⟩
            case measure => simp [intOf]; omega
    · obtain rfl : i = n := by omega
      have XE := hide (BW.out.trans HF.out.world)
      go_wp2_with (first
        | (go_at_call 13; refine (free_nil _ _).mono ?_; rintro e w1 ⟨rfl, rfl⟩)
        | (go_at_call 10; refine (ask_nil _ _ _ _).mono ?_; rintro e w2 ⟨rfl, rfl⟩)
        | (go_at_call 11; refine (holders_nil _ _).mono ?_; rintro e w3 ⟨rfl, rfl⟩)
        | (go_at_call 18; refine (locks_nil _ _).mono ?_; rintro e w4 ⟨rfl, rfl⟩)
        | (go_at_call 12; refine (held_nil _ _ _).mono ?_; rintro e w5 ⟨rfl, rfl⟩))
      go_ret
      exact ⟨rfl, XE.out⟩
end Go.Proofs.Ytebflbpjmpmnjaa.lockAll
