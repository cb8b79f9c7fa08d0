/- ModelAll: the walk. -/
import Derived.Test.YtjjilaanlhpogaaModelAllX
import Derived.Test.YtjjilaanlhpogaaModelSeekW
import Derived.Test.YtjjilaanlhpogaaLast
namespace Go.Proofs.Ytjjilaanlhpogaa.modelAll
open Go.ChangeShapes Go.WideShapes Go.ChangeAt Go.RowKit Go.Maps Go.MapKept Go.Sort modelSeek
set_option linter.unusedVariables false

theorem Md_touch {W w w' : World} {g m N : Nat} {f : ByteArray → Option Rw} {F : Nat → Prop} (h : Md W w g m N f) (ht : Touch w w' F) (hg : ¬ F g) (hm : ¬ F m) (hx : Ext W w') : Md W w' g m N f :=
  { h with blk := ht.blk h.blk hg, rows := h.rows.touch ht hm, ext := hx }
theorem Rf_touch {W w w' : World} {rb c : Nat} {A : Option Addr} {R : List Rw} {F : Nat → Prop} (h : Rf W w rb A c R) (ht : Touch w w' F) (hb : ¬ F rb) (ho : ∀ z, (Value.slice A R.length c).ownBlock = some z → ¬ F z) (hx : Ext W w') : Rf W w' rb A c R :=
  ⟨ht.blk h.blk hb, ownsRow_touch ht h.own ho, h.hb, hx⟩
theorem own_map_ne {w : World} {B n m N : Nat} {v : Value} {xs : List Value} {f : ByteArray → Option Rw} (ho : w.ownsRow B 31 3 v n xs) (h : RowsAt w m N f) : v.ownBlock ≠ some m := by
  obtain ⟨D, hD, _⟩ := h
  rcases ho.2 with ⟨rfl, _⟩ | ⟨g, cap, cur, rfl, _, hh, _⟩
  · simp [Value.ownBlock]
  · intro e
    have e' : g = m := by simpa [Value.ownBlock] using e
    exact map_ne (t := 31) (cs := cur) hh hD e'
theorem md_ne {W w : World} {g m N k : Nat} {t : TypeId} {cs : Array Value} {f : ByteArray → Option Rw} (h : Md W w g m N f) (hk : Blk w k t cs) : k ≠ m := by
  obtain ⟨D, hD, _⟩ := h.rows
  exact map_ne hk hD
theorem md_lt {W w : World} {g m N : Nat} {f : ByteArray → Option Rw} (h : Md W w g m N f) : m < w.heap.size := h.rows.lt
/-- the two tables, the same -/
def St (W : World) (g rb i : Nat) (wr : World) : Prop :=
  ∃ f m R A0 c0, Md W wr g m i f ∧ Rf W wr rb A0 c0 R ∧ Rep f R ∧ Kd f ∧ R.length ≤ i
/-- steps that came in -/
def Steps (xs : List Value) (n : Nat) : Prop := ∀ i, i < n → ∃ (kind t m : Int) (r : Rw) (B : Option Addr) (l c : Nat), Rz r ∧ xs[i * 7]? = some (.int .i64 kind) ∧ xs[i * 7 + 1]? = some (.int .i64 t) ∧ xs[i * 7 + 2]? = some (.int .i64 m) ∧
  xs[i * 7 + 3]? = some (.string r.k) ∧ xs[i * 7 + 4]? = some (.string r.s) ∧ xs[i * 7 + 5]? = some (.string r.v) ∧ xs[i * 7 + 6]? = some (.slice B l c)
def rSp : Rw := ⟨⟨#[115, 112, 111, 105, 108, 116]⟩, ⟨#[]⟩, ⟨#[]⟩⟩
theorem rz_sp : Rz rSp := by
  unfold Rz rSp maxLen
  simp [ByteArray.size]
theorem filter_all (R : List Rw) : R.filter (fun _ => true) = R := List.filter_eq_self.2 fun _ _ => rfl
set_option maxRecDepth 100000 in
set_option maxHeartbeats 8000000 in
theorem walk_short (A : Option Addr) (c n : Nat) (xs : List Value) (w : World) (hr : Reads w w.heap.size 7 A n xs) (hst : Steps xs n) (hn : (n : Int) ≤ 40) :
    Calls Try.prog 3 #[.slice A n c] w fun e w' => e = .returned (.bool true) ∧ Ext w w' := by
  have HR := hide hr
  have HSP := hide hst
  clear hr hst
  go_enter Try.func3, Try.ntmps3
  go_wp2_with (go_at_call 7; refine (begun_any _).mono ?_; rintro e W ⟨rfl, b1⟩)
  refine (new_any W).mono ?_
  rintro e wa ⟨rfl, ha⟩
  have BW := hide b1
  have HA := hide ha
  clear ha b1
  go_wp2_with (fail)
  obtain ⟨rb, hrb⟩ : ∃ rb, rb = wa.heap.size := ⟨_, rfl⟩
  have H0 := hide (show St W (W.heap.size + 1) rb 0 (wa.alloc (.cells #[.slice none 0 0] 29)) from
    ⟨_, _, [], none, 0, HA.out.ex (Ext.new wa _), ⟨by rw [hrb]; exact Blk.new wa 29 _, World.ownsRow_nil _ _ _ _, by rw [hrb]; exact HA.out.ext.size, HA.out.ext.trans (Ext.new wa _)⟩, Rep.nil, (show Kd (fun _ => none) from fun x r h => by cases h), Nat.le_refl _⟩)
  rw [← hrb]
  clear hrb HA
  go_loopw [3, 5, 6] (fun s3 s5 _ wr => (∃ i g : Nat, i ≤ n ∧ s3 = .pointer (some ⟨g, 0, none⟩) ∧ s5 = .int .i64 i ∧ Hid (St W g rb i wr))) (fun _ s5 _ _ => (n - intOf s5).toNat)
  case atStart => exact ⟨0, _, by omega, rfl, rfl, H0.out⟩
  case round =>
    obtain ⟨i, g, hi, rfl, rfl, hs0⟩ := hrel
    obtain ⟨f, m, R, A0, c0, hmd, hrf, hrep, hkd, hlen⟩ := hs0.out
    have HMD := hide hmd
    have HRF := hide hrf
    have HREP := hide hrep
    have HKD := hide hkd
    have HLEN := hide hlen
    clear hs0 hrf hrep hkd hlen H0
    by_cases hlt : i < n
    · obtain ⟨bk, off, hAe, hbw, hcell⟩ := HR.out.plain (by omega) (by omega)
      subst hAe
      obtain ⟨kind, t, nn, r, B, l, cc, hz, h0, h1, h2, h3, h4, h5, h6⟩ := HSP.out i hlt
      have HZ := hide hz
      have HS2 := hide (show ∀ w' : World, Ext w w' → w'.cell? ⟨bk, off + i * 7, none⟩ = some (.int .i64 kind) ∧ w'.cell? ⟨bk, off + i * 7 + 1, none⟩ = some (.int .i64 t) ∧ w'.cell? ⟨bk, off + i * 7 + 2, none⟩ = some (.int .i64 nn) ∧
          w'.cell? ⟨bk, off + i * 7 + 3, none⟩ = some (.string r.k) ∧ w'.cell? ⟨bk, off + i * 7 + 4, none⟩ = some (.string r.s) ∧ w'.cell? ⟨bk, off + i * 7 + 5, none⟩ = some (.string r.v) ∧ w'.cell? ⟨bk, off + i * 7 + 6, none⟩ = some (.slice B l cc) from fun w' hx => by
        simp only [Nat.add_assoc]
        exact ⟨(hx.cell (p := ⟨bk, off + i * 7, none⟩) hbw).trans (hcell _ _ h0), (hx.cell (p := ⟨bk, off + (i * 7 + 1), none⟩) hbw).trans (hcell _ _ h1), (hx.cell (p := ⟨bk, off + (i * 7 + 2), none⟩) hbw).trans (hcell _ _ h2), (hx.cell (p := ⟨bk, off + (i * 7 + 3), none⟩) hbw).trans (hcell _ _ h3),
          (hx.cell (p := ⟨bk, off + (i * 7 + 4), none⟩) hbw).trans (hcell _ _ h4), (hx.cell (p := ⟨bk, off + (i * 7 + 5), none⟩) hbw).trans (hcell _ _ h5), (hx.cell (p := ⟨bk, off + (i * 7 + 6), none⟩) hbw).trans (hcell _ _ h6)⟩)
      obtain ⟨-, -, -, y3, y4, y5, -⟩ := HS2.out wr (BW.out.trans hmd.ext)
      clear hz h0 h1 h2 h3 h4 h5 h6 hcell hmd
      have XE := hide (BW.out.trans HMD.out.ext)
      by_cases hk : (20 : Int) < r.k.size
      · have d1 : decide ((20 : Int) < (r.k.size : Int)) = true := decide_eq_true hk
        clear hk
        go_wp2_with (fail)
        go_ret
        exact ⟨rfl, XE.out⟩
      · have d1 : decide ((20 : Int) < (r.k.size : Int)) = false := decide_eq_false hk
        clear hk
        by_cases hk : (20 : Int) < r.s.size
        · have d2 : decide ((20 : Int) < (r.s.size : Int)) = true := decide_eq_true hk
          clear hk
          go_wp2_with (fail)
          go_ret
          exact ⟨rfl, XE.out⟩
        · have d2 : decide ((20 : Int) < (r.s.size : Int)) = false := decide_eq_false hk
          clear hk
          by_cases hk : (20 : Int) < r.v.size
          · have d3 : decide ((20 : Int) < (r.v.size : Int)) = true := decide_eq_true hk
            clear hk
            go_wp2_with (fail)
            go_ret
            exact ⟨rfl, XE.out⟩
          · have d3 : decide ((20 : Int) < (r.v.size : Int)) = false := decide_eq_false hk
            clear hk
            go_upto_if 54 with (fail)
            clear y3 y4 y5
            go_cut [3, 6] (fun s3 s6 wx => ∃ g1 : Nat, s3 = .pointer (some ⟨g1, 0, none⟩) ∧ ∃ m1, Md W wx g1 m1 i f ∧ Rf W wx rb A0 c0 R)
            case first =>
              by_cases he : (i : Int) = (n : Int) / 2
              · have d4 : ((i : Int) == (n : Int) / 2) = true := by rw [he]; exact beq_self_eq_true _
                clear he d1 d2 d3
                obtain ⟨x0, ls0, f0, _, _, hdo0, _⟩ := step_both HREP.out HKD.out (by have := HLEN.out; omega) 3 0 0 rSp none 0 0 rz_sp
                have HDO := hide hdo0
                clear hdo0
                go_wp2_with (first
                  | (go_at_call 9; refine (copy_any W wr g m i f HMD.out).mono ?_; rintro e w1 ⟨g1, m1, rfl, hg1, hm1, hmd1, hx1⟩; have HM1 := hide hmd1; have X1 := hide hx1; have HG1 := hide hg1; have HMM := hide hm1; clear hmd1 hx1 hg1 hm1)
                  | (go_at_call 10; refine (HDO.out W w1 g m i (HMD.out.ex X1.out) (by omega)).mono ?_; rintro e w2 ⟨A9, c9, rfl, ho9, hm9, ht9⟩; have X9 := hide hm9.ext; have T9 := hide ht9; clear ho9 hm9 ht9))
                go_meet
                case rel =>
                  have hml := md_lt HMD.out
                  have hgl := HMD.out.blk.lt
                  have hrf1 := HRF.out.ex X1.out
                  have hmd1 := HMD.out.ex X1.out
                  refine ⟨g1, rfl, m1, Md_touch HM1.out T9.out (fun e => ?_) (fun e => ?_) X9.out, Rf_touch hrf1 T9.out (md_ne hmd1 hrf1.blk) (fun z hz e => by subst e; exact own_map_ne hrf1.own hmd1.rows hz) X9.out⟩
                  · have := HG1.out; omega
                  · have := HMM.out; omega
              · have d4 : ((i : Int) == (n : Int) / 2) = false := by simpa using he
                clear he d1 d2 d3
                go_wp2_with (fail)
                go_meet
                case rel => exact ⟨g, rfl, m, HMD.out, HRF.out⟩
            case rest =>
              obtain ⟨g1, rfl, m1, hmd1, hrf1⟩ := hcut
              have HM1 := hide hmd1
              have HR1 := hide hrf1
              obtain ⟨x, ls, f', hls, hkd', hdoM, hdoR⟩ := step_both HREP.out HKD.out (by have := HLEN.out; omega) kind t nn r B l cc HZ.out
              have HDM := hide hdoM
              have HDR := hide hdoR
              have HKD' := hide hkd'
              have hls2 : ls.length ≤ 1000 := by have := HLEN.out; omega
              clear hmd1 hrf1 hls hkd' hdoM hdoR d1 d2 d3 XE HMD HRF
              have hbl : bk < wc.heap.size := Nat.lt_of_lt_of_le hbw (BW.out.trans HM1.out.ext).size
              go_upto_region 15 with (fail)
              have XC := hide (show Ext w wc.drew from (BW.out.trans HM1.out.ext).drew)
              refine wp_region_F (S := (fun w' => w'.cell? ⟨bk, off + i * 7, none⟩ = some (.int .i64 kind) ∧ w'.cell? ⟨bk, off + i * 7 + 1, none⟩ = some (.int .i64 t) ∧ w'.cell? ⟨bk, off + i * 7 + 2, none⟩ = some (.int .i64 nn) ∧ w'.cell? ⟨bk, off + i * 7 + 3, none⟩ = some (.string r.k) ∧ w'.cell? ⟨bk, off + i * 7 + 4, none⟩ = some (.string r.s) ∧ w'.cell? ⟨bk, off + i * 7 + 5, none⟩ = some (.string r.v) ∧ w'.cell? ⟨bk, off + i * 7 + 6, none⟩ = some (.slice B l cc))) 23 (by kernel_rfl) (by kernel_rfl) (HS2.out _ XC.out) (fun hHeld => ?_)
              refine GoF.take 0 (some 62) (v := ?_) rfl rfl (by kernel_rfl) (by kernel_rfl) (by kernel_rfl) (fun _ _ _ h => h) (Or.inl ⟨by rfl, ?_⟩) (by assumption) ?_
              rotate_left
              · intro w' hSw
                try dsimp only at hSw
                go_simp
                try with_reducible rfl
              try simp only [Act.put, List.setIfInBounds_toArray, List.set_cons_zero, List.set_cons_succ]
              refine GoF.take 1 (some 63) (v := ?_) rfl rfl (by kernel_rfl) (by kernel_rfl) (by kernel_rfl) (fun _ _ _ h => h) (Or.inl ⟨by rfl, ?_⟩) (by assumption) ?_
              rotate_left
              · intro w' hSw
                try dsimp only at hSw
                go_simp
                try with_reducible rfl
              try simp only [Act.put, List.setIfInBounds_toArray, List.set_cons_zero, List.set_cons_succ]
              refine GoF.take 2 (some 64) (v := ?_) rfl rfl (by kernel_rfl) (by kernel_rfl) (by kernel_rfl) (fun _ _ _ h => h) (Or.inl ⟨by rfl, ?_⟩) (by assumption) ?_
              rotate_left
              · intro w' hSw
                try dsimp only at hSw
                go_simp
                try with_reducible rfl
              try simp only [Act.put, List.setIfInBounds_toArray, List.set_cons_zero, List.set_cons_succ]
              refine GoF.take 3 (some 65) (v := ?_) rfl rfl (by kernel_rfl) (by kernel_rfl) (by kernel_rfl) (fun _ _ _ h => h) (Or.inl ⟨by rfl, ?_⟩) (by assumption) ?_
              rotate_left
              · intro w' hSw
                try dsimp only at hSw
                go_simp
                try with_reducible rfl
              try simp only [Act.put, List.setIfInBounds_toArray, List.set_cons_zero, List.set_cons_succ]
              refine GoF.take 4 (some 66) (v := ?_) rfl rfl (by kernel_rfl) (by kernel_rfl) (by kernel_rfl) (fun _ _ _ h => h) (Or.inl ⟨by rfl, ?_⟩) (by assumption) ?_
              rotate_left
              · intro w' hSw
                try dsimp only at hSw
                go_simp
                try with_reducible rfl
              try simp only [Act.put, List.setIfInBounds_toArray, List.set_cons_zero, List.set_cons_succ]
              refine GoF.take 6 (some 68) (v := ?_) rfl rfl (by kernel_rfl) (by kernel_rfl) (by kernel_rfl) (fun _ _ _ h => h) (Or.inl ⟨by rfl, ?_⟩) (by assumption) ?_
              rotate_left
              · intro w' hSw
                try dsimp only at hSw
                go_simp
                try with_reducible rfl
              try simp only [Act.put, List.setIfInBounds_toArray, List.set_cons_zero, List.set_cons_succ]
              refine GoF.take 7 (some 69) (v := ?_) rfl rfl (by kernel_rfl) (by kernel_rfl) (by kernel_rfl) (fun _ _ _ h => h) (Or.inl ⟨by rfl, ?_⟩) (by assumption) ?_
              rotate_left
              · intro w' hSw
                try dsimp only at hSw
                go_simp
                try with_reducible rfl
              try simp only [Act.put, List.setIfInBounds_toArray, List.set_cons_zero, List.set_cons_succ]
              refine GoF.take 8 (some 70) (v := ?_) rfl rfl (by kernel_rfl) (by kernel_rfl) (by kernel_rfl) (fun _ _ _ h => h) (Or.inl ⟨by rfl, ?_⟩) (by assumption) ?_
              rotate_left
              · intro w' hSw
                try dsimp only at hSw
                go_simp
                try with_reducible rfl
              try simp only [Act.put, List.setIfInBounds_toArray, List.set_cons_zero, List.set_cons_succ]
              refine GoF.take 9 (some 71) (v := ?_) rfl rfl (by kernel_rfl) (by kernel_rfl) (by kernel_rfl) (fun _ _ _ h => h) (Or.inl ⟨by rfl, ?_⟩) (by assumption) ?_
              rotate_left
              · intro w' hSw
                try dsimp only at hSw
                go_simp
                try with_reducible rfl
              try simp only [Act.put, List.setIfInBounds_toArray, List.set_cons_zero, List.set_cons_succ]
              refine GoF.take 10 (some 72) (v := ?_) rfl rfl (by kernel_rfl) (by kernel_rfl) (by kernel_rfl) (fun _ _ _ h => h) (Or.inl ⟨by rfl, ?_⟩) (by assumption) ?_
              rotate_left
              · intro w' hSw
                try dsimp only at hSw
                go_simp
                try with_reducible rfl
              try simp only [Act.put, List.setIfInBounds_toArray, List.set_cons_zero, List.set_cons_succ]
              refine GoF.each (rs := [5]) (by kernel_rfl) (by kernel_rfl) (by kernel_rfl) ?_
              refine EachF.cons (i := 5) rfl (fun K hK => ?_) EachF.nil
              go_simp
              refine (HDM.out W wc.drew g1 m1 i (HM1.out.ex ((Ext.refl wc).drew)) (by omega)).mono ?_
              rintro e w1 ⟨A1, c1, rfl, ho1, hm1, ht1⟩
              have XD := hide (BW.out.trans hm1.ext)
              have HM2 := hide hm1
              have O1 := hide ho1
              have HR2 := hide (Rf_touch (HR1.out.ex ((Ext.refl wc).drew)) ht1 (md_ne (HM1.out.ex ((Ext.refl wc).drew)) (HR1.out.ex ((Ext.refl wc).drew)).blk) (fun z hz e => by subst e; exact own_map_ne (HR1.out.ex ((Ext.refl wc).drew)).own (HM1.out.ex ((Ext.refl wc).drew)).rows hz) hm1.ext)
              clear ho1 hm1 ht1
              try go_simp
              refine hK.out _ _ (HS2.out _ XD.out) (fun hHeld => ?_)
              clear hK K
              try simp only [Act.put, List.setIfInBounds_toArray, List.set_cons_zero, List.set_cons_succ]
              refine GoF.each (rs := [11]) (by kernel_rfl) (by kernel_rfl) (by kernel_rfl) ?_
              refine EachF.cons (i := 11) rfl (fun K hK => ?_) EachF.nil
              go_simp
              refine (HDR.out W w1 rb A0 c0 HR2.out).mono ?_
              rintro e w2 ⟨R', hrep', hlen', A2, c2, A3, c3, rfl, ho2, hr2, ht2⟩
              have XG := hide (BW.out.trans hr2.ext)
              have HR3 := hide hr2
              have O2 := hide ho2
              have HREP' := hide hrep'
              have HLEN' := hide hlen'
              have O1b := hide (ownsRow_touch ht2 O1.out (fun z hz e => by subst e; exact own_blk_ne O1.out HR2.out.blk (by decide) hz))
              have HM3 := hide (Md_touch HM2.out ht2 (Blk.ne_ HM2.out.blk HR2.out.blk (by decide)) (Ne.symm (md_ne HM2.out HR2.out.blk)) hr2.ext)
              clear hrep' hlen' ho2 hr2 ht2
              try go_simp
              refine hK.out _ _ (HS2.out _ XG.out) (fun hHeld => ?_)
              clear hK K
              try simp only [Act.put, List.setIfInBounds_toArray, List.set_cons_zero, List.set_cons_succ]
              refine GoF.each (rs := [12]) (by kernel_rfl) (by kernel_rfl) (by kernel_rfl) ?_
              refine EachF.cons (i := 12) rfl (fun K hK => ?_) EachF.nil
              go_simp
              refine (sans_any x A1 A2 c1 c2 ls.length _ _ ls w2 rfl (Reads.of_own O1b.out) (Reads.of_own O2.out) (Nat.le_refl _) (Nat.le_refl _) hls2).mono ?_
              rintro e w3 ⟨rfl, x3⟩
              have XH := hide (BW.out.trans (HM3.out.ext.trans x3))
              have HM4 := hide (HM3.out.ex x3)
              have HR4 := hide (HR3.out.ex x3)
              have y3 := HR4.out.blk.cell 0
              simp at y3
              clear x3
              try go_simp
              refine hK.out _ _ (HS2.out _ XH.out) (fun hHeld => ?_)
              clear hK K
              try simp only [Act.put, List.setIfInBounds_toArray, List.set_cons_zero, List.set_cons_succ]
              refine GoF.take 13 (some 75) (v := ?_) rfl rfl (by kernel_rfl) (by kernel_rfl) (by kernel_rfl) (fun _ _ _ h => h) (Or.inl ⟨by rfl, ?_⟩) (by assumption) ?_
              rotate_left
              · intro w' hSw
                try dsimp only at hSw
                go_simp
                try with_reducible rfl
              try simp only [Act.put, List.setIfInBounds_toArray, List.set_cons_zero, List.set_cons_succ]
              refine GoF.take 14 (some 76) (v := ?_) rfl rfl (by kernel_rfl) (by kernel_rfl) (by kernel_rfl) (fun _ _ _ h => h) (Or.inl ⟨by rfl, ?_⟩) (by assumption) ?_
              rotate_left
              · intro w' hSw
                try dsimp only at hSw
                go_simp
                try with_reducible rfl
              try simp only [Act.put, List.setIfInBounds_toArray, List.set_cons_zero, List.set_cons_succ]
              refine GoF.take 15 (some 77) (v := ?_) rfl rfl (by kernel_rfl) (by kernel_rfl) (by kernel_rfl) (fun _ _ _ h => h) (Or.inl ⟨by rfl, ?_⟩) (by assumption) ?_
              rotate_left
              · intro w' hSw
                try dsimp only at hSw
                go_simp
                try with_reducible rfl
              try simp only [Act.put, List.setIfInBounds_toArray, List.set_cons_zero, List.set_cons_succ]
              refine GoF.take 17 (some 79) (v := ?_) rfl rfl (by kernel_rfl) (by kernel_rfl) (by kernel_rfl) (fun _ _ _ h => h) (Or.inl ⟨by rfl, ?_⟩) (by assumption) ?_
              rotate_left
              · intro w' hSw
                try dsimp only at hSw
                go_simp
                try with_reducible rfl
              try simp only [Act.put, List.setIfInBounds_toArray, List.set_cons_zero, List.set_cons_succ]
              refine GoF.take 18 (some 80) (v := ?_) rfl rfl (by kernel_rfl) (by kernel_rfl) (by kernel_rfl) (fun _ _ _ h => h) (Or.inl ⟨by rfl, ?_⟩) (by assumption) ?_
              rotate_left
              · intro w' hSw
                try dsimp only at hSw
                go_simp
                try with_reducible rfl
              try simp only [Act.put, List.setIfInBounds_toArray, List.set_cons_zero, List.set_cons_succ]
              refine GoF.take 19 (some 81) (v := ?_) rfl rfl (by kernel_rfl) (by kernel_rfl) (by kernel_rfl) (fun _ _ _ h => h) (Or.inl ⟨by rfl, ?_⟩) (by assumption) ?_
              rotate_left
              · intro w' hSw
                try dsimp only at hSw
                go_simp
                try with_reducible rfl
              try simp only [Act.put, List.setIfInBounds_toArray, List.set_cons_zero, List.set_cons_succ]
              refine GoF.each (rs := [16, 20]) (by kernel_rfl) (by kernel_rfl) (by kernel_rfl) ?_
              refine EachF.cons (i := 16) rfl (fun K hK => ?_) ?_
              · go_simp
                refine (rows_any W w3 g1 m1 (i + 1) f' HM4.out (by omega)).mono ?_
                rintro e w4 ⟨v4, L4, rfl, hK4, hL4, ho4, x4⟩
                rw [filter_all, (rep_rows hK4 HKD'.out).same HREP'.out] at ho4
                obtain ⟨A4, c4, hv4, _⟩ := own_form ho4
                subst hv4
                have O4 := hide ho4
                have XI := hide (XH.out.trans x4)
                have HM5 := hide (HM4.out.ex x4)
                have HR5 := hide (HR4.out.ex x4)
                have y4 := HR5.out.blk.cell 0
                simp at y4
                clear hK4 hL4 ho4 x4
                try go_simp
                refine hK.out _ _ (HS2.out _ XI.out) (fun hHeld => ?_)
                clear hK K
                try simp only [Act.put, List.setIfInBounds_toArray, List.set_cons_zero, List.set_cons_succ]
                refine GoF.each (rs := [20]) (by kernel_rfl) (by kernel_rfl) (by kernel_rfl) ?_
                refine EachF.cons (i := 20) rfl (fun K hK => ?_) EachF.nil
                go_simp
                refine hK.out _ _ (HS2.out _ XI.out) (fun hHeld => ?_)
                clear hK K
                try simp only [Act.put, List.setIfInBounds_toArray, List.set_cons_zero, List.set_cons_succ]
                refine GoF.each (rs := [21]) (by kernel_rfl) (by kernel_rfl) (by kernel_rfl) ?_
                refine EachF.cons (i := 21) rfl (fun K hK => ?_) EachF.nil
                go_simp
                refine (srows_any A4 A3 c4 c3 R'.length _ _ R' w4 rfl (Reads.of_own O4.out) (Reads.of_own HR5.out.own) (by have := HLEN'.out; have := HLEN.out; omega)).mono ?_
                rintro e w5 ⟨rfl, x5⟩
                have XJ := hide (XI.out.trans x5)
                have HM6 := hide (HM5.out.ex x5)
                have HR6 := hide (HR5.out.ex x5)
                clear x5
                try go_simp
                refine hK.out _ _ (HS2.out _ XJ.out) (fun hHeld => ?_)
                clear hK K
                try simp only [Act.put, List.setIfInBounds_toArray, List.set_cons_zero, List.set_cons_succ]
                refine GoF.take 22 (some 84) (v := ?_) rfl rfl (by kernel_rfl) (by kernel_rfl) (by kernel_rfl) (fun _ _ _ h => h) (Or.inl ⟨by rfl, ?_⟩) (by assumption) ?_
                rotate_left
                · intro w' hSw
                  try dsimp only at hSw
                  go_simp
                  try with_reducible rfl
                try simp only [Act.put, List.setIfInBounds_toArray, List.set_cons_zero, List.set_cons_succ]
                refine GoF.last (by kernel_rfl) (by kernel_rfl) rfl (fun K hK => ?_)
                clear hHeld
                go_simp
                refine hK.out _ _ ?_
                clear hK K
                go_wp2_with (fail)
                go_roundw
                case rel => exact ⟨i + 1, g1, by omega, rfl, by go_num, f', m1, R', A3, c3, HM6.out, HR6.out, HREP'.out, HKD'.out, by have := HLEN'.out; have := HLEN.out; omega⟩
                case measure => simp [intOf]; omega
              refine EachF.cons (i := 20) rfl (fun K hK => ?_) ?_
              · go_simp
                refine hK.out _ _ (HS2.out _ XH.out) (fun hHeld => ?_)
                clear hK K
                try simp only [Act.put, List.setIfInBounds_toArray, List.set_cons_zero, List.set_cons_succ]
                refine GoF.each (rs := [16]) (by kernel_rfl) (by kernel_rfl) (by kernel_rfl) ?_
                refine EachF.cons (i := 16) rfl (fun K hK => ?_) EachF.nil
                go_simp
                refine (rows_any W w3 g1 m1 (i + 1) f' HM4.out (by omega)).mono ?_
                rintro e w4 ⟨v4, L4, rfl, hK4, hL4, ho4, x4⟩
                rw [filter_all, (rep_rows hK4 HKD'.out).same HREP'.out] at ho4
                obtain ⟨A4, c4, hv4, _⟩ := own_form ho4
                subst hv4
                have O4 := hide ho4
                have XI := hide (XH.out.trans x4)
                have HM5 := hide (HM4.out.ex x4)
                have HR5 := hide (HR4.out.ex x4)
                have y4 := HR5.out.blk.cell 0
                simp at y4
                clear hK4 hL4 ho4 x4
                try go_simp
                refine hK.out _ _ (HS2.out _ XI.out) (fun hHeld => ?_)
                clear hK K
                try simp only [Act.put, List.setIfInBounds_toArray, List.set_cons_zero, List.set_cons_succ]
                refine GoF.each (rs := [21]) (by kernel_rfl) (by kernel_rfl) (by kernel_rfl) ?_
                refine EachF.cons (i := 21) rfl (fun K hK => ?_) EachF.nil
                go_simp
                refine (srows_any A4 A3 c4 c3 R'.length _ _ R' w4 rfl (Reads.of_own O4.out) (Reads.of_own HR5.out.own) (by have := HLEN'.out; have := HLEN.out; omega)).mono ?_
                rintro e w5 ⟨rfl, x5⟩
                have XJ := hide (XI.out.trans x5)
                have HM6 := hide (HM5.out.ex x5)
                have HR6 := hide (HR5.out.ex x5)
                clear x5
                try go_simp
                refine hK.out _ _ (HS2.out _ XJ.out) (fun hHeld => ?_)
                clear hK K
                try simp only [Act.put, List.setIfInBounds_toArray, List.set_cons_zero, List.set_cons_succ]
                refine GoF.take 22 (some 84) (v := ?_) rfl rfl (by kernel_rfl) (by kernel_rfl) (by kernel_rfl) (fun _ _ _ h => h) (Or.inl ⟨by rfl, ?_⟩) (by assumption) ?_
                rotate_left
                · intro w' hSw
                  try dsimp only at hSw
                  go_simp
                  try with_reducible rfl
                try simp only [Act.put, List.setIfInBounds_toArray, List.set_cons_zero, List.set_cons_succ]
                refine GoF.last (by kernel_rfl) (by kernel_rfl) rfl (fun K hK => ?_)
                clear hHeld
                go_simp
                refine hK.out _ _ ?_
                clear hK K
                go_wp2_with (fail)
                go_roundw
                case rel => exact ⟨i + 1, g1, by omega, rfl, by go_num, f', m1, R', A3, c3, HM6.out, HR6.out, HREP'.out, HKD'.out, by have := HLEN'.out; have := HLEN.out; omega⟩
                case measure => simp [intOf]; omega
              exact EachF.nil
    · obtain rfl : i = n := by omega
      have XE := hide (BW.out.trans HMD.out.ext)
      have hfd := field0 1 none 0 0
      go_wp2_with (first
        | (go_at_call 10; refine (do_nil _ 6 0 0 ⟨⟨#[]⟩, ⟨#[]⟩, ⟨#[]⟩⟩ none 0 0).mono ?_; rintro e w1 ⟨rfl, x1⟩; have X1 := hide x1; clear x1)
        | (go_at_call 14; refine (rows_nil _).mono ?_; rintro e w2 ⟨rfl, rfl⟩)
        | (go_at_call 9; refine (copy_nil _).mono ?_; rintro e w3 ⟨rfl, rfl⟩))
      go_ret
      exact ⟨rfl, XE.out.trans X1.out⟩
end Go.Proofs.Ytjjilaanlhpogaa.modelAll
