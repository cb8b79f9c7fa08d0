/- Redo: the document's Apply. -/
import Derived.Test.YtaagdjipjeindaaRedoS
namespace Go.Proofs.Ytaagdjipjeindaa
open Go.ChangeShapes Go.WideShapes Go.ChangeAt Go.RowKit
set_option linter.unusedVariables false

theorem Pg.num {w : World} {u0 u1 u2 u3 : Value} {F : Nat → List UInt8} {ls l2 : Int} (h : Pg w (.agg #[u0, u1, u2, u3, .int .i64 ls]) F ls) : Pg w (.agg #[u0, u1, u2, u3, .int .i64 l2]) F l2 := by
  obtain ⟨_, _, _, _, e, h0, h1, h2, h3⟩ := h
  injection e with e
  simp only [Array.mk.injEq, List.cons.injEq, and_true] at e
  obtain ⟨rfl, rfl, rfl, rfl⟩ := e
  exact ⟨_, _, _, _, rfl, h0, h1, h2, h3⟩
/-- the page behind the first i touches -/
def Fs (n : Int) (f : Nat → List UInt8) (T : List Tc) (ls : Int) (i : Nat) : (Nat → List UInt8) × Int := ((T.take i).foldl (fun f t => setP f t.a0 t.a1 n t.l) f, ls)
theorem Fs_succ {n : Int} {f : Nat → List UInt8} {T : List Tc} {ls : Int} {i : Nat} {x : Tc} (h : T[i]? = some x) : Fs n f T ls (i + 1) = (setP (Fs n f T ls i).1 x.a0 x.a1 n x.l, ls) := by
  obtain ⟨hk, e⟩ := List.getElem?_eq_some_iff.1 h
  unfold Fs
  rw [List.take_succ_eq_append_getElem hk, List.foldl_append, e]
  rfl
theorem setAt_setP {s : (Nat → List UInt8) × Int} {n : Int} {x : Tc} {cc : Nat} (h0 : x.a0 = n) (h1 : x.a1 = (cc : Int)) (h4 : cc < 4) : setAt s cc x.l = (setP s.1 x.a0 x.a1 n x.l, s.2) := by
  unfold setAt setP
  refine Prod.ext (funext fun j => ?_) rfl
  show (if j = cc then x.l else s.1 j) = if _ then x.l else s.1 j
  by_cases e : j = cc
  · rw [if_pos e, if_pos ⟨⟨h0, by omega, by omega⟩, by omega⟩]
  · rw [if_neg e, if_neg (fun hh => e (by have := hh.2; omega))]
theorem mem_take_succ {T : List Tc} {i : Nat} {x : Tc} {n : Int} (h : T[i]? = some x) : decide (n ∈ (T.take (i + 1)).map (·.a0)) = (decide (n ∈ (T.take i).map (·.a0)) || decide (n = x.a0)) := by
  obtain ⟨hk, e⟩ := List.getElem?_eq_some_iff.1 h
  rw [List.take_succ_eq_append_getElem hk, List.map_append, e, ← Bool.decide_or]
  exact decide_eq_decide.2 (by simp)
set_option maxRecDepth 1000000 in
set_option maxHeartbeats 8000000 in
theorem rapply_any (kind a0 a1 b0 b1 t u h p nx : Int) (AN : Option Addr) (cN : Nat) (NL : List UInt8) (AO : Option Addr) (nO cO : Nat) (AM : Option Addr) (cM : Nat) (mv : List Mv) (A13 A14 A15 : Option Addr) (n13 c13 n14 c14 n15 c15 : Nat) (w : World)
    (v : Value) (f : Nat → List UInt8) (ls n lsn : Int) (hp : Pg w v f ls)
    (hN : BB w (.slice AN NL.length cN) NL) (hNL : NL.length ≤ 1000) (hr : Reads w w.heap.size 4 AM mv.length (mvs mv)) (hl : mv.length ≤ 1000) :
    Calls Try.prog 10 #[v, .int .i64 n, .agg #[.int .i64 kind, .int .i64 t, .int .i64 u, .int .i64 h, .int .i64 p, .int .i64 nx, .int .i64 a0, .int .i64 a1, .int .i64 b0, .int .i64 b1, .slice AO nO cO, .slice AN NL.length cN, .slice AM mv.length cM, .slice A13 n13 c13, .slice A14 n14 c14, .slice A15 n15 c15], .int .i64 lsn] w (GivesPg w (pageF ls n kind a0 a1 b0 b1 lsn NL mv f) (if actsP ls n kind a0 b0 lsn mv then lsn else ls) (decide (actsP ls n kind a0 b0 lsn mv))) := by
  obtain ⟨i0, hi0, hz0, hz1, hz2⟩ := info_parts Try.info5'
  obtain ⟨B0, d0, B1, d1, B2, d2, B3, d3, rfl⟩ := hp.form
  obtain ⟨T, hT⟩ : ∃ T, T = touchesL kind a0 a1 b0 b1 NL mv := ⟨_, rfl⟩
  have hTL : T.length ≤ 1000 ∧ ∀ x ∈ T, x.l.length ≤ 1000 := by
    rw [hT]; unfold touchesL
    split
    · simp [hNL]
    · split
      · simp [hNL, stubOf_len]
      · split
        · simpa using hl
        · simp
  have HTL := hide hTL.2
  have hTL := hTL.1
  have HTP := hide (show T.map (·.a0) = touchL kind a0 b0 mv by rw [hT, touches_pages])
  have HTF := hide (show T.foldl (fun f t => setP f t.a0 t.a1 n t.l) f = paintF kind a0 a1 b0 b1 n NL mv f by rw [hT, touches_paint])
  have HT := hide (fun w1 (hx : Ext w w1) => touches_any kind a0 a1 b0 b1 t u h p nx AN cN NL AO nO cO AM cM mv A13 A14 A15 n13 c13 n14 c14 n15 c15 w1 (hN.ext hx) (hx.read hr) hl)
  rw [← hT] at HT
  obtain ⟨m, hm⟩ : ∃ m, m = T.length := ⟨_, rfl⟩
  have HM := hide hm
  rw [← hm] at hTL
  unfold GivesT at HT
  rw [← hm] at HT
  have HP := hide hp
  have e1 : (w.alloc (.cells #[.slice B0 (f 0).length d0, .slice B1 (f 1).length d1, .slice B2 (f 2).length d2, .slice B3 (f 3).length d3, .int .i64 ls] 35)).heap.size = w.heap.size + 1 := by simp
  obtain ⟨es, hes⟩ : ∃ es : Array Value, es = #[.int .i64 kind, .int .i64 t, .int .i64 u, .int .i64 h, .int .i64 p, .int .i64 nx, .int .i64 a0, .int .i64 a1, .int .i64 b0, .int .i64 b1, .slice AO nO cO, .slice AN NL.length cN, .slice AM mv.length cM, .slice A13 n13 c13, .slice A14 n14 c14, .slice A15 n15 c15] := ⟨_, rfl⟩
  obtain ⟨w1, hw1⟩ : ∃ w1, w1 = ((w.alloc (.cells #[.slice B0 (f 0).length d0, .slice B1 (f 1).length d1, .slice B2 (f 2).length d2, .slice B3 (f 3).length d3, .int .i64 ls] 35)).alloc (.cells es 31)).alloc (.cells #[.slice none 0 0, .slice none 0 0, .slice none 0 0, .slice none 0 0, .int .i64 0] 35) := ⟨_, rfl⟩
  have X1 := hide (show Ext w w1 by rw [hw1]; exact (((Ext.refl w).alloc _).alloc _).alloc _)
  have PP := hide (show PgAt w1 w.heap.size (f, ls) from ⟨B0, d0, B1, d1, B2, d2, B3, d3, by rw [hw1]; exact ((Blk.new w 35 _).alloc _).alloc _, HP.out.ext X1.out⟩)
  have PR := hide (show PgAt w1 (w.heap.size + 1 + 1) (noP, 0) from ⟨none, 0, none, 0, none, 0, none, 0, by
    rw [hw1]
    have h2 := Blk.new ((w.alloc (.cells #[.slice B0 (f 0).length d0, .slice B1 (f 1).length d1, .slice B2 (f 2).length d2, .slice B3 (f 3).length d3, .int .i64 ls] 35)).alloc (.cells es 31)) 35 #[.slice none 0 0, .slice none 0 0, .slice none 0 0, .slice none 0 0, .int .i64 0]
    rw [show ((w.alloc (.cells #[.slice B0 (f 0).length d0, .slice B1 (f 1).length d1, .slice B2 (f 2).length d2, .slice B3 (f 3).length d3, .int .i64 ls] 35)).alloc (.cells es 31)).heap.size = w.heap.size + 1 + 1 by simp] at h2
    exact h2, Pg.none _⟩)
  have BE := hide (show Blk w1 (w.heap.size + 1) 31 es by rw [hw1]; exact (blk_new1 w _ 31 _).alloc _)
  rw [hes] at hw1 BE
  have HW1 := hide hw1
  clear hm hT hN hr hp e1 hes hw1
  obtain ⟨FO, hFO⟩ : ∃ FO, FO = pageF ls n kind a0 a1 b0 b1 lsn NL mv f := ⟨_, rfl⟩
  obtain ⟨lo, hlo⟩ : ∃ lo, lo = if actsP ls n kind a0 b0 lsn mv then lsn else ls := ⟨_, rfl⟩
  obtain ⟨bo, hbo⟩ : ∃ bo, bo = decide (actsP ls n kind a0 b0 lsn mv) := ⟨_, rfl⟩
  rw [← hFO, ← hlo, ← hbo]
  have HFO := hide hFO
  have HLO := hide hlo
  have HBO := hide hbo
  clear hFO hlo hbo
  go_enter Try.func10, Try.ntmps10
  go_upto_region 2 with (fail)
  rw [← HW1.out]
  obtain ⟨pb, hpb⟩ : ∃ pb, pb = w.heap.size := ⟨_, rfl⟩
  obtain ⟨eb, heb⟩ : ∃ eb, eb = w.heap.size + 1 := ⟨_, rfl⟩
  obtain ⟨rb, hrb⟩ : ∃ rb, rb = w.heap.size + 1 + 1 := ⟨_, rfl⟩
  have HRB := hide (show w.heap.size ≤ rb ∧ pb ≠ rb by omega)
  rw [← hrb, ← heb, ← hpb]
  rw [← hrb] at PR
  rw [← heb] at BE
  rw [← hpb] at PP
  clear hrb heb hpb HW1
  obtain ⟨q0, q1, q2, q3, q4, q5, q6, q7, q8, q9, q10, q11, q12, q13, q14, q15⟩ := BE.out.cells16
  go_upto_region 3 with (go_at_call 23; refine (HT.out _ X1.out).mono ?_; rintro e w2 ⟨A4, c4, vs, rfl, hr4, ht4, hx4⟩; have X2 := hide hx4; have R2 := hide hr4; have T2 := hide ht4; clear hr4 ht4 hx4)
  clear q0 q1 q2 q3 q4 q5 q6 q7 q8 q9 q10 q11 q12 q13 q14 q15
  obtain ⟨C0, g0, C1, g1, C2, g2, C3, g3, hbp, hpp⟩ := (PP.out.ext X2.out)
  obtain ⟨y0, y1, y2, y3, y4⟩ := hbp.cells5
  go_wp2_with (fail)
  obtain ⟨w3, hw3⟩ : ∃ w3, w3 = w2.alloc (.cells #[.slice C0 (f 0).length g0, .slice C1 (f 1).length g1, .slice C2 (f 2).length g2, .slice C3 (f 3).length g3, .int .i64 ls] 35) := ⟨_, rfl⟩
  have X3 := hide (show Ext w2 w3 by rw [hw3]; exact Ext.new w2 _)
  have PQ := hide (show PgAt w3 w2.heap.size (f, ls) from ⟨C0, g0, C1, g1, C2, g2, C3, g3, by rw [hw3]; exact Blk.new w2 35 _, hpp.ext X3.out⟩)
  obtain ⟨qb, hqb⟩ : ∃ qb, qb = w2.heap.size := ⟨_, rfl⟩
  have hrl : rb < w2.heap.size := (PR.out.ext X2.out).lt
  have hpl : pb < w2.heap.size := (PP.out.ext X2.out).lt
  have HQ := hide (show w2.heap.size ≤ qb ∧ rb ≠ qb ∧ pb ≠ qb by omega)
  rw [← hw3, ← hqb]
  rw [← hqb] at PQ
  clear hw3 hqb hbp hpp y0 y1 y2 y3 y4 hrl hpl
  go_loopw [10, 13] (fun s10 s13 wr => (∃ i : Nat, i ≤ m ∧ s13 = .int .i64 i ∧ s10 = .bool (decide (n ∈ (T.take i).map (·.a0))) ∧ PgAt wr qb (Fs n f T ls i) ∧ Ext w2 wr)) (fun _ s13 _ => (m - intOf s13).toNat)
  case atStart => exact ⟨0, by omega, rfl, rfl, PQ.out, X3.out⟩
  case round =>
    clear PQ X3
    obtain ⟨i, hi, rfl, rfl, hpq, hx⟩ := hrel
    have PQ := hide hpq
    have X := hide hx
    clear hpq hx
    by_cases hlt : i < m
    · obtain ⟨bk, off, hAe, hbw, hcell⟩ := R2.out.plain (by omega) (by omega)
      subst hAe
      obtain ⟨x, hx⟩ : ∃ x, T[i]? = some x := ⟨_, List.getElem?_eq_getElem (by rw [← HM.out]; exact hlt)⟩
      obtain ⟨A5, c5, k0, k1, k2, kb⟩ := T2.out.at_ hx
      have g0 := (X.out.cell (p := ⟨bk, off + i * 3, none⟩) hbw).trans (hcell _ _ k0)
      have g1 := (X.out.cell (p := ⟨bk, off + (i * 3 + 1), none⟩) hbw).trans (hcell _ _ k1)
      have g2 := (X.out.cell (p := ⟨bk, off + (i * 3 + 2), none⟩) hbw).trans (hcell _ _ k2)
      rw [← Nat.add_assoc] at g1 g2
      have hbr : bk < wr.heap.size := Nat.lt_of_lt_of_le hbw X.out.size
      obtain ⟨nl, hnl⟩ : ∃ nl, nl = x.l.length := ⟨_, rfl⟩
      have RX := hide (X.out.read kb.reads)
      rw [← hnl] at g2 RX
      have HNX := hide hnl
      have HNL := hide (show nl ≤ 1000 by rw [hnl]; exact HTL.out x (List.mem_of_getElem? hx))
      have HIS := hide (mem_take_succ (n := n) hx)
      have HFS := hide (Fs_succ (n := n) (f := f) (ls := ls) hx)
      clear k0 k1 k2 kb hcell hx hnl
      obtain ⟨b0', hb0⟩ : ∃ b0', b0' = decide (n ∈ (T.take i).map (·.a0)) := ⟨_, rfl⟩
      rw [← hb0] at HIS ⊢
      clear hb0
      by_cases hxn : x.a0 = n
      · have d1 : (x.a0 == n) = true := by simpa using hxn
        have d1' : (x.a0 != n) = false := by simp [hxn]
        have HIS2 := hide (show true = (b0' || decide (n = x.a0)) by simp [hxn])
        by_cases c1 : 0 ≤ x.a1
        · have dc1 : decide ((0 : Int) ≤ x.a1) = true := decide_eq_true c1
          by_cases c2 : x.a1 < 4
          · have dc2 : decide (x.a1 < 4) = true := decide_eq_true c2
            obtain ⟨cc, hcc⟩ : ∃ cc : Nat, x.a1 = (cc : Int) := ⟨x.a1.toNat, by omega⟩
            have hcc4 : cc < 4 := by omega
            have HSE := hide (show setAt (Fs n f T ls i) cc x.l = Fs n f T ls (i + 1) by rw [setAt_setP hxn hcc hcc4, HFS.out]; rfl)
            rw [hcc] at g1 dc1 dc2
            clear hxn c1 c2 hcc
            have hc4' : (cc : Int) < 4 := by omega
            have HS := hide (show ∀ w' : World, Ext wr w' → (fun w' => w'.cell? ⟨bk, off + i * 3 + 1, none⟩ = some (.int .i64 (cc : Int)) ∧ w'.cell? ⟨bk, off + i * 3 + 2, none⟩ = some (.slice A5 nl c5)) w' from fun w' hx => ⟨(hx.cell hbr).trans g1, (hx.cell hbr).trans g2⟩)
            rw [HIS2.out.symm] at HIS
            go_upto_region 10 with (fail)
            refine wp_region_G (S := (fun w' => w'.cell? ⟨bk, off + i * 3 + 1, none⟩ = some (.int .i64 (cc : Int)) ∧ w'.cell? ⟨bk, off + i * 3 + 2, none⟩ = some (.slice A5 nl c5))) 15 (by kernel_rfl) (by kernel_rfl) (HS.out _ (Ext.drew (Ext.refl wr))) (fun hHeld => ?_)
            refine GoG.take 0 30 (some 47) (v := ?_) rfl rfl (by kernel_rfl) (by kernel_rfl) (by kernel_rfl) (fun _ _ _ h => h) (Or.inl ⟨by rfl, ?_⟩) (by assumption) ?_
            rotate_left
            · intro w' hSw
              try dsimp only at hSw
              go_simp
              try with_reducible rfl
            try simp only [Act.put, List.setIfInBounds_toArray, List.set_cons_zero, List.set_cons_succ]
            refine GoG.take 1 30 (some 48) (v := ?_) rfl rfl (by kernel_rfl) (by kernel_rfl) (by kernel_rfl) (fun _ _ _ h => h) (Or.inl ⟨by rfl, ?_⟩) (by assumption) ?_
            rotate_left
            · intro w' hSw
              try dsimp only at hSw
              go_simp
              try with_reducible rfl
            try simp only [Act.put, List.setIfInBounds_toArray, List.set_cons_zero, List.set_cons_succ]
            refine GoG.take 2 30 (some 49) (v := ?_) rfl rfl (by kernel_rfl) (by kernel_rfl) (by kernel_rfl) (fun _ _ _ h => h) (Or.inl ⟨by rfl, ?_⟩) (by assumption) ?_
            rotate_left
            · intro w' hSw
              try dsimp only at hSw
              go_simp
              try with_reducible rfl
            try simp only [Act.put, List.setIfInBounds_toArray, List.set_cons_zero, List.set_cons_succ]
            refine GoG.take 3 30 (some 50) (v := ?_) rfl rfl (by kernel_rfl) (by kernel_rfl) (by kernel_rfl) (fun _ _ _ h => h) (Or.inl ⟨by rfl, ?_⟩) (by assumption) ?_
            rotate_left
            · intro w' hSw
              try dsimp only at hSw
              go_simp
              try with_reducible rfl
            try simp only [Act.put, List.setIfInBounds_toArray, List.set_cons_zero, List.set_cons_succ]
            refine GoG.take 4 30 (some 51) (v := ?_) rfl rfl (by kernel_rfl) (by kernel_rfl) (by kernel_rfl) (fun _ _ _ h => h) (Or.inl ⟨by rfl, ?_⟩) (by assumption) ?_
            rotate_left
            · intro w' hSw
              try dsimp only at hSw
              go_simp
              try with_reducible rfl
            try simp only [Act.put, List.setIfInBounds_toArray, List.set_cons_zero, List.set_cons_succ]
            refine GoG.take 5 30 (some 52) (v := ?_) rfl rfl (by kernel_rfl) (by kernel_rfl) (by kernel_rfl) (fun _ _ _ h => h) (Or.inl ⟨by rfl, ?_⟩) (by assumption) ?_
            rotate_left
            · intro w' hSw
              try dsimp only at hSw
              go_simp
              try with_reducible rfl
            try simp only [Act.put, List.setIfInBounds_toArray, List.set_cons_zero, List.set_cons_succ]
            refine GoG.take 7 30 (some 54) (v := ?_) rfl rfl (by kernel_rfl) (by kernel_rfl) (by kernel_rfl) (fun _ _ _ h => h) (Or.inl ⟨by rfl, ?_⟩) (by assumption) ?_
            rotate_left
            · intro w' hSw
              try dsimp only at hSw
              go_simp
              try with_reducible rfl
            try simp only [Act.put, List.setIfInBounds_toArray, List.set_cons_zero, List.set_cons_succ]
            refine GoG.take 8 30 (some 55) (v := ?_) rfl rfl (by kernel_rfl) (by kernel_rfl) (by kernel_rfl) (fun _ _ _ h => h) (Or.inl ⟨by rfl, ?_⟩) (by assumption) ?_
            rotate_left
            · intro w' hSw
              try dsimp only at hSw
              go_simp
              try with_reducible rfl
            try simp only [Act.put, List.setIfInBounds_toArray, List.set_cons_zero, List.set_cons_succ]
            refine GoG.take 9 30 (some 56) (v := ?_) rfl rfl (by kernel_rfl) (by kernel_rfl) (by kernel_rfl) (fun _ _ _ h => h) (Or.inl ⟨by rfl, ?_⟩) (by assumption) ?_
            rotate_left
            · intro w' hSw
              try dsimp only at hSw
              go_simp
              try with_reducible rfl
            try simp only [Act.put, List.setIfInBounds_toArray, List.set_cons_zero, List.set_cons_succ]
            refine GoG.take 10 30 (some 57) (v := ?_) rfl rfl (by kernel_rfl) (by kernel_rfl) (by kernel_rfl) (fun _ _ _ h => h) (Or.inl ⟨by rfl, ?_⟩) (by assumption) ?_
            rotate_left
            · intro w' hSw
              try dsimp only at hSw
              go_simp
              try with_reducible rfl
            try simp only [Act.put, List.setIfInBounds_toArray, List.set_cons_zero, List.set_cons_succ]
            refine GoG.take 11 30 (some 58) (v := ?_) rfl rfl (by kernel_rfl) (by kernel_rfl) (by kernel_rfl) (fun _ _ _ h => h) (Or.inl ⟨by rfl, ?_⟩) (by assumption) ?_
            rotate_left
            · intro w' hSw
              try dsimp only at hSw
              go_simp
              try with_reducible rfl
            try simp only [Act.put, List.setIfInBounds_toArray, List.set_cons_zero, List.set_cons_succ]
            refine GoG.take 13 30 (some 60) (v := ?_) rfl rfl (by kernel_rfl) (by kernel_rfl) (by kernel_rfl) (fun _ _ _ h => h) (Or.inl ⟨by rfl, ?_⟩) (by assumption) ?_
            rotate_left
            · intro w' hSw
              try dsimp only at hSw
              go_simp
              try with_reducible rfl
            try simp only [Act.put, List.setIfInBounds_toArray, List.set_cons_zero, List.set_cons_succ]
            refine GoG.each (rs := [6]) (by kernel_rfl) (by kernel_rfl) ?_
            refine EachG.cons (i := 6) rfl (fun K hK => ?_) EachG.nil
            go_simp
            refine hK.out _ _ (HS.out _ (Ext.drew (Ext.alloc (Ext.refl wr) _))) (fun hHeld => ?_)
            clear hK K
            try simp only [Act.put, List.setIfInBounds_toArray, List.set_cons_zero, List.set_cons_succ]
            refine GoG.each (rs := [12]) (by kernel_rfl) (by kernel_rfl) ?_
            refine EachG.cons (i := 12) rfl (fun K hK => ?_) EachG.nil
            refine step_append_any _ rfl (.tmp 53) (.tmp 58) _ rfl wr.heap.size 5 i0 _ 1 1 Try.underlying22 hi0 hz0 hz1 hz2 rfl (by omega) (.slice (some ⟨wr.heap.size, 0, none⟩) 0 0) 0 [] rfl (show ((wr.alloc (.cells #[] 5)).drew).ownsRow wr.heap.size 5 1 (.slice (some ⟨wr.heap.size, 0, none⟩) 0 0) 0 [] from Ext.own (Ext.drew (Ext.refl _)) (World.ownsRow_made wr #[] 0 (Nat.le_refl _) (Nat.zero_le _) rfl)) _ A5 nl c5 (bv x.l) rfl (Ext.read (Ext.drew (Ext.alloc (Ext.refl wr) _)) RX.out) (bv_one _) (by simp only [maxLen]; have := HNL.out; omega) (by have := HNL.out; omega) (by simp) ?_
            intro v6 w6 ho6 hg6 hat6
            have X6 := hide (Ext.grown (Ext.drew (Ext.alloc (Ext.refl wr) _)) hg6 (fun z hz => by simp [Value.ownBlock] at hz; omega))
            rw [Nat.zero_add, List.nil_append] at ho6
            obtain ⟨A6, c6, hv6, _⟩ := own_form ho6
            subst hv6
            rw [HNX.out] at ho6
            have B6 := hide (BB.own ho6)
            clear ho6 hg6 hat6
            refine hK.out _ _ (HS.out _ X6.out) (fun hHeld => ?_)
            clear hK K
            change GoG _ _ _ _ _ _ _ _ (Act.put _ (some 59) _) _
            simp only [Act.put, List.setIfInBounds_toArray, List.set_cons_zero, List.set_cons_succ]
            refine GoG.take 14 30 (some 61) (v := ?_) rfl rfl (by kernel_rfl) (by kernel_rfl) (by kernel_rfl) (fun _ _ _ h => h) (Or.inl ⟨by rfl, ?_⟩) (by assumption) ?_
            rotate_left
            · intro w' hSw
              try dsimp only at hSw
              go_simp
              try with_reducible rfl
            try simp only [Act.put, List.setIfInBounds_toArray, List.set_cons_zero, List.set_cons_succ]
            refine GoG.last (by kernel_rfl) (by kernel_rfl) rfl (fun K hK => ?_)
            obtain ⟨y, hy⟩ := (PQ.out.ext X6.out).celli hcc4
            have hf := (PQ.out.ext X6.out).frz cc
            clear hHeld
            go_simp
            refine hK.out _ _ ?_
            clear hK K hy hf
            obtain ⟨w7, hw7, hp7, hx7⟩ : ∃ w7, w7 = w6.setCell ⟨qb, cc, none⟩ (.slice A6 nl c6) ∧ PgAt w7 qb (setAt (Fs n f T ls i) cc x.l) ∧ Ext w2 w7 := ⟨_, rfl, by rw [HNX.out]; exact (PQ.out.ext X6.out).set1 hcc4 B6.out, Ext.set_ (p := ⟨qb, cc, none⟩) (X.out.trans X6.out) HQ.out.1 _⟩
            rw [← hw7]
            rw [HSE.out] at hp7
            have P7 := hide hp7
            have X7 := hide hx7
            clear hw7 hp7 hx7
            go_wp2_with (fail)
            go_roundw
            case rel => exact ⟨i + 1, by omega, by go_num, by rw [HIS.out], P7.out, X7.out⟩
            case measure => simp [intOf]; omega
          · have dc2 : decide (x.a1 < 4) = false := decide_eq_false c2
            have HSE := hide (show Fs n f T ls (i + 1) = Fs n f T ls i by rw [HFS.out, setP_no (fun h => c2 h.2.2)]; rfl)
            clear hxn c1 c2
            rw [HIS2.out.symm] at HIS
            go_wp2_with (fail)
            go_roundw
            case rel => exact ⟨i + 1, by omega, by go_num, by rw [HIS.out], by rw [HSE.out]; exact PQ.out, X.out⟩
            case measure => simp [intOf]; omega
        · have dc1 : decide ((0 : Int) ≤ x.a1) = false := decide_eq_false c1
          have HSE := hide (show Fs n f T ls (i + 1) = Fs n f T ls i by rw [HFS.out, setP_no (fun h => c1 h.2.1)]; rfl)
          clear hxn c1
          rw [HIS2.out.symm] at HIS
          go_wp2_with (fail)
          go_roundw
          case rel => exact ⟨i + 1, by omega, by go_num, by rw [HIS.out], by rw [HSE.out]; exact PQ.out, X.out⟩
          case measure => simp [intOf]; omega
      · have d1 : (x.a0 == n) = false := by simpa using hxn
        have d1' : (x.a0 != n) = true := by simp [hxn]
        have HIS2 := hide (show b0' = (b0' || decide (n = x.a0)) by rw [decide_eq_false (fun e => hxn e.symm : ¬ n = x.a0), Bool.or_false])
        have HSE := hide (show Fs n f T ls (i + 1) = Fs n f T ls i by rw [HFS.out, setP_no (fun h => hxn h.1)]; rfl)
        clear hxn
        go_wp2_with (fail)
        go_roundw
        case rel => exact ⟨i + 1, by omega, by go_num, by rw [HIS.out, ← HIS2.out], by rw [HSE.out]; exact PQ.out, X.out⟩
        case measure => simp [intOf]; omega
    · have him : i = m := by omega
      have dim : decide ((i : Int) < (m : Int)) = false := decide_eq_false (by omega)
      have et : T.take i = T := List.take_of_length_le (by rw [him, HM.out]; exact Nat.le_refl _)
      have HFE := hide (show Fs n f T ls i = (paintF kind a0 a1 b0 b1 n NL mv f, ls) by unfold Fs; rw [et, HTF.out])
      have HB := hide (show decide (n ∈ (T.take i).map (·.a0)) = decide (n ∈ touchL kind a0 b0 mv) by rw [et, HTP.out])
      obtain ⟨b0', hb0⟩ : ∃ b0', b0' = decide (n ∈ (T.take i).map (·.a0)) := ⟨_, rfl⟩
      rw [← hb0] at HB ⊢
      rw [HFE.out] at PQ
      clear hb0 et him
      have PP3 := hide ((PP.out.ext X2.out).ext X.out)
      have PR3 := hide ((PR.out.ext X2.out).ext X.out)
      obtain ⟨_, _, _, _, _, z0, z1, z2, z3, z4⟩ := PR3.out.cells
      have f0 := PR3.out.frz 0
      have f1 := PR3.out.frz 1
      have f2 := PR3.out.frz 2
      have f3 := PR3.out.frz 3
      have f4 := PR3.out.frz 4
      obtain ⟨C0, g0, C1, g1, C2, g2, C3, g3, hbp, hpp⟩ := PP3.out
      have XW := hide (X1.out.trans (X2.out.trans X.out))
      by_cases hact : actsP ls n kind a0 b0 lsn mv
      · have e1 : b0' = true := by rw [HB.out]; exact decide_eq_true hact.2
        subst e1
        have dl : decide (lsn ≤ ls) = false := decide_eq_false (by have := hact.1; omega)
        have EF := hide (show FO = paintF kind a0 a1 b0 b1 n NL mv f by rw [HFO.out, pageF, if_pos hact])
        have EL := hide (show lo = lsn by rw [HLO.out, if_pos hact])
        have EB := hide (show bo = true by rw [HBO.out, decide_eq_true hact])
        obtain ⟨F, hF⟩ : ∃ F, F = paintF kind a0 a1 b0 b1 n NL mv f := ⟨_, rfl⟩
        rw [← hF] at PQ EF
        obtain ⟨D0, e0', D1, e1', D2, e2', D3, e3', hbq, hpq⟩ := PQ.out
        obtain ⟨y0, y1, y2, y3, y4⟩ := hbq.cells5
        have w4 := hbp.cell 4
        simp only [List.getElem?_toArray, List.getElem?_cons_succ, List.getElem?_cons_zero] at w4
        have fq := hbq.frozen 4
        clear hact hF
        go_upto_region 14 with (fail)
        have hb5 := hbq.set_ 4 (.int .i64 lsn)
        simp only [List.setIfInBounds_toArray, List.set_cons_zero, List.set_cons_succ] at hb5
        have ht5 := Touch.cell1 wr qb 4 (.int .i64 lsn)
        have hp5 := (hpq.far hbq PgAt.no8 ht5).num (l2 := lsn)
        have hr5 := PR3.out.far ⟨_, _, _, _, _, _, _, _, hbq, hpq⟩ HQ.out.2.1 ht5
        have hx5 : Ext w (wr.setCell ⟨qb, 4, none⟩ (.int .i64 lsn)) := Ext.set_ (p := ⟨qb, 4, none⟩) XW.out (Nat.le_trans (X1.out.trans X2.out).size HQ.out.1) _
        obtain ⟨w5, hw5⟩ : ∃ w5, w5 = wr.setCell ⟨qb, 4, none⟩ (.int .i64 lsn) := ⟨_, rfl⟩
        rw [← hw5] at hb5 hp5 hr5 hx5 ⊢
        have HP5 := hide hp5
        have HR5 := hide hr5
        have HX5 := hide hx5
        clear hw5 ht5 hp5 hr5 hx5 hbq hpq hbp hpp y0 y1 y2 y3 y4 w4 fq z0 z1 z2 z3 z4 f0 f1 f2 f3 f4
        obtain ⟨y0, y1, y2, y3, y4⟩ := hb5.cells5
        obtain ⟨_, _, _, _, _, z0, z1, z2, z3, z4⟩ := HR5.out.cells
        have f0 := HR5.out.frz 0
        have f1 := HR5.out.frz 1
        have f2 := HR5.out.frz 2
        have f3 := HR5.out.frz 3
        have f4 := HR5.out.frz 4
        clear hb5
        go_wp2_with (fail)
        exact bodyPost_ret (v := .tuple #[.agg #[.slice D0 (F 0).length e0', .slice D1 (F 1).length e1', .slice D2 (F 2).length e2', .slice D3 (F 3).length e3', .int .i64 lsn], .bool true]) (by simp [results, Try.results10, go_sem, z0, z1, z2, z3, z4]) rfl ⟨_, by rw [EB.out], by rw [EF.out, EL.out]; exact HR5.out.layPg HP5.out, Touch.ext HX5.out (touch_set5 _ _ _ _ _ _ _) HRB.out.1⟩
      · have dor : (!b0' || decide (lsn ≤ ls)) = true := by
          rw [HB.out]
          by_cases hm : n ∈ touchL kind a0 b0 mv
          · have : ¬ ls < lsn := fun e => hact ⟨e, hm⟩
            rw [decide_eq_true (show lsn ≤ ls by omega), Bool.or_true]
          · rw [decide_eq_false hm]; rfl
        have EF := hide (show FO = f by rw [HFO.out, pageF, if_neg hact])
        have EL := hide (show lo = ls by rw [HLO.out, if_neg hact])
        have EB := hide (show bo = false by rw [HBO.out, decide_eq_false hact])
        obtain ⟨y0, y1, y2, y3, y4⟩ := hbp.cells5
        have HPP := hide hpp
        clear hact hbp hpp HB
        cases b0'
        · go_wp2_with (fail)
          exact bodyPost_ret (v := .tuple #[.agg #[.slice C0 (f 0).length g0, .slice C1 (f 1).length g1, .slice C2 (f 2).length g2, .slice C3 (f 3).length g3, .int .i64 ls], .bool false]) (by simp [results, Try.results10, go_sem, z0, z1, z2, z3, z4]) rfl ⟨_, by rw [EB.out], by rw [EF.out, EL.out]; exact PR3.out.layPg HPP.out, Touch.ext XW.out (touch_set5 _ _ _ _ _ _ _) HRB.out.1⟩
        · have dl : decide (lsn ≤ ls) = true := by simpa using dor
          clear dor
          go_wp2_with (fail)
          exact bodyPost_ret (v := .tuple #[.agg #[.slice C0 (f 0).length g0, .slice C1 (f 1).length g1, .slice C2 (f 2).length g2, .slice C3 (f 3).length g3, .int .i64 ls], .bool false]) (by simp [results, Try.results10, go_sem, z0, z1, z2, z3, z4]) rfl ⟨_, by rw [EB.out], by rw [EF.out, EL.out]; exact PR3.out.layPg HPP.out, Touch.ext XW.out (touch_set5 _ _ _ _ _ _ _) HRB.out.1⟩
end Go.Proofs.Ytaagdjipjeindaa
