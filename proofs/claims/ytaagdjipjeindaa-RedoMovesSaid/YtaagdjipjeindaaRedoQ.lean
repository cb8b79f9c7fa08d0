/- Redo: a page of some rows, by numbers. -/
import Derived.Test.YtaagdjipjeindaaRedoP
import Derived.Test.YtaagdjipjeindaaTailG
namespace Go.Proofs.Ytaagdjipjeindaa
open Go.ChangeShapes Go.WideShapes Go.ChangeAt Go.RowKit
set_option linter.unusedVariables false

theorem PgAt.cells {w : World} {b : Nat} {s : (Nat → List UInt8) × Int} (h : PgAt w b s) : ∃ u0 u1 u2 u3 u4, w.cell? ⟨b, 0, none⟩ = some u0 ∧ w.cell? ⟨b, 1, none⟩ = some u1 ∧ w.cell? ⟨b, 2, none⟩ = some u2 ∧ w.cell? ⟨b, 3, none⟩ = some u3 ∧ w.cell? ⟨b, 4, none⟩ = some u4 := by
  obtain ⟨_, _, _, _, _, _, _, _, hb, _⟩ := h
  exact ⟨_, _, _, _, _, hb.cells5⟩
theorem PgAt.frz {w : World} {b : Nat} {s : (Nat → List UInt8) × Int} (h : PgAt w b s) (i : Nat) : w.frozen? ⟨b, i, none⟩ = false := by
  obtain ⟨_, _, _, _, _, _, _, _, hb, _⟩ := h
  exact hb.frozen i
theorem PgAt.celli {w : World} {b i : Nat} {s : (Nat → List UInt8) × Int} (h : PgAt w b s) (hi : i < 4) : ∃ y, w.cell? ⟨b, i, none⟩ = some y := by
  obtain ⟨u0, u1, u2, u3, u4, z0, z1, z2, z3, z4⟩ := h.cells
  rcases (show i = 0 ∨ i = 1 ∨ i = 2 ∨ i = 3 by omega) with rfl | rfl | rfl | rfl
  · exact ⟨_, z0⟩
  · exact ⟨_, z1⟩
  · exact ⟨_, z2⟩
  · exact ⟨_, z3⟩
theorem PgAt.lt {w : World} {b : Nat} {s : (Nat → List UInt8) × Int} (h : PgAt w b s) : b < w.heap.size := by
  obtain ⟨_, _, _, _, _, _, _, _, hb, _⟩ := h
  exact hb.lt
/-- a page with one cell set -/
def setAt (s : (Nat → List UInt8) × Int) (i : Nat) (l : List UInt8) : (Nat → List UInt8) × Int := (fun j => if j = i then l else s.1 j, s.2)
theorem setAt_len {s : (Nat → List UInt8) × Int} {i : Nat} {l : List UInt8} (hs : ∀ j, (s.1 j).length ≤ 1000) (hl : l.length ≤ 1000) : ∀ j, ((setAt s i l).1 j).length ≤ 1000 := by
  intro j
  unfold setAt
  show (if j = i then l else s.1 j).length ≤ 1000
  split
  · exact hl
  · exact hs j
theorem Touch.cell1 (w : World) (b i : Nat) (v : Value) : Touch w (w.setCell ⟨b, i, none⟩ v) (fun a => a = b) := Touch.setCell (F := fun a => a = b) (p := ⟨b, i, none⟩) (Touch.refl w _) (fun _ => rfl) _
theorem PgAt.set1 {w : World} {b i : Nat} {s : (Nat → List UInt8) × Int} {A : Option Addr} {c : Nat} {l : List UInt8} (h : PgAt w b s) (hi : i < 4) (hv : BB w (.slice A l.length c) l) : PgAt (w.setCell ⟨b, i, none⟩ (.slice A l.length c)) b (setAt s i l) := by
  obtain ⟨A0, c0, A1, c1, A2, c2, A3, c3, hb, ⟨u0, u1, u2, u3, e, h0, h1, h2, h3⟩⟩ := h
  injection e with e
  simp only [Array.mk.injEq, List.cons.injEq, and_true] at e
  obtain ⟨rfl, rfl, rfl, rfl⟩ := e
  have ht := Touch.cell1 w b i (.slice A l.length c)
  have k0 := h0.far hb PgAt.no8 ht
  have k1 := h1.far hb PgAt.no8 ht
  have k2 := h2.far hb PgAt.no8 ht
  have k3 := h3.far hb PgAt.no8 ht
  have kv := hv.far hb PgAt.no8 ht
  have hs := hb.set_ i (.slice A l.length c)
  rcases (show i = 0 ∨ i = 1 ∨ i = 2 ∨ i = 3 by omega) with rfl | rfl | rfl | rfl
  · exact ⟨A, c, A1, c1, A2, c2, A3, c3, by simpa [setAt] using hs, _, _, _, _, rfl, kv, k1, k2, k3⟩
  · exact ⟨A0, c0, A, c, A2, c2, A3, c3, by simpa [setAt] using hs, _, _, _, _, rfl, k0, kv, k2, k3⟩
  · exact ⟨A0, c0, A1, c1, A, c, A3, c3, by simpa [setAt] using hs, _, _, _, _, rfl, k0, k1, kv, k3⟩
  · exact ⟨A0, c0, A1, c1, A2, c2, A, c, by simpa [setAt] using hs, _, _, _, _, rfl, k0, k1, k2, kv⟩
theorem PgAt.far1 {w : World} {b g i : Nat} {v : Value} {s s' : (Nat → List UInt8) × Int} (h : PgAt w b s) (hg : PgAt w g s') (hne : b ≠ g) : PgAt (w.setCell ⟨g, i, none⟩ v) b s := h.far hg hne (Touch.cell1 w g i v)
theorem PgAt.layPg {w : World} {g : Nat} {s : (Nat → List UInt8) × Int} {v u0 u1 u2 u3 u4 : Value} {f : Nat → List UInt8} {ls : Int} (hg : PgAt w g s) (hp : Pg w v f ls) :
    Pg (((((w.setCell ⟨g, 0, none⟩ u0).setCell ⟨g, 1, none⟩ u1).setCell ⟨g, 2, none⟩ u2).setCell ⟨g, 3, none⟩ u3).setCell ⟨g, 4, none⟩ u4) v f ls := by
  obtain ⟨_, _, _, _, _, _, _, _, hb', _⟩ := hg
  exact hp.far hb' PgAt.no8 (touch_set5 _ _ _ _ _ _ _)
/-- a page, whatever is on it -/
def GivesM (w : World) (lsn : Int) (e : Ending) (w' : World) : Prop := ∃ v f, e = .returned v ∧ Pg w' v f lsn ∧ (∀ j, (f j).length ≤ 1000) ∧ Ext w w'
set_option maxRecDepth 1000000 in
set_option maxHeartbeats 8000000 in
theorem made_any (A : Option Addr) (c n : Nat) (l : List UInt8) (lsn : Int) (w : World) (hr : Reads w w.heap.size 1 A n (bv l)) (hn : n = l.length) (hl : n ≤ 4) :
    Calls Try.prog 8 #[.slice A n c, .int .i64 lsn] w (GivesM w lsn) := by
  have HR := hide hr
  have HN := hide hn
  clear hr hn
  go_enter Try.func8, Try.ntmps8
  go_wp2_with (fail)
  obtain ⟨w2, hw2⟩ : ∃ w2, w2 = (w.alloc (.cells #[.slice none 0 0, .slice none 0 0, .slice none 0 0, .slice none 0 0, .int .i64 0] 35)).alloc (.cells #[.slice none 0 0, .slice none 0 0, .slice none 0 0, .slice none 0 0, .int .i64 lsn] 35) := ⟨_, rfl⟩
  have X2 := hide (show Ext w w2 by rw [hw2]; exact ((Ext.refl w).alloc _).alloc _)
  have PR := hide (show PgAt w2 w.heap.size (noP, 0) from ⟨none, 0, none, 0, none, 0, none, 0, by rw [hw2]; exact (Blk.new w 35 _).alloc _, Pg.none _⟩)
  have PP := hide (show PgAt w2 (w.heap.size + 1) (noP, lsn) from ⟨none, 0, none, 0, none, 0, none, 0, by rw [hw2]; exact blk_new1 w _ 35 _, _, _, _, _, rfl, BB.nil _, BB.nil _, BB.nil _, BB.nil _⟩)
  obtain ⟨rb, hrb⟩ : ∃ rb, rb = w.heap.size := ⟨_, rfl⟩
  obtain ⟨pb, hpb⟩ : ∃ pb, pb = w.heap.size + 1 := ⟨_, rfl⟩
  have HB := hide (show rb ≠ pb ∧ w.heap.size ≤ pb by omega)
  have HRB := hide (show w.heap.size ≤ rb by omega)
  rw [← hw2, ← hpb, ← hrb]
  rw [← hrb] at PR
  rw [← hpb] at PP
  clear hw2 hrb hpb
  go_loopw [6] (fun s6 wr => (∃ i : Nat, i ≤ n ∧ s6 = .int .i64 i ∧ ∃ s : (Nat → List UInt8) × Int, PgAt wr pb s ∧ PgAt wr rb (noP, 0) ∧ Ext w wr ∧ s.2 = lsn ∧ ∀ j, (s.1 j).length ≤ 1000)) (fun s6 _ => (n - intOf s6).toNat)
  case atStart => exact ⟨0, by omega, rfl, (noP, lsn), PP.out, PR.out, X2.out, rfl, fun _ => by simp [noP]⟩
  case round =>
    clear PP PR X2
    obtain ⟨i, hi, rfl, s, hp, hpr, hx, hsn, hlen⟩ := hrel
    have PP := hide hp
    have PR := hide hpr
    have X := hide hx
    have HSN := hide hsn
    have LEN := hide hlen
    clear hp hpr hx hsn hlen
    by_cases hlt : i < n
    · obtain ⟨bk, off, hAe, hbw, hcell⟩ := HR.out.plain (by omega) (by omega)
      subst hAe
      obtain ⟨xb, hxb⟩ : ∃ xb, l[i]? = some xb := ⟨_, List.getElem?_eq_getElem (by rw [← HN.out]; exact hlt)⟩
      obtain ⟨x, hx⟩ : ∃ x, x = xb.toNat := ⟨_, rfl⟩
      have hx1 : x ≤ 255 := by rw [hx]; have := xb.toNat_lt; omega
      have gx := (X.out.cell (p := ⟨bk, off + i, none⟩) hbw).trans (hcell i (.int .u8 (x : Int)) (by rw [hx]; simp [bv, hxb]))
      have hbr : bk < wr.heap.size := Nat.lt_of_lt_of_le hbw X.out.size
      have h4 : i < 4 := by omega
      obtain ⟨r, hr⟩ : ∃ r : Nat, x % 4 = r := ⟨_, rfl⟩
      have er : (x : Int) % 4 = (r : Int) := by omega
      have hr4 : r < 4 := by omega
      clear hcell hxb hx
      have d0 : decide ((i : Int) < (n : Int)) = true := decide_eq_true (by omega)
      rcases (show r = 0 ∨ r = 1 ∨ r = 2 ∨ r = 3 by omega) with e | e | e | e <;> subst e
      · have er : (x : Int) % 4 = 0 := er
        go_wp2_with (fail)
        go_roundw
        case rel => exact ⟨i + 1, by omega, by go_num, s, PP.out, PR.out, X.out, HSN.out, LEN.out⟩
        case measure => simp [intOf]; omega
      · have er : (x : Int) % 4 = 1 := er
        obtain ⟨m, hm⟩ : ∃ m : Nat, x / 4 % 20 = m := ⟨_, rfl⟩
        have em : (x : Int) / 4 % 20 = (m : Int) := by omega
        have hm1 : m < 26 := by omega
        have c0 := conv_lt (Blk.new wr 5 #[.int .u8 (97 + (m : Int))]) hm1
        have w0 : IntKind.u8.wrap (97 + (m : Int)) = 97 + (m : Int) := by simp [IntKind.wrap, IntKind.signed, IntKind.bits]; omega
        have hrow := hide (row_any (wr.alloc (.cells #[.int .u8 (97 + (m : Int))] 5)) (ltL m) [115] [118] (by simp [ltL]) (by simp) (by simp))
        obtain ⟨lr, hlr⟩ : ∃ lr, lr = rowL (ltL m) [115] [118] := ⟨_, rfl⟩
        have L3 := hide (show lr.length ≤ 1000 by rw [hlr, rowL_len (by simp [ltL]) (by simp) (by simp)]; decide)
        rw [← hlr] at hrow
        clear hlr
        go_wp2_with (go_at_call 15; refine hrow.out.mono ?_; rintro e w3 ⟨A', c', rfl, ho3, hx3⟩; have X3 := hide ((Ext.new wr _).trans hx3); have B3 := hide (BB.own ho3); obtain ⟨y, hy⟩ := (PP.out.ext X3.out).celli h4; have hf := (PP.out.ext X3.out).frz i; clear ho3 hx3)
        go_roundw
        case rel => exact ⟨i + 1, by omega, by go_num, setAt s i lr, (PP.out.ext X3.out).set1 h4 B3.out, (PR.out.ext X3.out).far1 (PP.out.ext X3.out) HB.out.1, Ext.set_ (p := ⟨pb, i, none⟩) (X.out.trans X3.out) HB.out.2 _, HSN.out, setAt_len LEN.out L3.out⟩
        case measure => simp [intOf]; omega
      · have er : (x : Int) % 4 = 2 := er
        obtain ⟨q, hq⟩ : ∃ q : Nat, x / 4 % 32 = q := ⟨_, rfl⟩
        have eq_ : (x : Int) / 4 % 32 = (q : Int) := by omega
        clear hq
        have hu1 : IntKind.u8.wrap ((x : Int) / 4) = (x : Int) / 4 := by simp [IntKind.wrap, IntKind.signed, IntKind.bits]; omega
        have hu2 : IntKind.i64.wrap ((x : Int) / 4) = (x : Int) / 4 := by simp [IntKind.wrap, IntKind.signed, IntKind.bits]; omega
        have hu3 : ((x : Int) / 4).tmod 32 = (q : Int) := by rw [Int.tmod_eq_emod_of_nonneg (by omega)]; exact eq_
        have hu4 : IntKind.i64.wrap (x : Int) = (x : Int) := by simp [IntKind.wrap, IntKind.signed, IntKind.bits]; omega
        have hu5 : ((x : Int)).tmod 4 = 2 := by rw [Int.tmod_eq_emod_of_nonneg (by omega)]; exact er
        go_upto_region 9 with (fail)
        refine wp_region_G (S := (fun w' => w'.cell? ⟨bk, off + i, none⟩ = some (.int .u8 (x : Int)))) 21 (by kernel_rfl) (by kernel_rfl) gx (fun hHeld => ?_)
        refine GoG.take 0 30 (some 46) (v := ?_) rfl rfl (by kernel_rfl) (by kernel_rfl) (by kernel_rfl) (fun _ _ _ h => h) (Or.inl ⟨by rfl, ?_⟩) (by assumption) ?_
        rotate_left
        · intro w' hSw
          try dsimp only at hSw
          go_simp
          try with_reducible rfl
        try simp only [Act.put, List.setIfInBounds_toArray, List.set_cons_zero, List.set_cons_succ]
        refine GoG.take 1 30 (some 47) (v := ?_) rfl rfl (by kernel_rfl) (by kernel_rfl) (by kernel_rfl) (fun _ _ _ h => h) (Or.inl ⟨by rfl, ?_⟩) (by assumption) ?_
        rotate_left
        · intro w' hSw
          try dsimp only at hSw
          go_simp
          try with_reducible rfl
        try simp only [Act.put, List.setIfInBounds_toArray, List.set_cons_zero, List.set_cons_succ]
        refine GoG.take 2 30 (some 48) (v := ?_) rfl rfl (by kernel_rfl) (by kernel_rfl) (by kernel_rfl) (fun _ _ _ h => h) (Or.inl ⟨by rfl, ?_⟩) (by assumption) ?_
        rotate_left
        · intro w' hSw
          try dsimp only at hSw
          go_simp
          try with_reducible rfl
        try simp only [Act.put, List.setIfInBounds_toArray, List.set_cons_zero, List.set_cons_succ]
        refine GoG.take 3 30 (some 49) (v := ?_) rfl rfl (by kernel_rfl) (by kernel_rfl) (by kernel_rfl) (fun _ _ _ h => h) (Or.inl ⟨by rfl, ?_⟩) (by assumption) ?_
        rotate_left
        · intro w' hSw
          try dsimp only at hSw
          go_simp
          try with_reducible rfl
        try simp only [Act.put, List.setIfInBounds_toArray, List.set_cons_zero, List.set_cons_succ]
        refine GoG.take 4 30 (some 50) (v := ?_) rfl rfl (by kernel_rfl) (by kernel_rfl) (by kernel_rfl) (fun _ _ _ h => h) (Or.inl ⟨by rfl, ?_⟩) (by assumption) ?_
        rotate_left
        · intro w' hSw
          try dsimp only at hSw
          go_simp
          try with_reducible rfl
        try simp only [Act.put, List.setIfInBounds_toArray, List.set_cons_zero, List.set_cons_succ]
        refine GoG.take 5 30 (some 51) (v := ?_) rfl rfl (by kernel_rfl) (by kernel_rfl) (by kernel_rfl) (fun _ _ _ h => h) (Or.inl ⟨by rfl, ?_⟩) (by assumption) ?_
        rotate_left
        · intro w' hSw
          try dsimp only at hSw
          go_simp
          try with_reducible rfl
        try simp only [Act.put, List.setIfInBounds_toArray, List.set_cons_zero, List.set_cons_succ]
        refine GoG.take 6 30 (some 52) (v := ?_) rfl rfl (by kernel_rfl) (by kernel_rfl) (by kernel_rfl) (fun _ _ _ h => h) (Or.inl ⟨by rfl, ?_⟩) (by assumption) ?_
        rotate_left
        · intro w' hSw
          try dsimp only at hSw
          go_simp
          try with_reducible rfl
        try simp only [Act.put, List.setIfInBounds_toArray, List.set_cons_zero, List.set_cons_succ]
        refine GoG.take 7 30 (some 53) (v := ?_) rfl rfl (by kernel_rfl) (by kernel_rfl) (by kernel_rfl) (fun _ _ _ h => h) (Or.inl ⟨by rfl, ?_⟩) (by assumption) ?_
        rotate_left
        · intro w' hSw
          try dsimp only at hSw
          go_simp
          try with_reducible rfl
        try simp only [Act.put, List.setIfInBounds_toArray, List.set_cons_zero, List.set_cons_succ]
        refine GoG.take 8 30 (some 54) (v := ?_) rfl rfl (by kernel_rfl) (by kernel_rfl) (by kernel_rfl) (fun _ _ _ h => h) (Or.inl ⟨by rfl, ?_⟩) (by assumption) ?_
        rotate_left
        · intro w' hSw
          try dsimp only at hSw
          go_simp
          try with_reducible rfl
        try simp only [Act.put, List.setIfInBounds_toArray, List.set_cons_zero, List.set_cons_succ]
        refine GoG.take 9 30 (some 55) (v := ?_) rfl rfl (by kernel_rfl) (by kernel_rfl) (by kernel_rfl) (fun _ _ _ h => h) (Or.inl ⟨by rfl, ?_⟩) (by assumption) ?_
        rotate_left
        · intro w' hSw
          try dsimp only at hSw
          go_simp
          try with_reducible rfl
        try simp only [Act.put, List.setIfInBounds_toArray, List.set_cons_zero, List.set_cons_succ]
        refine GoG.take 10 30 (some 56) (v := ?_) rfl rfl (by kernel_rfl) (by kernel_rfl) (by kernel_rfl) (fun _ _ _ h => h) (Or.inl ⟨by rfl, ?_⟩) (by assumption) ?_
        rotate_left
        · intro w' hSw
          try dsimp only at hSw
          go_simp
          try with_reducible rfl
        try simp only [Act.put, List.setIfInBounds_toArray, List.set_cons_zero, List.set_cons_succ]
        refine GoG.take 11 30 (some 57) (v := ?_) rfl rfl (by kernel_rfl) (by kernel_rfl) (by kernel_rfl) (fun _ _ _ h => h) (Or.inl ⟨by rfl, ?_⟩) (by assumption) ?_
        rotate_left
        · intro w' hSw
          try dsimp only at hSw
          go_simp
          try with_reducible rfl
        try simp only [Act.put, List.setIfInBounds_toArray, List.set_cons_zero, List.set_cons_succ]
        refine GoG.take 12 30 (some 58) (v := ?_) rfl rfl (by kernel_rfl) (by kernel_rfl) (by kernel_rfl) (fun _ _ _ h => h) (Or.inl ⟨by rfl, ?_⟩) (by assumption) ?_
        rotate_left
        · intro w' hSw
          try dsimp only at hSw
          go_simp
          try with_reducible rfl
        try simp only [Act.put, List.setIfInBounds_toArray, List.set_cons_zero, List.set_cons_succ]
        refine GoG.take 13 30 (some 59) (v := ?_) rfl rfl (by kernel_rfl) (by kernel_rfl) (by kernel_rfl) (fun _ _ _ h => h) (Or.inl ⟨by rfl, ?_⟩) (by assumption) ?_
        rotate_left
        · intro w' hSw
          try dsimp only at hSw
          go_simp
          try with_reducible rfl
        try simp only [Act.put, List.setIfInBounds_toArray, List.set_cons_zero, List.set_cons_succ]
        refine GoG.take 14 30 (some 60) (v := ?_) rfl rfl (by kernel_rfl) (by kernel_rfl) (by kernel_rfl) (fun _ _ _ h => h) (Or.inl ⟨by rfl, ?_⟩) (by assumption) ?_
        rotate_left
        · intro w' hSw
          try dsimp only at hSw
          go_simp
          try with_reducible rfl
        try simp only [Act.put, List.setIfInBounds_toArray, List.set_cons_zero, List.set_cons_succ]
        refine GoG.take 19 30 (some 64) (v := ?_) rfl rfl (by kernel_rfl) (by kernel_rfl) (by kernel_rfl) (fun _ _ _ h => h) (Or.inl ⟨by rfl, ?_⟩) (by assumption) ?_
        rotate_left
        · intro w' hSw
          try dsimp only at hSw
          go_simp
          try with_reducible rfl
        try simp only [Act.put, List.setIfInBounds_toArray, List.set_cons_zero, List.set_cons_succ]
        refine GoG.each (rs := [15]) (by kernel_rfl) (by kernel_rfl) ?_
        refine EachG.cons (i := 15) rfl (fun K hK => ?_) EachG.nil
        go_simp
        refine (rstub_all wr.drew (q : Int) 2).mono ?_
        rintro e w3 ⟨v3, er, rfl, hb3, hl3, hx3⟩
        obtain ⟨A', c', rfl, hA', hr'⟩ := hb3
        have B3 := hide (show BB w3 (.slice A' (stubOf (q : Int) 2).length c') (stubOf (q : Int) 2) from ⟨A', c', rfl, hA', hr'⟩)
        have L3 := hide hl3
        have X3 := hide (Ext.trans (Ext.drew (Ext.refl wr)) hx3)
        clear hA' hr' hl3 hx3
        obtain ⟨l, hl⟩ : ∃ l, l = stubOf (q : Int) 2 := ⟨_, rfl⟩
        rw [← hl] at B3 L3
        simp only [← hl]
        clear hl
        try go_simp
        refine hK.out _ _ ((X3.out.cell hbr).trans gx) (fun hHeld => ?_)
        clear hK K
        try simp only [Act.put, List.setIfInBounds_toArray, List.set_cons_zero, List.set_cons_succ]
        refine GoG.take 16 30 (some 45) (v := ?_) rfl rfl (by kernel_rfl) (by kernel_rfl) (by kernel_rfl) (fun _ _ _ h => h) (Or.inl ⟨by rfl, ?_⟩) (by assumption) ?_
        rotate_left
        · intro w' hSw
          try dsimp only at hSw
          go_simp
          try with_reducible rfl
        try simp only [Act.put, List.setIfInBounds_toArray, List.set_cons_zero, List.set_cons_succ]
        refine GoG.take 17 30 (some 62) (v := ?_) rfl rfl (by kernel_rfl) (by kernel_rfl) (by kernel_rfl) (fun _ _ _ h => h) (Or.inl ⟨by rfl, ?_⟩) (by assumption) ?_
        rotate_left
        · intro w' hSw
          try dsimp only at hSw
          go_simp
          try with_reducible rfl
        try simp only [Act.put, List.setIfInBounds_toArray, List.set_cons_zero, List.set_cons_succ]
        refine GoG.pure 18 (some 63) (v := ?_) rfl rfl (by kernel_rfl) (by kernel_rfl) (by kernel_rfl) (fun _ _ _ h => h) (Or.inl ⟨by rfl, ?_⟩) (by assumption) ?_
        rotate_left
        · intro w' hSw
          try dsimp only at hSw
          go_simp
          try with_reducible rfl
        try simp only [Act.put, List.setIfInBounds_toArray, List.set_cons_zero, List.set_cons_succ]
        refine GoG.take 20 30 (some 65) (v := ?_) rfl rfl (by kernel_rfl) (by kernel_rfl) (by kernel_rfl) (fun _ _ _ h => h) (Or.inl ⟨by rfl, ?_⟩) (by assumption) ?_
        rotate_left
        · intro w' hSw
          try dsimp only at hSw
          go_simp
          try with_reducible rfl
        try simp only [Act.put, List.setIfInBounds_toArray, List.set_cons_zero, List.set_cons_succ]
        refine GoG.last (by kernel_rfl) (by kernel_rfl) rfl (fun K hK => ?_)
        obtain ⟨y, hy⟩ := (PP.out.ext X3.out).celli h4
        have hf := (PP.out.ext X3.out).frz i
        go_simp
        refine hK.out _ _ ?_
        clear hK K hHeld hy hf
        obtain ⟨w4, hw4, hp4, hr4, hx4⟩ : ∃ w4, w4 = w3.setCell ⟨pb, i, none⟩ (.slice A' l.length c') ∧ PgAt w4 pb (setAt s i l) ∧ PgAt w4 rb (noP, 0) ∧ Ext w w4 := ⟨_, rfl, (PP.out.ext X3.out).set1 h4 B3.out, (PR.out.ext X3.out).far1 (PP.out.ext X3.out) HB.out.1, Ext.set_ (p := ⟨pb, i, none⟩) (X.out.trans X3.out) HB.out.2 _⟩
        rw [← hw4]
        have P4 := hide hp4
        have R4 := hide hr4
        have X4 := hide hx4
        clear hw4 hp4 hr4 hx4
        go_wp2_with (fail)
        go_roundw
        case rel => exact ⟨i + 1, by omega, by go_num, setAt s i l, P4.out, R4.out, X4.out, HSN.out, setAt_len LEN.out L3.out⟩
        case measure => simp [intOf]; omega
      · have er : (x : Int) % 4 = 3 := er
        have hmk := mk26 wr
        obtain ⟨y, hy⟩ := PP.out.celli h4
        have hf := PP.out.frz i
        have hpl := PP.out.lt
        have Z := reads_row (Blk.new wr 5 z26)
        rw [z26_bv] at Z
        have BZ := hide (show BB (wr.alloc (.cells z26 5)) (.slice (some ⟨wr.heap.size, 0, none⟩) (List.replicate 26 (0 : UInt8)).length 26) (List.replicate 26 0) from ⟨some ⟨wr.heap.size, 0, none⟩, 26, rfl, ⟨(fun h => by cases h), by simp⟩, Z⟩)
        have LZ := hide (show (List.replicate 26 (0 : UInt8)).length ≤ 1000 by simp)
        obtain ⟨lz, hlz⟩ : ∃ lz, lz = List.replicate 26 (0 : UInt8) := ⟨_, rfl⟩
        have ez : lz.length = 26 := by rw [hlz]; rfl
        rw [← hlz] at BZ LZ
        have XA := hide (Ext.new wr (.cells z26 5))
        obtain ⟨w4, hw4, hp4, hr4, hx4⟩ : ∃ w4, w4 = (wr.alloc (.cells z26 5)).setCell ⟨pb, i, none⟩ (.slice (some ⟨wr.heap.size, 0, none⟩) lz.length 26) ∧ PgAt w4 pb (setAt s i lz) ∧ PgAt w4 rb (noP, 0) ∧ Ext w w4 := ⟨_, rfl, (PP.out.ext XA.out).set1 h4 BZ.out, (PR.out.ext XA.out).far1 (PP.out.ext XA.out) HB.out.1, Ext.set_ (p := ⟨pb, i, none⟩) (X.out.trans XA.out) HB.out.2 _⟩
        rw [ez, World.setCell_alloc_past _ _ _ _ hpl] at hw4
        have HW := hide hw4
        have P4 := hide hp4
        have R4 := hide hr4
        have X4 := hide hx4
        clear hw4 hp4 hr4 hx4 Z ez hlz
        go_wp2_with (fail)
        go_roundw
        case rel => exact ⟨i + 1, by omega, by go_num, setAt s i lz, by rw [← HW.out]; exact P4.out, by rw [← HW.out]; exact R4.out, by rw [← HW.out]; exact X4.out, HSN.out, setAt_len LEN.out LZ.out⟩
        case measure => simp [intOf]; omega
    · obtain rfl : i = n := by omega
      have d0 : decide ((i : Int) < (i : Int)) = false := by simp
      obtain ⟨A0, c0, A1, c1, A2, c2, A3, c3, hb, hp⟩ := PP.out
      obtain ⟨y0, y1, y2, y3, y4⟩ := hb.cells5
      obtain ⟨_, _, _, _, _, z0, z1, z2, z3, z4⟩ := PR.out.cells
      obtain ⟨f0, f1, f2, f3, f4⟩ : wr.frozen? ⟨rb, 0, none⟩ = false ∧ wr.frozen? ⟨rb, 1, none⟩ = false ∧ wr.frozen? ⟨rb, 2, none⟩ = false ∧ wr.frozen? ⟨rb, 3, none⟩ = false ∧ wr.frozen? ⟨rb, 4, none⟩ = false := ⟨PR.out.frz 0, PR.out.frz 1, PR.out.frz 2, PR.out.frz 3, PR.out.frz 4⟩
      have HP := hide hp
      clear hb hp
      go_wp2_with (fail)
      exact bodyPost_ret (v := .agg #[.slice A0 (s.1 0).length c0, .slice A1 (s.1 1).length c1, .slice A2 (s.1 2).length c2, .slice A3 (s.1 3).length c3, .int .i64 s.2]) (by simp [results, Try.results8, go_sem, z0, z1, z2, z3, z4]) rfl ⟨_, s.1, rfl, HSN.out ▸ PR.out.layPg HP.out, LEN.out, Touch.ext X.out (touch_set5 _ _ _ _ _ _ _) HRB.out⟩
end Go.Proofs.Ytaagdjipjeindaa
