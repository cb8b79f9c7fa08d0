/- Tile: contract: Crash. -/
import Derived.Test.YtpbenpkgbhmldaaTileC
import Derived.StillTailTactics
namespace Go.Proofs.Ytpbenpkgbhmldaa
open Go.ChangeShapes Go.WideShapes Go.ChangeAt Go.RowKit Go.Maps
set_option linter.unusedVariables false

theorem Rises.keys {w : World} {Y Z : Nat → Prop} {g N : Nat} {dead : Bool} {T : List (List UInt8)} {U : Int → Option (List UInt8)} {pl : Option (Int × List UInt8)} {L : List Int} (hL : Rises L) (h : Disk Y Z w g N dead T U pl) (hm : ∀ x, x ∈ L ↔ (U x).isSome = true) : L = keysTo U T.length := by
  refine rises_same hL (keysTo_rises U _) (fun x => ?_)
  rw [hm, mem_keysTo]
  constructor
  · intro hx
    have := h.keys x hx
    exact ⟨x.toNat, by omega, by omega, hx⟩
  · rintro ⟨j, _, _, hx⟩
    exact hx
/-- which tiles are loose, in new memory -/
theorem loose_to (Y Z : Nat → Prop) (w : World) (g N : Nat) (dead : Bool) (T : List (List UInt8)) (U : Int → Option (List UInt8)) (pl : Option (Int × List UInt8)) (h : Disk Y Z w g N dead T U pl) (hN : N ≤ 1048576) :
    Calls Try.prog 18 #[.pointer (some ⟨g, 0, none⟩)] w fun e w' => ∃ A c, e = .returned (.slice A (cnt U T.length) c) ∧ w'.ownsRow w.heap.size 3 1 (.slice A (cnt U T.length) c) (cnt U T.length) (iv (keysTo U T.length)) ∧ Ext w w' := by
  refine (loose_any Y Z w g N dead T U pl h hN).mono ?_
  rintro e w' ⟨v, L, rfl, h1, h2, h3, h4, h5, h6⟩
  obtain rfl := h1.keys h h2
  rw [keysTo_len] at h5
  obtain ⟨A, c, rfl, _⟩ := own_form h5
  exact ⟨A, c, rfl, h5, h6⟩
/-- one tile is another -/
theorem Dk.tile_ {Y Z : Nat → Prop} {w : World} {g m n N x : Nat} {v : Value} {p : Option Addr} {dead : Bool} {ts : List Value} {T : List (List UInt8)} {f : Int → Option Value} {U : Int → Option (List UInt8)} {pl : Option (Int × List UInt8)} {b c : Nat} {l : List UInt8}
    (h : Dk Y Z w g (.slice (some ⟨b, 0, none⟩) n c) m p dead n N ts T f U pl) (hv : Tl w Z v l) (hl : l.length = 64) :
    Dk Y Z (w.setCell ⟨b, x, none⟩ v) g (.slice (some ⟨b, 0, none⟩) n c) m p dead n N (ts.set x v) (T.set x l) f U pl ∧ Turn Y w (w.setCell ⟨b, x, none⟩ v) := by
  have ht : Touch w (w.setCell ⟨b, x, none⟩ v) (fun k => k = b) := Touch.setCell (F := fun k => k = b) (p := ⟨b, x, none⟩) (Touch.refl w _) (fun _ => rfl) v
  have hvb : (Value.slice (some ⟨b, 0, none⟩) n c).ownBlock = some b := rfl
  have hdt : ∀ k, k = b → Y k ∧ Dt w k := fun k hk => by subst hk; exact ⟨h.oY _ hvb, h.dtv hvb⟩
  have kt' : ∀ v' l, Tl w Z v' l → Tl (w.setCell ⟨b, x, none⟩ v) Z v' l := fun v' l hv => h.keepT ht (fun k hk => (hdt k hk).2) hv
  refine ⟨⟨ht.blk h.blk (fun e => h.gv (by rw [e]; exact hvb)), (h.own.stored x v).1, h.oY, by rw [List.length_set]; exact h.len, fun i t l' h1 h2 => ?_, h.was.touch ht (fun e => h.vm (by rw [e]; exact hvb)), h.iff, fun y v' hx => ?_, h.key, h.hg, h.hm, h.pln.touch ht (fun k cs _ hk e => ?_) kt'⟩, Turn.of_touch ht hdt⟩
  · rw [List.getElem?_set] at h1 h2
    by_cases e : x = i
    · rw [if_pos e] at h1 h2
      split at h1 <;> simp at h1
      split at h2 <;> simp at h2
      subst h1 h2
      exact ⟨kt' _ _ hv, hl⟩
    · rw [if_neg e] at h1 h2
      exact ⟨kt' _ _ (h.tl i t l' h1 h2).1, (h.tl i t l' h1 h2).2⟩
  · obtain ⟨l, h1, h2, h3⟩ := h.wtl y v' hx
    exact ⟨l, h1, kt' _ _ h2, h3⟩
  · exact own_blk_ne h.own hk (by decide) (by rw [e]; exact hvb)
theorem Turn.own {Y : Nat → Prop} {w w' : World} {base e m n : Nat} {v : Value} {xs : List Value} (h : Turn Y w w') (ho : w.ownsRow base e m v n xs) (h1 : e ≠ 66) (h2 : e ≠ 22) (h3 : e ≠ 71) : w'.ownsRow base e m v n xs :=
  ownsRow_touch h ho (fun k hk hf => by
    rcases ho.2 with ⟨rfl, _⟩ | ⟨g', cap, cur, rfl, _, hh, _⟩
    · simp [Value.ownBlock] at hk
    · have : g' = k := by simpa [Value.ownBlock] using hk
      subst this
      exact (hf.2 _ _ hh).elim h1 (fun e => e.elim h2 h3))
/-- one loose tile is as it was -/
theorem crash_step {Y Z : Nat → Prop} {w : World} {g N k : Nat} {dead : Bool} {M : List UInt8} {T : List (List UInt8)} {U : Int → Option (List UInt8)} {pl : Option (Int × List UInt8)} {x : Int} (h : Disk Y Z w g N dead (crTo M U T k) U pl) (hx : (keysTo U T.length)[k]? = some x) (hb : bit M k = false) (hT : T.length ≤ 2000) :
    ∃ (j b m c : Nat) (p : Option Addr) (Av : Option Addr) (lv cv : Nat) (f : Int → Option Value), x = (j : Int) ∧ j < T.length ∧ Blk w g 66 #[.slice (some ⟨b, 0, none⟩) T.length c, .map (some m), .bool dead, .pointer p] ∧ WasAt w m N f ∧ (f x).getD (.slice none 0 0) = .slice Av lv cv ∧ Wf x ∧
      g ≠ b ∧ WasAt (w.setCell ⟨b, j, none⟩ (.slice Av lv cv)) m N f ∧ (∃ u, w.cell? ⟨b, j, none⟩ = some u) ∧ w.frozen? ⟨b, j, none⟩ = false ∧ Disk Y Z (w.setCell ⟨b, j, none⟩ (.slice Av lv cv)) g N dead (crTo M U T (k + 1)) U pl ∧ Turn Y w (w.setCell ⟨b, j, none⟩ (.slice Av lv cv)) := by
  obtain ⟨vt, m, p, ts, f, h⟩ := h
  rw [crTo_len] at h
  obtain ⟨j, hj, hxj, hsome, hcnt⟩ := keysTo_at U T.length k x hx
  obtain ⟨b, c, hvt, _, _⟩ := h.own.form (by omega)
  subst hvt
  have hfs : (f x).isSome = true := by rw [h.iff]; exact hsome
  obtain ⟨v, hv⟩ := Option.isSome_iff_exists.1 hfs
  obtain ⟨l, hUl, htl, hl64⟩ := h.wtl x v hv
  obtain ⟨Av, cv, hvs, _⟩ := htl.form
  subst hvs
  have hr := h.tile_ (x := j) htl hl64
  have hjt : j < ts.length := by rw [h.lens]; exact hj
  refine ⟨j, b, m, c, p, Av, l.length, cv, f, hxj, hj, h.blk, h.was, by rw [hv]; rfl, wf_big (by omega) (by omega), (fun e => h.gv (by rw [e]; rfl)), h.was.touch (Touch.setCell (F := fun k => k = b) (p := ⟨b, j, none⟩) (Touch.refl w _) (fun _ => rfl) _) (fun e => h.vm (by rw [e]; rfl)), ⟨_, own_at h.own j _ (List.getElem?_eq_getElem hjt)⟩, h.own.frozenAt j, ⟨.slice (some ⟨b, 0, none⟩) T.length c, m, p, ts.set j (.slice Av l.length cv), f, ?_⟩, hr.2⟩
  have e : crTo M U T (k + 1) = (crTo M U T k).set j l := crTo_set M U T k j l hb hj hcnt (by rw [← hxj]; exact hUl)
  rw [e, List.length_set, crTo_len]
  exact hr.1
/-- the table is emptied -/
theorem Dk.none_ {Y Z : Nat → Prop} {w w' : World} {g m n N : Nat} {vt : Value} {p : Option Addr} {dead : Bool} {ts : List Value} {T : List (List UInt8)} {f : Int → Option Value} {U : Int → Option (List UInt8)} {pl : Option (Int × List UInt8)}
    (h : Dk Y Z w g vt m p dead n N ts T f U pl) (hw : WasAt w' m 0 (fun _ => none)) (ht : Touch w w' (fun k => k = m)) : Dk Y Z w' g vt m p dead n 0 ts T (fun _ => none) (fun _ => none) pl ∧ Turn Y w w' :=
  h.was_ hw ht (fun x => rfl) (fun x v hx => by cases hx) (fun x hx => by cases hx)
/-- it is dead, and there is no plan -/
theorem Dk.dead_ {Y Z : Nat → Prop} {w : World} {g m n N : Nat} {vt : Value} {p : Option Addr} {dead : Bool} {ts : List Value} {T : List (List UInt8)} {f : Int → Option Value} {U : Int → Option (List UInt8)} {pl : Option (Int × List UInt8)}
    (h : Dk Y Z w g vt m p dead n N ts T f U pl) : Dk Y Z ((w.setCell ⟨g, 2, none⟩ (.bool true)).setCell ⟨g, 3, none⟩ (.pointer none)) g vt m none true n N ts T f U none ∧ Turn Y w ((w.setCell ⟨g, 2, none⟩ (.bool true)).setCell ⟨g, 3, none⟩ (.pointer none)) :=
  h.cell_ true (show Pl w Y Z none none from rfl) (by have := (h.blk.set_ 2 (.bool true)).set_ 3 (.pointer none); simpa using this) (Touch.setCell (F := fun k => k = g) (p := ⟨g, 3, none⟩) (Touch.setCell (F := fun k => k = g) (p := ⟨g, 2, none⟩) (Touch.refl w _) (fun _ => rfl) _) (fun _ => rfl) _)
set_option maxRecDepth 100000 in
set_option maxHeartbeats 4000000 in
theorem crash_any (Y Z : Nat → Prop) (w : World) (g N : Nat) (dead : Bool) (T : List (List UInt8)) (U : Int → Option (List UInt8)) (pl : Option (Int × List UInt8)) (A : Option Addr) (c n : Nat) (M : List UInt8)
    (h : Disk Y Z w g N dead T U pl) (hN : N ≤ 1048576) (hT : T.length ≤ 2000) (hl : M.length = n) (hr : ∀ w', Turn Y w w' → Reads w' w'.heap.size 1 A n (bv M)) (hn : n ≤ 1048576) :
    Calls Try.prog 15 #[.pointer (some ⟨g, 0, none⟩), .slice A n c] w fun e w' => e = .returned (.tuple #[]) ∧ Disk Y Z w' g 0 true (crT M U T) (fun _ => none) none ∧ Turn Y w w' := by
  have HR := hide hr
  have HD := hide h
  have HL := hide hl
  obtain ⟨kk, hkk⟩ : ∃ kk, kk = cnt U T.length := ⟨_, rfl⟩
  have hk2 : kk ≤ 2000 := by rw [hkk]; exact Nat.le_trans (cnt_le U _) hT
  have HK := hide hkk
  have HT2 := hide hT
  clear hr h hl hkk hT
  go_enter Try.func15, Try.ntmps15
  go_wp2_with (fail)
  refine (loose_to Y Z w g N dead T U pl HD.out hN).mono ?_
  rintro e w1 ⟨A1, c1, rfl, ho, hx⟩
  rw [← HK.out] at ho ⊢
  have HO := hide ho
  have HX := hide hx
  clear ho hx
  go_wp2_with (fail)
  go_loopw [4, 5, 11] (fun _ _ s11 wr => (∃ k : Nat, k ≤ kk ∧ s11 = .int .i64 k ∧ Hid (Disk Y Z wr g N dead (crTo M U T k) U pl ∧ Turn Y w1 wr))) (fun _ _ s11 _ => (kk - intOf s11).toNat)
  case atStart => exact ⟨0, by omega, rfl, by rw [crTo_zero]; exact HD.out.ext HX.out, Turn.refl _ _⟩
  case round =>
    obtain ⟨k, hk, rfl, hs⟩ := hrel
    by_cases hlt : k < kk
    · have hki : (k : Int) < (kk : Int) := by omega
      have hk0 : (0 : Int) ≤ (k : Int) := by omega
      obtain ⟨x, hx⟩ : ∃ x, (keysTo U T.length)[k]? = some x := ⟨_, List.getElem?_eq_getElem (by rw [keysTo_len, ← HK.out]; exact hlt)⟩
      have hown := hs.out.2.own HO.out (by decide) (by decide) (by decide)
      obtain ⟨bk, cc, hA, hc1, _⟩ := hown.form (by omega)
      injection hA with hA1 hA2 hA3
      subst hA1
      have gx := own_at hown k (.int .i64 x) (by simp [iv, hx])
      have HS := hide (set_any A c n k M wr HL.out (HR.out wr ((Turn.of_ext HX.out).trans hs.out.2)) (by omega) hn)
      cases hb : bit M k with
      | true =>
        have HB := hide hb
        clear hb hown hx hc1 hA2 hA3
        go_wp2_with (go_at_call 32; refine HS.out.mono ?_; rintro e w' ⟨rfl, rfl⟩; rw [HB.out])
        go_roundw
        case rel => exact ⟨k + 1, by omega, by go_num, by rw [crTo_skip _ _ _ _ HB.out]; exact hs.out.1, hs.out.2⟩
        case measure => simp [intOf]; omega
      | false =>
        have HB := hide hb
        obtain ⟨j, b, m, c', p, Av, lv, cv, f, rfl, hj, hblk, hwas, hv, hwf, hgb, hwas2, ⟨u, hu⟩, hfz, hd, ht⟩ := crash_step hs.out.1 hx hb HT2.out
        have c0 := hblk.cell 0
        have c1' := hblk.cell 1
        simp at c0 c1'
        have hlk : ∀ nn : Nat, (Instr.lookup 62 (.map (some m)) (.int .i64 (j : Int)) false).run Try.prog (wr.drewN nn) = .ok (.slice Av lv cv) (wr.drewN nn) := fun nn => by rw [← hv]; exact (hwas.ext ((Ext.refl wr).drewN nn)).look hwf
        have hlk0 := hlk 0
        have hlk2 := ((hwas2.ext (Ext.drew (Ext.refl _))).look hwf)
        rw [hv] at hlk2
        have y0 := (hblk.far (p := ⟨b, j, none⟩) hgb (.slice Av lv cv)).drew.cell 0
        have y1 := (hblk.far (p := ⟨b, j, none⟩) hgb (.slice Av lv cv)).drew.cell 1
        simp only [List.getElem?_toArray, List.getElem?_cons_zero, List.getElem?_cons_succ] at y0 y1
        have HK2 := hide (And.intro y0 (And.intro y1 hlk2))
        have HD1 := hide hd
        have HT1 := hide ht
        have hji : (j : Int) < (T.length : Int) := by omega
        have hj0 : (0 : Int) ≤ (j : Int) := by omega
        clear hb hown hx hc1 hA2 hA3 hd ht hv hwas hblk hwas2 y0 y1 hlk2
        go_wp2_with (go_at_call 32; refine HS.out.mono ?_; rintro e w' ⟨rfl, rfl⟩; rw [HB.out])
        go_region_held3 (fun w' => w'.cell? ⟨g, 0, none⟩ = some (.slice (some ⟨b, 0, none⟩) T.length c') ∧ w'.cell? ⟨g, 1, none⟩ = some (.map (some m)) ∧ (Instr.lookup 62 (.map (some m)) (.int .i64 (j : Int)) false).run Try.prog w' = .ok (.slice Av lv cv) w') (first | exact HK2.out | exact ⟨c0, c1', hlk 1⟩) (fail)
        have hn1 := hide (show Disk Y Z (wr.setCell ⟨b, j, none⟩ (.slice Av lv cv)).drew g N dead (crTo M U T (k + 1)) U pl ∧ Turn Y w1 (wr.setCell ⟨b, j, none⟩ (.slice Av lv cv)).drew from
          ⟨HD1.out.ext (Ext.drew (Ext.refl _)), (hs.out.2.trans HT1.out).trans (Turn.of_ext (Ext.drew (Ext.refl _)))⟩)
        go_wp2
        go_roundw
        case rel => exact ⟨k + 1, by omega, by go_num, hn1.out⟩
        case measure => simp [intOf]; omega
    · obtain rfl : k = kk := by omega
      obtain ⟨h1, h2⟩ := hs.out
      rw [HK.out, crTo_all] at h1
      have HT3 := hide ((Turn.of_ext HX.out).trans h2)
      obtain ⟨vt, m, p, ts, f, hd⟩ := h1
      obtain ⟨w2, hrun, hw2, ht2⟩ := hd.was.clear_
      have hrun0 := hrun 0
      obtain ⟨hd2, tn2⟩ := hd.none_ hw2 ht2
      have c1' := hd.blk.cell 1
      simp at c1'
      have f2 := hd2.blk.frozen 2
      have f3 := hd2.blk.frozen 3
      have d2 := hd2.blk.cell 2
      have d3 := hd2.blk.cell 3
      simp at d2 d3
      have hfin := hide (hd2.dead_)
      have HT4 := hide (HT3.out.trans tn2)
      clear hd hd2 hrun hw2 ht2 tn2 h2 hs hlt
      go_wp2_with (fail)
      go_end0
      exact ⟨rfl, ⟨vt, m, none, ts, _, hfin.out.1⟩, HT4.out.trans hfin.out.2⟩
end Go.Proofs.Ytpbenpkgbhmldaa
