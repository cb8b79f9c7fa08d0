/- Tile: contract: Write. -/
import Derived.Test.YtpbenpkgbhmldaaTileX
import Derived.Deep.Cut
import Derived.Deep.DeepCutAuto
import Derived.Deep.CutBlock
namespace Go.Proofs.Ytpbenpkgbhmldaa
open Go.ChangeShapes Go.WideShapes Go.ChangeAt Go.RowKit Go.Maps
set_option linter.unusedVariables false

theorem wrU_loose {T : List (List UInt8)} {U : Int → Option (List UInt8)} {k : Nat} (h : (U (k : Int)).isSome = true) : wrU T U k = U := by
  funext x
  unfold wrU
  by_cases e : x = (k : Int)
  · subst e
    rw [if_pos rfl]
    obtain ⟨u, hu⟩ := Option.isSome_iff_exists.1 h
    rw [hu]
  · rw [if_neg e]
/-- a tile that was not loose is kept as it was -/
theorem Dk.keep_ {Y Z : Nat → Prop} {w w' : World} {g m n N k : Nat} {vt t : Value} {p : Option Addr} {dead : Bool} {ts : List Value} {T : List (List UInt8)} {f : Int → Option Value} {U : Int → Option (List UInt8)} {pl : Option (Int × List UInt8)} {l : List UInt8}
    (h : Dk Y Z w g vt m p dead n N ts T f U pl) (hU : U (k : Int) = none) (h1 : ts[k]? = some t) (h2 : T[k]? = some l) (hw : WasAt w' m (N + 1) (putW f (k : Int) (some t))) (ht : Touch w w' (fun k => k = m)) :
    Dk Y Z w' g vt m p dead n (N + 1) ts T (putW f (k : Int) (some t)) (wrU T U k) pl ∧ Turn Y w w' := by
  have hkn : k < n := by rw [← h.len]; exact (List.getElem?_eq_some_iff.1 h2).1
  refine h.was_ hw ht (fun x => ?_) (fun x v hx => ?_) (fun x hx => ?_)
  · unfold putW wrU
    by_cases e : x = (k : Int)
    · rw [if_pos e, if_pos e, e, hU]; simp [h2]
    · rw [if_neg e, if_neg e]; exact h.iff x
  · unfold putW at hx
    unfold wrU
    by_cases e : x = (k : Int)
    · rw [if_pos e] at hx ⊢
      injection hx with hx
      subst hx
      rw [e, hU]
      exact ⟨l, h2, h.tl k t l h1 h2⟩
    · rw [if_neg e] at hx ⊢
      exact h.wtl x v hx
  · unfold wrU at hx
    by_cases e : x = (k : Int)
    · rw [e]; omega
    · rw [if_neg e] at hx; exact h.key x hx
/-- what a write leaves -/
def Wrote (Y Z : Nat → Prop) (w : World) (g N : Nat) (T : List (List UInt8)) (U : Int → Option (List UInt8)) (pl : Option (Int × List UInt8)) (k : Nat) (bs : List UInt8) (e : Ending) (w' : World) : Prop :=
  Turn Y w w' ∧ ((e = .returned (.int .i64 0) ∧ (∀ M, pl ≠ some (0, M)) ∧ Disk Y Z w' g (N + 1) false (T.set k bs) (wrU T U k) (dec pl)) ∨
    (e = .returned (.int .i64 2) ∧ ∃ M, pl = some (0, M) ∧ Disk Y Z w' g 0 true (crT M (wrU T U k) (T.set k bs)) (fun _ => none) none))
/-- a plan whose number may count -/
def Pok : Option (Int × List UInt8) → Prop
  | none => True
  | some (a, M) => 0 ≤ a ∧ a ≤ 9223372036854775807 ∧ M.length ≤ 1048576
theorem write_out (Y Z : Nat → Prop) (w : World) (g N : Nat) (T : List (List UInt8)) (U : Int → Option (List UInt8)) (pl : Option (Int × List UInt8)) (x : Int) (A : Option Addr) (n c : Nat) (h : Disk Y Z w g N false T U pl) (hk : x < 0 ∨ (T.length : Int) ≤ x) :
    Calls Try.prog 12 #[.pointer (some ⟨g, 0, none⟩), .int .i64 x, .slice A n c] w fun e w' => e = .returned (.int .i64 1) ∧ w = w' := by
  have HD := hide h
  have HK := hide hk
  clear h hk
  go_enter Try.func12, Try.ntmps12
  go_wp2_with (go_at_call 29; refine (may_out Y Z w g N T U pl x HD.out HK.out).mono ?_; rintro e w' ⟨rfl, rfl⟩)
  go_ret
  exact ⟨rfl, rfl⟩
theorem write_dead (Y Z : Nat → Prop) (w : World) (g N : Nat) (T : List (List UInt8)) (U : Int → Option (List UInt8)) (pl : Option (Int × List UInt8)) (x : Int) (A : Option Addr) (n c : Nat) (h : Disk Y Z w g N true T U pl) :
    Calls Try.prog 12 #[.pointer (some ⟨g, 0, none⟩), .int .i64 x, .slice A n c] w fun e w' => e = .returned (.int .i64 2) ∧ w = w' := by
  have HD := hide h
  clear h
  go_enter Try.func12, Try.ntmps12
  go_wp2_with (go_at_call 29; refine (may_dead Y Z w g N T U pl x HD.out).mono ?_; rintro e w' ⟨rfl, rfl⟩)
  go_ret
  exact ⟨rfl, rfl⟩
theorem write_nil (x : Int) (w : World) (A : Option Addr) (n c : Nat) : Calls Try.prog 12 #[.pointer none, .int .i64 x, .slice A n c] w fun e w' => e = .returned (.int .i64 1) ∧ w = w' := by
  go_enter Try.func12, Try.ntmps12
  go_wp2_with (go_at_call 29; refine (may_nil x w).mono ?_; rintro e w' ⟨rfl, rfl⟩)
  go_ret
  exact ⟨rfl, rfl⟩
theorem write_len (Y Z : Nat → Prop) (w : World) (g N : Nat) (T : List (List UInt8)) (U : Int → Option (List UInt8)) (pl : Option (Int × List UInt8)) (k : Nat) (A : Option Addr) (n c : Nat) (h : Disk Y Z w g N false T U pl) (hk : k < T.length) (hn : ((n : Int) != 64) = true) :
    Calls Try.prog 12 #[.pointer (some ⟨g, 0, none⟩), .int .i64 k, .slice A n c] w fun e w' => e = .returned (.int .i64 1) ∧ w = w' := by
  have HD := hide h
  have HK := hide hk
  clear h hk
  go_enter Try.func12, Try.ntmps12
  go_wp2_with (go_at_call 29; refine (may_in Y Z w g N T U pl k HD.out HK.out).mono ?_; rintro e w' ⟨rfl, rfl⟩)
  go_ret
  exact ⟨rfl, rfl⟩
theorem Disk.grow {Y Z : Nat → Prop} {w : World} {g N N' : Nat} {dead : Bool} {T : List (List UInt8)} {U : Int → Option (List UInt8)} {pl : Option (Int × List UInt8)} (h : Disk Y Z w g N dead T U pl) (hN : N ≤ N') : Disk Y Z w g N' dead T U pl := by
  obtain ⟨vt, m, p, ts, f, h⟩ := h
  exact ⟨vt, m, p, ts, f, { h with was := by obtain ⟨D, h, r⟩ := h.was; exact ⟨D, h.mono hN, r⟩ }⟩
/-- the new bytes lie in the tile -/
theorem written {Y Z : Nat → Prop} {w wc w6 : World} {g m N k b cv : Nat} {A6 : Option Addr} {c6 : Nat} {wx : World} {p : Option Addr} {dead : Bool} {ts : List Value} {T : List (List UInt8)} {f : Int → Option Value} {U : Int → Option (List UInt8)} {pl : Option (Int × List UInt8)} {bs : List UInt8}
    (h : Dk Y Z wc g (.slice (some ⟨b, 0, none⟩) T.length cv) m p dead T.length N ts T f U pl) (he : Ext wc w6) (ho : w6.ownsRow wx.heap.size 5 1 (.slice A6 64 c6) 64 (bv bs)) (hl : bs.length = 64) (ht : Turn Y w wc) (hZ : ∀ k, wx.heap.size ≤ k → Z k) :
    Disk Y Z (w6.setCell ⟨b, k, none⟩ (.slice A6 64 c6)) g N dead (T.set k bs) U pl ∧ Turn Y w (w6.setCell ⟨b, k, none⟩ (.slice A6 64 c6)) := by
  have h6 := h.ext he
  have hv : Tl w6 Z (.slice A6 64 c6) bs := ⟨by rw [hl]; exact World.ownsRow.mono ho (Nat.zero_le _), fun k hk => hZ k (ho.lt k hk).1⟩
  have hr := h6.tile_ (x := k) hv hl
  refine ⟨⟨.slice (some ⟨b, 0, none⟩) T.length cv, m, p, ts.set k (.slice A6 64 c6), f, ?_⟩, ht.trans ((Turn.of_ext he).trans hr.2)⟩
  rw [List.length_set]
  exact hr.1
/-- a plan's mask in memory -/
theorem Disk.mask {Y Z : Nat → Prop} {w : World} {g N : Nat} {dead : Bool} {T : List (List UInt8)} {U : Int → Option (List UInt8)} {a : Int} {M : List UInt8} (h : Disk Y Z w g N dead T U (some (a, M))) :
    ∃ (pb : Nat) (Am : Option Addr) (nm cm : Nat) (cs : Nat), w.cell? ⟨g, 3, none⟩ = some (.pointer (some ⟨pb, 0, none⟩)) ∧ w.cell? ⟨pb, 1, none⟩ = some (.slice Am nm cm) ∧ M.length = nm ∧ ∀ w', Turn Y w w' → Reads w' w'.heap.size 1 Am nm (bv M) := by
  obtain ⟨vt, m, p, ts, f, h⟩ := h
  obtain ⟨pb, v, rfl, hy, hb, hu⟩ := h.pln
  obtain ⟨Am, cm, rfl, _, _, _⟩ := hu.form
  have y3 := h.blk.cell 3
  have y1 := hb.cell 1
  simp at y3 y1
  refine ⟨pb, Am, M.length, cm, 0, y3, y1, rfl, fun w' ht => ?_⟩
  obtain ⟨A', c', e, _, _, hr⟩ := (ht.tl hu).form
  injection e with e1 e2 e3
  subst e1
  exact hr
set_option maxRecDepth 100000 in
set_option maxHeartbeats 8000000 in
theorem write_in (Y Z : Nat → Prop) (w : World) (g N : Nat) (T : List (List UInt8)) (U : Int → Option (List UInt8)) (pl : Option (Int × List UInt8)) (k : Nat) (bs : List UInt8) (A : Option Addr) (c : Nat) (h : Disk Y Z w g N false T U pl) (hk : k < T.length) (hT : T.length ≤ 2000) (hN : N ≤ 1000000)
    (hp : Pok pl) (hZ : ∀ k, w.heap.size ≤ k → Z k) (hl : bs.length = 64) (hA : A = none → c = 0) (hr : ∀ w', Turn Y w w' → Reads w' w'.heap.size 1 A 64 (bv bs)) :
    Calls Try.prog 12 #[.pointer (some ⟨g, 0, none⟩), .int .i64 k, .slice A 64 c] w (Wrote Y Z w g N T U pl k bs) := by
  have HD := hide h
  have HR := hide hr
  have HL := hide hl
  have HP := hide hp
  have HZ := hide hZ
  have HKT := hide hk
  have HT2 := hide hT
  have HA := hide hA
  obtain ⟨vt, m, p, ts, f, h⟩ := h
  obtain ⟨b, cv, t, l, hvt, e1, e2, hc, ht, h64⟩ := h.at_ hk
  subst hvt
  obtain ⟨At, ct, htv, _⟩ := ht.form
  rw [h64] at htv
  subst htv
  have HK := hide h
  have c0 := h.blk.cell 0
  have c1 := h.blk.cell 1
  simp at c0 c1
  have hwf : Wf (k : Int) := wf_big (by omega) (by omega)
  have hki : (k : Int) < (T.length : Int) := by omega
  have hk0 : (0 : Int) ≤ (k : Int) := by omega
  have HE1 := hide e1
  have HE2 := hide e2
  have hlk := h.was.look_ok hwf
  rw [h.iff] at hlk
  have HI := hide (h.iff (k : Int))
  obtain ⟨lo, hlo⟩ : ∃ lo, lo = (U (k : Int)).isSome := ⟨_, rfl⟩
  rw [← hlo] at hlk
  have HLO := hide hlo
  have HW := hide h.was
  clear h hr hl hp hZ hk e1 e2 ht hT hA hlo h64
  go_enter Try.func12, Try.ntmps12
  go_upto_if 29 with (go_at_call 29; refine (may_in Y Z w g N T U pl k HD.out HKT.out).mono ?_; rintro e w' ⟨rfl, rfl⟩)
  go_cut [] (fun wx => Disk Y Z wx g (N + 1) false T (wrU T U k) pl ∧ Turn Y w wx)
  case first =>
    cases lo with
    | true =>
      have hn := hide (show Disk Y Z w g (N + 1) false T (wrU T U k) pl by rw [wrU_loose HLO.out.symm]; exact HD.out.grow (Nat.le_succ N))
      go_wp2_with (fail)
      go_meet
      case rel => exact ⟨hn.out, Turn.refl _ _⟩
    | false =>
      have HU := hide (show U (k : Int) = none by have := HLO.out; cases hU : U (k : Int) with | none => rfl | some u => rw [hU] at this; cases this)
      go_wp2_with (fail)
      go_still_tail 12, (by kernel_rfl)
      change wpList _ _ _ _ _ w.drew
      have HW1 := hide (HW.out.ext (Ext.drew (Ext.refl w)))
      go_wp2_with (at_mapUpdate; refine WasAt.store rfl _ _ _ rfl rfl HW1.out (by unfold maxLen; omega) (k : Int) (.slice At 64 ct) rfl rfl hwf ?_; intro w5 ho5 ht5; have HO5 := hide ho5; have HT5 := hide ht5; clear ho5 ht5)
      have hn := hide (show Disk Y Z w5 g (N + 1) false T (wrU T U k) pl ∧ Turn Y w w5 from by
        have h1 := (HK.out.ext (Ext.drew (Ext.refl w))).keep_ HU.out HE1.out HE2.out HO5.out HT5.out
        exact ⟨⟨_, m, p, ts, _, h1.1⟩, (Turn.of_ext (Ext.drew (Ext.refl w))).trans h1.2⟩)
      go_wp2_with (fail)
      go_meet
      case rel => exact hn.out
  case rest =>
    obtain ⟨h1, h2⟩ := hcut
    have HD1 := hide h1
    have HT1 := hide h2
    clear h1 h2 c0 c1 hc HK HE1 HE2 hlk HI
    obtain ⟨vt, m1, p1, ts1, f1, h⟩ := HD1.out
    obtain ⟨b1, cv1, t1, l1, hvt, e1, e2, hc, ht, h64⟩ := h.at_ HKT.out
    subst hvt
    have c0 := h.blk.cell 0
    simp at c0
    have HK := hide h
    have HE1 := hide e1
    clear h e1 e2 ht h64 hc
    go_wp2_with (fail)
    go_region_with ((go_at_call 30; refine (clone_any A c 64 bs _ HL.out HA.out (HR.out _ (HT1.out.trans (Turn.of_ext (Ext.drew (Ext.refl _))))) (by omega)).mono ?_; rintro e w6 ⟨A6, c6, rfl, ho, he⟩; have E6 := hide (show Ext wc w6 from Ext.trans (Ext.drew (Ext.refl wc)) he); have z1 := own_at (E6.out.own HK.out.own) k _ HE1.out; have zf := (E6.out.own HK.out.own).frozenAt k; have z0 := (E6.out.blk HK.out.blk).cell 0; simp at z0; have hz6 : ∀ k, wc.drew.heap.size ≤ k → Z k := fun k hk => HZ.out k (Nat.le_trans HT1.out.size (Nat.le_trans (Ext.size (Ext.drew (Ext.refl wc))) hk)); have HN6 := hide (written (k := k) HK.out E6.out ho HL.out HT1.out hz6); clear hz6; clear ho he))
    all_goals
      rcases pl with _ | ⟨a, M⟩
      · go_wp2_with (go_at_call 31; refine (cut_none Y Z _ g (N + 1) false _ _ HN6.out.1).mono ?_; rintro e w7 ⟨rfl, rfl⟩)
        go_ret
        exact ⟨HN6.out.2, .inl ⟨rfl, fun M => by simp, HN6.out.1⟩⟩
      · by_cases ha : a = 0
        · subst ha
          go_wp2_with (fail)
          refine (cut_yes Y Z _ g (N + 1) false _ _ M HN6.out.1).mono ?_
          rintro e w7 ⟨rfl, h7, t7⟩
          obtain ⟨pb, Am, nm, cm, cs, y3, y1, hM⟩ := h7.mask
          have H7 := hide h7
          have T7 := hide (HN6.out.2.trans t7)
          have HM7 := hide hM
          clear h7 t7 hM
          go_wp2_with (go_at_call 15; refine (crash_any Y Z w7 g (N + 1) false _ _ _ Am cm nm M H7.out (by omega) (by rw [List.length_set]; exact HT2.out) HM7.out.1 HM7.out.2 (by rw [← HM7.out.1]; exact HP.out.2.2)).mono ?_; rintro e w8 ⟨rfl, h8, t8⟩)
          go_ret
          exact ⟨T7.out.trans t8, .inr ⟨rfl, M, rfl, h8⟩⟩
        · have ha2 := HP.out
          go_wp2_with (fail)
          refine (cut_no Y Z _ g (N + 1) false _ _ a M HN6.out.1 (by have := HP.out.1; omega) HP.out.2.1).mono ?_
          rintro e w7 ⟨rfl, h7, t7⟩
          clear ha2
          go_wp2_with (fail)
          go_ret
          exact ⟨HN6.out.2.trans t7, .inl ⟨rfl, fun M' e => by injection e with e; injection e with e1 e2; exact ha e1, h7⟩⟩
end Go.Proofs.Ytpbenpkgbhmldaa
