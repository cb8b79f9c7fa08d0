/- TileSynced: the walk. -/
import Derived.Test.YtpbenpkgbhmldaaTileLastW
namespace Go.Proofs.Ytpbenpkgbhmldaa.tileSynced
open Go.ChangeShapes Go.WideShapes Go.ChangeAt Go.RowKit Go.Maps
set_option linter.unusedVariables false

theorem crT_none (M : List UInt8) (T : List (List UInt8)) : crT M (fun _ => none) T = T := by
  apply List.ext_getElem?
  intro j
  rw [crT_get]
  by_cases h : j < T.length
  · rw [if_pos h, List.getElem?_eq_getElem h]
    simp [h]
  · rw [if_neg h, List.getElem?_eq_none (by omega)]
/-- what is there at a round's head: the disk, and the array of what was written last -/
def St (W : World) (lb i : Nat) (vs : List UInt8) (wr : World) : Prop :=
  Ext W wr ∧ W.heap.size ≤ lb ∧ vs.length = 16 ∧ Blk wr lb 44 (bv vs).toArray ∧ ∃ U N, N ≤ i ∧ Disk (Fr W) (Fr W) wr (W.heap.size + 1) N false (vs.map rep) U none
theorem St.put {W w : World} {lb i k : Nat} {vs : List UInt8} {c : UInt8} (h : St W lb i vs w) (hk : k < 16) : ∃ U N, N ≤ i ∧ Blk (w.setCell ⟨lb, k, none⟩ (.int .u8 (c.toNat : Int))) lb 44 (bv (vs.set k c)).toArray ∧ Ext W (w.setCell ⟨lb, k, none⟩ (.int .u8 (c.toNat : Int))) ∧
    Disk (Fr W) (Fr W) (w.setCell ⟨lb, k, none⟩ (.int .u8 (c.toNat : Int))) (W.heap.size + 1) N false (vs.map rep) U none := by
  obtain ⟨h1, h2, h3, h4, U, N, h5, h6⟩ := h
  refine ⟨U, N, h5, ?_, h1.set_ (p := ⟨lb, k, none⟩) h2 _, h6.set_ h4 (by decide) (by decide) (by decide) (by decide)⟩
  rw [← bv_set]
  exact h4.set_ k _
set_option maxRecDepth 100000 in
set_option maxHeartbeats 8000000 in
theorem walk_short (A B : Option Addr) (c n d m : Nat) (la M : List UInt8) (w : World) (hl : la.length = n) (hr : Reads w w.heap.size 1 A n (bv la)) (hn : (n : Int) ≤ 20) (hM : M.length = m) (hr2 : Reads w w.heap.size 1 B m (bv M)) (hm : (m : Int) ≤ 8) :
    Calls Try.prog 5 #[.slice A n c, .slice B m d] w fun e w' => e = .returned (.bool true) ∧ Ext w w' := by
  have HR := hide hr
  have HL := hide hl
  have HR2 := hide hr2
  have HM := hide hM
  clear hr hl hr2 hM
  go_enter Try.func5, Try.ntmps5
  go_wp2_with (go_at_call 10; refine (begun_any _).mono ?_; rintro e W ⟨rfl, b1⟩)
  refine (new_any 16 16 16 W (by decide) (by decide)).mono ?_
  rintro e wa ⟨rfl, ha, xa⟩
  have BW := hide b1
  have HA := hide ha
  have XA := hide xa
  clear ha xa b1
  go_wp2_with (fail)
  obtain ⟨lb, hlb⟩ : ∃ lb, lb = wa.heap.size := ⟨_, rfl⟩
  have H0 := hide (show St W lb 0 (List.replicate 16 0) (wa.alloc (.cells #[.int .u8 0, .int .u8 0, .int .u8 0, .int .u8 0, .int .u8 0, .int .u8 0, .int .u8 0, .int .u8 0, .int .u8 0, .int .u8 0, .int .u8 0, .int .u8 0, .int .u8 0, .int .u8 0, .int .u8 0, .int .u8 0] 44)) from
    ⟨XA.out.alloc _, by rw [hlb]; exact XA.out.size, rfl, by rw [hlb]; exact Blk.new wa 44 _, _, 0, Nat.le_refl _, HA.out.ext (Ext.new wa _)⟩)
  rw [← hlb]
  clear hlb HA XA
  go_loopw [7] (fun s7 wr => (∃ i : Nat, i ≤ n ∧ s7 = .int .i64 i ∧ Hid (∃ vs, St W lb i vs wr))) (fun s7 _ => (n - intOf s7).toNat)
  case atStart => exact ⟨0, by omega, rfl, _, H0.out⟩
  case round =>
    obtain ⟨i, hi, rfl, hs0⟩ := hrel
    obtain ⟨vs, hst⟩ := hs0.out
    have HS := hide hst
    clear hs0
    by_cases hlt : i < n
    · obtain ⟨bk, off, hAe, hbw, hcell⟩ := HR.out.plain (by omega) (by omega)
      subst hAe
      obtain ⟨z, hz⟩ : ∃ z, la[i]? = some z := ⟨_, List.getElem?_eq_getElem (by rw [HL.out]; exact hlt)⟩
      obtain ⟨x, hx⟩ : ∃ x : Nat, x = z.toNat := ⟨_, rfl⟩
      have hx1 : (x : Int) < 256 := by rw [hx]; have := z.toNat_lt; omega
      have hg := hcell i (.int .u8 (z.toNat : Int)) (by simp [bv, hz])
      rw [← hx] at hg
      have GX := hide (fun (wx : World) (hxx : Ext W wx) => ((BW.out.trans hxx).cell (p := ⟨bk, off + i, none⟩) hbw).trans hg)
      have gx := GX.out _ hst.1
      obtain ⟨k, hk⟩ : ∃ k : Nat, x % 16 = k := ⟨_, rfl⟩
      have ek : (x : Int) % 16 = (k : Int) := by omega
      have hk1 : (k : Int) < 16 := by omega
      have hk0 : (0 : Int) ≤ (k : Int) := by omega
      have HK := hide (show k < 16 by omega)
      obtain ⟨cc, ecc⟩ : ∃ cc : UInt8, ((i + 1 : Nat) : Int) = (cc.toNat : Int) := ⟨UInt8.ofNat (i + 1), by simp; omega⟩
      have ecc2 : (i : Int) + 1 = (cc.toNat : Int) := by omega
      have hcc : ((cc.toNat : Nat) : Int) < 256 := by have := cc.toNat_lt; omega
      obtain ⟨u, yk⟩ : ∃ u, wr.cell? ⟨lb, k, none⟩ = some u := ⟨_, (hst.2.2.2.1.cell k).trans (Array.getElem?_eq_getElem (by simp [bv]; have := hst.2.2.1; omega))⟩
      have fk := hst.2.2.2.1.frozen k
      obtain ⟨U, N, hN, p1, p2, p3⟩ := HS.out.put (c := cc) (HK.out)
      have HB1 := hide p1
      have HX1 := hide p2
      have HD1 := hide p3
      have HV := hide hst.2.2.1
      have HLB := hide hst.2.1
      have EC := hide ecc2
      clear hcell hz hst hk p1 p2 p3 hg hx ecc
      go_wp2_with (fail)
      obtain ⟨w2, hw2⟩ : ∃ w2, w2 = wr.setCell ⟨lb, k, none⟩ (.int .u8 (cc.toNat : Int)) := ⟨_, rfl⟩
      rw [← hw2] at HB1 HX1 HD1 ⊢
      clear hw2 yk fk gx
      have hw1 : IntKind.i64.wrap (cc.toNat : Int) = (cc.toNat : Int) := IntWalk.i64_in _ (by omega)
      have hw2 : IntKind.u8.wrap (cc.toNat : Int) = (cc.toNat : Int) := by have := cc.toNat_lt; simp [IntKind.wrap, IntKind.bits, IntKind.signed]; omega
      have hw3 : (x : Int).tmod 16 = (k : Int) := by rw [IntWalk.rem_in _ _ (by omega)]; exact ek
      have hw4 : IntKind.i64.wrap (k : Int) = (k : Int) := IntWalk.i64_in _ (by omega)
      have Y0 := hide (GX.out w2.drew (HX1.out.drew))
      go_region_held3 (fun w' => w'.cell? ⟨bk, off + i, none⟩ = some (.int .u8 (x : Int))) (first | with_reducible exact Y4.out | with_reducible exact Y3.out | with_reducible exact Y0.out)
        (first
          | (go_at_call 13; refine (full_reads cc _).mono ?_; rintro e w3 ⟨b3, rfl, r3, _, x3⟩; have R3 := hide r3; have X3' := hide (Ext.trans (Ext.drew (Ext.refl w2)) x3); have B3 := hide (X3'.out.blk HB1.out); have X3 := hide (HX1.out.trans X3'.out); have D3 := hide (HD1.out.ext X3'.out); have Y3 := hide (GX.out w3 X3.out); clear r3 x3)
          | (go_at_call 12; refine (write_none (Fr W) (Fr W) w3 _ N _ U k (rep cc) _ 64 D3.out (by rw [List.length_map, HV.out]; exact HK.out) (by rw [List.length_map, HV.out]; omega) (by omega) (le_fr X3.out) (rep_len _) (fun h => by cases h) (R3.out _)).mono ?_; rintro e w4 ⟨rfl, h4, t4⟩; have H4 := hide (show St W lb (i + 1) (vs.set k cc) w4 from ⟨t4.ext X3.out (fun _ _ h => h), HLB.out, by rw [List.length_set]; exact HV.out, t4.blk B3.out (by decide) (by decide) (by decide), _, N + 1, by omega, by rw [List.map_set]; exact h4⟩); have Y4 := hide (GX.out w4 H4.out.1); clear h4 t4))
      clear hw1 hw2 hw3 hw4
      go_wp2_with (fail)
      go_roundw
      case rel => exact ⟨i + 1, by omega, by have := EC.out; go_num, _, H4.out⟩
      case measure => simp [intOf]; have := EC.out; omega
    · obtain ⟨q1, q2, q3, q4, U4, N4, q5, q6⟩ := HS.out
      have D0 := hide q6
      have X0 := hide q1
      have B0 := hide q4
      have HV := hide q3
      have HLN := hide (show (vs.map rep).length = 16 by rw [List.length_map]; exact q3)
      clear q1 q2 q3 q4 q6 hst
      go_wp2_with (fail)
      refine (sync_none (Fr W) (Fr W) wr _ N4 _ U4 D0.out (by rw [HLN.out]; omega) (by omega)).mono ?_
      rintro e w1 ⟨rfl, h1, t1⟩
      have D1 := hide h1
      have T1 := hide t1
      have HRM := hide (show ∀ w', Turn (Fr W) w1 w' → Reads w' w'.heap.size 1 B m (bv M) from fun w' ht => by
        have hx := BW.out.trans (ht.ext (T1.out.ext X0.out (fun _ _ h => h)) (fun _ _ h => h))
        exact hx.read HR2.out)
      clear h1 t1
      go_wp2_with (fail)
      refine (crash_any (Fr W) (Fr W) w1 _ 0 false _ _ none B d m M D1.out (by omega) (by rw [HLN.out]; omega) HM.out HRM.out (by omega)).mono ?_
      rw [crT_none]
      rintro e w2 ⟨rfl, h2, t2⟩
      have D2 := hide h2
      have T2 := hide (T1.out.trans t2)
      clear h2 t2
      go_wp2_with (fail)
      refine (read_dead (Fr W) (Fr W) w2 _ _ _ _ _ 0 D2.out).mono ?_
      rintro e w' ⟨rfl, rfl⟩
      go_wp2_with (first
        | (go_at_call 19; refine (dead_any (Fr W) (Fr W) w2 _ 0 true _ _ none D2.out).mono ?_; rintro e w' ⟨rfl, rfl⟩)
        | (go_at_call 14; refine (sync_dead (Fr W) (Fr W) w2 _ 0 _ _ none D2.out).mono ?_; rintro e w' ⟨rfl, rfl⟩)
        | (go_at_call 13; refine (full_any 1 w2 (by decide)).mono ?_; rintro e w3 ⟨b3, rfl, _, _, x3⟩; have D3 := hide (D2.out.ext x3); have T3 := hide (T2.out.trans (Turn.of_ext x3)); clear x3)
        | (go_at_call 12; refine (write_dead (Fr W) (Fr W) w3 _ 0 _ _ none 0 _ 64 64 D3.out).mono ?_; rintro e w' ⟨rfl, rfl⟩)
        | (go_at_call 16; refine (power_any (Fr W) (Fr W) w3 _ 0 true _ _ none D3.out).mono ?_; rintro e w4 ⟨rfl, h4, t4⟩; have D4 := hide h4; have T4 := hide (T3.out.trans t4); clear h4 t4))
      have B4 := hide (T4.out.blk B0.out (by decide) (by decide) (by decide))
      have X4 := hide (T4.out.ext X0.out (fun _ _ h => h))
      go_loopw [10, 11, 12] (fun s10 _ _ wr => (∃ j : Nat, j ≤ 16 ∧ s10 = .int .i64 j ∧ Hid (Ext w4 wr))) (fun s10 _ _ _ => (16 - intOf s10).toNat)
      case atStart => exact ⟨0, by omega, rfl, Ext.refl _⟩
      case round =>
        obtain ⟨j, hj, rfl, hx⟩ := hrel
        by_cases hltj : j < 16
        · have hj8 : (j : Int) < 16 := by omega
          have hj0 : (0 : Int) ≤ (j : Int) := by omega
          obtain ⟨d, hd⟩ : ∃ d, vs[j]? = some d := ⟨_, List.getElem?_eq_getElem (by rw [HV.out]; exact hltj)⟩
          have Hd := hide hd
          obtain ⟨S, hS⟩ : ∃ S, S = str (rep d) := ⟨_, rfl⟩
          have HS2 := hide hS
          clear hd hS
          go_wp2_with (fail)
          refine (read_in (Fr W) (Fr W) wr _ 0 _ _ none j (rep d) (D4.out.ext hx.out) (by rw [List.getElem?_map, Hd.out]; rfl)).mono ?_
          rintro e w6 ⟨A6, c6, rfl, _, o6, x6⟩
          have E6 := hide o6
          have X6 := hide (hx.out.trans x6)
          have B6 := hide (X6.out.blk B4.out)
          have y0 := (B6.out.drew).cell j
          rw [bv_at Hd.out] at y0
          have s0 := conv_own (Ext.own (Ext.drew (Ext.refl w6)) o6)
          rw [← HS2.out] at s0
          have hdl : ((d.toNat : Nat) : Int) < 256 := by have := d.toNat_lt; omega
          clear o6 x6
          go_wp2_with (fail)
          go_cut [103] (fun s wx => s = .bool false ∧ Ext w6 wx)
          case first =>
            go_region_with ((go_at_call 13; refine (full_reads d _).mono ?_; rintro e w7 ⟨b7, rfl, r7, s7, x7⟩; rw [← HS2.out] at s7; have X7 := hide (Ext.trans (Ext.drew (Ext.refl w6)) x7); have s6 := conv_own (Ext.own X7.out E6.out); rw [← HS2.out] at s6; clear r7 x7))
            all_goals
              go_wp2_with (fail)
              go_meet
              case rel => exact ⟨by simp, X7.out⟩
          case rest =>
            obtain ⟨rfl, hx7⟩ := hcut
            have X7 := hide (X6.out.trans hx7)
            clear hx7 y0 s0
            go_wp2_with (fail)
            go_roundw
            case rel => exact ⟨j + 1, by omega, by go_num, X7.out⟩
            case measure => simp [intOf]; omega
        · obtain rfl : j = 16 := by omega
          have D6 := hide (D4.out.ext hx.out)
          have X6 := hide (X4.out.trans hx.out)
          clear hltj hx
          go_wp2_with (go_at_call 19; refine (dead_any (Fr W) (Fr W) _ _ 0 false _ _ none D6.out).mono ?_; rintro e w' ⟨rfl, rfl⟩)
          go_ret
          exact ⟨rfl, BW.out.trans X6.out⟩
end Go.Proofs.Ytpbenpkgbhmldaa.tileSynced
