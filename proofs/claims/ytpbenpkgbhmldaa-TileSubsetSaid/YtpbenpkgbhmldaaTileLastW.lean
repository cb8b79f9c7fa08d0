/- TileLast: the walk. -/
import Derived.Test.YtpbenpkgbhmldaaTileY
import Derived.Deep.Cut
import Derived.Deep.DeepCutAuto
import Derived.Deep.CutBlock
namespace Go.Proofs.Ytpbenpkgbhmldaa
open Go.ChangeShapes Go.WideShapes Go.ChangeAt Go.RowKit Go.Maps
set_option linter.unusedVariables false
theorem le_fr {W w : World} (h : Ext W w) : ∀ k, w.heap.size ≤ k → Fr W k := fun k hk => Nat.le_trans h.size hk
theorem bv_set (vs : List UInt8) (k : Nat) (c : UInt8) : (bv vs).toArray.setIfInBounds k (.int .u8 (c.toNat : Int)) = (bv (vs.set k c)).toArray := by
  rw [List.setIfInBounds_toArray]
  unfold bv
  rw [List.map_set]
theorem bv_at {vs : List UInt8} {k : Nat} {c : UInt8} (h : vs[k]? = some c) : (bv vs).toArray[k]? = some (.int .u8 (c.toNat : Int)) := by
  rw [List.getElem?_toArray]
  unfold bv
  rw [List.getElem?_map, h]
  rfl
/-- 'full(c)', read while a disk turns -/
theorem full_reads (c : UInt8) (w : World) : Calls Try.prog 13 #[.int .u8 (c.toNat : Int)] w fun e w' => ∃ b, e = .returned (.slice (some ⟨b, 0, none⟩) 64 64) ∧ (∀ Y w'', Turn Y w' w'' → Reads w'' w''.heap.size 1 (some ⟨b, 0, none⟩) 64 (bv (rep c))) ∧ (convert 22 9 (.slice (some ⟨b, 0, none⟩) 64 64)).run Try.prog w' = .ok (.string (str (rep c))) w' ∧ Ext w w' := by
  refine (full_any c.toNat w c.toNat_lt).mono ?_
  rintro e w' ⟨b, he, hb, _, hx⟩
  have e1 : UInt8.ofNat c.toNat = c := by simp
  refine ⟨b, he, fun Y => ?_, ?_, hx⟩
  · have := reads_turn (Y := Y) hb (arr_full c.toNat c.toNat_lt) (arr_size _)
    rw [e1] at this
    exact this
  · have := conv_full hb c.toNat_lt
    rw [e1] at this
    exact this
end Go.Proofs.Ytpbenpkgbhmldaa
namespace Go.Proofs.Ytpbenpkgbhmldaa.tileLast
open Go.ChangeShapes Go.WideShapes Go.ChangeAt Go.RowKit Go.Maps
set_option linter.unusedVariables false

/-- what is there at a round's head: the disk, and the array of what was written last -/
def St (W : World) (lb i : Nat) (vs : List UInt8) (wr : World) : Prop :=
  Ext W wr ∧ W.heap.size ≤ lb ∧ vs.length = 8 ∧ Blk wr lb 40 (bv vs).toArray ∧ ∃ U N, N ≤ i ∧ Disk (Fr W) (Fr W) wr (W.heap.size + 1) N false (vs.map rep) U none
theorem St.ext {W w w' : World} {lb i : Nat} {vs : List UInt8} (h : St W lb i vs w) (hx : Ext w w') : St W lb i vs w' := by
  obtain ⟨h1, h2, h3, h4, U, N, h5, h6⟩ := h
  exact ⟨h1.trans hx, h2, h3, hx.blk h4, U, N, h5, h6.ext hx⟩
theorem St.more {W w : World} {lb i j : Nat} {vs : List UInt8} (h : St W lb i vs w) (hj : i ≤ j) : St W lb j vs w := by
  obtain ⟨h1, h2, h3, h4, U, N, h5, h6⟩ := h
  exact ⟨h1, h2, h3, h4, U, N, by omega, h6⟩
/-- the array is written, then the disk -/
theorem St.put {W w : World} {lb i k : Nat} {vs : List UInt8} {c : UInt8} (h : St W lb i vs w) (hk : k < 8) : ∃ U N, N ≤ i ∧ Blk (w.setCell ⟨lb, k, none⟩ (.int .u8 (c.toNat : Int))) lb 40 (bv (vs.set k c)).toArray ∧ Ext W (w.setCell ⟨lb, k, none⟩ (.int .u8 (c.toNat : Int))) ∧
    Disk (Fr W) (Fr W) (w.setCell ⟨lb, k, none⟩ (.int .u8 (c.toNat : Int))) (W.heap.size + 1) N false (vs.map rep) U none := by
  obtain ⟨h1, h2, h3, h4, U, N, h5, h6⟩ := h
  refine ⟨U, N, h5, ?_, h1.set_ (p := ⟨lb, k, none⟩) h2 _, h6.set_ h4 (by decide) (by decide) (by decide) (by decide)⟩
  rw [← bv_set]
  exact h4.set_ k _
set_option maxRecDepth 100000 in
set_option maxHeartbeats 8000000 in
theorem walk_short (A : Option Addr) (c n : Nat) (zs : List Int) (sy : Nat) (w : World) (hr : Reads w w.heap.size 1 A n (zs.map (Value.int .u16))) (hl : zs.length = n) (hz : ∀ z ∈ zs, 0 ≤ z ∧ z ≤ 65535) (hn : (n : Int) ≤ 20) (hs : sy < 4294967296) :
    Calls Try.prog 4 #[.slice A n c, .int .u32 sy] w fun e w' => e = .returned (.bool true) ∧ Ext w w' := by
  have HR := hide hr
  have HL := hide hl
  have HZ := hide hz
  clear hr hl hz
  go_enter Try.func4, Try.ntmps4
  go_wp2_with (go_at_call 10; refine (begun_any _).mono ?_; rintro e W ⟨rfl, b1⟩)
  refine (new_any 8 8 8 W (by decide) (by decide)).mono ?_
  rintro e wa ⟨rfl, ha, xa⟩
  have BW := hide b1
  have HA := hide ha
  have XA := hide xa
  clear ha xa b1
  go_wp2_with (fail)
  obtain ⟨lb, hlb⟩ : ∃ lb, lb = wa.heap.size := ⟨_, rfl⟩
  have H0 := hide (show St W lb 0 (List.replicate 8 0) (wa.alloc (.cells #[.int .u8 0, .int .u8 0, .int .u8 0, .int .u8 0, .int .u8 0, .int .u8 0, .int .u8 0, .int .u8 0] 40)) from
    ⟨XA.out.alloc _, by rw [hlb]; exact XA.out.size, rfl, by rw [hlb]; exact Blk.new wa 40 _, _, 0, Nat.le_refl _, HA.out.ext (Ext.new wa _)⟩)
  rw [← hlb]
  clear hlb HA XA
  go_loopw [7, 8, 9, 10, 11] (fun s7 _ _ _ _ wr => (∃ i : Nat, i ≤ n ∧ s7 = .int .i64 i ∧ Hid (∃ vs, St W lb i vs wr))) (fun s7 _ _ _ _ _ => (n - intOf s7).toNat)
  case atStart => exact ⟨0, by omega, rfl, _, H0.out⟩
  case round =>
    obtain ⟨i, hi, rfl, hs0⟩ := hrel
    obtain ⟨vs, hst⟩ := hs0.out
    have HS := hide hst
    clear hs0
    by_cases hlt : i < n
    · obtain ⟨bk, off, hAe, hbw, hcell⟩ := HR.out.plain (by omega) (by omega)
      subst hAe
      obtain ⟨z, hz⟩ : ∃ z, zs[i]? = some z := ⟨_, List.getElem?_eq_getElem (by rw [HL.out]; exact hlt)⟩
      have hz2 := HZ.out z (List.mem_of_getElem? hz)
      obtain ⟨x, rfl⟩ : ∃ x : Nat, z = (x : Int) := ⟨z.toNat, by omega⟩
      have gx := ((BW.out.trans hst.1).cell (p := ⟨bk, off + i, none⟩) hbw).trans (hcell i (.int .u16 (x : Int)) (by simp [hz]))
      have hx1 : (x : Int) ≤ 65535 := hz2.2
      obtain ⟨k, hk⟩ : ∃ k : Nat, x % 8 = k := ⟨_, rfl⟩
      have ek : (x : Int) % 8 = (k : Int) := by omega
      have hk1 : (k : Int) < 8 := by omega
      have hk0 : (0 : Int) ≤ (k : Int) := by omega
      have HK := hide (show k < 8 by omega)
      obtain ⟨cc, ecc⟩ : ∃ cc : UInt8, (x : Int) / 256 = (cc.toNat : Int) := ⟨UInt8.ofNat (x / 256), by simp; omega⟩
      have hcc : ((cc.toNat : Nat) : Int) < 256 := by have := cc.toNat_lt; omega
      have yk : ∃ u, wr.cell? ⟨lb, k, none⟩ = some u := ⟨_, (hst.2.2.2.1.cell k).trans (Array.getElem?_eq_getElem (by simp [bv]; have := hst.2.2.1; omega))⟩
      obtain ⟨u, yk⟩ := yk
      have fk := hst.2.2.2.1.frozen k
      obtain ⟨U, N, hN, p1, p2, p3⟩ := HS.out.put (c := cc) (HK.out)
      have HB1 := hide p1
      have HX1 := hide p2
      have HD1 := hide p3
      have HV := hide hst.2.2.1
      have HLB := hide hst.2.1
      have zk := (p1.cell k)
      have hv8 : vs.length = 8 := hst.2.2.1
      rw [bv_at (show (vs.set k cc)[k]? = some cc by rw [List.getElem?_set, if_pos rfl, if_pos (by have := HK.out; omega)])] at zk
      clear hcell hz hz2 hst hk p1 p2 p3 hv8
      go_wp2_with (fail)
      refine (full_reads cc _).mono ?_
      rintro e w3 ⟨b3, rfl, r3, _, x3⟩
      have R3 := hide r3
      have B3 := hide (x3.blk HB1.out)
      have X3 := hide (HX1.out.trans x3)
      have D3 := hide (HD1.out.ext x3)
      clear r3 x3 HB1 HX1 HD1 zk yk fk
      go_wp2_with (fail)
      refine (write_none (Fr W) (Fr W) w3 _ N _ U k (rep cc) _ 64 D3.out (by rw [List.length_map, HV.out]; exact HK.out) (by rw [List.length_map, HV.out]; omega) (by omega) (le_fr X3.out) (rep_len _) (fun h => by cases h) (R3.out _)).mono ?_
      rintro e w4 ⟨rfl, h4, t4⟩
      have H4 := hide (show St W lb (i + 1) (vs.set k cc) w4 from ⟨t4.ext X3.out (fun _ _ h => h), HLB.out, by rw [List.length_set]; exact HV.out, t4.blk B3.out (by decide) (by decide) (by decide), _, N + 1, by omega, by rw [List.map_set]; exact h4⟩)
      clear h4 t4 D3 X3 B3 R3
      go_upto_region 14 with (fail)
      go_cut [61] (fun s wx => s = .bool false ∧ St W lb (i + 1) (vs.set k cc) wx)
      case first =>
        obtain ⟨q1, q2, q3, q4, U4, N4, q5, q6⟩ := H4.out
        have Q := hide q6
        have HLN := hide (show ((vs.set k cc).map rep).length = 8 by rw [List.length_map]; exact q3)
        have HX := hide q1
        clear q1 q2 q3 q4 q6
        go_wp2_with (first
          | (go_at_call 14; refine (sync_none (Fr W) (Fr W) w4 _ N4 _ U4 Q.out (by rw [HLN.out]; omega) (by omega)).mono ?_; rintro e w5 ⟨rfl, h5, t5⟩; have H5 := hide h5; have T5 := hide t5; clear h5 t5)
          | (go_at_call 18; refine (loose_to (Fr W) (Fr W) w5 _ 0 false _ _ none H5.out (by omega)).mono ?_; rw [show cnt (fun _ => none) ((vs.set k cc).map rep).length = 0 by rw [HLN.out]; rfl]; rintro e w6 ⟨A6, c6, rfl, _, x6⟩))
        · go_meet
          case rel => exact ⟨by simp, (show St W lb (i + 1) (vs.set k cc) w5 from ⟨T5.out.ext HX.out (fun _ _ h => h), HLB.out, by rw [List.length_set]; exact HV.out, T5.out.blk H4.out.2.2.2.1 (by decide) (by decide) (by decide), _, 0, by omega, H5.out⟩).ext x6⟩
        · go_meet
          case rel => exact ⟨by simp, H4.out⟩
      case rest =>
        obtain ⟨rfl, h5⟩ := hcut
        have H5 := hide h5
        obtain ⟨q1, q2, q3, q4, U4, N4, q5, q6⟩ := h5
        have D5 := hide q6
        have B5 := hide q4
        have HLN := hide q3
        clear q1 q3 q4 q6
        go_wp2_with (fail)
        go_loopw [9, 10, 11] (fun s9 _ _ wr => (∃ j : Nat, j ≤ 8 ∧ s9 = .int .i64 j ∧ Hid (Ext wc wr))) (fun s9 _ _ _ => (8 - intOf s9).toNat)
        case atStart => exact ⟨0, by omega, rfl, Ext.refl _⟩
        case round =>
          obtain ⟨j, hj, rfl, hx⟩ := hrel
          by_cases hltj : j < 8
          · have hj8 : (j : Int) < 8 := by omega
            have hj0 : (0 : Int) ≤ (j : Int) := by omega
            obtain ⟨d, hd⟩ : ∃ d, (vs.set k cc)[j]? = some d := ⟨_, List.getElem?_eq_getElem (by rw [HLN.out]; exact hltj)⟩
            have Hd := hide hd
            obtain ⟨S, hS⟩ : ∃ S, S = str (rep d) := ⟨_, rfl⟩
            have HS2 := hide hS
            clear hd hS
            go_wp2_with (fail)
            refine (read_in (Fr W) (Fr W) wr _ N4 _ U4 none j (rep d) (D5.out.ext hx.out) (by rw [List.getElem?_map, Hd.out]; rfl)).mono ?_
            rintro e w6 ⟨A6, c6, rfl, _, o6, x6⟩
            have E6 := hide o6
            have X6 := hide (hx.out.trans x6)
            have B6 := hide (X6.out.blk B5.out)
            have y0 := (B6.out.drew).cell j
            rw [bv_at Hd.out] at y0
            have s0 := conv_own (Ext.own (Ext.drew (Ext.refl w6)) o6)
            rw [← HS2.out] at s0
            have hdl : ((d.toNat : Nat) : Int) < 256 := by have := d.toNat_lt; omega
            clear o6 x6
            go_wp2_with (fail)
            go_cut [83] (fun s wx => s = .bool false ∧ Ext w6 wx)
            case first =>
              go_region_with ((go_at_call 13; refine (full_reads d _).mono ?_; rintro e w7 ⟨b7, rfl, r7, s7, x7⟩; rw [← HS2.out] at s7; have X7 := hide (Ext.trans (Ext.drew (Ext.refl w6)) x7); have s6 := conv_own (Ext.own X7.out E6.out); rw [← HS2.out] at s6; clear r7 x7))
              all_goals
                go_wp2_with (fail)
                go_meet
                case rel => exact ⟨by simp, X7.out⟩
            case rest =>
              obtain ⟨rfl, hx7⟩ := hcut
              have X7 := hide (X6.out.trans hx7)
              clear hx7 y0 s0
              go_wp2_with (fail)
              go_roundw
              case rel => exact ⟨j + 1, by omega, by go_num, X7.out⟩
              case measure => simp [intOf]; omega
          · obtain rfl : j = 8 := by omega
            have H6 := hide (H5.out.ext hx.out)
            clear hltj hx
            go_wp2_with (fail)
            go_roundw
            case rel => exact ⟨i + 1, by omega, by go_num, _, H6.out⟩
            case measure => simp [intOf]; omega
    · have X := hide HS.out.1
      clear hst
      go_wp2
      go_ret
      exact ⟨rfl, BW.out.trans X.out⟩
end Go.Proofs.Ytpbenpkgbhmldaa.tileLast
