/- ModelOne: the walk. -/
import Derived.Test.YtjjilaanlhpogaaModelOneP
import Derived.Test.YtjjilaanlhpogaaModelSeekW
namespace Go.Proofs.Ytjjilaanlhpogaa.modelOne
open Go.ChangeShapes Go.WideShapes Go.ChangeAt Go.RowKit Go.Maps Go.MapKept Go.Sort
open Go.Proofs.Ytjjilaanlhpogaa.modelSeek (rcs_at field0 wrap_small)
set_option linter.unusedVariables false

/-- the values, as cells -/
def sv1 (u : Nat) : ByteArray := if u = 0 then ⟨#[]⟩ else lt 48 (u - 1)
def vcl (l : List Nat) : Array Value := (l.map fun (u : Nat) => Value.string (sv1 u)).toArray
theorem vcl_at {l : List Nat} {k u : Nat} (h : l[k]? = some u) : (vcl l)[k]? = some (.string (sv1 u)) := by
  unfold vcl
  rw [List.getElem?_toArray, List.getElem?_map, h]
  rfl
theorem vcl_set (l : List Nat) (k u : Nat) : (vcl l).setIfInBounds k (.string (sv1 u)) = vcl (l.set k u) := by
  unfold vcl
  rw [List.setIfInBounds_toArray, List.map_set]
/-- what is there at a round's head -/
def St (W : World) (g m lb i : Nat) (l : List Nat) (wr : World) : Prop :=
  W.heap.size ≤ lb ∧ l.length = 8 ∧ Blk wr lb 44 (vcl l) ∧ ∃ f, Md W wr g m i f ∧ Tab 8 f (valO l)
theorem may_scan (j : Nat) : mayS 6 ⟨lt 97 j, ⟨#[]⟩, ⟨#[]⟩⟩ = true := by rfl
theorem rz_scan (j : Nat) : Rz ⟨lt 97 j, ⟨#[]⟩, ⟨#[]⟩⟩ := by
  unfold Rz
  rw [lt_size]
  unfold maxLen
  simp [ByteArray.size]
set_option maxRecDepth 100000 in
set_option maxHeartbeats 8000000 in
theorem walk_short (A : Option Addr) (c n : Nat) (zs : List Int) (w : World) (hr : Reads w w.heap.size 1 A n (zs.map (Value.int .u16))) (hl : zs.length = n) (hz : ∀ z ∈ zs, 0 ≤ z ∧ z ≤ 65535) (hn : (n : Int) ≤ 40) :
    Calls Try.prog 4 #[.slice A n c] w fun e w' => e = .returned (.bool true) ∧ Ext w w' := by
  have HR := hide hr
  have HL := hide hl
  have HZ := hide hz
  clear hr hl hz
  go_enter Try.func4, Try.ntmps4
  go_wp2_with (go_at_call 7; refine (begun_any _).mono ?_; rintro e W ⟨rfl, b1⟩)
  refine (new_any W).mono ?_
  rintro e wa ⟨rfl, ha⟩
  have BW := hide b1
  have HA := hide ha
  clear ha b1
  go_wp2_with (fail)
  obtain ⟨lb, hlb⟩ : ∃ lb, lb = wa.heap.size := ⟨_, rfl⟩
  have H0 := hide (show St W (W.heap.size + 1) W.heap.size lb 0 (List.replicate 8 0) (wa.alloc (.cells #[.string ⟨#[]⟩, .string ⟨#[]⟩, .string ⟨#[]⟩, .string ⟨#[]⟩, .string ⟨#[]⟩, .string ⟨#[]⟩, .string ⟨#[]⟩, .string ⟨#[]⟩] 44)) from
    ⟨by rw [hlb]; exact HA.out.ext.size, rfl, by rw [hlb]; exact Blk.new wa 44 _, _, HA.out.ex (Ext.new wa _), by rw [valO_none]; exact Tab.none 8⟩)
  rw [← hlb]
  clear hlb HA
  go_loopw [5, 6, 7, 8, 9, 10, 11] (fun s5 _ _ _ _ _ _ wr => (∃ i : Nat, i ≤ n ∧ s5 = .int .i64 i ∧ Hid (∃ l, St W (W.heap.size + 1) W.heap.size lb i l wr))) (fun s5 _ _ _ _ _ _ _ => (n - intOf s5).toNat)
  case atStart => exact ⟨0, by omega, rfl, _, H0.out⟩
  case round =>
    obtain ⟨i, hi, rfl, hs0⟩ := hrel
    obtain ⟨l, hst⟩ := hs0.out
    have HS := hide hst
    clear hs0
    by_cases hlt : i < n
    · obtain ⟨bk, off, hAe, hbw, hcell⟩ := HR.out.plain (by omega) (by omega)
      subst hAe
      obtain ⟨z, hz⟩ : ∃ z, zs[i]? = some z := ⟨_, List.getElem?_eq_getElem (by rw [HL.out]; exact hlt)⟩
      have hz2 := HZ.out z (List.mem_of_getElem? hz)
      obtain ⟨x, rfl⟩ : ∃ x : Nat, z = (x : Int) := ⟨z.toNat, by omega⟩
      obtain ⟨f, hmd, htab⟩ := hst.2.2.2
      have gx := ((BW.out.trans hmd.ext).cell (p := ⟨bk, off + i, none⟩) hbw).trans (hcell i (.int .u16 (x : Int)) (by simp [hz]))
      have hx1 : (x : Int) ≤ 65535 := hz2.2
      obtain ⟨k, hk⟩ : ∃ k : Nat, x % 8 = k := ⟨_, rfl⟩
      have ek : (x : Int) % 8 = (k : Int) := by omega
      have hk1 : (k : Int) < 8 := by omega
      have hk0 : (0 : Int) ≤ (k : Int) := by omega
      obtain ⟨m, hm⟩ : ∃ m : Nat, x / 8 % 3 = m := ⟨_, rfl⟩
      have em : (x : Int) / 8 % 3 = (m : Int) := by omega
      have hm0 : (0 : Int) ≤ (m : Int) := by omega
      have hm1 : (m : Int) < 3 := by omega
      have HK := hide (show k < 8 by omega)
      obtain ⟨u, hu⟩ : ∃ u, l[k]? = some u := ⟨_, List.getElem?_eq_getElem (by have := hst.2.1; omega)⟩
      have HU := hide hu
      have HMD := hide hmd
      have HT := hide htab
      have HB := hide hst.2.2.1
      have hbk : bk < wr.heap.size := Nat.lt_of_lt_of_le hbw (BW.out.trans hmd.ext).size
      clear hcell hz hz2 hst hk hm hu hmd htab
      have c0 := conv_lt (a := 97) (k := k) (Blk.new wr 5 #[.int .u8 (97 + (k : Int))]) (by omega) (by omega)
      have c1 := conv_lt (a := 48) (k := i) (Blk.new (wr.alloc (.cells #[.int .u8 (97 + (k : Int))] 5)) 5 #[.int .u8 (48 + (i : Int))]) (by omega) (by omega)
      simp at c0 c1
      obtain ⟨w2, hw2⟩ : ∃ w2, w2 = (((wr.alloc (.cells #[.int .u8 (97 + (k : Int))] 5)).alloc (.cells #[.int .u8 (48 + (i : Int))] 5)).alloc (.cells #[.string (lt 97 k), .string ⟨#[115]⟩, .string (lt 48 i)] 31)) := ⟨_, rfl⟩
      have bR := hide (show Blk w2 (wr.heap.size + 1 + 1) 31 #[.string (lt 97 k), .string ⟨#[115]⟩, .string (lt 48 i)] by
        rw [hw2]; have := Blk.new ((wr.alloc (.cells #[.int .u8 (97 + (k : Int))] 5)).alloc (.cells #[.int .u8 (48 + (i : Int))] 5)) 31 #[.string (lt 97 k), .string ⟨#[115]⟩, .string (lt 48 i)]
        simpa using this)
      have E2 := hide (show Ext wr w2 by rw [hw2]; exact (((Ext.refl wr).alloc _).alloc _).alloc _)
      have g2 := ((E2.out.trans (Ext.new w2 (.cells #[.int .i64 3, .int .i64 4, .int .i64 5] 3))).cell (p := ⟨bk, off + i, none⟩) hbk).trans gx
      go_upto_region 12 with (fail)
      rw [← hw2]
      clear c0 c1 hw2 gx
      obtain ⟨kd, hkd⟩ : ∃ kd : Int, kd = 3 + (m : Int) := ⟨_, rfl⟩
      have HKD := hide hkd
      clear hkd
      go_cut [8] (fun s wx => s = .int .i64 kd ∧ Ext w2 wx)
      case first =>
        have hmm : m = 0 ∨ m = 1 ∨ m = 2 := by omega
        have HX := hide (Ext.new w2 (.cells #[.int .i64 3, .int .i64 4, .int .i64 5] 3))
        rcases hmm with rfl | rfl | rfl
        all_goals
          push_cast at em
          go_wp2_with (fail)
          go_meet
          case rel => exact ⟨by rw [HKD.out]; rfl, HX.out⟩
      case rest =>
        obtain ⟨rfl, hx⟩ := hcut
        have HX := hide hx
        have BR := hide (hx.blk bR.out)
        have q0 := BR.out.cell 0
        have q1 := BR.out.cell 1
        have q2 := BR.out.cell 2
        simp at q0 q1 q2
        clear g2 em hx
        have hkk := hide (show kd = 3 ∨ kd = 4 ∨ kd = 5 by rw [HKD.out]; omega)
        go_wp2_with (fail)
        refine (do_one W wc _ _ i k i u kd f l hkk.out ((HMD.out.ex E2.out).ex HX.out) (by omega) HT.out HK.out HU.out).mono ?_
        rintro e w3 ⟨rfl, ⟨f', hm3, ht3⟩, b3⟩
        obtain ⟨wt, hwt⟩ : ∃ wt, wt = wantO kd u := ⟨_, rfl⟩
        obtain ⟨nx, hnx⟩ : ∃ nx, nx = nextO kd u i := ⟨_, rfl⟩
        rw [← hnx] at ht3
        rw [← hwt]
        have X4 := Ext.new w3 (.cells #[.int .i64 wt, .slice none 0 0] 37)
        have HM4 := hide (hm3.ex X4)
        have HT4 := hide ht3
        have B4 := hide (X4.blk (b3 _ _ _ (HX.out.blk (E2.out.blk HB.out)) (by decide)))
        have R4 := hide (X4.blk (b3 _ _ _ BR.out (by decide)))
        have yk := B4.out.cell k
        rw [vcl_at HU.out] at yk
        have fk := B4.out.frozen k
        have r2 := R4.out.cell 2
        simp at r2
        have HWT := hide hwt
        have HNX := hide hnx
        clear hm3 ht3 b3 hwt hnx X4 q0 q1 q2
        have B9 := hide (Blk.new w3 37 #[.int .i64 wt, .slice none 0 0])
        obtain ⟨w5, hw5⟩ : ∃ w5, w5 = w3.alloc (.cells #[.int .i64 wt, .slice none 0 0] 37) := ⟨_, rfl⟩
        obtain ⟨b9, hb9⟩ : ∃ b9, b9 = w3.heap.size := ⟨_, rfl⟩
        rw [← hw5] at HM4 B4 R4 yk fk r2 B9
        rw [← hb9] at B9
        have z0 := B9.out.cell 0
        simp at z0
        have HKL := hide (show k < l.length by have := HK.out; have := HS.out.2.1; omega)
        have F0 := hide (show nx = u → St W (W.heap.size + 1) W.heap.size lb (i + 1) l w5 from fun e => ⟨HS.out.1, HS.out.2.1, B4.out, f', HM4.out, by have := HT4.out; rw [e, valO_same HU.out] at this; exact this⟩)
        have F1 := hide (show nx = i + 1 → St W (W.heap.size + 1) W.heap.size lb (i + 1) (l.set k (i + 1)) (w5.setCell ⟨lb, k, none⟩ (.string (lt 48 i))) from fun e =>
          ⟨HS.out.1, by rw [List.length_set]; exact HS.out.2.1, by rw [← vcl_set]; exact B4.out.set_ k _, f', HM4.out.set_ B4.out (by decide) HS.out.1, by have := HT4.out; rw [e] at this; exact this⟩)
        have F2 := hide (show nx = 0 → St W (W.heap.size + 1) W.heap.size lb (i + 1) (l.set k 0) ((w5.setCell ⟨lb, k, none⟩ (.string (lt 48 i))).setCell ⟨lb, k, none⟩ (.string ⟨#[]⟩)) from fun e =>
          ⟨HS.out.1, by rw [List.length_set]; exact HS.out.2.1, by
            have h := (B4.out.set_ k (.string (lt 48 i))).set_ k (.string ⟨#[]⟩)
            rw [show (Value.string (lt 48 i)) = .string (sv1 (i + 1)) from rfl, vcl_set, show (Value.string ⟨#[]⟩) = .string (sv1 0) from rfl, vcl_set, List.set_set] at h
            exact h, f', (HM4.out.set_ B4.out (by decide) HS.out.1).set_ (B4.out.set_ k _) (by decide) HS.out.1, by have := HT4.out; rw [e] at this; exact this⟩)
        go_upto_region 14 with (fail)
        rw [← hw5, ← hb9]
        clear hw5 hb9 HM4 HT4 B9 BR B4
        rcases hkk.out with rfl | rfl | rfl
        all_goals
          have hw' := HWT.out
          have hn' := HNX.out
          rcases u with _ | u
          all_goals
            simp [wantO] at hw'
            simp [nextO] at hn'
            subst hw'
            have HN' := hide hn'
            simp only [sv1, Nat.add_one_ne_zero, if_true, if_false, Nat.add_sub_cancel] at yk
            try have d2 : (lt 48 u).toList.isEmpty = false := by rw [tl_e]; rfl
            clear hn'
            go_wp2_with (fail)
            go_roundw
            case rel => first | exact ⟨i + 1, by omega, by go_num, _, F0.out (by rw [HN'.out])⟩ | exact ⟨i + 1, by omega, by go_num, _, F1.out HN'.out⟩ | exact ⟨i + 1, by omega, by go_num, _, F2.out HN'.out⟩
            case measure => simp [intOf]; omega
    · obtain ⟨f, hmd, htab⟩ := hst.2.2.2
      have HMD := hide hmd
      have HT := hide htab
      have HB := hide hst.2.2.1
      have HLN := hide hst.2.1
      clear hst hmd htab
      go_wp2_with (fail)
      obtain ⟨wc, hwc⟩ : ∃ wc, wc = wr := ⟨_, rfl⟩
      subst hwc
      go_loopw [12, 13, 14, 15] (fun s10 _ _ _ wr => (∃ j : Nat, j ≤ 8 ∧ s10 = .int .i64 j ∧ Hid (Ext wc wr))) (fun s10 _ _ _ _ => (8 - intOf s10).toNat)
      case atStart => exact ⟨0, by omega, rfl, Ext.refl _⟩
      case round =>
        obtain ⟨j, hj, rfl, hx⟩ := hrel
        by_cases hltj : j < 8
        · have hj3 : (j : Int) < 8 := by omega
          have hj0 : (0 : Int) ≤ (j : Int) := by omega
          have c0 := conv_lt (a := 97) (k := j) (Blk.new wr 5 #[.int .u8 (97 + (j : Int))]) (by omega) (by omega)
          go_wp2_with (fail)
          refine (do_scan W (wr.alloc (.cells #[.int .u8 (97 + (j : Int))] 5)) _ _ i f 0 0 ⟨lt 97 j, ⟨#[]⟩, ⟨#[]⟩⟩ none 0 0 ((HMD.out.ex hx.out).ex (Ext.new wr _)) (by omega) (rz_scan j) (may_scan j)).mono ?_
          rintro e w5 ⟨L, hK, _, A5, c5, rfl, ho, hx5⟩
          obtain ⟨R, hR⟩ : ∃ R, R = (rowsL f L).filter fun q => geK q ⟨lt 97 j, ⟨#[]⟩, ⟨#[]⟩⟩ := ⟨_, rfl⟩
          rw [← hR] at ho ⊢
          have HRS := hide (show R = (List.range 8).filterMap (gO l j) from hR.trans (HT.out.such (by decide) hK _))
          have hRl : R.length ≤ 8 := by rw [HRS.out]; exact cn_le _ 8
          have HO := hide ho
          have X6 := hide (((hx.out.trans (Ext.new wr (.cells #[.int .u8 (97 + (j : Int))] 5))).trans hx5).trans (Ext.new w5 (.cells #[.int .i64 0, .slice A5 R.length c5] 37)))
          have B11 := hide (Blk.new w5 37 #[.int .i64 0, .slice A5 R.length c5])
          have O6 := hide ((Ext.new w5 (.cells #[.int .i64 0, .slice A5 R.length c5] 37)).own ho)
          clear hR hK ho hx5 c0
          go_wp2_with (fail)
          obtain ⟨w6, hw6⟩ : ∃ w6, w6 = w5.alloc (.cells #[.int .i64 0, .slice A5 R.length c5] 37) := ⟨_, rfl⟩
          obtain ⟨b11, hb11⟩ : ∃ b11, b11 = w5.heap.size := ⟨_, rfl⟩
          rw [← hw6] at X6 B11 O6 ⊢
          rw [← hb11] at B11 ⊢
          clear hw6 hb11
          have HBL := hide (X6.out.blk HB.out)
          have hown := O6.out
          go_loopw [14, 15] (fun s12 s13 wr => (∃ k : Nat, j ≤ k ∧ k ≤ 8 ∧ s12 = .int .i64 (cn (gO l j) k : Nat) ∧ s13 = .int .i64 k ∧ Hid (Ext w6 wr))) (fun _ s13 _ => (8 - intOf s13).toNat)
          case atStart => exact ⟨j, by omega, by omega, by rw [cn_zero (fun k hk => gO_low hltj hk)]; rfl, rfl, Ext.refl _⟩
          case round =>
            obtain ⟨k, hjk, hk, rfl, rfl, hx⟩ := hrel
            obtain ⟨q, hq⟩ : ∃ q, q = cn (gO l j) k := ⟨_, rfl⟩
            rw [← hq]
            have HQ := hide hq
            have hqk : q ≤ 8 := by have := cn_le (gO l j) k; omega
            clear hq
            have z1 := (hx.out.blk B11.out).cell 1
            have z0 := (hx.out.blk B11.out).cell 0
            simp at z0 z1
            by_cases hlt : k < 8
            · have hk16 : (k : Int) < 8 := by omega
              have hk0 : (0 : Int) ≤ (k : Int) := by omega
              obtain ⟨u, hu⟩ : ∃ u, l[k]? = some u := ⟨_, List.getElem?_eq_getElem (by rw [HLN.out]; exact hlt)⟩
              have HU := hide hu
              have yk := (hx.out.blk HBL.out).cell k
              rw [vcl_at hu] at yk
              clear hu
              rcases u with _ | u
              case succ =>
                simp only [sv1, Nat.add_one_ne_zero, if_false, Nat.add_sub_cancel] at yk
                have d1 : (lt 48 u).toList.isEmpty = false := by rw [tl_e]; rfl
                have hat : R[q]? = some (rwO k u) := by rw [HRS.out, HQ.out]; exact cn_at (gO_yes HU.out hjk hlt) hlt
                have hql : q < R.length := (List.getElem?_eq_some_iff.1 hat).1
                have HN := hide (cn_some (gO_yes HU.out hjk hlt))
                obtain ⟨bA, cA, hvA, _, hlA⟩ := hown.form (by omega)
                injection hvA with hvA hvL hvc
                subst hvA hvc
                clear hvL
                have hcA := hown.cells (g := bA) rfl (q * 3) _ (rcs_at hat).1
                have ea : (⟨bA, 0, none⟩ : Addr).add (q * 3) = ⟨bA, q * 3, none⟩ := by unfold Addr.add; split <;> simp_all
                rw [ea] at hcA
                have yA := (hx.out.cell (p := ⟨bA, q * 3, none⟩) hlA).trans hcA
                have hcV := hown.cells (g := bA) rfl (q * 3 + 2) _ (rcs_at hat).2
                have eV : (⟨bA, 0, none⟩ : Addr).add (q * 3 + 2) = ⟨bA, q * 3 + 2, none⟩ := by unfold Addr.add; split <;> simp_all
                rw [eV] at hcV
                have yV := (hx.out.cell (p := ⟨bA, q * 3 + 2, none⟩) hlA).trans hcV
                clear hcV eV
                simp only [rwO] at yA yV
                have d2 : decide (R.length ≤ q) = false := decide_eq_false (by omega)
                have d3 : decide ((R.length : Int) ≤ (q : Int)) = false := decide_eq_false (by omega)
                have hq0 : (0 : Int) ≤ (q : Int) := by omega
                have hqL : (q : Int) < (R.length : Int) := by omega
                have hw : IntKind.u8.wrap (IntKind.i64.wrap (97 + (k : Int))) = ((97 + k : Nat) : Int) := by
                  have e : (97 + (k : Int)) = ((97 + k : Nat) : Int) := by omega
                  rw [e]
                  exact Go.Proofs.Ytjjilaanlhpogaa.modelSeek.wrap_small (x := 97 + k) (by omega)
                have c1 := conv_lt (a := 97) (k := k) ((Blk.new wr 5 #[.int .u8 (IntKind.u8.wrap (IntKind.i64.wrap (97 + (k : Int))))]).drew) hw (by omega)
                clear hw
                have HX := hide hx.out
                clear hat hcA ea
                go_wp2_with (fail)
                go_cut [140] (fun s wx => s = .bool false ∧ Ext wr wx)
                case first =>
                  have HS2 := hide (show ∀ w', Ext wr w' → w'.cell? ⟨b11, 1, none⟩ = some (.slice (some ⟨bA, 0, none⟩) R.length c5) ∧ w'.cell? ⟨bA, q * 3, none⟩ = some (.string (lt 97 k)) ∧ w'.cell? ⟨bA, q * 3 + 2, none⟩ = some (.string (lt 48 u)) ∧ w'.cell? ⟨lb, k, none⟩ = some (.string (lt 48 u)) from fun w' e =>
                    ⟨((HX.out.trans e).blk B11.out).cell 1, (e.cell (p := ⟨bA, q * 3, none⟩) (Nat.lt_of_lt_of_le hlA HX.out.size)).trans yA, (e.cell (p := ⟨bA, q * 3 + 2, none⟩) (Nat.lt_of_lt_of_le hlA HX.out.size)).trans yV, (((HX.out.trans e).blk HBL.out).cell k).trans (vcl_at HU.out)⟩)
                  clear z0 z1 yA yV yk hlA
                  go_region_held (fun w' => w'.cell? ⟨b11, 1, none⟩ = some (.slice (some ⟨bA, 0, none⟩) R.length c5) ∧ w'.cell? ⟨bA, q * 3, none⟩ = some (.string (lt 97 k)) ∧ w'.cell? ⟨bA, q * 3 + 2, none⟩ = some (.string (lt 48 u)) ∧ w'.cell? ⟨lb, k, none⟩ = some (.string (lt 48 u))) (exact HS2.out _ (by repeat (first | exact Ext.refl _ | apply Ext.drew | apply Ext.alloc | apply Ext.set_))) (first | fail)
                  all_goals
                    go_wp2_with (fail)
                    go_meet
                    case rel => exact ⟨by simp, ((Ext.refl wr).drew).alloc _⟩
                case rest =>
                  obtain ⟨rfl, hx7⟩ := hcut
                  have X7 := hide (HX.out.trans hx7)
                  clear hx7 c1 yA yV
                  go_wp2_with (fail)
                  go_roundw
                  case rel => exact ⟨k + 1, by omega, by omega, by rw [HN.out, ← HQ.out]; go_num, by go_num, X7.out⟩
                  case measure => simp [intOf]; omega
              case zero =>
                simp only [sv1, if_true] at yk
                have HN := hide (cn_none (gO_no (j := j) HU.out))
                go_wp2_with (fail)
                go_roundw
                case rel => exact ⟨k + 1, by omega, by omega, by rw [HN.out, ← HQ.out], by go_num, hx⟩
                case measure => simp [intOf]; omega
            · obtain rfl : k = 8 := by omega
              have hq : q = R.length := by rw [HQ.out, HRS.out]; rfl
              subst hq
              clear hlt
              go_wp2_with (fail)
              go_roundw
              case rel => exact ⟨j + 1, by omega, by go_num, X6.out.trans hx.out⟩
              case measure => simp [intOf]; omega
        · have X := hide (HMD.out.ext.trans hx.out)
          clear hx
          go_wp2
          go_ret
          exact ⟨rfl, BW.out.trans X.out⟩
end Go.Proofs.Ytjjilaanlhpogaa.modelOne
