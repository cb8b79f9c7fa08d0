/- ModelSeek: the walk. -/
import Derived.Test.YtjjilaanlhpogaaModelP
import Derived.Deep.Cut
import Derived.Deep.DeepCutAuto
import Derived.Deep.CutBlock
namespace Go.Proofs.Ytjjilaanlhpogaa.modelSeek
open Go.ChangeShapes Go.WideShapes Go.ChangeAt Go.RowKit Go.Maps Go.MapKept Go.Sort
set_option linter.unusedVariables false

/-- the numbers, as cells -/
def ncl (l : List Nat) : Array Value := (l.map fun (x : Nat) => Value.int .i64 (x : Int)).toArray
theorem ncl_at {l : List Nat} {k x : Nat} (h : l[k]? = some x) : (ncl l)[k]? = some (.int .i64 (x : Int)) := by
  unfold ncl
  rw [List.getElem?_toArray, List.getElem?_map, h]
  rfl
theorem ncl_set (l : List Nat) (k x : Nat) : (ncl l).setIfInBounds k (.int .i64 (x : Int)) = ncl (l.set k x) := by
  unfold ncl
  rw [List.setIfInBounds_toArray, List.map_set]
/-- the row that stands at a key -/
def rw1 (k s : Nat) : Rw := ⟨lt 97 k, lt 120 s, .empty⟩
def valS (l : List Nat) (k : Nat) : Option Rw := if l.getD k 0 = 0 then none else some (rw1 k (l.getD k 0 - 1))
theorem valS_set {l : List Nat} {k s : Nat} (hk : k < l.length) : (fun j => if j = k then some (rw1 k s) else valS l j) = valS (l.set k (s + 1)) := by
  funext j
  unfold valS
  by_cases e : j = k
  · subst e
    simp [List.getD_eq_getElem?_getD, hk]
  · rw [if_neg e]
    simp only [List.getD_eq_getElem?_getD]
    rw [List.getElem?_set_ne (fun h => e h.symm)]
theorem valS_none : valS (List.replicate 16 0) = fun _ => none := by
  funext j
  unfold valS
  rw [List.getD_eq_getElem?_getD, List.getElem?_replicate]
  split <;> rfl
/-- what is there at a round's head -/
def St (W : World) (g m lb i : Nat) (l : List Nat) (wr : World) : Prop :=
  W.heap.size ≤ lb ∧ l.length = 16 ∧ (∀ x ∈ l, x ≤ 3) ∧ Blk wr lb 48 (ncl l) ∧ ∃ f, Md W wr g m i f ∧ Tab 16 f (valS l)
theorem rz1 (k s : Nat) : Rz (rw1 k s) := by
  unfold Rz rw1
  rw [lt_size, lt_size]
  unfold maxLen
  simp [ByteArray.size_empty]
theorem may_put (k s : Nat) : mayS 3 (rw1 k s) = true := by rfl
theorem may_upd (k s : Nat) : mayS 4 (rw1 k s) = true := by rfl
theorem do_set (W w : World) (g m N k s u : Nat) (kd : Int) (f : ByteArray → Option Rw) (hkd : kd = if u = 0 then 3 else 4) (h : Md W w g m N f) (hN : N ≤ 1000) (hu : f (lt 97 k) = if u = 0 then none else some (rw1 k (u - 1))) :
    Calls Try.prog 10 #[.pointer (some ⟨g, 0, none⟩), stv kd 0 0 (rw1 k s) none 0 0] w (Done W g m (N + 1) (putR f (lt 97 k) (some (rw1 k s))) w) := by
  subst hkd
  by_cases e : u = 0
  · rw [if_pos e] at hu ⊢
    exact do_put W w g m N f 0 0 (rw1 k s) none 0 0 h hN (rz1 k s) (may_put k s) hu
  · rw [if_neg e] at hu ⊢
    exact do_upd W w g m N f 0 0 (rw1 k s) none 0 0 h hN (rz1 k s) (may_upd k s) _ hu
theorem wrap_small {x : Nat} (h : x < 128) : IntKind.u8.wrap (IntKind.i64.wrap (x : Int)) = (x : Int) := by
  simp [IntKind.wrap, IntKind.signed, IntKind.bits]
  omega
/-- the rows that a seek finds -/
def gS (l : List Nat) (j k : Nat) : Option Rw := (valS l k).filter fun q => eqS q ⟨⟨#[]⟩, lt 120 j, ⟨#[]⟩⟩
theorem gS_yes {l : List Nat} {j k : Nat} (h : l[k]? = some (j + 1)) : gS l j k = some (rw1 k j) := by
  unfold gS valS
  rw [List.getD_eq_getElem?_getD, h]
  simp [eqS, rw1]
theorem gS_no {l : List Nat} {j k u : Nat} (h : l[k]? = some u) (hu : u ≤ 3) (hj : j < 3) (hne : u ≠ j + 1) : gS l j k = none := by
  unfold gS valS
  rw [List.getD_eq_getElem?_getD, h]
  by_cases e : u = 0
  · subst e; simp
  · have : ¬ (lt 120 (u - 1) = lt 120 j) := fun h => by have := lt_inj (by omega) (by omega) h; omega
    simp [eqS, rw1, e, this]
theorem may_seek (j : Nat) : mayS 7 ⟨⟨#[]⟩, lt 120 j, ⟨#[]⟩⟩ = true := by rfl
theorem rz_seek (j : Nat) : Rz ⟨⟨#[]⟩, lt 120 j, ⟨#[]⟩⟩ := by
  unfold Rz
  rw [lt_size]
  unfold maxLen
  simp [ByteArray.size]
theorem rcs_at {R : List Rw} {q : Nat} {r : Rw} (h : R[q]? = some r) : (rcs R)[q * 3]? = some (.string r.k) ∧ (rcs R)[q * 3 + 2]? = some (.string r.v) := by
  obtain ⟨hq, e⟩ := List.getElem?_eq_some_iff.1 h
  have e1 : R = R.take q ++ (r :: R.drop (q + 1)) := by
    rw [← e, List.getElem_cons_drop, List.take_append_drop]
  have e2 : rcs R = rcs (R.take q) ++ (rc r ++ rcs (R.drop (q + 1))) := by
    conv => lhs; rw [e1]
    simp [rcs]
  have hl : (rcs (R.take q)).length = q * 3 := by rw [rcs_len, List.length_take]; omega
  rw [e2]
  constructor
  · rw [List.getElem?_append_right (by omega), hl]; simp [rc]
  · rw [List.getElem?_append_right (by omega), hl, show q * 3 + 2 - q * 3 = 2 by omega]; simp [rc]
theorem field0 (x : Int) (A : Option Addr) (n c : Nat) (w : World) : (Instr.field 37 (.agg #[.int .i64 x, .slice A n c]) 0).run Try.prog w = .ok (.int .i64 x) w := by kernel_rfl
set_option maxRecDepth 100000 in
set_option maxHeartbeats 8000000 in
theorem walk_short (A : Option Addr) (c n : Nat) (zs : List Int) (w : World) (hr : Reads w w.heap.size 1 A n (zs.map (Value.int .u16))) (hl : zs.length = n) (hz : ∀ z ∈ zs, 0 ≤ z ∧ z ≤ 65535) (hn : (n : Int) ≤ 20) :
    Calls Try.prog 5 #[.slice A n c] w fun e w' => e = .returned (.bool true) ∧ Ext w w' := by
  have HR := hide hr
  have HL := hide hl
  have HZ := hide hz
  clear hr hl hz
  go_enter Try.func5, Try.ntmps5
  go_wp2_with (go_at_call 7; refine (begun_any _).mono ?_; rintro e W ⟨rfl, b1⟩)
  refine (new_any W).mono ?_
  rintro e wa ⟨rfl, ha⟩
  have BW := hide b1
  have HA := hide ha
  clear ha b1
  go_wp2_with (fail)
  obtain ⟨lb, hlb⟩ : ∃ lb, lb = wa.heap.size := ⟨_, rfl⟩
  have H0 := hide (show St W (W.heap.size + 1) W.heap.size lb 0 (List.replicate 16 0) (wa.alloc (.cells #[.int .i64 0, .int .i64 0, .int .i64 0, .int .i64 0, .int .i64 0, .int .i64 0, .int .i64 0, .int .i64 0, .int .i64 0, .int .i64 0, .int .i64 0, .int .i64 0, .int .i64 0, .int .i64 0, .int .i64 0, .int .i64 0] 48)) from
    ⟨by rw [hlb]; exact HA.out.ext.size, rfl, by simp, by rw [hlb]; exact Blk.new wa 48 _, _, HA.out.ex (Ext.new wa _), by rw [valS_none]; exact Tab.none 16⟩)
  rw [← hlb]
  clear hlb HA
  go_loopw [5, 6, 7, 8, 9] (fun s5 _ _ _ _ wr => (∃ i : Nat, i ≤ n ∧ s5 = .int .i64 i ∧ Hid (∃ l, St W (W.heap.size + 1) W.heap.size lb i l wr))) (fun s5 _ _ _ _ _ => (n - intOf s5).toNat)
  case atStart => exact ⟨0, by omega, rfl, _, H0.out⟩
  case round =>
    obtain ⟨i, hi, rfl, hs0⟩ := hrel
    obtain ⟨l, hst⟩ := hs0.out
    have HS := hide hst
    clear hs0
    by_cases hlt : i < n
    · obtain ⟨bk, off, hAe, hbw, hcell⟩ := HR.out.plain (by omega) (by omega)
      subst hAe
      obtain ⟨z, hz⟩ : ∃ z, zs[i]? = some z := ⟨_, List.getElem?_eq_getElem (by rw [HL.out]; exact hlt)⟩
      have hz2 := HZ.out z (List.mem_of_getElem? hz)
      obtain ⟨x, rfl⟩ : ∃ x : Nat, z = (x : Int) := ⟨z.toNat, by omega⟩
      obtain ⟨f, hmd, htab⟩ := hst.2.2.2.2
      have gx := ((BW.out.trans hmd.ext).cell (p := ⟨bk, off + i, none⟩) hbw).trans (hcell i (.int .u16 (x : Int)) (by simp [hz]))
      have hx1 : (x : Int) ≤ 65535 := hz2.2
      obtain ⟨k, hk⟩ : ∃ k : Nat, x % 16 = k := ⟨_, rfl⟩
      have ek : (x : Int) % 16 = (k : Int) := by omega
      have hk1 : (k : Int) < 16 := by omega
      have hk0 : (0 : Int) ≤ (k : Int) := by omega
      obtain ⟨sc, hsc⟩ : ∃ sc : Nat, x / 16 % 3 = sc := ⟨_, rfl⟩
      have es : (x : Int) / 16 % 3 = (sc : Int) := by omega
      have hs1 : (sc : Int) < 3 := by omega
      have hs0 : (0 : Int) ≤ (sc : Int) := by omega
      have HK := hide (show k < 16 by omega)
      have HSC := hide (show sc < 3 by omega)
      obtain ⟨u, hu⟩ : ∃ u, l[k]? = some u := ⟨_, List.getElem?_eq_getElem (by have := hst.2.1; omega)⟩
      have yk := hst.2.2.2.1.cell k
      rw [ncl_at hu] at yk
      have fk := hst.2.2.2.1.frozen k
      have HU := hide hu
      have HMD := hide hmd
      have HT := hide htab
      have HB := hide hst.2.2.2.1
      clear hcell hz hz2 hst hk hsc hu hmd htab
      go_upto_region 10 with (fail)
      go_quiet (fail)
      have c0 := conv_lt (a := 97) (k := k) (Blk.new (wr.drewN nq) 5 #[.int .u8 (97 + (k : Int))]) (by omega) (by omega)
      have c1 := conv_lt (a := 120) (k := sc) (Blk.new ((wr.drewN nq).alloc (.cells #[.int .u8 (97 + (k : Int))] 5)) 5 #[.int .u8 (120 + (sc : Int))]) (by omega) (by omega)
      simp at c0 c1
      have e2 : Ext wr ((((wr.drewN nq).alloc (.cells #[.int .u8 (97 + (k : Int))] 5)).alloc (.cells #[.int .u8 (120 + (sc : Int))] 5)).alloc (.cells #[.string (lt 97 k), .string (lt 120 sc), .string ⟨#[]⟩] 31)) :=
        ((((Ext.refl wr).drewN nq).alloc _).alloc _).alloc _
      have B2 := hide (e2.blk HB.out)
      have y2 := (e2.blk HB.out).cell k
      rw [ncl_at HU.out] at y2
      obtain ⟨w2, hw2⟩ : ∃ w2, w2 = ((((wr.drewN nq).alloc (.cells #[.int .u8 (97 + (k : Int))] 5)).alloc (.cells #[.int .u8 (120 + (sc : Int))] 5)).alloc (.cells #[.string (lt 97 k), .string (lt 120 sc), .string ⟨#[]⟩] 31)) := ⟨_, rfl⟩
      have bR := hide (show Blk w2 (wr.heap.size + 1 + 1) 31 #[.string (lt 97 k), .string (lt 120 sc), .string ⟨#[]⟩] by
        rw [hw2]; have := Blk.new (((wr.drewN nq).alloc (.cells #[.int .u8 (97 + (k : Int))] 5)).alloc (.cells #[.int .u8 (120 + (sc : Int))] 5)) 31 #[.string (lt 97 k), .string (lt 120 sc), .string ⟨#[]⟩]
        simpa using this)
      rw [← hw2] at e2 y2 B2
      have E2 := hide e2
      clear e2 yk fk
      have HX1 := hide (show f (lt 97 k) = if u = 0 then none else some (rw1 k (u - 1)) by
        rw [HT.out.at_ k HK.out]; unfold valS; rw [List.getD_eq_getElem?_getD, HU.out]; rfl)
      have HV := hide (show (fun j => if j = k then some (rw1 k sc) else valS l j) = valS (l.set k (sc + 1)) from valS_set (by have := HK.out; have := HS.out.2.1; omega))
      obtain ⟨kd, hkd⟩ : ∃ kd : Int, kd = if u = 0 then 3 else 4 := ⟨_, rfl⟩
      have HKD := hide hkd
      clear hkd
      go_upto_region 12 with (fail)
      rw [← hw2]
      clear c0 c1 hw2 gx
      go_upto_if 53 with (fail)
      go_cut [9] (fun s wx => s = .int .i64 kd ∧ w2 = wx)
      case first =>
        go_wp2_with (fail)
        all_goals
          go_meet
          case rel => exact ⟨congrArg (Value.int .i64) (by rw [HKD.out]; first | rw [if_pos (by omega)] | rw [if_neg (by omega)]), rfl⟩
      case rest =>
        obtain ⟨rfl, rfl⟩ := hcut
        have q0 := bR.out.cell 0
        have q1 := bR.out.cell 1
        have q2 := bR.out.cell 2
        simp at q0 q1 q2
        clear y2
        go_wp2_with (fail)
        refine (do_set W w2 _ _ i k sc u kd f HKD.out (HMD.out.ex E2.out) (by omega) HX1.out).mono ?_
        rintro e w3 ⟨rfl, h3, b3⟩
        have HM3 := hide h3
        have B3 := hide (b3 _ _ _ B2.out (by decide))
        have fk := B3.out.frozen k
        have yk := B3.out.cell k
        rw [ncl_at HU.out] at yk
        have hfd := field0 0 none 0 0
        clear h3 b3 q0 q1 q2
        go_wp2_with (fail)
        have H4 := hide (show St W (W.heap.size + 1) W.heap.size lb (i + 1) (l.set k (sc + 1)) (w3.setCell ⟨lb, k, none⟩ (.int .i64 ((sc : Int) + 1))) from
          ⟨HS.out.1, by rw [List.length_set]; exact HS.out.2.1, fun y hy => by
            rcases List.mem_or_eq_of_mem_set hy with h | h
            · exact HS.out.2.2.1 y h
            · have := HSC.out; omega, by rw [← ncl_set]; exact B3.out.set_ k _, _, HM3.out.set_ B3.out (by decide) HS.out.1, by rw [← HV.out]; exact HT.out.put (by decide) HK.out _⟩)
        go_roundw
        case rel => exact ⟨i + 1, by omega, by go_num, _, H4.out⟩
        case measure => simp [intOf]; omega
    · obtain ⟨f, hmd, htab⟩ := hst.2.2.2.2
      have HMD := hide hmd
      have HT := hide htab
      have HB := hide hst.2.2.2.1
      have HLN := hide hst.2.1
      have HL3 := hide hst.2.2.1
      clear hst hmd htab
      go_wp2_with (fail)
      obtain ⟨wc, hwc⟩ : ∃ wc, wc = wr := ⟨_, rfl⟩
      subst hwc
      go_loopw [10, 11, 12, 13] (fun s10 _ _ _ wr => (∃ j : Nat, j ≤ 3 ∧ s10 = .int .i64 j ∧ Hid (Ext wc wr))) (fun s10 _ _ _ _ => (3 - intOf s10).toNat)
      case atStart => exact ⟨0, by omega, rfl, Ext.refl _⟩
      case round =>
        obtain ⟨j, hj, rfl, hx⟩ := hrel
        by_cases hltj : j < 3
        · have hj3 : (j : Int) < 3 := by omega
          have hj0 : (0 : Int) ≤ (j : Int) := by omega
          have c0 := conv_lt (a := 120) (k := j) (Blk.new wr 5 #[.int .u8 (120 + (j : Int))]) (by omega) (by omega)
          go_wp2_with (fail)
          refine (do_seek W (wr.alloc (.cells #[.int .u8 (120 + (j : Int))] 5)) _ _ i f 0 0 ⟨⟨#[]⟩, lt 120 j, ⟨#[]⟩⟩ none 0 0 ((HMD.out.ex hx.out).ex (Ext.new wr _)) (by omega) (rz_seek j) (may_seek j)).mono ?_
          rintro e w5 ⟨L, hK, _, A5, c5, rfl, ho, hx5⟩
          obtain ⟨R, hR⟩ : ∃ R, R = (rowsL f L).filter fun q => eqS q ⟨⟨#[]⟩, lt 120 j, ⟨#[]⟩⟩ := ⟨_, rfl⟩
          rw [← hR] at ho ⊢
          have HRS := hide (show R = (List.range 16).filterMap (gS l j) from hR.trans (HT.out.such (by decide) hK _))
          have hRl : R.length ≤ 16 := by rw [HRS.out]; exact cn_le _ 16
          have HO := hide ho
          have X6 := hide (((hx.out.trans (Ext.new wr (.cells #[.int .u8 (120 + (j : Int))] 5))).trans hx5).trans (Ext.new w5 (.cells #[.int .i64 0, .slice A5 R.length c5] 37)))
          have B11 := hide (Blk.new w5 37 #[.int .i64 0, .slice A5 R.length c5])
          have O6 := hide ((Ext.new w5 (.cells #[.int .i64 0, .slice A5 R.length c5] 37)).own ho)
          clear hR hK ho hx5 c0
          go_wp2_with (fail)
          obtain ⟨w6, hw6⟩ : ∃ w6, w6 = w5.alloc (.cells #[.int .i64 0, .slice A5 R.length c5] 37) := ⟨_, rfl⟩
          obtain ⟨b11, hb11⟩ : ∃ b11, b11 = w5.heap.size := ⟨_, rfl⟩
          rw [← hw6] at X6 B11 O6 ⊢
          rw [← hb11] at B11 ⊢
          clear hw6 hb11
          have HBL := hide (X6.out.blk HB.out)
          have hown := O6.out
          go_loopw [12, 13] (fun s12 s13 wr => (∃ k : Nat, k ≤ 16 ∧ s12 = .int .i64 (cn (gS l j) k : Nat) ∧ s13 = .int .i64 k ∧ Hid (Ext w6 wr))) (fun _ s13 _ => (16 - intOf s13).toNat)
          case atStart => exact ⟨0, by omega, rfl, rfl, Ext.refl _⟩
          case round =>
            obtain ⟨k, hk, rfl, rfl, hx⟩ := hrel
            obtain ⟨q, hq⟩ : ∃ q, q = cn (gS l j) k := ⟨_, rfl⟩
            rw [← hq]
            have HQ := hide hq
            have hqk : q ≤ 16 := by have := cn_le (gS l j) k; omega
            clear hq
            have z1 := (hx.out.blk B11.out).cell 1
            have z0 := (hx.out.blk B11.out).cell 0
            simp at z0 z1
            by_cases hlt : k < 16
            · have hk16 : (k : Int) < 16 := by omega
              have hk0 : (0 : Int) ≤ (k : Int) := by omega
              obtain ⟨u, hu⟩ : ∃ u, l[k]? = some u := ⟨_, List.getElem?_eq_getElem (by rw [HLN.out]; exact hlt)⟩
              have HU := hide hu
              have HU3 := hide (HL3.out u (List.mem_of_getElem? hu))
              have yk := (hx.out.blk HBL.out).cell k
              rw [ncl_at hu] at yk
              clear hu
              by_cases he : u = j + 1
              · subst he
                have d1 : (((j + 1 : Nat) : Int) != (j : Int) + 1) = false := by simp
                have hat : R[q]? = some (rw1 k j) := by rw [HRS.out, HQ.out]; exact cn_at (gS_yes HU.out) hlt
                have hql : q < R.length := (List.getElem?_eq_some_iff.1 hat).1
                have HN := hide (cn_some (gS_yes HU.out))
                obtain ⟨bA, cA, hvA, _, hlA⟩ := hown.form (by omega)
                injection hvA with hvA hvL hvc
                subst hvA hvc
                clear hvL
                have hcA := hown.cells (g := bA) rfl (q * 3) _ (rcs_at hat).1
                have ea : (⟨bA, 0, none⟩ : Addr).add (q * 3) = ⟨bA, q * 3, none⟩ := by unfold Addr.add; split <;> simp_all
                rw [ea] at hcA
                have yA := (hx.out.cell (p := ⟨bA, q * 3, none⟩) hlA).trans hcA
                simp only [rw1] at yA
                have d2 : decide (R.length ≤ q) = false := decide_eq_false (by omega)
                have d3 : decide ((R.length : Int) ≤ (q : Int)) = false := decide_eq_false (by omega)
                have hq0 : (0 : Int) ≤ (q : Int) := by omega
                have hqL : (q : Int) < (R.length : Int) := by omega
                have hw : IntKind.u8.wrap (IntKind.i64.wrap (97 + (k : Int))) = ((97 + k : Nat) : Int) := by
                  have e : (97 + (k : Int)) = ((97 + k : Nat) : Int) := by omega
                  rw [e]
                  exact wrap_small (by omega)
                have c1 := conv_lt (a := 97) (k := k) ((Blk.new wr 5 #[.int .u8 (IntKind.u8.wrap (IntKind.i64.wrap (97 + (k : Int))))]).drew) hw (by omega)
                clear hw
                have HX := hide hx.out
                clear hat hcA ea
                go_wp2_with (fail)
                go_cut [106] (fun s wx => s = .bool false ∧ Ext wr wx)
                case first =>
                  have HS2 := hide (show ∀ w', Ext wr w' → w'.cell? ⟨b11, 1, none⟩ = some (.slice (some ⟨bA, 0, none⟩) R.length c5) ∧ w'.cell? ⟨bA, q * 3, none⟩ = some (.string (lt 97 k)) from fun w' e =>
                    ⟨((HX.out.trans e).blk B11.out).cell 1, (e.cell (p := ⟨bA, q * 3, none⟩) (Nat.lt_of_lt_of_le hlA HX.out.size)).trans yA⟩)
                  clear z0 z1 yA yk hlA
                  go_region_held (fun w' => w'.cell? ⟨b11, 1, none⟩ = some (.slice (some ⟨bA, 0, none⟩) R.length c5) ∧ w'.cell? ⟨bA, q * 3, none⟩ = some (.string (lt 97 k))) (exact HS2.out _ (by repeat (first | exact Ext.refl _ | apply Ext.drew | apply Ext.alloc | apply Ext.set_))) (first | fail)
                  all_goals
                    go_wp2_with (fail)
                    go_meet
                    case rel => exact ⟨by simp, ((Ext.refl wr).drew).alloc _⟩
                case rest =>
                  obtain ⟨rfl, hx7⟩ := hcut
                  have X7 := hide (HX.out.trans hx7)
                  clear hx7 c1 yA
                  go_wp2_with (fail)
                  go_roundw
                  case rel => exact ⟨k + 1, by omega, by rw [HN.out, ← HQ.out]; go_num, by go_num, X7.out⟩
                  case measure => simp [intOf]; omega
              · have d1 : ((u : Int) != (j : Int) + 1) = true := by simp; omega
                have HN := hide (cn_none (gS_no HU.out HU3.out hltj he))
                clear he
                go_wp2_with (fail)
                go_roundw
                case rel => exact ⟨k + 1, by omega, by rw [HN.out, ← HQ.out], by go_num, hx⟩
                case measure => simp [intOf]; omega
            · obtain rfl : k = 16 := by omega
              have hq : q = R.length := by rw [HQ.out, HRS.out]; rfl
              subst hq
              clear hlt
              go_wp2_with (fail)
              go_roundw
              case rel => exact ⟨j + 1, by omega, by go_num, X6.out.trans hx.out⟩
              case measure => simp [intOf]; omega
        · have X := hide (HMD.out.ext.trans hx.out)
          clear hx
          go_wp2
          go_ret
          exact ⟨rfl, BW.out.trans X.out⟩
end Go.Proofs.Ytjjilaanlhpogaa.modelSeek
