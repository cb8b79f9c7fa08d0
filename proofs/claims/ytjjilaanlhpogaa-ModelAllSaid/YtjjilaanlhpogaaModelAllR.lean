/- ModelAll: the document's answer: May, Bad, find. -/
import Derived.Test.YtjjilaanlhpogaaModelAllP
namespace Go.Proofs.Ytjjilaanlhpogaa
open Go.ChangeShapes Go.WideShapes Go.ChangeAt Go.RowKit Go.Maps Go.MapKept Go.Sort
set_option linter.unusedVariables false

theorem rmay_any (r : Rw) (w : World) (h1 : r.k.size ≤ maxLen) (h2 : r.s.size ≤ maxLen) (h3 : r.v.size ≤ maxLen) :
    Calls Try.prog 28 #[rv r] w fun e w' => e = .returned (.bool (mayR r)) ∧ Ext w w' := by
  obtain ⟨k, s, v⟩ := r
  unfold maxLen at h1 h2 h3
  simp only [rv] at *
  go_enter Try.func28, Try.ntmps28
  go_wp2
  all_goals
    go_ret
    refine ⟨ret_bool ?_, Ext.new _ _⟩
    unfold mayR
    dsimp only
    first
      | exact decide_eq_decide.2 (by omega)
      | exact (decide_eq_false (by omega)).symm
set_option maxHeartbeats 1000000 in
theorem rbad_any (kind t n : Int) (r : Rw) (A : Option Addr) (l c : Nat) (w : World) (h1 : r.k.size ≤ maxLen) (h2 : r.s.size ≤ maxLen) (h3 : r.v.size ≤ maxLen) :
    Calls Try.prog 21 #[stv kind t n r A l c] w fun e w' => e = .returned (.bool (!mayS kind r)) ∧ Ext w w' := by
  have hc := hide (fun w => rmay_any r w h1 h2 h3)
  obtain ⟨k, s, v⟩ := r
  unfold maxLen at h1 h2 h3
  simp only [stv] at *
  have hne : kind = 3 ∨ kind = 4 ∨ kind = 2 ∨ kind = 5 ∨ kind = 6 ∨ kind = 7 ∨ (kind ≠ 3 ∧ kind ≠ 4 ∧ kind ≠ 2 ∧ kind ≠ 5 ∧ kind ≠ 6 ∧ kind ≠ 7) := by omega
  rcases hne with rfl | rfl | rfl | rfl | rfl | rfl | ⟨e3, e4, e2, e5, e6, e7⟩
  · go_enter Try.func21, Try.ntmps21
    go_wp2_with (go_at_call 28; refine (hc.out _).mono ?_; rintro e w1 ⟨rfl, x1⟩)
    go_ret
    exact ⟨ret_bool (by simp [mayS]), (Ext.new w _).trans x1⟩
  · go_enter Try.func21, Try.ntmps21
    go_wp2_with (go_at_call 28; refine (hc.out _).mono ?_; rintro e w1 ⟨rfl, x1⟩)
    go_ret
    exact ⟨ret_bool (by simp [mayS]), (Ext.new w _).trans x1⟩
  · go_enter Try.func21, Try.ntmps21
    go_wp2
    all_goals
      go_ret
      refine ⟨ret_bool ?_, Ext.new _ _⟩
      simp only [tl_n] at *
      unfold mayS
      rw [if_neg (by decide), if_pos (by decide)]
      dsimp only
      first
        | (rw [decide_eq_false (by omega)]; rfl)
        | (rw [tl_e, Bool.eq_iff_iff]; simp only [Bool.or_eq_true, Bool.not_eq_true', decide_eq_true_eq, decide_eq_false_iff_not]; omega)
  · go_enter Try.func21, Try.ntmps21
    go_wp2
    all_goals
      go_ret
      refine ⟨ret_bool ?_, Ext.new _ _⟩
      simp only [tl_n] at *
      unfold mayS
      rw [if_neg (by decide), if_pos (by decide)]
      dsimp only
      first
        | (rw [decide_eq_false (by omega)]; rfl)
        | (rw [tl_e, Bool.eq_iff_iff]; simp only [Bool.or_eq_true, Bool.not_eq_true', decide_eq_true_eq, decide_eq_false_iff_not]; omega)
  · go_enter Try.func21, Try.ntmps21
    go_wp2
    go_ret
    refine ⟨ret_bool ?_, Ext.new _ _⟩
    unfold mayS
    rw [Bool.eq_iff_iff]
    simp
    try omega
  · go_enter Try.func21, Try.ntmps21
    go_wp2
    go_ret
    refine ⟨ret_bool ?_, Ext.new _ _⟩
    unfold mayS
    rw [Bool.eq_iff_iff]
    simp
    try omega
  · have b3 : (kind == 3) = false := by simpa using e3
    have b4 : (kind == 4) = false := by simpa using e4
    have b2 : (kind == 2) = false := by simpa using e2
    have b5 : (kind == 5) = false := by simpa using e5
    have b6 : (kind == 6) = false := by simpa using e6
    have b7 : (kind == 7) = false := by simpa using e7
    have hm := hide (show mayS kind ⟨k, s, v⟩ = false by unfold mayS; simp [e3, e4, e2, e5, e6, e7])
    clear e3 e4 e2 e5 e6 e7
    go_enter Try.func21, Try.ntmps21
    go_wp2
    go_ret
    exact ⟨ret_bool (by rw [hm.out]; rfl), Ext.new _ _⟩
/-- the document's table: its rows, rising -/
structure Rf (W w : World) (rb : Nat) (A : Option Addr) (c : Nat) (R : List Rw) : Prop where
  blk : Blk w rb 29 #[.slice A R.length c]
  own : w.ownsRow W.heap.size 31 3 (.slice A R.length c) R.length (rcs R)
  hb : W.heap.size ≤ rb
  ext : Ext W w
theorem Rf.ex {W w w' : World} {rb : Nat} {A : Option Addr} {c : Nat} {R : List Rw} (h : Rf W w rb A c R) (hx : Ext w w') : Rf W w' rb A c R :=
  ⟨hx.blk h.blk, ownsRow_touch (Touch.of_below hx (fun _ => False)) h.own (fun _ _ hf => hf), h.hb, h.ext.trans hx⟩
theorem rcs3 {R : List Rw} {q : Nat} {r : Rw} (h : R[q]? = some r) : (rcs R)[q * 3]? = some (.string r.k) ∧ (rcs R)[q * 3 + 1]? = some (.string r.s) ∧ (rcs R)[q * 3 + 2]? = some (.string r.v) := by
  obtain ⟨hq, e⟩ := List.getElem?_eq_some_iff.1 h
  have e1 : R = R.take q ++ (r :: R.drop (q + 1)) := by
    rw [← e, List.getElem_cons_drop, List.take_append_drop]
  have e2 : rcs R = rcs (R.take q) ++ (rc r ++ rcs (R.drop (q + 1))) := by
    conv => lhs; rw [e1]
    simp [rcs]
  have hl : (rcs (R.take q)).length = q * 3 := by rw [rcs_len, List.length_take]; omega
  rw [e2]
  refine ⟨?_, ?_, ?_⟩
  · rw [List.getElem?_append_right (by omega), hl]; simp [rc]
  · rw [List.getElem?_append_right (by omega), hl, show q * 3 + 1 - q * 3 = 1 by omega]; simp [rc]
  · rw [List.getElem?_append_right (by omega), hl, show q * 3 + 2 - q * 3 = 2 by omega]; simp [rc]
theorem bl_eq (a b : ByteArray) : Op.bytesLess a.toList b.toList = decide (nm a < nm b) := by
  rw [bytesLess_eq, ByteArray.toList_eq, ByteArray.toList_eq]; rfl
theorem be_eq (a b : ByteArray) : (a.toList == b.toList) = decide (a = b) := by
  rw [Bool.eq_iff_iff, ByteArray.toList_eq, ByteArray.toList_eq]
  simp only [beq_iff_eq, decide_eq_true_eq]
  constructor
  · intro e
    have := congrArg bt e
    rwa [bt_of, bt_of] at this
  · rintro e
    rw [e]
/-- what 'find' tells -/
def Finds (R : List Rw) (x : ByteArray) (w : World) (e : Ending) (w' : World) : Prop :=
  ∃ k b m, e = .returned (.tuple #[.int .i64 (k : Nat), .bool b]) ∧ At R x k ∧ (b = true ↔ ∃ r, R[k]? = some r ∧ r.k = x) ∧ w' = w.drewN m
set_option maxRecDepth 100000 in
set_option maxHeartbeats 2000000 in
theorem rfind_any (w : World) (rb B : Nat) (A : Option Addr) (c : Nat) (R : List Rw) (x : ByteArray) (hB : Blk w rb 29 #[.slice A R.length c]) (hr : Reads w B 3 A R.length (rcs R)) (hn : R.length ≤ 1000) :
    Calls Try.prog 22 #[.pointer (some ⟨rb, 0, none⟩), .string x] w (Finds R x w) := by
  have c0 := hB.cell 0
  simp at c0
  have HR := hide hr
  obtain ⟨n, hN⟩ : ∃ n, n = R.length := ⟨_, rfl⟩
  rw [← hN] at c0 hn
  have HN := hide hN
  clear hB hr hN
  go_enter Try.func22, Try.ntmps22
  go_wp2_with (fail)
  go_loopw [6] (fun s6 wr => (∃ k : Nat, k ≤ n ∧ s6 = .int .i64 k ∧ w = wr ∧ Hid (∀ j r, j < k → R[j]? = some r → nm r.k < nm x))) (fun s6 _ => (n - intOf s6).toNat)
  case atStart => exact ⟨0, by omega, rfl, rfl, fun j r hj => absurd hj (by omega)⟩
  case round =>
    obtain ⟨k, hk, rfl, rfl, HLO⟩ := hrel
    by_cases hlt : k < n
    · obtain ⟨b, off, hA, hbw, hc⟩ := HR.out.plain (by rw [← HN.out]; omega) (by omega)
      subst hA
      obtain ⟨r, hrk⟩ : ∃ r, R[k]? = some r := ⟨_, List.getElem?_eq_getElem (by rw [← HN.out]; exact hlt)⟩
      have g0 := hc _ _ (rcs3 hrk).1
      have HRK := hide hrk
      have d1 : decide ((k : Int) < (n : Int)) = true := decide_eq_true (by omega)
      clear hc hrk
      by_cases hl : nm r.k < nm x
      · have d2 : Op.bytesLess r.k.toList x.toList = true := by rw [bl_eq]; exact decide_eq_true hl
        have HL := hide hl
        clear hl
        go_wp2_with (fail)
        go_roundw
        case rel => exact ⟨k + 1, by omega, by go_num, trivial, fun j q hj hq => by
          rcases Nat.lt_or_ge j k with h | h
          · exact HLO.out j q h hq
          · obtain rfl : j = k := by omega
            have hrk := HRK.out
            rw [hrk] at hq
            injection hq with hq
            rw [← hq]; exact HL.out⟩
        case measure => simp [intOf]; omega
      · have d2 : Op.bytesLess r.k.toList x.toList = false := by rw [bl_eq]; exact decide_eq_false hl
        have HL := hide hl
        clear hl
        go_upto_region 4 with (fail)
        go_quiet (fail)
        go_wp2_with (fail)
        refine bodyPost_ret (v := .tuple #[.int .i64 k, .bool (r.k.toList == x.toList)]) (by simp [results, Try.results22, go_sem]) rfl ⟨k, _, nq, rfl, ⟨by rw [← HN.out]; omega, HLO.out, fun q hq => ?_⟩, ?_, rfl⟩
        · have hrk := HRK.out
          rw [hrk] at hq
          injection hq with hq
          rw [← hq]; exact HL.out
        · rw [HRK.out]
          simp [be_eq]
    · obtain rfl : k = n := by omega
      have d1 : decide ((k : Int) < (k : Int)) = false := decide_eq_false (by omega)
      have hno : R[k]? = none := List.getElem?_eq_none (by rw [← HN.out]; omega)
      have HNO := hide hno
      clear hno
      go_upto_region 4 with (fail)
      go_quiet (fail)
      go_wp2_with (fail)
      refine bodyPost_ret (v := .tuple #[.int .i64 k, .bool false]) (by simp [results, Try.results22, go_sem]) rfl ⟨k, false, nq, rfl, ⟨by rw [← HN.out]; omega, HLO.out, fun q hq => ?_⟩, ?_, rfl⟩
      · rw [HNO.out] at hq; cases hq
      · rw [HNO.out]
        simp
set_option maxRecDepth 100000 in
set_option maxHeartbeats 2000000 in
theorem srows_any (A1 A2 : Option Addr) (c1 c2 n B1 B2 : Nat) (R : List Rw) (w : World) (hn : n = R.length) (h1 : Reads w B1 3 A1 n (rcs R)) (h2 : Reads w B2 3 A2 n (rcs R)) (hl : n ≤ 1000) :
    Calls Try.prog 13 #[.slice A1 n c1, .slice A2 n c2] w fun e w' => e = .returned (.bool true) ∧ Ext w w' := by
  have H1 := hide h1
  have H2 := hide h2
  have HN := hide hn
  clear h1 h2 hn
  go_enter Try.func13, Try.ntmps13
  go_wp2_with (fail)
  go_loopw [5] (fun i wr => (∃ k : Nat, k ≤ n ∧ i = .int .i64 k ∧ Hid (∃ m, wr = w.drewN m))) (fun i _ => (n - intOf i).toNat)
  case atStart => exact ⟨0, by omega, rfl, 0, rfl⟩
  case round =>
    obtain ⟨k, hk, rfl, hw⟩ := hrel
    obtain ⟨m, rfl⟩ := hw.out
    by_cases hlt : k < n
    · obtain ⟨b1, o1, e1, _, d1⟩ := H1.out.plain (by omega) (by omega)
      obtain ⟨b2, o2, e2, _, d2⟩ := H2.out.plain (by omega) (by omega)
      obtain ⟨r, hrk⟩ : ∃ r, R[k]? = some r := ⟨_, List.getElem?_eq_getElem (by rw [← HN.out]; exact hlt)⟩
      obtain ⟨y0, y1, y2⟩ := rcs3 hrk
      have g10 : w.cell? ⟨b1, o1 + k * 3, none⟩ = some (.string r.k) := d1 _ _ y0
      have g11 : w.cell? ⟨b1, o1 + k * 3 + 1, none⟩ = some (.string r.s) := by rw [Nat.add_assoc]; exact d1 _ _ y1
      have g12 : w.cell? ⟨b1, o1 + k * 3 + 2, none⟩ = some (.string r.v) := by rw [Nat.add_assoc]; exact d1 _ _ y2
      have g20 : w.cell? ⟨b2, o2 + k * 3, none⟩ = some (.string r.k) := d2 _ _ y0
      have g21 : w.cell? ⟨b2, o2 + k * 3 + 1, none⟩ = some (.string r.s) := by rw [Nat.add_assoc]; exact d2 _ _ y1
      have g22 : w.cell? ⟨b2, o2 + k * 3 + 2, none⟩ = some (.string r.v) := by rw [Nat.add_assoc]; exact d2 _ _ y2
      subst e1 e2
      clear d1 d2 y0 y1 y2 hw hrk
      go_wp2_with (fail)
      go_quiet (fail)
      go_wp2
      go_roundw
      case rel => exact ⟨k + 1, by omega, by go_num, m + nq, by simp⟩
      case measure => simp [intOf]; omega
    · obtain rfl : k = n := by omega
      clear hw
      go_wp2
      go_ret
      exact ⟨rfl, (Ext.refl w).drewN m⟩
set_option maxRecDepth 100000 in
set_option maxHeartbeats 2000000 in
theorem sans_any (x : Int) (A1 A2 : Option Addr) (c1 c2 n B1 B2 : Nat) (R : List Rw) (w : World) (hn : n = R.length) (h1 : Reads w B1 3 A1 n (rcs R)) (h2 : Reads w B2 3 A2 n (rcs R)) (hb1 : B1 ≤ w.heap.size) (hb2 : B2 ≤ w.heap.size) (hl : n ≤ 1000) :
    Calls Try.prog 11 #[.agg #[.int .i64 x, .slice A1 n c1], .agg #[.int .i64 x, .slice A2 n c2]] w fun e w' => e = .returned (.bool true) ∧ Ext w w' := by
  have hs := hide (fun (w' : World) (hx : Ext w w') => srows_any A1 A2 c1 c2 n B1 B2 R w' hn (Ext.reads hx h1 hb1) (Ext.reads hx h2 hb2) hl)
  clear h1 h2 hb1 hb2 hn hl
  go_enter Try.func11, Try.ntmps11
  go_wp2_with (go_at_call 13; refine (hs.out _ (by (repeat (first | with_reducible exact Ext.refl _ | with_reducible refine Ext.drew ?_ | with_reducible refine Ext.alloc ?_ _)))).mono ?_; rintro e w1 ⟨rfl, x1⟩; have X1 := hide (((Ext.refl w).alloc _).alloc _ |>.trans x1))
  go_ret
  exact ⟨rfl, X1.out⟩
end Go.Proofs.Ytjjilaanlhpogaa
