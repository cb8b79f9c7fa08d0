/- Model: contracts: the closures, 'such'. -/
import Derived.Test.YtjjilaanlhpogaaModelB
import Derived.Sort.Walk0
namespace Go.Proofs.Ytjjilaanlhpogaa
open Go.ChangeShapes Go.WideShapes Go.ChangeAt Go.RowKit Go.Maps Go.MapKept Go.Sort
set_option linter.unusedVariables false

def Rz (r : Rw) : Prop := r.k.size ≤ maxLen ∧ r.s.size ≤ maxLen ∧ r.v.size ≤ maxLen
/-- the step's block -/
def Stp (w : World) (sb : Nat) (kind t n : Int) (r : Rw) (A : Option Addr) (l c : Nat) : Prop := Blk w sb 34 #[.int .i64 kind, .int .i64 t, .int .i64 n, .string r.k, .string r.s, .string r.v, .slice A l c]
/-- a key is no less -/
def geK (a b : Rw) : Bool := decide (b.k.data.toList ≤ a.k.data.toList)
def eqS (a b : Rw) : Bool := decide (a.s = b.s)
theorem all_any (r : Rw) (w : World) : Calls Try.prog 23 #[rv r] w fun e w' => e = .returned (.bool true) ∧ Ext w w' := by
  go_enter Try.func23, Try.ntmps23
  simp only [rv]
  go_wp2
  go_ret
  exact ⟨rfl, Ext.new _ _⟩
theorem ge_any (r q : Rw) (sb : Nat) (kind t n : Int) (A : Option Addr) (l c : Nat) (w : World) (h : Stp w sb kind t n q A l c) : Calls Try.prog 19 #[rv r, .pointer (some ⟨sb, 0, none⟩)] w fun e w' => e = .returned (.bool (geK r q)) ∧ Ext w w' := by
  have y := ((Ext.new w (.cells #[.string r.k, .string r.s, .string r.v] 31)).blk h).cell 3
  simp at y
  have hl := h.lt
  simp only [rv]
  go_enter Try.func19, Try.ntmps19
  go_wp2
  go_ret
  refine ⟨ret_bool ?_, Ext.new _ _⟩
  unfold geK
  rw [Bool.eq_iff_iff, bytesLess_eq, ByteArray.toList_eq, ByteArray.toList_eq]
  simp only [Bool.not_eq_true', decide_eq_false_iff_not, decide_eq_true_eq]
  exact List.not_lt
theorem eq_any (r q : Rw) (sb : Nat) (kind t n : Int) (A : Option Addr) (l c : Nat) (w : World) (h : Stp w sb kind t n q A l c) : Calls Try.prog 20 #[rv r, .pointer (some ⟨sb, 0, none⟩)] w fun e w' => e = .returned (.bool (eqS r q)) ∧ Ext w w' := by
  have y := ((Ext.new w (.cells #[.string r.k, .string r.s, .string r.v] 31)).blk h).cell 4
  simp at y
  have hl := h.lt
  simp only [rv]
  go_enter Try.func20, Try.ntmps20
  go_wp2
  go_ret
  refine ⟨ret_bool ?_, Ext.new _ _⟩
  unfold eqS
  rw [Bool.eq_iff_iff, ByteArray.toList_eq, ByteArray.toList_eq]
  simp only [beq_iff_eq, decide_eq_true_eq]
  constructor
  · intro e
    have := congrArg bt e
    rwa [bt_of, bt_of] at this
  · rintro e
    rw [e]
theorem Try.info31' : (Try.prog.info? 31).map (fun i => (i.zero, i.size, i.bytes)) = some (some (rv r0), 3, 48) := by kernel_rfl
/-- the keys of a table, in order -/
def Keys (f : ByteArray → Option Rw) (L : List (List UInt8)) : Prop := RisesS L ∧ ∀ l, l ∈ L ↔ (f (bt l)).isSome = true
/-- the rows at these keys -/
def rowsL (f : ByteArray → Option Rw) (L : List (List UInt8)) : List Rw := L.map fun l => (f (bt l)).getD r0
theorem Keys.same {f : ByteArray → Option Rw} {L M : List (List UInt8)} (h : Keys f L) (h' : Keys f M) : L = M := risesS_same h.1 h'.1 (fun x => (h.2 x).trans (h'.2 x).symm)
theorem rowsL_at {f : ByteArray → Option Rw} {L : List (List UInt8)} {k : Nat} {l : List UInt8} (h : L[k]? = some l) : (rowsL f L)[k]? = some ((f (bt l)).getD r0) := by
  unfold rowsL
  rw [List.getElem?_map, h]
  rfl
theorem take_snoc {α : Type} {L : List α} {k : Nat} {x : α} (hx : L[k]? = some x) (P : α → Bool) : (L.take (k + 1)).filter P = (L.take k).filter P ++ (if P x = true then [x] else []) := by
  have hk := (List.getElem?_eq_some_iff.1 hx).1
  rw [List.take_succ_eq_append_getElem hk, List.filter_append]
  have e : L[k] = x := (List.getElem?_eq_some_iff.1 hx).2
  rw [e]
  by_cases h : P x = true <;> simp [h]
/-- a table: its struct in block g; all made at the world W or since -/
structure Md (W w : World) (g m n : Nat) (f : ByteArray → Option Rw) : Prop where
  blk : Blk w g 52 #[.map (some m)]
  rows : RowsAt w m n f
  key : ∀ x r, f x = some r → r.k = x ∧ Rz r
  hg : W.heap.size ≤ g
  hm : W.heap.size ≤ m
  ext : Ext W w
theorem Md.ex {W w w' : World} {g m n : Nat} {f : ByteArray → Option Rw} (h : Md W w g m n f) (hx : Ext w w') : Md W w' g m n f :=
  { h with blk := hx.blk h.blk, rows := h.rows.ext hx, ext := h.ext.trans hx }
/-- the rows that are such, in order, in new memory -/
def GivesR (w : World) (n : Nat) (f : ByteArray → Option Rw) (P : Rw → Bool) (e : Ending) (w' : World) : Prop :=
  ∃ v L, e = .returned v ∧ Keys f L ∧ L.length ≤ n ∧ w'.ownsRow w.heap.size 31 3 v ((rowsL f L).filter P).length (rcs ((rowsL f L).filter P)) ∧ Ext w w'
theorem bt_size (l : List UInt8) : (bt l).size = l.length := by show (bt l).data.size = _; rw [← Array.length_toList, bt_data]
set_option maxRecDepth 100000 in
set_option maxHeartbeats 2000000 in
theorem such_all (W w : World) (g m n : Nat) (f : ByteArray → Option Rw) (h : Md W w g m n f) (hn : n ≤ 1000) :
    Calls Try.prog 18 #[.pointer (some ⟨g, 0, none⟩), .func (.func 23) #[] #[]] w (GivesR w n f (fun _ => true)) := by
  obtain ⟨i0, hi0, iz0, iz1, iz2⟩ := info_parts Try.info31'
  obtain ⟨P, hP⟩ : ∃ P : Rw → Bool, P = (fun _ => true) := ⟨_, rfl⟩
  have hcl := hide (show ∀ (r : Rw) (w' : World), Ext w w' → Calls Try.prog 23 #[rv r] w' fun e w'' => e = .returned (.bool (P r)) ∧ Ext w' w'' by
    intro r w' hx
    rw [hP]
    exact all_any r w')
  rw [← hP]
  clear hP 
  have c0 := h.blk.cell 0
  simp at c0
  have H := hide h
  clear h
  go_enter Try.func18, Try.ntmps18
  go_wp2_with (go_at_call 27; refine (keys_call (some m) _).mono ?_; rintro e w1 ⟨rfl, rfl⟩)
  refine (sorted_call m n f _ H.out.rows (by omega)).mono ?_
  rintro e w1 ⟨v, L, rfl, h1, h2, h3, h4, h5, h6⟩
  obtain ⟨q, hq⟩ : ∃ q, q = L.length := ⟨_, rfl⟩
  rw [← hq] at h3 h4
  obtain ⟨A1, c1, hv, _⟩ := own_form h4
  subst hv
  have HQ := hide hq
  have HL := hide (show Keys f L from ⟨h1, h2⟩)
  have HO := hide h4
  have HZ := hide h5
  have HX := hide h6
  have hqn : q ≤ n := h3
  clear h1 h2 h3 h4 h5 h6 hq
  go_wp2_with (fail)
  go_loopw [5, 7, 15] (fun s5 _ s15 wr => (∃ (k p : Nat) (A : Option Addr) (cc : Nat), k ≤ q ∧ p ≤ k ∧ s15 = .int .i64 k ∧ s5 = .slice A p cc ∧ Hid ((((rowsL f L).take k).filter P).length = p ∧ wr.ownsRow w1.heap.size 31 3 (.slice A p cc) p (rcs (((rowsL f L).take k).filter P)) ∧ Ext w1 wr))) (fun _ _ s15 _ => (q - intOf s15).toNat)
  case atStart => exact ⟨0, 0, none, 0, by omega, by omega, rfl, rfl, rfl, World.ownsRow_nil _ _ _ _, Ext.refl _⟩
  case round =>
    obtain ⟨k, p, A, cc, hk, hpk, rfl, rfl, hs⟩ := hrel
    by_cases hlt : k < q
    · have hki : (k : Int) < (q : Int) := by omega
      have hk0 : (0 : Int) ≤ (k : Int) := by omega
      obtain ⟨l, hl⟩ : ∃ l, L[k]? = some l := ⟨_, List.getElem?_eq_getElem (by have := HQ.out; omega)⟩
      obtain ⟨bk, c2, hv, _, hbl⟩ := HO.out.form (by omega)
      injection hv with hv1 hv2 hv3
      subst hv1 hv3
      clear hv2
      have hcell : w1.cell? ⟨bk, k, none⟩ = some (encStr l) := by
        have := HO.out.cells (g := bk) rfl k (encStr l) (by rw [sv, List.getElem?_map, hl]; rfl)
        have e : (⟨bk, 0, none⟩ : Addr).add k = ⟨bk, k, none⟩ := by unfold Addr.add; split <;> simp_all
        rwa [e] at this
      have gx := (hs.out.2.2.cell (p := ⟨bk, k, none⟩) hbl).trans hcell
      clear hcell
      obtain ⟨x, hx⟩ : ∃ x, x = bt l := ⟨_, rfl⟩
      have exs : encStr l = .string x := by rw [hx]; rfl
      rw [exs] at gx
      have hxz : Sz x := by unfold Sz; rw [hx, bt_size]; exact HZ.out l (List.mem_of_getElem? hl)
      have E1 := hide (HX.out.trans hs.out.2.2)
      have hmd := H.out.ex E1.out
      have c0 := hmd.blk.cell 0
      simp at c0
      have hlk := hmd.rows.look hxz
      obtain ⟨r, hr⟩ : ∃ r, r = (f x).getD r0 := ⟨_, rfl⟩
      rw [← hr] at hlk
      have HR := hide (show (rowsL f L)[k]? = some r by rw [rowsL_at hl, hr, hx])
      have HMD := hide hmd
      have HRR := hide hr
      clear hl exs hx hmd hr
      cases hb : P r with
      | false =>
        have HB := hide hb
        have hn1 := hide (take_snoc HR.out P)
        clear hb
        go_wp2_with (go_at_call 23; refine (hcl.out r _ E1.out).mono ?_; rintro e w2 ⟨rfl, x2⟩; rw [HB.out])
        go_roundw
        case rel => exact ⟨k + 1, p, A, cc, by omega, by omega, by go_num, rfl, by rw [hn1.out, HB.out]; simpa using hs.out.1, by rw [hn1.out, HB.out]; simpa using x2.own hs.out.2.1, hs.out.2.2.trans x2⟩
        case measure => simp [intOf]; omega
      | true =>
        have HB := hide hb
        have hn1 := hide (take_snoc HR.out P)
        have hz : w1.heap.size ≤ wr.heap.size := hs.out.2.2.size
        have HXZ := hide hxz
        clear hb
        go_wp2_with (first
          | (go_at_call 23; refine (hcl.out r _ E1.out).mono ?_; rintro e w2 ⟨rfl, x2⟩; rw [HB.out]; have X2 := hide x2; have c02 := (HMD.out.ex x2).blk.cell 0; simp at c02; have hlk2 := (HMD.out.ex x2).rows.look HXZ.out; rw [← HRR.out] at hlk2; simp only [rv] at hlk2; have hz2 : wr.heap.size ≤ w2.heap.size := x2.size; clear x2)
          | (at_builtin; refine wpList_append_any _ rfl (.tmp 27) (.tmp 34) _ rfl w1.heap.size 31 i0 _ 3 48 Try.underlying27 hi0 iz0 iz1 iz2 rfl (by omega) (.slice A p cc) p (rcs (((rowsL f L).take k).filter P)) rfl ((X2.out.own hs.out.2.1).alloc _) _ _ 1 1 (rc r) rfl (reads_blk (m := 3) (Blk.new w2 31 #[.string r.k, .string r.s, .string r.v]) rfl) (by simp [rc, Value.oneCell']) (by unfold maxLen; omega) (by omega) (by simp; omega) ?_; intro v4 w4 ho4 hg4 hat4; obtain ⟨A4, c4, hv4, _⟩ := own_form ho4; subst hv4; have HO4 := hide ho4; have HX4 := hide (Ext.grown (hs.out.2.2.trans (X2.out.alloc _)) hg4 (fun k hk => (hs.out.2.1.lt k hk).1)); clear ho4 hg4 hat4))
        go_roundw
        case rel => exact ⟨k + 1, p + 1, A4, c4, by omega, by omega, by go_num, by go_num, by rw [hn1.out, HB.out]; simp [hs.out.1], by rw [hn1.out, HB.out]; simp only [if_true, rcs_snoc]; exact HO4.out, HX4.out⟩
        case measure => simp [intOf]; omega
    · obtain rfl : k = q := by omega
      have hfin := hide (show GivesR w n f P (.returned (.slice A p cc)) wr from ⟨_, L, rfl, HL.out, by rw [← HQ.out]; exact hqn, by
        have e : (rowsL f L).take k = rowsL f L := List.take_of_length_le (by unfold rowsL; rw [List.length_map, HQ.out]; exact Nat.le_refl _)
        have h1 := hs.out.1
        have h2 := hs.out.2.1
        rw [e] at h1 h2
        rw [h1]
        exact World.ownsRow.mono h2 HX.out.size, HX.out.trans hs.out.2.2⟩)
      clear hs
      go_wp2_with (fail)
      go_ret
      exact hfin.out
set_option maxRecDepth 100000 in
set_option maxHeartbeats 2000000 in
theorem such_ge (W w : World) (g m n : Nat) (f : ByteArray → Option Rw) (q1 : Rw) (sb : Nat) (k1 t1 n1 : Int) (A0 : Option Addr) (l0 c0 : Nat) (hs1 : Stp w sb k1 t1 n1 q1 A0 l0 c0) (h : Md W w g m n f) (hn : n ≤ 1000) :
    Calls Try.prog 18 #[.pointer (some ⟨g, 0, none⟩), .func (.func 19) #[] #[.pointer (some ⟨sb, 0, none⟩)]] w (GivesR w n f (fun r => geK r q1)) := by
  obtain ⟨i0, hi0, iz0, iz1, iz2⟩ := info_parts Try.info31'
  obtain ⟨P, hP⟩ : ∃ P : Rw → Bool, P = (fun r => geK r q1) := ⟨_, rfl⟩
  have hcl := hide (show ∀ (r : Rw) (w' : World), Ext w w' → Calls Try.prog 19 #[rv r, .pointer (some ⟨sb, 0, none⟩)] w' fun e w'' => e = .returned (.bool (P r)) ∧ Ext w' w'' by
    intro r w' hx
    rw [hP]
    exact ge_any r q1 sb k1 t1 n1 A0 l0 c0 w' (hx.blk hs1))
  rw [← hP]
  clear hP hs1
  have c0 := h.blk.cell 0
  simp at c0
  have H := hide h
  clear h
  go_enter Try.func18, Try.ntmps18
  go_wp2_with (go_at_call 27; refine (keys_call (some m) _).mono ?_; rintro e w1 ⟨rfl, rfl⟩)
  refine (sorted_call m n f _ H.out.rows (by omega)).mono ?_
  rintro e w1 ⟨v, L, rfl, h1, h2, h3, h4, h5, h6⟩
  obtain ⟨q, hq⟩ : ∃ q, q = L.length := ⟨_, rfl⟩
  rw [← hq] at h3 h4
  obtain ⟨A1, c1, hv, _⟩ := own_form h4
  subst hv
  have HQ := hide hq
  have HL := hide (show Keys f L from ⟨h1, h2⟩)
  have HO := hide h4
  have HZ := hide h5
  have HX := hide h6
  have hqn : q ≤ n := h3
  clear h1 h2 h3 h4 h5 h6 hq
  go_wp2_with (fail)
  go_loopw [5, 7, 15] (fun s5 _ s15 wr => (∃ (k p : Nat) (A : Option Addr) (cc : Nat), k ≤ q ∧ p ≤ k ∧ s15 = .int .i64 k ∧ s5 = .slice A p cc ∧ Hid ((((rowsL f L).take k).filter P).length = p ∧ wr.ownsRow w1.heap.size 31 3 (.slice A p cc) p (rcs (((rowsL f L).take k).filter P)) ∧ Ext w1 wr))) (fun _ _ s15 _ => (q - intOf s15).toNat)
  case atStart => exact ⟨0, 0, none, 0, by omega, by omega, rfl, rfl, rfl, World.ownsRow_nil _ _ _ _, Ext.refl _⟩
  case round =>
    obtain ⟨k, p, A, cc, hk, hpk, rfl, rfl, hs⟩ := hrel
    by_cases hlt : k < q
    · have hki : (k : Int) < (q : Int) := by omega
      have hk0 : (0 : Int) ≤ (k : Int) := by omega
      obtain ⟨l, hl⟩ : ∃ l, L[k]? = some l := ⟨_, List.getElem?_eq_getElem (by have := HQ.out; omega)⟩
      obtain ⟨bk, c2, hv, _, hbl⟩ := HO.out.form (by omega)
      injection hv with hv1 hv2 hv3
      subst hv1 hv3
      clear hv2
      have hcell : w1.cell? ⟨bk, k, none⟩ = some (encStr l) := by
        have := HO.out.cells (g := bk) rfl k (encStr l) (by rw [sv, List.getElem?_map, hl]; rfl)
        have e : (⟨bk, 0, none⟩ : Addr).add k = ⟨bk, k, none⟩ := by unfold Addr.add; split <;> simp_all
        rwa [e] at this
      have gx := (hs.out.2.2.cell (p := ⟨bk, k, none⟩) hbl).trans hcell
      clear hcell
      obtain ⟨x, hx⟩ : ∃ x, x = bt l := ⟨_, rfl⟩
      have exs : encStr l = .string x := by rw [hx]; rfl
      rw [exs] at gx
      have hxz : Sz x := by unfold Sz; rw [hx, bt_size]; exact HZ.out l (List.mem_of_getElem? hl)
      have E1 := hide (HX.out.trans hs.out.2.2)
      have hmd := H.out.ex E1.out
      have c0 := hmd.blk.cell 0
      simp at c0
      have hlk := hmd.rows.look hxz
      obtain ⟨r, hr⟩ : ∃ r, r = (f x).getD r0 := ⟨_, rfl⟩
      rw [← hr] at hlk
      have HR := hide (show (rowsL f L)[k]? = some r by rw [rowsL_at hl, hr, hx])
      have HMD := hide hmd
      have HRR := hide hr
      clear hl exs hx hmd hr
      cases hb : P r with
      | false =>
        have HB := hide hb
        have hn1 := hide (take_snoc HR.out P)
        clear hb
        go_wp2_with (go_at_call 19; refine (hcl.out r _ E1.out).mono ?_; rintro e w2 ⟨rfl, x2⟩; rw [HB.out])
        go_roundw
        case rel => exact ⟨k + 1, p, A, cc, by omega, by omega, by go_num, rfl, by rw [hn1.out, HB.out]; simpa using hs.out.1, by rw [hn1.out, HB.out]; simpa using x2.own hs.out.2.1, hs.out.2.2.trans x2⟩
        case measure => simp [intOf]; omega
      | true =>
        have HB := hide hb
        have hn1 := hide (take_snoc HR.out P)
        have hz : w1.heap.size ≤ wr.heap.size := hs.out.2.2.size
        have HXZ := hide hxz
        clear hb
        go_wp2_with (first
          | (go_at_call 19; refine (hcl.out r _ E1.out).mono ?_; rintro e w2 ⟨rfl, x2⟩; rw [HB.out]; have X2 := hide x2; have c02 := (HMD.out.ex x2).blk.cell 0; simp at c02; have hlk2 := (HMD.out.ex x2).rows.look HXZ.out; rw [← HRR.out] at hlk2; simp only [rv] at hlk2; have hz2 : wr.heap.size ≤ w2.heap.size := x2.size; clear x2)
          | (at_builtin; refine wpList_append_any _ rfl (.tmp 27) (.tmp 34) _ rfl w1.heap.size 31 i0 _ 3 48 Try.underlying27 hi0 iz0 iz1 iz2 rfl (by omega) (.slice A p cc) p (rcs (((rowsL f L).take k).filter P)) rfl ((X2.out.own hs.out.2.1).alloc _) _ _ 1 1 (rc r) rfl (reads_blk (m := 3) (Blk.new w2 31 #[.string r.k, .string r.s, .string r.v]) rfl) (by simp [rc, Value.oneCell']) (by unfold maxLen; omega) (by omega) (by simp; omega) ?_; intro v4 w4 ho4 hg4 hat4; obtain ⟨A4, c4, hv4, _⟩ := own_form ho4; subst hv4; have HO4 := hide ho4; have HX4 := hide (Ext.grown (hs.out.2.2.trans (X2.out.alloc _)) hg4 (fun k hk => (hs.out.2.1.lt k hk).1)); clear ho4 hg4 hat4))
        go_roundw
        case rel => exact ⟨k + 1, p + 1, A4, c4, by omega, by omega, by go_num, by go_num, by rw [hn1.out, HB.out]; simp [hs.out.1], by rw [hn1.out, HB.out]; simp only [if_true, rcs_snoc]; exact HO4.out, HX4.out⟩
        case measure => simp [intOf]; omega
    · obtain rfl : k = q := by omega
      have hfin := hide (show GivesR w n f P (.returned (.slice A p cc)) wr from ⟨_, L, rfl, HL.out, by rw [← HQ.out]; exact hqn, by
        have e : (rowsL f L).take k = rowsL f L := List.take_of_length_le (by unfold rowsL; rw [List.length_map, HQ.out]; exact Nat.le_refl _)
        have h1 := hs.out.1
        have h2 := hs.out.2.1
        rw [e] at h1 h2
        rw [h1]
        exact World.ownsRow.mono h2 HX.out.size, HX.out.trans hs.out.2.2⟩)
      clear hs
      go_wp2_with (fail)
      go_ret
      exact hfin.out
set_option maxRecDepth 100000 in
set_option maxHeartbeats 2000000 in
theorem such_eq (W w : World) (g m n : Nat) (f : ByteArray → Option Rw) (q1 : Rw) (sb : Nat) (k1 t1 n1 : Int) (A0 : Option Addr) (l0 c0 : Nat) (hs1 : Stp w sb k1 t1 n1 q1 A0 l0 c0) (h : Md W w g m n f) (hn : n ≤ 1000) :
    Calls Try.prog 18 #[.pointer (some ⟨g, 0, none⟩), .func (.func 20) #[] #[.pointer (some ⟨sb, 0, none⟩)]] w (GivesR w n f (fun r => eqS r q1)) := by
  obtain ⟨i0, hi0, iz0, iz1, iz2⟩ := info_parts Try.info31'
  obtain ⟨P, hP⟩ : ∃ P : Rw → Bool, P = (fun r => eqS r q1) := ⟨_, rfl⟩
  have hcl := hide (show ∀ (r : Rw) (w' : World), Ext w w' → Calls Try.prog 20 #[rv r, .pointer (some ⟨sb, 0, none⟩)] w' fun e w'' => e = .returned (.bool (P r)) ∧ Ext w' w'' by
    intro r w' hx
    rw [hP]
    exact eq_any r q1 sb k1 t1 n1 A0 l0 c0 w' (hx.blk hs1))
  rw [← hP]
  clear hP hs1
  have c0 := h.blk.cell 0
  simp at c0
  have H := hide h
  clear h
  go_enter Try.func18, Try.ntmps18
  go_wp2_with (go_at_call 27; refine (keys_call (some m) _).mono ?_; rintro e w1 ⟨rfl, rfl⟩)
  refine (sorted_call m n f _ H.out.rows (by omega)).mono ?_
  rintro e w1 ⟨v, L, rfl, h1, h2, h3, h4, h5, h6⟩
  obtain ⟨q, hq⟩ : ∃ q, q = L.length := ⟨_, rfl⟩
  rw [← hq] at h3 h4
  obtain ⟨A1, c1, hv, _⟩ := own_form h4
  subst hv
  have HQ := hide hq
  have HL := hide (show Keys f L from ⟨h1, h2⟩)
  have HO := hide h4
  have HZ := hide h5
  have HX := hide h6
  have hqn : q ≤ n := h3
  clear h1 h2 h3 h4 h5 h6 hq
  go_wp2_with (fail)
  go_loopw [5, 7, 15] (fun s5 _ s15 wr => (∃ (k p : Nat) (A : Option Addr) (cc : Nat), k ≤ q ∧ p ≤ k ∧ s15 = .int .i64 k ∧ s5 = .slice A p cc ∧ Hid ((((rowsL f L).take k).filter P).length = p ∧ wr.ownsRow w1.heap.size 31 3 (.slice A p cc) p (rcs (((rowsL f L).take k).filter P)) ∧ Ext w1 wr))) (fun _ _ s15 _ => (q - intOf s15).toNat)
  case atStart => exact ⟨0, 0, none, 0, by omega, by omega, rfl, rfl, rfl, World.ownsRow_nil _ _ _ _, Ext.refl _⟩
  case round =>
    obtain ⟨k, p, A, cc, hk, hpk, rfl, rfl, hs⟩ := hrel
    by_cases hlt : k < q
    · have hki : (k : Int) < (q : Int) := by omega
      have hk0 : (0 : Int) ≤ (k : Int) := by omega
      obtain ⟨l, hl⟩ : ∃ l, L[k]? = some l := ⟨_, List.getElem?_eq_getElem (by have := HQ.out; omega)⟩
      obtain ⟨bk, c2, hv, _, hbl⟩ := HO.out.form (by omega)
      injection hv with hv1 hv2 hv3
      subst hv1 hv3
      clear hv2
      have hcell : w1.cell? ⟨bk, k, none⟩ = some (encStr l) := by
        have := HO.out.cells (g := bk) rfl k (encStr l) (by rw [sv, List.getElem?_map, hl]; rfl)
        have e : (⟨bk, 0, none⟩ : Addr).add k = ⟨bk, k, none⟩ := by unfold Addr.add; split <;> simp_all
        rwa [e] at this
      have gx := (hs.out.2.2.cell (p := ⟨bk, k, none⟩) hbl).trans hcell
      clear hcell
      obtain ⟨x, hx⟩ : ∃ x, x = bt l := ⟨_, rfl⟩
      have exs : encStr l = .string x := by rw [hx]; rfl
      rw [exs] at gx
      have hxz : Sz x := by unfold Sz; rw [hx, bt_size]; exact HZ.out l (List.mem_of_getElem? hl)
      have E1 := hide (HX.out.trans hs.out.2.2)
      have hmd := H.out.ex E1.out
      have c0 := hmd.blk.cell 0
      simp at c0
      have hlk := hmd.rows.look hxz
      obtain ⟨r, hr⟩ : ∃ r, r = (f x).getD r0 := ⟨_, rfl⟩
      rw [← hr] at hlk
      have HR := hide (show (rowsL f L)[k]? = some r by rw [rowsL_at hl, hr, hx])
      have HMD := hide hmd
      have HRR := hide hr
      clear hl exs hx hmd hr
      cases hb : P r with
      | false =>
        have HB := hide hb
        have hn1 := hide (take_snoc HR.out P)
        clear hb
        go_wp2_with (go_at_call 20; refine (hcl.out r _ E1.out).mono ?_; rintro e w2 ⟨rfl, x2⟩; rw [HB.out])
        go_roundw
        case rel => exact ⟨k + 1, p, A, cc, by omega, by omega, by go_num, rfl, by rw [hn1.out, HB.out]; simpa using hs.out.1, by rw [hn1.out, HB.out]; simpa using x2.own hs.out.2.1, hs.out.2.2.trans x2⟩
        case measure => simp [intOf]; omega
      | true =>
        have HB := hide hb
        have hn1 := hide (take_snoc HR.out P)
        have hz : w1.heap.size ≤ wr.heap.size := hs.out.2.2.size
        have HXZ := hide hxz
        clear hb
        go_wp2_with (first
          | (go_at_call 20; refine (hcl.out r _ E1.out).mono ?_; rintro e w2 ⟨rfl, x2⟩; rw [HB.out]; have X2 := hide x2; have c02 := (HMD.out.ex x2).blk.cell 0; simp at c02; have hlk2 := (HMD.out.ex x2).rows.look HXZ.out; rw [← HRR.out] at hlk2; simp only [rv] at hlk2; have hz2 : wr.heap.size ≤ w2.heap.size := x2.size; clear x2)
          | (at_builtin; refine wpList_append_any _ rfl (.tmp 27) (.tmp 34) _ rfl w1.heap.size 31 i0 _ 3 48 Try.underlying27 hi0 iz0 iz1 iz2 rfl (by omega) (.slice A p cc) p (rcs (((rowsL f L).take k).filter P)) rfl ((X2.out.own hs.out.2.1).alloc _) _ _ 1 1 (rc r) rfl (reads_blk (m := 3) (Blk.new w2 31 #[.string r.k, .string r.s, .string r.v]) rfl) (by simp [rc, Value.oneCell']) (by unfold maxLen; omega) (by omega) (by simp; omega) ?_; intro v4 w4 ho4 hg4 hat4; obtain ⟨A4, c4, hv4, _⟩ := own_form ho4; subst hv4; have HO4 := hide ho4; have HX4 := hide (Ext.grown (hs.out.2.2.trans (X2.out.alloc _)) hg4 (fun k hk => (hs.out.2.1.lt k hk).1)); clear ho4 hg4 hat4))
        go_roundw
        case rel => exact ⟨k + 1, p + 1, A4, c4, by omega, by omega, by go_num, by go_num, by rw [hn1.out, HB.out]; simp [hs.out.1], by rw [hn1.out, HB.out]; simp only [if_true, rcs_snoc]; exact HO4.out, HX4.out⟩
        case measure => simp [intOf]; omega
    · obtain rfl : k = q := by omega
      have hfin := hide (show GivesR w n f P (.returned (.slice A p cc)) wr from ⟨_, L, rfl, HL.out, by rw [← HQ.out]; exact hqn, by
        have e : (rowsL f L).take k = rowsL f L := List.take_of_length_le (by unfold rowsL; rw [List.length_map, HQ.out]; exact Nat.le_refl _)
        have h1 := hs.out.1
        have h2 := hs.out.2.1
        rw [e] at h1 h2
        rw [h1]
        exact World.ownsRow.mono h2 HX.out.size, HX.out.trans hs.out.2.2⟩)
      clear hs
      go_wp2_with (fail)
      go_ret
      exact hfin.out
end Go.Proofs.Ytjjilaanlhpogaa
