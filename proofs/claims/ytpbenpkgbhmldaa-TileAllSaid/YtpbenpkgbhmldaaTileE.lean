/- Tile: the document's disk: contracts: Arm, Read, Loose. -/
import Derived.Test.YtpbenpkgbhmldaaTileV
import Derived.Lib.ConvBytes
namespace Go.Proofs.Ytpbenpkgbhmldaa
open Go.ChangeShapes Go.WideShapes Go.ChangeAt Go.RowKit Go.Maps
set_option linter.unusedVariables false

theorem Rk.arm {B : Nat} {w : World} {b n : Nat} {A1 A2 A3 Am A' : Option Addr} {c1 c2 c3 km cm m c' : Nat} {T V : List (List UInt8)} {L : List Bool} {dead on ao : Bool} {pa a : Int} {M M' : List UInt8} (h : Rk B w b n A1 A2 A3 Am c1 c2 c3 km cm T V L dead on pa M)
    (ho : w.ownsRow B 5 1 (.slice A' m c') m (bv M')) (hm : m ≤ 1048576) :
    Rk B (((w.setCell ⟨b, 4, none⟩ (.bool ao)).setCell ⟨b, 5, none⟩ (.int .i64 a)).setCell ⟨b, 6, none⟩ (.slice A' m c')) b n A1 A2 A3 A' c1 c2 c3 m c' T V L dead ao a M' ∧ RTurn B w (((w.setCell ⟨b, 4, none⟩ (.bool ao)).setCell ⟨b, 5, none⟩ (.int .i64 a)).setCell ⟨b, 6, none⟩ (.slice A' m c')) := by
  have ht : Touch w (((w.setCell ⟨b, 4, none⟩ (.bool ao)).setCell ⟨b, 5, none⟩ (.int .i64 a)).setCell ⟨b, 6, none⟩ (.slice A' m c')) (fun k => k = b) := Touch.setCell (p := ⟨b, 6, none⟩) (Touch.setCell (p := ⟨b, 5, none⟩) (tset' w b 4 _) (fun _ => rfl) _) (fun _ => rfl) _
  exact ⟨⟨by have := ((h.blk.set_ 4 (.bool ao)).set_ 5 (.int .i64 a)).set_ 6 (.slice A' m c'); simpa using this, ownsRow_touch ht h.now (fun k hk e => by subst e; exact own_blk_ne h.now h.blk (by decide) hk), ownsRow_touch ht h.was (fun k hk e => by subst e; exact own_blk_ne h.was h.blk (by decide) hk), ownsRow_touch ht h.wet (fun k hk e => by subst e; exact own_blk_ne h.wet h.blk (by decide) hk), h.ne, ownsRow_touch ht ho (fun k hk e => by subst e; exact own_blk_ne ho h.blk (by decide) hk), h.hb, hm⟩,
    RTurn.of_touch ht (fun k e => by subst e; exact ⟨h.hb, _, _, h.blk, .inl rfl⟩)⟩
section
variable {B : Nat} {w : World} {b : Nat} {T : List (List UInt8)} {U : Int → Option (List UInt8)} {pl : Option (Int × List UInt8)} {dead : Bool}
set_option maxRecDepth 100000 in
set_option maxHeartbeats 8000000 in
theorem rarm_any (a : Int) (M' : List UInt8) (A : Option Addr) (m c : Nat) (h : Rf B w b dead T U pl) (hl : M'.length = m) (hm : m ≤ 1000000) (hr : Reads w w.heap.size 1 A m (bv M')) :
    Calls Try.prog 27 #[.pointer (some ⟨b, 0, none⟩), .int .i64 a, .slice A m c] w fun e w' => e = .returned (.tuple #[]) ∧ Rf B w' b dead T U (armed a M') ∧ RTurn B w w' := by
  obtain ⟨A1, A2, A3, Am, c1, c2, c3, km, cm, on, pa, M, h, e⟩ := h
  obtain ⟨i0, hi0, hz0, hz1, hz2⟩ := info_parts Try.info5'
  have H := hide h
  obtain ⟨y0, y1, y2, y3, y4, y5, y6⟩ := h.cells
  have hbw : b < w.heap.size := h.blk.lt
  have hB := h.hb
  obtain ⟨n, hn⟩ : ∃ n, n = T.length := ⟨_, rfl⟩
  rw [← hn] at H y0 y1 y2
  have HN := hide hn
  have HL := hide hl
  have hown' := hide (show (w.alloc (.cells #[] 5)).ownsRow B 5 1 (.slice (some ⟨w.heap.size, 0, none⟩) 0 0) 0 [] from World.ownsRow_made w #[] 0 (by omega) (Nat.zero_le _) rfl)
  have hr1 := hide (hr.alloc (Nat.le_refl _) (.cells #[] 5))
  obtain ⟨ao, hao⟩ : ∃ ao, ao = decide (0 ≤ a) := ⟨_, rfl⟩
  have HAO := hide hao
  have HAD := hide (show armed a M' = (if ao then some (a, M') else none) by
    rw [hao]
    unfold armed
    by_cases h0 : a < 0
    · rw [if_pos h0, if_neg (by simp; omega)]
    · rw [if_neg h0, if_pos (by simp; omega)])
  have dao : decide ((0 : Int) ≤ a) = ao := hao.symm
  clear h e hn hl hr hao
  go_enter Try.func27, Try.ntmps27
  go_wp2_with (at_builtin; refine wpList_append_any _ rfl (.tmp 12) (.tmp 13) _ rfl B 5 i0 _ 1 1 Try.underlying22 hi0 hz0 hz1 hz2 rfl (by omega) (.slice (some ⟨w.heap.size, 0, none⟩) 0 0) 0 [] rfl hown'.out w.heap.size A m c (bv M') rfl hr1.out (bv_one M') (by simp only [maxLen]; omega) (by omega) (by simp; omega) ?_; intro v1 w1 hown1 hg1 hat1; have X1 := hide (Ext.grown (Ext.new w (.cells #[] 5)) hg1 (fun k hk => by simp [Value.ownBlock] at hk; omega)); obtain ⟨A', c', hv', _⟩ := own_form hown1; subst hv'; have O1 := hide hown1; clear hown1 hg1 hat1; have Q := hide (X1.out.blk H.out.blk); obtain ⟨q0, q1, q2, q3, q4, q5, q6⟩ := Q.out.cells7; have q4f := Q.out.frozen 4; have q5f := Q.out.frozen 5; have q6f := Q.out.frozen 6)
  go_end0
  have O2 := O1.out
  simp only [Nat.zero_add, List.nil_append] at O2
  obtain ⟨f1, f2⟩ := (H.out.ext X1.out).arm (ao := ao) (a := a) O2 (by omega)
  have hh : Rf B (((w1.setCell ⟨b, 4, none⟩ (.bool ao)).setCell ⟨b, 5, none⟩ (.int .i64 a)).setCell ⟨b, 6, none⟩ (.slice A' m c')) b dead T U (armed a M') := by
    rw [HAD.out]
    rw [HN.out] at f1
    exact ⟨_, _, _, _, _, _, _, _, _, _, _, _, f1, rfl⟩
  exact ⟨rfl, hh, (RTurn.of_ext X1.out).trans f2⟩
theorem rread_dead (x : Int) (h : Rf B w b true T U pl) :
    Calls Try.prog 40 #[.pointer (some ⟨b, 0, none⟩), .int .i64 x] w fun e w' => e = .returned (.tuple #[.slice none 0 0, .int .i64 2]) ∧ w = w' := by
  obtain ⟨A1, A2, A3, Am, c1, c2, c3, km, cm, on, pa, M, h, e⟩ := h
  obtain ⟨y0, y1, y2, y3, y4, y5, y6⟩ := h.cells
  clear h e
  go_enter Try.func40, Try.ntmps40
  go_wp2
  go_ret2
  exact ⟨rfl, rfl⟩
theorem rread_out (x : Int) (h : Rf B w b false T U pl) (hx : x < 0 ∨ (T.length : Int) ≤ x) :
    Calls Try.prog 40 #[.pointer (some ⟨b, 0, none⟩), .int .i64 x] w fun e w' => e = .returned (.tuple #[.slice none 0 0, .int .i64 1]) ∧ w = w' := by
  obtain ⟨A1, A2, A3, Am, c1, c2, c3, km, cm, on, pa, M, h, e⟩ := h
  obtain ⟨y0, y1, y2, y3, y4, y5, y6⟩ := h.cells
  clear h e
  by_cases h0 : x < 0
  · have d0 : decide (x < 0) = true := decide_eq_true h0
    clear hx
    go_enter Try.func40, Try.ntmps40
    go_wp2
    go_ret2
    exact ⟨rfl, rfl⟩
  · have d0 : decide (x < 0) = false := decide_eq_false h0
    have d1 : decide ((T.length : Int) ≤ x) = true := decide_eq_true (by omega)
    clear hx
    go_enter Try.func40, Try.ntmps40
    go_wp2
    go_ret2
    exact ⟨rfl, rfl⟩
theorem str_size (l : List UInt8) : (str l).size = l.length := by simp [str, ByteArray.size]
theorem bytes_ext (w : World) (s : ByteArray) : Ext w (Lib.bytesWorld w 5 s) :=
  ⟨rfl, rfl, rfl, by have := Lib.bytesWorld_size w 5 s; omega, fun k hk => Lib.bytesWorld_at_old w 5 s k hk⟩
theorem bytes_reads (w : World) (l : List UInt8) (n : Nat) (hl : l.length = n) : Reads (Lib.bytesWorld w 5 (str l)) (Lib.bytesWorld w 5 (str l)).heap.size 1 (some ⟨w.heap.size, 0, none⟩) n (bv l) := by
  refine ⟨by simp [bv, hl], fun hn => ⟨_, rfl, by have := Lib.bytesWorld_size w 5 (str l); show w.heap.size < _; omega, fun j u hu => ?_⟩⟩
  have hj : j < l.length := by have := (List.getElem?_eq_some_iff.1 hu).1; simpa [bv] using this
  have e : (⟨w.heap.size, 0, none⟩ : Addr).add j = ⟨w.heap.size, j, none⟩ := by unfold Addr.add; split <;> simp_all
  rw [e, Lib.bytesWorld_cell w 5 (str l) j (by rw [str_size]; exact hj)]
  rw [← hu]
  simp [bv, str, List.getD, List.getElem?_eq_getElem hj]
set_option maxRecDepth 100000 in
theorem rread_in (k : Nat) (l : List UInt8) (h : Rf B w b false T U pl) (hk : T[k]? = some l) (hl : l.length = 64) :
    Calls Try.prog 40 #[.pointer (some ⟨b, 0, none⟩), .int .i64 k] w fun e w' => ∃ A c, e = .returned (.tuple #[.slice A 64 c, .int .i64 0]) ∧ Reads w' w'.heap.size 1 A 64 (bv l) ∧ Ext w w' := by
  obtain ⟨A1, A2, A3, Am, c1, c2, c3, km, cm, on, pa, M, h, e⟩ := h
  obtain ⟨y0, y1, y2, y3, y4, y5, y6⟩ := h.cells
  have hkl : k < T.length := (List.getElem?_eq_some_iff.1 hk).1
  obtain ⟨g1, g2, g3, t, v, x, rfl, rfl, rfl, p1, p2, p3, z1, z2, z3, f1, f2, f3, n12, n13, n23, nb1, nb2, nb3⟩ := h.at_ hkl
  rw [hk] at p1
  obtain rfl : l = t := by injection p1
  have hcv := Lib.run_convert_string_bytes (P := Try.prog) w 9 22 5 (str l) Try.underlying9 Try.underlying22 Try.underlying5
  rw [str_size, hl] at hcv
  have HF := hide (bytes_ext w (str l))
  have HR := hide (bytes_reads w l 64 hl)
  have hki : (k : Int) < (T.length : Int) := by omega
  have d0 : decide ((k : Int) < 0) = false := decide_eq_false (by omega)
  have d1 : decide (T.length ≤ k) = false := decide_eq_false (by omega)
  clear h e p1 p2 p3 hk hl
  go_enter Try.func40, Try.ntmps40
  go_wp2
  go_ret2
  exact ⟨_, _, rfl, HR.out, HF.out⟩
theorem keysTo_succ (U : Int → Option (List UInt8)) (i : Nat) (x : Bool) (h : (U (i : Nat)).isSome = x) : keysTo U (i + 1) = keysTo U i ++ (if x then [(i : Int)] else []) := by
  subst h
  rfl
theorem Try.info3' : (Try.prog.info? 3).map (fun i => (i.zero, i.size, i.bytes)) = some (some (.int .i64 0), 1, 8) := by kernel_rfl
set_option maxRecDepth 100000 in
set_option maxHeartbeats 8000000 in
theorem rloose_any (h : Rf B w b dead T U pl) (hT : T.length ≤ 2000) :
    Calls Try.prog 39 #[.pointer (some ⟨b, 0, none⟩)] w fun e w' => ∃ A c, e = .returned (.slice A (cnt U T.length) c) ∧ w'.ownsRow w.heap.size 3 1 (.slice A (cnt U T.length) c) (cnt U T.length) (iv (keysTo U T.length)) ∧ Ext w w' := by
  obtain ⟨A1, A2, A3, Am, c1, c2, c3, km, cm, on, pa, M, h, e⟩ := h
  obtain ⟨i0, hi0, hz0, hz1, hz2⟩ := info_parts Try.info3'
  have H := hide h
  obtain ⟨y0, y1, y2, y3, y4, y5, y6⟩ := h.cells
  obtain ⟨n, hn⟩ : ∃ n, n = T.length := ⟨_, rfl⟩
  rw [← hn] at H y0 y1 y2 hT ⊢
  have HN := hide hn
  have hn2 : n ≤ 2000 := by omega
  clear h e hn
  go_enter Try.func39, Try.ntmps39
  go_wp2_with (fail)
  go_loopw [3, 4] (fun s3 s4 wr => (∃ i : Nat, i ≤ n ∧ s4 = .int .i64 i ∧ Hid (∃ A c, s3 = .slice A (cnt U i) c ∧ wr.ownsRow w.heap.size 3 1 (.slice A (cnt U i) c) (cnt U i) (iv (keysTo U i)) ∧ Ext w wr))) (fun _ s4 _ => (n - intOf s4).toNat)
  case atStart => exact ⟨0, by omega, rfl, none, 0, rfl, World.ownsRow_nil _ _ _ _, Ext.refl _⟩
  case round =>
    obtain ⟨i, hi, rfl, hs⟩ := hrel
    obtain ⟨A, c, rfl, ho, hx⟩ := hs.out
    obtain ⟨k, hk⟩ : ∃ k, k = cnt U i := ⟨_, rfl⟩
    rw [← hk] at ho ⊢
    have HK := hide hk
    have hkn : k ≤ i := by rw [hk]; exact cnt_le _ _
    have HO := hide ho
    have HX := hide hx
    clear hk hs ho hx
    obtain ⟨y0, y1, y2, y3, y4, y5, y6⟩ := (H.out.ext HX.out).cells
    by_cases hlt : i < n
    · obtain ⟨g1, g2, g3, t, v, l, rfl, rfl, rfl, p1, p2, p3, z1, z2, z3, f1, f2, f3, n12, n13, n23, nb1, nb2, nb3⟩ := (H.out.ext HX.out).at_ hlt
      have hii : (i : Int) < (n : Int) := by omega
      have hi0' : (0 : Int) ≤ (i : Int) := by omega
      have hU : (U (i : Nat)).isSome = l := by
        rw [lL_get, if_pos (by rw [← HN.out]; exact hlt)] at p3
        injection p3
      have HKS := hide (keysTo_succ U i l hU)
      have HC := hide (show cnt U (i + 1) = k + (if l then 1 else 0) by rw [HK.out, ← hU]; rfl)
      clear p1 p2 p3 hU
      cases l with
      | false =>
        go_wp2_with (fail)
        go_roundw
        case rel => exact ⟨i + 1, by omega, by go_num, A, c, by rw [HC.out]; rfl, by rw [HC.out, HKS.out]; simpa using HO.out, HX.out⟩
        case measure => simp [intOf]; omega
      | true =>
        have hB := HX.out.size
        have hr1 := hide (reads_blk (m := 1) (Blk.new wr 3 #[.int .i64 (i : Int)]) rfl)
        go_wp2_with (at_builtin; refine wpList_append_any _ rfl (.tmp 21) (.tmp 23) _ rfl w.heap.size 3 i0 _ 1 8 Try.underlying41 hi0 hz0 hz1 hz2 rfl (by omega) (.slice A k c) k (iv (keysTo U i)) rfl (HO.out.alloc _) _ _ 1 1 [.int .i64 (i : Int)] rfl hr1.out (by simp [Value.oneCell']) (by unfold maxLen; omega) (by omega) (by simp; omega) ?_; intro v1 w1 hown1 hg1 hat1; have X1 := hide (Ext.grown (Ext.alloc HX.out (.cells #[.int .i64 (i : Int)] 3)) hg1 (fun k hk => (HO.out.lt k hk).1)); obtain ⟨A', c', hv', _⟩ := own_form hown1; subst hv'; have O1 := hide hown1; clear hown1 hg1 hat1)
        go_roundw
        case rel => exact ⟨i + 1, by omega, by go_num, A', c', by rw [HC.out]; rfl, by rw [HC.out, HKS.out]; simpa [iv] using O1.out, X1.out⟩
        case measure => simp [intOf]; omega
    · obtain rfl : i = n := by omega
      have HF := hide (show wr.ownsRow w.heap.size 3 1 (.slice A (cnt U i) c) (cnt U i) (iv (keysTo U i)) by rw [← HK.out]; exact HO.out)
      go_wp2_with (fail)
      go_ret
      exact ⟨A, c, by rw [← HK.out]; rfl, HF.out, HX.out⟩
end
end Go.Proofs.Ytpbenpkgbhmldaa
