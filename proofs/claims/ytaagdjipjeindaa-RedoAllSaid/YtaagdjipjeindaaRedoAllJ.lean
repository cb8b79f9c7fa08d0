/- RedoAll: the arguments opened. -/
import Derived.Test.YtaagdjipjeindaaRedoAllW
namespace Go.Proofs.Ytaagdjipjeindaa.redoAll
open Go.ChangeShapes Go.WideShapes Go.ChangeAt Go.RowKit
set_option linter.unusedVariables false

section
variable {H : Type} {enc : TypeId × Value → H} {P : Program} {w : World} {base : Nat} {spare : Nat → Bool} {held : Bool}
theorem open_slice_data {t e m : Nat} {fuel : Nat} {cs : List Value} {x : DataW H × List MemPlace} (ht : P.underlying t = some (.slice e)) (hm : P.cellsOf e = m) (hm0 : 0 < m)
    (h : DataW.trod enc P w base spare held fuel t cs = some x) :
    ∃ (A : Option Addr) (n c : Nat) (xs : List Value), cs = [.slice A n c] ∧ n ≤ c ∧ c ≤ maxLen ∧ (A = none → n = 0 ∧ c = 0) ∧ Reads w w.heap.size m A n xs ∧
      ∀ i, i < n → ∃ (f : Nat) (y : DataW H × List MemPlace) (es sp : List (DataW H)), DataW.trod enc P w base spare held f e ((xs.drop (i * m)).take m) = some y ∧ x.1 = .slice es sp ∧ es.length = n ∧ y.1 ∈ es := by
  rcases Go.Deep.open_slice ht h with ⟨rfl, _⟩ | ⟨a, len, cap, m', n', D, Pl, rfl, hb, hl, hcm, hmm, hx, hi⟩
  · exact ⟨none, 0, 0, [], rfl, Nat.le_refl _, Nat.zero_le _, fun _ => ⟨rfl, rfl⟩, Reads.none_, fun i hi => absurd hi (by omega)⟩
  · have hlen : len ≤ m' := by rw [hmm]; split <;> omega
    have key : ∀ k, k ≤ len → ∃ xs : List Value, xs.length = k * m ∧ (∀ j u, xs[j]? = some u → w.cell? (a.add j) = some u) ∧
        ∀ i, i < k → ∃ (f : Nat), DataW.trod enc P w base spare held f e ((xs.drop (i * m)).take m) = some (D i, Pl i) := by
      intro k
      induction k with
      | zero => intro _; exact ⟨[], by simp, by simp, fun i hi => absurd hi (by omega)⟩
      | succ k ih =>
        intro hk
        obtain ⟨xs, hx1, hx2, hx3⟩ := ih (by omega)
        obtain ⟨cs', hc, ht'⟩ := hi k (by omega)
        rw [hm] at hc
        obtain ⟨_, hcl, hat⟩ := World.cells?_some hc
        refine ⟨xs ++ cs', by rw [List.length_append, hx1, hcl, Nat.add_mul]; omega, fun j u hu => ?_, fun i hik => ?_⟩
        · by_cases hj : j < xs.length
          · rw [List.getElem?_append_left hj] at hu
            exact hx2 j u hu
          · rw [List.getElem?_append_right (by omega)] at hu
            have hjl : j - xs.length < cs'.length := (List.getElem?_eq_some_iff.1 hu).1
            have h1 := hat (j - xs.length) (by omega)
            rw [Go.Deep.add_add, ← hx1] at h1
            rw [show xs.length + (j - xs.length) = j by omega] at h1
            rw [h1, ← hu]
        · by_cases hik' : i < k
          · obtain ⟨f, hy⟩ := hx3 i hik'
            refine ⟨f, ?_⟩
            have hle : i * m + m ≤ xs.length := by
              rw [hx1, ← Nat.succ_mul]
              exact Nat.mul_le_mul_right m hik'
            rw [List.drop_append_of_le_length (by omega), List.take_append_of_le_length (by rw [List.length_drop]; omega)]
            exact hy
          · obtain rfl : i = k := by omega
            refine ⟨n', ?_⟩
            rw [← hx1, List.drop_left, ← hcl, List.take_length]
            exact ht'
    obtain ⟨xs, hx1, hx2, hx3⟩ := key len (Nat.le_refl _)
    refine ⟨some a, len, cap, xs, rfl, hl, hcm, (fun h => by cases h), ⟨hx1, fun hn => ⟨a, rfl, ?_, hx2⟩⟩, fun i hi => ?_⟩
    · have h0 : 0 < xs.length := by rw [hx1]; exact Nat.mul_pos hn hm0
      have := World.block_lt_of_cell? w _ (hx2 0 _ (List.getElem?_eq_getElem h0))
      simpa [block_of_add] using this
    · obtain ⟨f, hf⟩ := hx3 i hi
      exact ⟨f, (D i, Pl i), _, _, hf, by rw [hx], by simp, by simp; exact ⟨i, hi, rfl⟩⟩
end
theorem cells3 : Try.prog.cellsOf 3 = 1 := by kernel_rfl
theorem cells5 : Try.prog.cellsOf 5 = 1 := by kernel_rfl
theorem cells22 : Try.prog.cellsOf 22 = 1 := by kernel_rfl
theorem cells25 : Try.prog.cellsOf 25 = 2 := by kernel_rfl
theorem cells26 : Try.prog.cellsOf 26 = 1 := by kernel_rfl
theorem cells27 : Try.prog.cellsOf 27 = 1 := by kernel_rfl
theorem cells28 : Try.prog.cellsOf 28 = 1 := by kernel_rfl
theorem cells29 : Try.prog.cellsOf 29 = 1 := by kernel_rfl
theorem cells31 : Try.prog.cellsOf 31 = 16 := by kernel_rfl
theorem cells54 : Try.prog.cellsOf 54 = 4 := by kernel_rfl
section
variable {H : Type} {enc : TypeId × Value → H} {w : World} {base : Nat} {spare : Nat → Bool} {held : Bool}
theorem one_int {fuel : Nat} {c : Value} {x : DataW H × List MemPlace} (h : DataW.trod enc Try.prog w base spare held fuel 3 [c] = some x) : ∃ a : Int, c = .int .i64 a := by
  obtain ⟨a, ha, _, wa⟩ := DataW.trod_int Try.underlying3 h
  simp at ha
  exact ⟨a, ha⟩
theorem some_of {α : Type} {l : List α} {n : Nat} (h : n < l.length) : ∃ y, l[n]? = some y := ⟨_, List.getElem?_eq_getElem h⟩
set_option maxRecDepth 100000 in
theorem open_rid {fuel : Nat} {cs : List Value} {x : DataW H × List MemPlace} (h : DataW.trod enc Try.prog w base spare held fuel 25 cs = some x) : ∃ a b : Int, cs = [.int .i64 a, .int .i64 b] := by
  obtain ⟨xs, n, _, _, hlen, hxl, hf⟩ := DataW.trod_struct Try.underlying25 h
  rw [cells25] at hlen
  match cs, hlen with
  | [c0, c1], _ =>
    obtain ⟨y0, h0⟩ := some_of (l := xs) (n := 0) (by rw [hxl]; decide)
    obtain ⟨y1, h1⟩ := some_of (l := xs) (n := 1) (by rw [hxl]; decide)
    have g0 := (hf 0 _ rfl).trans h0
    have g1 := (hf 1 _ rfl).trans h1
    simp [cells3] at g0 g1
    obtain ⟨a, rfl⟩ := one_int g0
    obtain ⟨b, rfl⟩ := one_int g1
    exact ⟨a, b, rfl⟩
set_option maxRecDepth 100000 in
theorem open_move {fuel : Nat} {cs : List Value} {x : DataW H × List MemPlace} (h : DataW.trod enc Try.prog w base spare held fuel 54 cs = some x) : ∃ a b c d : Int, cs = [.int .i64 a, .int .i64 b, .int .i64 c, .int .i64 d] := by
  obtain ⟨xs, n, _, _, hlen, hxl, hf⟩ := DataW.trod_struct Try.underlying54 h
  rw [cells54] at hlen
  match cs, hlen with
  | [c0, c1, c2, c3], _ =>
    obtain ⟨y0, h0⟩ := some_of (l := xs) (n := 0) (by rw [hxl]; decide)
    obtain ⟨y1, h1⟩ := some_of (l := xs) (n := 1) (by rw [hxl]; decide)
    have g0 := (hf 0 _ rfl).trans h0
    have g1 := (hf 1 _ rfl).trans h1
    simp [cells25] at g0 g1
    obtain ⟨a, b, e0⟩ := open_rid g0
    obtain ⟨c, d, e1⟩ := open_rid g1
    simp at e0 e1
    obtain ⟨rfl, rfl⟩ := e0
    obtain ⟨rfl, rfl⟩ := e1
    exact ⟨a, b, c, d, rfl⟩
theorem mv_of : ∀ (n : Nat) (xs : List Value), xs.length = n * 4 → (∀ i, i < n → ∃ a b c d : Int, (xs.drop (i * 4)).take 4 = [.int .i64 a, .int .i64 b, .int .i64 c, .int .i64 d]) → ∃ mv : List Mv, mv.length = n ∧ xs = mvs mv
  | 0, xs, hl, _ => ⟨[], rfl, List.eq_nil_of_length_eq_zero (by simpa using hl)⟩
  | n + 1, xs, hl, h => by
    obtain ⟨a, b, c, d, e⟩ := h 0 (by omega)
    obtain ⟨mv, hm, e2⟩ := mv_of n (xs.drop 4) (by rw [List.length_drop]; omega) (fun i hi => by
      obtain ⟨a, b, c, d, e⟩ := h (i + 1) (by omega)
      refine ⟨a, b, c, d, ?_⟩
      rw [List.drop_drop, show 4 + i * 4 = (i + 1) * 4 by omega]
      exact e)
    refine ⟨⟨a, b, c, d⟩ :: mv, by simp [hm], ?_⟩
    rw [Nat.zero_mul, List.drop_zero] at e
    have e3 : xs = xs.take 4 ++ xs.drop 4 := (List.take_append_drop 4 xs).symm
    rw [e3, e, e2]
    simp [mvs, mvc]
theorem open_any_slice {t e : Nat} {fuel : Nat} {cs : List Value} {x : DataW H × List MemPlace} (ht : Try.prog.underlying t = some (.slice e)) (h : DataW.trod enc Try.prog w base spare held fuel t cs = some x) :
    ∃ A n c, cs = [.slice A n c] := by
  rcases Go.Deep.open_slice ht h with ⟨rfl, _⟩ | ⟨a, len, cap, _, _, _, _, rfl, _⟩
  · exact ⟨_, _, _, rfl⟩
  · exact ⟨_, _, _, rfl⟩
theorem list16 {l : List Value} (h : l.length = 16) : ∃ c0 c1 c2 c3 c4 c5 c6 c7 c8 c9 c10 c11 c12 c13 c14 c15, l = [c0, c1, c2, c3, c4, c5, c6, c7, c8, c9, c10, c11, c12, c13, c14, c15] := by
  match l, h with
  | [c0, c1, c2, c3, c4, c5, c6, c7, c8, c9, c10, c11, c12, c13, c14, c15], _ => exact ⟨_, _, _, _, _, _, _, _, _, _, _, _, _, _, _, _, rfl⟩
theorem list14 {α : Type} {l : List α} (h : l.length = 14) : ∃ c0 c1 c2 c3 c4 c5 c6 c7 c8 c9 c10 c11 c12 c13, l = [c0, c1, c2, c3, c4, c5, c6, c7, c8, c9, c10, c11, c12, c13] := by
  match l, h with
  | [c0, c1, c2, c3, c4, c5, c6, c7, c8, c9, c10, c11, c12, c13], _ => exact ⟨_, _, _, _, _, _, _, _, _, _, _, _, _, _, rfl⟩
set_option maxRecDepth 100000 in
/-- an entry that came in -/
theorem open_entry {fuel : Nat} {cs : List Value} {x : DataW H × List MemPlace} (h : DataW.trod enc Try.prog w base spare held fuel 31 cs = some x) :
    ∃ (k t u hh p q a0 a1 b0 b1 : Int) (AO : Option Addr) (nO cO : Nat) (AN : Option Addr) (nN cN : Nat) (AM : Option Addr) (nM cM : Nat) (A13 : Option Addr) (n13 c13 : Nat) (A14 : Option Addr) (n14 c14 : Nat) (A15 : Option Addr) (n15 c15 : Nat) (NL : List UInt8) (mv : List Mv),
      cs = [.int .i64 k, .int .i64 t, .int .i64 u, .int .i64 hh, .int .i64 p, .int .i64 q, .int .i64 a0, .int .i64 a1, .int .i64 b0, .int .i64 b1, .slice AO nO cO, .slice AN nN cN, .slice AM nM cM, .slice A13 n13 c13, .slice A14 n14 c14, .slice A15 n15 c15] ∧ nN = NL.length ∧ BB w (.slice AN nN cN) NL ∧ nM = mv.length ∧ Reads w w.heap.size 4 AM nM (mvs mv) := by
  obtain ⟨xs, n, _, _, hlen, hxl, hf⟩ := DataW.trod_struct Try.underlying31 h
  rw [cells31] at hlen
  obtain ⟨c0, c1, c2, c3, c4, c5, c6, c7, c8, c9, c10, c11, c12, c13, c14, c15, rfl⟩ := list16 hlen
  obtain ⟨y0, y1, y2, y3, y4, y5, y6, y7, y8, y9, y10, y11, y12, y13, rfl⟩ := list14 hxl
  have g0 := hf 0 _ rfl
  have g1 := hf 1 _ rfl
  have g2 := hf 2 _ rfl
  have g3 := hf 3 _ rfl
  have g4 := hf 4 _ rfl
  have g5 := hf 5 _ rfl
  have g6 := hf 6 _ rfl
  have g7 := hf 7 _ rfl
  have g8 := hf 8 _ rfl
  have g9 := hf 9 _ rfl
  have g10 := hf 10 _ rfl
  have g11 := hf 11 _ rfl
  have g12 := hf 12 _ rfl
  have g13 := hf 13 _ rfl
  clear hf
  simp [cells3, cells25, cells22, cells26, cells27, cells28, cells29] at g0 g1 g2 g3 g4 g5 g6 g7 g8 g9 g10 g11 g12 g13
  obtain ⟨k, rfl⟩ := one_int g0
  obtain ⟨t, rfl⟩ := one_int g1
  obtain ⟨u, rfl⟩ := one_int g2
  obtain ⟨hh, rfl⟩ := one_int g3
  obtain ⟨p, rfl⟩ := one_int g4
  obtain ⟨q, rfl⟩ := one_int g5
  obtain ⟨a0, a1, ha⟩ := open_rid g6
  obtain ⟨b0, b1, hb⟩ := open_rid g7
  simp at ha hb
  obtain ⟨rfl, rfl⟩ := ha
  obtain ⟨rfl, rfl⟩ := hb
  obtain ⟨AO, nO, cO, ho⟩ := open_any_slice Try.underlying22 g8
  obtain ⟨AN, nN, cN, zs, hn, h1, h2, h3, hz, hr, hw⟩ := open_flat_ints Try.underlying22 Try.underlying5 cells5 g9
  obtain ⟨AM, nM, cM, ms, hm, _, _, _, hrm, hi⟩ := open_slice_data Try.underlying26 cells54 (by omega) g10
  obtain ⟨A13, n13, k13, h13⟩ := open_any_slice Try.underlying27 g11
  obtain ⟨A14, n14, k14, h14⟩ := open_any_slice Try.underlying28 g12
  obtain ⟨A15, n15, k15, h15⟩ := open_any_slice Try.underlying29 g13
  simp at ho hn hm h13 h14 h15
  subst ho hn hm h13 h14 h15
  obtain ⟨NL, hl, hln⟩ := bytes_of_ints hw
  rw [hl] at hr
  obtain ⟨mv, hmv, rfl⟩ := mv_of nM ms hrm.1 (fun i hi' => by
    obtain ⟨f, y, es, sp, ht, _⟩ := hi i hi'
    exact open_move ht)
  exact ⟨k, t, u, hh, p, q, a0, a1, b0, b1, AO, nO, cO, AN, nN, cN, AM, nM, cM, A13, n13, k13, A14, n14, k14, A15, n15, k15, NL, mv, rfl, by omega, ⟨AN, cN, by rw [show NL.length = nN by omega], fun e => (h3 e).2, by rw [show NL.length = nN by omega]; exact hr⟩, hmv.symm, hrm⟩
end
theorem u16_nat {z : Int} (h : (Lit.int .u16 z).wf = true) : ∃ n : Nat, z = (n : Int) ∧ n ≤ 65535 := by
  have hb : 0 ≤ z ∧ z ≤ 65535 := by simpa [Lit.wf, IntKind.min, IntKind.max, IntKind.signed, IntKind.bits] using h
  exact ⟨z.toNat, by omega, by omega⟩
set_option maxRecDepth 1000000 in
theorem walk_long (k t u hh p q a0 a1 b0 b1 : Int) (AO : Option Addr) (nO cO : Nat) (AN : Option Addr) (nN cN : Nat) (AM : Option Addr) (nM cM : Nat) (A13 : Option Addr) (n13 c13 : Nat) (A14 : Option Addr) (n14 c14 : Nat) (A15 : Option Addr) (n15 c15 : Nat) (A : Option Addr) (n c : Nat) (ls pn now : Int) (w : World) (hlong : (4 : Int) < n ∨ (40 : Int) < nN ∨ (20 : Int) < nM) :
    Calls Try.prog 3 #[.slice A n c, .int .u16 ls, .int .i64 pn, .agg #[.int .i64 k, .int .i64 t, .int .i64 u, .int .i64 hh, .int .i64 p, .int .i64 q, .int .i64 a0, .int .i64 a1, .int .i64 b0, .int .i64 b1, .slice AO nO cO, .slice AN nN cN, .slice AM nM cM, .slice A13 n13 c13, .slice A14 n14 c14, .slice A15 n15 c15], .int .i64 now] w fun e w' => e = .returned (.bool true) ∧ Ext w w' := by
  by_cases h1 : (4 : Int) < n
  · have d0 : decide ((4 : Int) < (n : Int)) = true := decide_eq_true h1
    clear hlong h1
    go_enter Try.func3, Try.ntmps3
    go_wp2_with (go_at_call 7; refine (begun_any _).mono ?_; rintro e w1 ⟨rfl, hx1⟩)
    go_ret
    exact ⟨rfl, (Ext.new w _).trans hx1⟩
  · have d0 : decide ((4 : Int) < (n : Int)) = false := decide_eq_false h1
    by_cases h2 : (40 : Int) < nN
    · have d1 : decide ((40 : Int) < (nN : Int)) = true := decide_eq_true h2
      clear hlong h1 h2
      go_enter Try.func3, Try.ntmps3
      go_upto_region 3 with (go_at_call 7; refine (begun_any _).mono ?_; rintro e w1 ⟨rfl, hx1⟩)
      obtain ⟨y0, y1, y2, y3, y4, y5, y6, y7, y8, y9, y10, y11, y12, y13, y14, y15⟩ := (hx1.blk (Blk.new w 31 #[.int .i64 k, .int .i64 t, .int .i64 u, .int .i64 hh, .int .i64 p, .int .i64 q, .int .i64 a0, .int .i64 a1, .int .i64 b0, .int .i64 b1, .slice AO nO cO, .slice AN nN cN, .slice AM nM cM, .slice A13 n13 c13, .slice A14 n14 c14, .slice A15 n15 c15])).cells16
      go_wp2_with (fail)
      go_ret
      exact ⟨rfl, (Ext.new w _).trans hx1⟩
    · have d1 : decide ((40 : Int) < (nN : Int)) = false := decide_eq_false h2
      have d2 : decide ((20 : Int) < (nM : Int)) = true := decide_eq_true (by omega)
      clear hlong h1 h2
      go_enter Try.func3, Try.ntmps3
      go_upto_region 3 with (go_at_call 7; refine (begun_any _).mono ?_; rintro e w1 ⟨rfl, hx1⟩)
      obtain ⟨y0, y1, y2, y3, y4, y5, y6, y7, y8, y9, y10, y11, y12, y13, y14, y15⟩ := (hx1.blk (Blk.new w 31 #[.int .i64 k, .int .i64 t, .int .i64 u, .int .i64 hh, .int .i64 p, .int .i64 q, .int .i64 a0, .int .i64 a1, .int .i64 b0, .int .i64 b1, .slice AO nO cO, .slice AN nN cN, .slice AM nM cM, .slice A13 n13 c13, .slice A14 n14 c14, .slice A15 n15 c15])).cells16
      go_wp2_with (fail)
      go_ret
      exact ⟨rfl, (Ext.new w _).trans hx1⟩
set_option maxRecDepth 100000 in
theorem walk {H : Type} {enc : TypeId × Value → H} (W : World) (base : Nat) (v0 v1 v2 v3 v4 : Value) (d0 d1 d2 d3 d4 : DataW H) (p0 p1 p2 p3 p4 : List MemPlace)
    (ok0 : Value.okWide Try.prog W .any base 22 v0) (h0 : DataW.Trod enc Try.prog W 0 (fun _ => true) true 22 v0 d0 p0)
    (ok1 : Value.okWide Try.prog W .any base 23 v1) (h1 : DataW.Trod enc Try.prog W 0 (fun _ => true) true 23 v1 d1 p1)
    (ok2 : Value.okWide Try.prog W .any base 3 v2) (h2 : DataW.Trod enc Try.prog W 0 (fun _ => true) true 3 v2 d2 p2)
    (ok3 : Value.okWide Try.prog W .any base 31 v3) (h3 : DataW.Trod enc Try.prog W 0 (fun _ => true) true 31 v3 d3 p3)
    (ok4 : Value.okWide Try.prog W .any base 3 v4) (h4 : DataW.Trod enc Try.prog W 0 (fun _ => true) true 3 v4 d4 p4) :
    Calls Try.prog 3 #[v0, v1, v2, v3, v4] W fun e w' => e = .returned (.bool true) ∧ Below W.heap.size W w' := by
  obtain ⟨_, rfl, _, _, wk⟩ := open_int Try.underlying23 ok1 h1
  obtain ⟨ls, rfl, hls⟩ := u16_nat wk
  obtain ⟨pn, rfl, _, _, _⟩ := open_int Try.underlying3 ok2 h2
  obtain ⟨now, rfl, _, _, _⟩ := open_int Try.underlying3 ok4 h4
  obtain ⟨A, n, c, rfl⟩ := okWide_slice Try.underlying22 ok0
  obtain ⟨fuel, hx⟩ := h0
  obtain ⟨A', n', c', zs, hcs, _, _, _, hz, hr, hw⟩ := open_flat_ints Try.underlying22 Try.underlying5 cells5 hx
  simp [Value.cells] at hcs
  obtain ⟨rfl, rfl, rfl⟩ := hcs
  obtain ⟨l, e, hl'⟩ := bytes_of_ints hw
  rw [e] at hr
  obtain ⟨cs, rfl, _⟩ := okWide_struct Try.underlying31 ok3
  obtain ⟨fuel3, hf⟩ := h3
  obtain ⟨k, t, u, hh, p, q, a0, a1, b0, b1, AO, nO, cO, AN, nN, cN, AM, nM, cM, A13, n13, c13, A14, n14, c14, A15, n15, c15, NL, mv, hcs, hnN, hN, hnM, hM⟩ := open_entry hf
  obtain rfl : cs = #[.int .i64 k, .int .i64 t, .int .i64 u, .int .i64 hh, .int .i64 p, .int .i64 q, .int .i64 a0, .int .i64 a1, .int .i64 b0, .int .i64 b1, .slice AO nO cO, .slice AN nN cN, .slice AM nM cM, .slice A13 n13 c13, .slice A14 n14 c14, .slice A15 n15 c15] := by
    apply Array.ext'
    simpa [Value.cells] using hcs
  by_cases hlong : (4 : Int) < n ∨ (40 : Int) < nN ∨ (20 : Int) < nM
  · exact walk_long k t u hh p q a0 a1 b0 b1 AO nO cO AN nN cN AM nM cM A13 n13 c13 A14 n14 c14 A15 n15 c15 A n c ls pn now W hlong
  · exact walk_short A c n l ls pn now k a0 a1 b0 b1 t u hh p q AN cN nN NL AO nO cO AM cM nM mv A13 A14 A15 n13 c13 n14 c14 n15 c15 W hr (by omega) (by omega) hls hN hnN (by omega) hM hnM (by omega)
end Go.Proofs.Ytaagdjipjeindaa.redoAll
