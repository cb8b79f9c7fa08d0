/- MarkAll: the walk, at whatever arguments. -/
import Derived.Test.YtmleneljmcikdaaMarkAllW
import Derived.Deep.Slices
import Derived.SizedLaws
namespace Go.Proofs.Ytmleneljmcikdaa.markAll
open Go.ChangeShapes Go.WideShapes Go.ChangeAt Go.RowKit
set_option linter.unusedVariables false

section
variable {H : Type} {enc : TypeId × Value → H} {P : Program} {w : World} {base : Nat} {spare : Nat → Bool} {held : Bool}
theorem open_slice_data {t e m : Nat} {fuel : Nat} {cs : List Value} {x : DataW H × List MemPlace} (ht : P.underlying t = some (.slice e)) (hm : P.cellsOf e = m) (hm0 : 0 < m)
    (h : DataW.trod enc P w base spare held fuel t cs = some x) :
    ∃ (A : Option Addr) (n c : Nat) (xs : List Value), cs = [.slice A n c] ∧ n ≤ c ∧ c ≤ maxLen ∧ (A = none → n = 0 ∧ c = 0) ∧ Reads w w.heap.size m A n xs ∧
      ∀ i, i < n → ∃ (f : Nat) (y : DataW H × List MemPlace) (es sp : List (DataW H)), DataW.trod enc P w base spare held f e ((xs.drop (i * m)).take m) = some y ∧ x.1 = .slice es sp ∧ es.length = n ∧ y.1 ∈ es := by
  rcases Go.Deep.open_slice ht h with ⟨rfl, _⟩ | ⟨a, len, cap, m', n', D, Pl, rfl, hb, hl, hcm, hmm, hx, hi⟩
  · exact ⟨none, 0, 0, [], rfl, Nat.le_refl _, Nat.zero_le _, fun _ => ⟨rfl, rfl⟩, Reads.none_, fun i hi => absurd hi (by omega)⟩
  · have hlen : len ≤ m' := by rw [hmm]; split <;> omega
    have key : ∀ k, k ≤ len → ∃ xs : List Value, xs.length = k * m ∧ (∀ j u, xs[j]? = some u → w.cell? (a.add j) = some u) ∧
        ∀ i, i < k → ∃ (f : Nat), DataW.trod enc P w base spare held f e ((xs.drop (i * m)).take m) = some (D i, Pl i) := by
      intro k
      induction k with
      | zero => intro _; exact ⟨[], by simp, by simp, fun i hi => absurd hi (by omega)⟩
      | succ k ih =>
        intro hk
        obtain ⟨xs, hx1, hx2, hx3⟩ := ih (by omega)
        obtain ⟨cs', hc, ht'⟩ := hi k (by omega)
        rw [hm] at hc
        obtain ⟨_, hcl, hat⟩ := World.cells?_some hc
        refine ⟨xs ++ cs', by rw [List.length_append, hx1, hcl, Nat.add_mul]; omega, fun j u hu => ?_, fun i hik => ?_⟩
        · by_cases hj : j < xs.length
          · rw [List.getElem?_append_left hj] at hu
            exact hx2 j u hu
          · rw [List.getElem?_append_right (by omega)] at hu
            have hjl : j - xs.length < cs'.length := (List.getElem?_eq_some_iff.1 hu).1
            have h1 := hat (j - xs.length) (by omega)
            rw [Go.Deep.add_add, ← hx1] at h1
            rw [show xs.length + (j - xs.length) = j by omega] at h1
            rw [h1, ← hu]
        · by_cases hik' : i < k
          · obtain ⟨f, hy⟩ := hx3 i hik'
            refine ⟨f, ?_⟩
            have hle : i * m + m ≤ xs.length := by
              rw [hx1, ← Nat.succ_mul]
              exact Nat.mul_le_mul_right m hik'
            rw [List.drop_append_of_le_length (by omega), List.take_append_of_le_length (by rw [List.length_drop]; omega)]
            exact hy
          · obtain rfl : i = k := by omega
            refine ⟨n', ?_⟩
            rw [← hx1, List.drop_left, ← hcl, List.take_length]
            exact ht'
    obtain ⟨xs, hx1, hx2, hx3⟩ := key len (Nat.le_refl _)
    refine ⟨some a, len, cap, xs, rfl, hl, hcm, (fun h => by cases h), ⟨hx1, fun hn => ⟨a, rfl, ?_, hx2⟩⟩, fun i hi => ?_⟩
    · have h0 : 0 < xs.length := by rw [hx1]; exact Nat.mul_pos hn hm0
      have := World.block_lt_of_cell? w _ (hx2 0 _ (List.getElem?_eq_getElem h0))
      simpa [block_of_add] using this
    · obtain ⟨f, hf⟩ := hx3 i hi
      exact ⟨f, (D i, Pl i), _, _, hf, by rw [hx], by simp, by simp; exact ⟨i, hi, rfl⟩⟩
theorem weightsAll_mem {e : TypeId} : ∀ {l : List (DataW H)} {d : DataW H}, d ∈ l → ∀ n ∈ d.weights P e, n ∈ DataW.weightsAll P e l
  | d' :: r, d, hd, n, hn => by
    simp only [DataW.weightsAll, List.mem_append]
    rcases List.mem_cons.1 hd with rfl | h
    · exact Or.inl hn
    · exact Or.inr (weightsAll_mem h n hn)
end
section
variable {H : Type} {enc : TypeId × Value → H} {w : World} {base : Nat} {spare : Nat → Bool} {held : Bool}
theorem cells3 : Try.prog.cellsOf 3 = 1 := by kernel_rfl
theorem cells4 : Try.prog.cellsOf 4 = 1 := by kernel_rfl
theorem cells22 : Try.prog.cellsOf 22 = 1 := by kernel_rfl
theorem cells23 : Try.prog.cellsOf 23 = 1 := by kernel_rfl
theorem cells24 : Try.prog.cellsOf 24 = 1 := by kernel_rfl
theorem cells26 : Try.prog.cellsOf 26 = 5 := by kernel_rfl
theorem cells30 : Try.prog.cellsOf 30 = 2 := by kernel_rfl
theorem cells32 : Try.prog.cellsOf 32 = 1 := by kernel_rfl
theorem cells41 : Try.prog.cellsOf 41 = 2 := by kernel_rfl
theorem cells51 : Try.prog.cellsOf 51 = 4 := by kernel_rfl
theorem cells55 : Try.prog.cellsOf 55 = 3 := by kernel_rfl
theorem cells58 : Try.prog.cellsOf 58 = 4 := by kernel_rfl
theorem bytes58 : Try.prog.bytesOf 58 = 32 := by kernel_rfl
theorem one_int {fuel : Nat} {c : Value} {x : DataW H × List MemPlace} (h : DataW.trod enc Try.prog w base spare held fuel 3 [c] = some x) : ∃ a : Int, c = .int .i64 a := by
  obtain ⟨a, ha, _, wa⟩ := DataW.trod_int Try.underlying3 h
  simp at ha
  exact ⟨a, ha⟩
theorem one_bool {fuel : Nat} {c : Value} {x : DataW H × List MemPlace} (h : DataW.trod enc Try.prog w base spare held fuel 4 [c] = some x) : ∃ a : Bool, c = .bool a := by
  obtain ⟨a, ha, _⟩ := DataW.trod_bool Try.underlying4 h
  simp at ha
  exact ⟨a, ha⟩
theorem some_of {α : Type} {l : List α} {n : Nat} (h : n < l.length) : ∃ y, l[n]? = some y := ⟨_, List.getElem?_eq_getElem h⟩
theorem open_live {fuel : Nat} {cs : List Value} {x : DataW H × List MemPlace} (h : DataW.trod enc Try.prog w base spare held fuel 51 cs = some x) :
    ∃ (a b c : Int) (d : Bool), cs = [.int .i64 a, .int .i64 b, .int .i64 c, .bool d] := by
  obtain ⟨xs, n, _, _, hlen, hxl, hf⟩ := DataW.trod_struct Try.underlying51 h
  rw [cells51] at hlen
  match cs, hlen with
  | [c0, c1, c2, c3], _ =>
    obtain ⟨y0, h0⟩ := some_of (l := xs) (n := 0) (by rw [hxl]; decide)
    obtain ⟨y1, h1⟩ := some_of (l := xs) (n := 1) (by rw [hxl]; decide)
    obtain ⟨y2, h2⟩ := some_of (l := xs) (n := 2) (by rw [hxl]; decide)
    obtain ⟨y3, h3⟩ := some_of (l := xs) (n := 3) (by rw [hxl]; decide)
    have g0 := (hf 0 _ rfl).trans h0
    have g1 := (hf 1 _ rfl).trans h1
    have g2 := (hf 2 _ rfl).trans h2
    have g3 := (hf 3 _ rfl).trans h3
    simp [cells3, cells4] at g0 g1 g2 g3
    obtain ⟨a, rfl⟩ := one_int g0
    obtain ⟨b, rfl⟩ := one_int g1
    obtain ⟨c, rfl⟩ := one_int g2
    obtain ⟨d, rfl⟩ := one_bool g3
    exact ⟨a, b, c, d, rfl⟩
theorem open_rid {fuel : Nat} {cs : List Value} {x : DataW H × List MemPlace} (h : DataW.trod enc Try.prog w base spare held fuel 30 cs = some x) : ∃ a b : Int, cs = [.int .i64 a, .int .i64 b] := by
  obtain ⟨xs, n, _, _, hlen, hxl, hf⟩ := DataW.trod_struct Try.underlying30 h
  rw [cells30] at hlen
  match cs, hlen with
  | [c0, c1], _ =>
    obtain ⟨y0, h0⟩ := some_of (l := xs) (n := 0) (by rw [hxl]; decide)
    obtain ⟨y1, h1⟩ := some_of (l := xs) (n := 1) (by rw [hxl]; decide)
    have g0 := (hf 0 _ rfl).trans h0
    have g1 := (hf 1 _ rfl).trans h1
    simp [cells3] at g0 g1
    obtain ⟨a, rfl⟩ := one_int g0
    obtain ⟨b, rfl⟩ := one_int g1
    exact ⟨a, b, rfl⟩
theorem open_dirty {fuel : Nat} {cs : List Value} {x : DataW H × List MemPlace} (h : DataW.trod enc Try.prog w base spare held fuel 41 cs = some x) : ∃ a b : Int, cs = [.int .i64 a, .int .i64 b] := by
  obtain ⟨xs, n, _, _, hlen, hxl, hf⟩ := DataW.trod_struct Try.underlying41 h
  rw [cells41] at hlen
  match cs, hlen with
  | [c0, c1], _ =>
    obtain ⟨y0, h0⟩ := some_of (l := xs) (n := 0) (by rw [hxl]; decide)
    obtain ⟨y1, h1⟩ := some_of (l := xs) (n := 1) (by rw [hxl]; decide)
    have g0 := (hf 0 _ rfl).trans h0
    have g1 := (hf 1 _ rfl).trans h1
    simp [cells3] at g0 g1
    obtain ⟨a, rfl⟩ := one_int g0
    obtain ⟨b, rfl⟩ := one_int g1
    exact ⟨a, b, rfl⟩
theorem open_move {fuel : Nat} {cs : List Value} {x : DataW H × List MemPlace} (h : DataW.trod enc Try.prog w base spare held fuel 58 cs = some x) : ∃ a b c d : Int, cs = [.int .i64 a, .int .i64 b, .int .i64 c, .int .i64 d] := by
  obtain ⟨xs, n, _, _, hlen, hxl, hf⟩ := DataW.trod_struct Try.underlying58 h
  rw [cells58] at hlen
  match cs, hlen with
  | [c0, c1, c2, c3], _ =>
    obtain ⟨y0, h0⟩ := some_of (l := xs) (n := 0) (by rw [hxl]; decide)
    obtain ⟨y1, h1⟩ := some_of (l := xs) (n := 1) (by rw [hxl]; decide)
    have g0 := (hf 0 _ rfl).trans h0
    have g1 := (hf 1 _ rfl).trans h1
    simp [cells30] at g0 g1
    obtain ⟨a, b, e0⟩ := open_rid g0
    obtain ⟨c, d, e1⟩ := open_rid g1
    simp at e0 e1
    obtain ⟨rfl, rfl⟩ := e0
    obtain ⟨rfl, rfl⟩ := e1
    exact ⟨a, b, c, d, rfl⟩
theorem at_of {xs : List Value} {m i j : Nat} {l : List Value} (h : (xs.drop (i * m)).take m = l) (hj : j < l.length) : xs[i * m + j]? = l[j]? := by
  have hm : j < m := by
    have := congrArg List.length h
    simp at this
    omega
  rw [← h, List.getElem?_take_of_lt hm, List.getElem?_drop]
theorem sized_moves {dL dD a b dU dH : DataW H} {es sp es' sp' : List (DataW H)} (h : ∀ q ∈ DataW.weights Try.prog 26 (.agg [dL, dD, .slice es sp, dU, dH]), q ≤ reachBytes) (hm : DataW.agg [a, .slice es' sp', b] ∈ es) : es'.length * 32 ≤ 140737488355328 := by
  have h1 : (es'.length + sp'.length) * Try.prog.bytesOf 58 ∈ DataW.weights Try.prog 55 (.agg [a, .slice es' sp', b]) := by
    simp [DataW.weights, Try.underlying55, DataW.weightsEach, Try.underlying32]
  have h2 := weightsAll_mem hm _ h1
  have h3 : (es'.length + sp'.length) * Try.prog.bytesOf 58 ∈ DataW.weights Try.prog 26 (.agg [dL, dD, .slice es sp, dU, dH]) := by
    simp only [DataW.weights, Try.underlying26, DataW.weightsEach, List.map, Try.underlying24, List.mem_append, List.mem_cons]
    exact .inr (.inr (.inl (.inr (.inl h2))))
  have h4 := h _ h3
  rw [bytes58] at h4
  have h5 : reachBytes = 140737488351232 := rfl
  omega
theorem open_moves {fuel : Nat} {cs : List Value} {x : DataW H × List MemPlace} (h : DataW.trod enc Try.prog w base spare held fuel 32 cs = some x) :
    ∃ (A : Option Addr) (m c : Nat) (ms : List Value), cs = [.slice A m c] ∧ MoveRow ms m ∧ Reads w w.heap.size 4 A m ms ∧ (A = none → c = 0) ∧ m ≤ maxLen ∧ (0 < m → ∃ es sp, x.1 = .slice es sp ∧ es.length = m) := by
  obtain ⟨A, m, c, ms, rfl, h1, h2, h3, hr, hi⟩ := open_slice_data Try.underlying32 cells58 (by omega) h
  refine ⟨A, m, c, ms, rfl, fun k hk => ?_, hr, fun e => (h3 e).2, by omega, fun hm => ?_⟩
  · obtain ⟨f, y, es, sp, ht, _⟩ := hi k hk
    obtain ⟨a, b, c, d, e⟩ := open_move ht
    exact ⟨a, b, c, d, at_of e (j := 0) (by simp), at_of e (j := 1) (by simp), at_of e (j := 2) (by simp), at_of e (j := 3) (by simp)⟩
  · obtain ⟨f, y, es, sp, _, hx, hl, _⟩ := hi 0 hm
    exact ⟨es, sp, hx, hl⟩
theorem open_open {fuel : Nat} {cs : List Value} {x : DataW H × List MemPlace} (h : DataW.trod enc Try.prog w base spare held fuel 55 cs = some x) :
    ∃ (u d : Int) (A : Option Addr) (m c : Nat) (ms : List Value), cs = [.int .i64 u, .slice A m c, .int .i64 d] ∧ MoveRow ms m ∧ Reads w w.heap.size 4 A m ms ∧ (A = none → c = 0) ∧ m ≤ maxLen ∧
      (0 < m → ∃ a es sp b, x.1 = .agg [a, .slice es sp, b] ∧ es.length = m) := by
  obtain ⟨xs, n, _, hx, hlen, hxl, hf⟩ := DataW.trod_struct Try.underlying55 h
  rw [cells55] at hlen
  match cs, hlen with
  | [c0, c1, c2], _ =>
    match xs, hxl with
    | [y0, y1, y2], _ =>
      have g0 := hf 0 _ rfl
      have g1 := hf 1 _ rfl
      have g2 := hf 2 _ rfl
      simp [cells3, cells32] at g0 g1 g2
      obtain ⟨u, rfl⟩ := one_int g0
      obtain ⟨d, rfl⟩ := one_int g2
      obtain ⟨A, m, c, ms, hcs, h1, h2, h3, h4, h5⟩ := open_moves g1
      simp at hcs
      subst hcs
      refine ⟨u, d, A, m, c, ms, rfl, h1, h2, h3, h4, fun hm => ?_⟩
      obtain ⟨es, sp, e, hl⟩ := h5 hm
      exact ⟨y0.1, es, sp, y2.1, by rw [hx]; simp [e], hl⟩
theorem dv_of (xs : List Value) : ∀ n, xs.length = n * 2 → (∀ k, k < n → ∃ a b : Int, xs[k * 2]? = some (.int .i64 a) ∧ xs[k * 2 + 1]? = some (.int .i64 b)) → ∃ ds : List (Int × Int), ds.length = n ∧ xs = dv ds
  | 0, hl, _ => ⟨[], rfl, List.eq_nil_of_length_eq_zero (by simpa using hl)⟩
  | n + 1, hl, h => by
    match xs, hl with
    | [], hl => simp at hl
    | [_], hl => simp at hl; omega
    | v0 :: v1 :: r, hl =>
      obtain ⟨a, b, ha, hb⟩ := h 0 (by omega)
      simp at ha hb
      subst ha hb
      obtain ⟨ds, hd, e⟩ := dv_of r n (by simp at hl; omega) (fun k hk => by
        obtain ⟨a, b, ha, hb⟩ := h (k + 1) (by omega)
        refine ⟨a, b, ?_, ?_⟩
        · rw [show (k + 1) * 2 = k * 2 + 1 + 1 by omega] at ha
          simpa using ha
        · rw [show (k + 1) * 2 + 1 = k * 2 + 1 + 1 + 1 by omega] at hb
          simpa using hb)
      exact ⟨(a, b) :: ds, by simp [hd], by rw [e]; rfl⟩
theorem walk (W : World) (base : Nat) (v0 v1 : Value) (d0 d1 : DataW H) (p0 p1 : List MemPlace)
    (ok0 : Value.okWide Try.prog W .any base 26 v0) (h0 : DataW.Trod enc Try.prog W 0 (fun _ => true) true 26 v0 d0 p0)
    (ok1 : Value.okWide Try.prog W .any base 3 v1) (h1 : DataW.Trod enc Try.prog W 0 (fun _ => true) true 3 v1 d1 p1)
    (hs : ∀ q ∈ DataW.weights Try.prog 26 d0, q ≤ reachBytes) :
    Calls Try.prog 3 #[v0, v1] W fun e w' => e = .returned (.bool true) ∧ Below W.heap.size W w' := by
  obtain ⟨f, rfl, _, _, _⟩ := open_int Try.underlying3 ok1 h1
  obtain ⟨cs, rfl, _⟩ := okWide_struct Try.underlying26 ok0
  obtain ⟨fuel, hf⟩ := h0
  obtain ⟨xs, n, _, hx, hlen, hxl, hg⟩ := DataW.trod_struct Try.underlying26 hf
  rw [cells26] at hlen
  obtain ⟨l⟩ := cs
  simp only [Value.cells] at hlen hg
  match l, hlen with
  | [c0, c1, c2, c3, c4], _ =>
    match xs, hxl with
    | [y0, y1, y2, y3, y4], _ =>
      have g0 := hg 0 _ rfl
      have g1 := hg 1 _ rfl
      have g2 := hg 2 _ rfl
      have g3 := hg 3 _ rfl
      have g4 := hg 4 _ rfl
      simp [cells3, cells22, cells23, cells24] at g0 g1 g2 g3 g4
      obtain ⟨u, rfl⟩ := one_int g3
      obtain ⟨hh, rfl⟩ := one_int g4
      obtain ⟨A1, n1, k1, xL, e1, a1, a2, a3, rL, iL⟩ := open_slice_data Try.underlying22 cells51 (by omega) g0
      obtain ⟨A2, n2, k2, xD, e2, b1, b2, b3, rD, iD⟩ := open_slice_data Try.underlying23 cells41 (by omega) g1
      obtain ⟨A3, n3, k3, xO, e3, c1, c2, c3, rO, iO⟩ := open_slice_data Try.underlying24 cells55 (by omega) g2
      simp at e1 e2 e3
      subst e1 e2 e3
      obtain ⟨ds, hds, rfl⟩ := dv_of xD n2 rD.1 (fun k hk => by
        obtain ⟨f', y, es, sp, ht, _⟩ := iD k hk
        obtain ⟨a, b, e⟩ := open_dirty ht
        exact ⟨a, b, at_of e (j := 0) (by simp), at_of e (j := 1) (by simp)⟩)
      subst hds
      by_cases hl : 10 < n1 ∨ 10 < ds.length ∨ 10 < n3 ∨ f < -1099511627776 ∨ 1099511627776 < f
      · exact walk_long A1 A2 A3 n1 ds.length n3 k1 k2 k3 _ _ f W hl
      · refine walk_short A1 A2 A3 n1 n3 k1 k2 k3 u hh f xL xO ds W (fun k hk => ?_) rL (fun e => (a3 e).2) (by omega) rD (fun e => (b3 e).2) (by omega) (fun k hk => ?_) rO (fun e => (c3 e).2) (by omega) (by omega) (by omega)
        · obtain ⟨f', y, es, sp, ht, _⟩ := iL k hk
          obtain ⟨a, b, c, d, e⟩ := open_live ht
          exact ⟨a, b, c, d, at_of e (j := 0) (by simp), at_of e (j := 1) (by simp), at_of e (j := 2) (by simp), at_of e (j := 3) (by simp)⟩
        · obtain ⟨f', y, es, sp, ht, hxs, hle, hmem⟩ := iO k hk
          obtain ⟨u', d', A, m, c, ms, e, q1, q2, q3, q4, q5⟩ := open_open ht
          refine ⟨u', d', A, m, c, ms, at_of e (j := 0) (by simp), at_of e (j := 1) (by simp), at_of e (j := 2) (by simp), q1, q2, q3, q4, ?_⟩
          rcases Nat.eq_zero_or_pos m with h0 | h0
          · omega
          · obtain ⟨a, es', sp', b, hy, hle'⟩ := q5 h0
            have hd0 : d0 = .agg [y0.1, y1.1, .slice es sp, y3.1, y4.1] := by
              have := congrArg Prod.fst hx
              simpa [hxs] using this
            rw [hd0] at hs
            rw [hy] at hmem
            have := sized_moves hs hmem
            omega
end
end Go.Proofs.Ytmleneljmcikdaa.markAll
