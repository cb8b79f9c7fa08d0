/- TileAll: the arguments opened. -/
import Derived.Test.YtpbenpkgbhmldaaTileAllW
namespace Go.Proofs.Ytpbenpkgbhmldaa.tileAll
open Go.ChangeShapes Go.WideShapes Go.ChangeAt Go.RowKit
set_option linter.unusedVariables false

theorem cells3 : Try.prog.cellsOf 3 = 1 := by kernel_rfl
theorem cells4 : Try.prog.cellsOf 4 = 1 := by kernel_rfl
theorem cells5 : Try.prog.cellsOf 5 = 1 := by kernel_rfl
theorem cells22 : Try.prog.cellsOf 22 = 1 := by kernel_rfl
theorem cells55 : Try.prog.cellsOf 55 = 5 := by kernel_rfl
theorem some_of {α : Type} {l : List α} {n : Nat} (h : n < l.length) : ∃ y, l[n]? = some y := ⟨_, List.getElem?_eq_getElem h⟩
section
variable {H : Type} {enc : TypeId × Value → H} {w : World} {base : Nat} {spare : Nat → Bool} {held : Bool}
theorem one_i64 {fuel : Nat} {c : Value} {x : DataW H × List MemPlace} (h : DataW.trod enc Try.prog w base spare held fuel 3 [c] = some x) : ∃ a : Int, c = .int .i64 a ∧ -9223372036854775808 ≤ a ∧ a ≤ 9223372036854775807 := by
  obtain ⟨a, ha, _, wa⟩ := DataW.trod_int Try.underlying3 h
  simp at ha
  have : -9223372036854775808 ≤ a ∧ a ≤ 9223372036854775807 := by simpa [Lit.wf, IntKind.min, IntKind.max, IntKind.signed, IntKind.bits] using wa
  exact ⟨a, ha, this⟩
theorem one_u8 {fuel : Nat} {c : Value} {x : DataW H × List MemPlace} (h : DataW.trod enc Try.prog w base spare held fuel 5 [c] = some x) : ∃ f : Nat, c = .int .u8 (f : Int) ∧ f < 256 := by
  obtain ⟨a, ha, _, wa⟩ := DataW.trod_int Try.underlying5 h
  simp at ha
  have hb : 0 ≤ a ∧ a ≤ 255 := by simpa [Lit.wf, IntKind.min, IntKind.max, IntKind.signed, IntKind.bits] using wa
  exact ⟨a.toNat, by rw [ha]; congr 1; omega, by omega⟩
theorem one_bool {fuel : Nat} {c : Value} {x : DataW H × List MemPlace} (h : DataW.trod enc Try.prog w base spare held fuel 4 [c] = some x) : ∃ a : Bool, c = .bool a := by
  obtain ⟨a, ha, _⟩ := DataW.trod_bool Try.underlying4 h
  simp at ha
  exact ⟨a, ha⟩
theorem one_bytes {fuel : Nat} {c : Value} {x : DataW H × List MemPlace} (h : DataW.trod enc Try.prog w base spare held fuel 22 [c] = some x) : ∃ (A : Option Addr) (n c' : Nat) (M : List UInt8), c = .slice A n c' ∧ M.length = n ∧ (A = none → c' = 0) ∧ Reads w w.heap.size 1 A n (bv M) := by
  obtain ⟨A, n, c', zs, hc, _, _, hA, hz, hr, hw⟩ := open_flat_ints Try.underlying22 Try.underlying5 cells5 h
  simp at hc
  obtain ⟨l, el, hl⟩ := bytes_of_ints hw
  rw [el] at hr
  exact ⟨A, n, c', l, hc, by omega, fun h => (hA h).2, hr⟩
set_option maxRecDepth 100000 in
theorem open_deed {fuel : Nat} {cs : List Value} {x : DataW H × List MemPlace} (h : DataW.trod enc Try.prog w base spare held fuel 55 cs = some x) :
    ∃ (kind at_ : Int) (f : Nat) (s : Bool) (Am : Option Addr) (m cm : Nat) (M : List UInt8), cs = [.int .i64 kind, .int .i64 at_, .int .u8 (f : Int), .bool s, .slice Am m cm] ∧
      at_ ≤ 9223372036854775807 ∧ -9223372036854775808 ≤ kind ∧ kind ≤ 9223372036854775807 ∧ f < 256 ∧ M.length = m ∧ (Am = none → cm = 0) ∧ Reads w w.heap.size 1 Am m (bv M) := by
  obtain ⟨xs, n, _, _, hlen, hxl, hf⟩ := DataW.trod_struct Try.underlying55 h
  rw [cells55] at hlen
  match cs, hlen with
  | [c0, c1, c2, c3, c4], _ =>
    obtain ⟨y0, h0⟩ := some_of (l := xs) (n := 0) (by rw [hxl]; decide)
    obtain ⟨y1, h1⟩ := some_of (l := xs) (n := 1) (by rw [hxl]; decide)
    obtain ⟨y2, h2⟩ := some_of (l := xs) (n := 2) (by rw [hxl]; decide)
    obtain ⟨y3, h3⟩ := some_of (l := xs) (n := 3) (by rw [hxl]; decide)
    obtain ⟨y4, h4⟩ := some_of (l := xs) (n := 4) (by rw [hxl]; decide)
    have g0 := (hf 0 _ rfl).trans h0
    have g1 := (hf 1 _ rfl).trans h1
    have g2 := (hf 2 _ rfl).trans h2
    have g3 := (hf 3 _ rfl).trans h3
    have g4 := (hf 4 _ rfl).trans h4
    simp [cells3, cells4, cells5, cells22] at g0 g1 g2 g3 g4
    obtain ⟨kind, rfl, k1, k2⟩ := one_i64 g0
    obtain ⟨at_, rfl, a1, a2⟩ := one_i64 g1
    obtain ⟨f, rfl, f1⟩ := one_u8 g2
    obtain ⟨s, rfl⟩ := one_bool g3
    obtain ⟨Am, m, cm, M, rfl, m1, m2, m3⟩ := one_bytes g4
    exact ⟨kind, at_, f, s, Am, m, cm, M, rfl, a2, k1, k2, f1, m1, m2, m3⟩
end
theorem deeds_of {W : World} {xs : List Value} {n : Nat} (h : ∀ i, i < n → ∃ (kind at_ : Int) (f : Nat) (s : Bool) (Am : Option Addr) (m cm : Nat) (M : List UInt8), (xs.drop (i * 5)).take 5 = [.int .i64 kind, .int .i64 at_, .int .u8 (f : Int), .bool s, .slice Am m cm] ∧
      at_ ≤ 9223372036854775807 ∧ -9223372036854775808 ≤ kind ∧ kind ≤ 9223372036854775807 ∧ f < 256 ∧ M.length = m ∧ (Am = none → cm = 0) ∧ Reads W W.heap.size 1 Am m (bv M)) : Deeds W xs n := by
  intro i hi
  obtain ⟨kind, at_, f, s, Am, m, cm, M, e, r⟩ := h i hi
  have key : ∀ (j : Nat) (u : Value), j < 5 → [Value.int .i64 kind, .int .i64 at_, .int .u8 (f : Int), .bool s, .slice Am m cm][j]? = some u → xs[i * 5 + j]? = some u := by
    intro j u hj hu
    rw [← e, List.getElem?_take, if_pos hj, List.getElem?_drop] at hu
    exact hu
  exact ⟨kind, at_, f, s, Am, m, cm, M, key 0 _ (by omega) rfl, key 1 _ (by omega) rfl, key 2 _ (by omega) rfl, key 3 _ (by omega) rfl, key 4 _ (by omega) rfl, r⟩
set_option maxRecDepth 1000000 in
set_option maxHeartbeats 4000000 in
theorem walk_long (A : Option Addr) (n c : Nat) (z : Int) (w : World) (h1 : (30 : Int) < n) : Calls Try.prog 9 #[.int .u8 z, .slice A n c] w fun e w' => e = .returned (.bool true) ∧ Ext w w' := by
  go_enter Try.func9, Try.ntmps9
  go_wp2_with (go_at_call 10; refine (begun_any _).mono ?_; rintro e w1 ⟨rfl, b1⟩)
  go_ret
  exact ⟨rfl, b1⟩
set_option maxRecDepth 100000 in
theorem walk {H : Type} {enc : TypeId × Value → H} (W : World) (base : Nat) (v0 v1 : Value) (d0 d1 : DataW H) (p0 p1 : List MemPlace)
    (ok0 : Value.okWide Try.prog W .any base 5 v0) (h0 : DataW.Trod enc Try.prog W 0 (fun _ => true) true 5 v0 d0 p0)
    (ok1 : Value.okWide Try.prog W .any base 51 v1) (h1 : DataW.Trod enc Try.prog W 0 (fun _ => true) true 51 v1 d1 p1) :
    Calls Try.prog 9 #[v0, v1] W fun e w' => e = .returned (.bool true) ∧ Below W.heap.size W w' := by
  obtain ⟨z, rfl, _, _, wz⟩ := open_int Try.underlying5 ok0 h0
  have hz : 0 ≤ z ∧ z ≤ 255 := by simpa [Lit.wf, IntKind.min, IntKind.max, IntKind.signed, IntKind.bits] using wz
  obtain ⟨A', n', c', rfl⟩ := okWide_slice Try.underlying51 ok1
  obtain ⟨f0, g0⟩ := h1
  obtain ⟨A, n, c, xs, hcs, _, _, hA, hr, hi⟩ := open_slice_flat Try.underlying51 cells55 (by decide) g0
  simp [Value.cells] at hcs
  obtain ⟨rfl, rfl, rfl⟩ := hcs
  have hd : Deeds W xs n' := deeds_of fun i hi' => by
    obtain ⟨f, y, hy⟩ := hi i hi'
    exact open_deed hy
  by_cases hlong : (30 : Int) < n'
  · exact walk_long A' n' c' z W hlong
  · have := walk_short A' c' n' xs z.toNat W hr hd (by omega) (by omega)
    rw [show ((z.toNat : Nat) : Int) = z by omega] at this
    exact this
end Go.Proofs.Ytpbenpkgbhmldaa.tileAll
