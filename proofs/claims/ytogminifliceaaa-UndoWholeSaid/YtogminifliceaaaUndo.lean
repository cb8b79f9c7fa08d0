/- Undo: an entry that came in, opened; contracts of the small functions. -/
import Derived.Test.YtogminifliceaaaKit
import Derived.WalkLawsBesides
import Derived.WalkSpells
import Derived.Deep.RegionHeld3
import Derived.Deep.QuietTactic
import Derived.BigQuiet
namespace Go.Proofs.Ytogminifliceaaa
open Go.ChangeShapes Go.WideShapes Go.ChangeAt Go.RowKit
set_option linter.unusedVariables false

theorem Try.cells30 : Try.prog.cellsOf 30 = 16 := by kernel_rfl
theorem Try.cells23 : Try.prog.cellsOf 23 = 2 := by kernel_rfl
theorem Try.cells24 : Try.prog.cellsOf 24 = 1 := by kernel_rfl
theorem Try.cells25 : Try.prog.cellsOf 25 = 1 := by kernel_rfl
theorem Try.cells26 : Try.prog.cellsOf 26 = 1 := by kernel_rfl
theorem Try.cells27 : Try.prog.cellsOf 27 = 1 := by kernel_rfl
theorem Try.cells28 : Try.prog.cellsOf 28 = 1 := by kernel_rfl
theorem Try.cells3 : Try.prog.cellsOf 3 = 1 := by kernel_rfl
theorem Try.cells5 : Try.prog.cellsOf 5 = 1 := by kernel_rfl
theorem Try.info5' : (Try.prog.info? 5).map (fun i => (i.zero, i.size, i.bytes)) = some (some (.int .u8 0), 1, 1) := by kernel_rfl

section
variable {H : Type} {enc : TypeId × Value → H} {w : World} {base : Nat} {spare : Nat → Bool} {held : Bool}
theorem open_rid {fuel : Nat} {cs : List Value} {x : DataW H × List MemPlace} (h : DataW.trod enc Try.prog w base spare held fuel 23 cs = some x) :
    ∃ a b : Int, cs = [.int .i64 a, .int .i64 b] ∧ (Lit.int .i64 a).wf = true ∧ (Lit.int .i64 b).wf = true := by
  obtain ⟨xs, n, _, _, hlen, _, hf⟩ := DataW.trod_struct Try.underlying23 h
  rw [Try.cells23] at hlen
  have h0 := hf 0 _ rfl
  have h1 := hf 1 _ rfl
  match cs, hlen with
  | [c0, c1], _ =>
    match xs, (show xs.length = 2 from ‹_›) with
    | [y0, y1], _ =>
      simp [Try.cells3] at h0 h1
      obtain ⟨a, ha, _, wa⟩ := DataW.trod_int Try.underlying3 h0
      obtain ⟨b, hb, _, wb⟩ := DataW.trod_int Try.underlying3 h1
      simp at ha hb
      exact ⟨a, b, by rw [ha, hb], wa, wb⟩
/-- What the cell of a slice of bytes says. -/
def IsBytes (w : World) (v : Value) (l : List UInt8) : Prop := ∃ A c, v = .slice A l.length c ∧ l.length ≤ c ∧ Reads w w.heap.size 1 A l.length (bv l)
theorem open_bytes {fuel : Nat} {cs : List Value} {x : DataW H × List MemPlace} (h : DataW.trod enc Try.prog w base spare held fuel 24 cs = some x) :
    ∃ v l, cs = [v] ∧ IsBytes w v l := by
  obtain ⟨A, n, c, zs, rfl, h1, h2, _, hz, hr, hw⟩ := open_flat_ints Try.underlying24 Try.underlying5 Try.cells5 h
  obtain ⟨l, hl, hn⟩ := bytes_of_ints hw
  rw [hl] at hr
  obtain rfl : l.length = n := by omega
  exact ⟨_, l, rfl, A, c, rfl, h1, hr⟩
theorem open_any_slice {t e : Nat} {fuel : Nat} {cs : List Value} {x : DataW H × List MemPlace} (ht : Try.prog.underlying t = some (.slice e)) (h : DataW.trod enc Try.prog w base spare held fuel t cs = some x) :
    ∃ A n c, cs = [.slice A n c] := by
  rcases Go.Deep.open_slice ht h with ⟨rfl, _⟩ | ⟨a, len, cap, _, _, _, _, rfl, _⟩
  · exact ⟨_, _, _, rfl⟩
  · exact ⟨_, _, _, rfl⟩
theorem one_int {fuel : Nat} {c : Value} {x : DataW H × List MemPlace} (h : DataW.trod enc Try.prog w base spare held fuel 3 [c] = some x) : ∃ a : Int, c = .int .i64 a ∧ (Lit.int .i64 a).wf = true := by
  obtain ⟨a, ha, _, wa⟩ := DataW.trod_int Try.underlying3 h
  simp at ha
  exact ⟨a, ha, wa⟩
theorem list16 {l : List Value} (h : l.length = 16) : ∃ c0 c1 c2 c3 c4 c5 c6 c7 c8 c9 c10 c11 c12 c13 c14 c15, l = [c0, c1, c2, c3, c4, c5, c6, c7, c8, c9, c10, c11, c12, c13, c14, c15] := by
  match l, h with
  | [c0, c1, c2, c3, c4, c5, c6, c7, c8, c9, c10, c11, c12, c13, c14, c15], _ => exact ⟨_, _, _, _, _, _, _, _, _, _, _, _, _, _, _, _, rfl⟩
theorem list14 {α : Type} {l : List α} (h : l.length = 14) : ∃ c0 c1 c2 c3 c4 c5 c6 c7 c8 c9 c10 c11 c12 c13, l = [c0, c1, c2, c3, c4, c5, c6, c7, c8, c9, c10, c11, c12, c13] := by
  match l, h with
  | [c0, c1, c2, c3, c4, c5, c6, c7, c8, c9, c10, c11, c12, c13], _ => exact ⟨_, _, _, _, _, _, _, _, _, _, _, _, _, _, rfl⟩
/-- An entry that came in. -/
theorem open_entry {fuel : Nat} {cs : List Value} {x : DataW H × List MemPlace} (h : DataW.trod enc Try.prog w base spare held fuel 30 cs = some x) :
    ∃ (k t u hf p n a0 a1 b0 b1 : Int) (so sn sm sl sd sp : Value) (lo ln : List UInt8), cs = [.int .i64 k, .int .i64 t, .int .i64 u, .int .i64 hf, .int .i64 p, .int .i64 n, .int .i64 a0, .int .i64 a1, .int .i64 b0, .int .i64 b1, so, sn, sm, sl, sd, sp] ∧
      IsBytes w so lo ∧ IsBytes w sn ln ∧ (∃ A n c, sm = .slice A n c) := by
  obtain ⟨xs, n, _, _, hlen, hxl, hf⟩ := DataW.trod_struct Try.underlying30 h
  rw [Try.cells30] at hlen
  obtain ⟨c0, c1, c2, c3, c4, c5, c6, c7, c8, c9, c10, c11, c12, c13, c14, c15, rfl⟩ := list16 hlen
  obtain ⟨y0, y1, y2, y3, y4, y5, y6, y7, y8, y9, y10, y11, y12, y13, rfl⟩ := list14 hxl
  have g0 := hf 0 _ rfl
  have g1 := hf 1 _ rfl
  have g2 := hf 2 _ rfl
  have g3 := hf 3 _ rfl
  have g4 := hf 4 _ rfl
  have g5 := hf 5 _ rfl
  have g6 := hf 6 _ rfl
  have g7 := hf 7 _ rfl
  have g8 := hf 8 _ rfl
  have g9 := hf 9 _ rfl
  have g10 := hf 10 _ rfl
  clear hf
  simp [Try.cells3, Try.cells23, Try.cells24, Try.cells25] at g0 g1 g2 g3 g4 g5 g6 g7 g8 g9 g10
  obtain ⟨k, rfl, _⟩ := one_int g0
  obtain ⟨t, rfl, _⟩ := one_int g1
  obtain ⟨u, rfl, _⟩ := one_int g2
  obtain ⟨hh, rfl, _⟩ := one_int g3
  obtain ⟨p, rfl, _⟩ := one_int g4
  obtain ⟨q, rfl, _⟩ := one_int g5
  obtain ⟨a0, a1, ha, _⟩ := open_rid g6
  obtain ⟨b0, b1, hb, _⟩ := open_rid g7
  simp at ha hb
  obtain ⟨rfl, rfl⟩ := ha
  obtain ⟨rfl, rfl⟩ := hb
  obtain ⟨so, lo, ho, io⟩ := open_bytes g8
  obtain ⟨sn, ln, hn, jn⟩ := open_bytes g9
  obtain ⟨A, m, c, hm⟩ := open_any_slice Try.underlying25 g10
  simp at ho hn hm
  subst ho hn hm
  exact ⟨k, t, u, hh, p, q, a0, a1, b0, b1, _, _, _, _, _, _, lo, ln, rfl, io, jn, A, m, c, rfl⟩
end

/-- A slice of bytes of the call's own comes back. -/
def GivesBytes (w : World) (l : List UInt8) (e : Ending) (w' : World) : Prop :=
  ∃ A' c', e = .returned (.slice A' l.length c') ∧ (A' = none → c' = 0) ∧ (∀ ad, A' = some ad → w.heap.size ≤ ad.block) ∧ Reads w' w'.heap.size 1 A' l.length (bv l) ∧ Below w.heap.size w w'
theorem gives_of_own {w w1 : World} {l : List UInt8} {v1 : Value} (h : w1.ownsRow w.heap.size 5 1 v1 l.length (bv l)) (hb : Below w.heap.size w w1) : GivesBytes w l (.returned v1) w1 := by
  rcases h.2 with ⟨rfl, h0⟩ | ⟨g, cap, cur, rfl, _, _⟩
  · have : l = [] := List.eq_nil_of_length_eq_zero h0
    subst this
    exact ⟨none, 0, rfl, (fun _ => rfl), (fun _ h => by cases h), Reads.none_, hb⟩
  · exact ⟨_, cap, rfl, (fun h => by cases h), (fun ad h => by injection h with h; subst h; assumption), Reads.of_own h, hb⟩
/-- slices.Clone of bytes -/
theorem clone_any (A : Option Addr) (c : Nat) (l : List UInt8) (w : World) (hn : A = none → c = 0) (hr : Reads w w.heap.size 1 A l.length (bv l)) (hl : l.length ≤ 1048576) :
    Calls Try.prog 13 #[.slice A l.length c] w (GivesBytes w l) := by
  obtain ⟨i0, hi0, hz0, hz1, hz2⟩ := info_parts Try.info5'
  have hq := fun w => Lib.run_eql_slice_nil (P := Try.prog) w 24 5
  rcases A with _ | ad
  · have h0 : l.length = 0 := by
      rcases Nat.eq_zero_or_pos l.length with h | h
      · exact h
      · obtain ⟨_, e, _⟩ := hr.2 h
        cases e
    obtain rfl : l = [] := List.eq_nil_of_length_eq_zero h0
    obtain rfl := hn rfl
    go_enter Try.func13, Try.ntmps13
    go_wp2
    go_ret
    exact ⟨none, 0, rfl, (fun _ => rfl), (fun _ h => by cases h), Reads.none_, Below.refl _ _⟩
  · have hown : (w.alloc (.cells #[] 5)).ownsRow w.heap.size 5 1 (.slice (some ⟨w.heap.size, 0, none⟩) 0 0) 0 [] := World.ownsRow_made w #[] 0 (Nat.le_refl _) (Nat.zero_le _) rfl
    have hb0 : Below w.heap.size w (w.alloc (.cells #[] 5)) := (Below.refl _ _).alloc (Nat.le_refl _) _
    have hr1 := hide (hr.alloc (Nat.le_refl _) (.cells #[] 5))
    clear hr
    have hown' := hide hown
    clear hown
    go_enter Try.func13, Try.ntmps13
    go_wp2_with (at_builtin; refine wpList_append_any _ rfl (.tmp 5) (.tmp 6) _ rfl w.heap.size 5 i0 _ 1 1 Try.underlying24 hi0 hz0 hz1 hz2 rfl (by omega) (.slice (some ⟨w.heap.size, 0, none⟩) 0 0) 0 [] rfl hown'.out w.heap.size (some ad) l.length c (bv l) rfl hr1.out (bv_one l) (by simp only [maxLen]; omega) (by omega) (by simp) ?_; intro v1 w1 hown1 hg1 hat1)
    go_ret
    refine gives_of_own (by simpa using hown1) (hb0.grown hg1 hb0.size (fun k hk => ?_))
    simp [Value.ownBlock] at hk
    omega

theorem Blk.cells16 {w : World} {g : Nat} {t : TypeId} {v0 v1 v2 v3 v4 v5 v6 v7 v8 v9 v10 v11 v12 v13 v14 v15 : Value} (h : Blk w g t #[v0, v1, v2, v3, v4, v5, v6, v7, v8, v9, v10, v11, v12, v13, v14, v15]) : w.cell? ⟨g, 0, none⟩ = some v0 ∧ w.cell? ⟨g, 1, none⟩ = some v1 ∧ w.cell? ⟨g, 2, none⟩ = some v2 ∧ w.cell? ⟨g, 3, none⟩ = some v3 ∧ w.cell? ⟨g, 4, none⟩ = some v4 ∧ w.cell? ⟨g, 5, none⟩ = some v5 ∧ w.cell? ⟨g, 6, none⟩ = some v6 ∧ w.cell? ⟨g, 7, none⟩ = some v7 ∧ w.cell? ⟨g, 8, none⟩ = some v8 ∧ w.cell? ⟨g, 9, none⟩ = some v9 ∧ w.cell? ⟨g, 10, none⟩ = some v10 ∧ w.cell? ⟨g, 11, none⟩ = some v11 ∧ w.cell? ⟨g, 12, none⟩ = some v12 ∧ w.cell? ⟨g, 13, none⟩ = some v13 ∧ w.cell? ⟨g, 14, none⟩ = some v14 ∧ w.cell? ⟨g, 15, none⟩ = some v15 :=
  ⟨h.cell 0, h.cell 1, h.cell 2, h.cell 3, h.cell 4, h.cell 5, h.cell 6, h.cell 7, h.cell 8, h.cell 9, h.cell 10, h.cell 11, h.cell 12, h.cell 13, h.cell 14, h.cell 15⟩
/-- A struct of 16 cells, stored whole into a block that is known whole. -/
theorem Blk.set16 {w : World} {g : Nat} {t : TypeId} {v0 v1 v2 v3 v4 v5 v6 v7 v8 v9 v10 v11 v12 v13 v14 v15 : Value} (h : Blk w g t #[v0, v1, v2, v3, v4, v5, v6, v7, v8, v9, v10, v11, v12, v13, v14, v15]) (u0 u1 u2 u3 u4 u5 u6 u7 u8 u9 u10 u11 u12 u13 u14 u15 : Value) : Blk ((((((((((((((((w.setCell ⟨g, 0, none⟩ u0).setCell ⟨g, 1, none⟩ u1).setCell ⟨g, 2, none⟩ u2).setCell ⟨g, 3, none⟩ u3).setCell ⟨g, 4, none⟩ u4).setCell ⟨g, 5, none⟩ u5).setCell ⟨g, 6, none⟩ u6).setCell ⟨g, 7, none⟩ u7).setCell ⟨g, 8, none⟩ u8).setCell ⟨g, 9, none⟩ u9).setCell ⟨g, 10, none⟩ u10).setCell ⟨g, 11, none⟩ u11).setCell ⟨g, 12, none⟩ u12).setCell ⟨g, 13, none⟩ u13).setCell ⟨g, 14, none⟩ u14).setCell ⟨g, 15, none⟩ u15) g t #[u0, u1, u2, u3, u4, u5, u6, u7, u8, u9, u10, u11, u12, u13, u14, u15] := by
  have := ((((((((((((((((h.set_ 0 u0).set_ 1 u1).set_ 2 u2).set_ 3 u3).set_ 4 u4).set_ 5 u5).set_ 6 u6).set_ 7 u7).set_ 8 u8).set_ 9 u9).set_ 10 u10).set_ 11 u11).set_ 12 u12).set_ 13 u13).set_ 14 u14).set_ 15 u15)
  simpa using this
theorem below_set16 {B : Nat} {a w : World} {g : Nat} (h : Below B a w) (hg : B ≤ g) (u0 u1 u2 u3 u4 u5 u6 u7 u8 u9 u10 u11 u12 u13 u14 u15 : Value) : Below B a ((((((((((((((((w.setCell ⟨g, 0, none⟩ u0).setCell ⟨g, 1, none⟩ u1).setCell ⟨g, 2, none⟩ u2).setCell ⟨g, 3, none⟩ u3).setCell ⟨g, 4, none⟩ u4).setCell ⟨g, 5, none⟩ u5).setCell ⟨g, 6, none⟩ u6).setCell ⟨g, 7, none⟩ u7).setCell ⟨g, 8, none⟩ u8).setCell ⟨g, 9, none⟩ u9).setCell ⟨g, 10, none⟩ u10).setCell ⟨g, 11, none⟩ u11).setCell ⟨g, 12, none⟩ u12).setCell ⟨g, 13, none⟩ u13).setCell ⟨g, 14, none⟩ u14).setCell ⟨g, 15, none⟩ u15) :=
  (((((((((((((((h.setCell (p := ⟨g, 0, none⟩) hg u0).setCell (p := ⟨g, 1, none⟩) hg u1).setCell (p := ⟨g, 2, none⟩) hg u2).setCell (p := ⟨g, 3, none⟩) hg u3).setCell (p := ⟨g, 4, none⟩) hg u4).setCell (p := ⟨g, 5, none⟩) hg u5).setCell (p := ⟨g, 6, none⟩) hg u6).setCell (p := ⟨g, 7, none⟩) hg u7).setCell (p := ⟨g, 8, none⟩) hg u8).setCell (p := ⟨g, 9, none⟩) hg u9).setCell (p := ⟨g, 10, none⟩) hg u10).setCell (p := ⟨g, 11, none⟩) hg u11).setCell (p := ⟨g, 12, none⟩) hg u12).setCell (p := ⟨g, 13, none⟩) hg u13).setCell (p := ⟨g, 14, none⟩) hg u14).setCell (p := ⟨g, 15, none⟩) hg u15
/-- What Back leaves of a set. -/
def GivesBack (w : World) (t p n a0 a1 : Int) (l : List UInt8) (e : Ending) (w' : World) : Prop :=
  ∃ A' c', e = .returned (.tuple #[.agg #[.int .i64 2, .int .i64 t, .int .i64 0, .int .i64 0, .int .i64 p, .int .i64 n, .int .i64 a0, .int .i64 a1, .int .i64 0, .int .i64 0, .slice none 0 0, .slice A' l.length c', .slice none 0 0, .slice none 0 0, .slice none 0 0, .slice none 0 0], .bool true]) ∧
    (A' = none → c' = 0) ∧ (∀ ad, A' = some ad → w.heap.size ≤ ad.block) ∧ Reads w' w'.heap.size 1 A' l.length (bv l) ∧ Below w.heap.size w w'

end Go.Proofs.Ytogminifliceaaa
