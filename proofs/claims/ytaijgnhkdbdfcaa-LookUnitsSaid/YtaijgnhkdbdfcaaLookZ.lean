/- Look: entries in a row; begun. (Printed by mk_lookz.py.) -/
import Derived.Test.YtaijgnhkdbdfcaaLookY
namespace Go.Proofs.Ytaijgnhkdbdfcaa
open Go.ChangeShapes Go.WideShapes Go.ChangeAt Go.RowKit
set_option linter.unusedVariables false

/-- entries' cells, one behind the other -/
def EnsAre (w : World) (l : List En) (vs : List Value) : Prop :=
  vs.length = l.length * 16 ∧ ∀ k X, l[k]? = some X → ∃ AN cN AM cM EL cEL ED cED EO cEO, (∀ j u, (enC X AN cN AM cM EL cEL ED cED EO cEO)[j]? = some u → vs[k * 16 + j]? = some u) ∧ EnAt w X AN cN AM cM EL cEL ED cED EO cEO
theorem EnsAre.nil (w : World) : EnsAre w [] [] := ⟨rfl, fun k X h => by simp at h⟩
theorem EnsAre.ext {w w' : World} {l : List En} {vs : List Value} (h : EnsAre w l vs) (hx : Ext w w') : EnsAre w' l vs :=
  ⟨h.1, fun k X hX => by
    obtain ⟨AN, cN, AM, cM, EL, cEL, ED, cED, EO, cEO, hc, he⟩ := h.2 k X hX
    exact ⟨AN, cN, AM, cM, EL, cEL, ED, cED, EO, cEO, hc, he.ext hx⟩⟩
theorem enC_len (X : En) (AN cN AM cM EL cEL ED cED EO cEO) : (enC X AN cN AM cM EL cEL ED cED EO cEO).length = 16 := rfl
theorem EnsAre.snoc {w : World} {l : List En} {vs : List Value} {X : En} {cs : List Value} (h : EnsAre w l vs) (hX : EnIs w X cs) : EnsAre w (l ++ [X]) (vs ++ cs) := by
  obtain ⟨AN, cN, AM, cM, EL, cEL, ED, cED, EO, cEO, rfl, he⟩ := hX
  have hl := h.1
  refine ⟨by rw [List.length_append, List.length_append, enC_len, hl]; simp; omega, fun k Y hY => ?_⟩
  by_cases hk : k < l.length
  · rw [List.getElem?_append_left hk] at hY
    obtain ⟨a1, a2, a3, a4, a5, a6, a7, a8, a9, a10, hc, he'⟩ := h.2 k Y hY
    refine ⟨a1, a2, a3, a4, a5, a6, a7, a8, a9, a10, fun j u hj => ?_, he'⟩
    have := (List.getElem?_eq_some_iff.1 hj).1
    rw [enC_len] at this
    rw [List.getElem?_append_left (by omega)]
    exact hc j u hj
  · have hke : k = l.length := by
      have := (List.getElem?_eq_some_iff.1 hY).1
      simp at this
      omega
    subst hke
    rw [List.getElem?_append_right (by omega), Nat.sub_self] at hY
    simp at hY
    subst hY
    refine ⟨AN, cN, AM, cM, EL, cEL, ED, cED, EO, cEO, fun j u hj => ?_, he⟩
    rw [List.getElem?_append_right (by omega), show l.length * 16 + j - vs.length = j by omega]
    exact hj
theorem EnsAre.one {w : World} {l : List En} {vs : List Value} (h : EnsAre w l vs) : ∀ u ∈ vs, u.oneCell' = true := by
  intro u hu
  obtain ⟨j, hj, rfl⟩ := List.getElem_of_mem hu
  have hk : j / 16 < l.length := by have := h.1; omega
  obtain ⟨AN, cN, AM, cM, EL, cEL, ED, cED, EO, cEO, hc, _⟩ := h.2 (j / 16) _ (List.getElem?_eq_getElem hk)
  obtain ⟨v, hv⟩ : ∃ v, (enC l[j / 16] AN cN AM cM EL cEL ED cED EO cEO)[j % 16]? = some v := ⟨_, List.getElem?_eq_getElem (show j % 16 < 16 from Nat.mod_lt _ (by omega))⟩
  have h1 := hc _ v hv
  rw [show j / 16 * 16 + j % 16 = j by omega, List.getElem?_eq_getElem hj] at h1
  injection h1 with h1
  rw [h1]
  have hm : v ∈ enC l[j / 16] AN cN AM cM EL cEL ED cED EO cEO := List.mem_of_getElem? hv
  simp only [enC, List.mem_cons, List.not_mem_nil, or_false] at hm
  rcases hm with rfl | rfl | rfl | rfl | rfl | rfl | rfl | rfl | rfl | rfl | rfl | rfl | rfl | rfl | rfl | rfl <;> rfl
theorem EnsAt.of_own {w : World} {b n c : Nat} {A : Option Addr} {l : List En} {vs : List Value} (h : w.ownsRow b 35 16 (.slice A n c) n vs) (hn : n = l.length) (hv : EnsAre w l vs) : EnsAt w A n l := by
  refine ⟨hn, fun k X hX => ?_⟩
  have hk := (List.getElem?_eq_some_iff.1 hX).1
  obtain ⟨AN, cN, AM, cM, EL, cEL, ED, cED, EO, cEO, hc, he⟩ := hv.2 k X hX
  obtain ⟨g, cap, hvv, _, hg⟩ := h.form (by omega)
  injection hvv with hA
  subst hA
  refine ⟨g, 0, AN, cN, AM, cM, EL, cEL, ED, cED, EO, cEO, rfl, hg, fun j u hj => ?_, he⟩
  have := (List.getElem?_eq_some_iff.1 hj).1
  rw [enC_len] at this
  rw [Nat.zero_add, h.cellAt _ (by omega)]
  exact hc j u hj
theorem EntsAre.ens {w : World} {es : List EntS} {vs : List Value} (h : EntsAre w es vs) : EnsAre w (es.map fun E => ⟨E, [], [], []⟩) vs := by
  refine ⟨by rw [h.len, List.length_map], fun k X hX => ?_⟩
  rw [List.getElem?_map] at hX
  cases hE : es[k]? with
  | none => rw [hE] at hX; cases hX
  | some E =>
    rw [hE] at hX
    injection hX with hX
    subst hX
    obtain ⟨c, hc, hj⟩ := h.at_ hE
    obtain ⟨AN, cN, AM, cM, AL, cL, AD, cD, AO, cO, rfl, he⟩ := hc.en
    refine ⟨AN, cN, AM, cM, AL, cL, AD, cD, AO, cO, fun j u hu => ?_, he⟩
    have := (List.getElem?_eq_some_iff.1 hu).1
    rw [enC_len] at this
    rw [hj j (by omega)]
    exact hu
def beg1 : En := ⟨{ kind := 1, t := 2, u := 0, h := 0, p := 0, nx := 0, a0 := 3, a1 := 0, b0 := 0, b1 := 0, NL := [], mv := [] }, [], [], []⟩
def beg2 : En := ⟨{ kind := 6, t := 0, u := 4, h := 0, p := 0, nx := 0, a0 := 0, a1 := 0, b0 := 0, b1 := 0, NL := [], mv := [] }, [], [], []⟩
def beg3 : En := ⟨{ kind := 9, t := 0, u := 7, h := 1, p := 0, nx := 0, a0 := 0, a1 := 0, b0 := 0, b1 := 0, NL := [], mv := [] }, [], [], []⟩
theorem beg_all : seenN sn0 [beg1, beg2] 1 = ⟨[⟨2, 1, 1, false⟩], [⟨3, 1⟩], [⟨4, [], 0⟩], 4, 0⟩ := by kernel_rfl
theorem beg_late : lateF [beg1, beg2, beg3] 3 = 3 := by kernel_rfl
theorem beg_lateS : lateS [beg1, beg2, beg3] = ⟨[], [], [], 7, 1⟩ := by kernel_rfl
theorem beg_on : onN sn0 beg1 1 = ⟨[⟨2, 1, 1, false⟩], [⟨3, 1⟩], [], 0, 0⟩ := by kernel_rfl
theorem enAt_nil (w : World) (E : EntS) (h1 : E.NL = []) (h2 : E.mv = []) : EnAt w ⟨E, [], [], []⟩ none 0 none 0 none 0 none 0 none 0 := by
  refine ⟨?_, ?_, SnAt.nil w 0 0⟩
  · show w.ownsRow 0 5 1 (.slice none E.NL.length 0) E.NL.length (bv E.NL)
    rw [h1]
    exact World.ownsRow_nil _ _ _ _
  · show w.ownsRow 0 54 4 (.slice none E.mv.length 0) E.mv.length (mvs E.mv)
    rw [h2]
    exact World.ownsRow_nil _ _ _ _
theorem beg_are (w : World) : EnsAre w [beg1, beg2] [.int .i64 1, .int .i64 2, .int .i64 0, .int .i64 0, .int .i64 0, .int .i64 0, .int .i64 3, .int .i64 0, .int .i64 0, .int .i64 0, .slice none 0 0, .slice none 0 0, .slice none 0 0, .slice none 0 0, .slice none 0 0, .slice none 0 0, .int .i64 6, .int .i64 0, .int .i64 4, .int .i64 0, .int .i64 0, .int .i64 0, .int .i64 0, .int .i64 0, .int .i64 0, .int .i64 0, .slice none 0 0, .slice none 0 0, .slice none 0 0, .slice none 0 0, .slice none 0 0, .slice none 0 0] :=
  ((EnsAre.nil w).snoc (X := beg1) (cs := [.int .i64 1, .int .i64 2, .int .i64 0, .int .i64 0, .int .i64 0, .int .i64 0, .int .i64 3, .int .i64 0, .int .i64 0, .int .i64 0, .slice none 0 0, .slice none 0 0, .slice none 0 0, .slice none 0 0, .slice none 0 0, .slice none 0 0]) ⟨none, 0, none, 0, none, 0, none, 0, none, 0, rfl, enAt_nil w _ rfl rfl⟩).snoc (X := beg2) (cs := [.int .i64 6, .int .i64 0, .int .i64 4, .int .i64 0, .int .i64 0, .int .i64 0, .int .i64 0, .int .i64 0, .int .i64 0, .int .i64 0, .slice none 0 0, .slice none 0 0, .slice none 0 0, .slice none 0 0, .slice none 0 0, .slice none 0 0]) ⟨none, 0, none, 0, none, 0, none, 0, none, 0, rfl, enAt_nil w _ rfl rfl⟩
theorem beg_bd : ∀ (k : Nat) (X : En), ([beg1, beg2, beg3] : List En)[k]? = some X → BdX k X := by
  intro k X h
  have hX : X = beg1 ∨ X = beg2 ∨ X = beg3 := by
    have := List.mem_of_getElem? h
    simpa using this
  rcases hX with rfl | rfl | rfl <;> exact ⟨by simp [beg1, beg2, beg3], by simp [beg1, beg2, beg3], by simp [beg1, beg2, beg3], by simp [beg1, beg2, beg3], by simp [beg1, beg2, beg3]⟩
theorem late_lit {f : FuncId} {args : Array Value} {w : World} {l : List En} {s : Sn} {k : Nat} (hs : lateS l = s) (hk : lateF l l.length = k) (h : Calls Try.prog f args w (GivesLate w l)) : Calls Try.prog f args w fun e w' => ∃ A2 c2 A3 c3 A4 c4 nl nd no u h, e = .returned (.tuple #[.agg #[.slice A2 nl c2, .slice A3 nd c3, .slice A4 no c4, .int .i64 u, .int .i64 h], .int .i64 (k : Int)]) ∧ SnAt w' w.heap.size s A2 c2 A3 c3 A4 c4 ∧ Ext w w' ∧ nl = s.L.length ∧ nd = s.D.length ∧ no = s.O.length ∧ u = s.u ∧ h = s.h := by
  subst hs hk
  exact h.mono fun e w' ⟨cs, he, ⟨A2, c2, A3, c3, A4, c4, hcs, hs⟩, hx⟩ => ⟨A2, c2, A3, c3, A4, c4, _, _, _, _, _, by rw [he, hcs]; rfl, hs, hx, rfl, rfl, rfl, rfl, rfl⟩
theorem own_some {w : World} {b e m n c : Nat} {A : Option Addr} {xs : List Value} (h : w.ownsRow b e m (.slice A n c) n xs) (hn : 0 < n) : ∃ g, A = some ⟨g, 0, none⟩ := by
  obtain ⟨g, cp, hv', _, _⟩ := h.form hn
  injection hv' with hv1 _ _
  exact ⟨g, hv1⟩
set_option maxRecDepth 1000000 in
set_option maxHeartbeats 40000000 in
theorem begun_any (w : World) : Calls Try.prog 8 #[] w fun e w' => e = .returned (.bool true) ∧ Ext w w' := by
  obtain ⟨i0, z0, hi0, hz0, hzs0, hs0, hb0⟩ := info_parts2 Try.info35'
  obtain ⟨g, hg⟩ : ∃ g, g = w.heap.size := ⟨_, rfl⟩
  obtain ⟨w1, hw1⟩ : ∃ w1, w1 = w.alloc (.cells #[.int .i64 1, .int .i64 2, .int .i64 0, .int .i64 0, .int .i64 0, .int .i64 0, .int .i64 3, .int .i64 0, .int .i64 0, .int .i64 0, .slice none 0 0, .slice none 0 0, .slice none 0 0, .slice none 0 0, .slice none 0 0, .slice none 0 0, .int .i64 6, .int .i64 0, .int .i64 4, .int .i64 0, .int .i64 0, .int .i64 0, .int .i64 0, .int .i64 0, .int .i64 0, .int .i64 0, .slice none 0 0, .slice none 0 0, .slice none 0 0, .slice none 0 0, .slice none 0 0, .slice none 0 0] 35) := ⟨_, rfl⟩
  have X1 := hide (show Ext w w1 by rw [hw1]; exact Ext.new w _)
  have G1 := hide (show Blk w1 g 35 #[.int .i64 1, .int .i64 2, .int .i64 0, .int .i64 0, .int .i64 0, .int .i64 0, .int .i64 3, .int .i64 0, .int .i64 0, .int .i64 0, .slice none 0 0, .slice none 0 0, .slice none 0 0, .slice none 0 0, .slice none 0 0, .slice none 0 0, .int .i64 6, .int .i64 0, .int .i64 4, .int .i64 0, .int .i64 0, .int .i64 0, .int .i64 0, .int .i64 0, .int .i64 0, .int .i64 0, .slice none 0 0, .slice none 0 0, .slice none 0 0, .slice none 0 0, .slice none 0 0, .slice none 0 0] by rw [hw1, hg]; exact Blk.new w 35 _)
  have O1 := hide (show w1.ownsRow g 35 16 (.slice (some ⟨g, 0, none⟩) 2 2) 2 [.int .i64 1, .int .i64 2, .int .i64 0, .int .i64 0, .int .i64 0, .int .i64 0, .int .i64 3, .int .i64 0, .int .i64 0, .int .i64 0, .slice none 0 0, .slice none 0 0, .slice none 0 0, .slice none 0 0, .slice none 0 0, .slice none 0 0, .int .i64 6, .int .i64 0, .int .i64 4, .int .i64 0, .int .i64 0, .int .i64 0, .int .i64 0, .int .i64 0, .int .i64 0, .int .i64 0, .slice none 0 0, .slice none 0 0, .slice none 0 0, .slice none 0 0, .slice none 0 0, .slice none 0 0] from own_blkN G1.out (Nat.le_refl _) rfl (by omega))
  have CA := hide (gives_lit (all_any w1 (some ⟨g, 0, none⟩) 2 2 [beg1, beg2] 0 (EnsAt.of_own O1.out rfl (beg_are w1)) (fun k X h => by
    have hk : k < 2 := by have := (List.getElem?_eq_some_iff.1 h).1; simpa using this
    exact (by simpa using beg_bd k X (by rw [← h]; rcases (show k = 0 ∨ k = 1 by omega) with rfl | rfl <;> rfl))) (by omega)))
  rw [beg_all] at CA
  have hgs := hide hg
  go_enter Try.func8, Try.ntmps8
  go_upto_region 2 with (fail)
  rw [← hw1, ← hg]
  clear hw1 hg
  go_upto_region 3 with (go_at_call 10; refine CA.out.mono ?_; rintro e w2 ⟨A2, c2, A3, c3, A4, c4, ml, md, mo, mu, mh, rfl, hs2, hx2, rfl, rfl, rfl, rfl, rfl⟩; have S2 := hide hs2; have X2 := hide hx2; clear hs2 hx2)
  obtain ⟨w3, hw3⟩ : ∃ w3, w3 = w2.alloc (.cells #[.slice A2 1 c2, .slice A3 1 c3, .slice A4 1 c4, .int .i64 4, .int .i64 0] 37) := ⟨_, rfl⟩
  obtain ⟨s2, hs2⟩ : ∃ s2, s2 = w2.heap.size := ⟨_, rfl⟩
  have X3 := hide (show Ext w2 w3 by rw [hw3]; exact Ext.new w2 _)
  have B3 := hide (show Blk w3 s2 37 #[.slice A2 1 c2, .slice A3 1 c3, .slice A4 1 c4, .int .i64 4, .int .i64 0] by rw [hw3, hs2]; exact Blk.new w2 37 _)
  have S3 := hide (S2.out.ext X3.out)
  have G3 := hide ((X2.out.trans X3.out).blk G1.out)
  rw [← hw3, ← hs2]
  clear hw3 hs2
  have O4 := hide ((Ext.new w3 (.cells #[.int .i64 9, .int .i64 0, .int .i64 7, .int .i64 1, .int .i64 0, .int .i64 0, .int .i64 0, .int .i64 0, .int .i64 0, .int .i64 0, .slice none 0 0, .slice none 0 0, .slice none 0 0, .slice none 0 0, .slice none 0 0, .slice none 0 0] 35)).own (own_blkN G3.out (Nat.le_refl g) (n := 2) (m := 16) rfl (by omega) : w3.ownsRow g 35 16 (.slice (some ⟨g, 0, none⟩) 2 2) 2 [.int .i64 1, .int .i64 2, .int .i64 0, .int .i64 0, .int .i64 0, .int .i64 0, .int .i64 3, .int .i64 0, .int .i64 0, .int .i64 0, .slice none 0 0, .slice none 0 0, .slice none 0 0, .slice none 0 0, .slice none 0 0, .slice none 0 0, .int .i64 6, .int .i64 0, .int .i64 4, .int .i64 0, .int .i64 0, .int .i64 0, .int .i64 0, .int .i64 0, .int .i64 0, .int .i64 0, .slice none 0 0, .slice none 0 0, .slice none 0 0, .slice none 0 0, .slice none 0 0, .slice none 0 0]))
  have HC4 := hide (show ∀ b, (some ⟨g, 0, none⟩ : Option Addr) = some b → ∀ j u, ([.int .i64 1, .int .i64 2, .int .i64 0, .int .i64 0, .int .i64 0, .int .i64 0, .int .i64 3, .int .i64 0, .int .i64 0, .int .i64 0, .slice none 0 0, .slice none 0 0, .slice none 0 0, .slice none 0 0, .slice none 0 0, .slice none 0 0, .int .i64 6, .int .i64 0, .int .i64 4, .int .i64 0, .int .i64 0, .int .i64 0, .int .i64 0, .int .i64 0, .int .i64 0, .int .i64 0, .slice none 0 0, .slice none 0 0, .slice none 0 0, .slice none 0 0, .slice none 0 0, .slice none 0 0] : List Value)[j]? = some u → (w3.alloc (.cells #[.int .i64 9, .int .i64 0, .int .i64 7, .int .i64 1, .int .i64 0, .int .i64 0, .int .i64 0, .int .i64 0, .int .i64 0, .int .i64 0, .slice none 0 0, .slice none 0 0, .slice none 0 0, .slice none 0 0, .slice none 0 0, .slice none 0 0] 35)).cell? (b.add j) = some u from fun b hb j u hj => by
    injection hb with hb
    subst hb
    exact O4.out.cells (g := g) rfl j u hj)
  have V4 := hide (Blk.new w3 35 #[.int .i64 9, .int .i64 0, .int .i64 7, .int .i64 1, .int .i64 0, .int .i64 0, .int .i64 0, .int .i64 0, .int .i64 0, .int .i64 0, .slice none 0 0, .slice none 0 0, .slice none 0 0, .slice none 0 0, .slice none 0 0, .slice none 0 0])
  have HN4 := hide (show ∀ j u, ([.int .i64 9, .int .i64 0, .int .i64 7, .int .i64 1, .int .i64 0, .int .i64 0, .int .i64 0, .int .i64 0, .int .i64 0, .int .i64 0, .slice none 0 0, .slice none 0 0, .slice none 0 0, .slice none 0 0, .slice none 0 0, .slice none 0 0] : List Value)[j]? = some u → (w3.alloc (.cells #[.int .i64 9, .int .i64 0, .int .i64 7, .int .i64 1, .int .i64 0, .int .i64 0, .int .i64 0, .int .i64 0, .int .i64 0, .int .i64 0, .slice none 0 0, .slice none 0 0, .slice none 0 0, .slice none 0 0, .slice none 0 0, .slice none 0 0] 35)).cell? ((⟨w3.heap.size, 0, none⟩ : Addr).add j) = some u from (reads_blk (m := 16) V4.out rfl).2 (by omega) |> fun ⟨ad, h1, _, h3⟩ => by injection h1 with h1; subst h1; exact h3)
  have H14 := hide (show ∀ u ∈ ([.int .i64 9, .int .i64 0, .int .i64 7, .int .i64 1, .int .i64 0, .int .i64 0, .int .i64 0, .int .i64 0, .int .i64 0, .int .i64 0, .slice none 0 0, .slice none 0 0, .slice none 0 0, .slice none 0 0, .slice none 0 0, .slice none 0 0] : List Value), u.oneCell' = true by intro u hu; simp only [List.mem_cons, List.not_mem_nil, or_false] at hu; rcases hu with rfl | rfl | rfl | rfl | rfl | rfl | rfl | rfl | rfl | rfl | rfl | rfl | rfl | rfl | rfl | rfl <;> rfl)
  go_upto_region 4 with (first
    | (at_builtin; refine wpList_append_grows _ rfl (.tmp 13) (.tmp 15) 25 rfl 35 i0 z0 16 224 Try.underlying25 hi0 hz0 hs0 hb0 hzs0 (by omega) (some ⟨g, 0, none⟩) 2 2 [.int .i64 1, .int .i64 2, .int .i64 0, .int .i64 0, .int .i64 0, .int .i64 0, .int .i64 3, .int .i64 0, .int .i64 0, .int .i64 0, .slice none 0 0, .slice none 0 0, .slice none 0 0, .slice none 0 0, .slice none 0 0, .slice none 0 0, .int .i64 6, .int .i64 0, .int .i64 4, .int .i64 0, .int .i64 0, .int .i64 0, .int .i64 0, .int .i64 0, .int .i64 0, .int .i64 0, .slice none 0 0, .slice none 0 0, .slice none 0 0, .slice none 0 0, .slice none 0 0, .slice none 0 0] rfl (fun h => by cases h) rfl HC4.out ⟨w3.heap.size, 0, none⟩ 1 1 [.int .i64 9, .int .i64 0, .int .i64 7, .int .i64 1, .int .i64 0, .int .i64 0, .int .i64 0, .int .i64 0, .int .i64 0, .int .i64 0, .slice none 0 0, .slice none 0 0, .slice none 0 0, .slice none 0 0, .slice none 0 0, .slice none 0 0] rfl rfl HN4.out H14.out (by omega) (by simp only [maxLen]; omega) (by omega) ?_; intro v4 w4 ho4 hg4; obtain ⟨A5, c5, hv4, _, hnc, _⟩ := own_form ho4; subst hv4; have O5 := hide ho4; have NC5 := hide hnc; have X4 := hide (show Ext w3 w4 from Ext.grown (Ext.new w3 _) hg4 (fun k hk => by cases hk)); have CB := hide (late_lit beg_lateS beg_late (late_any w4 A5 c5 3 [beg1, beg2, beg3] (EnsAt.of_own ho4 rfl ((beg_are w4).snoc (X := beg3) (cs := [.int .i64 9, .int .i64 0, .int .i64 7, .int .i64 1, .int .i64 0, .int .i64 0, .int .i64 0, .int .i64 0, .int .i64 0, .int .i64 0, .slice none 0 0, .slice none 0 0, .slice none 0 0, .slice none 0 0, .slice none 0 0, .slice none 0 0]) ⟨none, 0, none, 0, none, 0, none, 0, none, 0, rfl, enAt_nil w4 _ rfl rfl⟩)) beg_bd (by omega) hnc)); clear ho4 hg4 hnc)
    | (go_at_call 11; refine CB.out.mono ?_; rintro e w5 ⟨A6, c6, A7, c7, A8', c8', nl, nd, no, nu, nh, rfl, hs5, hx5, rfl, rfl, rfl, rfl, rfl⟩; have S5 := hide hs5; have X5 := hide hx5; clear hs5 hx5))
  obtain ⟨w6, hw6⟩ : ∃ w6, w6 = w5.alloc (.cells #[.slice A6 0 c6, .slice A7 0 c7, .slice A8' 0 c8', .int .i64 7, .int .i64 1] 37) := ⟨_, rfl⟩
  obtain ⟨s5, hs5⟩ : ∃ s5, s5 = w5.heap.size := ⟨_, rfl⟩
  have X56 := hide (show Ext w5 w6 by rw [hw6]; exact Ext.new w5 _)
  have B6 := hide (show Blk w6 s5 37 #[.slice A6 0 c6, .slice A7 0 c7, .slice A8' 0 c8', .int .i64 7, .int .i64 1] by rw [hw6, hs5]; exact Blk.new w5 37 _)
  have X36 := hide (X4.out.trans (X5.out.trans X56.out))
  have G6 := hide (X36.out.blk G3.out)
  rw [← hw6, ← hs5]
  clear hw6 hs5
  obtain ⟨gl, rfl⟩ := own_some S3.out.l (by decide)
  obtain ⟨gd, rfl⟩ := own_some S3.out.d (by decide)
  have q0 : w6.cell? ⟨g, 0, none⟩ = some (.int .i64 1) := (G6.out.cell 0).trans rfl
  have q1 : w6.cell? ⟨g, 1, none⟩ = some (.int .i64 2) := (G6.out.cell 1).trans rfl
  have q2 : w6.cell? ⟨g, 2, none⟩ = some (.int .i64 0) := (G6.out.cell 2).trans rfl
  have q3 : w6.cell? ⟨g, 3, none⟩ = some (.int .i64 0) := (G6.out.cell 3).trans rfl
  have q4 : w6.cell? ⟨g, 4, none⟩ = some (.int .i64 0) := (G6.out.cell 4).trans rfl
  have q5 : w6.cell? ⟨g, 5, none⟩ = some (.int .i64 0) := (G6.out.cell 5).trans rfl
  have q6 : w6.cell? ⟨g, 6, none⟩ = some (.int .i64 3) := (G6.out.cell 6).trans rfl
  have q7 : w6.cell? ⟨g, 7, none⟩ = some (.int .i64 0) := (G6.out.cell 7).trans rfl
  have q8 : w6.cell? ⟨g, 8, none⟩ = some (.int .i64 0) := (G6.out.cell 8).trans rfl
  have q9 : w6.cell? ⟨g, 9, none⟩ = some (.int .i64 0) := (G6.out.cell 9).trans rfl
  have q10 : w6.cell? ⟨g, 10, none⟩ = some (.slice none 0 0) := (G6.out.cell 10).trans rfl
  have q11 : w6.cell? ⟨g, 11, none⟩ = some (.slice none 0 0) := (G6.out.cell 11).trans rfl
  have q12 : w6.cell? ⟨g, 12, none⟩ = some (.slice none 0 0) := (G6.out.cell 12).trans rfl
  have q13 : w6.cell? ⟨g, 13, none⟩ = some (.slice none 0 0) := (G6.out.cell 13).trans rfl
  have q14 : w6.cell? ⟨g, 14, none⟩ = some (.slice none 0 0) := (G6.out.cell 14).trans rfl
  have q15 : w6.cell? ⟨g, 15, none⟩ = some (.slice none 0 0) := (G6.out.cell 15).trans rfl
  have CC := hide (gives_lit (on_any w6 0 sn0 beg1 1 none 0 none 0 none 0 0 0 0 none 0 0 none 0 0 none 0 0 none 0 0 none 0 0 (SnAt.nil w6 0 0) (enAt_nil w6 _ rfl rfl) ((Bd.zero 0).pre (beg_bd 0 beg1 rfl) (by omega)) rfl rfl rfl rfl rfl rfl rfl rfl))
  rw [beg_on] at CC
  go_wp2_with (go_at_call 15; refine CC.out.mono ?_; intro e w7 hg7; obtain ⟨A9, c9, A10, c10, A11, c11, nl, nd, no, nu, nh, rfl, hs7, hx7, rfl, rfl, rfl, rfl, rfl⟩ := hg7; have S7 := hide hs7; have X7 := hide hx7; have X78 := hide (show Ext w7 (w7.alloc (.cells #[.slice A9 1 c9, .slice A10 1 c10, .slice A11 0 c11, .int .i64 0, .int .i64 0] 37)) from Ext.new w7 _); have X28 := hide (X36.out.trans (hx7.trans X78.out)); have y20 : (w7.alloc (.cells #[.slice A9 1 c9, .slice A10 1 c10, .slice A11 0 c11, .int .i64 0, .int .i64 0] 37)).cell? ⟨s2, 0, none⟩ = some (.slice (some ⟨gl, 0, none⟩) 1 c2) := ((X28.out.blk B3.out).cell 0).trans rfl; have y21 : (w7.alloc (.cells #[.slice A9 1 c9, .slice A10 1 c10, .slice A11 0 c11, .int .i64 0, .int .i64 0] 37)).cell? ⟨s2, 1, none⟩ = some (.slice (some ⟨gd, 0, none⟩) 1 c3) := ((X28.out.blk B3.out).cell 1).trans rfl; have y22 : (w7.alloc (.cells #[.slice A9 1 c9, .slice A10 1 c10, .slice A11 0 c11, .int .i64 0, .int .i64 0] 37)).cell? ⟨s2, 2, none⟩ = some (.slice A4 1 c4) := ((X28.out.blk B3.out).cell 2).trans rfl; have y23 : (w7.alloc (.cells #[.slice A9 1 c9, .slice A10 1 c10, .slice A11 0 c11, .int .i64 0, .int .i64 0] 37)).cell? ⟨s2, 3, none⟩ = some (.int .i64 4) := ((X28.out.blk B3.out).cell 3).trans rfl; have l0 : (w7.alloc (.cells #[.slice A9 1 c9, .slice A10 1 c10, .slice A11 0 c11, .int .i64 0, .int .i64 0] 37)).cell? ⟨gl, 0, none⟩ = some (.int .i64 2) := (by rw [(X28.out.own S3.out.l).cellAt 0 (by decide)]; rfl); have l2 : (w7.alloc (.cells #[.slice A9 1 c9, .slice A10 1 c10, .slice A11 0 c11, .int .i64 0, .int .i64 0] 37)).cell? ⟨gl, 2, none⟩ = some (.int .i64 1) := (by rw [(X28.out.own S3.out.l).cellAt 2 (by decide)]; rfl); have d0 : (w7.alloc (.cells #[.slice A9 1 c9, .slice A10 1 c10, .slice A11 0 c11, .int .i64 0, .int .i64 0] 37)).cell? ⟨gd, 0, none⟩ = some (.int .i64 3) := (by rw [(X28.out.own S3.out.d).cellAt 0 (by decide)]; rfl); have z50 : (w7.alloc (.cells #[.slice A9 1 c9, .slice A10 1 c10, .slice A11 0 c11, .int .i64 0, .int .i64 0] 37)).cell? ⟨s5, 0, none⟩ = some (.slice A6 0 c6) := (((hx7.trans X78.out).blk B6.out).cell 0).trans rfl; have z53 : (w7.alloc (.cells #[.slice A9 1 c9, .slice A10 1 c10, .slice A11 0 c11, .int .i64 0, .int .i64 0] 37)).cell? ⟨s5, 3, none⟩ = some (.int .i64 7) := (((hx7.trans X78.out).blk B6.out).cell 3).trans rfl; have z54 : (w7.alloc (.cells #[.slice A9 1 c9, .slice A10 1 c10, .slice A11 0 c11, .int .i64 0, .int .i64 0] 37)).cell? ⟨s5, 4, none⟩ = some (.int .i64 1) := (((hx7.trans X78.out).blk B6.out).cell 4).trans rfl; have N8 := Blk.new w7 37 #[.slice A9 1 c9, .slice A10 1 c10, .slice A11 0 c11, .int .i64 0, .int .i64 0]; clear hs7 hx7 N8)
  go_ret
  exact ⟨rfl, ((X1.out.trans X2.out).trans (X3.out.trans X36.out)).trans (X7.out.trans X78.out)⟩
end Go.Proofs.Ytaijgnhkdbdfcaa
