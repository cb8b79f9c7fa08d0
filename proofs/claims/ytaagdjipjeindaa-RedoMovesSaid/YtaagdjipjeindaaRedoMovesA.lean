/- RedoMoves: what two cells say; a note done on a page. -/
import Derived.Test.YtaagdjipjeindaaRedoX
namespace Go.Proofs.Ytaagdjipjeindaa.redoMoves
open Go.ChangeShapes Go.WideShapes Go.ChangeAt Go.RowKit
set_option linter.unusedVariables false

/-! ### The plain law: what the two cells say -/
def kA (i : Nat) : Int := if i = 0 then 1 else if i = 1 then 2 else 0
def keyA (m i : Nat) : List UInt8 := if i = 0 then ltL m else []
def pA (b i : Nat) : Int := if i = 1 then (b : Int) else 0
def kB (i : Nat) : Int := if i = 0 then 0 else 1
def keyB (m i : Nat) : List UInt8 := if i = 0 then [] else ltL m
section
variable {a0 a1 b0 b1 m : Nat}
theorem cellA (ha : a1 < 4) (hb0 : b0 < 32) (hb1 : b1 < 4) (hab : ¬ (a0 = b0 ∧ a1 = b1)) : ∀ i, i < 3 → RdIs ((runP (a0 : Int) (es3 a0 a1 b0 b1 (rowL (ltL m) [] [])) (i + 1)).1 a1) (kA i) (keyA m i) (pA b0 i) (pA b1 i) := by
  intro i hi
  rcases (show i = 0 ∨ i = 1 ∨ i = 2 by omega) with rfl | rfl | rfl
  · rw [run1_yes]
    show RdIs (setP noP a0 a1 a0 _ a1) _ _ _ _
    rw [setP_own ha]
    exact .inr (.inl ⟨m, rfl, rfl, rfl, rfl, rfl⟩)
  · rw [run2_yes (.inl rfl), setP_else (fun h => hab ⟨h.1.symm, h.2.symm⟩), setP_own ha]
    refine .inr (.inr ⟨b0, b1, hb0, hb1, ?_, rfl, rfl, rfl, rfl⟩)
    rw [stubOf, if_pos (by omega)]
    rfl
  · rw [run3_yes, setP_own ha]
    exact .inl ⟨rfl, rfl, rfl, rfl, rfl⟩
theorem cellB (hb1 : b1 < 4) (hab : ¬ (a0 = b0 ∧ a1 = b1)) : ∀ i, i < 3 → RdIs ((runP (b0 : Int) (es3 a0 a1 b0 b1 (rowL (ltL m) [] [])) (i + 1)).1 b1) (kB i) (keyB m i) 0 0 := by
  have h2 : (runP (b0 : Int) (es3 a0 a1 b0 b1 (rowL (ltL m) [] [])) 2).1 b1 = rowL (ltL m) [] [] := by
    rw [run2_yes (.inr rfl), setP_own hb1]
  intro i hi
  rcases (show i = 0 ∨ i = 1 ∨ i = 2 by omega) with rfl | rfl | rfl
  · refine .inl ⟨?_, rfl, rfl, rfl, rfl⟩
    by_cases h : b0 = a0
    · subst h
      rw [run1_yes]
      show setP noP b0 a1 b0 _ b1 = []
      rw [setP_else (fun h => hab ⟨rfl, h.2⟩)]
      rfl
    · rw [run1_no h]; rfl
  · rw [h2]
    exact .inr (.inl ⟨m, rfl, rfl, rfl, rfl, rfl⟩)
  · have h3 : (runP (b0 : Int) (es3 a0 a1 b0 b1 (rowL (ltL m) [] [])) 3).1 b1 = rowL (ltL m) [] [] := by
      by_cases h : b0 = a0
      · subst h
        rw [run3_yes, setP_else (fun h => hab ⟨rfl, h.2⟩), h2]
      · rw [run3_no h, h2]
    rw [h3]
    exact .inr (.inl ⟨m, rfl, rfl, rfl, rfl, rfl⟩)
end
/-- the pages, the notes, the two places -/
def St (w0 : World) (pb ka kb : Nat) (v : Value) (es : List EntS) (a0 a1 b0 b1 : Nat) (S : Nat → (Nat → List UInt8) × Int) (wr : World) : Prop :=
  PgsAt wr pb S ∧ Ents wr v es ∧ Blk wr ka 25 #[.int .i64 (a0 : Int), .int .i64 (a1 : Int)] ∧ Blk wr kb 25 #[.int .i64 (b0 : Int), .int .i64 (b1 : Int)] ∧ Ext w0 wr
section
variable {w0 wr wx : World} {pb ka kb : Nat} {v : Value} {es : List EntS} {a0 a1 b0 b1 : Nat} {S : Nat → (Nat → List UInt8) × Int}
theorem St.ext (h : St w0 pb ka kb v es a0 a1 b0 b1 S wr) (hx : Ext wr wx) : St w0 pb ka kb v es a0 a1 b0 b1 S wx := ⟨h.1.ext hx, h.2.1.ext hx, hx.blk h.2.2.1, hx.blk h.2.2.2.1, h.2.2.2.2.trans hx⟩
theorem St.lay {n : Nat} {s : (Nat → List UInt8) × Int} {A0 A1 A2 A3 : Option Addr} {c0 c1 c2 c3 : Nat} (h : St w0 pb ka kb v es a0 a1 b0 b1 S wr) (hn : n < 3) (hw : w0.heap.size ≤ pb)
    (hp : Pg wr (.agg #[.slice A0 (s.1 0).length c0, .slice A1 (s.1 1).length c1, .slice A2 (s.1 2).length c2, .slice A3 (s.1 3).length c3, .int .i64 s.2]) s.1 s.2) :
    St w0 pb ka kb v es a0 a1 b0 b1 (updS S n s) (((((wr.setCell ⟨pb, n * 5, none⟩ (.slice A0 (s.1 0).length c0)).setCell ⟨pb, n * 5 + 1, none⟩ (.slice A1 (s.1 1).length c1)).setCell ⟨pb, n * 5 + 2, none⟩ (.slice A2 (s.1 2).length c2)).setCell ⟨pb, n * 5 + 3, none⟩ (.slice A3 (s.1 3).length c3)).setCell ⟨pb, n * 5 + 4, none⟩ (.int .i64 s.2)) := by
  have ht := touch_five wr pb (n * 5) (.slice A0 (s.1 0).length c0) (.slice A1 (s.1 1).length c1) (.slice A2 (s.1 2).length c2) (.slice A3 (s.1 3).length c3) (.int .i64 s.2)
  obtain ⟨cs, hb⟩ := h.1.blk
  exact ⟨h.1.lay hn hp, h.2.1.far hb (by decide) (by decide) (by decide) ht, ht.blk h.2.2.1 (Blk.ne_ h.2.2.1 hb (by decide)), ht.blk h.2.2.2.1 (Blk.ne_ h.2.2.2.1 hb (by decide)), Touch.ext h.2.2.2.2 ht hw⟩
end
theorem St.congr {w0 wr : World} {pb ka kb : Nat} {v : Value} {es : List EntS} {a0 a1 b0 b1 : Nat} {S S' : Nat → (Nat → List UInt8) × Int} (h : St w0 pb ka kb v es a0 a1 b0 b1 S wr) (he : ∀ n, n < 3 → S n = S' n) : St w0 pb ka kb v es a0 a1 b0 b1 S' wr := by
  obtain ⟨⟨cs, h1, h2, h3, h4⟩, h5⟩ := h
  exact ⟨⟨cs, h1, h2, h3, fun n hn => by rw [← he n hn]; exact h4 n hn⟩, h5⟩
theorem p5_cell {cs : Array Value} {w : World} {n : Nat} {s : (Nat → List UInt8) × Int} (h : P5 cs w n s) {c : Nat} (hc : c < 4) : ∃ A d, cs[n * 5 + c]? = some (.slice A (s.1 c).length d) ∧ BB w (.slice A (s.1 c).length d) (s.1 c) := by
  obtain ⟨A0, c0, A1, c1, A2, c2, A3, c3, k0, k1, k2, k3, _, u0, u1, u2, u3, e, h0, h1, h2, h3⟩ := h
  injection e with e
  simp only [Array.mk.injEq, List.cons.injEq, and_true] at e
  obtain ⟨rfl, rfl, rfl, rfl⟩ := e
  rcases (show c = 0 ∨ c = 1 ∨ c = 2 ∨ c = 3 by omega) with rfl | rfl | rfl | rfl
  · exact ⟨A0, c0, k0, h0⟩
  · exact ⟨A1, c1, k1, h1⟩
  · exact ⟨A2, c2, k2, h2⟩
  · exact ⟨A3, c3, k3, h3⟩
theorem St.cell {w0 wr : World} {pb ka kb : Nat} {v : Value} {es : List EntS} {a0 a1 b0 b1 : Nat} {S : Nat → (Nat → List UInt8) × Int} (h : St w0 pb ka kb v es a0 a1 b0 b1 S wr) {n c : Nat} (hn : n < 3) (hc : c < 4) : ∃ A d, wr.cell? ⟨pb, n * 5 + c, none⟩ = some (.slice A ((S n).1 c).length d) ∧ BB wr (.slice A ((S n).1 c).length d) ((S n).1 c) ∧ pb < wr.heap.size := by
  obtain ⟨⟨cs, h1, h2, h3, h4⟩, h5⟩ := h
  obtain ⟨A, d, e, hb⟩ := p5_cell (h4 n hn) hc
  exact ⟨A, d, (h1.cell _).trans e, hb, h1.lt⟩
theorem es3_ok (a0 a1 b0 b1 m : Nat) : ∀ E ∈ es3 a0 a1 b0 b1 (rowL (ltL m) [] []), EntOk E := by
  intro E hE
  have hl : (rowL (ltL m) [] []).length = 26 := rowL_len (by simp [ltL]) (by simp) (by simp)
  simp only [es3, List.mem_cons, List.not_mem_nil, or_false] at hE
  rcases hE with rfl | rfl | rfl
  · exact ⟨by show (rowL (ltL m) [] []).length ≤ 1000; omega, by simp [eSet]⟩
  · exact ⟨by show (rowL (ltL m) [] []).length ≤ 1000; omega, by simp [eMove]⟩
  · exact ⟨by simp [eDone], by simp [eDone]⟩
set_option maxRecDepth 1000000 in
set_option maxHeartbeats 40000000 in
theorem page_blk (wr wq : World) (pb ka kb g c11 i n : Nat) (es : List EntS) (a0 a1 b0 b1 : Nat) (hst : St wq pb ka kb (.slice (some ⟨g, 0, none⟩) 3 c11) es a0 a1 b0 b1 (fun j => if j < n then runP (j : Int) es (i + 1) else runP (j : Int) es i) wr) (hes : es.length = 3) (hok : ∀ E ∈ es, EntOk E) (hi3 : i < 3) (hlt2 : n < 3) (hpb : wq.heap.size ≤ pb)
    (u0 u1 u2 u3 u4 u5 u6 u7 u8 u9 u10 u15 u16 u17 u18 u19 u20 u21 u22 u23 u24 u25 u26 u27 u28 u29 u30 u31 u32 u33 u34 u35 u36 u37 u38 u39 u40 u41 u42 u43 u44 u45 u46 u47 u48 u49 u50 u51 u52 u53 u54 u55 u56 u57 u58 u59 u60 u61 u62 u63 u64 u65 u66 u67 u68 u69 u70 u71 u72 u73 u74 u75 u76 u77 u78 u79 u80 u81 u82 u83 u84 u85 u86 u87 u88 u89 u90 u91 u92 u93 u94 u95 u96 u97 u98 u99 u100 u101 u102 u103 u104 u105 u106 u107 u108 u109 u110 u111 u112 u113 u114 u115 u116 u117 u118 u119 u120 u121 u122 u123 u124 u125 u126 u127 u128 u129 u130 u131 u132 u133 u134 u135 u136 u137 u138 u139 u140 u141 u142 u143 u144 u145 u146 u147 u148 u149 u150 u151 u152 u153 u154 u155 u156 u157 u158 u159 u160 u161 : Value) (KK : Act → World → Prop) (Q : Exit → Act → World → Prop)
    (hKK : ∀ (v15 v16 v79 v80 v81 v82 v83 v84 v85 v86 v87 v88 v89 v90 v91 v92 v93 v94 v95 : Value) (wx : World), St wq pb ka kb (.slice (some ⟨g, 0, none⟩) 3 c11) es a0 a1 b0 b1 (fun j => if j < n + 1 then runP (j : Int) es (i + 1) else runP (j : Int) es i) wx → KK ⟨(u0 :: u1 :: u2 :: u3 :: u4 :: u5 :: u6 :: u7 :: u8 :: u9 :: u10 :: Value.slice (some ⟨g, 0, none⟩) 3 c11 :: Value.pointer (some ⟨pb, 0, none⟩) :: Value.int .i64 (i : Int) :: Value.int .i64 (n : Int) :: v15 :: v16 :: u17 :: u18 :: u19 :: u20 :: u21 :: u22 :: u23 :: u24 :: u25 :: u26 :: u27 :: u28 :: u29 :: u30 :: u31 :: u32 :: u33 :: u34 :: u35 :: u36 :: u37 :: u38 :: u39 :: u40 :: u41 :: u42 :: u43 :: u44 :: u45 :: u46 :: u47 :: u48 :: u49 :: u50 :: u51 :: u52 :: u53 :: u54 :: u55 :: u56 :: u57 :: u58 :: u59 :: u60 :: u61 :: u62 :: u63 :: u64 :: u65 :: u66 :: u67 :: u68 :: u69 :: u70 :: u71 :: u72 :: u73 :: u74 :: u75 :: u76 :: u77 :: u78 :: v79 :: v80 :: v81 :: v82 :: v83 :: v84 :: v85 :: v86 :: v87 :: v88 :: v89 :: v90 :: v91 :: v92 :: v93 :: v94 :: v95 :: u96 :: u97 :: u98 :: u99 :: u100 :: u101 :: u102 :: u103 :: u104 :: u105 :: u106 :: u107 :: u108 :: u109 :: u110 :: u111 :: u112 :: u113 :: u114 :: u115 :: u116 :: u117 :: u118 :: u119 :: u120 :: u121 :: u122 :: u123 :: u124 :: u125 :: u126 :: u127 :: u128 :: u129 :: u130 :: u131 :: u132 :: u133 :: u134 :: u135 :: u136 :: u137 :: u138 :: u139 :: u140 :: u141 :: u142 :: u143 :: u144 :: u145 :: u146 :: u147 :: u148 :: u149 :: u150 :: u151 :: u152 :: u153 :: u154 :: u155 :: u156 :: u157 :: u158 :: u159 :: u160 :: u161 :: []).toArray, []⟩ wx) :
    Code.wp Try.prog (blockAt Try.f6 3) (Exit.then KK Q) ⟨(u0 :: u1 :: u2 :: u3 :: u4 :: u5 :: u6 :: u7 :: u8 :: u9 :: u10 :: Value.slice (some ⟨g, 0, none⟩) 3 c11 :: Value.pointer (some ⟨pb, 0, none⟩) :: Value.int .i64 (i : Int) :: Value.int .i64 (n : Int) :: u15 :: u16 :: u17 :: u18 :: u19 :: u20 :: u21 :: u22 :: u23 :: u24 :: u25 :: u26 :: u27 :: u28 :: u29 :: u30 :: u31 :: u32 :: u33 :: u34 :: u35 :: u36 :: u37 :: u38 :: u39 :: u40 :: u41 :: u42 :: u43 :: u44 :: u45 :: u46 :: u47 :: u48 :: u49 :: u50 :: u51 :: u52 :: u53 :: u54 :: u55 :: u56 :: u57 :: u58 :: u59 :: u60 :: u61 :: u62 :: u63 :: u64 :: u65 :: u66 :: u67 :: u68 :: u69 :: u70 :: u71 :: u72 :: u73 :: u74 :: u75 :: u76 :: u77 :: u78 :: u79 :: u80 :: u81 :: u82 :: u83 :: u84 :: u85 :: u86 :: u87 :: u88 :: u89 :: u90 :: u91 :: u92 :: u93 :: u94 :: u95 :: u96 :: u97 :: u98 :: u99 :: u100 :: u101 :: u102 :: u103 :: u104 :: u105 :: u106 :: u107 :: u108 :: u109 :: u110 :: u111 :: u112 :: u113 :: u114 :: u115 :: u116 :: u117 :: u118 :: u119 :: u120 :: u121 :: u122 :: u123 :: u124 :: u125 :: u126 :: u127 :: u128 :: u129 :: u130 :: u131 :: u132 :: u133 :: u134 :: u135 :: u136 :: u137 :: u138 :: u139 :: u140 :: u141 :: u142 :: u143 :: u144 :: u145 :: u146 :: u147 :: u148 :: u149 :: u150 :: u151 :: u152 :: u153 :: u154 :: u155 :: u156 :: u157 :: u158 :: u159 :: u160 :: u161 :: []).toArray, []⟩ wr := by
  have ST := hide hst
  have HPB := hide hpb
  have h3i : (i : Int) < 3 := by omega
  have h3n : (n : Int) < 3 := by omega
  obtain ⟨E, hE⟩ : ∃ E, es[i]? = some E := ⟨_, List.getElem?_eq_getElem (by omega)⟩
  have OK := hide (hok E (List.mem_of_getElem? hE))
  obtain ⟨g', AN, cN, AM, cM, hA8, hglt, hC, ho1, ho2⟩ := hst.2.1.at_ hE
  injection hA8 with hA8
  injection hA8 with hg
  subst hg
  obtain ⟨cs, hcs, _, _, hp5⟩ := hst.1
  obtain ⟨A0, c0, A1, c1, A2, c2, A3, c3, k0, k1, k2, k3, k4, hpg⟩ := hp5 n hlt2
  obtain ⟨s, hs⟩ : ∃ s, s = runP (n : Int) es i := ⟨_, rfl⟩
  have LEN := hide (show ∀ j, (s.1 j).length ≤ 1000 by rw [hs]; exact runP_len hok i)
  simp only [Nat.lt_irrefl, if_false] at k0 k1 k2 k3 k4 hpg
  rw [← hs] at k0 k1 k2 k3 k4 hpg
  have PG := hide hpg
  have O1 := hide ho1
  have O2 := hide ho2
  have HE := hide hE
  have HSS := hide hs
  have hw1 : IntKind.i64.wrap ((i : Int) + 1) = (i : Int) + 1 := by simp [IntKind.wrap, IntKind.signed, IntKind.bits]; omega
  have HS := hide (show ∀ w' : World, Ext wr w' → (fun w' => w'.cell? ⟨pb, n * 5, none⟩ = some (.slice A0 (s.1 0).length c0) ∧ w'.cell? ⟨pb, n * 5 + 1, none⟩ = some (.slice A1 (s.1 1).length c1) ∧ w'.cell? ⟨pb, n * 5 + 2, none⟩ = some (.slice A2 (s.1 2).length c2) ∧ w'.cell? ⟨pb, n * 5 + 3, none⟩ = some (.slice A3 (s.1 3).length c3) ∧ w'.cell? ⟨pb, n * 5 + 4, none⟩ = some (.int .i64 s.2) ∧ w'.cell? ⟨g, i * 16, none⟩ = some (.int .i64 E.kind) ∧ w'.cell? ⟨g, i * 16 + 1, none⟩ = some (.int .i64 E.t) ∧ w'.cell? ⟨g, i * 16 + 2, none⟩ = some (.int .i64 E.u) ∧ w'.cell? ⟨g, i * 16 + 3, none⟩ = some (.int .i64 E.h) ∧ w'.cell? ⟨g, i * 16 + 4, none⟩ = some (.int .i64 E.p) ∧ w'.cell? ⟨g, i * 16 + 5, none⟩ = some (.int .i64 E.nx) ∧ w'.cell? ⟨g, i * 16 + 6, none⟩ = some (.int .i64 E.a0) ∧ w'.cell? ⟨g, i * 16 + 7, none⟩ = some (.int .i64 E.a1) ∧ w'.cell? ⟨g, i * 16 + 8, none⟩ = some (.int .i64 E.b0) ∧ w'.cell? ⟨g, i * 16 + 9, none⟩ = some (.int .i64 E.b1) ∧ w'.cell? ⟨g, i * 16 + 10, none⟩ = some (.slice none 0 0) ∧ w'.cell? ⟨g, i * 16 + 11, none⟩ = some (.slice AN E.NL.length cN) ∧ w'.cell? ⟨g, i * 16 + 12, none⟩ = some (.slice AM E.mv.length cM) ∧ w'.cell? ⟨g, i * 16 + 13, none⟩ = some (.slice none 0 0) ∧ w'.cell? ⟨g, i * 16 + 14, none⟩ = some (.slice none 0 0) ∧ w'.cell? ⟨g, i * 16 + 15, none⟩ = some (.slice none 0 0)) w' from fun w' hx => ⟨((hx.blk hcs).cell _).trans k0, ((hx.blk hcs).cell _).trans k1, ((hx.blk hcs).cell _).trans k2, ((hx.blk hcs).cell _).trans k3, ((hx.blk hcs).cell _).trans k4, hC w' hx⟩)
  clear hst hpb hok hE hC ho1 ho2 hcs hp5 k0 k1 k2 k3 k4 hpg hs hes
  conv => arg 2; whnf
  go_upto_region 16 with (fail)
  refine wp_region_noPanic ?_
  refine wp_region_F (S := (fun w' => w'.cell? ⟨pb, n * 5, none⟩ = some (.slice A0 (s.1 0).length c0) ∧ w'.cell? ⟨pb, n * 5 + 1, none⟩ = some (.slice A1 (s.1 1).length c1) ∧ w'.cell? ⟨pb, n * 5 + 2, none⟩ = some (.slice A2 (s.1 2).length c2) ∧ w'.cell? ⟨pb, n * 5 + 3, none⟩ = some (.slice A3 (s.1 3).length c3) ∧ w'.cell? ⟨pb, n * 5 + 4, none⟩ = some (.int .i64 s.2) ∧ w'.cell? ⟨g, i * 16, none⟩ = some (.int .i64 E.kind) ∧ w'.cell? ⟨g, i * 16 + 1, none⟩ = some (.int .i64 E.t) ∧ w'.cell? ⟨g, i * 16 + 2, none⟩ = some (.int .i64 E.u) ∧ w'.cell? ⟨g, i * 16 + 3, none⟩ = some (.int .i64 E.h) ∧ w'.cell? ⟨g, i * 16 + 4, none⟩ = some (.int .i64 E.p) ∧ w'.cell? ⟨g, i * 16 + 5, none⟩ = some (.int .i64 E.nx) ∧ w'.cell? ⟨g, i * 16 + 6, none⟩ = some (.int .i64 E.a0) ∧ w'.cell? ⟨g, i * 16 + 7, none⟩ = some (.int .i64 E.a1) ∧ w'.cell? ⟨g, i * 16 + 8, none⟩ = some (.int .i64 E.b0) ∧ w'.cell? ⟨g, i * 16 + 9, none⟩ = some (.int .i64 E.b1) ∧ w'.cell? ⟨g, i * 16 + 10, none⟩ = some (.slice none 0 0) ∧ w'.cell? ⟨g, i * 16 + 11, none⟩ = some (.slice AN E.NL.length cN) ∧ w'.cell? ⟨g, i * 16 + 12, none⟩ = some (.slice AM E.mv.length cM) ∧ w'.cell? ⟨g, i * 16 + 13, none⟩ = some (.slice none 0 0) ∧ w'.cell? ⟨g, i * 16 + 14, none⟩ = some (.slice none 0 0) ∧ w'.cell? ⟨g, i * 16 + 15, none⟩ = some (.slice none 0 0))) 16 (by kernel_rfl) (by kernel_rfl) (HS.out _ (Ext.drew (Ext.refl wr))) (fun hHeld => ?_)
  obtain ⟨wd, hwd⟩ : ∃ wd, wd = wr.drew := ⟨_, rfl⟩
  have Xd := hide (show Ext wr wd by rw [hwd]; exact Ext.drew (Ext.refl wr))
  rw [← hwd] at hHeld ⊢
  clear hwd
  refine GoF.take 0 (some 80) (v := ?_) rfl rfl (by kernel_rfl) (by kernel_rfl) (by kernel_rfl) (fun _ _ _ h => h) (Or.inl ⟨by rfl, ?_⟩) (by assumption) ?_
  rotate_left
  · intro w' hSw
    try dsimp only at hSw
    go_simp
    try with_reducible rfl
  try simp only [Act.put, List.setIfInBounds_toArray, List.set_cons_zero, List.set_cons_succ]
  refine GoF.take 1 (some 81) (v := ?_) rfl rfl (by kernel_rfl) (by kernel_rfl) (by kernel_rfl) (fun _ _ _ h => h) (Or.inl ⟨by rfl, ?_⟩) (by assumption) ?_
  rotate_left
  · intro w' hSw
    try dsimp only at hSw
    go_simp
    try with_reducible rfl
  try simp only [Act.put, List.setIfInBounds_toArray, List.set_cons_zero, List.set_cons_succ]
  refine GoF.take 2 (some 82) (v := ?_) rfl rfl (by kernel_rfl) (by kernel_rfl) (by kernel_rfl) (fun _ _ _ h => h) (Or.inl ⟨by rfl, ?_⟩) (by assumption) ?_
  rotate_left
  · intro w' hSw
    try dsimp only at hSw
    go_simp
    try with_reducible rfl
  try simp only [Act.put, List.setIfInBounds_toArray, List.set_cons_zero, List.set_cons_succ]
  refine GoF.take 3 (some 83) (v := ?_) rfl rfl (by kernel_rfl) (by kernel_rfl) (by kernel_rfl) (fun _ _ _ h => h) (Or.inl ⟨by rfl, ?_⟩) (by assumption) ?_
  rotate_left
  · intro w' hSw
    try dsimp only at hSw
    go_simp
    try with_reducible rfl
  try simp only [Act.put, List.setIfInBounds_toArray, List.set_cons_zero, List.set_cons_succ]
  refine GoF.take 4 (some 84) (v := ?_) rfl rfl (by kernel_rfl) (by kernel_rfl) (by kernel_rfl) (fun _ _ _ h => h) (Or.inl ⟨by rfl, ?_⟩) (by assumption) ?_
  rotate_left
  · intro w' hSw
    try dsimp only at hSw
    go_simp
    try with_reducible rfl
  try simp only [Act.put, List.setIfInBounds_toArray, List.set_cons_zero, List.set_cons_succ]
  refine GoF.take 5 (some 85) (v := ?_) rfl rfl (by kernel_rfl) (by kernel_rfl) (by kernel_rfl) (fun _ _ _ h => h) (Or.inl ⟨by rfl, ?_⟩) (by assumption) ?_
  rotate_left
  · intro w' hSw
    try dsimp only at hSw
    go_simp
    try with_reducible rfl
  try simp only [Act.put, List.setIfInBounds_toArray, List.set_cons_zero, List.set_cons_succ]
  refine GoF.take 6 (some 86) (v := ?_) rfl rfl (by kernel_rfl) (by kernel_rfl) (by kernel_rfl) (fun _ _ _ h => h) (Or.inl ⟨by rfl, ?_⟩) (by assumption) ?_
  rotate_left
  · intro w' hSw
    try dsimp only at hSw
    go_simp
    try with_reducible rfl
  try simp only [Act.put, List.setIfInBounds_toArray, List.set_cons_zero, List.set_cons_succ]
  refine GoF.take 7 (some 87) (v := ?_) rfl rfl (by kernel_rfl) (by kernel_rfl) (by kernel_rfl) (fun _ _ _ h => h) (Or.inl ⟨by rfl, ?_⟩) (by assumption) ?_
  rotate_left
  · intro w' hSw
    try dsimp only at hSw
    go_simp
    try with_reducible rfl
  try simp only [Act.put, List.setIfInBounds_toArray, List.set_cons_zero, List.set_cons_succ]
  refine GoF.take 8 (some 88) (v := ?_) rfl rfl (by kernel_rfl) (by kernel_rfl) (by kernel_rfl) (fun _ _ _ h => h) (Or.inl ⟨by rfl, ?_⟩) (by assumption) ?_
  rotate_left
  · intro w' hSw
    try dsimp only at hSw
    go_simp
    try with_reducible rfl
  try simp only [Act.put, List.setIfInBounds_toArray, List.set_cons_zero, List.set_cons_succ]
  refine GoF.take 9 (some 89) (v := ?_) rfl rfl (by kernel_rfl) (by kernel_rfl) (by kernel_rfl) (fun _ _ _ h => h) (Or.inl ⟨by rfl, ?_⟩) (by assumption) ?_
  rotate_left
  · intro w' hSw
    try dsimp only at hSw
    go_simp
    try with_reducible rfl
  try simp only [Act.put, List.setIfInBounds_toArray, List.set_cons_zero, List.set_cons_succ]
  refine GoF.each (rs := [10, 14]) (by kernel_rfl) (by kernel_rfl) (by kernel_rfl) ?_
  refine EachF.cons (i := 10) rfl (fun K hK => ?_) ?_
  · go_simp
    refine (apply_ent wd _ s n ((i : Int) + 1) (PG.out.ext (Xd.out)) LEN.out E AN cN AM cM ((Xd.out).own O1.out) ((Xd.out).own O2.out) OK.out).mono ?_
    rintro e w3 ⟨v3, rfl, hp3, hx3⟩
    obtain ⟨B0, d0, B1, d1, B2, d2, B3, d3, rfl⟩ := hp3.form
    have X3 := hide (Ext.trans (Xd.out) hx3)
    obtain ⟨s', hs'⟩ : ∃ s', s' = stepP n s E ((i : Int) + 1) := ⟨_, rfl⟩
    rw [← hs'] at hp3
    simp only [← hs']
    have P3 := hide hp3
    have HS' := hide hs'

    clear hp3 hx3 hs'
    try go_simp
    refine hK.out _ _ (HS.out _ X3.out) (fun hHeld => ?_)
    clear hK K
    try simp only [Act.put, List.setIfInBounds_toArray, List.set_cons_zero, List.set_cons_succ]
    refine GoF.take 11 (some 79) (v := ?_) rfl rfl (by kernel_rfl) (by kernel_rfl) (by kernel_rfl) (fun _ _ _ h => h) (Or.inl ⟨by rfl, ?_⟩) (by assumption) ?_
    rotate_left
    · intro w' hSw
      try dsimp only at hSw
      go_simp
      try with_reducible rfl
    try simp only [Act.put, List.setIfInBounds_toArray, List.set_cons_zero, List.set_cons_succ]
    refine GoF.take 12 (some 91) (v := ?_) rfl rfl (by kernel_rfl) (by kernel_rfl) (by kernel_rfl) (fun _ _ _ h => h) (Or.inl ⟨by rfl, ?_⟩) (by assumption) ?_
    rotate_left
    · intro w' hSw
      try dsimp only at hSw
      go_simp
      try with_reducible rfl
    try simp only [Act.put, List.setIfInBounds_toArray, List.set_cons_zero, List.set_cons_succ]
    refine GoF.take 13 (some 92) (v := ?_) rfl rfl (by kernel_rfl) (by kernel_rfl) (by kernel_rfl) (fun _ _ _ h => h) (Or.inl ⟨by rfl, ?_⟩) (by assumption) ?_
    rotate_left
    · intro w' hSw
      try dsimp only at hSw
      go_simp
      try with_reducible rfl
    try simp only [Act.put, List.setIfInBounds_toArray, List.set_cons_zero, List.set_cons_succ]
    refine GoF.each (rs := [14]) (by kernel_rfl) (by kernel_rfl) (by kernel_rfl) ?_
    refine EachF.cons (i := 14) rfl (fun K hK => ?_) EachF.nil
    go_simp
    refine hK.out _ _ (HS.out _ (X3.out.alloc _)) (fun hHeld => ?_)
    clear hK K
    try simp only [Act.put, List.setIfInBounds_toArray, List.set_cons_zero, List.set_cons_succ]
    obtain ⟨wa, hwa⟩ : ∃ wa, wa = w3.alloc (.cells #[.slice none 0 0, .slice none 0 0, .slice none 0 0, .slice none 0 0, .int .i64 0] 35) := ⟨_, rfl⟩
    have Xa := hide (show Ext w3 wa by rw [hwa]; exact Ext.new w3 _)
    have BA := hide (show Blk wa w3.heap.size 35 #[.slice none 0 0, .slice none 0 0, .slice none 0 0, .slice none 0 0, .int .i64 0] by rw [hwa]; exact Blk.new w3 35 _)
    obtain ⟨qb, hqb⟩ : ∃ qb, qb = w3.heap.size := ⟨_, rfl⟩
    have HQ := hide (show wr.heap.size ≤ qb by rw [hqb]; exact X3.out.size)
    rw [← hwa] at hHeld ⊢
    rw [← hqb]
    rw [← hqb] at BA
    clear hwa hqb
    refine GoF.each (rs := [15]) (by kernel_rfl) (by kernel_rfl) (by kernel_rfl) ?_
    refine EachF.cons (i := 15) rfl (fun K hK => ?_) EachF.nil
    obtain ⟨y0, y1, y2, y3, y4⟩ := BA.out.cells5
    have f0 := BA.out.frozen 0
    have f1 := BA.out.frozen 1
    have f2 := BA.out.frozen 2
    have f3 := BA.out.frozen 3
    have f4 := BA.out.frozen 4
    have HX6 := hide (show Ext wr (((((wa.setCell ⟨qb, 0, none⟩ (.slice B0 (s'.1 0).length d0)).setCell ⟨qb, 1, none⟩ (.slice B1 (s'.1 1).length d1)).setCell ⟨qb, 2, none⟩ (.slice B2 (s'.1 2).length d2)).setCell ⟨qb, 3, none⟩ (.slice B3 (s'.1 3).length d3)).setCell ⟨qb, 4, none⟩ (.int .i64 s'.2)) from Touch.ext (X3.out.trans Xa.out) (touch_set5 _ _ _ _ _ _ _) HQ.out)
    have HB6 := hide (BA.out.set5 (.slice B0 (s'.1 0).length d0) (.slice B1 (s'.1 1).length d1) (.slice B2 (s'.1 2).length d2) (.slice B3 (s'.1 3).length d3) (.int .i64 s'.2))
    have HP6 := hide (Pg.far (P3.out.ext Xa.out) BA.out PgAt.no8 (touch_set5 wa qb (.slice B0 (s'.1 0).length d0) (.slice B1 (s'.1 1).length d1) (.slice B2 (s'.1 2).length d2) (.slice B3 (s'.1 3).length d3) (.int .i64 s'.2)))
    go_simp
    refine hK.out _ _ (HS.out _ HX6.out) (fun hHeld => ?_)
    clear hK K y0 y1 y2 y3 y4 f0 f1 f2 f3 f4
    try simp only [Act.put, List.setIfInBounds_toArray, List.set_cons_zero, List.set_cons_succ]
    obtain ⟨w6, hw6⟩ : ∃ w6, w6 = (((((wa.setCell ⟨qb, 0, none⟩ (.slice B0 (s'.1 0).length d0)).setCell ⟨qb, 1, none⟩ (.slice B1 (s'.1 1).length d1)).setCell ⟨qb, 2, none⟩ (.slice B2 (s'.1 2).length d2)).setCell ⟨qb, 3, none⟩ (.slice B3 (s'.1 3).length d3)).setCell ⟨qb, 4, none⟩ (.int .i64 s'.2)) := ⟨_, rfl⟩
    rw [← hw6] at HX6 HB6 HP6 hHeld ⊢
    clear hw6
    refine GoF.last (by kernel_rfl) (by kernel_rfl) rfl (fun K hK => ?_)
    go_simp
    refine hK.out _ _ (NoPanic.normal ?_)
    clear hK K hHeld
    have hrun : s' = runP (n : Int) es (i + 1) := by rw [HS'.out, HSS.out, runP_succ HE.out]
    obtain ⟨cs6, hcs6, _, _, hp56⟩ := (ST.out.ext HX6.out).1
    obtain ⟨_, _, _, _, _, _, _, _, k0, k1, k2, k3, k4, _⟩ := hp56 n hlt2
    have z0 := (hcs6.cell (n * 5)).trans k0
    have z1 := (hcs6.cell (n * 5 + 1)).trans k1
    have z2 := (hcs6.cell (n * 5 + 2)).trans k2
    have z3 := (hcs6.cell (n * 5 + 3)).trans k3
    have z4 := (hcs6.cell (n * 5 + 4)).trans k4
    have f0 := hcs6.frozen (n * 5)
    have f1 := hcs6.frozen (n * 5 + 1)
    have f2 := hcs6.frozen (n * 5 + 2)
    have f3 := hcs6.frozen (n * 5 + 3)
    have f4 := hcs6.frozen (n * 5 + 4)
    obtain ⟨y0, y1, y2, y3, y4⟩ := HB6.out.cells5
    obtain ⟨w7, hw7, hst7⟩ : ∃ w7, w7 = (((((w6.setCell ⟨pb, n * 5, none⟩ (.slice B0 (s'.1 0).length d0)).setCell ⟨pb, n * 5 + 1, none⟩ (.slice B1 (s'.1 1).length d1)).setCell ⟨pb, n * 5 + 2, none⟩ (.slice B2 (s'.1 2).length d2)).setCell ⟨pb, n * 5 + 3, none⟩ (.slice B3 (s'.1 3).length d3)).setCell ⟨pb, n * 5 + 4, none⟩ (.int .i64 s'.2)) ∧ St wq pb ka kb (.slice (some ⟨g, 0, none⟩) 3 c11) es a0 a1 b0 b1 (updS (fun j => if j < n then runP (j : Int) es (i + 1) else runP (j : Int) es i) n s') w7 := ⟨_, rfl, (ST.out.ext HX6.out).lay hlt2 HPB.out HP6.out⟩
    have hst : St wq pb ka kb (.slice (some ⟨g, 0, none⟩) 3 c11) es a0 a1 b0 b1 (fun j => if j < n + 1 then runP (j : Int) es (i + 1) else runP (j : Int) es i) w7 := by
      have e : updS (fun j => if j < n then runP (j : Int) es (i + 1) else runP (j : Int) es i) n s' = fun j => if j < n + 1 then runP (j : Int) es (i + 1) else runP (j : Int) es i := by
        funext j
        unfold updS
        by_cases e1 : j = n
        · subst e1
          rw [if_pos rfl, if_pos (by omega), hrun]
        · rw [if_neg e1]
          show (if j < n then runP (j : Int) es (i + 1) else runP (j : Int) es i) = _
          by_cases e2 : j < n
          · rw [if_pos e2, if_pos (by omega)]
          · rw [if_neg e2, if_neg (by omega)]
      rw [← e]
      exact hst7
    have ST7 := hide hst
    have HW7 := hide hw7
    clear hst hst7 hrun k0 k1 k2 k3 k4 hp56 hcs6 hw7
    go_wp2_with (fail)
    rw [← HW7.out]
    exact ST7.out
  refine EachF.cons (i := 14) rfl (fun K hK => ?_) ?_
  · go_simp
    refine hK.out _ _ (HS.out _ (Xd.out.alloc _)) (fun hHeld => ?_)
    clear hK K
    try simp only [Act.put, List.setIfInBounds_toArray, List.set_cons_zero, List.set_cons_succ]
    obtain ⟨wa, hwa⟩ : ∃ wa, wa = wd.alloc (.cells #[.slice none 0 0, .slice none 0 0, .slice none 0 0, .slice none 0 0, .int .i64 0] 35) := ⟨_, rfl⟩
    have Xa := hide (show Ext wd wa by rw [hwa]; exact Ext.new wd _)
    have BA := hide (show Blk wa wd.heap.size 35 #[.slice none 0 0, .slice none 0 0, .slice none 0 0, .slice none 0 0, .int .i64 0] by rw [hwa]; exact Blk.new wd 35 _)
    obtain ⟨qb, hqb⟩ : ∃ qb, qb = wd.heap.size := ⟨_, rfl⟩
    have HQ := hide (show wr.heap.size ≤ qb by rw [hqb]; exact Xd.out.size)
    rw [← hwa] at hHeld ⊢
    rw [← hqb]
    rw [← hqb] at BA
    clear hwa hqb
    refine GoF.each (rs := [10]) (by kernel_rfl) (by kernel_rfl) (by kernel_rfl) ?_
    refine EachF.cons (i := 10) rfl (fun K hK => ?_) EachF.nil
    go_simp
    refine (apply_ent wa _ s n ((i : Int) + 1) (PG.out.ext (Xd.out.trans Xa.out)) LEN.out E AN cN AM cM ((Xd.out.trans Xa.out).own O1.out) ((Xd.out.trans Xa.out).own O2.out) OK.out).mono ?_
    rintro e w3 ⟨v3, rfl, hp3, hx3⟩
    obtain ⟨B0, d0, B1, d1, B2, d2, B3, d3, rfl⟩ := hp3.form
    have X3 := hide (Ext.trans (Xd.out.trans Xa.out) hx3)
    obtain ⟨s', hs'⟩ : ∃ s', s' = stepP n s E ((i : Int) + 1) := ⟨_, rfl⟩
    rw [← hs'] at hp3
    simp only [← hs']
    have P3 := hide hp3
    have HS' := hide hs'
    have BA3 := hide (hx3.blk BA.out)
    clear hp3 hx3 hs'
    try go_simp
    refine hK.out _ _ (HS.out _ X3.out) (fun hHeld => ?_)
    clear hK K
    try simp only [Act.put, List.setIfInBounds_toArray, List.set_cons_zero, List.set_cons_succ]
    refine GoF.take 11 (some 79) (v := ?_) rfl rfl (by kernel_rfl) (by kernel_rfl) (by kernel_rfl) (fun _ _ _ h => h) (Or.inl ⟨by rfl, ?_⟩) (by assumption) ?_
    rotate_left
    · intro w' hSw
      try dsimp only at hSw
      go_simp
      try with_reducible rfl
    try simp only [Act.put, List.setIfInBounds_toArray, List.set_cons_zero, List.set_cons_succ]
    refine GoF.take 12 (some 91) (v := ?_) rfl rfl (by kernel_rfl) (by kernel_rfl) (by kernel_rfl) (fun _ _ _ h => h) (Or.inl ⟨by rfl, ?_⟩) (by assumption) ?_
    rotate_left
    · intro w' hSw
      try dsimp only at hSw
      go_simp
      try with_reducible rfl
    try simp only [Act.put, List.setIfInBounds_toArray, List.set_cons_zero, List.set_cons_succ]
    refine GoF.take 13 (some 92) (v := ?_) rfl rfl (by kernel_rfl) (by kernel_rfl) (by kernel_rfl) (fun _ _ _ h => h) (Or.inl ⟨by rfl, ?_⟩) (by assumption) ?_
    rotate_left
    · intro w' hSw
      try dsimp only at hSw
      go_simp
      try with_reducible rfl
    try simp only [Act.put, List.setIfInBounds_toArray, List.set_cons_zero, List.set_cons_succ]
    refine GoF.each (rs := [15]) (by kernel_rfl) (by kernel_rfl) (by kernel_rfl) ?_
    refine EachF.cons (i := 15) rfl (fun K hK => ?_) EachF.nil
    obtain ⟨y0, y1, y2, y3, y4⟩ := BA3.out.cells5
    have f0 := BA3.out.frozen 0
    have f1 := BA3.out.frozen 1
    have f2 := BA3.out.frozen 2
    have f3 := BA3.out.frozen 3
    have f4 := BA3.out.frozen 4
    have HX6 := hide (show Ext wr (((((w3.setCell ⟨qb, 0, none⟩ (.slice B0 (s'.1 0).length d0)).setCell ⟨qb, 1, none⟩ (.slice B1 (s'.1 1).length d1)).setCell ⟨qb, 2, none⟩ (.slice B2 (s'.1 2).length d2)).setCell ⟨qb, 3, none⟩ (.slice B3 (s'.1 3).length d3)).setCell ⟨qb, 4, none⟩ (.int .i64 s'.2)) from Touch.ext X3.out (touch_set5 _ _ _ _ _ _ _) HQ.out)
    have HB6 := hide (BA3.out.set5 (.slice B0 (s'.1 0).length d0) (.slice B1 (s'.1 1).length d1) (.slice B2 (s'.1 2).length d2) (.slice B3 (s'.1 3).length d3) (.int .i64 s'.2))
    have HP6 := hide (Pg.far P3.out BA3.out PgAt.no8 (touch_set5 w3 qb (.slice B0 (s'.1 0).length d0) (.slice B1 (s'.1 1).length d1) (.slice B2 (s'.1 2).length d2) (.slice B3 (s'.1 3).length d3) (.int .i64 s'.2)))
    go_simp
    refine hK.out _ _ (HS.out _ HX6.out) (fun hHeld => ?_)
    clear hK K y0 y1 y2 y3 y4 f0 f1 f2 f3 f4
    try simp only [Act.put, List.setIfInBounds_toArray, List.set_cons_zero, List.set_cons_succ]
    obtain ⟨w6, hw6⟩ : ∃ w6, w6 = (((((w3.setCell ⟨qb, 0, none⟩ (.slice B0 (s'.1 0).length d0)).setCell ⟨qb, 1, none⟩ (.slice B1 (s'.1 1).length d1)).setCell ⟨qb, 2, none⟩ (.slice B2 (s'.1 2).length d2)).setCell ⟨qb, 3, none⟩ (.slice B3 (s'.1 3).length d3)).setCell ⟨qb, 4, none⟩ (.int .i64 s'.2)) := ⟨_, rfl⟩
    rw [← hw6] at HX6 HB6 HP6 hHeld ⊢
    clear hw6
    refine GoF.last (by kernel_rfl) (by kernel_rfl) rfl (fun K hK => ?_)
    go_simp
    refine hK.out _ _ (NoPanic.normal ?_)
    clear hK K hHeld
    have hrun : s' = runP (n : Int) es (i + 1) := by rw [HS'.out, HSS.out, runP_succ HE.out]
    obtain ⟨cs6, hcs6, _, _, hp56⟩ := (ST.out.ext HX6.out).1
    obtain ⟨_, _, _, _, _, _, _, _, k0, k1, k2, k3, k4, _⟩ := hp56 n hlt2
    have z0 := (hcs6.cell (n * 5)).trans k0
    have z1 := (hcs6.cell (n * 5 + 1)).trans k1
    have z2 := (hcs6.cell (n * 5 + 2)).trans k2
    have z3 := (hcs6.cell (n * 5 + 3)).trans k3
    have z4 := (hcs6.cell (n * 5 + 4)).trans k4
    have f0 := hcs6.frozen (n * 5)
    have f1 := hcs6.frozen (n * 5 + 1)
    have f2 := hcs6.frozen (n * 5 + 2)
    have f3 := hcs6.frozen (n * 5 + 3)
    have f4 := hcs6.frozen (n * 5 + 4)
    obtain ⟨y0, y1, y2, y3, y4⟩ := HB6.out.cells5
    obtain ⟨w7, hw7, hst7⟩ : ∃ w7, w7 = (((((w6.setCell ⟨pb, n * 5, none⟩ (.slice B0 (s'.1 0).length d0)).setCell ⟨pb, n * 5 + 1, none⟩ (.slice B1 (s'.1 1).length d1)).setCell ⟨pb, n * 5 + 2, none⟩ (.slice B2 (s'.1 2).length d2)).setCell ⟨pb, n * 5 + 3, none⟩ (.slice B3 (s'.1 3).length d3)).setCell ⟨pb, n * 5 + 4, none⟩ (.int .i64 s'.2)) ∧ St wq pb ka kb (.slice (some ⟨g, 0, none⟩) 3 c11) es a0 a1 b0 b1 (updS (fun j => if j < n then runP (j : Int) es (i + 1) else runP (j : Int) es i) n s') w7 := ⟨_, rfl, (ST.out.ext HX6.out).lay hlt2 HPB.out HP6.out⟩
    have hst : St wq pb ka kb (.slice (some ⟨g, 0, none⟩) 3 c11) es a0 a1 b0 b1 (fun j => if j < n + 1 then runP (j : Int) es (i + 1) else runP (j : Int) es i) w7 := by
      have e : updS (fun j => if j < n then runP (j : Int) es (i + 1) else runP (j : Int) es i) n s' = fun j => if j < n + 1 then runP (j : Int) es (i + 1) else runP (j : Int) es i := by
        funext j
        unfold updS
        by_cases e1 : j = n
        · subst e1
          rw [if_pos rfl, if_pos (by omega), hrun]
        · rw [if_neg e1]
          show (if j < n then runP (j : Int) es (i + 1) else runP (j : Int) es i) = _
          by_cases e2 : j < n
          · rw [if_pos e2, if_pos (by omega)]
          · rw [if_neg e2, if_neg (by omega)]
      rw [← e]
      exact hst7
    have ST7 := hide hst
    have HW7 := hide hw7
    clear hst hst7 hrun k0 k1 k2 k3 k4 hp56 hcs6 hw7
    go_wp2_with (fail)
    rw [← HW7.out]
    exact ST7.out
  exact EachF.nil
end Go.Proofs.Ytaagdjipjeindaa.redoMoves
