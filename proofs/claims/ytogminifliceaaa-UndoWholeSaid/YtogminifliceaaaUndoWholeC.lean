/- UndoWhole: a set is taken back. -/
import Derived.Test.YtogminifliceaaaUndoWholeX
import Derived.Test.YtogminifliceaaaLast
import Derived.Deep.Cut
import Derived.Deep.DeepCutAuto
import Derived.Deep.CutBlock
import Derived.BigQuiet
namespace Go.Proofs.Ytogminifliceaaa.undoWhole
open Go.ChangeShapes Go.WideShapes Go.ChangeAt Go.RowKit
set_option linter.unusedVariables false

set_option maxRecDepth 1000000 in
set_option maxHeartbeats 40000000 in
theorem set_back (W wr : World) (L : List UInt8) (cb g3 N' cg3 m' : Nat) (zs : List Value) (hmem : Mem W wr L cb N' (.slice (some ⟨g3, 0, none⟩) N' cg3) m' zs) (hN' : N' + m' = L.length + L.length) (hm' : m' ≤ L.length) (hm0 : 0 < m') (hL : (L.length : Int) ≤ 10)
    (u0 u1 u2 u3 u4 u8 u9 u10 u11 u13 u14 u15 u16 u17 u18 u19 u20 u21 u22 u23 u24 u25 u26 u27 u28 u29 u30 u31 u32 u33 u34 u35 u36 u37 u38 u39 u40 u41 u42 u43 u44 u45 u46 u47 u48 u49 u50 u51 u52 u53 u54 u55 u56 u57 u58 u59 u60 u61 u62 u63 u64 u65 u66 u67 u68 u69 u70 u71 u72 u73 u74 u75 u76 u77 u78 u79 u80 u81 u82 u83 u84 u85 u86 u87 u88 u89 u90 u91 u92 u93 u94 u95 u96 u97 u98 u99 u100 u101 u102 u103 u104 u105 u106 u107 u108 u109 u110 u111 u112 u113 u114 u115 u116 u117 u118 u119 u120 u121 u122 u123 u124 u125 u126 u127 u128 u129 u130 u131 u132 u133 u134 u135 u136 u137 u138 u139 u140 u141 u142 u143 u144 u145 u146 u147 u148 u149 u150 u151 u152 u153 u154 u155 u156 u157 u158 u159 u160 u161 u162 u163 u164 u165 u166 u167 u168 u169 u170 u171 u172 u173 u174 : Value) (KK : Act → World → Prop) (Q : Exit → Act → World → Prop)
    (hKK : ∀ (p2 : Nat) (v6 v14 v15 v16 v104 v105 v106 v107 v108 v109 v110 v111 v112 v113 v114 v115 v116 v117 v118 v119 v120 v121 v122 v123 v124 v125 v126 v127 v128 v129 v130 v131 v132 v133 v134 v135 v136 v137 v138 v139 v140 v141 v142 v143 v144 v145 v146 v147 v148 v149 : Value) (wx : World), (m' = p2 + 1 ∧ ∃ xs, Mem W wx L cb (N' + 1) v6 p2 xs) → KK ⟨(u0 :: u1 :: u2 :: u3 :: u4 :: Value.pointer (some ⟨cb, 0, none⟩) :: v6 :: Value.int .i64 (N' + 1) :: u8 :: u9 :: u10 :: u11 :: Value.int .i64 (p2 : Nat) :: u13 :: v14 :: v15 :: v16 :: u17 :: u18 :: u19 :: u20 :: u21 :: u22 :: u23 :: u24 :: u25 :: u26 :: u27 :: u28 :: u29 :: u30 :: u31 :: u32 :: u33 :: u34 :: u35 :: u36 :: u37 :: u38 :: u39 :: u40 :: u41 :: u42 :: u43 :: u44 :: u45 :: u46 :: u47 :: u48 :: u49 :: u50 :: u51 :: u52 :: u53 :: u54 :: u55 :: u56 :: u57 :: u58 :: u59 :: u60 :: u61 :: u62 :: u63 :: u64 :: u65 :: u66 :: u67 :: u68 :: u69 :: u70 :: u71 :: u72 :: u73 :: u74 :: u75 :: u76 :: u77 :: u78 :: u79 :: u80 :: u81 :: u82 :: u83 :: u84 :: u85 :: u86 :: u87 :: u88 :: u89 :: u90 :: u91 :: u92 :: u93 :: u94 :: u95 :: u96 :: u97 :: u98 :: u99 :: u100 :: u101 :: u102 :: u103 :: v104 :: v105 :: v106 :: v107 :: v108 :: v109 :: v110 :: v111 :: v112 :: v113 :: v114 :: v115 :: v116 :: v117 :: v118 :: v119 :: v120 :: v121 :: v122 :: v123 :: v124 :: v125 :: v126 :: v127 :: v128 :: v129 :: v130 :: v131 :: v132 :: v133 :: v134 :: v135 :: v136 :: v137 :: v138 :: v139 :: v140 :: v141 :: v142 :: v143 :: v144 :: v145 :: v146 :: v147 :: v148 :: v149 :: u150 :: u151 :: u152 :: u153 :: u154 :: u155 :: u156 :: u157 :: u158 :: u159 :: u160 :: u161 :: u162 :: u163 :: u164 :: u165 :: u166 :: u167 :: u168 :: u169 :: u170 :: u171 :: u172 :: u173 :: u174 :: []).toArray, []⟩ wx) :
    Code.wp Try.prog (blockAt Try.f4 5) (Exit.then KK Q) ⟨(u0 :: u1 :: u2 :: u3 :: u4 :: Value.pointer (some ⟨cb, 0, none⟩) :: Value.slice (some ⟨g3, 0, none⟩) N' cg3 :: Value.int .i64 (N' : Nat) :: u8 :: u9 :: u10 :: u11 :: Value.int .i64 (m' : Nat) :: u13 :: u14 :: u15 :: u16 :: u17 :: u18 :: u19 :: u20 :: u21 :: u22 :: u23 :: u24 :: u25 :: u26 :: u27 :: u28 :: u29 :: u30 :: u31 :: u32 :: u33 :: u34 :: u35 :: u36 :: u37 :: u38 :: u39 :: u40 :: u41 :: u42 :: u43 :: u44 :: u45 :: u46 :: u47 :: u48 :: u49 :: u50 :: u51 :: u52 :: u53 :: u54 :: u55 :: u56 :: u57 :: u58 :: u59 :: u60 :: u61 :: u62 :: u63 :: u64 :: u65 :: u66 :: u67 :: u68 :: u69 :: u70 :: u71 :: u72 :: u73 :: u74 :: u75 :: u76 :: u77 :: u78 :: u79 :: u80 :: u81 :: u82 :: u83 :: u84 :: u85 :: u86 :: u87 :: u88 :: u89 :: u90 :: u91 :: u92 :: u93 :: u94 :: u95 :: u96 :: u97 :: u98 :: u99 :: u100 :: u101 :: u102 :: u103 :: u104 :: u105 :: u106 :: u107 :: u108 :: u109 :: u110 :: u111 :: u112 :: u113 :: u114 :: u115 :: u116 :: u117 :: u118 :: u119 :: u120 :: u121 :: u122 :: u123 :: u124 :: u125 :: u126 :: u127 :: u128 :: u129 :: u130 :: u131 :: u132 :: u133 :: u134 :: u135 :: u136 :: u137 :: u138 :: u139 :: u140 :: u141 :: u142 :: u143 :: u144 :: u145 :: u146 :: u147 :: u148 :: u149 :: u150 :: u151 :: u152 :: u153 :: u154 :: u155 :: u156 :: u157 :: u158 :: u159 :: u160 :: u161 :: u162 :: u163 :: u164 :: u165 :: u166 :: u167 :: u168 :: u169 :: u170 :: u171 :: u172 :: u173 :: u174 :: []).toArray, []⟩ wr := by
  have HM3 := hide hmem
  have HN' := hide hN'
  have Hm' := hide hm'
  have HC3 := hide (show ∀ j u, zs[j]? = some u → wr.cell? ((⟨g3, 0, none⟩ : Addr).add j) = some u from hmem.own.cells (g := g3) rfl)
  have hN20 : (N' : Int) ≤ 20 := by omega
  have e1n : 0 < m' := hm0
  have e2n : m' ≤ N' := by omega
  have hmN : (m' : Int) ≤ (N' : Int) := by omega
  clear hmem hN' hm'
  conv => arg 2; whnf
  obtain ⟨p2, hp2⟩ : ∃ p2, m' = p2 + 1 := ⟨m' - 1, by omega⟩
  have HP2 := hide hp2
  have hw2 : IntKind.i64.wrap ((m' : Int) - 1) = (p2 : Int) := by simp [IntKind.wrap, IntKind.signed, IntKind.bits]; have := HN'.out; omega
  have hp2N : (p2 : Int) < (N' : Int) := by have := HN'.out; have := Hm'.out; omega
  obtain ⟨so, sn, his2, hold2⟩ := HM3.out.sets p2 (by have := HN'.out; have := Hm'.out; omega) (by have := Hm'.out; omega)
  obtain ⟨a, co, rfl, halt, hra, hna, hac⟩ := hold2
  obtain ⟨k2, hk2⟩ : ∃ k2, k2 = kAt L p2 := ⟨_, rfl⟩
  rw [← hk2] at his2 hra
  obtain ⟨old2, hold2⟩ : ∃ old2, old2 = cellsAt L p2 k2 := ⟨_, rfl⟩
  rw [← hold2] at his2 hra
  have HK2 := hide hk2
  have HO2 := hide hold2
  have HRA := hide hra
  have hk24 : k2 < 4 := by rw [hk2]; exact kAt_lt L p2
  have HOL := hide (show old2.length ≤ 1 by rw [hold2]; exact cellsAt_len L p2 k2)
  obtain ⟨x0, x1, x2, x3, x4, x5, x6, x7, x8, x9, x10, x11, x12, x13, x14, x15⟩ := cells_of_is his2 HC3.out
  have hgl : g3 < wr.heap.size := World.block_lt_of_cell? wr _ x0
  clear hra hold2 hk2 his2 hp2
  go_upto_region 25 with (fail)
  obtain ⟨w4, hw4⟩ : ∃ w4, w4 = wr.alloc (.cells #[.int .i64 1, .int .i64 1, .int .i64 0, .int .i64 0, .int .i64 p2, .int .i64 0, .int .i64 0, .int .i64 k2, .int .i64 0, .int .i64 0, .slice (some ⟨a, 0, none⟩) old2.length co, .slice sn.1 sn.2.1 sn.2.2, .slice none 0 0, .slice none 0 0, .slice none 0 0, .slice none 0 0] 30) := ⟨_, rfl⟩
  have X4 := hide (show Ext wr w4 by rw [hw4]; exact Ext.new wr _)
  have B4 := hide (show Blk w4 wr.heap.size 30 #[.int .i64 1, .int .i64 1, .int .i64 0, .int .i64 0, .int .i64 p2, .int .i64 0, .int .i64 0, .int .i64 k2, .int .i64 0, .int .i64 0, .slice (some ⟨a, 0, none⟩) old2.length co, .slice sn.1 sn.2.1 sn.2.2, .slice none 0 0, .slice none 0 0, .slice none 0 0, .slice none 0 0] by rw [hw4]; exact Blk.new wr 30 _)
  have R4 := hide (show Reads w4 w4.heap.size 1 (some ⟨a, 0, none⟩) old2.length (bv old2) from X4.out.read HRA.out)
  have hl4 : wr.heap.size < w4.heap.size := B4.out.lt
  obtain ⟨eb4, heb4⟩ : ∃ eb4, eb4 = wr.heap.size := ⟨_, rfl⟩
  rw [← hw4, ← heb4]
  rw [← heb4] at B4
  obtain ⟨z0, z1, z2, z3, z4, z5, z6, z7, z8, z9, z10, z11, z12, z13, z14, z15⟩ := B4.out.cells16
  clear x0 x1 x2 x3 x4 x5 x6 x7 x8 x9 x10 x11 x12 x13 x14 x15 hw4 heb4
  go_upto_region 28 with (go_at_call 8; refine (back_yes 1 0 0 p2 0 0 k2 0 0 N' _ _ _ _ _ (some ⟨a, 0, none⟩) co old2 w4 (fun h => by cases h) R4.out (by have := HOL.out; omega)).mono ?_; rintro e w5 ⟨A5, c5, rfl, hA5, hA5b, hr5, hb5⟩; have X5 := hide (show Ext w4 w5 from hb5); have R5 := hide hr5; have HA5 := hide hA5b; clear hA5 hA5b hr5 hb5)
  obtain ⟨w6, hw6⟩ : ∃ w6, w6 = w5.alloc (.cells #[.int .i64 2, .int .i64 1, .int .i64 0, .int .i64 0, .int .i64 N', .int .i64 p2, .int .i64 0, .int .i64 k2, .int .i64 0, .int .i64 0, .slice none 0 0, .slice A5 old2.length c5, .slice none 0 0, .slice none 0 0, .slice none 0 0, .slice none 0 0] 30) := ⟨_, rfl⟩
  have X6 := hide (show Ext w5 w6 by rw [hw6]; exact Ext.new w5 _)
  have B6 := hide (show Blk w6 w5.heap.size 30 #[.int .i64 2, .int .i64 1, .int .i64 0, .int .i64 0, .int .i64 N', .int .i64 p2, .int .i64 0, .int .i64 k2, .int .i64 0, .int .i64 0, .slice none 0 0, .slice A5 old2.length c5, .slice none 0 0, .slice none 0 0, .slice none 0 0, .slice none 0 0] by rw [hw6]; exact Blk.new w5 30 _)
  have HM6 := hide (HM3.out.more ((X4.out.trans X5.out).trans X6.out))
  have R6 := hide (X6.out.read R5.out)
  have HE6 := hide (show wr.heap.size ≤ w5.heap.size from (X4.out.trans X5.out).size)
  obtain ⟨eb6, heb6⟩ : ∃ eb6, eb6 = w5.heap.size := ⟨_, rfl⟩
  rw [← hw6, ← heb6]
  rw [← heb6] at B6 HE6
  obtain ⟨z0, z1, z2, z3, z4, z5, z6, z7, z8, z9, z10, z11, z12, z13, z14, z15⟩ := B6.out.cells16
  clear hw6 heb6
  have hk24i : (k2 : Int) ≤ 3 := by omega
  have hk20 : (0 : Int) ≤ (k2 : Int) := by omega
  have ek1 : decide ((k2 : Int) < 0) = false := decide_eq_false (by omega)
  have ek2 : decide ((3 : Int) < (k2 : Int)) = false := decide_eq_false (by omega)
  have ek3 : decide (3 < k2) = false := decide_eq_false (by omega)
  obtain ⟨i0, hi0, iz0, iz1, iz2⟩ := info_parts Try.info30'
  have RW := hide (show Reads (w6.alloc (.cells #[.int .i64 2, .int .i64 1, .int .i64 0, .int .i64 0, .int .i64 N', .int .i64 p2, .int .i64 0, .int .i64 k2, .int .i64 0, .int .i64 0, .slice none 0 0, .slice A5 old2.length c5, .slice none 0 0, .slice none 0 0, .slice none 0 0, .slice none 0 0] 30)) (w6.alloc (.cells #[.int .i64 2, .int .i64 1, .int .i64 0, .int .i64 0, .int .i64 N', .int .i64 p2, .int .i64 0, .int .i64 k2, .int .i64 0, .int .i64 0, .slice none 0 0, .slice A5 old2.length c5, .slice none 0 0, .slice none 0 0, .slice none 0 0, .slice none 0 0] 30)).heap.size 16 (some ⟨w6.heap.size, 0, none⟩) 1 (row2 N' p2 k2 (A5, old2.length, c5)) from reads_blk (m := 16) (Blk.new w6 30 _) rfl)
  have M7 := hide (HM6.out.more (Ext.new w6 (.cells #[.int .i64 2, .int .i64 1, .int .i64 0, .int .i64 0, .int .i64 N', .int .i64 p2, .int .i64 0, .int .i64 k2, .int .i64 0, .int .i64 0, .slice none 0 0, .slice A5 old2.length c5, .slice none 0 0, .slice none 0 0, .slice none 0 0, .slice none 0 0] 30)))
  go_upto_region 31 with (at_builtin; refine wpList_append_any _ rfl (.tmp 135) (.tmp 137) _ rfl W.heap.size 30 i0 _ 16 224 Try.underlying38 hi0 iz0 iz1 iz2 rfl (by omega) (.slice (some ⟨g3, 0, none⟩) N' cg3) N' zs rfl M7.out.own _ (some ⟨w6.heap.size, 0, none⟩) 1 1 (row2 N' p2 k2 (A5, old2.length, c5)) rfl RW.out (row2_one _) (by unfold maxLen; omega) (by omega) (by have := M7.out.hb.size; exact this) ?_; intro v8 w8 ho8 hg8 hat8; have M8 := hide (M7.out.app ho8 hg8 hat8 (fun h => absurd h (by have := HN'.out; have := Hm'.out; omega)) (fun h => ⟨N', (A5, old2.length, c5), by have e : 2 * L.length - 1 - N' = p2 := (by have := HN'.out; have := HP2.out; omega); rw [e, ← HK2.out]⟩)); have T8 := hide (((Touch.refl w6 (fun a => (Value.slice (some ⟨g3, 0, none⟩) N' cg3).ownBlock = some a)).alloc _).grown hg8 (fun z hz _ => hz)); have B8 := hide (T8.out.blk B6.out (fun e => by have e' : g3 = eb6 := (by simpa [Value.ownBlock] using e); have := HE6.out; omega)); have R8 := hide ((R6.out.touch T8.out (Nat.le_refl _) (fun ad had e => by have e' : g3 = ad.block := (by simpa [Value.ownBlock] using e); have := HA5.out ad had; omega)).more T8.out.size); clear ho8 hg8 hat8)
  obtain ⟨g9, c9, hv9, _⟩ := M8.out.form (by omega)
  subst hv9
  have kc := run_string_of_reads (l := old2) 24 9 5 c5 Try.underlying24 Try.underlying5 Try.underlying9 R8.out
  have y5 := B8.out.cell 5
  have y7 := B8.out.cell 7
  have y11 := B8.out.cell 11
  simp at y5 y7 y11
  have yk : w8.cell? ⟨cb, k2, none⟩ = some (.string ⟨(cellsAt L m' k2).toArray⟩) := by
    rw [M8.out.cbk.cell]
    rcases (show k2 = 0 ∨ k2 = 1 ∨ k2 = 2 ∨ k2 = 3 by omega) with e | e | e | e <;> subst e <;> rfl
  have fk := M8.out.cbk.frozen k2
  clear z0 z1 z2 z3 z4 z5 z6 z7 z8 z9 z10 z11 z12 z13 z14 z15
  go_wp2_with (fail)
  have M9 := hide (M8.out.put (m' := p2) (k := k2) (u := .string ⟨old2.toArray⟩) (by
    rw [HP2.out]
    rcases (show k2 = 0 ∨ k2 = 1 ∨ k2 = 2 ∨ k2 = 3 by omega) with e | e | e | e <;> subst e <;> simp [cellsAt, ← HK2.out, str, HO2.out]))
  have hmp : m' = p2 + 1 := HP2.out
  exact ⟨hmp, _, M9.out⟩
end Go.Proofs.Ytogminifliceaaa.undoWhole
