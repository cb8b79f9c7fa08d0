/- UndoWhole: the first loop's round: a set is noted. -/
import Derived.Test.YtogminifliceaaaUndoWholeA
import Derived.Test.YtogminifliceaaaUndoWholeC
import Derived.Deep.Cut
import Derived.Deep.DeepCutAuto
import Derived.Deep.CutBlock
import Derived.LoopTactic
import Derived.BigQuiet
namespace Go.Proofs.Ytogminifliceaaa.undoWhole
open Go.ChangeShapes Go.WideShapes Go.ChangeAt Go.RowKit
set_option linter.unusedVariables false
theorem eq4 (w : World) : (Op.equalIn 10000 37 (.agg #[.string ⟨#[]⟩, .string ⟨#[]⟩, .string ⟨#[]⟩, .string ⟨#[]⟩]) (.agg #[.string ⟨#[]⟩, .string ⟨#[]⟩, .string ⟨#[]⟩, .string ⟨#[]⟩])).run Try.prog w = .ok true w := by kernel_rfl
set_option maxRecDepth 100000 in
set_option maxHeartbeats 8000000 in
theorem walk_short (A B : Option Addr) (c d : Nat) (L S : List UInt8) (w : World) (hL : Reads w w.heap.size 1 A L.length (bv L)) (hS : Reads w w.heap.size 1 B S.length (bv S)) (h1 : (L.length : Int) ≤ 10) (h2 : (S.length : Int) ≤ 10) :
    Calls Try.prog 4 #[.slice A L.length c, .slice B S.length d] w fun e w' => e = .returned (.bool true) ∧ Below w.heap.size w w' := by
  have HL := hide hL
  have HS0 := hide hS
  clear hL hS
  go_enter Try.func4, Try.ntmps4
  go_wp2_with (go_at_call 7; refine (begun_any _).mono ?_; rintro e w1 ⟨rfl, hb⟩)
  have M0 : Mem w1 (w1.alloc (.cells #[.string ⟨#[]⟩, .string ⟨#[]⟩, .string ⟨#[]⟩, .string ⟨#[]⟩] 37)) L w1.heap.size 0 (.slice none 0 0) 0 [] :=
    ⟨(Below.refl _ _).alloc (Nat.le_refl _) _, Nat.le_refl _, Blk.new _ _ _, World.ownsRow_nil _ _ _ _, fun i hi => absurd hi (by omega), fun i hi => absurd hi (by omega)⟩
  have M0 := hide M0
  have HB := hide hb
  clear hb
  go_loopw [6, 7, 8] (fun s6 s7 s8 wr => ∃ j : Nat, j ≤ L.length ∧ s7 = .int .i64 j ∧ s8 = .int .i64 j ∧ Hid (∃ xs, Mem w1 wr L w1.heap.size j s6 j xs)) (fun _ _ s8 _ => (L.length - intOf s8).toNat)
  case atStart => exact ⟨0, by omega, rfl, rfl, [], M0.out⟩
  case round =>
    obtain ⟨j, hj, rfl, rfl, hs0⟩ := hrel
    obtain ⟨xs, hm⟩ := hs0.out
    have HM := hide hm
    clear M0 hs0
    by_cases hlt : j < L.length
    · obtain ⟨b, off, hA, hbw, hcell⟩ := HL.out.plain (by omega) (by omega)
      subst hA
      obtain ⟨q, hq⟩ : ∃ q, q = L.getD j 0 := ⟨_, rfl⟩
      obtain ⟨n, hn⟩ : ∃ n, n = q.toNat := ⟨_, rfl⟩
      obtain ⟨k, hk⟩ : ∃ k, k = kAt L j := ⟨_, rfl⟩
      have hkn : ((n : Int) % 4) = (k : Int) := by subst hk hn hq; simp [kAt]
      have hk4 : k < 4 := by subst hk; exact kAt_lt L j
      have x0 : wr.cell? ⟨b, off + j, none⟩ = some (.int .u8 (n : Int)) := by
        subst hn hq
        have e1 := hcell j (.int .u8 ((L.getD j 0).toNat : Int)) (by simp [bv, hlt])
        exact (hm.hb.cell (p := ⟨b, off + j, none⟩) (Nat.lt_of_lt_of_le hbw HB.out.size)).trans ((HB.out.cell (p := ⟨b, off + j, none⟩) hbw).trans e1)
      have x1 : wr.cell? ⟨w1.heap.size, k, none⟩ = some (.string ⟨(cellsAt L j k).toArray⟩) := by
        rw [hm.cbk.cell]
        rcases (show k = 0 ∨ k = 1 ∨ k = 2 ∨ k = 3 by omega) with e | e | e | e <;> subst e <;> rfl
      obtain ⟨old, hold⟩ : ∃ old, old = cellsAt L j k := ⟨_, rfl⟩
      rw [← hold] at x1
      have HKN := hide hkn
      have HN := hide hn
      have HQ := hide hq
      have HK := hide hk
      have HO := hide hold
      have hk4i : (k : Int) < 4 := by omega
      have hbr : b < wr.heap.size := Nat.lt_of_lt_of_le hbw (Nat.le_trans HB.out.size hm.hb.size)
      have hcr : w1.heap.size < wr.heap.size := hm.cbk.lt
      clear hm hcell hn hq hk hold hkn
      go_upto_region 12 with (fail)
      rw [HKN.out]
      refine set_made wr b off L.length c w1.heap.size j k n q old HN.out hlt h1 hk4 x0 x1 hbr hcr _ _ _ _ _ _ _ _ _ _ _ _ _ _ _ _ _ _ _ _ _ _ _ _ _ _ _ _ _ _ _ _ _ _ _ _ _ _ _ _ _ _ _ _ _ _ _ _ _ _ _ _ _ _ _ _ _ _ _ _ _ _ _ _ _ _ _ _ _ _ _ _ _ _ _ _ _ _ _ _ _ _ _ _ _ _ _ _ _ _ _ _ _ _ _ _ _ _ _ _ _ _ _ _ _ _ _ _ _ _ _ _ _ _ _ _ _ _ _ _ _ _ _ _ _ _ _ _ _ _ _ _ _ _ _ _ _ _ _ _ _ _ _ _ _ _ _ _ _ _ _ _ _ _ _ _ _ _ _ _ _ _ _ _ _ _ _ _ _ _ _ _ ?_
      intro v10 v41 v42 v43 v44 v45 v46 v47 v48 v49 v50 v51 v52 v53 wc hcut
      obtain ⟨eb, ob, nb, oc, rfl, kb, heb, hob, hnb, hfo, rnew, bel⟩ := hcut
      have hu6 : ∀ z, u6.ownBlock = some z → z < wr.heap.size := fun z hz => (HM.out.own.lt z hz).2
      have OB := hide (show Old wc u6 w1.heap.size (.slice (some ⟨ob, 0, none⟩) old.length oc) old from ⟨ob, oc, rfl, hfo.2.1, hfo.2.2, fun e => by have := hu6 _ e; omega, by omega⟩)
      have M1 := hide (HM.out.more bel)
      obtain ⟨z0, z1, z2, z3, z4, z5, z6, z7, z8, z9, z10, z11, z12, z13, z14, z15⟩ := kb.cells16
      have KB := hide kb
      have RN := hide rnew
      have HU6 := hide hu6
      have HEB := hide heb
      have HNB := hide hnb
      obtain ⟨i0, hi0, iz0, iz1, iz2⟩ := info_parts Try.info30'
      clear kb rnew hfo bel x0 x1 hu6 heb hnb hob
      have RW := hide (show Reads (wc.alloc (.cells #[.int .i64 1, .int .i64 1, .int .i64 0, .int .i64 0, .int .i64 j, .int .i64 0, .int .i64 0, .int .i64 k, .int .i64 0, .int .i64 0, .slice (some ⟨ob, 0, none⟩) old.length oc, .slice (some ⟨nb, 0, none⟩) 1 1, .slice none 0 0, .slice none 0 0, .slice none 0 0, .slice none 0 0] 30)) (wc.alloc (.cells #[.int .i64 1, .int .i64 1, .int .i64 0, .int .i64 0, .int .i64 j, .int .i64 0, .int .i64 0, .int .i64 k, .int .i64 0, .int .i64 0, .slice (some ⟨ob, 0, none⟩) old.length oc, .slice (some ⟨nb, 0, none⟩) 1 1, .slice none 0 0, .slice none 0 0, .slice none 0 0, .slice none 0 0] 30)).heap.size 16 (some ⟨wc.heap.size, 0, none⟩) 1 (row1 j k (.slice (some ⟨ob, 0, none⟩) old.length oc) (some ⟨nb, 0, none⟩, 1, 1)) from reads_blk (m := 16) (Blk.new wc 30 _) rfl)
      have M2 := hide (M1.out.more (Ext.new wc (.cells #[.int .i64 1, .int .i64 1, .int .i64 0, .int .i64 0, .int .i64 j, .int .i64 0, .int .i64 0, .int .i64 k, .int .i64 0, .int .i64 0, .slice (some ⟨ob, 0, none⟩) old.length oc, .slice (some ⟨nb, 0, none⟩) 1 1, .slice none 0 0, .slice none 0 0, .slice none 0 0, .slice none 0 0] 30)))
      have OB2 := hide (OB.out.touch (nv' := u6) ((Touch.refl wc (fun _ => False)).alloc (.cells #[.int .i64 1, .int .i64 1, .int .i64 0, .int .i64 0, .int .i64 j, .int .i64 0, .int .i64 0, .int .i64 k, .int .i64 0, .int .i64 0, .slice (some ⟨ob, 0, none⟩) old.length oc, .slice (some ⟨nb, 0, none⟩) 1 1, .slice none 0 0, .slice none 0 0, .slice none 0 0, .slice none 0 0] 30)) (fun _ h => h.elim) (.inl rfl))
      go_upto_region 14 with (at_builtin; refine wpList_append_any _ rfl (.tmp 54) (.tmp 56) _ rfl w1.heap.size 30 i0 _ 16 224 Try.underlying38 hi0 iz0 iz1 iz2 rfl (by omega) u6 j xs rfl M2.out.own _ (some ⟨wc.heap.size, 0, none⟩) 1 1 (row1 j k (.slice (some ⟨ob, 0, none⟩) old.length oc) (some ⟨nb, 0, none⟩, 1, 1)) rfl RW.out (row1_one _ _ _ _) (by unfold maxLen; omega) (by omega) (by have := M2.out.hb.size; exact this) ?_; intro v1 w2 ho2 hg2 hat2; have M3 := hide (M2.out.app ho2 hg2 hat2 (fun _ => ⟨_, _, by rw [HK.out], by rw [← HK.out, ← HO.out]; exact OB2.out⟩) (fun h => absurd h (by omega))); have T2 := hide (((Touch.refl wc (fun a => u6.ownBlock = some a)).alloc _).grown hg2 (fun z hz _ => hz)); have KB2 := hide ((KB.out.alloc _).grown hg2 (fun e => by have := HU6.out _ e.symm; have := HEB.out; omega)); have RN2 := hide ((RN.out.touch T2.out (Nat.le_refl _) (fun ad had e => by injection had with had; subst had; have e' : u6.ownBlock = some nb := e; have := HU6.out _ e'; have := HNB.out; omega)).more T2.out.size); clear ho2 hg2 hat2)
      obtain ⟨g1, c1, hv1, _⟩ := M3.out.form (by omega)
      subst hv1
      have kc := run_string_of_reads (l := [q]) 24 9 5 1 Try.underlying24 Try.underlying5 Try.underlying9 RN2.out
      have y11 := KB2.out.cell 11
      simp at y11
      have yk : w2.cell? ⟨w1.heap.size, k, none⟩ = some (.string ⟨(cellsAt L j k).toArray⟩) := by
        rw [M3.out.cbk.cell]
        rcases (show k = 0 ∨ k = 1 ∨ k = 2 ∨ k = 3 by omega) with e | e | e | e <;> subst e <;> rfl
      have fk := M3.out.cbk.frozen k
      clear z0 z1 z2 z3 z4 z5 z6 z7 z8 z9 z10 z11 z12 z13 z14 z15
      go_wp2_with (fail)
      have M4 := hide (M3.out.put (m' := j + 1) (k := k) (u := .string ⟨[q].toArray⟩) (by
        rcases (show k = 0 ∨ k = 1 ∨ k = 2 ∨ k = 3 by omega) with e | e | e | e <;> subst e <;> (simp [cellsAt, ← HK.out, str]; rw [HQ.out, List.getD_eq_getElem?_getD])))
      go_roundw
      case rel => exact ⟨j + 1, by omega, by go_num, by go_num, _, M4.out⟩
      case measure => simp [intOf]; omega
    · obtain rfl : j = L.length := by omega
      go_upto_block 2 with (fail)
      obtain ⟨nv, hnv⟩ : ∃ nv, nv = u6 := ⟨_, rfl⟩
      rw [← hnv] at HM ⊢
      clear hnv
      go_cut [6] (fun s6 wx => ∃ nv xs, s6 = nv ∧ Hid (Mem w1 wx L w1.heap.size (L.length + L.length) nv 0 xs))
      case first =>
        go_wp2_with (fail)
        go_loopw [6, 7, 11] (fun s6 s7 s11 wx => ∃ i m N : Nat, s7 = .int .i64 N ∧ s11 = .int .i64 i ∧ i ≤ S.length ∧ m ≤ L.length ∧ N + m = L.length + L.length ∧ (m = 0 → L.length = 0) ∧ Hid (∃ xs, Mem w1 wx L w1.heap.size N s6 m xs)) (fun _ _ s11 _ => (S.length + 1 - intOf s11).toNat)
        case atStart => exact ⟨0, L.length, L.length, rfl, rfl, by omega, by omega, by omega, fun h => h, _, HM.out⟩
        case round =>
          obtain ⟨i, m, N, rfl, rfl, hi, hm, hNm, hm0, hs1⟩ := hrel
          obtain ⟨ys, hmem⟩ := hs1.out
          have HM := hide hmem
          clear hs1 hmem
          have d1 : decide ((i : Int) < 200) = true := decide_eq_true (by omega)
          by_cases hz : m = 0
          · obtain rfl : N = 0 := by have := hm0 hz; omega
            have HL0 := hide (hm0 hz)
            clear hm0 hNm hm
            subst hz
            go_wp2_with (fail)
            go_meet
            case rel => exact ⟨_, ys, rfl, by rw [HL0.out]; exact HM.out⟩
          · have d2 : ((N : Int) == 0) = false := by simp; omega
            obtain ⟨p, hp⟩ : ∃ p, N = p + 1 := ⟨N - 1, by omega⟩
            have hw1 : IntKind.i64.wrap ((N : Int) - 1) = (p : Int) := by simp [IntKind.wrap, IntKind.signed, IntKind.bits]; omega
            have hpN : (p : Int) < (N : Int) := by omega
            obtain ⟨kd, pv, nx, v1, v2, v3, v6, v7, v8, v9, v10, v11, v12, v13, v14, v15, his, hnext⟩ := HM.out.last hp hNm hm
            obtain ⟨g, cg, hnv, hcells⟩ := HM.out.form (by omega)
            subst hnv
            obtain ⟨x0, x1, x2, x3, x4, x5, x6, x7, x8, x9, x10, x11, x12, x13, x14, x15⟩ := cells_of_is his hcells
            have HNX := hide hnext
            have HP := hide hp
            have HM0 := hide hm0
            have HNM := hide hNm
            clear his hcells hnext hp hm0 hNm
            go_wp2_with (go_at_call 11; refine (next_any kd pv nx N _ _ _ _ _ _ _ _ _ _ _ _ _ _).mono ?_; rintro e w2 ⟨rfl, hb2⟩; rw [HNX.out]; have HM2 := hide (HM.out.more hb2); clear hb2 x0 x1 x2 x3 x4 x5 x6 x7 x8 x9 x10 x11 x12 x13 x14 x15)
            go_loopw [6, 7, 12, 13] (fun s6 s7 s12 s13 wx => ∃ m' n' N' : Nat, s7 = .int .i64 N' ∧ s12 = .int .i64 m' ∧ s13 = .int .i64 n' ∧ m' ≤ m ∧ n' + m' = m ∧ N' + m' = L.length + L.length ∧ Hid (∃ xs, Mem w1 wx L w1.heap.size N' s6 m' xs)) (fun _ _ s12 _ _ => (intOf s12).toNat)
            case atStart => exact ⟨m, 0, N, rfl, rfl, rfl, by omega, by omega, HNM.out, _, HM2.out⟩
            case round =>
              obtain ⟨m', n', N', rfl, rfl, rfl, hm', hn', hN', hs2⟩ := hrel
              obtain ⟨zs, hmem⟩ := hs2.out
              have HM3 := hide hmem
              clear hs2 hmem
              by_cases hz' : m' = 0
              · subst hz'
                have HN' := hide hN'
                clear hN' hn' hm'
                go_wp2_with (fail)
                go_meet
                case rel => exact ⟨_, zs, rfl, by rw [show L.length + L.length = N' by have := HN'.out; omega]; exact HM3.out⟩
              · have e1 : decide ((0 : Int) < (m' : Int)) = true := decide_eq_true (by omega)
                have e2 : decide ((m' : Int) ≤ (N' : Int)) = true := decide_eq_true (by omega)
                have e5 : ((m' : Int) == 0) = false := by simp; omega
                have HN' := hide hN'
                have Hn' := hide hn'
                have Hm' := hide hm'
                have hN20 : (N' : Int) ≤ 20 := by omega
                have e1n : 0 < m' := by omega
                have hn10 : (n' : Int) ≤ 10 := by omega
                have e2n : m' ≤ N' := by omega
                obtain ⟨g3, cg3, hnv3, hcells3⟩ := HM3.out.form (by omega)
                subst hnv3
                have HC3 := hide hcells3
                clear hcells3
                by_cases hi2 : S.length ≤ i
                · have e3 : decide ((S.length : Int) ≤ (i : Int)) = true := decide_eq_true (by omega)
                  clear hN' hn' hm'
                  go_upto_block 5 with (fail)
                  refine set_back w1 wr L w1.heap.size g3 N' cg3 m' zs HM3.out HN'.out (by have := Hm'.out; omega) e1n h1 _ _ _ _ _ _ _ _ _ _ _ _ _ _ _ _ _ _ _ _ _ _ _ _ _ _ _ _ _ _ _ _ _ _ _ _ _ _ _ _ _ _ _ _ _ _ _ _ _ _ _ _ _ _ _ _ _ _ _ _ _ _ _ _ _ _ _ _ _ _ _ _ _ _ _ _ _ _ _ _ _ _ _ _ _ _ _ _ _ _ _ _ _ _ _ _ _ _ _ _ _ _ _ _ _ _ _ _ _ _ _ _ _ _ _ _ _ _ _ _ _ _ _ _ _ _ _ _ _ _ _ _ _ _ _ _ _ _ _ _ _ _ _ _ _ _ _ _ _ _ _ _ _ _ _ _ _ _ _ _ _ _ _ _ _ _ _ _ _ _ _ _ _ ?_
                  rintro p2 v6 v14 v15 v16 v104 v105 v106 v107 v108 v109 v110 v111 v112 v113 v114 v115 v116 v117 v118 v119 v120 v121 v122 v123 v124 v125 v126 v127 v128 v129 v130 v131 v132 v133 v134 v135 v136 v137 v138 v139 v140 v141 v142 v143 v144 v145 v146 v147 v148 v149 wx ⟨hmp, xs9, hm9⟩
                  have HM9 := hide hm9
                  have HP2 := hide hmp
                  clear hmp hm9 e2 e5
                  go_wp2_with (fail)
                  go_roundw
                  case rel => exact ⟨p2, n' + 1, N' + 1, by go_num, rfl, by go_num, by have := Hm'.out; have := HP2.out; omega, by have := Hn'.out; have := HP2.out; omega, by have := HN'.out; have := HP2.out; omega, _, HM9.out⟩
                  case measure => have := HP2.out; simp [intOf]; omega
                · have e3 : decide ((S.length : Int) ≤ (i : Int)) = false := decide_eq_false (by omega)
                  obtain ⟨b2, off2, hB2, hbw2, hcell2⟩ := HS0.out.plain (by omega) (by omega)
                  subst hB2
                  obtain ⟨sq, hsq⟩ : ∃ sq : Nat, sq = (S.getD i 0).toNat := ⟨_, rfl⟩
                  have hsi : (i : Int) < (S.length : Int) := by omega
                  have y0 : wr.cell? ⟨b2, off2 + i, none⟩ = some (.int .u8 (sq : Int)) := by
                    have hi3 : i < S.length := by omega
                    have e1 := hcell2 i (.int .u8 ((S.getD i 0).toNat : Int)) (by simp [bv, hi3])
                    rw [hsq]
                    exact (HM3.out.hb.cell (p := ⟨b2, off2 + i, none⟩) (Nat.lt_of_lt_of_le hbw2 HB.out.size)).trans ((HB.out.cell (p := ⟨b2, off2 + i, none⟩) hbw2).trans e1)
                  clear hsq hcell2
                  have HI2 := hide hi2
                  by_cases hst : (n' : Int) < (sq : Int) % 3
                  · have e4 : decide ((n' : Int) < (sq : Int) % 3) = true := decide_eq_true hst
                    clear hN' hn' hm'
                    go_upto_block 5 with (fail)
                    refine set_back w1 wr L w1.heap.size g3 N' cg3 m' zs HM3.out HN'.out (by have := Hm'.out; omega) e1n h1 _ _ _ _ _ _ _ _ _ _ _ _ _ _ _ _ _ _ _ _ _ _ _ _ _ _ _ _ _ _ _ _ _ _ _ _ _ _ _ _ _ _ _ _ _ _ _ _ _ _ _ _ _ _ _ _ _ _ _ _ _ _ _ _ _ _ _ _ _ _ _ _ _ _ _ _ _ _ _ _ _ _ _ _ _ _ _ _ _ _ _ _ _ _ _ _ _ _ _ _ _ _ _ _ _ _ _ _ _ _ _ _ _ _ _ _ _ _ _ _ _ _ _ _ _ _ _ _ _ _ _ _ _ _ _ _ _ _ _ _ _ _ _ _ _ _ _ _ _ _ _ _ _ _ _ _ _ _ _ _ _ _ _ _ _ _ _ _ _ _ _ _ _ ?_
                    rintro p2 v6 v14 v15 v16 v104 v105 v106 v107 v108 v109 v110 v111 v112 v113 v114 v115 v116 v117 v118 v119 v120 v121 v122 v123 v124 v125 v126 v127 v128 v129 v130 v131 v132 v133 v134 v135 v136 v137 v138 v139 v140 v141 v142 v143 v144 v145 v146 v147 v148 v149 wx ⟨hmp, xs9, hm9⟩
                    have HM9 := hide hm9
                    have HP2 := hide hmp
                    clear hmp hm9 e2 e5
                    go_wp2_with (fail)
                    go_roundw
                    case rel => exact ⟨p2, n' + 1, N' + 1, by go_num, rfl, by go_num, by have := Hm'.out; have := HP2.out; omega, by have := Hn'.out; have := HP2.out; omega, by have := HN'.out; have := HP2.out; omega, _, HM9.out⟩
                    case measure => have := HP2.out; simp [intOf]; omega
                  · have e4 : decide ((n' : Int) < (sq : Int) % 3) = false := decide_eq_false hst
                    clear hN' hn' hm'
                    go_wp2_with (fail)
                    all_goals
                      go_roundw
                      case rel => exact ⟨i + 1, m', N', rfl, by go_num, by have := HI2.out; omega, by have := Hm'.out; omega, HN'.out, fun h => absurd h hz', zs, HM3.out⟩
                      case measure => have := HI2.out; simp [intOf]; omega
      case rest =>
        obtain ⟨nv, xs9, rfl, hm9⟩ := hcut
        have HM9 := hm9
        clear hm9
        obtain ⟨N, hN⟩ : ∃ N, N = L.length + L.length := ⟨_, rfl⟩
        rw [← hN] at HM9
        obtain ⟨A9, c9, hv9⟩ : ∃ A c, u6 = .slice A N c := by
          rcases HM9.out.own.2 with ⟨e, e0⟩ | ⟨g, cap, cur, e, _⟩
          · exact ⟨none, 0, by rw [e, e0]⟩
          · exact ⟨_, _, e⟩
        subst hv9
        have HNN := hide hN
        have hN20 : (N : Int) ≤ 20 := by omega
        have k0 := HM9.out.cbk.cell 0
        have k1 := HM9.out.cbk.cell 1
        have k2 := HM9.out.cbk.cell 2
        have k3 := HM9.out.cbk.cell 3
        simp [str, cellsAt] at k0 k1 k2 k3
        clear hN
        go_wp2_with (fail)
        go_loopw [17, 18] (fun s17 s18 wr => ∃ i bb : Nat, i ≤ N ∧ s17 = .int .i64 bb ∧ s18 = .int .i64 i ∧ wc = wr ∧ Hid ((i ≤ L.length → bb = 0) ∧ (L.length ≤ i → bb + L.length = i))) (fun _ s18 _ => (N - intOf s18).toNat)
        case atStart => exact ⟨0, 0, by omega, rfl, rfl, rfl, fun _ => rfl, fun h => by omega⟩
        case round =>
          obtain ⟨i, bb, hi, rfl, rfl, rfl, hbb⟩ := hrel
          by_cases hlt : i < N
          · obtain ⟨g, cg, hv, hcells⟩ := HM9.out.form (by omega)
            injection hv with q1 q2 q3
            subst q1 q3
            have hb20 : (bb : Int) ≤ 20 := by have := hbb.out; omega
            by_cases hs : i < L.length
            · obtain ⟨so, sn, h1, _⟩ := HM9.out.sets i hlt hs
              have x0 := (cells_of_is h1 hcells).1
              have HS1 := hide hs
              clear hcells h1 hs
              go_wp2_with (fail)
              go_roundw
              case rel => exact ⟨i + 1, bb, by omega, rfl, by go_num, by trivial, fun _ => hbb.out.1 (by have := HS1.out; omega), fun h => by have := hbb.out.1 (by have := HS1.out; omega); have := HS1.out; omega⟩
              case measure => simp [intOf]; omega
            · obtain ⟨pv, sn, h1⟩ := HM9.out.backs i hlt (by omega)
              have x0 := (cells_of_is h1 hcells).1
              have HS1 := hide hs
              clear hcells h1 hs
              go_wp2_with (fail)
              go_roundw
              case rel => exact ⟨i + 1, bb + 1, by omega, by go_num, by go_num, by trivial, fun h => by have := HS1.out; omega, fun h => by have := hbb.out.2 (by have := HS1.out; omega); omega⟩
              case measure => simp [intOf]; omega
          · obtain rfl : i = N := by omega
            have e9 : ((bb : Int) == (L.length : Int)) = true := by
              have := hbb.out.2 (by have := HNN.out; omega)
              have := HNN.out
              rw [beq_iff_eq]; omega
            have HBX := hide (HB.out.trans (HM9.out.hb.mono HB.out.size))
            have h4 := eq4 wc
            go_wp2_with (fail)
            go_ret
            exact ⟨rfl, HBX.out⟩
end Go.Proofs.Ytogminifliceaaa.undoWhole
