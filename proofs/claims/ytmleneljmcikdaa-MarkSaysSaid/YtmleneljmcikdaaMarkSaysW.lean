/- MarkSays: the walk. -/
import Derived.Test.YtmleneljmcikdaaMarkB
import Derived.Deep.RegionLaw
import Derived.IntWalk
import Derived.Deep.CutBlock
import Derived.Deep.DeepCutAuto
import Derived.Outline
namespace Go.Proofs.Ytmleneljmcikdaa.markSays
open Go.ChangeShapes Go.WideShapes Go.ChangeAt Go.RowKit
set_option linter.unusedVariables false

def pairs (zs : List Int) (k : Nat) : List (Int × Int) := (List.range k).map fun i : Nat => ((i : Int), zs.getD i 0)
theorem pairs_length (zs : List Int) (k : Nat) : (pairs zs k).length = k := by simp [pairs]
theorem pairs_succ (zs : List Int) (k : Nat) : dv (pairs zs (k + 1)) = dv (pairs zs k) ++ [.int .i64 k, .int .i64 (zs.getD k 0)] := by
  unfold pairs
  rw [List.range_succ, List.map_append, dv_append]
  rfl
theorem recs_pairs (zs : List Int) : recs (pairs zs zs.length) = zs := by
  apply List.ext_getElem
  · simp [recs, pairs]
  · intro i h1 h2
    simp [recs, pairs, List.getD, h2]
/-- what is seen so far -/
structure SK (w1 wr : World) (zs : List Int) (v : Value) (k : Nat) : Prop where
  blk : Blk wr w1.heap.size 26 #[.slice none 0 0, v, .slice none 0 0, .int .i64 0, .int .i64 0]
  own : wr.ownsRow w1.heap.size 41 2 v k (dv (pairs zs k))
  ext : Ext w1 wr
theorem SK.step {w1 wr w2 : World} {zs : List Int} {v v1 : Value} {k : Nat} {x : Int} (h : SK w1 wr zs v k) (hx : x = zs.getD k 0)
    (ho : w2.ownsRow w1.heap.size 41 2 v1 (k + 1) (dv (pairs zs k) ++ [.int .i64 k, .int .i64 x])) (hg : ((wr.alloc (.cells #[.int .i64 k, .int .i64 x] 41)).drew).grownBy w2 v.ownBlock) :
    Blk w2 w1.heap.size 26 #[.slice none 0 0, v, .slice none 0 0, .int .i64 0, .int .i64 0] ∧ SK w1 (w2.setCell ⟨w1.heap.size, 1, none⟩ v1) zs v1 (k + 1) := by
  subst hx
  rw [← pairs_succ] at ho
  have b0 := (h.blk.alloc (.cells #[.int .i64 k, .int .i64 (zs.getD k 0)] 41)).drew
  have b2 := b0.grown hg (fun e => own_blk_ne h.own h.blk (by decide) e.symm)
  have E2 : Ext w1 w2 := Ext.grown ((h.ext.alloc _).drew) hg (fun z hz => (h.own.lt z hz).1)
  refine ⟨b2, by simpa using b2.set_ 1 v1, own_far ho (fun e => own_blk_ne ho b2 (by decide) e) _, E2.set_ (Nat.le_refl _) _⟩

theorem dirty_row' {ds : List (Int × Int)} {n : Nat} (h : n = ds.length) : DirtyRow (dv ds) n := by
  subst h
  exact fun k hk => ⟨_, _, (dv_at ds k hk).1, (dv_at ds k hk).2⟩
set_option maxRecDepth 100000 in
set_option maxHeartbeats 20000000 in
theorem walk_short (A : Option Addr) (n c : Nat) (zs : List Int) (f : Int) (w : World) (hr : Reads w w.heap.size 1 A n (zs.map (Value.int .u16))) (hn : zs.length = n) (hz : ∀ z ∈ zs, 0 ≤ z ∧ z ≤ 65535) (hl : (n : Int) ≤ 10) (f0 : 0 ≤ f) (f1 : f ≤ 65535) :
    Calls Try.prog 4 #[.slice A n c, .int .u16 f] w fun e w' => e = .returned (.bool true) ∧ Ext w w' := by
  have HR := hide hr
  have HN := hide hn
  have HZ := hide hz
  obtain ⟨i0, hi0, iz0, iz1, iz2⟩ := info_parts Try.info41'
  clear hr hn hz
  go_enter Try.func4, Try.ntmps4
  go_wp2_with (go_at_call 5; refine (begun_any _).mono ?_; rintro e w1 ⟨rfl, b1⟩)
  have B1 := hide b1
  have hz1 := b1.size
  clear b1
  go_loopw [6] (fun i wr => (∃ k : Nat, k ≤ n ∧ i = .int .i64 k ∧ Hid (∃ v, SK w1 wr zs v k))) (fun i _ => (n - intOf i).toNat)
  case atStart => exact ⟨0, by omega, rfl, .slice none 0 0, Blk.new _ _ _, World.ownsRow_nil _ _ _ _, (Ext.refl _).alloc _⟩
  case round =>
    obtain ⟨k, hk, rfl, hs⟩ := hrel
    obtain ⟨v, hsk⟩ := hs.out
    have HS := hide hsk
    obtain ⟨Av, cv, hv, _⟩ := own_form hsk.own
    clear hs
    by_cases hlt : k < n
    · obtain ⟨b, off, hA, hbw, hcell⟩ := HR.out.plain (by omega) (by omega)
      subst hA
      have hkl : k < zs.length := by have := HN.out; omega
      obtain ⟨x, hx⟩ : ∃ x, x = zs.getD k 0 := ⟨_, rfl⟩
      have hx2 := HZ.out x (by rw [hx]; simp [List.getD, hkl])
      obtain ⟨hx0, hx1⟩ := hx2
      have g0 : wr.cell? ⟨b, off + k, none⟩ = some (.int .u16 x) := (hsk.ext.cell (p := ⟨b, off + k, none⟩) (show b < w1.heap.size by omega)).trans ((B1.out.cell (p := ⟨b, off + k, none⟩) hbw).trans (hcell k _ (by rw [hx]; simp [List.getD, hkl])))
      have gs : wr.cell? ⟨w1.heap.size, 1, none⟩ = some v := hsk.blk.cell 1
      have hsb : w1.heap.size < wr.heap.size := hsk.blk.lt
      have hbb : b < wr.heap.size := by omega
      have hw : IntKind.i64.wrap x = x := IntWalk.i64_in _ (by omega)
      have HX := hide hx
      have own2 := hide (((hsk.own.alloc (.cells #[.int .i64 k, .int .i64 x] 41))).drew)
      have news := hide ((reads_blk (m := 2) (Blk.new wr 41 #[.int .i64 k, .int .i64 x]) rfl).drew)
      clear hsk hcell hx hkl
      subst hv
      go_wp2_with (fail)
      go_region_law ((refine step_append_any _ rfl (.tmp 23) (.tmp 31) _ rfl w1.heap.size 41 i0 _ 2 16 Try.underlying23 hi0 iz0 iz1 iz2 rfl (by omega) (.slice Av k cv) k (dv (pairs zs k)) rfl own2.out (wr.alloc (.cells #[.int .i64 k, .int .i64 x] 41)).heap.size (some ⟨wr.heap.size, 0, none⟩) 1 1 [.int .i64 k, .int .i64 x] rfl news.out (by simp [Value.oneCell']) (by simp only [maxLen]; omega) (by omega) (by simp; omega) ?_; intro v1 w2 ho hg hat; have hst := HS.out.step HX.out ho hg; have y1 := hst.1.cell 1; have yf := hst.1.frozen; simp at y1; have NS := hide hst.2; obtain ⟨A1, c1, hv1, _⟩ := own_form ho; subst hv1; clear hst ho hg hat))
      all_goals
        go_wp2
        go_roundw
        case rel => exact ⟨k + 1, by omega, by go_num, _, NS.out⟩
        case measure => simp [intOf]; omega
    · obtain rfl : k = n := by omega
      obtain ⟨Aw, cw, hv', hnil, _⟩ := own_form hsk.own
      subst hv
      injection hv' with e1 _ e2
      subst e1 e2
      have HNIL := hide hnil
      clear hnil
      have hxs := hsk.blk.cells5
      obtain ⟨x0, x1, x2, x3, x4⟩ := hxs
      have hsb : w1.heap.size < wr.heap.size := hsk.blk.lt
      have HRD := hide (show Reads wr wr.heap.size 2 Av k (dv (pairs zs k)) from Reads.of_own hsk.own)
      clear hsk
      have HL := hide (show k = (pairs zs k).length from (pairs_length zs k).symm)
      go_wp2_with (fail)
      refine (redo_n _ _ _ _ Av k cv (pairs zs k) f _ HL.out HRD.out (by omega) (by omega) (by omega)).mono ?_
      rintro e w2 ⟨rfl, he2⟩
      have hrec : recs (pairs zs k) = zs := by rw [← HN.out]; exact recs_pairs zs
      rw [hrec]
      obtain ⟨q, hq⟩ : ∃ q, q = redoV zs f := ⟨_, rfl⟩
      rw [← hq]
      have hmin : Hid (∀ j, j < k → q ≤ zs.getD j 0) := fun j hj => by rw [hq]; exact redo_le (by rw [HN.out]; exact hj)
      have hsay : Hid (isA zs q k = true ∨ (f = 0 ∧ q = 1)) := by have := says zs f; rw [← hq, HN.out] at this; exact this
      have E2 := hide (B1.out.trans (HS.out.ext.trans he2))
      have F2 := hide (HS.out.ext.trans he2)
      have hz2 := he2.size
      have KS := hide (he2.blk HS.out.blk)
      have HD := hide (he2.read HRD.out)
      obtain ⟨y0, y1, y2, y3, y4⟩ := KS.out.cells5
      clear x0 x1 x2 x3 x4 hrec he2 HRD hq
      have hA0 : ((k : Int) == 0) = isA zs q 0 := by
        rcases Nat.eq_zero_or_pos k with h0 | h0
        · have : zs = [] := List.eq_nil_of_length_eq_zero (by rw [HN.out]; exact h0)
          subst this h0
          rfl
        · have : zs ≠ [] := fun e => by have := HN.out; rw [e] at this; simp at this; omega
          obtain ⟨z, zs', rfl⟩ := List.exists_cons_of_ne_nil this
          simp [isA]
          omega
      go_wp2_with (fail)
      go_loop [8, 9] (fun s8 s9 => (∃ j : Nat, j ≤ k ∧ s9 = .int .i64 j ∧ s8 = .bool (isA zs q j))) (fun _ s9 => (k - intOf s9).toNat)
      case atStart => exact ⟨0, by omega, rfl, rfl⟩
      case round =>
        obtain ⟨j, hj, rfl, rfl⟩ := hrel
        by_cases hlt2 : j < k
        · obtain ⟨b, off, hA, hbw, hcell⟩ := HR.out.plain (by omega) (by omega)
          subst hA
          have hkl : j < zs.length := by have := HN.out; omega
          obtain ⟨x, hx⟩ : ∃ x, x = zs.getD j 0 := ⟨_, rfl⟩
          obtain ⟨hx0, hx1⟩ := HZ.out x (by rw [hx]; simp [List.getD, hkl])
          have g0 : w2.cell? ⟨b, off + j, none⟩ = some (.int .u16 x) := (E2.out.cell (p := ⟨b, off + j, none⟩) (show b < w.heap.size from hbw)).trans (hcell j _ (by rw [hx]; simp [List.getD, hkl]))
          have hqx := hmin.out j hlt2
          rw [← hx] at hqx
          have HX := hide hx
          clear hcell hx hkl
          by_cases hi : isA zs q j = true
          · have hn := hide (show true = isA zs q (j + 1) by rw [isA, hi]; rfl)
            rw [hi]
            clear hi
            go_wp2
            go_round
            case rel => exact ⟨j + 1, by omega, by go_num, by rw [hn.out]⟩
            case measure => simp [intOf]; omega
          · have hi' : isA zs q j = false := by simpa using hi
            have hn := hide (show (x == q) = isA zs q (j + 1) by rw [isA, hi', Bool.false_or, HX.out])
            rw [hi']
            clear hi hi'
            go_wp2
            go_round
            case rel => exact ⟨j + 1, by omega, by go_num, by rw [hn.out]⟩
            case measure => simp [intOf]; omega
        · obtain rfl : j = k := by omega
          go_wp2_with (fail)
          refine (make_any none Av none 0 j 0 0 cv 0 0 0 [] (dv (pairs zs j)) [] _ (fun _ h => absurd h (by omega)) (reads_nil _ _ _) (fun _ => rfl) (by omega) (dv_one _) HD.out HNIL.out (by omega) (fun _ h => absurd h (by omega)) (reads_nil _ _ _) (fun _ => rfl) (by omega)).mono ?_
          rintro e w3 ⟨A1, A2, A3, c1, c2, c3, yO, rfl, r1, r2, r3, ho, he⟩
          have E3 := hide (E2.out.trans he)
          have KS3 := hide (he.blk KS.out)
          have HD3 := hide (he.read HD.out)
          have R1 := hide r1
          have R2 := hide r2
          have R3 := hide r3
          have hz3 := he.size
          obtain ⟨p0, p1, p2, p3, p4⟩ := KS3.out.cells5
          clear r1 r2 r3 ho he y0 y1 y2 y3 y4
          go_wp2_with (fail)
          refine (on_mark _ _ _ 0 0 1 A1 A2 A3 0 j 0 c1 c2 c3 _ rfl rfl rfl).mono ?_
          rintro e w4 ⟨rfl, he⟩
          have he5 := he.alloc (.cells #[.slice A1 0 c1, .slice A2 j c2, .slice A3 0 c3, .int .i64 0, .int .i64 0] 26)
          have E4 := hide (E3.out.trans he5)
          have HE5 := hide he5
          obtain ⟨p0, p1, p2, p3, p4⟩ := (he.blk KS3.out).cells5
          have hz4 : w1.heap.size < w4.heap.size := (he.blk KS3.out).lt
          clear he he5
          go_wp2_with (fail)
          refine (same_seen none Av none A1 A2 A3 0 j 0 0 cv 0 c1 c2 c3 0 0 [] (dv (pairs zs j)) [] yO _ (fun _ h => absurd h (by omega)) (reads_nil _ _ _) (HE5.out.read R1.out) (by decide) (dirty_row' HL.out) (HE5.out.read HD3.out) (HE5.out.read R2.out) (by unfold maxLen; omega) (fun _ h => absurd h (by omega)) (reads_nil _ _ _) (HE5.out.read R3.out) (by decide)).mono ?_
          rintro e w5 ⟨rfl, he⟩
          rcases hsay.out with h1 | ⟨h1, h2⟩
          · rw [h1]
            go_wp2
            go_ret
            exact ⟨rfl, E4.out.trans he⟩
          · subst h1 h2
            by_cases hi : isA zs 1 j = true
            · rw [hi]
              go_wp2
              go_ret
              exact ⟨rfl, E4.out.trans he⟩
            · have hi' : isA zs 1 j = false := by simpa using hi
              rw [hi']
              go_wp2
              go_ret
              exact ⟨rfl, E4.out.trans he⟩
end Go.Proofs.Ytmleneljmcikdaa.markSays
