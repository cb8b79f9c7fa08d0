/- Tile: contract: New. -/
import Derived.Test.YtpbenpkgbhmldaaTileK
namespace Go.Proofs.Ytpbenpkgbhmldaa
open Go.ChangeShapes Go.WideShapes Go.ChangeAt Go.RowKit Go.Maps
set_option linter.unusedVariables false

def blanks (k : Nat) : List (List UInt8) := List.replicate k (rep 0)
theorem blanks_snoc (k : Nat) : blanks k ++ [rep 0] = blanks (k + 1) := by unfold blanks; rw [List.replicate_succ']
theorem blk2 (w : World) (o : Obj) (t : TypeId) (cs : Array Value) : Blk ((w.alloc o).alloc (.cells cs t)) (w.heap.size + 1) t cs := by
  have h := Blk.new (w.alloc o) t cs
  have e : (w.alloc o).heap.size = w.heap.size + 1 := by simp
  rwa [e] at h
/-- what was made since W -/
def Fr (W : World) : Nat → Prop := fun k => W.heap.size ≤ k
theorem new_tl {w : World} {Z : Nat → Prop} {b : Nat} (h : Blk w b 5 (arr 0 64)) (hB : Z b) : Tl w Z (.slice (some ⟨b, 0, none⟩) 64 64) (rep 0) := by
  have h1 := own_of_blk h (n := 64) (B := 0) (by unfold arr; simp) (Nat.zero_le _) (by unfold maxLen; omega)
  have e : (arr 0 64).toList = bv (rep 0) := arr_full 0 (by decide)
  rw [e] at h1
  refine ⟨?_, fun k hk => ?_⟩
  · rw [rep_len]; exact h1
  · simp [Value.ownBlock] at hk; subst hk; exact hB
theorem dk_grow {Y Z : Nat → Prop} {wr w0 w1 : World} {g m k b : Nat} {vt v1 : Value} {ts : List Value} (h : Dk Y Z wr g vt m none false k 0 ts (blanks k) (fun _ => none) (fun _ => none) none) (he : Ext wr w0) (hb : Blk w0 b 5 (arr 0 64)) (hbW : Z b) (hY : ∀ k, wr.heap.size ≤ k → Y k)
    (ho : w1.ownsRow 0 22 1 v1 (k + 1) (ts ++ [.slice (some ⟨b, 0, none⟩) 64 64])) (hg : w0.grownBy w1 vt.ownBlock) (hv : v1.ownBlock = vt.ownBlock ∨ v1.ownBlock = some w0.heap.size) :
    Dk Y Z (w1.setCell ⟨g, 0, none⟩ v1) g v1 m none false (k + 1) 0 (ts ++ [.slice (some ⟨b, 0, none⟩) 64 64]) (blanks (k + 1)) (fun _ => none) (fun _ => none) none ∧ Turn Y wr (w1.setCell ⟨g, 0, none⟩ v1) := by
  have h0 := h.ext he
  have hr := h0.row (T' := blanks (k + 1)) ((Touch.refl w0 _).grown hg (fun k e _ => e)) ho (fun j hj => ?_) (by simp [blanks]) (by omega) (fun i t l h1 h2 => ?_)
  · exact ⟨hr.1, (Turn.of_ext he).trans hr.2⟩
  · rcases hv with e | e
    · exact h.oY j (by rw [← e]; exact hj)
    · rw [e] at hj
      injection hj with hj
      have := he.size
      exact hY j (by omega)
  rw [← blanks_snoc] at h2
  have hl : ts.length = (blanks k).length := by rw [h.lens]; simp [blanks]
  by_cases hi : i < ts.length
  · rw [List.getElem?_append_left hi] at h1
    rw [List.getElem?_append_left (by omega)] at h2
    exact h0.tl i t l h1 h2
  · rw [List.getElem?_append_right (by omega)] at h1 h2
    rw [← hl] at h2
    have h3 : i - ts.length = 0 := by have := (List.getElem?_eq_some_iff.1 h1).1; simp at this; omega
    rw [h3] at h1 h2
    simp at h1 h2
    subst h1 h2
    exact ⟨new_tl hb hbW, rep_len 0⟩
set_option maxRecDepth 100000 in
set_option maxHeartbeats 8000000 in
theorem new_any (z y : Int) (k0 : Nat) (W : World) (hz : max z 0 = y) (hk0 : min y 2000 = (k0 : Int)) : Calls Try.prog 11 #[.int .i64 z] W fun e w' => e = .returned (.pointer (some ⟨W.heap.size + 1, 0, none⟩)) ∧ Disk (Fr W) (Fr W) w' (W.heap.size + 1) 0 false (blanks k0) (fun _ => none) none ∧ Ext W w' := by
  obtain ⟨i0, hi0, iz0, iz1, iz2⟩ := info_parts Try.info22'
  have hmm := @run_makeMap Try.prog
  have hmk := made
  have hk2000 : k0 ≤ 2000 := by omega
  go_enter Try.func11, Try.ntmps11
  go_wp2_with (fail)
  have D0 := hide (show Dk (Fr W) (Fr W) ((W.alloc (.map #[] 0)).alloc (.cells #[.slice none 0 0, .map (some W.heap.size), .bool false, .pointer none] 66)) (W.heap.size + 1) (.slice none 0 0) W.heap.size none false 0 0 [] (blanks 0) (fun _ => none) (fun _ => none) none from
    ⟨blk2 _ _ _ _, World.ownsRow_nil _ _ _ _, (fun k hk => by simp [Value.ownBlock] at hk), rfl, (fun i t l h => by simp at h), (WasAt.new W).ext (Ext.new _ _), (fun x => rfl), (fun x v h => by cases h), (fun x h => by cases h), (show W.heap.size ≤ _ by omega), (Nat.le_refl W.heap.size), rfl⟩)
  clear hmm
  try rw [hz]
  try rw [hk0]
  clear hz hk0
  go_loopw [10] (fun s10 wr => (∃ k : Nat, k ≤ k0 ∧ s10 = .int .i64 k ∧ Hid (∃ vt ts, Ext W wr ∧ Dk (Fr W) (Fr W) wr (W.heap.size + 1) vt W.heap.size none false k 0 ts (blanks k) (fun _ => none) (fun _ => none) none))) (fun s10 _ => (k0 - intOf s10).toNat)
  case atStart => exact ⟨0, by omega, rfl, _, _, ((Ext.refl W).alloc _).alloc _, D0.out⟩
  case round =>
    obtain ⟨k, hk, rfl, hs⟩ := hrel
    obtain ⟨vt, ts, hxt, hd⟩ := hs.out
    have HXT := hide hxt
    clear hs hxt
    by_cases hlt : k < k0
    · obtain ⟨At, ct, hvt, _⟩ := own_form hd.own
      subst hvt
      have HD := hide hd
      have y0 := hd.blk.cell 0
      simp at y0
      have f0 := hd.blk.frozen 0
      have hgr : W.heap.size + 1 < wr.heap.size := hd.blk.lt
      have hng : (Value.slice At k ct).ownBlock ≠ some (W.heap.size + 1) := hd.gv
      have y0a : (wr.alloc (.cells (arr 0 64) 5)).cell? ⟨W.heap.size + 1, 0, none⟩ = some (.slice At k ct) := by have := ((Ext.new wr (.cells (arr 0 64) 5)).blk hd.blk).cell 0; simpa using this
      have y0b : ((wr.alloc (.cells (arr 0 64) 5)).alloc (.cells #[.slice (some ⟨wr.heap.size, 0, none⟩) 64 64] 22)).cell? ⟨W.heap.size + 1, 0, none⟩ = some (.slice At k ct) := by have := (((Ext.new wr (.cells (arr 0 64) 5)).alloc (.cells #[.slice (some ⟨wr.heap.size, 0, none⟩) 64 64] 22)).blk hd.blk).cell 0; simpa using this
      have HO := hide hd.own
      have HB := hide hd.blk
      have hWr : W.heap.size ≤ wr.heap.size := HXT.out.size
      clear hd
      go_wp2_with (fail)
      go_region_law (refine step_append_any _ rfl (.tmp 16) (.tmp 18) _ rfl 0 22 i0 _ 1 24 Try.underlying63 hi0 iz0 iz1 iz2 rfl (by omega) (.slice At k ct) k ts rfl (Ext.own (a := wr) (by (repeat (first | with_reducible exact Ext.refl _ | with_reducible refine Ext.drew ?_ | with_reducible refine Ext.alloc ?_ _))) HO.out) _ _ 1 1 [.slice (some ⟨wr.heap.size, 0, none⟩) 64 64] rfl (reads_blk (m := 1) (blk2 wr (.cells (arr 0 64) 5) 22 #[.slice (some ⟨wr.heap.size, 0, none⟩) 64 64]) rfl) (by simp [Value.oneCell']) (by unfold maxLen; omega) (by omega) (Nat.zero_le _) ?_; intro v1 w1 ho1 hg1 hat1; have HX := hide (show ∃ w0, Ext wr w0 ∧ Blk w0 wr.heap.size 5 (arr 0 64) ∧ w0.grownBy w1 (Value.slice At k ct).ownBlock ∧ (v1.ownBlock = (Value.slice At k ct).ownBlock ∨ v1.ownBlock = some w0.heap.size) from ⟨_, (by (repeat (first | with_reducible exact Ext.refl _ | with_reducible refine Ext.drew ?_ | with_reducible refine Ext.alloc ?_ _))), Ext.blk (a := wr.alloc (.cells (arr 0 64) 5)) (by (repeat (first | with_reducible exact Ext.refl _ | with_reducible refine Ext.drew ?_ | with_reducible refine Ext.alloc ?_ _))) (Blk.new wr 5 (arr 0 64)), hg1, hat1⟩); have B1 := Blk.grown (Ext.blk (a := wr) (by (repeat (first | with_reducible exact Ext.refl _ | with_reducible refine Ext.drew ?_ | with_reducible refine Ext.alloc ?_ _))) HB.out) hg1 (fun e => hng e.symm); have y1 := B1.cell 0; simp at y1; have f1 := B1.frozen 0; obtain ⟨A1, c1, hv1, _⟩ := own_form ho1; subst hv1; have HO1 := hide ho1; clear ho1 hg1 hat1 B1)
      all_goals
        obtain ⟨w0, x0, b0, g0, a0⟩ := HX.out
        have hn1 := hide (dk_grow HD.out x0 b0 hWr (fun k hk => Nat.le_trans hWr hk) HO1.out g0 a0)
        clear HX x0 b0 g0 a0
        go_wp2
        go_roundw
        case rel => exact ⟨k + 1, by omega, by go_num, _, _, hn1.out.2.ext HXT.out (fun k _ h => h), hn1.out.1⟩
        case measure => simp [intOf]; omega
    · obtain rfl : k = k0 := by omega
      have HF := hide (show Disk (Fr W) (Fr W) wr (W.heap.size + 1) 0 false (blanks k) (fun _ => none) none from ⟨vt, _, none, ts, _, by have := hd; rw [show (blanks k).length = k by simp [blanks]]; exact this⟩)
      clear hd
      go_wp2
      go_ret
      exact ⟨rfl, HF.out, HXT.out⟩
end Go.Proofs.Ytpbenpkgbhmldaa
