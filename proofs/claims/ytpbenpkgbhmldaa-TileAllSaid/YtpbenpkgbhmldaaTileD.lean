/- Tile: bytes of one kind; slices.Clone of bytes; a disk in memory; contracts: full, Clone, New. -/
import Derived.Test.YtpbenpkgbhmldaaTile
import Derived.RegionTactic
import Derived.BigRegion
import Derived.Deep.RegionLaw
import Derived.Outline
import Derived.Deep.OwnRows
namespace Go.Proofs.Ytpbenpkgbhmldaa
open Go.ChangeShapes Go.WideShapes Go.ChangeAt Go.RowKit Go.Maps
set_option linter.unusedVariables false

theorem Try.info5' : (Try.prog.info? 5).map (fun i => (i.zero, i.size, i.bytes)) = some (some (.int .u8 0), 1, 1) := by kernel_rfl
theorem Try.info22' : (Try.prog.info? 22).map (fun i => (i.zero, i.size, i.bytes)) = some (some (.slice none 0 0), 1, 24) := by kernel_rfl
theorem own_at {w : World} {base e n : Nat} {g c : Nat} {xs : List Value} (h : w.ownsRow base e 1 (.slice (some ⟨g, 0, none⟩) n c) n xs) (k : Nat) (u : Value) (hk : xs[k]? = some u) : w.cell? ⟨g, k, none⟩ = some u := by
  have := h.cells (g := g) rfl k u hk
  have e : (⟨g, 0, none⟩ : Addr).add k = ⟨g, k, none⟩ := by unfold Addr.add; split <;> simp_all
  rwa [e] at this
/-- slices.Clone of bytes -/
theorem clone_any (A : Option Addr) (c n : Nat) (l : List UInt8) (w : World) (hl0 : l.length = n) (hn : A = none → c = 0) (hr : Reads w w.heap.size 1 A n (bv l)) (hl : n ≤ 1048576) :
    Calls Try.prog 30 #[.slice A n c] w fun e w' => ∃ A' c', e = .returned (.slice A' n c') ∧ w'.ownsRow w.heap.size 5 1 (.slice A' n c') n (bv l) ∧ Ext w w' := by
  subst hl0
  obtain ⟨i0, hi0, hz0, hz1, hz2⟩ := info_parts Try.info5'
  have hq := fun w => Lib.run_eql_slice_nil (P := Try.prog) w 22 5
  rcases A with _ | ad
  · obtain ⟨h0, h1⟩ := no_elems hr
    obtain rfl : l = [] := List.eq_nil_of_length_eq_zero h0
    obtain rfl := hn rfl
    go_enter Try.func30, Try.ntmps30
    go_wp2
    go_ret
    exact ⟨none, 0, rfl, World.ownsRow_nil _ _ _ _, Ext.refl _⟩
  · have hown : (w.alloc (.cells #[] 5)).ownsRow w.heap.size 5 1 (.slice (some ⟨w.heap.size, 0, none⟩) 0 0) 0 [] := World.ownsRow_made w #[] 0 (Nat.le_refl _) (Nat.zero_le _) rfl
    have hr1 := hide (hr.alloc (Nat.le_refl _) (.cells #[] 5))
    have hown' := hide hown
    clear hr hown
    go_enter Try.func30, Try.ntmps30
    go_wp2_with (at_builtin; refine wpList_append_any _ rfl (.tmp 5) (.tmp 6) _ rfl w.heap.size 5 i0 _ 1 1 Try.underlying22 hi0 hz0 hz1 hz2 rfl (by omega) (.slice (some ⟨w.heap.size, 0, none⟩) 0 0) 0 [] rfl hown'.out w.heap.size (some ad) l.length c (bv l) rfl hr1.out (bv_one l) (by simp only [maxLen]; omega) (by omega) (by simp) ?_; intro v1 w1 hown1 hg1 hat1)
    go_ret
    rw [Nat.zero_add, List.nil_append] at hown1
    obtain ⟨A', c', rfl, _⟩ := own_form hown1
    exact ⟨A', c', rfl, hown1, Ext.grown (Ext.new w _) hg1 (fun k hk => by simp [Value.ownBlock] at hk; omega)⟩

/-! ### A block of one byte -/
def rep (c : UInt8) : List UInt8 := List.replicate 64 c
theorem rep_len (c : UInt8) : (rep c).length = 64 := by simp [rep]
def arr (c : Int) (k : Nat) : Array Value := (List.replicate k (Value.int .u8 c) ++ List.replicate (64 - k) (Value.int .u8 0)).toArray
theorem arr_set (c : Int) {k : Nat} (hk : k < 64) : (arr c k).setIfInBounds k (.int .u8 c) = arr c (k + 1) := by
  unfold arr
  rw [List.setIfInBounds_toArray]
  congr 1
  apply List.ext_getElem?
  intro i
  rw [List.getElem?_set]
  by_cases h1 : k = i
  · subst h1
    rw [if_pos rfl, if_pos (by simp; omega), List.getElem?_append_left (by simp), List.getElem?_replicate, if_pos (by omega)]
  · rw [if_neg h1]
    by_cases h2 : i < k
    · rw [List.getElem?_append_left (by simp; omega), List.getElem?_append_left (by simp; omega), List.getElem?_replicate, List.getElem?_replicate, if_pos h2, if_pos (by omega)]
    · rw [List.getElem?_append_right (by simp; omega), List.getElem?_append_right (by simp; omega)]
      rw [List.length_replicate, List.length_replicate, List.getElem?_replicate, List.getElem?_replicate]
      by_cases h3 : i < 64
      · rw [if_pos (by omega), if_pos (by omega)]
      · rw [if_neg (by omega), if_neg (by omega)]
theorem arr_some (c : Int) {k j : Nat} (hj : j < 64) (hk : k ≤ 64) : ∃ u, (arr c k)[j]? = some u := by
  unfold arr
  exact ⟨_, Array.getElem?_eq_getElem (by simp; omega)⟩
theorem own_of_blk {w : World} {B g : Nat} {t : TypeId} {cs : Array Value} {n : Nat} (h : Blk w g t cs) (hn : cs.size = n) (hB : B ≤ g) (hm : n ≤ maxLen) : w.ownsRow B t 1 (.slice (some ⟨g, 0, none⟩) n n) n cs.toList := by
  refine ⟨by simp [hn], .inr ⟨g, n, cs, rfl, hB, h, Nat.le_refl _, hm, by simp [hn], ?_⟩⟩
  rw [Nat.mul_one, List.take_of_length_le (by simp [hn])]
theorem made (w : World) : (Instr.makeSlice 22 (.int .i64 64) (.int .i64 64)).run Try.prog w = .ok (.slice (some ⟨w.heap.size, 0, none⟩) 64 64) (w.alloc (.cells (arr 0 64) 5)) := by
  have h := run_make_row' (P := Try.prog) 22 5 (.int .u8 0) 1 Try.underlying22 Try.info5' rfl .i64 .i64 64 (by omega) (by omega) w
  have e : arr 0 64 = madeCells #[.int .u8 0] 64 := by kernel_rfl
  rw [e]
  exact h
theorem arr_zero (c : Int) : arr 0 64 = arr c 0 := by unfold arr; simp
theorem arr_full (c : Nat) (hc : c < 256) : (arr c 64).toList = bv (rep (UInt8.ofNat c)) := by
  unfold arr bv rep
  simp [UInt8.toNat_ofNat']
  omega
set_option maxRecDepth 100000 in
theorem full_any (c : Nat) (w : World) (hc : c < 256) : Calls Try.prog 13 #[.int .u8 c] w fun e w' => ∃ b, e = .returned (.slice (some ⟨b, 0, none⟩) 64 64) ∧ Blk w' b 5 (arr c 64) ∧ b = w.heap.size ∧ Ext w w' := by
  have hmk := made
  go_enter Try.func13, Try.ntmps13
  go_wp2_with (fail)
  have K0 := hide (show Blk (w.alloc (.cells (arr 0 64) 5)) w.heap.size 5 (arr c 0) by rw [← arr_zero]; exact Blk.new _ _ _)
  have E0 := hide (Ext.new w (.cells (arr 0 64) 5))
  clear hmk
  go_loopw [4] (fun s4 wr => (∃ k : Nat, k ≤ 64 ∧ s4 = .int .i64 k ∧ Hid (Blk wr w.heap.size 5 (arr c k) ∧ Ext w wr))) (fun s4 _ => (64 - intOf s4).toNat)
  case atStart => exact ⟨0, by omega, rfl, K0.out, E0.out⟩
  case round =>
    obtain ⟨k, hk, rfl, hs⟩ := hrel
    have hlt0 := hs.out.1.lt
    by_cases hlt : k < 64
    · obtain ⟨u, hu⟩ := arr_some c hlt hk
      have y1 := (hs.out.1.cell k).trans hu
      have f1 := hs.out.1.frozen k
      have hn1 := hide (show Blk (wr.setCell ⟨w.heap.size, k, none⟩ (.int .u8 c)) w.heap.size 5 (arr c (k + 1)) by rw [← arr_set c hlt]; exact hs.out.1.set_ k _)
      have hn2 := hide (hs.out.2.set_ (p := ⟨w.heap.size, k, none⟩) (Nat.le_refl _) (.int .u8 c))
      clear hu
      go_wp2
      go_roundw
      case rel => exact ⟨k + 1, by omega, by go_num, hn1.out, hn2.out⟩
      case measure => simp [intOf]; omega
    · obtain rfl : k = 64 := by omega
      go_wp2
      go_ret
      exact ⟨_, rfl, hs.out.1, rfl, hs.out.2⟩
end Go.Proofs.Ytpbenpkgbhmldaa
