/- Lock: the reference's 'rise': a number in its order, once. -/
import Derived.Test.YtebflbpjmpmnjaaLockC
import Derived.RegionTactic
import Derived.BigRegion
import Derived.Deep.RegionLaw
import Derived.Outline
namespace Go.Proofs.Ytebflbpjmpmnjaa
open Go.ChangeShapes Go.WideShapes Go.ChangeAt Go.RowKit Go.Maps
set_option linter.unusedVariables false

def ins (n : Int) : List Int → List Int
  | [] => [n]
  | x :: r => if x < n then x :: ins n r else if x = n then x :: r else n :: x :: r
theorem ins_mem (n y : Int) : ∀ L, y ∈ ins n L ↔ y = n ∨ y ∈ L
  | [] => by simp [ins]
  | x :: r => by
    unfold ins
    have ih := ins_mem n y r
    split
    · simp only [List.mem_cons, ih]
      constructor
      · rintro (h | h | h) <;> simp [h]
      · rintro (h | h | h) <;> simp [h]
    · split
      · rename_i h; subst h; simp
      · simp
theorem ins_len (n : Int) : ∀ L, Rises L → ((ins n L).length = L.length ∧ n ∈ L) ∨ ((ins n L).length = L.length + 1 ∧ n ∉ L)
  | [], _ => by simp [ins]
  | x :: r, h => by
    have ih := ins_len n r (List.Pairwise.of_cons h)
    have hx : ∀ y ∈ r, x < y := fun y hy => (List.pairwise_cons.1 h).1 y hy
    unfold ins
    split
    · rename_i hlt
      rcases ih with ⟨h1, h2⟩ | ⟨h1, h2⟩
      · exact .inl ⟨by simp [h1], by simp [h2]⟩
      · refine .inr ⟨by simp [h1], ?_⟩
        simp
        exact ⟨by omega, h2⟩
    · split
      · rename_i e; subst e
        exact .inl ⟨rfl, by simp⟩
      · refine .inr ⟨by simp, ?_⟩
        simp
        refine ⟨by omega, fun hn => ?_⟩
        have := hx n hn
        omega
theorem ins_rises (n : Int) : ∀ L, Rises L → Rises (ins n L)
  | [], _ => by simp [ins, Rises]
  | x :: r, h => by
    have ih := ins_rises n r (List.Pairwise.of_cons h)
    have hx : ∀ y ∈ r, x < y := fun y hy => (List.pairwise_cons.1 h).1 y hy
    unfold ins
    split
    · rename_i hlt
      refine List.pairwise_cons.2 ⟨fun y hy => ?_, ih⟩
      rcases (ins_mem n y r).1 hy with rfl | hy
      · exact hlt
      · exact hx y hy
    · split
      · exact h
      · refine List.pairwise_cons.2 ⟨fun y hy => ?_, h⟩
        rcases List.mem_cons.1 hy with rfl | hy
        · omega
        · have := hx y hy; omega
theorem ins_at (n : Int) : ∀ (L : List Int) (k : Nat), (∀ i y, i < k → L[i]? = some y → y < n) → k ≤ L.length → (∀ y, L[k]? = some y → ¬ y < n) → ins n L = if L[k]? = some n then L else L.take k ++ ([n] ++ L.drop k)
  | [], k, _, hk, _ => by
    obtain rfl : k = 0 := by simpa using hk
    simp [ins]
  | x :: r, 0, _, _, h => by
    have h0 := h x rfl
    unfold ins
    rw [if_neg h0]
    simp
  | x :: r, k + 1, h, hk, h' => by
    have h0 := h 0 x (by omega) rfl
    have ih := ins_at n r k (fun i y hi hy => h (i + 1) y (by omega) (by simpa using hy)) (by simpa using hk) (fun y hy => h' y (by simpa using hy))
    unfold ins
    rw [if_pos h0, ih]
    simp only [List.getElem?_cons_succ]
    split <;> simp
def GivesRow (w : World) (L : List Int) (e : Ending) (w' : World) : Prop :=
  ∃ A c, e = .returned (.slice A L.length c) ∧ Reads w' w'.heap.size 1 A L.length (iv L) ∧ L.length ≤ c ∧ c ≤ maxLen ∧ (A = none → c = 0) ∧ Ext w w'
theorem reads_take {w : World} {B n k : Nat} {A : Option Addr} {L : List Int} (h : Reads w B 1 A n (iv L)) (hk : k ≤ n) : Reads w B 1 A k (iv (L.take k)) := by
  have hl : L.length = n := by simpa [iv] using h.1
  refine ⟨by simp [iv]; omega, fun hn => ?_⟩
  obtain ⟨ad, e, hb, hc⟩ := h.2 (by omega)
  refine ⟨ad, e, hb, fun j u hu => hc j u ?_⟩
  have : iv (L.take k) = (iv L).take k := by simp [iv, List.map_take]
  rw [this, List.getElem?_take] at hu
  split at hu
  · exact hu
  · cases hu
theorem rise_end {w w3 : World} {n k c3 m : Nat} {L : List Int} {x : Int} {A3 : Option Addr} (hn : L.length = n) (hk : k ≤ n) (ho : w3.ownsRow w.heap.size 3 1 (.slice A3 m c3) (k + 1 + (n - k)) (iv (L.take k) ++ [.int .i64 x] ++ iv (L.drop k))) (he : Ext w w3) : GivesRow w (L.take k ++ ([x] ++ L.drop k)) (.returned (.slice A3 m c3)) w3 := by
  have e1 : (L.take k ++ ([x] ++ L.drop k)).length = k + 1 + (n - k) := by simp; omega
  have e2 : iv (L.take k ++ ([x] ++ L.drop k)) = iv (L.take k) ++ [.int .i64 x] ++ iv (L.drop k) := by simp [iv]
  unfold GivesRow
  rw [e1, e2]
  obtain ⟨A, c, hv, h1, h2, h3⟩ := own_form ho
  injection hv with q1 q2 q3
  subst q1 q2 q3
  exact ⟨A3, c3, rfl, Reads.of_own ho, h2, h3.1, h1, he⟩
set_option maxRecDepth 100000 in
set_option maxHeartbeats 8000000 in
theorem rise_any (A : Option Addr) (c n : Nat) (L : List Int) (x : Int) (w : World) (hn : L.length = n) (hr : Reads w w.heap.size 1 A n (iv L)) (hc : n ≤ c) (hm : c ≤ maxLen) (hA : A = none → c = 0) (hl : n ≤ 1048576) :
    Calls Try.prog 29 #[.slice A n c, .int .i64 x] w (GivesRow w (ins x L)) := by
  obtain ⟨i0, hi0, iz0, iz1, iz2⟩ := info_parts Try.info3'
  have HR := hide hr
  have HN := hide hn
  have HA := hide hA
  have HM := hide hm
  clear hr hn hA
  unfold maxLen at hm
  go_enter Try.func29, Try.ntmps29
  go_wp2_with (fail)
  go_loop [5] (fun s5 => (∃ k : Nat, k ≤ n ∧ s5 = .int .i64 k ∧ Hid (∀ i y, i < k → L[i]? = some y → y < x))) (fun s5 => (n - intOf s5).toNat)
  case atStart => exact ⟨0, by omega, rfl, fun i y hi => absurd hi (by omega)⟩
  case round =>
    obtain ⟨k, hk, rfl, hs⟩ := hrel
    by_cases hlt : k < n
    · obtain ⟨b, off, hAe, hbw, hcell⟩ := HR.out.plain (by omega) (by omega)
      subst hAe
      have hkl : k < L.length := by have := HN.out; omega
      obtain ⟨y, hy⟩ : ∃ y, L[k]? = some y := ⟨_, List.getElem?_eq_getElem hkl⟩
      have g0 := hcell k (.int .i64 y) (by simp [iv, hy])
      have HY := hide hy
      clear hcell hkl hy
      by_cases hyx : y < x
      · have hn1 : Hid (∀ i y, i < k + 1 → L[i]? = some y → y < x) := fun i z hi hz => by
          by_cases e : i = k
          · subst e
            rw [HY.out] at hz
            injection hz with hz
            omega
          · exact hs.out i z (by omega) hz
        clear hs
        go_wp2
        go_round
        case rel => exact ⟨k + 1, by omega, by go_num, hn1.out⟩
        case measure => simp [intOf]; omega
      · have hat := hide (ins_at x L k hs.out (by have := HN.out; omega) (fun z hz => by rw [HY.out] at hz; injection hz with hz; omega))
        by_cases hyx' : y = x
        · subst hyx'
          have e1 := hide (show ins y L = L by have := hat.out; rw [if_pos HY.out] at this; exact this)
          clear hat hs
          go_wp2
          go_ret
          rw [e1.out]
          exact ⟨_, c, by rw [HN.out]; exact rfl, by rw [HN.out]; exact HR.out, by rw [HN.out]; exact hc, HM.out, HA.out, Ext.refl _⟩
        · have e1 := hide (show ins x L = L.take k ++ ([x] ++ L.drop k) by have := hat.out; rw [if_neg (by rw [HY.out]; intro h; injection h with h; exact hyx' h)] at this; exact this)
          have hyx2 : ¬ y < x := hyx
          clear hat hs
          have hcut := HR.out.cut (k := k) (cap := c) (by omega) hc
          rw [if_neg (by omega)] at hcut
          have RD := hide (show Reads w w.heap.size 1 (some ⟨b, off + k, none⟩) (n - k) (iv (L.drop k)) by
            have e : (⟨b, off, none⟩ : Addr).add (k * 1) = ⟨b, off + k, none⟩ := by unfold Addr.add; split <;> simp_all
            rw [Option.map_some, e] at hcut
            simpa [iv, List.map_drop] using hcut)
          have RT := hide (reads_take HR.out (k := k) (by omega))
          clear hcut
          have hkc : k ≤ c := by omega
          have hck : ¬ c = k := by omega
          go_wp2_with (fail)
          go_region_law (first
            | (refine step_append_any _ rfl (.tmp 33) (.tmp 36) _ rfl w.heap.size 3 i0 _ 1 8 Try.underlying25 hi0 iz0 iz1 iz2 rfl (by omega) (.slice (some ⟨_, 0, none⟩) 0 0) 0 [] rfl (by first | exact World.ownsRow_made w #[] 0 (Nat.le_refl _) (Nat.zero_le _) rfl | exact (World.ownsRow_made w #[] 0 (Nat.le_refl _) (Nat.zero_le _) rfl).alloc _ | (have h := World.ownsRow_made (base := w.heap.size) (e := 3) (size := 1) (w.alloc (.cells #[.int .i64 x] 3)) #[] 0 (by simp) (Nat.zero_le _) rfl; have e : (w.alloc (.cells #[.int .i64 x] 3)).heap.size = w.heap.size + 1 := (by simp); rw [e] at h; exact h)) w.heap.size _ k c (iv (L.take k)) rfl (Ext.reads (a := w) (by (repeat (first | with_reducible exact Ext.refl _ | with_reducible refine Ext.drew ?_ | with_reducible refine Ext.alloc ?_ _))) RT.out (Nat.le_refl _)) (iv_one _) (by unfold maxLen; omega) (by omega) (by simp; try omega) ?_; intro v1 w1 ho1 hg1 hat1; rw [Nat.zero_add, List.nil_append] at ho1; have E1 := hide (Ext.grown (a := w) (by (repeat (first | with_reducible exact Ext.refl _ | with_reducible refine Ext.drew ?_ | with_reducible refine Ext.alloc ?_ _))) hg1 (fun z hz => by simp [Value.ownBlock] at hz; omega)); (first | (have KX := hide (show Blk w1 (w.heap.size + 1) 3 #[.int .i64 x] from (by have h := Blk.grown (Blk.drew (Blk.new (w.alloc (.cells #[] 3)) 3 #[.int .i64 x])) hg1 (by simp [Value.ownBlock]); have e : (w.alloc (.cells #[] 3)).heap.size = w.heap.size + 1 := (by simp); rw [e] at h; exact h))) | (have KX := hide (Blk.grown (Blk.drew (Blk.alloc (Blk.new w 3 #[.int .i64 x]) (.cells #[] 3))) hg1 (by simp [Value.ownBlock]))) | skip); obtain ⟨A1, c1, hv1, _⟩ := own_form ho1; subst hv1; have O1 := hide ho1; clear ho1 hg1 hat1)
            | (refine step_append_any _ rfl (.tmp 37) (.tmp 39) _ rfl w.heap.size 3 i0 _ 1 8 Try.underlying25 hi0 iz0 iz1 iz2 rfl (by omega) (.slice A1 k c1) k (iv (L.take k)) rfl (by first | exact O1.out | exact O1.out.alloc _) _ _ 1 1 [.int .i64 x] rfl (by first | exact reads_blk (m := 1) KX.out rfl | exact reads_blk (m := 1) (Blk.new w1 3 #[.int .i64 x]) rfl) (by simp [Value.oneCell']) (by unfold maxLen; omega) (by omega) (by have := E1.out.size; simp; try omega) ?_; intro v2 w2 ho2 hg2 hat2; have E2 := hide (Ext.grown (a := w) (b := _) (E1.out.trans (by (repeat (first | with_reducible exact Ext.refl _ | with_reducible refine Ext.drew ?_ | with_reducible refine Ext.alloc ?_ _)))) hg2 (fun z hz => (O1.out.lt z hz).1)); obtain ⟨A2, c2, hv2, _⟩ := own_form ho2; subst hv2; have O2 := hide ho2; clear ho2 hg2 hat2)
            | (refine step_append_any _ rfl (.tmp 40) (.tmp 43) _ rfl w.heap.size 3 i0 _ 1 8 Try.underlying25 hi0 iz0 iz1 iz2 rfl (by omega) (.slice A2 (k + 1) c2) (k + 1) (iv (L.take k) ++ [.int .i64 x]) rfl O2.out w.heap.size _ (n - k) (c - k) (iv (L.drop k)) rfl (Ext.reads E2.out RD.out (Nat.le_refl _)) (iv_one _) (by unfold maxLen; omega) (by omega) E2.out.size ?_; intro v3 w3 ho3 hg3 hat3; have E3 := hide (Ext.grown (a := w) E2.out hg3 (fun z hz => (O2.out.lt z hz).1)); obtain ⟨A3, c3, hv3, _⟩ := own_form ho3; subst hv3; have O3 := hide ho3; clear ho3 hg3 hat3))
          all_goals
            go_wp2_with (fail)
            go_ret
            rw [e1.out]
            exact rise_end HN.out (by omega) O3.out E3.out
    · obtain rfl : k = n := by omega
      have hkL : L.length = k := HN.out
      have e1 := hide (show ins x L = L.take k ++ ([x] ++ L.drop k) by
        have := ins_at x L k hs.out (by omega) (fun z hz => by rw [List.getElem?_eq_none (by omega)] at hz; cases hz)
        rw [if_neg (by rw [List.getElem?_eq_none (by omega)]; intro h; cases h)] at this
        exact this)
      have RT := hide (reads_take HR.out (k := k) (Nat.le_refl _))
      have RD : Hid (∀ A', Reads w w.heap.size 1 A' 0 (iv (L.drop k))) := fun A' => ⟨by rw [List.drop_eq_nil_of_le (by omega)]; rfl, fun h => absurd h (by omega)⟩
      have hkc : k ≤ c := by omega
      clear hs hkL
      by_cases hck : c = k
      · have hck' := hck.symm
        subst hck'
        go_wp2_with (fail)
        go_region_law (first
          | (refine step_append_any _ rfl (.tmp 33) (.tmp 36) _ rfl w.heap.size 3 i0 _ 1 8 Try.underlying25 hi0 iz0 iz1 iz2 rfl (by omega) (.slice (some ⟨_, 0, none⟩) 0 0) 0 [] rfl (by first | exact World.ownsRow_made w #[] 0 (Nat.le_refl _) (Nat.zero_le _) rfl | exact (World.ownsRow_made w #[] 0 (Nat.le_refl _) (Nat.zero_le _) rfl).alloc _ | (have h := World.ownsRow_made (base := w.heap.size) (e := 3) (size := 1) (w.alloc (.cells #[.int .i64 x] 3)) #[] 0 (by simp) (Nat.zero_le _) rfl; have e : (w.alloc (.cells #[.int .i64 x] 3)).heap.size = w.heap.size + 1 := (by simp); rw [e] at h; exact h)) w.heap.size _ k k (iv (L.take k)) rfl (Ext.reads (a := w) (by (repeat (first | with_reducible exact Ext.refl _ | with_reducible refine Ext.drew ?_ | with_reducible refine Ext.alloc ?_ _))) RT.out (Nat.le_refl _)) (iv_one _) (by unfold maxLen; omega) (by omega) (by simp; try omega) ?_; intro v1 w1 ho1 hg1 hat1; rw [Nat.zero_add, List.nil_append] at ho1; have E1 := hide (Ext.grown (a := w) (by (repeat (first | with_reducible exact Ext.refl _ | with_reducible refine Ext.drew ?_ | with_reducible refine Ext.alloc ?_ _))) hg1 (fun z hz => by simp [Value.ownBlock] at hz; omega)); (first | (have KX := hide (show Blk w1 (w.heap.size + 1) 3 #[.int .i64 x] from (by have h := Blk.grown (Blk.drew (Blk.new (w.alloc (.cells #[] 3)) 3 #[.int .i64 x])) hg1 (by simp [Value.ownBlock]); have e : (w.alloc (.cells #[] 3)).heap.size = w.heap.size + 1 := (by simp); rw [e] at h; exact h))) | (have KX := hide (Blk.grown (Blk.drew (Blk.alloc (Blk.new w 3 #[.int .i64 x]) (.cells #[] 3))) hg1 (by simp [Value.ownBlock]))) | skip); obtain ⟨A1, c1, hv1, _⟩ := own_form ho1; subst hv1; have O1 := hide ho1; clear ho1 hg1 hat1)
          | (refine step_append_any _ rfl (.tmp 37) (.tmp 39) _ rfl w.heap.size 3 i0 _ 1 8 Try.underlying25 hi0 iz0 iz1 iz2 rfl (by omega) (.slice A1 k c1) k (iv (L.take k)) rfl (by first | exact O1.out | exact O1.out.alloc _) _ _ 1 1 [.int .i64 x] rfl (by first | exact reads_blk (m := 1) KX.out rfl | exact reads_blk (m := 1) (Blk.new w1 3 #[.int .i64 x]) rfl) (by simp [Value.oneCell']) (by unfold maxLen; omega) (by omega) (by have := E1.out.size; simp; try omega) ?_; intro v2 w2 ho2 hg2 hat2; have E2 := hide (Ext.grown (a := w) (b := _) (E1.out.trans (by (repeat (first | with_reducible exact Ext.refl _ | with_reducible refine Ext.drew ?_ | with_reducible refine Ext.alloc ?_ _)))) hg2 (fun z hz => (O1.out.lt z hz).1)); obtain ⟨A2, c2, hv2, _⟩ := own_form ho2; subst hv2; have O2 := hide ho2; clear ho2 hg2 hat2)
          | (refine step_append_any _ rfl (.tmp 40) (.tmp 43) _ rfl w.heap.size 3 i0 _ 1 8 Try.underlying25 hi0 iz0 iz1 iz2 rfl (by omega) (.slice A2 (k + 1) c2) (k + 1) (iv (L.take k) ++ [.int .i64 x]) rfl O2.out w.heap.size _ 0 _ (iv (L.drop k)) rfl (Ext.reads E2.out (RD.out _) (Nat.le_refl _)) (iv_one _) (by unfold maxLen; omega) (by omega) E2.out.size ?_; intro v3 w3 ho3 hg3 hat3; have E3 := hide (Ext.grown (a := w) E2.out hg3 (fun z hz => (O2.out.lt z hz).1)); obtain ⟨A3, c3, hv3, _⟩ := own_form ho3; subst hv3; have O3 := hide ho3; clear ho3 hg3 hat3))
        all_goals
          go_wp2_with (fail)
          go_ret
          rw [e1.out]
          exact rise_end (n := k) (k := k) HN.out (Nat.le_refl _) (by rw [Nat.sub_self]; exact O3.out) E3.out

      · obtain ⟨ad, rfl⟩ : ∃ ad, A = some ad := by
          cases A with
          | none => have := HA.out rfl; omega
          | some ad => exact ⟨ad, rfl⟩
        go_wp2_with (fail)
        go_region_law (first
          | (refine step_append_any _ rfl (.tmp 33) (.tmp 36) _ rfl w.heap.size 3 i0 _ 1 8 Try.underlying25 hi0 iz0 iz1 iz2 rfl (by omega) (.slice (some ⟨_, 0, none⟩) 0 0) 0 [] rfl (by first | exact World.ownsRow_made w #[] 0 (Nat.le_refl _) (Nat.zero_le _) rfl | exact (World.ownsRow_made w #[] 0 (Nat.le_refl _) (Nat.zero_le _) rfl).alloc _ | (have h := World.ownsRow_made (base := w.heap.size) (e := 3) (size := 1) (w.alloc (.cells #[.int .i64 x] 3)) #[] 0 (by simp) (Nat.zero_le _) rfl; have e : (w.alloc (.cells #[.int .i64 x] 3)).heap.size = w.heap.size + 1 := (by simp); rw [e] at h; exact h)) w.heap.size _ k c (iv (L.take k)) rfl (Ext.reads (a := w) (by (repeat (first | with_reducible exact Ext.refl _ | with_reducible refine Ext.drew ?_ | with_reducible refine Ext.alloc ?_ _))) RT.out (Nat.le_refl _)) (iv_one _) (by unfold maxLen; omega) (by omega) (by simp; try omega) ?_; intro v1 w1 ho1 hg1 hat1; rw [Nat.zero_add, List.nil_append] at ho1; have E1 := hide (Ext.grown (a := w) (by (repeat (first | with_reducible exact Ext.refl _ | with_reducible refine Ext.drew ?_ | with_reducible refine Ext.alloc ?_ _))) hg1 (fun z hz => by simp [Value.ownBlock] at hz; omega)); (first | (have KX := hide (show Blk w1 (w.heap.size + 1) 3 #[.int .i64 x] from (by have h := Blk.grown (Blk.drew (Blk.new (w.alloc (.cells #[] 3)) 3 #[.int .i64 x])) hg1 (by simp [Value.ownBlock]); have e : (w.alloc (.cells #[] 3)).heap.size = w.heap.size + 1 := (by simp); rw [e] at h; exact h))) | (have KX := hide (Blk.grown (Blk.drew (Blk.alloc (Blk.new w 3 #[.int .i64 x]) (.cells #[] 3))) hg1 (by simp [Value.ownBlock]))) | skip); obtain ⟨A1, c1, hv1, _⟩ := own_form ho1; subst hv1; have O1 := hide ho1; clear ho1 hg1 hat1)
          | (refine step_append_any _ rfl (.tmp 37) (.tmp 39) _ rfl w.heap.size 3 i0 _ 1 8 Try.underlying25 hi0 iz0 iz1 iz2 rfl (by omega) (.slice A1 k c1) k (iv (L.take k)) rfl (by first | exact O1.out | exact O1.out.alloc _) _ _ 1 1 [.int .i64 x] rfl (by first | exact reads_blk (m := 1) KX.out rfl | exact reads_blk (m := 1) (Blk.new w1 3 #[.int .i64 x]) rfl) (by simp [Value.oneCell']) (by unfold maxLen; omega) (by omega) (by have := E1.out.size; simp; try omega) ?_; intro v2 w2 ho2 hg2 hat2; have E2 := hide (Ext.grown (a := w) (b := _) (E1.out.trans (by (repeat (first | with_reducible exact Ext.refl _ | with_reducible refine Ext.drew ?_ | with_reducible refine Ext.alloc ?_ _)))) hg2 (fun z hz => (O1.out.lt z hz).1)); obtain ⟨A2, c2, hv2, _⟩ := own_form ho2; subst hv2; have O2 := hide ho2; clear ho2 hg2 hat2)
          | (refine step_append_any _ rfl (.tmp 40) (.tmp 43) _ rfl w.heap.size 3 i0 _ 1 8 Try.underlying25 hi0 iz0 iz1 iz2 rfl (by omega) (.slice A2 (k + 1) c2) (k + 1) (iv (L.take k) ++ [.int .i64 x]) rfl O2.out w.heap.size _ 0 _ (iv (L.drop k)) rfl (Ext.reads E2.out (RD.out _) (Nat.le_refl _)) (iv_one _) (by unfold maxLen; omega) (by omega) E2.out.size ?_; intro v3 w3 ho3 hg3 hat3; have E3 := hide (Ext.grown (a := w) E2.out hg3 (fun z hz => (O2.out.lt z hz).1)); obtain ⟨A3, c3, hv3, _⟩ := own_form ho3; subst hv3; have O3 := hide ho3; clear ho3 hg3 hat3))
        all_goals
          go_wp2_with (fail)
          go_ret
          rw [e1.out]
          exact rise_end (n := k) (k := k) HN.out (Nat.le_refl _) (by rw [Nat.sub_self]; exact O3.out) E3.out

end Go.Proofs.Ytebflbpjmpmnjaa
