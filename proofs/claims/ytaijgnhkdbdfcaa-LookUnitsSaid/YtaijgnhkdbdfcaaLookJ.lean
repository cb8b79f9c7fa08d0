/- Look: the pages that an entry touches, each once. -/
import Derived.Test.YtaijgnhkdbdfcaaLookA
import Derived.Test.YtaijgnhkdbdfcaaShelf
import Derived.Lib.OwnBridge
namespace Go.Proofs.Ytaijgnhkdbdfcaa
open Go.ChangeShapes Go.WideShapes Go.ChangeAt Go.RowKit Go.Sort Go.Lib
set_option linter.unusedVariables false

/-- rising lists of the same numbers are one -/
theorem rising_eq : ∀ (a b : List Int), a.Pairwise (· < ·) → b.Pairwise (· < ·) → (∀ x, x ∈ a ↔ x ∈ b) → a = b
  | [], [], _, _, _ => rfl
  | [], y :: b, _, _, h => absurd ((h y).2 List.mem_cons_self) (by simp)
  | x :: a, [], _, _, h => absurd ((h x).1 List.mem_cons_self) (by simp)
  | x :: a, y :: b, ha, hb, h => by
    rw [List.pairwise_cons] at ha hb
    have hxy : x = y := by
      rcases List.mem_cons.1 ((h x).1 List.mem_cons_self) with e | e
      · exact e
      · rcases List.mem_cons.1 ((h y).2 List.mem_cons_self) with e' | e'
        · exact e'.symm
        · have h1 := ha.1 y e'
          have h2 := hb.1 x e
          omega
    subst hxy
    rw [rising_eq a b ha.2 hb.2 (fun z => ⟨fun hz => by
      rcases List.mem_cons.1 ((h z).1 (List.mem_cons_of_mem _ hz)) with e | e
      · have := ha.1 z hz; omega
      · exact e, fun hz => by
      rcases List.mem_cons.1 ((h z).2 (List.mem_cons_of_mem _ hz)) with e | e
      · have := hb.1 z hz; omega
      · exact e⟩)]
/-- a number that is out of the pages -/
def outP (x : Int) : Bool := decide (x < 0) || decide (32 ≤ x)
/-- the pages among the numbers, rising, each once -/
def pagesOf (L : List Int) : List Int := ((List.range 32).map Int.ofNat).filter (fun n => decide (n ∈ L))
theorem pagesOf_rising (L : List Int) : (pagesOf L).Pairwise (· < ·) := by
  unfold pagesOf
  exact List.Pairwise.filter _ (by decide)
theorem mem_pagesOf {L : List Int} {x : Int} : x ∈ pagesOf L ↔ x ∈ L ∧ 0 ≤ x ∧ x < 32 := by
  simp only [pagesOf, List.mem_filter, List.mem_map, List.mem_range, decide_eq_true_eq]
  constructor
  · rintro ⟨⟨n, hn, rfl⟩, h⟩
    exact ⟨h, Int.natCast_nonneg n, by show (n : Int) < 32; omega⟩
  · rintro ⟨h, h0, h1⟩
    exact ⟨⟨x.toNat, by omega, by show ((x.toNat : Nat) : Int) = x; omega⟩, h⟩
theorem get_rising {L : List Int} (h : L.Pairwise (· ≤ ·)) {i j : Nat} (hij : i ≤ j) (hj : j < L.length) : L.toArray[i]! ≤ L.toArray[j]! := by
  rw [getElem!_pos _ i (by simpa using (by omega : i < L.length)), getElem!_pos _ j (by simpa using hj)]
  rcases Nat.lt_or_ge i j with h' | h'
  · exact List.pairwise_iff_getElem.1 h i j (by omega) hj h'
  · obtain rfl : i = j := by omega
    exact Int.le_refl _
theorem compact_rising {L : List Int} (h : L.Pairwise (· ≤ ·)) : (Lib.compact L).Pairwise (· < ·) := by
  unfold Lib.compact Lib.compactUpTo
  rw [List.pairwise_map]
  refine List.Pairwise.imp_of_mem ?_ (List.Pairwise.filter (Lib.keeps L.toArray) (List.pairwise_lt_range (n := L.length)))
  intro a b ha hb hab
  rw [List.mem_filter, List.mem_range] at ha hb
  have hk := hb.2
  simp only [Lib.keeps, decide_eq_true_eq] at hk
  have h1 := get_rising h (i := a) (j := b - 1) (by omega) (by omega)
  have h2 := get_rising h (i := b - 1) (j := b) (by omega) hb.1
  have h3 : L.toArray[b]! ≠ L.toArray[b - 1]! := hk.resolve_left (by omega)
  omega
theorem mem_compact {L : List Int} (x : Int) : x ∈ Lib.compact L ↔ x ∈ L := by
  have aux : ∀ j, j < L.length → L.toArray[j]! ∈ Lib.compact L := by
    intro j
    induction j with
    | zero => intro hj; exact List.mem_map.2 ⟨0, List.mem_filter.2 ⟨List.mem_range.2 hj, by simp [Lib.keeps]⟩, rfl⟩
    | succ j ih =>
      intro hj
      by_cases e : L.toArray[j + 1]! = L.toArray[j]!
      · rw [e]; exact ih (by omega)
      · exact List.mem_map.2 ⟨j + 1, List.mem_filter.2 ⟨List.mem_range.2 hj, by simp [Lib.keeps]; simpa using e⟩, rfl⟩
  constructor
  · intro h
    obtain ⟨j, hj, rfl⟩ := List.mem_map.1 h
    have hj' := List.mem_range.1 (List.mem_filter.1 hj).1
    rw [getElem!_pos _ j (by simpa using hj')]
    simp
  · intro h
    obtain ⟨j, hj, e⟩ := List.mem_iff_getElem.1 h
    have := aux j hj
    rw [getElem!_pos _ j (by simpa using hj)] at this
    simpa [e] using this
theorem pagesOf_eq (L : List Int) : Lib.compact ((L.filter fun x => !outP x).mergeSort fun x y => decide (x ≤ y)) = pagesOf L := by
  refine rising_eq _ _ (compact_rising ?_) (pagesOf_rising L) (fun x => ?_)
  · have := List.pairwise_mergeSort (le := fun x y : Int => decide (x ≤ y)) (fun a b c => by simp; omega) (fun a b => by simp; omega) (L.filter fun x => !outP x)
    exact this.imp (fun h => by simpa using h)
  · rw [mem_compact, List.mem_mergeSort, List.mem_filter, mem_pagesOf]
    simp [outP]
theorem enc_iv (L : List Int) : L.map (Value.int .i64) = iv L := rfl
theorem ext_grow (w : World) (os : Array Obj) : Ext w (grow w os) := ⟨rfl, rfl, rfl, by rw [size_grow]; omega, fun _ hj => heap_grow_old w os hj⟩
set_option maxRecDepth 100000 in
theorem gives26 (x : Int) (W : World) : FnGives Try.prog 38 #[] #[.int .i64 x] (.bool (outP x)) W := by
  show Calls Try.prog 38 #[.int .i64 x] W _
  have hb : outP x = (decide (x < 0) || decide (32 ≤ x)) := rfl
  have HB := hide hb
  clear hb
  by_cases h0 : x < 0
  · have d0 : decide (x < 0) = true := decide_eq_true h0
    clear h0
    go_enter Try.func38, Try.ntmps38
    go_wp2_with (fail)
    go_ret
    exact ⟨by rw [HB.out, d0]; rfl, 0, rfl⟩
  · have d0 : decide (x < 0) = false := decide_eq_false h0
    clear h0
    go_enter Try.func38, Try.ntmps38
    go_wp2_with (fail)
    go_ret
    exact ⟨by rw [HB.out, d0]; rfl, 0, rfl⟩
/-- a list owned becomes another one -/
def TurnsI (w : World) (base : Nat) (A : Option Addr) (c : Nat) (L : List Int) (w' : World) : Prop := w'.ownsRow base 3 1 (.slice A L.length c) L.length (iv L) ∧ Below base w w'
theorem form_I {w : World} {base : Nat} {A : Option Addr} {c : Nat} {L : List Int} (h : w.ownsRow base 3 1 (.slice A L.length c) L.length (iv L)) : (A = none ∧ c = 0 ∧ L = []) ∨ ∃ g, A = some ⟨g, 0, none⟩ ∧ base ≤ g ∧ g < w.heap.size ∧ L.length ≤ c ∧ Holds (Value.int .i64) w g 0 L.toArray := by
  by_cases e : (Value.slice A L.length c) = .slice none 0 0
  · injection e with e1 e2 e3
    exact .inl ⟨e1, e3, List.eq_nil_of_length_eq_zero e2⟩
  · obtain ⟨g, cap, e0, hb, hlt, hn, hm, hl, hH⟩ := Lib.holds_of_ownsRow (enc := Value.int .i64) (zs := L) h e
    injection e0 with e1 _ e3
    subst e3
    exact .inr ⟨g, e1, hb, hlt, hn, hH⟩
theorem del_own (w : World) (base : Nat) (A : Option Addr) (c : Nat) (L : List Int) (h : w.ownsRow base 3 1 (.slice A L.length c) L.length (iv L)) (hb : base ≤ w.heap.size) (hl : L.length ≤ 2000) :
    Calls Try.prog 36 #[.slice A L.length c, .func (.func 38) #[] #[]] w fun e w' => e = .returned (.slice A (L.filter fun x => !outP x).length c) ∧ TurnsI w base A c (L.filter fun x => !outP x) w' := by
  rcases form_I h with ⟨rfl, rfl, rfl⟩ | ⟨g, rfl, hbg, hlt, hc, hH⟩
  · have hE := hide (fun (w : World) => Try.slices_IndexFunc_empty (α := Int) none 0 (.func (.func 38) #[] #[]) w)
    have HO := hide h
    clear h
    simp only [List.filter_nil, List.length_nil] at HO ⊢
    go_enter Try.func36, Try.ntmps36
    go_wp2_with (go_at_call 44; refine (hE.out _).mono ?_; rintro e w' ⟨rfl, rfl⟩)
    go_ret
    exact ⟨rfl, HO.out, Below.refl _ _⟩
  · have eg : ∀ args w, (callFunc 38 args).run Try.prog w = .ok (.enter 38 args) w := enters_of Try.func38 (by kernel_rfl) rfl
    have hcon := Try.slices_DeleteFunc (Value.int .i64) (fun _ => rfl) outP 38 #[] eg 0 Try.zeroValue3 g 0 c L.toArray w (fun W x _ => gives26 x W) (fun n os dk x _ => gives26 x _) hH (by simp; omega) (by simpa using hc)
    refine hcon.mono ?_
    rintro e w' ⟨rfl, q, rfl⟩
    refine ⟨rfl, ?_, Lib.below_putRow (Below.refl _ _) hbg⟩
    have hf : (L.filter fun x => !outP x).length ≤ L.length := List.length_filter_le _ _
    have := Lib.ownsRow_putRow (enc := Value.int .i64) (q := q) (k := (L.filter fun x => !outP x).length) (ys := (L.filter fun x => !outP x) ++ List.replicate (L.length - (L.filter fun x => !outP x).length) 0) h (by simp; omega) hf
    rw [List.take_left] at this
    exact this
theorem sort_own (w : World) (base : Nat) (A : Option Addr) (c : Nat) (L : List Int) (h : w.ownsRow base 3 1 (.slice A L.length c) L.length (iv L)) (hb : base ≤ w.heap.size) (hl : L.length ≤ 2000) :
    Calls Try.prog 39 #[.slice A L.length c] w fun e w' => e = .returned (.tuple #[]) ∧ TurnsI w base A c (L.mergeSort fun x y => decide (x ≤ y)) w' := by
  rcases form_I h with ⟨rfl, rfl, rfl⟩ | ⟨g, rfl, hbg, hlt, hc, hH⟩
  · refine (Try.slices_Sort_int_none none 0 w).mono ?_
    rintro e w' ⟨rfl, rfl⟩
    exact ⟨rfl, by simpa using h, Below.refl _ _⟩
  · refine (Try.slices_Sort_int g 0 c L w hH hlt (by omega)).mono ?_
    rintro e w' ⟨rfl, n, os, rfl⟩
    have hs : (L.mergeSort fun x y => decide (x ≤ y)).length = L.length := List.length_mergeSort _
    have h1 := Lib.ownsRow_putRow (enc := Value.int .i64) (q := n) (k := L.length) (ys := L.mergeSort fun x y => decide (x ≤ y)) h hs (Nat.le_refl _)
    rw [List.take_of_length_le (by rw [hs]; exact Nat.le_refl _)] at h1
    refine ⟨rfl, ?_, ?_⟩
    · rw [hs]; exact Ext.own (ext_grow _ os) h1
    · exact (Lib.below_putRow (Below.refl _ _) hbg).trans (Below.mono (ext_grow _ os) (by rw [size_putRow]; exact hb))
theorem compact_own (w : World) (base : Nat) (A : Option Addr) (c : Nat) (L : List Int) (h : w.ownsRow base 3 1 (.slice A L.length c) L.length (iv L)) (hb : base ≤ w.heap.size) (hl : L.length ≤ 2000) :
    Calls Try.prog 40 #[.slice A L.length c] w fun e w' => e = .returned (.slice A (Lib.compact L).length c) ∧ TurnsI w base A c (Lib.compact L) w' := by
  rcases form_I h with ⟨rfl, rfl, rfl⟩ | ⟨g, rfl, hbg, hlt, hc, hH⟩
  · refine (Try.slices_Compact_int_empty none 0 w).mono ?_
    rintro e w' ⟨rfl, rfl⟩
    exact ⟨rfl, by simpa [Lib.compact, Lib.compactUpTo] using h, Below.refl _ _⟩
  · refine (Try.slices_Compact_int g 0 c L w hH (by omega) hc).mono ?_
    rintro e w' ⟨rfl, q, rfl⟩
    have hf : (Lib.compact L).length ≤ L.length := by
      have h1 : ((List.range L.length).filter (Lib.keeps L.toArray)).length ≤ (List.range L.length).length := List.length_filter_le _ _
      simpa [Lib.compact, Lib.compactUpTo] using h1
    have h1 := Lib.ownsRow_putRow (enc := Value.int .i64) (q := q) (k := (Lib.compact L).length) (ys := Lib.compact L ++ List.replicate (L.length - (Lib.compact L).length) 0) h (by simp; omega) hf
    rw [List.take_left] at h1
    exact ⟨rfl, h1, Lib.below_putRow (Below.refl _ _) hbg⟩
theorem own_lower {w : World} {b b' e m n : Nat} {v : Value} {xs : List Value} (h : w.ownsRow b e m v n xs) (hb : b' ≤ b) : w.ownsRow b' e m v n xs := by
  rcases h with ⟨h1, h2 | ⟨g, cap, cur, e1, e2, e3⟩⟩
  · exact ⟨h1, .inl h2⟩
  · exact ⟨h1, .inr ⟨g, cap, cur, e1, Nat.le_trans hb e2, e3⟩⟩
/-- numbers told -/
def GivesN (w : World) (L : List Int) (e : Ending) (w' : World) : Prop := ∃ A c, e = .returned (.slice A L.length c) ∧ w'.ownsRow w.heap.size 3 1 (.slice A L.length c) L.length (iv L) ∧ Ext w w'
set_option maxRecDepth 100000 in
set_option maxHeartbeats 4000000 in
theorem pages_any (kind a0 a1 b0 b1 t u h p n : Int) (A11 : Option Addr) (n11 c11 : Nat) (A10 : Option Addr) (n10 c10 : Nat) (A12 A13 A14 A15 : Option Addr) (c12 n13 c13 n14 c14 n15 c15 : Nat) (mv : List Mv) (w : World) (hr : Reads w w.heap.size 4 A12 mv.length (mvs mv)) (hl : mv.length ≤ 1000) :
    Calls Try.prog 30 #[env kind a0 a1 b0 b1 t u h p n (.slice A10 n10 c10) (.slice A11 n11 c11) (.slice A12 mv.length c12) (.slice A13 n13 c13) (.slice A14 n14 c14) (.slice A15 n15 c15)] w (GivesN w (pagesOf (touchL kind a0 b0 mv))) := by
  have TL := hide (show (touchL kind a0 b0 mv).length ≤ 2000 by
    unfold touchL
    split
    · simp
    · split
      · simp
      · split
        · rw [List.length_map]; omega
        · simp)
  simp only [env]
  obtain ⟨w1, hw1⟩ : ∃ w1, w1 = w.alloc (.cells #[.int .i64 kind, .int .i64 t, .int .i64 u, .int .i64 h, .int .i64 p, .int .i64 n, .int .i64 a0, .int .i64 a1, .int .i64 b0, .int .i64 b1, .slice A10 n10 c10, .slice A11 n11 c11, .slice A12 mv.length c12, .slice A13 n13 c13, .slice A14 n14 c14, .slice A15 n15 c15] 35) := ⟨_, rfl⟩
  have X1 := hide (show Ext w w1 by rw [hw1]; exact Ext.new w _)
  have B1 := hide (show Blk w1 w.heap.size 35 #[.int .i64 kind, .int .i64 t, .int .i64 u, .int .i64 h, .int .i64 p, .int .i64 n, .int .i64 a0, .int .i64 a1, .int .i64 b0, .int .i64 b1, .slice A10 n10 c10, .slice A11 n11 c11, .slice A12 mv.length c12, .slice A13 n13 c13, .slice A14 n14 c14, .slice A15 n15 c15] by rw [hw1]; exact Blk.new w 35 _)
  have hto := hide (touched_any kind a0 a1 b0 b1 t u h p n A11 n11 c11 A10 n10 c10 A12 A13 A14 A15 c12 n13 c13 n14 c14 n15 c15 mv w1 (X1.out.read hr) hl)
  simp only [env] at hto
  obtain ⟨T, hT⟩ : ∃ T, T = touchL kind a0 b0 mv := ⟨_, rfl⟩
  rw [← hT] at hto TL ⊢
  have HB := hide (show w.heap.size ≤ w1.heap.size from X1.out.size)
  obtain ⟨e0, e1, e2, e3, e4, e5, e6, e7, e8, e9, e10, e11, e12, e13, e14, e15⟩ := B1.out.cells16
  clear hr hl hT
  go_enter Try.func30, Try.ntmps30
  go_upto_region 1 with (fail)
  rw [← hw1]
  clear hw1
  go_upto_region 2 with (first
    | (go_at_call 37; refine hto.out.mono ?_; rintro e w2 ⟨A2, c2, rfl, ho2, hx2⟩; have X2 := hide hx2; have O2 := hide ho2; clear ho2 hx2)
    | (go_at_call 36; refine (del_own w2 w1.heap.size A2 c2 T O2.out X2.out.size TL.out).mono ?_; rintro e w3 ⟨rfl, ho3, hb3⟩; have O3 := hide ho3; have X3 := hide (Below.trans X2.out hb3); clear ho3 hb3))
  obtain ⟨F, hF⟩ : ∃ F, F = T.filter fun x => !outP x := ⟨_, rfl⟩
  have hFl := hide (show F.length ≤ 2000 by have := List.length_filter_le (fun x => !outP x) T; have := TL.out; rw [hF]; omega)
  rw [← hF] at O3 ⊢
  have HF := hide hF
  clear hF
  go_upto_region 3 with (go_at_call 39; refine (sort_own w3 w1.heap.size A2 c2 F O3.out X3.out.size hFl.out).mono ?_; rintro e w4 ⟨rfl, ho4, hb4⟩; have O4 := hide ho4; have X4 := hide (Below.trans X3.out hb4); clear ho4 hb4)
  obtain ⟨G, hG⟩ : ∃ G, G = F.mergeSort fun x y => decide (x ≤ y) := ⟨_, rfl⟩
  have eGF : (F.mergeSort fun x y => decide (x ≤ y)).length = F.length := List.length_mergeSort _
  have hGl := hide (show G.length ≤ 2000 by rw [hG, eGF]; exact hFl.out)
  rw [← eGF, ← hG]
  rw [← hG] at O4
  have HG := hide hG
  clear hG eGF
  go_wp2_with (go_at_call 40; refine (compact_own w4 w1.heap.size A2 c2 G O4.out X4.out.size hGl.out).mono ?_; rintro e w5 ⟨rfl, ho5, hb5⟩; have O5 := hide ho5; have X5 := hide (Below.trans X4.out hb5); clear ho5 hb5)
  go_ret
  have ec : Lib.compact G = pagesOf T := by rw [HG.out, HF.out, pagesOf_eq]
  rw [ec] at O5 ⊢
  exact ⟨A2, c2, rfl, own_lower O5.out HB.out, X1.out.trans X5.out⟩
end Go.Proofs.Ytaijgnhkdbdfcaa
