/- Wait: a graph in memory; contracts: New, Set, Clear, On. -/
import Derived.Test.YtppffbpocmgafaaWait
import Derived.Outline
namespace Go.Proofs.Ytppffbpocmgafaa
open Go.ChangeShapes Go.WideShapes Go.ChangeAt Go.RowKit Go.Maps
set_option linter.unusedVariables false

/-- The graph: its struct in block g, its table in block m, a set for each who waits; none of more than c, all in ks. -/
structure Gr (w : World) (base g m N c : Nat) (ks : List Int) (E : Int → Int → Bool) (f : Int → Option Nat) : Prop where
  blk : Blk w g 50 #[.map (some m)]
  out : OutAt w m N f
  no : ∀ x, f x = none → ∀ y, E x y = false
  yes : ∀ x b, f x = some b → SetAt w b c (E x) ∧ base ≤ b ∧ b ≠ m
  inj : ∀ x y b, f x = some b → f y = some b → x = y
  fin : ∀ x, f x ≠ none → x ∈ ks
  hg : base ≤ g
  hm : base ≤ m
theorem map_ne {w : World} {g m : Nat} {t : TypeId} {cs : Array Value} {H : Type} {P : Program} {k : TypeId} {R : Value → Option (DataW H × List MemPlace)} {n : Nat} {D : DataW H} (h : Blk w g t cs) (h' : w.ownsMap P k R m n D) : g ≠ m := by
  rintro rfl
  obtain ⟨es, clock, hh, _⟩ := h'
  unfold Blk at h
  rw [h] at hh
  cases hh
section
variable {w w1 : World} {base g m N c : Nat} {ks : List Int} {E : Int → Int → Bool} {f : Int → Option Nat}
theorem Gr.gm (h : Gr w base g m N c ks E f) : g ≠ m := by obtain ⟨D, h', _⟩ := h.out; exact map_ne h.blk h'
theorem Gr.gb (h : Gr w base g m N c ks E f) {x : Int} {b : Nat} (hx : f x = some b) : g ≠ b := by obtain ⟨D, h', _⟩ := (h.yes x b hx).1; exact map_ne h.blk h'
theorem Gr.ext (h : Gr w base g m N c ks E f) (he : Ext w w1) : Gr w1 base g m N c ks E f where
  blk := he.blk h.blk
  out := h.out.touch (Touch.of_below he (fun _ => False)) (fun h => h)
  no := h.no
  yes x b hx := ⟨(h.yes x b hx).1.ext he, (h.yes x b hx).2⟩
  inj := h.inj
  fin := h.fin
  hg := h.hg
  hm := h.hm
theorem Gr.more (h : Gr w base g m N c ks E f) {c' : Nat} (hc : c ≤ c') : Gr w base g m N c' ks E f :=
  { h with yes := fun x b hx => ⟨(h.yes x b hx).1.more hc, (h.yes x b hx).2⟩ }
end
/-- what a method leaves: the table's block has turned, and there are new ones -/
def Left (w : World) (base g m N c : Nat) (ks : List Int) (E : Int → Int → Bool) (w' : World) : Prop := ∃ f, Gr w' base g m N c ks E f ∧ Touch w w' (fun k => k = m)

theorem new_any (w : World) : Calls Try.prog 8 #[] w fun e w' => e = .returned (.pointer (some ⟨w.heap.size + 1, 0, none⟩)) ∧ Gr w' w.heap.size (w.heap.size + 1) w.heap.size 0 0 [] (fun _ _ => false) (fun _ => none) ∧ Ext w w' := by
  have hmm := @run_makeMap Try.prog
  go_enter Try.func8, Try.ntmps8
  go_wp2
  go_ret
  refine ⟨rfl, ⟨?_, ?_, (fun _ _ _ => rfl), (fun _ _ h => by cases h), (fun _ _ _ h => by cases h), (fun _ h => absurd rfl h), by omega, Nat.le_refl _⟩, ((Ext.refl w).alloc _).alloc _⟩
  · simpa using Blk.new (w.alloc (.map #[] 0)) 50 #[.map (some w.heap.size)]
  · exact (OutAt.new w).touch (Touch.of_below (Ext.new _ _) (fun _ => False)) (fun h => h)

/-- those of a list, but for one -/
def but (l : List Int) (who : Int) : Int → Bool := fun y => decide (y ∈ l ∧ y ≠ who)
theorem but_nil (who : Int) : but [] who = fun _ => false := by funext y; simp [but]
theorem but_skip {l : List Int} {who x : Int} (h : x = who) : but (l ++ [x]) who = but l who := by
  funext y
  simp only [but, List.mem_append, List.mem_singleton]
  by_cases hy : y = who <;> simp [hy, h]
theorem but_put {l : List Int} {who x : Int} (h : x ≠ who) : but (l ++ [x]) who = put (but l who) x := by
  funext y
  unfold put but
  by_cases hy : y = x
  · subst hy; simp [h]
  · simp [hy]
def setE (E : Int → Int → Bool) (who : Int) (l : List Int) : Int → Int → Bool := fun x => if x = who then but l who else E x
theorem gr_set {w w1 w2 : World} {base g m N c n b : Nat} {ks l : List Int} {E : Int → Int → Bool} {f : Int → Option Nat} {who : Int} (h : Gr w base g m N c ks E f) (he : Ext w w1) (hs : SetAt w1 b n (but l who)) (hn : n ≤ c) (hb : w.heap.size ≤ b) (hbase : base ≤ w.heap.size)
    (ho : OutAt w2 m (N + 1) (putO f who b)) (ht : Touch w1 w2 (fun k => k = m)) : Left w base g m (N + 1) c (who :: ks) (setE E who l) w2 := by
  have h1 := h.ext he
  have hml := h.out.lt
  refine ⟨putO f who b, ⟨ht.blk h1.blk h1.gm, ho, fun x hx y => ?_, fun x b' hx => ?_, fun x y b' hx hy => ?_, fun x hx => ?_, h.hg, h.hm⟩, ?_⟩
  · unfold putO at hx
    unfold setE
    by_cases e : x = who
    · simp [e] at hx
    · rw [if_neg e] at hx ⊢
      exact h.no x hx y
  · unfold putO at hx
    unfold setE
    by_cases e : x = who
    · rw [if_pos e] at hx ⊢
      injection hx with hx
      subst hx
      exact ⟨(hs.more hn).touch ht (by omega), by omega, by omega⟩
    · rw [if_neg e] at hx ⊢
      have := h1.yes x b' hx
      exact ⟨this.1.touch ht this.2.2, this.2⟩
  · unfold putO at hx hy
    by_cases e : x = who <;> by_cases e' : y = who
    · rw [e, e']
    · rw [if_pos e] at hx
      rw [if_neg e'] at hy
      injection hx with hx
      have := (h.yes y b' hy).1.lt
      omega
    · rw [if_neg e] at hx
      rw [if_pos e'] at hy
      injection hy with hy
      have := (h.yes x b' hx).1.lt
      omega
    · rw [if_neg e] at hx
      rw [if_neg e'] at hy
      exact h.inj x y b' hx hy
  · unfold putO at hx
    by_cases e : x = who
    · rw [e]; exact List.mem_cons_self
    · rw [if_neg e] at hx
      exact List.mem_cons_of_mem _ (h.fin x hx)
  · exact (Touch.of_below he (fun k => k = m)).trans ht (fun _ _ h => h)
set_option maxHeartbeats 2000000 in
theorem set_any (base g m N c : Nat) (ks : List Int) (E : Int → Int → Bool) (f : Int → Option Nat) (who : Int) (A : Option Addr) (cap n : Nat) (l : List Int) (w : World) (h : Gr w base g m N c ks E f) (hbase : base ≤ w.heap.size)
    (hl : l.length = n) (hr : Reads w w.heap.size 1 A n (iv l)) (hw : Wf who) (hlw : ∀ x ∈ l, Wf x) (hn : n ≤ c) (hc : c ≤ 1048576) (hN : N ≤ 1048576) :
    Calls Try.prog 9 #[.pointer (some ⟨g, 0, none⟩), .int .i64 who, .slice A n cap] w fun e w' => e = .returned (.tuple #[]) ∧ Left w base g m (N + 1) c (who :: ks) (setE E who l) w' := by
  have hmm := @run_makeMap Try.prog
  have HG := hide h
  have HR := hide hr
  have HL := hide hl
  have HW := hide hlw
  have hgl := h.blk.lt
  clear h hr hl hlw
  go_enter Try.func9, Try.ntmps9
  go_wp2_with (fail)
  go_loopw [14] (fun i wr => (∃ k : Nat, k ≤ n ∧ i = .int .i64 k ∧ Hid (SetAt wr w.heap.size k (but (l.take k) who) ∧ Ext w wr))) (fun i _ => (n - intOf i).toNat)
  case atStart => exact ⟨0, by omega, rfl, by rw [List.take_zero, but_nil]; exact SetAt.new w, (Ext.refl w).alloc _⟩
  case round =>
    obtain ⟨k, hk, rfl, hs⟩ := hrel
    by_cases hlt : k < n
    · obtain ⟨b, off, hA, hbw, hcell⟩ := HR.out.plain (by omega) (by omega)
      subst hA
      have hkl : k < l.length := by have := HL.out; omega
      obtain ⟨x, hx⟩ : ∃ x, x = l[k] := ⟨_, rfl⟩
      have hc0 := hcell k (.int .i64 x) (by simp [iv, hkl, hx])
      have g0 : wr.cell? ⟨b, off + k, none⟩ = some (.int .i64 x) := (hs.out.2.cell (p := ⟨b, off + k, none⟩) hbw).trans hc0
      have hxw : Wf x := HW.out x (by rw [hx]; exact List.getElem_mem hkl)
      have htk : l.take (k + 1) = l.take k ++ [x] := by rw [List.take_succ_eq_append_getElem hkl, hx]
      have HXW := hide hxw
      have HT := hide htk
      clear hcell hc0 hx hkl hxw htk
      by_cases hxe : x = who
      · have hn1 := hide (show SetAt wr w.heap.size (k + 1) (but (l.take (k + 1)) who) by rw [HT.out, but_skip hxe]; exact hs.out.1.more (by omega))
        have e0 : (x != who) = false := by simp [hxe]
        clear hxe
        go_wp2
        go_roundw
        case rel => exact ⟨k + 1, by omega, by go_num, hn1.out, hs.out.2⟩
        case measure => simp [intOf]; omega
      · have e0 : (x != who) = true := by simp [hxe]
        have hse := hide (but_put (l := l.take k) hxe)
        clear hxe
        go_wp2_with (at_mapUpdate; refine SetAt.store rfl _ _ _ rfl rfl hs.out.1 (by unfold maxLen; omega) x rfl rfl HXW.out ?_; intro w2 hs2 ht2)
        have hn1 := hide (show SetAt w2 w.heap.size (k + 1) (but (l.take (k + 1)) who) by rw [HT.out, hse.out]; exact hs2)
        have he2 := hide (show Ext w w2 from Touch.ext hs.out.2 ht2 (Nat.le_refl _))
        clear hs2 ht2
        go_wp2
        go_roundw
        case rel => exact ⟨k + 1, by omega, by go_num, hn1.out, he2.out⟩
        case measure => simp [intOf]; omega
    · obtain rfl : k = n := by omega
      have c0 := (hs.out.2.blk HG.out.blk).cell 0
      simp at c0
      have ho := hide ((HG.out.ext hs.out.2).out)
      have hst := hide (show SetAt wr w.heap.size k (but l who) by have := hs.out.1; rw [List.take_of_length_le (by rw [HL.out]; exact Nat.le_refl _)] at this; exact this)
      go_wp2_with (at_mapUpdate; refine OutAt.store rfl _ _ _ rfl rfl ho.out (by unfold maxLen; omega) who w.heap.size rfl rfl hw ?_; intro w2 ho2 ht2)
      go_end0
      exact ⟨rfl, gr_set HG.out hs.out.2 hst.out hn (Nat.le_refl _) hbase ho2 ht2⟩

/-! ### Clear -/
def cutE (E : Int → Int → Bool) (who : Int) : Int → Int → Bool := fun x => if x = who then fun _ => false else E x
theorem gr_clear {w w2 : World} {base g m N c : Nat} {ks : List Int} {E : Int → Int → Bool} {f : Int → Option Nat} {who : Int} (h : Gr w base g m N c ks E f)
    (ho : OutAt w2 m N (cutO f who)) (ht : Touch w w2 (fun k => k = m)) : Left w base g m N c ks (cutE E who) w2 := by
  refine ⟨cutO f who, ⟨ht.blk h.blk h.gm, ho, fun x hx y => ?_, fun x b' hx => ?_, fun x y b' hx hy => ?_, fun x hx => ?_, h.hg, h.hm⟩, ht⟩
  · unfold cutO at hx
    unfold cutE
    by_cases e : x = who
    · rw [if_pos e]
    · rw [if_neg e] at hx ⊢
      exact h.no x hx y
  · unfold cutO at hx
    unfold cutE
    by_cases e : x = who
    · rw [if_pos e] at hx
      cases hx
    · rw [if_neg e] at hx ⊢
      have := h.yes x b' hx
      exact ⟨this.1.touch ht this.2.2, this.2⟩
  · unfold cutO at hx hy
    by_cases e : x = who
    · rw [if_pos e] at hx; cases hx
    · by_cases e' : y = who
      · rw [if_pos e'] at hy; cases hy
      · rw [if_neg e] at hx
        rw [if_neg e'] at hy
        exact h.inj x y b' hx hy
  · unfold cutO at hx
    by_cases e : x = who
    · rw [if_pos e] at hx; exact absurd rfl hx
    · rw [if_neg e] at hx
      exact h.fin x hx
theorem clear_any (base g m N c : Nat) (ks : List Int) (E : Int → Int → Bool) (f : Int → Option Nat) (who : Int) (w : World) (h : Gr w base g m N c ks E f) (hw : Wf who) :
    Calls Try.prog 12 #[.pointer (some ⟨g, 0, none⟩), .int .i64 who] w fun e w' => e = .returned (.tuple #[]) ∧ Left w base g m N c ks (cutE E who) w' := by
  have c0 := h.blk.cell 0
  simp at c0
  have HG := hide h
  have ho := hide h.out
  clear h
  go_enter Try.func12, Try.ntmps12
  go_wp2_with (at_delete; refine OutAt.delete rfl _ _ rfl rfl ho.out who rfl hw ?_; intro w2 ho2 ht2)
  go_end0
  exact ⟨rfl, gr_clear HG.out ho2 ht2⟩

/-! ### On -/
theorem on_any (base g m N c : Nat) (ks : List Int) (E : Int → Int → Bool) (f : Int → Option Nat) (who : Int) (w : World) (h : Gr w base g m N c ks E f) (hw : Wf who) (hc : c ≤ 1048576) :
    Calls Try.prog 11 #[.pointer (some ⟨g, 0, none⟩), .int .i64 who] w (GivesKeys w c (E who)) := by
  have c0 := h.blk.cell 0
  simp at c0
  have hlk := h.out.look hw
  have HG := hide h
  cases hf : f who with
  | none =>
    rw [hf] at hlk
    have hE : E who = fun _ => false := funext fun y => h.no who hf y
    rw [hE]
    have HF := hide hf
    clear h hf hE
    go_enter Try.func11, Try.ntmps11
    go_wp2_with (first | (go_at_call 20; refine (keys_call none _).mono ?_; rintro e w1 ⟨rfl, rfl⟩) | (go_at_call 19; refine (sorted_nil _).mono ?_; rintro e w1 ⟨v, L, rfl, h1, h2, h3, h4, h5, h6⟩))
    go_ret
    exact ⟨v, L, rfl, h1, h2, by omega, h4, h5, h6⟩
  | some b =>
    rw [hf] at hlk
    have hs := hide (h.yes who b hf).1
    have HF := hide hf
    clear h hf
    go_enter Try.func11, Try.ntmps11
    go_wp2_with (first | (go_at_call 20; refine (keys_call (some b) _).mono ?_; rintro e w1 ⟨rfl, rfl⟩) | (go_at_call 19; refine (sorted_call b c (E who) _ hs.out hc).mono ?_; rintro e w1 ⟨v, L, rfl, h1, h2, h3, h4, h5, h6⟩))
    go_ret
    exact ⟨v, L, rfl, h1, h2, h3, h4, h5, h6⟩
end Go.Proofs.Ytppffbpocmgafaa
