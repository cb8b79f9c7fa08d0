/- Lock: contract: Ask. -/
import Derived.Test.YtebflbpjmpmnjaaLockN
import Derived.Test.YtebflbpjmpmnjaaMode
namespace Go.Proofs.Ytebflbpjmpmnjaa
open Go.ChangeShapes Go.WideShapes Go.ChangeAt Go.RowKit Go.Maps Go.ChangeMaps Go.MapKept Go.Sort
set_option linter.unusedVariables false

theorem Try.info3' : (Try.prog.info? 3).map (fun i => (i.zero, i.size, i.bytes)) = some (some (.int .i64 0), 1, 8) := by kernel_rfl
theorem iv_one (l : List Int) : ∀ u ∈ iv l, u.oneCell' = true := by
  intro u hu
  obtain ⟨b, _, rfl⟩ := List.mem_map.1 hu
  rfl
theorem results_tmp2 {fn : Func} {t u : Tmp} (h : fn.results = #[.tmp t, .tmp u]) (tmps : Array Value) (P : Program) (w : World) :
    (results fn tmps).run P w = .ok (.tuple #[tmps.getD t undef, tmps.getD u undef]) w := by simp [results, h]
/-- who of these hinders -/
def hin (F : ByteArray → Int → Int) (s : ByteArray) (who want : Int) (x : Int) : Bool := decide (x ≠ who) && !goesP (F s x) want
theorem hin_snoc {F : ByteArray → Int → Int} {s : ByteArray} {who want : Int} {L : List Int} {k : Nat} {x : Int} (hx : L[k]? = some x) :
    (L.take (k + 1)).filter (hin F s who want) = (L.take k).filter (hin F s who want) ++ (if hin F s who want x = true then [x] else []) := by
  have hk := (List.getElem?_eq_some_iff.1 hx).1
  rw [List.take_succ_eq_append_getElem hk, List.filter_append]
  have e : L[k] = x := (List.getElem?_eq_some_iff.1 hx).2
  rw [e]
  by_cases h : hin F s who want x = true <;> simp [h]
theorem hin_skip {F : ByteArray → Int → Int} {s : ByteArray} {who want : Int} {L : List Int} {k : Nat} {x : Int} (hx : L[k]? = some x) (h : hin F s who want x = false) :
    (L.take (k + 1)).filter (hin F s who want) = (L.take k).filter (hin F s who want) := by rw [hin_snoc hx, h]; simp
theorem hin_take {F : ByteArray → Int → Int} {s : ByteArray} {who want : Int} {L : List Int} {k : Nat} {x : Int} (hx : L[k]? = some x) (h : hin F s who want x = true) :
    (L.take (k + 1)).filter (hin F s who want) = (L.take k).filter (hin F s who want) ++ [x] := by rw [hin_snoc hx, h]; simp
theorem hin_f {F : ByteArray → Int → Int} {s : ByteArray} {who want x : Int} (h : x = who ∨ goesP (F s x) want = true) : hin F s who want x = false := by
  unfold hin
  rcases h with h | h
  · simp [h]
  · simp [h]
theorem hin_t {F : ByteArray → Int → Int} {s : ByteArray} {who want x : Int} (h : x ≠ who) (h2 : goesP (F s x) want = false) : hin F s who want x = true := by
  unfold hin
  simp [h, h2]
/-- what is held behind an ask that is granted -/
def setF (F : ByteArray → Int → Int) (s : ByteArray) (who m : Int) : ByteArray → Int → Int := fun z => if z = s then putI (F s) who (joinP (F s who) m) else F z
theorem joinP_ok {a b : Int} (ha0 : 0 ≤ a) (ha1 : a ≤ 4) (hb0 : 0 < b) (hb1 : b ≤ 4) : 0 < joinP a b ∧ joinP a b ≤ 4 := by
  unfold joinP
  rw [if_pos (by omega)]
  split <;> omega
theorem wf_small {x : Int} (h0 : 0 ≤ x) (h1 : x ≤ 4) : Wf x := by
  unfold Wf
  simp [Lit.wf, IntKind.min, IntKind.max, IntKind.signed, IntKind.bits]
  omega
/-- who hinders, in order -/
def Others (F : ByteArray → Int → Int) (s : ByteArray) (who m : Int) (L : List Int) : Prop := Rises L ∧ ∀ x, x ∈ L ↔ F s x ≠ 0 ∧ x ≠ who ∧ goesP (F s x) (joinP (F s who) m) = false
/-- what an ask answers: those who hinder; or it is granted -/
def Asks (W w : World) (g N c : Nat) (F : ByteArray → Int → Int) (s : ByteArray) (who m : Int) (e : Ending) (w' : World) : Prop :=
  ∃ L, Others F s who m L ∧ L.length ≤ c ∧ Cells w w' ∧
    ((L ≠ [] ∧ ∃ v, e = .returned (.tuple #[v, .bool false]) ∧ w'.ownsRow w.heap.size 3 1 v L.length (iv L) ∧ Has W w' g N c F ∧ Ext w w') ∨ (L = [] ∧ e = .returned (.tuple #[.slice none 0 0, .bool true]) ∧ Has W w' g (N + 1) (c + 1) (setF F s who m)))
/-- a set of its own for a name that had none -/
theorem gr_make {w w1 w2 : World} {base g m N c b : Nat} {F : ByteArray → Int → Int} {f : ByteArray → Option Nat} {s : ByteArray} (h : Gr w base g m N c F f) (he : Ext w w1) (hf : f s = none) (hs : InAt w1 b 0 (fun _ => 0)) (hb : w.heap.size ≤ b) (hbase : base ≤ w.heap.size)
    (ho : OutAt w2 m (N + 1) (putO f s (some b))) (ht : Touch w1 w2 (fun k => k = m)) : Gr w2 base g m (N + 1) c F (putO f s (some b)) := by
  have h1 := h.ext he
  have hml := h.out.lt
  refine ⟨ht.blk h1.blk h1.gm, ho, fun x hx y => ?_, fun x b' hx => ?_, fun x y b' hx hy => ?_, h.md, h.wf, h.hg, h.hm⟩
  · unfold putO at hx
    by_cases e : x = s
    · simp [e] at hx
    · rw [if_neg e] at hx
      exact h.no x hx y
  · unfold putO at hx
    by_cases e : x = s
    · rw [if_pos e] at hx
      injection hx with hx
      subst hx
      refine ⟨?_, by omega, by omega⟩
      have : F x = fun _ => 0 := funext fun y => by rw [e]; exact h.no s hf y
      rw [this]
      exact (hs.more (Nat.zero_le _)).touch ht (by omega)
    · rw [if_neg e] at hx
      have := h1.yes x b' hx
      exact ⟨this.1.touch ht this.2.2, this.2⟩
  · unfold putO at hx hy
    by_cases e : x = s <;> by_cases e' : y = s
    · rw [e, e']
    · rw [if_pos e] at hx
      rw [if_neg e'] at hy
      injection hx with hx
      have := (h.yes y b' hy).1.lt
      omega
    · rw [if_neg e] at hx
      rw [if_pos e'] at hy
      injection hy with hy
      have := (h.yes x b' hx).1.lt
      omega
    · rw [if_neg e] at hx
      rw [if_neg e'] at hy
      exact h.inj x y b' hx hy
theorem gr_set {w w2 : World} {base g m N c b : Nat} {F : ByteArray → Int → Int} {f : ByteArray → Option Nat} {s : ByteArray} {who md : Int} (h : Gr w base g m N c F f) (hf : f s = some b) (hw : Wf who) (h0 : 0 < md) (h1 : md ≤ 4)
    (hs : InAt w2 b (c + 1) (putI (F s) who (joinP (F s who) md))) (ht : Touch w w2 (fun k => k = b)) : Gr w2 base g m N (c + 1) (setF F s who md) f := by
  have hj := joinP_ok (h.md s who).1 (h.md s who).2 h0 h1
  refine gr_turn (h.more (Nat.le_succ c)) hf hs ht (fun y => ?_) (fun y => ?_)
  · unfold putI
    split
    · omega
    · exact h.md s y
  · unfold putI
    split
    · rename_i e; intro _; rw [e]; exact hw
    · exact h.wf s y
theorem touch_cells {w w' : World} {b n : Nat} {s : Int → Int} (h : InAt w b n s) (ht : Touch w w' (fun k => k = b)) : Cells w w' := by
  obtain ⟨D, h', _⟩ := h
  exact Touch.cells h' ht
theorem touch_cells_o {w w' : World} {b n : Nat} {f : ByteArray → Option Nat} (h : OutAt w b n f) (ht : Touch w w' (fun k => k = b)) : Cells w w' := by
  obtain ⟨D, h', _⟩ := h
  exact Touch.cells h' ht
set_option maxRecDepth 100000 in
set_option maxHeartbeats 4000000 in
theorem has_ask (W w : World) (g N c : Nat) (F : ByteArray → Int → Int) (s : ByteArray) (who md : Int) (h : Has W w g N c F) (hw : Wf who) (hs : Sz s) (h0 : 0 < md) (h1 : md ≤ 4) (hc : c ≤ 1000) (hN : N ≤ 1000) :
    Calls Try.prog 10 #[.pointer (some ⟨g, 0, none⟩), .int .i64 who, .string s, .int .i64 md] w (Asks W w g N c F s who md) := by
  obtain ⟨i0, hi0, iz0, iz1, iz2⟩ := info_parts Try.info3'
  have hmm := @run_makeMap Try.prog
  have qT := fun (w : World) (r : Option Nat) => run_eql_map_nil (P := Try.prog) w 52 3 3 r Try.underlying52
  have H := hide h
  have hmd := h.md s who
  have hj := joinP_ok hmd.1 hmd.2 h0 h1
  have HJW := hide (wf_small (Int.le_of_lt hj.1) hj.2)
  clear h
  go_enter Try.func10, Try.ntmps10
  go_wp2_with (fail)
  refine (has_held W w g N c F who s H.out hw hs).mono ?_
  rintro e w0 ⟨rfl, rfl⟩
  go_wp2_with (fail)
  refine (join_any _ _ _).mono ?_
  rintro e w0 ⟨rfl, rfl⟩
  obtain ⟨want, hwant⟩ : ∃ want, want = joinP (F s who) md := ⟨_, rfl⟩
  rw [← hwant] at hj HJW ⊢
  have HWT := hide hwant
  clear hwant hmd
  go_wp2_with (fail)
  refine (has_holders W w g N c F s H.out hs (by omega)).mono ?_
  rintro e w1 ⟨v, L, rfl, q1, q2, q3, q4, q5, q6⟩
  obtain ⟨n, hn⟩ : ∃ n, n = L.length := ⟨_, rfl⟩
  rw [← hn] at q3
  obtain ⟨Av, cv, hv, _⟩ := own_form q5
  rw [← hn] at hv
  subst hv
  have HLN := hide hn
  have HRI := hide q1
  have HME := hide q2
  have HWF := hide q4
  have HRD := hide (show Reads w1 w1.heap.size 1 Av n (iv L) by have := Reads.of_own (A := Av) (c := cv) (by rw [← hn] at q5; exact q5); exact this)
  have HE1 := hide q6
  clear hn q1 q2 q4 q5 q6
  go_wp2_with (fail)
  go_loopw [8, 12, 33] (fun s8 _ s33 wr => (∃ (k q : Nat) (A : Option Addr) (cc : Nat), k ≤ n ∧ q ≤ k ∧ s33 = .int .i64 k ∧ s8 = .slice A q cc ∧ Hid (((L.take k).filter (hin F s who want)).length = q ∧ wr.ownsRow w1.heap.size 3 1 (.slice A q cc) q (iv ((L.take k).filter (hin F s who want))) ∧ Ext w1 wr))) (fun _ _ s33 _ => (n - intOf s33).toNat)
  case atStart => exact ⟨0, 0, none, 0, by omega, by omega, rfl, rfl, rfl, World.ownsRow_nil _ _ _ _, Ext.refl _⟩
  case round =>
    obtain ⟨k, q, A, cc, hk, hqk, rfl, rfl, hs1⟩ := hrel
    obtain ⟨m, f, hg1, hx1⟩ := (H.out.ext (HE1.out.trans hs1.out.2.2))
    have c0 := hg1.blk.cell 0
    simp at c0
    have HG := hide hg1
    have HX := hide hx1
    by_cases hlt : k < n
    · obtain ⟨bk, off, hAe, hbw, hcell⟩ := HRD.out.plain (by omega) (by omega)
      subst hAe
      obtain ⟨x, hx⟩ : ∃ x, L[k]? = some x := ⟨_, List.getElem?_eq_getElem (by have := HLN.out; omega)⟩
      have gx := (hs1.out.2.2.cell (p := ⟨bk, off + k, none⟩) hbw).trans (hcell k (.int .i64 x) (by simp [iv, hx]))
      have hxL := List.mem_of_getElem? hx
      have hFx : F s x ≠ 0 := (HME.out x).1 hxL
      have hxw : Wf x := HWF.out x hxL
      obtain ⟨b, hb⟩ : ∃ b, f s = some b := by
        cases hf : f s with
        | none => exact absurd (hg1.no s hf x) hFx
        | some b => exact ⟨b, rfl⟩
      have hlk := hg1.out.look hs
      rw [hb] at hlk
      have hl2 := (hg1.yes s b hb).1.look hxw
      have HX1 := hide hx
      clear hcell hxL hFx hxw hx hg1 hx1
      by_cases hxe : x = who
      · have e0 : (x != who) = false := by simp [hxe]
        have hn1 := hide (hin_skip HX1.out (hin_f (F := F) (s := s) (want := want) (.inl hxe)))
        clear hxe
        go_wp2_with (fail)
        go_roundw
        case rel => exact ⟨k + 1, q, A, cc, by omega, by omega, by go_num, rfl, by rw [hn1.out]; exact hs1.out⟩
        case measure => simp [intOf]; omega
      · have e0 : (x != who) = true := by simp [hxe]
        cases hgo : goesP (F s x) want with
        | true =>
          have hn1 := hide (hin_skip HX1.out (hin_f (who := who) (.inr hgo)))
          have HGO := hide hgo
          clear hxe hgo
          go_wp2_with (go_at_call 25; refine (goes_any _ _ _).mono ?_; rintro e w' ⟨rfl, rfl⟩; rw [HGO.out])
          go_roundw
          case rel => exact ⟨k + 1, q, A, cc, by omega, by omega, by go_num, rfl, by rw [hn1.out]; exact hs1.out⟩
          case measure => simp [intOf]; omega
        | false =>
          have hn1 := hide (hin_take HX1.out (hin_t hxe hgo))
          have HGO := hide hgo
          have own1 := hide (hs1.out.2.1.alloc (.cells #[.int .i64 x] 3))
          have news := hide (reads_blk (m := 1) (Blk.new wr 3 #[.int .i64 x]) rfl)
          have hz : w1.heap.size ≤ wr.heap.size := hs1.out.2.2.size
          clear hxe hgo
          go_wp2_with (first
            | (go_at_call 25; refine (goes_any _ _ _).mono ?_; rintro e w' ⟨rfl, rfl⟩; rw [HGO.out])
            | (at_builtin; refine wpList_append_any _ rfl (.tmp 53) (.tmp 55) _ rfl w1.heap.size 3 i0 _ 1 8 Try.underlying25 hi0 iz0 iz1 iz2 rfl (by omega) (.slice A q cc) q (iv ((L.take k).filter (hin F s who want))) rfl own1.out _ _ 1 1 [.int .i64 x] rfl news.out (by simp [Value.oneCell']) (by unfold maxLen; omega) (by omega) (by simp; omega) ?_; intro v4 w4 ho4 hg4 hat4; obtain ⟨A4, c4, hv4, _⟩ := own_form ho4; subst hv4; have HO4 := hide ho4; have HX4 := hide (Ext.grown (hs1.out.2.2.alloc _) hg4 (fun k hk => (hs1.out.2.1.lt k hk).1)); clear ho4 hg4 hat4))
          go_roundw
          case rel => exact ⟨k + 1, q + 1, A4, c4, by omega, by omega, by go_num, by go_num, by rw [hn1.out]; simp [hs1.out.1], by rw [hn1.out]; simpa [iv] using HO4.out, HX4.out⟩
          case measure => simp [intOf]; omega
    · obtain rfl : k = n := by omega
      have hoth : Others F s who md ((L.take k).filter (hin F s who want)) := by
        rw [List.take_of_length_le (by rw [HLN.out]; exact Nat.le_refl _)]
        refine ⟨List.Pairwise.filter _ HRI.out, fun x => ?_⟩
        rw [List.mem_filter, HME.out x, ← HWT.out]
        unfold hin
        simp
      have HO := hide hoth
      obtain ⟨M, hM⟩ : ∃ M, M = (L.take k).filter (hin F s who want) := ⟨_, rfl⟩
      rw [← hM] at HO hs1
      have hq : q ≤ c := by omega
      clear hM hoth hg1 hx1
      by_cases hq0 : 0 < q
      · have hfin : Hid (Asks W w g N c F s who md (.returned (.tuple #[.slice A q cc, .bool false])) wr) := by
          refine ⟨M, HO.out, by rw [hs1.out.1]; exact hq, Cells.of_ext (HE1.out.trans hs1.out.2.2), .inl ⟨fun e => by have := hs1.out.1; rw [e] at this; simp at this; omega, _, rfl, ?_, ⟨m, f, HG.out, HX.out⟩, HE1.out.trans hs1.out.2.2⟩⟩
          rw [hs1.out.1]
          exact World.ownsRow.mono hs1.out.2.1 HE1.out.size
        go_wp2_with (fail)
        go_ret2
        exact hfin.out
      · obtain rfl : q = 0 := by omega
        have hlk := HG.out.out.look hs
        have HM0 := hide (show M = [] from List.eq_nil_of_length_eq_zero hs1.out.1)
        have hbase : W.heap.size ≤ wr.heap.size := HX.out.size
        have CE := hide (Cells.of_ext (HE1.out.trans hs1.out.2.2))
        clear hq0
        cases hf : f s with
        | none =>
          rw [hf] at hlk
          have HF := hide hf
          clear hf
          have HO1 := hide (HG.out.out.touch (Touch.of_below (Ext.new wr (.map #[] 0)) (fun _ => False)) (fun h => h))
          go_wp2_with (first
            | (at_mapUpdate; refine OutAt.store rfl _ _ _ rfl rfl HO1.out (by unfold maxLen; omega) s wr.heap.size rfl rfl hs ?_; intro w5 ho5 ht5; have hg5 := hide (gr_make HG.out (Ext.new wr _) HF.out (InAt.new wr) (Nat.le_refl _) hbase ho5 ht5); have HT5 := hide (Touch.ext (HX.out.trans (Ext.new wr (.map #[] 0))) ht5 HG.out.hm); have c5 := hg5.out.blk.cell 0; simp at c5; have hl5 := ho5.look hs; simp only [putO, if_true] at hl5; have hset := hide (hg5.out.yes s wr.heap.size (by simp [putO])).1; have CE5 := hide ((Cells.of_ext (Ext.new wr (.map #[] 0))).trans (touch_cells_o HO1.out ht5)); clear ho5 ht5)
            | (at_mapUpdate; refine InAt.store rfl _ _ _ rfl rfl hset.out (by unfold maxLen; omega) who want rfl rfl hw HJW.out (by omega) ?_; intro w6 hs6 ht6))
          have hfin : Hid (Asks W w g N c F s who md (.returned (.tuple #[.slice none 0 0, .bool true])) w6) := by
            refine ⟨[], by rw [← HM0.out]; exact HO.out, Nat.zero_le _, (CE.out.trans CE5.out).trans (touch_cells hset.out ht6), .inr ⟨rfl, rfl, m, putO f s (some wr.heap.size), ?_, Touch.ext HT5.out ht6 (hg5.out.yes s wr.heap.size (by simp [putO])).2.1⟩⟩
            exact gr_set hg5.out (by simp [putO]) hw h0 h1 (by rw [← HWT.out]; exact hs6) ht6
          clear hs6 ht6
          go_wp2_with (fail)
          go_ret2
          exact hfin.out
        | some b =>
          rw [hf] at hlk
          have HF := hide hf
          have hset := hide (HG.out.yes s b hf).1
          clear hf
          go_wp2_with (at_mapUpdate; refine InAt.store rfl _ _ _ rfl rfl hset.out (by unfold maxLen; omega) who want rfl rfl hw HJW.out (by omega) ?_; intro w5 hs5 ht5)
          have hfin : Hid (Asks W w g N c F s who md (.returned (.tuple #[.slice none 0 0, .bool true])) w5) := by
            refine ⟨[], by rw [← HM0.out]; exact HO.out, Nat.zero_le _, CE.out.trans (touch_cells hset.out ht5), .inr ⟨rfl, rfl, m, f, ?_, Touch.ext HX.out ht5 (HG.out.yes s b HF.out).2.1⟩⟩
            have := gr_set HG.out HF.out hw h0 h1 (by rw [← HWT.out]; exact hs5) ht5
            exact { this with out := by obtain ⟨D, h, r⟩ := this.out; exact ⟨D, h.mono (Nat.le_succ N), r⟩ }
          clear hs5 ht5
          go_wp2_with (fail)
          go_ret2
          exact hfin.out
end Go.Proofs.Ytebflbpjmpmnjaa
