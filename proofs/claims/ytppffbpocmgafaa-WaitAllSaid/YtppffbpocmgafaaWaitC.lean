/- Wait: contract: Cycle. -/
import Derived.Test.YtppffbpocmgafaaWaitG
import Derived.Test.YtppffbpocmgafaaWaitP
import Derived.Deep.LoopGhost
namespace Go.Proofs.Ytppffbpocmgafaa
open Go.ChangeShapes Go.WideShapes Go.ChangeAt Go.RowKit Go.Maps
set_option linter.unusedVariables false

theorem Try.info3' : (Try.prog.info? 3).map (fun i => (i.zero, i.size, i.bytes)) = some (some (.int .i64 0), 1, 8) := by kernel_rfl
theorem iv_one (l : List Int) : ∀ u ∈ iv l, u.oneCell' = true := by
  intro u hu
  obtain ⟨b, _, rfl⟩ := List.mem_map.1 hu
  rfl
theorem own_take {w : World} {base n k : Nat} {A : Option Addr} {c : Nat} {l : List Int} (h : w.ownsRow base 3 1 (.slice A n c) n (iv l)) (hk : k ≤ n) : w.ownsRow base 3 1 (.slice A k c) k (iv (l.take k)) := by
  have hl : l.length = n := by simpa [iv] using h.1
  rcases h.2 with ⟨hv, rfl⟩ | ⟨b, cap, cur, hv, hb, hh, h1, h2, h3, h4⟩
  · obtain rfl : k = 0 := by omega
    injection hv with h1 h2 h3
    subst h1 h3
    exact ⟨by simp [iv], .inl ⟨rfl, rfl⟩⟩
  · injection hv with h5 h6 h7
    subst h5 h7
    refine ⟨by simp [iv]; omega, .inr ⟨b, c, cur, rfl, hb, hh, by omega, h2, h3, ?_⟩⟩
    have : iv (l.take k) = (iv l).take k := by simp [iv, List.map_take]
    rw [this, ← h4, List.take_take]
    congr 1
    omega
/-- the state of the search -/
structure St (w wr : World) (E : Int → Int → Bool) (who : Int) (v : Value) (nn : Nat) (seen : Int → Bool) (l : List Int) : Prop where
  set_ : SetAt wr w.heap.size nn seen
  own : wr.ownsRow w.heap.size 3 1 v l.length (iv l)
  ext : Ext w wr
  wf : ∀ x ∈ l, Wf x
  dfs : Dfs E who seen l
theorem map_row {w : World} {base e m n : Nat} {v : Value} {xs : List Value} {b nn : Nat} {s : Int → Bool} (h : w.ownsRow base e m v n xs) (hs : SetAt w b nn s) : v.ownBlock ≠ some b := by
  obtain ⟨D, h', _⟩ := hs
  rcases h.2 with ⟨rfl, _⟩ | ⟨g', cap, cur, rfl, _, hh, _⟩
  · simp [Value.ownBlock]
  · intro he
    have : g' = b := by simpa [Value.ownBlock] using he
    subst this
    obtain ⟨es, clock, hh', _⟩ := h'
    rw [hh] at hh'
    cases hh'
/-- what is still to come: pops, and what may be laid on the pile -/
def Bd (ks : List Int) (c nn : Nat) (seen : Int → Bool) (l : List Int) (k : Nat) : Prop := l.length + c * rest ks seen ≤ k ∧ nn ≤ 2097152 - k
theorem bd_see {ks l L : List Int} {c nn k : Nat} {seen : Int → Bool} {x : Int} (h : Bd ks c nn seen (l ++ [x]) k) (hk : k ≤ 1048576) (hs : seen x = false) (hL : L.length ≤ c) (hx : L ≠ [] → x ∈ ks) : Bd ks c (nn + 1) (put seen x) (l ++ L) (k - 1) := by
  obtain ⟨h1, h2⟩ := h
  simp at h1
  refine ⟨?_, by omega⟩
  rw [List.length_append]
  by_cases e : L = []
  · subst e
    have := Nat.mul_le_mul_left c (rest_le ks seen x)
    simp
    omega
  · have h3 := rest_lt (hx e) hs
    have h4 : c * (rest ks (put seen x) + 1) ≤ c * rest ks seen := Nat.mul_le_mul_left c h3
    rw [Nat.mul_add] at h4
    omega
theorem st_see {w wr w2 w3 w4 : World} {E : Int → Int → Bool} {who x : Int} {gl q cap nn : Nat} {seen : Int → Bool} {l L : List Int} {v : Value}
    (h : St w wr E who (.slice (some ⟨gl, 0, none⟩) (q + 1) cap) nn seen (l ++ [x])) (hq : q = l.length) (hx : x ≠ who) (hs2 : SetAt w2 w.heap.size (nn + 1) (put seen x)) (ht2 : Touch wr w2 (fun k => k = w.heap.size)) (he : Ext w2 w3)
    (hL : ∀ y, y ∈ L ↔ E x y = true) (hLw : ∀ y ∈ L, Wf y) (ho : w4.ownsRow w.heap.size 3 1 v (q + L.length) (iv l ++ iv L)) (hg : w3.grownBy w4 (some gl)) : St w w4 E who v (nn + 1) (put seen x) (l ++ L) := by
  have hlt := h.own.lt gl rfl
  have hne : gl ≠ w.heap.size := fun e => map_row h.own h.set_ (by rw [e]; rfl)
  have t3 : Touch w2 w4 (fun k => k = gl) := ((Touch.of_below he (fun k => k = gl))).grown hg (fun k e _ => by injection e with e; exact e.symm)
  refine ⟨hs2.touch t3 (fun e => hne e.symm), ?_, ?_, fun y hy => ?_, h.dfs.see hx hL⟩
  · rw [List.length_append, ← hq]
    simpa [iv] using ho
  · exact Ext.grown ((Touch.ext h.ext ht2 (Nat.le_refl _)).trans he) hg (fun k e => by injection e with e; subst e; exact hlt.1)
  · rcases List.mem_append.1 hy with h1 | h1
    · exact h.wf y (by simp [h1])
    · exact hLw y h1
set_option maxRecDepth 100000 in
set_option maxHeartbeats 4000000 in
theorem cycle_any (base g m N c : Nat) (ks : List Int) (E : Int → Int → Bool) (f : Int → Option Nat) (who : Int) (w : World) (h : Gr w base g m N c ks E f) (hw : Wf who) (hc : c + c * ks.length ≤ 1048576) :
    Calls Try.prog 10 #[.pointer (some ⟨g, 0, none⟩), .int .i64 who] w fun e w' => e = .returned (.bool (cyc E who)) ∧ Ext w w' := by
  have hmm := @run_makeMap Try.prog
  obtain ⟨i0, hi0, iz0, iz1, iz2⟩ := info_parts Try.info3'
  have hc0 : c ≤ 1048576 := by omega
  have HG := hide h
  have HC := hide hc
  clear h hc
  go_enter Try.func10, Try.ntmps10
  go_wp2_with (fail)
  refine (on_any base g m N c ks E f who _ (HG.out.ext (Ext.new _ _)) hw hc0).mono ?_
  rintro e w1 ⟨v, L, rfl, h1, h2, h3, h4, h5, h6⟩
  have hst : Hid (St w w1 E who v 0 (fun _ => false) L) := ⟨(SetAt.new w).ext h6, World.ownsRow.mono h5 (by simp), (Ext.new w _).trans h6, h4, Dfs.start h2⟩
  have hbd : Hid (Bd ks c 0 (fun _ => false) L 1048576) := by
    refine ⟨?_, by omega⟩
    have := HC.out
    have hr : rest ks (fun _ => false) ≤ ks.length := List.length_filter_le _ _
    have := Nat.mul_le_mul_left c hr
    omega
  clear h1 h2 h3 h4 h5 h6
  go_wp2_with (fail)
  go_loopg [6] 1048576 (fun k s6 wr => k ≤ 1048576 ∧ Hid (∃ nn seen l, St w wr E who s6 nn seen l ∧ Bd ks c nn seen l k))
  case atStart => exact ⟨Nat.le_refl _, _, _, _, hst.out, hbd.out⟩
  case round =>
    obtain ⟨hgk, hh⟩ := hrel
    obtain ⟨nn, seen, l, hs, hb⟩ := hh.out
    clear hh hst hbd
    rcases List.eq_nil_or_concat l with rfl | ⟨l', x, hlx⟩
    · obtain ⟨A, cap, rfl, _⟩ := own_form hs.own
      have hd := hide hs.dfs.done
      have HE := hide hs.ext
      clear hs hb
      go_wp2
      go_ret
      exact ⟨ret_bool hd.out.symm, HE.out⟩
    · rw [List.concat_eq_append] at hlx
      subst hlx
      obtain ⟨q, hq⟩ : ∃ q, q = l'.length := ⟨_, rfl⟩
      have hlen : (l' ++ [x]).length = q + 1 := by rw [hq]; simp
      have hb1 : q + 1 ≤ gk := by have := hb.1; rw [hlen] at this; omega
      have hxw : Wf x := hs.wf x (by simp)
      have hown := hs.own
      rw [hlen] at hown
      obtain ⟨gl, cap, hv, _, hgl⟩ := hown.form (by omega)
      subst hv
      have hcapr := own_form hown
      obtain ⟨_, _, hv', _, hcap, hcm, _⟩ := hcapr
      injection hv' with e1 _ e2
      subst e1 e2
      have htk := own_take hown (k := q) (by omega)
      rw [show (l' ++ [x]).take q = l' by rw [hq]; simp] at htk
      have g0 : wr.cell? ⟨gl, q, none⟩ = some (.int .i64 x) := by
        have := hown.cells (g := gl) rfl q (.int .i64 x) (by simp [iv, hq])
        have e : (⟨gl, 0, none⟩ : Addr).add q = ⟨gl, q, none⟩ := by unfold Addr.add; split <;> simp_all
        rwa [e] at this
      have HS := hide hs
      have HB := hide hb
      have HT := hide htk
      have HQ := hide hq
      have HXW := hide hxw
      have hgr : w.heap.size < wr.heap.size := hs.set_.lt
      unfold maxLen at hcm
      clear hs hb hown htk hq hlen hxw
      by_cases hxe : x = who
      · subst hxe
        have hd := hide HS.out.dfs.hit
        go_wp2
        go_ret
        exact ⟨ret_bool hd.out.symm, HS.out.ext⟩
      · have e0 : (x == who) = false := by simpa using hxe
        have HXE := hide hxe
        have hlk := HS.out.set_.look HXW.out
        clear hxe
        cases hsx : seen x with
        | true =>
          rw [hsx] at hlk
          have hn := hide (show St w wr E who (.slice (some ⟨gl, 0, none⟩) q cap) nn seen l' from ⟨HS.out.set_, by have := HT.out; rw [HQ.out] at this ⊢; exact this, HS.out.ext, fun y hy => HS.out.wf y (by simp [hy]), HS.out.dfs.skip hsx⟩)
          have hbn := hide (show Bd ks c nn seen l' (gk - 1) by have := HB.out; unfold Bd at this ⊢; simp at this; omega)
          clear hsx
          go_wp2
          go_roundg (gk - 1)
          case measure => omega
          case rel => exact ⟨by omega, _, _, _, hn.out, hbn.out⟩
        | false =>
          rw [hsx] at hlk
          have HSX := hide hsx
          have hnn : nn < maxLen := by have := HB.out.2; unfold maxLen; omega
          clear hsx
          go_wp2_with (at_mapUpdate; refine SetAt.store rfl _ _ _ rfl rfl HS.out.set_ hnn x rfl rfl HXW.out ?_; intro w2 hs2 ht2)
          have he2 := Touch.ext HS.out.ext ht2 (Nat.le_refl _)
          have HS2 := hide hs2
          have HT2 := hide ht2
          have hz2 : wr.heap.size ≤ w2.heap.size := ht2.size
          clear hs2 ht2
          refine (on_any base g m N c ks E f x _ (HG.out.ext he2) HXW.out hc0).mono ?_
          rintro e w3 ⟨v3, L, rfl, h1, h2, h3, h4, h5, h6⟩
          obtain ⟨A3, c3, hv3, _⟩ := own_form h5
          subst hv3
          have own3 := hide (h6.own (ownsRow_touch HT2.out HT.out (fun k hk e => map_row HS.out.own HS.out.set_ (by rw [← e]; exact hk))))
          have RL := hide (Reads.of_own h5)
          have HL2 := hide h2
          have HL4 := hide h4
          have H6 := hide h6
          have hbn := hide (bd_see HB.out hgk HSX.out h3 (fun hne => HG.out.fin x (fun hfx => hne (List.eq_nil_iff_forall_not_mem.2 (fun y hy => by have := (h2 y).1 hy; rw [HG.out.no x hfx y] at this; cases this)))))
          have hz3 : w2.heap.size ≤ w3.heap.size := h6.size
          clear h1 h2 h4 h5 h6 he2
          go_wp2_with (at_builtin; refine wpList_append_any _ rfl (.tmp 37) (.tmp 40) _ rfl w.heap.size 3 i0 _ 1 8 Try.underlying26 hi0 iz0 iz1 iz2 rfl (by omega) (.slice (some ⟨gl, 0, none⟩) q cap) q (iv l') rfl own3.out w3.heap.size A3 L.length c3 (iv L) rfl RL.out (iv_one L) (by unfold maxLen; omega) (by omega) (by omega) ?_; intro v4 w4 ho4 hg4 hat4)
          have hn := hide (st_see HS.out HQ.out HXE.out HS2.out HT2.out H6.out HL2.out HL4.out ho4 hg4)
          clear ho4 hg4 hat4
          go_wp2
          go_roundg (gk - 1)
          case measure => omega
          case rel => exact ⟨by omega, _, _, _, hn.out, hbn.out⟩
end Go.Proofs.Ytppffbpocmgafaa
