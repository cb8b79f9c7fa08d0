/- LockAll: the document's answers: Free, Ask. -/
import Derived.Test.YtebflbpjmpmnjaaLockAllR
import Derived.Deep.Cut
import Derived.Deep.DeepCutAuto
import Derived.Deep.CutBlock
namespace Go.Proofs.Ytebflbpjmpmnjaa
open Go.ChangeShapes Go.WideShapes Go.ChangeAt Go.RowKit Go.Maps
set_option linter.unusedVariables false

theorem Rl.turn {W w w5 : World} {rb c m : Nat} {A : Option Addr} {R : List Lw} {u : Value} (hW : Ext W w) (hrb : W.heap.size ≤ rb) (hx : Ext w w5) (hb : Blk w5 rb 35 #[u]) (hm : m = R.length)
    (ho : w5.ownsRow w.heap.size 58 3 (.slice A m c) m (lcs R)) : Rl W (w5.setCell ⟨rb, 0, none⟩ (.slice A m c)) rb A c R ∧ Touch w (w5.setCell ⟨rb, 0, none⟩ (.slice A m c)) (fun a => a = rb) := by
  subst hm
  have t1 : Touch w5 (w5.setCell ⟨rb, 0, none⟩ (.slice A R.length c)) (fun a => a = rb) := Touch.setCell (F := fun a => a = rb) (p := ⟨rb, 0, none⟩) (Touch.refl w5 _) (fun _ => rfl) _
  have b1 := hb.set_ 0 (.slice A R.length c)
  simp only [List.setIfInBounds_toArray, List.set_cons_zero] at b1
  have o1 := ownsRow_touch t1 ho (fun z hz e => by subst e; exact own_blk_ne ho hb (by decide) hz)
  exact ⟨⟨b1, World.ownsRow.mono o1 hW.size, hrb, (hW.trans hx).set_ (p := ⟨rb, 0, none⟩) hrb _⟩, (Touch.of_below hx _).trans t1 (fun _ _ h => h)⟩
set_option maxRecDepth 100000 in
set_option maxHeartbeats 2000000 in
theorem rfree_any (W w : World) (rb : Nat) (A : Option Addr) (c : Nat) (R : List Lw) (who : Int) (h : Rl W w rb A c R) (hn : R.length ≤ 1000) :
    Calls Try.prog 14 #[.pointer (some ⟨rb, 0, none⟩), .int .i64 who] w fun e w' => e = .returned (.tuple #[]) ∧ ∃ A' c', Rl W w' rb A' c' (R.filter fun x => decide (x.who ≠ who)) ∧ Touch w w' (fun a => a = rb) := by
  have H := hide h
  obtain ⟨i0, hi0, iz0, iz1, iz2⟩ := info_parts Try.info58'
  obtain ⟨n, hN⟩ : ∃ n, n = R.length := ⟨_, rfl⟩
  rw [← hN] at hn
  have HN := hide hN
  obtain ⟨p, hp⟩ : ∃ p : Lw → Bool, p = (fun x => decide (x.who ≠ who)) := ⟨_, rfl⟩
  have HP := hide hp
  rw [← hp]
  have c0 := h.blk.cell 0
  simp at c0
  rw [← hN] at c0
  clear h hN hp
  go_enter Try.func14, Try.ntmps14
  go_wp2_with (fail)
  go_loopw [4, 5] (fun s4 s5 wr => (∃ i : Nat, i ≤ n ∧ s5 = .int .i64 i ∧ Hid (Ext w wr ∧ wr.ownsRow w.heap.size 58 3 s4 ((R.take i).filter p).length (lcs ((R.take i).filter p))))) (fun _ s5 _ => (n - intOf s5).toNat)
  case atStart => exact ⟨0, by omega, rfl, Ext.refl _, World.ownsRow_nil _ _ _ _⟩
  case round =>
    obtain ⟨i, hi, rfl, hs⟩ := hrel
    have X := hide hs.out.1
    have ho := hs.out.2
    obtain ⟨A4, c4, hv4, _⟩ := own_form ho
    subst hv4
    have HO := hide ho
    have HW := hide (H.out.ex X.out)
    have cw := HW.out.blk.cell 0
    simp at cw
    rw [← HN.out] at cw
    have fw := HW.out.blk.frozen 0
    have hrl : rb < wr.heap.size := HW.out.blk.lt
    clear hs ho c0
    by_cases hlt : i < n
    · obtain ⟨x, hx⟩ : ∃ x, R[i]? = some x := ⟨_, List.getElem?_eq_getElem (by rw [← HN.out]; exact hlt)⟩
      obtain ⟨g, hA, hgl⟩ := Rl.some_ HW.out (by rw [← HN.out]; omega)
      subst hA
      obtain ⟨x0, x1, x2⟩ := own_lock_at HW.out.own hx
      have HX := hide hx
      have hcnt : ((R.take i).filter p).length ≤ 1000 := Nat.le_trans (List.length_filter_le _ _) (by rw [List.length_take]; omega)
      obtain ⟨T, hT⟩ : ∃ T, T = (R.take i).filter p := ⟨_, rfl⟩
      have HT := hide hT
      rw [← hT] at HO hcnt ⊢
      clear hx hT
      by_cases h1 : x.who = who
      · have d1 : (x.who == who) = true := by rw [h1]; exact beq_self_eq_true _
        have HF := hide (show ¬ p x = true by rw [HP.out]; simpa using h1)
        clear h1
        go_wp2_with (fail)
        go_roundw
        case rel => exact ⟨i + 1, by omega, by go_num, X.out, by rw [takeF HX.out, if_neg HF.out, List.append_nil, ← HT.out]; exact HO.out⟩
        case measure => simp [intOf]; omega
      · have d1 : (x.who == who) = false := by simpa using h1
        have HF := hide (show p x = true by rw [HP.out]; simpa using h1)
        clear h1
        go_wp2_with (at_builtin; refine wpList_append_any _ rfl (.tmp 25) (.tmp 33) _ rfl w.heap.size 58 i0 _ 3 32 Try.underlying33 hi0 iz0 iz1 iz2 rfl (by omega) (.slice A4 T.length c4) T.length (lcs T) rfl (Ext.own (Ext.new wr _) HO.out) _ (some ⟨wr.heap.size, 0, none⟩) 1 1 (lc x) rfl (reads_blk (m := 3) (Blk.new wr 58 #[.int .i64 x.who, .string x.what, .int .i64 x.mode]) rfl) (lc_one x) (by unfold maxLen; omega) (by omega) (by have := X.out.size; simp; omega) ?_; intro v3 w3 ho3 hg3 hat3; have E3 := hide (Ext.grown (X.out.alloc _) hg3 (fun z hz => (HO.out.lt z hz).1)); rw [← lcs_snoc] at ho3; have O3 := hide ho3; clear ho3 hg3 hat3)
        go_roundw
        case rel => exact ⟨i + 1, by omega, by go_num, E3.out, by
          rw [takeF HX.out, if_pos HF.out, ← HT.out]
          have e : (T ++ [x]).length = T.length + 1 := by simp
          rw [e]
          exact O3.out⟩
        case measure => simp [intOf]; omega
    · obtain rfl : i = n := by omega
      have eT : R.take i = R := List.take_of_length_le (by rw [← HN.out]; exact Nat.le_refl _)
      rw [eT] at HO ⊢
      go_wp2_with (fail)
      have hfin := Rl.turn (m := (R.filter p).length) (R := R.filter p) H.out.ext H.out.hb X.out HW.out.blk rfl HO.out
      refine bodyPost_end (by simp [results, Try.results14, go_sem]) rfl ⟨rfl, A4, c4, hfin.1, hfin.2⟩
end Go.Proofs.Ytebflbpjmpmnjaa
