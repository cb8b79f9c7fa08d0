/- Model: 'begun' answers true. -/
import Derived.Test.YtjjilaanlhpogaaModelE
namespace Go.Proofs.Ytjjilaanlhpogaa
open Go.ChangeShapes Go.WideShapes Go.ChangeAt Go.RowKit Go.Maps Go.MapKept Go.Sort
set_option linter.unusedVariables false

theorem nodup_one {α : Type} {L : List α} {a : α} (h : L.Nodup) (hm : ∀ x, x ∈ L ↔ x = a) : L = [a] := by
  match L, h, hm with
  | [], _, hm => exact absurd ((hm a).2 rfl) (by simp)
  | [b], _, hm => rw [(hm b).1 (by simp)]
  | b :: c :: r, h, hm =>
    have h1 := (hm b).1 (by simp)
    have h2 := (hm c).1 (by simp)
    subst h1 h2
    simp at h
theorem bt_inj {l : List UInt8} {s : ByteArray} (h : bt l = s) : l = s.data.toList := by rw [← h, bt_data]
/-- a table of one row -/
theorem keys_one {f : ByteArray → Option Rw} {r : Rw} {L : List (List UInt8)} (hf : ∀ x, f x = if x = r.k then some r else none) (h : Keys f L) : L = [r.k.data.toList] ∧ rowsL f L = [r] := by
  have e : L = [r.k.data.toList] := nodup_one h.1.2 (fun l => by
    rw [h.2, hf]
    by_cases e : bt l = r.k
    · rw [if_pos e]; simp [bt_inj e]
    · rw [if_neg e]
      constructor
      · intro h; cases h
      · intro h; exact absurd (by rw [h, bt_of]) e)
  refine ⟨e, ?_⟩
  rw [e]
  unfold rowsL
  simp only [List.map_cons, List.map_nil, bt_of, hf, if_true]
  rfl
theorem keys_none {f : ByteArray → Option Rw} {L : List (List UInt8)} (hf : ∀ x, f x = none) (h : Keys f L) : L = [] := by
  rw [List.eq_nil_iff_forall_not_mem]
  intro l hl
  have := (h.2 l).1 hl
  rw [hf] at this
  cases this
def sA : ByteArray := ⟨#[97]⟩
def sB : ByteArray := ⟨#[98]⟩
def rA : Rw := ⟨⟨#[97]⟩, ⟨#[115]⟩, ⟨#[118]⟩⟩
def fA : ByteArray → Option Rw := putR (fun _ => none) rA.k (some rA)
theorem rz_small (a b c : List UInt8) (h1 : a.length ≤ 1000) (h2 : b.length ≤ 1000) (h3 : c.length ≤ 1000) : Rz ⟨⟨a.toArray⟩, ⟨b.toArray⟩, ⟨c.toArray⟩⟩ := by
  unfold Rz maxLen
  simp only [ByteArray.size, List.size_toArray]
  omega
set_option maxRecDepth 100000 in
set_option maxHeartbeats 4000000 in
theorem begun_any (w : World) : Calls Try.prog 7 #[] w fun e w' => e = .returned (.bool true) ∧ Ext w w' := by
  go_enter Try.func7, Try.ntmps7
  go_wp2_with (fail)
  refine (new_any w).mono ?_
  rintro e wa ⟨rfl, ha⟩
  have HA := hide ha
  clear ha
  go_wp2_with (fail)
  refine (do_put w wa _ _ 0 (fun _ => none) 0 0 rA none 0 0 HA.out (by decide) (rz_small _ _ _ (by decide) (by decide) (by decide)) (by decide) rfl).mono ?_
  rintro e wb ⟨rfl, hb, _⟩
  have HB := hide (show Md w wb _ _ 1 fA from hb)
  clear hb HA
  go_wp2_with (fail)
  have HB1 := hide (HB.out.ex (Ext.new wb (.cells #[.int .i64 0, .slice none 0 0] 37)))
  refine (do_get w _ _ _ 1 fA 0 0 ⟨⟨#[97]⟩, .empty, .empty⟩ none 0 0 HB1.out (by decide) (rz_small [97] [] [] (by decide) (by decide) (by decide)) (by decide) rA rfl).mono ?_
  rintro e wc ⟨A1, c1, rfl, hc, xc⟩
  go_wp2_with (fail)
  obtain ⟨b1, cc1, hv1, _, hl1⟩ := hc.form (by simp)
  injection hv1 with hv1 _ hv3
  subst hv1
  have hcv := hc.cells (g := b1) rfl 2 (.string ⟨#[118]⟩) rfl
  have ea : (⟨b1, 0, none⟩ : Addr).add 2 = ⟨b1, 2, none⟩ := by unfold Addr.add; simp
  rw [ea] at hcv
  have HCV := hide hcv
  have xc1 : Ext wc (wc.alloc (.cells #[.int .i64 0, .slice (some ⟨b1, 0, none⟩) 1 c1] 37)) := Ext.new _ _
  have HC1 := hide ((HB1.out.ex xc).ex xc1)
  have X1 := hide xc
  have X1' := hide xc1
  clear hc hcv hv3 ea xc xc1
  refine (do_get_none w _ _ _ 1 fA 0 0 ⟨⟨#[98]⟩, .empty, .empty⟩ none 0 0 HC1.out (by decide) (rz_small [98] [] [] (by decide) (by decide) (by decide)) (by decide) (by rfl)).mono ?_
  rintro e wd ⟨rfl, xd⟩
  have X2 := hide xd
  have X2' := hide (Ext.new wd (.cells #[.int .i64 9, .slice none 0 0] 37))
  have HD1 := hide ((HC1.out.ex xd).ex X2'.out)
  clear xd
  go_wp2_with (fail)
  refine (rows_any w _ _ _ 1 fA HD1.out (by decide)).mono ?_
  rintro e we ⟨v, L, rfl, hK, hL, ho, hx⟩
  obtain ⟨A5, c5, hv5, _⟩ := own_form ho
  subst hv5
  have hk1 := (keys_one (f := fA) (r := rA) (fun x => rfl) hK).2
  have hlen : ((rowsL fA L).filter fun _ => true).length = 1 := by rw [hk1]; rfl
  rw [hlen]
  have X3 := hide hx
  have HE1 := hide (HD1.out.ex hx)
  have e23 := X2.out.trans (X2'.out.trans X3.out)
  have t2 := ((X1.out.trans X1'.out).trans e23).blk (Blk.new wb 37 #[.int .i64 0, .slice none 0 0])
  have t3 := e23.blk (Blk.new wc 37 #[.int .i64 0, .slice (some ⟨b1, 0, none⟩) 1 c1])
  have t4 := X3.out.blk (Blk.new wd 37 #[.int .i64 9, .slice none 0 0])
  have y2 := t2.cell 0
  have y3 := t3.cell 1
  have y4 := t4.cell 0
  have y5 := ((X1'.out.trans e23).cell (p := ⟨b1, 2, none⟩) hl1).trans HCV.out
  simp at y2 y3 y4
  clear ho hK hL hk1 hlen hx e23 t2 t3 t4 hl1 HCV
  go_wp2_with (go_at_call 9; refine (copy_any w _ _ _ 1 fA HE1.out).mono ?_; rintro e wf ⟨g', m', rfl, _, _, hmd, hx⟩)
  go_ret
  exact ⟨rfl, hmd.ext⟩
end Go.Proofs.Ytjjilaanlhpogaa
