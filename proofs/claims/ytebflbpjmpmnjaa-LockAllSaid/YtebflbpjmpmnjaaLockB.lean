/- Lock: Ask where it is known what comes out; 'begun' answers true. -/
import Derived.Test.YtebflbpjmpmnjaaLockA
namespace Go.Proofs.Ytebflbpjmpmnjaa
open Go.ChangeShapes Go.WideShapes Go.ChangeAt Go.RowKit Go.Maps Go.ChangeMaps Go.MapKept Go.Sort
set_option linter.unusedVariables false

theorem Rises.nodup {l : List Int} (h : Rises l) : l.Nodup := h.imp (fun h => by omega)
theorem rises_same {L M : List Int} (hL : Rises L) (hM : Rises M) (h : ∀ x, x ∈ L ↔ x ∈ M) : L = M := by
  refine List.Perm.eq_of_pairwise (le := fun a b => a ≤ b) (fun a b _ _ h1 h2 => by omega) (hL.imp (fun h => by omega)) (hM.imp (fun h => by omega)) ?_
  exact (List.perm_ext_iff_of_nodup hL.nodup hM.nodup).2 h
theorem Others.same {F : ByteArray → Int → Int} {s : ByteArray} {who m : Int} {L M : List Int} (hL : Others F s who m L) (hM : Others F s who m M) : L = M :=
  rises_same hL.1 hM.1 (fun x => (hL.2 x).trans (hM.2 x).symm)
theorem ask_yes (W w : World) (g N c : Nat) (F : ByteArray → Int → Int) (s : ByteArray) (who md : Int) (h : Has W w g N c F) (hw : Wf who) (hs : Sz s) (h0 : 0 < md) (h1 : md ≤ 4) (hc : c ≤ 1000) (hN : N ≤ 1000) (ho : Others F s who md []) :
    Calls Try.prog 10 #[.pointer (some ⟨g, 0, none⟩), .int .i64 who, .string s, .int .i64 md] w fun e w' => e = .returned (.tuple #[.slice none 0 0, .bool true]) ∧ Has W w' g (N + 1) (c + 1) (setF F s who md) ∧ Cells w w' := by
  refine (has_ask W w g N c F s who md h hw hs h0 h1 hc hN).mono ?_
  rintro e w' ⟨L, hL, _, hC, ⟨hne, _⟩ | ⟨_, he, hh⟩⟩
  · exact absurd (hL.same ho) hne
  · exact ⟨he, hh, hC⟩
theorem ask_no (W w : World) (g N c : Nat) (F : ByteArray → Int → Int) (s : ByteArray) (who md : Int) (L : List Int) (h : Has W w g N c F) (hw : Wf who) (hs : Sz s) (h0 : 0 < md) (h1 : md ≤ 4) (hc : c ≤ 1000) (hN : N ≤ 1000) (ho : Others F s who md L) (hne : L ≠ []) :
    Calls Try.prog 10 #[.pointer (some ⟨g, 0, none⟩), .int .i64 who, .string s, .int .i64 md] w fun e w' => ∃ A cc, e = .returned (.tuple #[.slice A L.length cc, .bool false]) ∧ w'.ownsRow w.heap.size 3 1 (.slice A L.length cc) L.length (iv L) ∧ Has W w' g N c F ∧ Ext w w' := by
  refine (has_ask W w g N c F s who md h hw hs h0 h1 hc hN).mono ?_
  rintro e w' ⟨M, hM, _, hC, ⟨_, v, he, hv, hh, hx⟩ | ⟨he, _⟩⟩
  · obtain rfl := hM.same ho
    obtain ⟨A, cc, rfl, _⟩ := own_form hv
    exact ⟨A, cc, he, hv, hh, hx⟩
  · exact absurd ((ho.same hM).trans he) hne
theorem setF_at (F : ByteArray → Int → Int) (s z : ByteArray) (who m y : Int) : setF F s who m z y = if z = s then (if y = who then joinP (F s who) m else F s y) else F z y := by
  unfold setF putI
  by_cases h : z = s <;> simp [h]
theorem nodup_one {α : Type} {L : List α} {a : α} (h : L.Nodup) (hm : ∀ x, x ∈ L ↔ x = a) : L = [a] := by
  match L, h, hm with
  | [], _, hm => exact absurd ((hm a).2 rfl) (by simp)
  | [b], _, hm => rw [(hm b).1 (by simp)]
  | b :: c :: r, h, hm =>
    have h1 := (hm b).1 (by simp)
    have h2 := (hm c).1 (by simp)
    subst h1 h2
    simp at h
theorem nodup_nil {α : Type} {L : List α} (hm : ∀ x, x ∉ L) : L = [] := List.eq_nil_iff_forall_not_mem.2 hm
def F0 : ByteArray → Int → Int := fun _ _ => 0
def sx : ByteArray := ⟨#[120]⟩
theorem szx : Sz sx := by unfold Sz; decide
theorem others0 (s : ByteArray) (who md : Int) : Others F0 s who md [] := ⟨List.Pairwise.nil, fun x => by simp [F0]⟩
def F1 : ByteArray → Int → Int := setF F0 sx 1 4
theorem f1_at (s : ByteArray) (x : Int) : F1 s x = if s = sx ∧ x = 1 then 4 else 0 := by
  unfold F1
  rw [setF_at]
  have e : joinP (F0 sx 1) 4 = 4 := by decide
  rw [e]
  by_cases h : s = sx <;> by_cases h2 : x = 1 <;> simp [h, h2, F0]
theorem others1 : Others F1 sx 2 3 [1] := ⟨by simp [Rises], fun x => by
  rw [f1_at, f1_at]
  by_cases h : x = 1
  · subst h
    simp
    decide
  · simp [h]⟩
theorem own_one {w : World} {base e : Nat} {A : Option Addr} {c : Nat} {x : Value} (h : w.ownsRow base e 1 (.slice A 1 c) 1 [x]) : ∃ b, A = some ⟨b, 0, none⟩ ∧ w.cell? ⟨b, 0, none⟩ = some x ∧ b < w.heap.size := by
  obtain ⟨g, cap, hv, _, hlt⟩ := h.form (by omega)
  injection hv with hA
  subst hA
  refine ⟨g, rfl, ?_, hlt⟩
  have := h.cells (g := g) rfl 0 x rfl
  have e : (⟨g, 0, none⟩ : Addr).add 0 = ⟨g, 0, none⟩ := by unfold Addr.add; split <;> simp_all
  rwa [e] at this
set_option maxRecDepth 100000 in
set_option maxHeartbeats 4000000 in
theorem begun_any (w : World) : Calls Try.prog 8 #[] w fun e w' => e = .returned (.bool true) ∧ Ext w w' := by
  have w1 := hide (wf_small (x := 1) (by decide) (by decide))
  have w2 := hide (wf_small (x := 2) (by decide) (by decide))
  have SX := hide szx
  go_enter Try.func8, Try.ntmps8
  go_wp2_with (fail)
  refine (has_new w).mono ?_
  rintro e wa ⟨rfl, ha⟩
  have HA := hide ha
  clear ha
  go_wp2_with (fail)
  refine (ask_yes w wa _ 0 0 F0 sx 1 4 HA.out w1.out SX.out (by decide) (by decide) (by decide) (by decide) (others0 _ _ _)).mono ?_
  rintro e wb ⟨rfl, hb, _⟩
  have HB := hide (show Has w wb _ 1 1 F1 from hb)
  clear hb
  go_wp2_with (fail)
  refine (ask_no w wb _ 1 1 F1 sx 2 3 [1] HB.out w2.out SX.out (by decide) (by decide) (by decide) (by decide) others1 (by simp)).mono ?_
  rintro e wc ⟨A, cc, rfl, hv, hc, hx⟩
  obtain ⟨b, rfl, hcell, hbl⟩ := own_one hv
  have HC := hide hc
  have HV := hide hcell
  clear hv hc hcell hx
  go_wp2_with (fail)
  refine (has_locks w wc _ 1 1 F1 1 HC.out w1.out (by omega)).mono ?_
  rintro e wd ⟨v, L, rfl, q1, q2, q3, q4, q5⟩
  obtain rfl : L = [[120]] := nodup_one q1.2 (fun l => by
    rw [q2, f1_at]
    by_cases h : l = [120]
    · have e : bt l = sx := by rw [h]; rfl
      rw [e]
      simp [h]
    · have e : bt l ≠ sx := fun e => h (by rw [← bt_data l, e]; rfl)
      simp [h, e])
  obtain ⟨A2, c2, rfl, _⟩ := own_form q4
  obtain ⟨b2, rfl, hcell2, hbl2⟩ := own_one q4
  have HD := hide (HC.out.ext q5)
  have HV1 := hide ((q5.cell (p := ⟨b, 0, none⟩) hbl).trans HV.out)
  have HV2 := hide (show wd.cell? ⟨b2, 0, none⟩ = some (.string ⟨#[120]⟩) from hcell2)
  have hbd : b < wd.heap.size := Nat.lt_of_lt_of_le hbl q5.size
  clear q1 q2 q3 q4 q5 hcell2
  go_wp2_with (fail)
  refine (has_holders w wd _ 1 1 F1 sx HD.out SX.out (by omega)).mono ?_
  rintro e we ⟨v, L, rfl, q1, q2, q3, q4, q5, q6⟩
  obtain rfl : L = [1] := nodup_one q1.nodup (fun x => by rw [q2, f1_at]; simp)
  obtain ⟨A3, c3, rfl, _⟩ := own_form q5
  have HE := hide (HD.out.ext q6)
  have y1 := (q6.cell (p := ⟨b, 0, none⟩) hbd).trans HV1.out
  have y2 := (q6.cell (p := ⟨b2, 0, none⟩) hbl2).trans HV2.out
  have hf4 : F1 sx 1 = 4 := by rw [f1_at]; simp
  have HF4 := hide hf4
  clear q1 q2 q3 q4 q5 q6 hf4
  go_wp2_with (go_at_call 12; refine (has_held w _ _ 1 1 F1 1 sx HE.out w1.out SX.out).mono ?_; rintro e w' ⟨rfl, rfl⟩; rw [HF4.out])
  go_ret
  exact ⟨rfl, HE.out.world⟩
end Go.Proofs.Ytebflbpjmpmnjaa
