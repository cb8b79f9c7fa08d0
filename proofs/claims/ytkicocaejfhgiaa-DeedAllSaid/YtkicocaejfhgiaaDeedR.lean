/- Deed: the reference's helpers: down, numbers. -/
import Derived.Test.YtkicocaejfhgiaaDeedC
namespace Go.Proofs.Ytkicocaejfhgiaa
open Go.ChangeShapes Go.WideShapes Go.ChangeAt Go.RowKit
set_option linter.unusedVariables false

theorem numbers_same (A1 A2 : Option Addr) (c1 c2 n B1 B2 : Nat) (l : List Int) (w : World) (hn : l.length = n) (h1 : Reads w B1 1 A1 n (iv l)) (h2 : Reads w B2 1 A2 n (iv l)) (hl : n ≤ 1048576) :
    Calls Try.prog 12 #[.slice A1 n c1, .slice A2 n c2] w fun e w' => e = .returned (.bool true) ∧ ∃ m, w' = w.drewN m := by
  have H1 := hide h1
  have H2 := hide h2
  have HN := hide hn
  clear h1 h2 hn
  go_enter Try.func12, Try.ntmps12
  go_wp2_with (fail)
  go_loopw [5] (fun i wr => (∃ k : Nat, k ≤ n ∧ i = .int .i64 k ∧ Hid (∃ m, wr = w.drewN m))) (fun i _ => (n - intOf i).toNat)
  case atStart => exact ⟨0, by omega, rfl, 0, rfl⟩
  case round =>
    obtain ⟨k, hk, rfl, hw⟩ := hrel
    obtain ⟨m, rfl⟩ := hw.out
    by_cases hlt : k < n
    · obtain ⟨b1, o1, e1, _, d1⟩ := H1.out.plain (by omega) (by omega)
      obtain ⟨b2, o2, e2, _, d2⟩ := H2.out.plain (by omega) (by omega)
      have hkl : k < l.length := by have := HN.out; omega
      have g1 : w.cell? ⟨b1, o1 + k, none⟩ = some (.int .i64 l[k]) := d1 k _ (by simp [iv, hkl])
      have g2 : w.cell? ⟨b2, o2 + k, none⟩ = some (.int .i64 l[k]) := d2 k _ (by simp [iv, hkl])
      subst e1 e2
      obtain ⟨y, hy⟩ : ∃ y : Int, y = l[k] := ⟨_, rfl⟩
      rw [← hy] at g1 g2
      clear d1 d2 hy hkl hw
      go_wp2_with (fail)
      go_quiet (fail)
      go_wp2
      go_roundw
      case rel => exact ⟨k + 1, by omega, by go_num, m + nq, by simp⟩
      case measure => simp [intOf]; omega
    · obtain rfl : k = n := by omega
      clear hw
      go_wp2
      go_ret
      exact ⟨rfl, m, rfl⟩

theorem down_any (A : Option Addr) (c : Nat) (l : List Int) (w : World) (hr : Reads w w.heap.size 1 A l.length (iv l)) (hl : l.length ≤ 1048576) :
    Calls Try.prog 20 #[.slice A l.length c] w (GivesInts w l.reverse) := by
  obtain ⟨i0, hi0, hz0, hz1, hz2⟩ := info_parts Try.info3'
  have HR := hide hr
  clear hr
  go_enter Try.func20, Try.ntmps20
  go_wp2_with (fail)
  go_loopw [3, 4] (fun v i wr => (∃ k : Nat, k ≤ l.length ∧ i = .int .i64 ((l.length : Int) - 1 - k) ∧ wr.ownsRow w.heap.size 3 1 v k (iv (l.reverse.take k)) ∧ Below w.heap.size w wr)) (fun _ i _ => (intOf i + 1).toNat)
  case atStart => exact ⟨0, by omega, by simp, by simpa [iv] using World.ownsRow_nil w w.heap.size 3 1, Below.refl _ _⟩
  case round =>
    obtain ⟨k, hk, rfl, hown, hb⟩ := hrel
    by_cases hlt : k < l.length
    · obtain ⟨b1, o1, e1, hlt1, d1⟩ := HR.out.plain (by omega) (by omega)
      obtain ⟨j, hj⟩ : ∃ j : Nat, j = l.length - 1 - k := ⟨_, rfl⟩
      have g1 : w.cell? ⟨b1, o1 + j, none⟩ = some (.int .i64 (l[j]'(by omega))) := d1 j _ (by rw [iv_getElem?, List.getElem?_eq_getElem (by omega)]; rfl)
      subst e1
      obtain ⟨y, hy⟩ : ∃ y : Int, y = l[j]'(by omega) := ⟨_, rfl⟩
      rw [← hy] at g1
      have g2 : wr.cell? ⟨b1, o1 + j, none⟩ = some (.int .i64 y) := (hb.cell (p := ⟨b1, o1 + j, none⟩) hlt1).trans g1
      have hji : (l.length : Int) - 1 - k = j := by omega
      rw [hji]
      have hjl : (j : Int) < l.length := by omega
      have hstep : Hid (iv (l.reverse.take (k + 1)) = iv (l.reverse.take k) ++ [.int .i64 y]) := by
        show iv (l.reverse.take (k + 1)) = iv (l.reverse.take k) ++ [.int .i64 y]
        have : l.reverse[k]? = some y := by rw [List.getElem?_reverse hlt, show l.length - 1 - k = j from hj.symm, List.getElem?_eq_getElem (by omega), hy]
        rw [List.take_add_one, this]
        simp [iv]
      have hnews : Hid (Reads (wr.alloc (.cells #[.int .i64 y] 3)) (wr.heap.size + 1) 1 (some ⟨wr.heap.size, 0, none⟩) 1 [.int .i64 y]) := by
        refine ⟨rfl, fun _ => ⟨_, rfl, by simp, fun j u hu => ?_⟩⟩
        match j, hu with
        | 0, hu => simp at hu; subst hu; simp [Addr.add]
      have hz : w.heap.size ≤ wr.heap.size := hb.size
      have HO := hide hown
      have HB := hide hb
      have HJ := hide hj
      clear d1 hy hji hown hb hj g1
      obtain ⟨A', c', rfl⟩ := own_form HO.out
      go_wp2_with (at_builtin; refine wpList_append_any _ rfl (.tmp 12) (.tmp 17) _ rfl w.heap.size 3 i0 _ 1 8 Try.underlying27 hi0 hz0 hz1 hz2 rfl (by omega) (.slice A' k c') k (iv (l.reverse.take k)) rfl (HO.out.alloc _) (wr.heap.size + 1) _ 1 1 [.int .i64 y] rfl hnews.out (by simp [Value.oneCell']) (by simp only [maxLen]; omega) (by omega) (by simp; omega) ?_; intro v1 w2 hown1 hg1 hat1; have HO1 := hide hown1; have HB1 := hide ((HB.out.alloc hz _).grown hg1 (by simp; omega) (fun b hbk => ((HO.out.alloc (.cells #[.int .i64 y] 3)).lt b hbk).1)); clear hown1 hg1 hat1)
      go_wp2
      go_roundw
      case rel => exact ⟨k + 1, by omega, by have := HJ.out; rw [show ((l.length : Int) - 1 - ((k + 1 : Nat) : Int)) = (j : Int) - 1 by omega], by have := HO1.out; rw [hstep.out]; exact this, HB1.out⟩
      case measure => simp [intOf]
    · obtain rfl : k = l.length := by omega
      have HO := hide hown
      have HB := hide hb
      have e : (l.length : Int) - 1 - l.length = -1 := by omega
      rw [e]
      clear hown hb e
      go_wp2
      go_ret
      refine ⟨_, rfl, ?_, HB.out⟩
      have := HO.out
      rw [show l.reverse.take l.length = l.reverse by rw [← List.length_reverse, List.take_length]] at this
      rw [List.length_reverse]
      exact this
end Go.Proofs.Ytkicocaejfhgiaa
