/- Look: slices.Insert of one who lives (under way). -/
import Derived.Test.YtaijgnhkdbdfcaaLookC
import Derived.Test.YtaijgnhkdbdfcaaCopy
import Derived.Lib.Overlaps
namespace Go.Proofs.Ytaijgnhkdbdfcaa
open Go.ChangeShapes Go.WideShapes Go.ChangeAt Go.RowKit
set_option linter.unusedVariables false

/-- a list with one put in -/
def putN (L : List Lv) (i : Nat) (x : Lv) : List Lv := L.take i ++ x :: L.drop i
theorem lvs_put (L : List Lv) (i : Nat) (x : Lv) : lvs (putN L i x) = (lvs L).take (i * 4) ++ lvc x ++ (lvs L).drop (i * 4) := by
  have e : ∀ (L : List Lv) (i : Nat), (lvs L).take (i * 4) = lvs (L.take i) ∧ (lvs L).drop (i * 4) = lvs (L.drop i) := by
    intro L
    induction L with
    | nil => intro i; simp [lvs]
    | cons a L ih =>
      intro i
      cases i with
      | zero => simp [lvs]
      | succ i =>
        have h := ih i
        simp only [lvs, List.flatMap_cons, lvc] at h ⊢
        rw [show (i + 1) * 4 = i * 4 + 1 + 1 + 1 + 1 by omega]
        simp [h.1, h.2, lvc]
  rw [(e L i).1, (e L i).2]
  simp [putN, lvs]
/-- what Insert gives -/
def GivesIns (w : World) (base : Nat) (v : Value) (n : Nat) (xs : List Value) (e : Ending) (w' : World) : Prop :=
  ∃ A' c', e = .returned (.slice A' (n + 1) c') ∧ w'.ownsRow base 49 4 (.slice A' (n + 1) c') (n + 1) xs ∧ Touch w w' (fun k => v.ownBlock = some k)
set_option maxRecDepth 100000 in
set_option maxHeartbeats 4000000 in
theorem insert_end (w : World) (base : Nat) (A : Option Addr) (c n : Nat) (xs ys : List Value) (vb : Nat) (ho : w.ownsRow base 49 4 (.slice A n c) n xs) (hv : Blk w vb 49 ys.toArray) (hy : ys.length = 4) (h1 : ∀ u ∈ ys, u.oneCell' = true) (hb : base ≤ w.heap.size) (hl : n ≤ 1000) :
    Calls Try.prog 34 #[.slice A n c, .int .i64 (n : Int), .slice (some ⟨vb, 0, none⟩) 1 1] w (GivesIns w base (.slice A n c) n (xs ++ ys)) := by
  obtain ⟨i0, z0, hi0, hz0, hzs0, hs0, hb0⟩ := info_parts2 Try.info49'
  obtain ⟨_, _, e, _, hnc, hcm, hAd⟩ := own_form ho
  injection e with e1 e2 e3
  subst e1 e3
  have HO := hide ho
  have H1 := hide h1
  have HR := hide (show Reads w w.heap.size 4 (some ⟨vb, 0, none⟩) 1 ys from by have := reads_blk (m := 4) hv (by simp [hy]); simpa using this)
  clear ho hv hy h1 hAd
  have hnci : (n : Int) ≤ (c : Int) := by omega
  by_cases hcn : c = n
  · subst hcn
    go_enter Try.func34, Try.ntmps34
    go_wp2_with (at_builtin; refine wpList_append_any _ rfl (.tmp 23) (.tmp 24) _ rfl base 49 i0 z0 4 32 Try.underlying31 hi0 hz0 hs0 hb0 hzs0 (by omega) (.slice A c c) c xs rfl HO.out _ (some ⟨vb, 0, none⟩) 1 1 ys rfl HR.out H1.out (by simp only [maxLen]; omega) (by omega) hb ?_; intro v1 w1 ho1 hg1 hat1; obtain ⟨A1, c1, hv1, _⟩ := own_form ho1; subst hv1; have O1 := hide ho1; have T1 := hide ((Touch.refl w (fun k => Value.ownBlock (.slice A c c) = some k)).grown hg1 (fun k hk _ => hk)); clear ho1 hg1 hat1)
    go_ret
    exact ⟨A1, c1, rfl, O1.out, T1.out⟩
  · have dcn : (c == n) = false := by simpa using hcn
    go_enter Try.func34, Try.ntmps34
    go_wp2_with (at_builtin; refine wpList_append_any _ rfl (.tmp 23) (.tmp 24) _ rfl base 49 i0 z0 4 32 Try.underlying31 hi0 hz0 hs0 hb0 hzs0 (by omega) (.slice A n c) n xs rfl HO.out _ (some ⟨vb, 0, none⟩) 1 1 ys rfl HR.out H1.out (by simp only [maxLen]; omega) (by omega) hb ?_; intro v1 w1 ho1 hg1 hat1; obtain ⟨A1, c1, hv1, _⟩ := own_form ho1; subst hv1; have O1 := hide ho1; have T1 := hide ((Touch.refl w (fun k => Value.ownBlock (.slice A n c) = some k)).grown hg1 (fun k hk _ => hk)); clear ho1 hg1 hat1)
    go_ret
    exact ⟨A1, c1, rfl, O1.out, T1.out⟩
end Go.Proofs.Ytaijgnhkdbdfcaa
