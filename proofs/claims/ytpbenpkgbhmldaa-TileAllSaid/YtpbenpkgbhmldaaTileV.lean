/- Tile: the document's disk: contracts: cut and done in one, Write, Sync, Arm. -/
import Derived.Test.YtpbenpkgbhmldaaTileU
namespace Go.Proofs.Ytpbenpkgbhmldaa
open Go.ChangeShapes Go.WideShapes Go.ChangeAt Go.RowKit Go.Maps
set_option linter.unusedVariables false

/-- does the operation that comes get cut? -/
def cutB (on : Bool) (pa : Int) : Bool := on && decide (pa = 0)
def cutA (on : Bool) (pa : Int) : Int := if on then pa - 1 else pa
def RkAt (B : Nat) (w' : World) (b n : Nat) (A1 A2 A3 Am : Option Addr) (c1 c2 c3 km cm : Nat) (T V : List (List UInt8)) (L : List Bool) (dead on : Bool) (pa : Int) (M : List UInt8) (w : World) : Prop :=
  Rk B w' b n A1 A2 A3 Am c1 c2 c3 km cm T V L dead on pa M ∧ RTurn B w w'
section
variable {B : Nat} {w w' : World} {b n : Nat} {A1 A2 A3 Am : Option Addr} {c1 c2 c3 km cm : Nat} {T V : List (List UInt8)} {L : List Bool} {dead on : Bool} {pa : Int} {M : List UInt8}
theorem rcut_any (h : Rk B w b n A1 A2 A3 Am c1 c2 c3 km cm T V L dead on pa M) (hp : on = true → 0 ≤ pa ∧ pa ≤ 9223372036854775807) :
    Calls Try.prog 37 #[.pointer (some ⟨b, 0, none⟩)] w fun e w' => e = .returned (.bool (cutB on pa)) ∧ RkAt B w' b n A1 A2 A3 Am c1 c2 c3 km cm T V L dead on (cutA on pa) M w := by
  cases on with
  | false => exact (rcut_off h).mono fun e w' ⟨h1, h2⟩ => ⟨h1, h2 ▸ h, h2 ▸ RTurn.refl B w⟩
  | true =>
    obtain ⟨h0, h1⟩ := hp rfl
    by_cases hz : pa = 0
    · subst hz
      exact (rcut_yes h).mono fun e w' ⟨h1, h2⟩ => ⟨h1, h2⟩
    · exact (rcut_no h (by omega) h1).mono fun e w' ⟨h1, h2⟩ => ⟨by rw [h1]; simp [cutB, hz], h2⟩
end
def Downs (B : Nat) (w : World) (b n : Nat) (A1 A2 A3 Am : Option Addr) (c1 c2 c3 km cm : Nat) (T : List (List UInt8)) (U : Int → Option (List UInt8)) (dead on : Bool) (pa : Int) (M : List UInt8) (cb : Bool) (e : Ending) (w' : World) : Prop :=
  (cb = false ∧ e = .returned (.int .i64 0) ∧ w = w') ∨ (cb = true ∧ e = .returned (.int .i64 2) ∧ RkAt B w' b n A1 A2 A3 Am c1 c2 c3 km cm (crT M U T) (crT M U T) (lL (crT M U T) (fun _ => none)) true false pa M w)
set_option maxRecDepth 100000 in
theorem rdone_any {B : Nat} {w : World} {b n : Nat} {A1 A2 A3 Am : Option Addr} {c1 c2 c3 km cm : Nat} {T : List (List UInt8)} {U : Int → Option (List UInt8)} {dead on : Bool} {pa : Int} {M : List UInt8} (cb : Bool)
    (h : Rk B w b n A1 A2 A3 Am c1 c2 c3 km cm T (vL T U) (lL T U) dead on pa M) (hm : km ≤ 1048576) (hn : n ≤ 2000) :
    Calls Try.prog 38 #[.pointer (some ⟨b, 0, none⟩), .bool cb] w (Downs B w b n A1 A2 A3 Am c1 c2 c3 km cm T U dead on pa M cb) := by
  have H := hide h
  have HM := hide (show M.length = km by have := h.mask.1; simpa [bv] using this)
  have HR := hide (fun w' (ht : RTurn B w w') => Reads.of_own (ht.own h.mask (by decide) (by decide) (by decide)) : ∀ w', RTurn B w w' → Reads w' w'.heap.size 1 Am km (bv M))
  obtain ⟨y0, y1, y2, y3, y4, y5, y6⟩ := h.cells
  clear h
  cases cb with
  | false =>
    go_enter Try.func38, Try.ntmps38
    go_wp2
    go_ret
    exact .inl ⟨rfl, rfl, rfl⟩
  | true =>
    go_enter Try.func38, Try.ntmps38
    go_wp2_with (go_at_call 26; refine (rcrash_any Am km cm M H.out HM.out hm hn HR.out).mono ?_; rintro e w1 ⟨rfl, h1, h2⟩; have H1 := hide h1; have H2 := hide h2; clear h1 h2)
    go_ret
    exact .inr ⟨rfl, rfl, H1.out, H2.out⟩
/-- what a Write leaves -/
def RWrote (B : Nat) (w : World) (b : Nat) (T : List (List UInt8)) (U : Int → Option (List UInt8)) (pl : Option (Int × List UInt8)) (k : Nat) (bs : List UInt8) (e : Ending) (w' : World) : Prop :=
  RTurn B w w' ∧ ((e = .returned (.int .i64 0) ∧ (∀ M, pl ≠ some (0, M)) ∧ Rf B w' b false (T.set k bs) (wrU T U k) (dec pl)) ∨
    (e = .returned (.int .i64 2) ∧ ∃ M, pl = some (0, M) ∧ Rf B w' b true (crT M (wrU T U k) (T.set k bs)) (fun _ => none) none))
theorem dec_if (on : Bool) (pa : Int) (M : List UInt8) : dec (if on then some (pa, M) else none) = (if on then some (cutA on pa, M) else none) := by
  cases on <;> rfl
theorem cut_not {on : Bool} {pa : Int} {M : List UInt8} (h : cutB on pa = false) : ∀ M', (if on then some (pa, M) else none) ≠ some (0, M') := by
  intro M' e
  cases on with
  | false => cases e
  | true =>
    injection e with e
    injection e with e1 e2
    subst e1
    simp [cutB] at h
theorem cut_is {on : Bool} {pa : Int} {M : List UInt8} (h : cutB on pa = true) : (if on then some (pa, M) else none) = some (0, M) := by
  cases on with
  | false => cases h
  | true =>
    have : pa = 0 := by simpa [cutB] using h
    rw [this]
    rfl
theorem Rf.pok {B : Nat} {w : World} {b : Nat} {dead on : Bool} {pa : Int} {M : List UInt8} {n km : Nat} {pl : Option (Int × List UInt8)} (hp : Pok pl) (e : pl = (if on then some (pa, M) else none)) : on = true → 0 ≤ pa ∧ pa ≤ 9223372036854775807 := fun h => by
  subst h
  subst e
  exact ⟨hp.1, hp.2.1⟩
/-- the disk behind a crash -/
theorem rf_crash {B : Nat} {w' : World} {b n : Nat} {A1 A2 A3 Am : Option Addr} {c1 c2 c3 km cm : Nat} {T : List (List UInt8)} {pa : Int} {M : List UInt8} (h : Rk B w' b n A1 A2 A3 Am c1 c2 c3 km cm T T (lL T (fun _ => none)) true false pa M) : Rf B w' b true T (fun _ => none) none := by
  have hl := h.lt_.1
  subst hl
  exact ⟨A1, A2, A3, Am, c1, c2, c3, km, cm, false, pa, M, by rw [vL_none]; exact h, rfl⟩
section
variable {B : Nat} {w : World} {b : Nat} {T : List (List UInt8)} {U : Int → Option (List UInt8)} {pl : Option (Int × List UInt8)}
theorem rwrite_dead (x : Int) (A : Option Addr) (n c : Nat) (h : Rf B w b true T U pl) :
    Calls Try.prog 24 #[.pointer (some ⟨b, 0, none⟩), .int .i64 x, .slice A n c] w fun e w' => e = .returned (.int .i64 2) ∧ w = w' := by
  obtain ⟨A1, A2, A3, Am, c1, c2, c3, km, cm, on, pa, M, h, e⟩ := h
  obtain ⟨y0, y1, y2, y3, y4, y5, y6⟩ := h.cells
  clear h e
  go_enter Try.func24, Try.ntmps24
  go_wp2
  go_ret
  exact ⟨rfl, rfl⟩
theorem rwrite_out (x : Int) (A : Option Addr) (n c : Nat) (h : Rf B w b false T U pl) (hx : x < 0 ∨ (T.length : Int) ≤ x) :
    Calls Try.prog 24 #[.pointer (some ⟨b, 0, none⟩), .int .i64 x, .slice A n c] w fun e w' => e = .returned (.int .i64 1) ∧ w = w' := by
  obtain ⟨A1, A2, A3, Am, c1, c2, c3, km, cm, on, pa, M, h, e⟩ := h
  obtain ⟨y0, y1, y2, y3, y4, y5, y6⟩ := h.cells
  clear h e
  by_cases h0 : x < 0
  · have d0 : decide (x < 0) = true := decide_eq_true h0
    clear hx
    go_enter Try.func24, Try.ntmps24
    go_wp2
    go_ret
    exact ⟨rfl, rfl⟩
  · have d0 : decide (x < 0) = false := decide_eq_false h0
    have d1 : decide ((T.length : Int) ≤ x) = true := decide_eq_true (by omega)
    clear hx
    go_enter Try.func24, Try.ntmps24
    go_wp2
    go_ret
    exact ⟨rfl, rfl⟩
theorem rwrite_len (k : Nat) (A : Option Addr) (n c : Nat) (h : Rf B w b false T U pl) (hk : k < T.length) (hn : ((n : Int) != 64) = true) :
    Calls Try.prog 24 #[.pointer (some ⟨b, 0, none⟩), .int .i64 k, .slice A n c] w fun e w' => e = .returned (.int .i64 1) ∧ w = w' := by
  obtain ⟨A1, A2, A3, Am, c1, c2, c3, km, cm, on, pa, M, h, e⟩ := h
  obtain ⟨y0, y1, y2, y3, y4, y5, y6⟩ := h.cells
  clear h e
  have d0 : decide ((k : Int) < 0) = false := decide_eq_false (by omega)
  have d1 : decide (T.length ≤ k) = false := decide_eq_false (by omega)
  go_enter Try.func24, Try.ntmps24
  go_wp2
  go_ret
  exact ⟨rfl, rfl⟩
set_option maxRecDepth 100000 in
set_option maxHeartbeats 8000000 in
theorem rwrite_in (k : Nat) (bs : List UInt8) (A : Option Addr) (c : Nat) (h : Rf B w b false T U pl) (hp : Pok pl) (hk : k < T.length) (hT : T.length ≤ 2000) (hr : ∀ w', RTurn B w w' → Reads w' w'.heap.size 1 A 64 (bv bs)) :
    Calls Try.prog 24 #[.pointer (some ⟨b, 0, none⟩), .int .i64 k, .slice A 64 c] w (RWrote B w b T U pl k bs) := by
  obtain ⟨A1, A2, A3, Am, c1, c2, c3, km, cm, on, pa, M, h, e⟩ := h
  have H := hide h
  have HE := hide e
  have HP := hide (Rf.pok (B := B) (w := w) (b := b) (dead := false) (n := 0) (km := 0) hp e)
  obtain ⟨y0, y1, y2, y3, y4, y5, y6⟩ := h.cells
  obtain ⟨n, hn⟩ : ∃ n, n = T.length := ⟨_, rfl⟩
  rw [← hn] at H y0 y1 y2 hk hT
  have HN := hide hn
  have HR := hide hr
  have hki : (k : Int) < (n : Int) := by omega
  have d0 : decide ((k : Int) < 0) = false := decide_eq_false (by omega)
  have d1 : decide (n ≤ k) = false := decide_eq_false (by omega)
  clear h e hp hn hr
  go_enter Try.func24, Try.ntmps24
  go_wp2_with (fail)
  refine (rcut_any H.out HP.out).mono ?_
  rintro e w1 ⟨rfl, h1, t1⟩
  obtain ⟨cb, hcb⟩ : ∃ cb, cb = cutB on pa := ⟨_, rfl⟩
  rw [← hcb]
  have HC := hide hcb
  have T1 := hide t1
  have H1 := hide h1
  obtain ⟨g1, g2, g3, t, v, l, rfl, rfl, rfl, p1, p2, p3, z1, z2, z3, f1, f2, f3, n12, n13, n23, nb1, nb2, nb3⟩ := h1.at_ hk
  obtain ⟨y0, y1, y2, y3, y4, y5, y6⟩ := h1.cells
  have hconv := conv_reads (c := c) (HR.out w1.drew (T1.out.trans (RTurn.of_ext (Ext.drew (Ext.refl _)))))
  have HA := hide (H1.out.now_ k bs)
  have HB := hide (HA.out.1.wet_ k true)
  clear t1 h1 hcb p1 p2 p3
  go_wp2_with (fail)
  go_region
  have HB2 := hide (show Rk B ((w1.setCell ⟨g1, k, none⟩ (.string (str bs))).setCell ⟨g3, k, none⟩ (.bool true)).drew b n (some ⟨g1, 0, none⟩) (some ⟨g2, 0, none⟩) (some ⟨g3, 0, none⟩) Am c1 c2 c3 km cm (T.set k bs) (vL (T.set k bs) (wrU T U k)) (lL (T.set k bs) (wrU T U k)) false on (cutA on pa) M from by
    rw [vL_wr, lL_wr _ _ _ _ (by rw [← HN.out]; exact hk)]
    exact HB.out.1.ext (Ext.drew (Ext.refl _)))
  have HT2 := hide (show RTurn B w ((w1.setCell ⟨g1, k, none⟩ (.string (str bs))).setCell ⟨g3, k, none⟩ (.bool true)).drew from ((T1.out.trans HA.out.2).trans HB.out.2).trans (RTurn.of_ext (Ext.drew (Ext.refl _))))
  clear HA HB H1 y0 y1 y2 y3 y4 y5 y6 z1 z2 z3 f1 f2 f3 hconv
  go_wp2_with (fail)
  obtain ⟨w2, hw2⟩ : ∃ w2, w2 = ((w1.setCell ⟨g1, k, none⟩ (.string (str bs))).setCell ⟨g3, k, none⟩ (.bool true)).drew := ⟨_, rfl⟩
  rw [← hw2] at HB2 HT2 ⊢
  clear hw2
  refine (rdone_any cb HB2.out HB2.out.kml hT).mono ?_
  rintro e w3 (⟨rfl, rfl, rfl⟩ | ⟨rfl, rfl, h3, t3⟩)
  · go_wp2_with (fail)
    go_ret
    exact ⟨HT2.out, .inl ⟨rfl, by rw [HE.out]; exact cut_not HC.out.symm, by
      rw [HE.out, dec_if]
      have hn : n = (T.set k bs).length := by rw [List.length_set, HN.out]
      have := HB2.out
      rw [hn] at this
      exact ⟨_, _, _, _, _, _, _, _, _, _, _, _, this, rfl⟩⟩⟩
  · have H3 := hide h3
    have T3 := hide t3
    clear h3 t3
    go_wp2_with (fail)
    go_ret
    exact ⟨HT2.out.trans T3.out, .inr ⟨rfl, M, by rw [HE.out]; exact cut_is HC.out.symm, rf_crash H3.out⟩⟩
/-- what a Sync leaves -/
def RSynced (B : Nat) (w : World) (b : Nat) (T : List (List UInt8)) (U : Int → Option (List UInt8)) (pl : Option (Int × List UInt8)) (e : Ending) (w' : World) : Prop :=
  RTurn B w w' ∧ ((e = .returned (.int .i64 0) ∧ (∀ M, pl ≠ some (0, M)) ∧ Rf B w' b false T (fun _ => none) (dec pl)) ∨
    (e = .returned (.int .i64 2) ∧ ∃ M, pl = some (0, M) ∧ Rf B w' b true (crT M U T) (fun _ => none) none))
theorem rsync_dead (h : Rf B w b true T U pl) :
    Calls Try.prog 25 #[.pointer (some ⟨b, 0, none⟩)] w fun e w' => e = .returned (.int .i64 2) ∧ w = w' := by
  obtain ⟨A1, A2, A3, Am, c1, c2, c3, km, cm, on, pa, M, h, e⟩ := h
  obtain ⟨y0, y1, y2, y3, y4, y5, y6⟩ := h.cells
  clear h e
  go_enter Try.func25, Try.ntmps25
  go_wp2
  go_ret
  exact ⟨rfl, rfl⟩
set_option maxRecDepth 100000 in
set_option maxHeartbeats 8000000 in
theorem rsync_in (h : Rf B w b false T U pl) (hp : Pok pl) (hT : T.length ≤ 2000) :
    Calls Try.prog 25 #[.pointer (some ⟨b, 0, none⟩)] w (RSynced B w b T U pl) := by
  obtain ⟨A1, A2, A3, Am, c1, c2, c3, km, cm, on, pa, M, h, e⟩ := h
  have H := hide h
  have HE := hide e
  have HP := hide (Rf.pok (B := B) (w := w) (b := b) (dead := false) (n := 0) (km := 0) hp e)
  obtain ⟨y0, y1, y2, y3, y4, y5, y6⟩ := h.cells
  obtain ⟨n, hn⟩ : ∃ n, n = T.length := ⟨_, rfl⟩
  rw [← hn] at H y0 y1 y2 hT
  have HN := hide hn
  clear h e hp hn
  have hcut := hide (rcut_any H.out HP.out)
  cases hcb : cutB on pa with
  | true =>
    have HC := hide hcb
    rw [hcb] at hcut
    clear hcb
    go_enter Try.func25, Try.ntmps25
    go_wp2_with (fail)
    refine hcut.out.mono ?_
    rintro e w1 ⟨rfl, h1, t1⟩
    have T1 := hide t1
    have H1 := hide h1
    clear t1 h1 hcut
    go_wp2_with (fail)
    refine (rdone_any true H1.out H1.out.kml hT).mono ?_
    rintro e w3 (⟨h0, _⟩ | ⟨_, rfl, h3, t3⟩)
    · cases h0
    have H3 := hide h3
    have T3 := hide t3
    clear h3 t3
    go_wp2_with (fail)
    go_ret
    exact ⟨T1.out.trans T3.out, .inr ⟨rfl, M, by rw [HE.out]; exact cut_is HC.out, rf_crash H3.out⟩⟩
  | false =>
    have HC := hide hcb
    rw [hcb] at hcut
    clear hcb
    go_enter Try.func25, Try.ntmps25
    go_wp2_with (fail)
    refine hcut.out.mono ?_
    rintro e w1 ⟨rfl, h1, t1⟩
    have T1 := hide t1
    have H1 := hide h1
    clear t1 h1 hcut y0 y1 y2 y3 y4 y5 y6
    go_wp2_with (fail)
    go_loopw [3] (fun s3 wr => (∃ i : Nat, i ≤ n ∧ s3 = .int .i64 i ∧ Hid (Rk B wr b n A1 A2 A3 Am c1 c2 c3 km cm T (mix i T (vL T U)) (mix i (lL T (fun _ => none)) (lL T U)) false on (cutA on pa) M ∧ RTurn B w1 wr))) (fun s3 _ => (n - intOf s3).toNat)
    case atStart => exact ⟨0, by omega, rfl, by rw [mix_zero, mix_zero]; exact H1.out, RTurn.refl _ _⟩
    case round =>
      obtain ⟨i, hi, rfl, hs⟩ := hrel
      obtain ⟨y0, y1, y2, y3, y4, y5, y6⟩ := hs.out.1.cells
      by_cases hlt : i < n
      · obtain ⟨g1, g2, g3, t, v, l, rfl, rfl, rfl, p1, p2, p3, z1, z2, z3, f1, f2, f3, n12, n13, n23, nb1, nb2, nb3⟩ := hs.out.1.at_ hlt
        have hii : (i : Int) < (n : Int) := by omega
        have hi0 : (0 : Int) ≤ (i : Int) := by omega
        have HS := hide hs
        have HA := hide (HS.out.1.was_ i t)
        have HB := hide (HA.out.1.wet_ i false)
        have KV := hide (show mix (i + 1) T (vL T U) = (mix i T (vL T U)).set i t from mix_succ (by rw [vL_len]) (by rw [← HN.out]; exact hlt) p1)
        have KL := hide (show mix (i + 1) (lL T (fun _ => none)) (lL T U) = (mix i (lL T (fun _ => none)) (lL T U)).set i false from mix_succ (by rw [lL_len, lL_len]) (by rw [lL_len, ← HN.out]; exact hlt) (by rw [lL_get, if_pos (by rw [← HN.out]; exact hlt)]; rfl))
        clear hs p1 p2 p3
        go_wp2_with (fail)
        go_region
        all_goals
          go_wp2_with (fail)
          go_roundw
          case rel => exact ⟨i + 1, by omega, by go_num, by
            rw [KV.out, KL.out]
            exact HB.out.1.ext (by (repeat (first | with_reducible exact Ext.refl _ | with_reducible refine Ext.drew ?_))), ((HS.out.2.trans HA.out.2).trans HB.out.2).trans (RTurn.of_ext (by (repeat (first | with_reducible exact Ext.refl _ | with_reducible refine Ext.drew ?_))))⟩
          case measure => simp [intOf]; omega
      · obtain rfl : i = n := by omega
        have HF := hide (show Rk B wr b i A1 A2 A3 Am c1 c2 c3 km cm T (vL T (fun _ => none)) (lL T (fun _ => none)) false on (cutA on pa) M ∧ RTurn B w1 wr from ⟨by
          have h2 : mix i T (vL T U) = T := by
            have := mix_all (a := T) (b := vL T U) (by rw [vL_len]); rwa [← HN.out] at this
          have h3 : mix i (lL T (fun _ => none)) (lL T U) = lL T (fun _ => none) := by
            have := mix_all (a := lL T (fun _ => none)) (b := lL T U) (by rw [lL_len, lL_len]); rwa [lL_len, ← HN.out] at this
          have := hs.out.1
          rw [h2, h3] at this
          rw [vL_none]
          exact this, hs.out.2⟩)
        clear hs
        go_wp2_with (fail)
        go_ret
        exact ⟨T1.out.trans HF.out.2, .inl ⟨rfl, by rw [HE.out]; exact cut_not HC.out, by
          rw [HE.out, dec_if]
          have := HF.out.1
          rw [HN.out] at this
          exact ⟨_, _, _, _, _, _, _, _, _, _, _, _, this, rfl⟩⟩⟩
end
end Go.Proofs.Ytpbenpkgbhmldaa
