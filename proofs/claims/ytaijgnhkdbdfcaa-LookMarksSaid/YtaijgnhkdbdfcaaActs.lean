/- Look: contracts: Acts. (Printed by mk_acts.py.) -/
import Derived.Test.YtaijgnhkdbdfcaaEnt2
import Derived.Deep.Cut
import Derived.Deep.DeepCutAuto
import Derived.Deep.CutBlock
namespace Go.Proofs.Ytaijgnhkdbdfcaa
open Go.ChangeShapes Go.WideShapes Go.ChangeAt Go.RowKit
set_option linter.unusedVariables false

/-- an entry of numbers has other numbers -/
def Same5 (X Y : En) : Prop := Y.E.NL = X.E.NL ∧ Y.E.mv = X.E.mv ∧ Y.L = X.L ∧ Y.D = X.D ∧ Y.O = X.O
theorem EnAt.same {w : World} {X Y : En} {AN cN AM cM AL cL AD cD AO cO} (h : EnAt w X AN cN AM cM AL cL AD cD AO cO) (hs : Same5 X Y) : EnAt w Y AN cN AM cM AL cL AD cD AO cO := by
  obtain ⟨h1, h2, h3, h4, h5⟩ := hs
  exact ⟨by rw [h1]; exact h.n, by rw [h2]; exact h.m, h.s.as h3 h4 h5⟩
theorem EnsOwn.put {w : World} {base n c g k j : Nat} {l : List En} {X Y : En} {u : Value} (h : EnsOwn w base l (some ⟨g, 0, none⟩) n c) (hX : l[k]? = some X) (hj : j < 16)
    (hY : ∀ AN cN AM cM AL cL AD cD AO cO, (enC X AN cN AM cM AL cL AD cD AO cO).set j u = enC Y AN cN AM cM AL cL AD cD AO cO) (hs : Same5 X Y) :
    EnsOwn (w.setCell ⟨g, k * 16 + j, none⟩ u) base (l.set k Y) (some ⟨g, 0, none⟩) n c ∧ Touch w (w.setCell ⟨g, k * 16 + j, none⟩ u) (fun x => x = g) := by
  obtain ⟨h0, vs, h1, h2⟩ := h
  have ht := touch_set w g (k * 16 + j) u
  obtain ⟨cs, hB⟩ := own_block h1 rfl
  have hF : F35 w (fun x => x = g) := fun x hx _ => by rw [hx]; exact ⟨cs, hB⟩
  have hk := (List.getElem?_eq_some_iff.1 hX).1
  refine ⟨⟨by simpa using h0, _, (h1.stored (k * 16 + j) u).1, by simpa using h2.1, fun q Z hZ => ?_⟩, ht⟩
  by_cases hq : q = k
  · subst hq
    rw [List.getElem?_set_self hk] at hZ
    injection hZ with hZ
    subst hZ
    obtain ⟨AN, cN, AM, cM, EL, cEL, ED, cED, EO, cEO, hc, he⟩ := h2.2 q X hX
    refine ⟨AN, cN, AM, cM, EL, cEL, ED, cED, EO, cEO, fun i v hi => ?_, (he.touch35 ht hF).same hs⟩
    rw [← hY] at hi
    by_cases hij : i = j
    · subst hij
      rw [List.getElem?_set_self (by rw [enC_len]; exact hj)] at hi
      injection hi with hi
      subst hi
      rw [List.getElem?_set_self (by rw [h2.1]; omega)]
    · rw [List.getElem?_set_ne (Ne.symm hij)] at hi
      rw [List.getElem?_set_ne (by omega)]
      exact hc i v hi
  · rw [List.getElem?_set_ne (Ne.symm hq)] at hZ
    obtain ⟨AN, cN, AM, cM, EL, cEL, ED, cED, EO, cEO, hc, he⟩ := h2.2 q Z hZ
    refine ⟨AN, cN, AM, cM, EL, cEL, ED, cED, EO, cEO, fun i v hi => ?_, he.touch35 ht hF⟩
    have := (List.getElem?_eq_some_iff.1 hi).1
    rw [enC_len] at this
    rw [List.getElem?_set_ne (by omega)]
    exact hc i v hi
/-- an entry of transactions and units, by its number and its place -/
def actK (x : Nat) : Int := if x % 11 = 0 then 5 else if x % 11 = 1 then 6 else if x % 11 = 2 then 10 else if x % 11 = 3 then 4 else kindOf (x / 26 % 6)
def actX (i x : Nat) : En := ⟨{ someE x with kind := actK x, h := if x % 11 = 2 then ((x % 2 : Nat) : Int) else 0, nx := ((i / 2 : Nat) : Int) }, [], [], []⟩
def actsN : Nat → List Nat → List En
  | _, [] => []
  | i, x :: l => actX i x :: actsN (i + 1) l
theorem actsN_len : ∀ (l : List Nat) (i : Nat), (actsN i l).length = l.length
  | [], _ => rfl
  | x :: l, i => by simp [actsN, actsN_len l]
theorem actsN_at : ∀ (l : List Nat) (i k : Nat), (actsN i l)[k]? = l[k]?.map (actX (i + k))
  | [], i, k => by simp [actsN]
  | x :: l, i, 0 => by simp [actsN]
  | x :: l, i, k + 1 => by
    simp only [actsN, List.getElem?_cons_succ]
    rw [actsN_at l (i + 1) k, show i + 1 + k = i + (k + 1) by omega]
/-- the first i are turned -/
def mixN (ns : List Nat) (i : Nat) : List En := (actsN 0 ns).take i ++ (ns.map someX).drop i
theorem mixN_zero (ns : List Nat) : mixN ns 0 = ns.map someX := by simp [mixN]
theorem mixN_all (ns : List Nat) : mixN ns ns.length = actsN 0 ns := by
  unfold mixN
  rw [List.take_of_length_le (by rw [actsN_len]; exact Nat.le_refl _), List.drop_of_length_le (by simp)]
  simp
theorem mixN_at {ns : List Nat} {i x : Nat} (h : ns[i]? = some x) : (mixN ns i)[i]? = some (someX x) := by
  have hi := (List.getElem?_eq_some_iff.1 h).1
  unfold mixN
  rw [List.getElem?_append_right (by rw [List.length_take, actsN_len]; omega), List.length_take, actsN_len, show i - min i ns.length = 0 by omega, List.getElem?_drop, List.getElem?_map, Nat.add_zero, h]
  rfl
theorem mixN_set {ns : List Nat} {i x : Nat} (h : ns[i]? = some x) : (mixN ns i).set i (actX i x) = mixN ns (i + 1) := by
  have hi := (List.getElem?_eq_some_iff.1 h).1
  have hl : ((actsN 0 ns).take i).length = i := by rw [List.length_take, actsN_len]; omega
  unfold mixN
  rw [List.set_append_right _ _ (by omega), hl, Nat.sub_self]
  have e1 : (ns.map someX).drop i = someX x :: (ns.map someX).drop (i + 1) := by
    rw [List.drop_eq_getElem_cons (by simpa using hi)]
    congr 1
    have := (List.getElem?_eq_some_iff.1 h).2
    simp [this]
  have e2 : (actsN 0 ns).take (i + 1) = (actsN 0 ns).take i ++ [actX i x] := by
    have hla : i < (actsN 0 ns).length := by rw [actsN_len]; exact hi
    rw [List.take_succ_eq_append_getElem hla]
    congr 2
    have := actsN_at ns 0 i
    rw [h, Nat.zero_add] at this
    exact (List.getElem?_eq_some_iff.1 this).2
  rw [e1, e2]
  simp
theorem acts_bd (ns : List Nat) (m : Nat) : ∀ k X, (actsN 0 ns)[k]? = some X → BdX (m + k) X := fun k X hx => by
  rw [actsN_at] at hx
  cases hn : ns[k]? with
  | none => rw [hn] at hx; cases hx
  | some x =>
    rw [hn] at hx
    injection hx with hx
    subst hx
    exact ⟨by simp [actX, someE], by simp [actX], by simp [actX], by simp [actX], by simp [actX]⟩
set_option maxRecDepth 1000000 in
set_option maxHeartbeats 40000000 in
theorem acts_any (A : Option Addr) (c n : Nat) (ns : List Nat) (w : World) (hr : Reads w w.heap.size 1 A n (nv ns)) (hn : n = ns.length) (hz : ∀ x ∈ ns, x ≤ 65535) (hl : n ≤ 30) :
    Calls Try.prog 9 #[.slice A n c] w fun e w' => ∃ A3 c3, e = .returned (.slice A3 n c3) ∧ EnsOwn w' w.heap.size (actsN 0 ns) A3 n c3 ∧ Ext w w' := by
  have HR := hide hr
  have HN := hide hn
  have HZ := hide hz
  clear hr hn hz
  go_enter Try.func9, Try.ntmps9
  go_wp2_with (go_at_call 14; refine (some_lit A c n ns w HR.out HN.out HZ.out (by omega)).mono ?_; rintro e w1 ⟨A3, c3, rfl, ho1, hx1⟩; have O1 := hide ho1; have X1 := hide hx1; clear ho1 hx1)
  have hge : ∀ g, A3 = some ⟨g, 0, none⟩ → w.heap.size ≤ g := fun g hg => by
    obtain ⟨h0, vs, h1, h2⟩ := O1.out
    exact own_ge h1 (by rw [hg]; rfl)
  have HGE := hide hge
  clear hge
  go_loopw [4] (fun s4 wr => (∃ i : Nat, i ≤ n ∧ s4 = .int .i64 i ∧ Hid (EnsOwn wr w.heap.size (mixN ns i) A3 n c3 ∧ Ext w wr))) (fun s4 _ => (n - intOf s4).toNat)
  case atStart => exact ⟨0, by omega, rfl, by rw [mixN_zero]; exact O1.out, X1.out⟩
  case round =>
    obtain ⟨i, hi, rfl, hrel⟩ := hrel
    by_cases hlt : i < n
    · obtain ⟨x, hx⟩ : ∃ x, ns[i]? = some x := ⟨_, List.getElem?_eq_getElem (by rw [← HN.out]; exact hlt)⟩
      have hx1 : x ≤ 65535 := HZ.out x (List.mem_of_getElem? hx)
      obtain ⟨bk, off, hAe, hbw, hcell⟩ := HR.out.plain (by omega) (by omega)
      subst hAe
      have gx := (hrel.out.2.cell (p := ⟨bk, off + i, none⟩) hbw).trans (hcell i (.int .u16 (x : Int)) (by simp [nv, hx]))
      obtain ⟨g, AN, cN, AM, cM, EL, cEL, ED, cED, EO, cEO, hA, hg, hc, he⟩ := hrel.out.1.cells (mixN_at hx)
      subst hA
      have hgg := HGE.out g rfl
      have hbg : ¬ g = bk := by
        intro e
        subst e
        have : g < w.heap.size := hbw
        omega
      have hgb : ¬ bk = g := Ne.symm hbg
      have q0 : wr.cell? ⟨g, i * 16, none⟩ = some (.int .i64 (someX x).E.kind) := hc 0 _ rfl
      have q3 : wr.cell? ⟨g, i * 16 + 3, none⟩ = some (.int .i64 0) := hc 3 _ rfl
      have q5 : wr.cell? ⟨g, i * 16 + 5, none⟩ = some (.int .i64 0) := hc 5 _ rfl
      have fz : ∀ o, wr.frozen? ⟨g, o, none⟩ = false := fun o => by
        obtain ⟨h0, vs, h1, h2⟩ := hrel.out.1
        exact h1.frozenAt o
      have f0 := fz (i * 16)
      have f3 := fz (i * 16 + 3)
      have f5 := fz (i * 16 + 5)
      have dn : decide ((i : Int) < (n : Int)) = true := decide_eq_true (by omega)
      have HX := hide hx
      have HC := hide hc
      obtain ⟨r, hr⟩ : ∃ r : Nat, x % 11 = r := ⟨_, rfl⟩
      obtain ⟨z, hz⟩ : ∃ z : Nat, x % 2 = z := ⟨_, rfl⟩
      have er : (x : Int) % 11 = (r : Int) := by omega
      have ez : (x : Int) % 2 = (z : Int) := by omega
      have HRR := hide hr
      have HZZ := hide hz
      have wx : IntKind.i64.wrap (x : Int) = (x : Int) := by simp [IntKind.wrap, IntKind.signed, IntKind.bits]; omega
      have hr11 : r < 11 := by omega
      clear hcell hc he fz hx hr hz
      obtain ⟨Y1, hY1⟩ : ∃ Y1 : En, Y1 = ⟨{ someE x with kind := actK x, h := if x % 11 = 2 then ((x % 2 : Nat) : Int) else 0 }, [], [], []⟩ := ⟨_, rfl⟩
      have HY1 := hide hY1
      clear hY1
      go_upto_block 2 with (fail)
      go_cut [17] (fun _ wx => EnsOwn wx w.heap.size ((mixN ns i).set i Y1) (some ⟨g, 0, none⟩) n c3 ∧ Ext w wx)
      case first =>
        by_cases r0 : r = 0
        · have dr0 : ((r : Int) == 0) = true := by simp; omega
          have HK := hide (show Y1 = { someX x with E := { (someX x).E with kind := 5 } } by
            rw [HY1.out]
            unfold actK
            rw [HRR.out, if_pos (show r = 0 by omega), if_neg (show ¬ r = 2 by omega)]
            rfl)
          have P1 := hide (EnsOwn.put (j := 0) (u := .int .i64 5) hrel.out.1 (mixN_at HX.out) (by omega) (fun _ _ _ _ _ _ _ _ _ _ => rfl) (Y := { someX x with E := { (someX x).E with kind := 5 } }) ⟨rfl, rfl, rfl, rfl, rfl⟩)
          clear r0
          go_wp2_with (fail)
          go_meet
          case rel => exact ⟨by rw [HK.out]; exact P1.out.1, Touch.ext hrel.out.2 P1.out.2 hgg⟩
        · skip
          by_cases r1 : r = 1
          · have dr0 : ((r : Int) == 0) = false := by simp; omega
            have dr1 : ((r : Int) == 1) = true := by simp; omega
            have HK := hide (show Y1 = { someX x with E := { (someX x).E with kind := 6 } } by
              rw [HY1.out]
              unfold actK
              rw [HRR.out, if_neg (show ¬ r = 0 by omega), if_pos (show r = 1 by omega), if_neg (show ¬ r = 2 by omega)]
              rfl)
            have P1 := hide (EnsOwn.put (j := 0) (u := .int .i64 6) hrel.out.1 (mixN_at HX.out) (by omega) (fun _ _ _ _ _ _ _ _ _ _ => rfl) (Y := { someX x with E := { (someX x).E with kind := 6 } }) ⟨rfl, rfl, rfl, rfl, rfl⟩)
            clear r1
            go_wp2_with (fail)
            go_meet
            case rel => exact ⟨by rw [HK.out]; exact P1.out.1, Touch.ext hrel.out.2 P1.out.2 hgg⟩
          · skip
            by_cases r2 : r = 2
            · have dr0 : ((r : Int) == 0) = false := by simp; omega
              have dr1 : ((r : Int) == 1) = false := by simp; omega
              have dr2 : ((r : Int) == 2) = true := by simp; omega
              have HK := hide (show Y1 = { someX x with E := { (someX x).E with kind := 10, h := (z : Int) } } by
                rw [HY1.out]
                unfold actK
                rw [HRR.out, HZZ.out, if_neg (show ¬ r = 0 by omega), if_neg (show ¬ r = 1 by omega), if_pos (show r = 2 by omega), if_pos (show r = 2 by omega)]
                rfl)
              have P1 := hide (EnsOwn.put (j := 0) (u := .int .i64 10) hrel.out.1 (mixN_at HX.out) (by omega) (fun _ _ _ _ _ _ _ _ _ _ => rfl) (Y := { someX x with E := { (someX x).E with kind := 10 } }) ⟨rfl, rfl, rfl, rfl, rfl⟩)
              have P2 := hide (EnsOwn.put (j := 3) (u := .int .i64 (z : Int)) P1.out.1 (List.getElem?_set_self (by have := (List.getElem?_eq_some_iff.1 (mixN_at HX.out)).1; exact this)) (by omega) (fun _ _ _ _ _ _ _ _ _ _ => rfl) (Y := { someX x with E := { (someX x).E with kind := 10, h := (z : Int) } }) ⟨rfl, rfl, rfl, rfl, rfl⟩)
              have gxs : (wr.setCell ⟨g, i * 16, none⟩ (.int .i64 10)).cell? ⟨bk, off + i, none⟩ = some (.int .u16 (x : Int)) := by rw [World.cell?_setCell_other _ _ _ _ (by intro e; injection e with e1; exact hgb e1.symm)]; exact gx
              clear r2
              go_wp2_with (fail)
              go_meet
              case rel => exact ⟨by rw [HK.out]; have := P2.out.1; rw [List.set_set] at this; exact this, Touch.ext (Touch.ext hrel.out.2 P1.out.2 hgg) P2.out.2 hgg⟩
            · skip
              by_cases r3 : r = 3
              · have dr0 : ((r : Int) == 0) = false := by simp; omega
                have dr1 : ((r : Int) == 1) = false := by simp; omega
                have dr2 : ((r : Int) == 2) = false := by simp; omega
                have dr3 : ((r : Int) == 3) = true := by simp; omega
                have HK := hide (show Y1 = { someX x with E := { (someX x).E with kind := 4 } } by
                  rw [HY1.out]
                  unfold actK
                  rw [HRR.out, if_neg (show ¬ r = 0 by omega), if_neg (show ¬ r = 1 by omega), if_neg (show ¬ r = 2 by omega), if_pos (show r = 3 by omega), if_neg (show ¬ r = 2 by omega)]
                  rfl)
                have P1 := hide (EnsOwn.put (j := 0) (u := .int .i64 4) hrel.out.1 (mixN_at HX.out) (by omega) (fun _ _ _ _ _ _ _ _ _ _ => rfl) (Y := { someX x with E := { (someX x).E with kind := 4 } }) ⟨rfl, rfl, rfl, rfl, rfl⟩)
                clear r3
                go_wp2_with (fail)
                go_meet
                case rel => exact ⟨by rw [HK.out]; exact P1.out.1, Touch.ext hrel.out.2 P1.out.2 hgg⟩
              · skip
                have dr0 : ((r : Int) == 0) = false := by simp; omega
                have dr1 : ((r : Int) == 1) = false := by simp; omega
                have dr2 : ((r : Int) == 2) = false := by simp; omega
                have dr3 : ((r : Int) == 3) = false := by simp; omega
                have HK := hide (show Y1 = someX x by
                  rw [HY1.out]
                  unfold actK
                  rw [HRR.out, if_neg r0, if_neg r1, if_neg r2, if_neg r3, if_neg r2]
                  rfl)
                have hsame : (mixN ns i).set i (someX x) = mixN ns i := by
                  have h := mixN_at HX.out
                  have hlt := (List.getElem?_eq_some_iff.1 h).1
                  have he := (List.getElem?_eq_some_iff.1 h).2
                  conv => lhs; arg 3; rw [← he]
                  exact List.set_getElem_self hlt
                have HSAME := hide hsame
                clear hsame
                go_wp2_with (fail)
                go_meet
                case rel => exact ⟨by rw [HK.out, HSAME.out]; exact hrel.out.1, hrel.out.2⟩
      case rest =>
        have OC := hide hcut.1
        have XC := hide hcut.2
        clear hcut q0 q3 q5 f0 f3 f5
        have hi5 : ((mixN ns i).set i Y1)[i]? = some Y1 := List.getElem?_set_self (List.getElem?_eq_some_iff.1 (mixN_at HX.out)).1
        obtain ⟨g', AN', cN', AM', cM', EL', cEL', ED', cED', EO', cEO', hA', hg', hc', he'⟩ := OC.out.cells hi5
        injection hA' with hA'
        injection hA' with hA'
        subst hA'
        have q5 : wc.cell? ⟨g, i * 16 + 5, none⟩ = some (.int .i64 Y1.E.nx) := hc' 5 _ rfl
        have f5 : wc.frozen? ⟨g, i * 16 + 5, none⟩ = false := by
          obtain ⟨h0, vs, h1, h2⟩ := OC.out
          exact h1.frozenAt _
        have P5 := hide (EnsOwn.put (j := 5) (u := .int .i64 ((i : Int) / 2)) OC.out hi5 (by omega) (fun _ _ _ _ _ _ _ _ _ _ => rfl) (Y := { Y1 with E := { Y1.E with nx := (i : Int) / 2 } }) ⟨rfl, rfl, rfl, rfl, rfl⟩)
        have HYE := hide (show ({ Y1 with E := { Y1.E with nx := (i : Int) / 2 } } : En) = actX i x by rw [HY1.out]; unfold actX; simp)
        clear hc' he' hi5
        go_wp2_with (fail)
        go_roundw
        case rel => exact ⟨i + 1, by omega, by go_num, by
          have := P5.out.1
          rw [List.set_set, HYE.out, mixN_set HX.out] at this
          exact this, Touch.ext XC.out P5.out.2 hgg⟩
        case measure => simp [intOf]; omega
    · obtain rfl : i = n := by omega
      have dn : decide ((i : Int) < (i : Int)) = false := decide_eq_false (by omega)
      have e : mixN ns i = actsN 0 ns := by rw [HN.out]; exact mixN_all ns
      rw [e] at hrel
      clear e
      go_wp2_with (fail)
      go_ret
      exact ⟨A3, c3, rfl, hrel.out.1, hrel.out.2⟩
end Go.Proofs.Ytaijgnhkdbdfcaa
