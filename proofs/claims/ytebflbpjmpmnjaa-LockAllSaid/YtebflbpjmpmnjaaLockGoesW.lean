/- LockGoes: the walk. -/
import Derived.Test.YtebflbpjmpmnjaaLockC
import Derived.Deep.Cut
import Derived.Deep.DeepCutAuto
import Derived.Deep.CutBlock
import Derived.IntWalk
namespace Go.Proofs.Ytebflbpjmpmnjaa
open Go.ChangeShapes Go.WideShapes Go.ChangeAt Go.RowKit Go.Maps
set_option linter.unusedVariables false
/-- the deeds: four cells each -/
def Deeds (xs : List Value) (n : Nat) : Prop := ∀ i, i < n → ∃ (kind who md : Int) (wh : Nat),
  xs[i * 4]? = some (.int .i64 kind) ∧ xs[i * 4 + 1]? = some (.int .i64 who) ∧ xs[i * 4 + 2]? = some (.int .i64 md) ∧ xs[i * 4 + 3]? = some (.int .u8 (wh : Int)) ∧ Wf kind ∧ Wf who ∧ Wf md ∧ wh < 256
theorem cells3 : Try.prog.cellsOf 3 = 1 := by kernel_rfl
theorem cells5 : Try.prog.cellsOf 5 = 1 := by kernel_rfl
theorem cells37 : Try.prog.cellsOf 37 = 4 := by kernel_rfl
theorem open_deed {H : Type} {enc : TypeId × Value → H} {w : World} {base fuel : Nat} {spare : Nat → Bool} {held : Bool} {cs : List Value} {x : DataW H × List MemPlace} (h : DataW.trod enc Try.prog w base spare held fuel 37 cs = some x) :
    ∃ (kind who md : Int) (wh : Nat), cs = [.int .i64 kind, .int .i64 who, .int .i64 md, .int .u8 (wh : Int)] ∧ Wf kind ∧ Wf who ∧ Wf md ∧ wh < 256 := by
  obtain ⟨xs, n, _, _, hlen, hxl, hf⟩ := DataW.trod_struct Try.underlying37 h
  rw [cells37] at hlen
  match cs, hlen with
  | [a, b, c, d], _ =>
    have s : ∀ i, i < 4 → ∃ y, xs[i]? = some y := fun i hi => ⟨_, List.getElem?_eq_getElem (by rw [hxl]; exact hi)⟩
    obtain ⟨y0, h0⟩ := s 0 (by decide)
    obtain ⟨y1, h1⟩ := s 1 (by decide)
    obtain ⟨y2, h2⟩ := s 2 (by decide)
    obtain ⟨y3, h3⟩ := s 3 (by decide)
    have g0 := (hf 0 _ rfl).trans h0
    have g1 := (hf 1 _ rfl).trans h1
    have g2 := (hf 2 _ rfl).trans h2
    have g3 := (hf 3 _ rfl).trans h3
    simp [cells3, cells5] at g0 g1 g2 g3
    obtain ⟨k, hk, _, wk⟩ := DataW.trod_int Try.underlying3 g0
    obtain ⟨o, ho, _, wo⟩ := DataW.trod_int Try.underlying3 g1
    obtain ⟨m, hm, _, wm⟩ := DataW.trod_int Try.underlying3 g2
    obtain ⟨z, hz, _, wz⟩ := DataW.trod_int Try.underlying5 g3
    simp at hk ho hm hz
    subst hk ho hm hz
    obtain ⟨q, rfl, hq⟩ := u8_nat wz
    exact ⟨k, o, m, q, rfl, wk, wo, wm, hq⟩
theorem deeds_of {H : Type} {enc : TypeId × Value → H} {W : World} {base : Nat} {spare : Nat → Bool} {held : Bool} {xs : List Value} {n : Nat} (hl : xs.length = n * 4)
    (h : ∀ i, i < n → ∃ (f : Nat) (y : DataW H × List MemPlace), DataW.trod enc Try.prog W base spare held f 37 ((xs.drop (i * 4)).take 4) = some y) : Deeds xs n := fun i hi => by
  obtain ⟨f, y, hy⟩ := h i hi
  obtain ⟨kind, who, md, wh, e, r⟩ := open_deed hy
  have at_ : ∀ j, j < 4 → xs[i * 4 + j]? = ((xs.drop (i * 4)).take 4)[j]? := fun j hj => by rw [List.getElem?_take, if_pos hj, List.getElem?_drop]
  refine ⟨kind, who, md, wh, ?_, ?_, ?_, ?_, r⟩
  · have := at_ 0 (by decide); rw [e] at this; simpa using this
  · have := at_ 1 (by decide); rw [e] at this; simpa using this
  · have := at_ 2 (by decide); rw [e] at this; simpa using this
  · have := at_ 3 (by decide); rw [e] at this; simpa using this
end Go.Proofs.Ytebflbpjmpmnjaa
namespace Go.Proofs.Ytebflbpjmpmnjaa.lockGoes
open Go.ChangeShapes Go.WideShapes Go.ChangeAt Go.RowKit Go.Maps
set_option linter.unusedVariables false

/-- all who hold one thing go together -/
def Pair (F : ByteArray → Int → Int) : Prop := ∀ s x y, x ≠ y → goesP (F s x) (F s y) = true
theorem goesP_zero {b : Int} (h0 : 0 ≤ b) (h1 : b ≤ 4) : goesP 0 b = true := by unfold goesP; simp; omega
theorem goesP_zero' {b : Int} (h0 : 0 ≤ b) (h1 : b ≤ 4) : goesP b 0 = true := by unfold goesP; simp; omega
theorem goesP_comm {a b : Int} (h : goesP a b = true) : goesP b a = true := by
  unfold goesP at h ⊢
  simp only [decide_eq_true_eq] at h ⊢
  omega
theorem Pair.zero : Pair F0 := fun s x y _ => by show goesP 0 0 = true; decide
theorem Pair.free {F : ByteArray → Int → Int} (h : Pair F) (hm : ∀ s x, 0 ≤ F s x ∧ F s x ≤ 4) (who : Int) : Pair (freeF F who) := fun s x y hne => by
  unfold freeF
  by_cases h1 : x = who
  · rw [if_pos h1]
    split
    · decide
    · exact goesP_zero (hm s y).1 (hm s y).2
  · rw [if_neg h1]
    split
    · exact goesP_zero' (hm s x).1 (hm s x).2
    · exact h s x y hne
theorem Pair.set_ {F : ByteArray → Int → Int} (h : Pair F) (hm : ∀ s x, 0 ≤ F s x ∧ F s x ≤ 4) {s : ByteArray} {who md : Int} (h0 : 0 < md) (h1 : md ≤ 4) (ho : Others F s who md []) : Pair (setF F s who md) := fun z x y hne => by
  rw [setF_at, setF_at]
  by_cases hz : z = s
  · subst hz
    rw [if_pos rfl, if_pos rfl]
    have hj := joinP_ok (hm z who).1 (hm z who).2 h0 h1
    have key : ∀ x, x ≠ who → goesP (F z x) (joinP (F z who) md) = true := fun x hx => by
      by_cases hf : F z x = 0
      · rw [hf]; exact goesP_zero (by omega) hj.2
      · cases hg : goesP (F z x) (joinP (F z who) md) with
        | true => rfl
        | false => exact absurd ((ho.2 x).2 ⟨hf, hx, hg⟩) (by simp)
    by_cases hx : x = who
    · rw [if_pos hx]
      by_cases hy : y = who
      · exact absurd (hx.trans hy.symm) hne
      · rw [if_neg hy]; exact goesP_comm (key y hy)
    · rw [if_neg hx]
      by_cases hy : y = who
      · rw [if_pos hy]; exact key x hx
      · rw [if_neg hy]; exact h z x y hne
  · rw [if_neg hz, if_neg hz]
    exact h z x y hne
theorem tmod_lo (x : Int) {k : Int} (hk : 0 < k) : -k < x.tmod k ∧ x.tmod k < k := by
  have h1 := Int.tmod_lt_of_pos x hk
  have h2 := Int.tmod_lt_of_pos (-x) hk
  rw [Int.neg_tmod] at h2
  omega
theorem mod_in (x : Int) {k : Int} (hk : 0 < k) (hk2 : k ≤ 100) : 1 ≤ wrap64 (1 + (wrap64 (x.tmod k + k)).tmod k) ∧ wrap64 (1 + (wrap64 (x.tmod k + k)).tmod k) ≤ k := by
  have h := tmod_lo x hk
  rw [IntWalk.wrap64_in (x.tmod k + k) (by omega), IntWalk.rem_in _ _ (by omega)]
  have h2 := Int.emod_nonneg (x.tmod k + k) (b := k) (by omega)
  have h3 := Int.emod_lt_of_pos (x.tmod k + k) hk
  rw [IntWalk.wrap64_in _ (by omega)]
  omega
set_option maxRecDepth 100000 in
set_option maxHeartbeats 16000000 in
theorem walk_short (A : Option Addr) (c n : Nat) (xs : List Value) (w : World) (hr : Reads w w.heap.size 4 A n xs) (hx : Deeds xs n) (h60 : (n : Int) ≤ 60) :
    Calls Try.prog 6 #[.slice A n c] w fun e w' => e = .returned (.bool true) ∧ Ext w w' := by
  have HR := hide hr
  have HX := hide hx
  clear hr hx
  go_enter Try.func6, Try.ntmps6
  go_wp2_with (go_at_call 8; refine (begun_any _).mono ?_; rintro e W ⟨rfl, b1⟩)
  refine (has_new W).mono ?_
  rintro e wa ⟨rfl, ha'⟩
  have BW := hide b1
  have HA := hide ha'
  clear ha' b1
  go_wp2_with (fail)
  go_loopw [4] (fun s4 wr => (∃ i : Nat, i ≤ n ∧ s4 = .int .i64 i ∧ Hid (∃ F, Has W wr (W.heap.size + 1) i i F ∧ Pair F))) (fun s4 _ => (n - intOf s4).toNat)
  case atStart => exact ⟨0, by omega, rfl, _, HA.out, Pair.zero⟩
  case round =>
    obtain ⟨i, hi, rfl, hs⟩ := hrel
    obtain ⟨F, hF, hP⟩ := hs.out
    have HF := hide hF
    have HP := hide hP
    clear hs hP
    by_cases hlt : i < n
    · obtain ⟨bk, off, hAe, hbw, hcell⟩ := HR.out.plain (by omega) (by omega)
      subst hAe
      obtain ⟨kind, who, md, wh, d0, d1, d2, d3, wk, wo, wm, hwh⟩ := HX.out i hlt
      have far : ∀ j u, xs[j]? = some u → wr.cell? ⟨bk, off + j, none⟩ = some u := fun j u hu => ((BW.out.trans hF.world).cell (p := ⟨bk, off + j, none⟩) hbw).trans (hcell j u hu)
      have g0 := far _ _ d0
      have g1 := far _ _ d1
      have g2 := far _ _ d2
      have g3 := far _ _ d3
      rw [← Nat.add_assoc] at g1 g2 g3
      have hbr : bk < wr.heap.size := Nat.lt_of_lt_of_le hbw (BW.out.trans hF.world).size
      clear far hcell d0 d1 d2 d3 hF wk wo wm
      go_wp2_with (fail)
      go_quiet (fail)
      go_upto_if 50 with (fail)
      obtain ⟨p, hp⟩ : ∃ p : Int, wrap64 (1 + (wrap64 (who.tmod 5 + 5)).tmod 5) = p := ⟨_, rfl⟩
      obtain ⟨m, hm⟩ : ∃ m : Int, wrap64 (1 + (wrap64 (md.tmod 4 + 4)).tmod 4) = m := ⟨_, rfl⟩
      have hp5 := mod_in who (k := 5) (by decide) (by decide)
      have hm4 := mod_in md (k := 4) (by decide) (by decide)
      rw [hp] at hp5 ⊢
      rw [hm] at hm4 ⊢
      have HPW := hide (wf_big (x := p) (by omega) (by omega))
      have HM0 := hide (show (0 : Int) < m ∧ m ≤ 4 by omega)
      have Hi := hide (show i ≤ 1000 by omega)
      have HF1 := hide (HF.out.ext ((Ext.refl wr).drewN nq))
      have GW3 := hide (show W.cell? ⟨bk, off + i * 4 + 3, none⟩ = some (.int .u8 (wh : Int)) from (HF.out.world.cell (p := ⟨bk, off + i * 4 + 3, none⟩) (Nat.lt_of_lt_of_le hbw BW.out.size)).symm.trans g3)
      have hbW : bk < W.heap.size := Nat.lt_of_lt_of_le hbw BW.out.size
      clear hp hm hp5 hm4 g0 g1 g2 g3 HF
      go_cut [] (fun wx => ∃ F', Has W wx (W.heap.size + 1) (i + 1) (i + 1) F' ∧ Pair F')
      case first =>
        cases hb7 : (kind.tmod 8 == 7) with
        | true =>
          go_wp2_with (fail)
          refine (has_free W _ _ i i F p HF1.out HPW.out).mono ?_
          rintro e w5 ⟨rfl, h5, cel5⟩
          have H5 := hide (h5.grow (Nat.le_succ i) (Nat.le_succ i))
          have P5 := hide (HP.out.free (fun s x => HF1.out.md s x) p)
          clear h5 cel5
          go_wp2_with (fail)
          go_meet
          case rel => exact ⟨_, H5.out, P5.out⟩
        | false =>
          obtain ⟨S, hS⟩ : ∃ S, S = nm (wh % 5) := ⟨_, rfl⟩
          have HS := hide hS
          have HSZ := hide (show Sz S by rw [hS]; exact nm_size _)
          have HWH := hide hwh
          clear hS hwh
          have y1 := (HF1.out.world.cell (p := ⟨bk, off + i * 4 + 3, none⟩) hbW).trans GW3.out
          go_wp2_with (fail)
          refine (name_any wh (wh % 5) _ HWH.out rfl).mono ?_
          rintro e w2 ⟨rfl, x2⟩
          have H2 := hide (HF1.out.ext x2)
          have y3 := (H2.out.world.cell (p := ⟨bk, off + i * 4 + 3, none⟩) hbW).trans GW3.out
          rw [← HS.out]
          clear x2 y1
          go_wp2_with (fail)
          refine (has_held W w2 _ i i F p S H2.out HPW.out HSZ.out).mono ?_
          rintro e w' ⟨rfl, rfl⟩
          obtain ⟨d, hd⟩ : ∃ d, d = F S p := ⟨_, rfl⟩
          rw [← hd]
          have HD := hide hd
          clear hd
          go_wp2_with (fail)
          refine (name_any wh (wh % 5) _ HWH.out rfl).mono ?_
          rintro e w3 ⟨rfl, x3⟩
          have H3 := hide (H2.out.ext x3)
          rw [← HS.out]
          clear x3 y3
          go_wp2_with (fail)
          refine (has_ask W w3 _ i i F S p m H3.out HPW.out HSZ.out HM0.out.1 HM0.out.2 Hi.out Hi.out).mono ?_
          rintro e w4 ⟨L, hL, hlc, hC, ⟨hne, v, rfl, hv, hh, hx4⟩ | ⟨rfl, rfl, hh⟩⟩
          · obtain ⟨A4, c4, rfl, _⟩ := own_form hv
            obtain ⟨q, hq⟩ : ∃ q, q = L.length := ⟨_, rfl⟩
            have hq0 : (0 : Int) < (q : Int) := by
              rw [hq]
              have : 0 < L.length := List.length_pos_iff.2 hne
              omega
            rw [← hq]
            have H4 := hide hh
            have y4 := (H4.out.world.cell (p := ⟨bk, off + i * 4 + 3, none⟩) hbW).trans GW3.out
            clear hL hlc hC hne hv hh hx4 hq
            go_wp2_with (fail)
            refine (name_any wh (wh % 5) _ HWH.out rfl).mono ?_
            rintro e w5 ⟨rfl, x5⟩
            have H5 := hide (H4.out.ext x5)
            rw [← HS.out]
            clear x5 y4
            go_wp2_with (fail)
            refine (has_held W w5 _ i i F p S H5.out HPW.out HSZ.out).mono ?_
            rintro e w' ⟨rfl, rfl⟩
            rw [← HD.out]
            have H6 := hide (H5.out.grow (Nat.le_succ i) (Nat.le_succ i))
            go_wp2_with (fail)
            go_meet
            case rel => exact ⟨F, H6.out, HP.out⟩
          · have H4 := hide hh
            have P4 := hide (HP.out.set_ (fun s x => H3.out.md s x) HM0.out.1 HM0.out.2 hL)
            have y4 := (H4.out.world.cell (p := ⟨bk, off + i * 4 + 3, none⟩) hbW).trans GW3.out
            obtain ⟨jj, hjj⟩ : ∃ jj, jj = joinP d m := ⟨_, rfl⟩
            have HJJ := hide hjj
            have HE := hide (show setF F S p m S p = jj by rw [setF_at, if_pos rfl, if_pos rfl, ← HD.out, hjj])
            clear hL hlc hC hh hjj
            go_wp2_with (fail)
            refine (name_any wh (wh % 5) _ HWH.out rfl).mono ?_
            rintro e w5 ⟨rfl, x5⟩
            have H5 := hide (H4.out.ext x5)
            rw [← HS.out]
            clear x5 y4
            go_wp2_with (fail)
            refine (has_held W w5 _ (i + 1) (i + 1) (setF F S p m) p S H5.out HPW.out HSZ.out).mono ?_
            rintro e w' ⟨rfl, rfl⟩
            rw [HE.out]
            go_wp2_with (fail)
            refine (joinR_any d m _).mono ?_
            rintro e w' ⟨rfl, rfl⟩
            rw [← HJJ.out]
            go_wp2_with (fail)
            go_meet
            case rel => exact ⟨_, H5.out, P4.out⟩
      case rest =>
        obtain ⟨F', hF', hP'⟩ := hcut
        have H6 := hide hF'
        have P6 := hide hP'
        clear hF' hP' HF1
        go_wp2_with (fail)
        go_loopw [11, 12, 13] (fun s11 _ _ wr => (∃ k : Nat, k ≤ 5 ∧ s11 = .int .u8 k ∧ Hid (Ext wc wr))) (fun s11 _ _ _ => (5 - intOf s11).toNat)
        case atStart => exact ⟨0, by omega, rfl, Ext.refl _⟩
        case round =>
          obtain ⟨k, hk5, rfl, hx⟩ := hrel
          by_cases hltk : k < 5
          · have hki : (k : Int) < 5 := by omega
            have hk0 : (0 : Int) ≤ (k : Int) := by omega
            have HK := hide (show k < 256 by omega)
            obtain ⟨S, hS⟩ : ∃ S, S = nm (k % 5) := ⟨_, rfl⟩
            have HS := hide hS
            have HSZ := hide (show Sz S by rw [hS]; exact nm_size _)
            clear hS
            go_wp2_with (fail)
            go_loopw [12, 13] (fun s12 _ wr => (∃ a : Nat, 1 ≤ a ∧ a ≤ 6 ∧ s12 = .int .i64 a ∧ Hid (Ext wc wr))) (fun s12 _ _ => (6 - intOf s12).toNat)
            case atStart => exact ⟨1, by omega, by omega, rfl, hx.out⟩
            case round =>
              obtain ⟨a, ha1, ha6, rfl, hy⟩ := hrel
              by_cases hlta : a < 6
              · have hai : (a : Int) ≤ 5 := by omega
                have HAW := hide (wf_big (x := (a : Int)) (by omega) (by omega))
                go_wp2_with (fail)
                go_loopw [13] (fun s13 wr => (∃ b : Nat, 1 ≤ b ∧ b ≤ a ∧ s13 = .int .i64 b ∧ Hid (Ext wc wr))) (fun s13 _ => (a - intOf s13).toNat)
                case atStart => exact ⟨1, by omega, by omega, rfl, hy.out⟩
                case round =>
                  obtain ⟨b, hb1, hba, rfl, hz⟩ := hrel
                  by_cases hltb : b < a
                  · have hbi : (b : Int) < (a : Int) := by omega
                    have HBW := hide (wf_big (x := (b : Int)) (by omega) (by omega))
                    have HGO := hide (P6.out S (a : Int) (b : Int) (by omega))
                    go_wp2_with (fail)
                    refine (name_any k (k % 5) _ HK.out rfl).mono ?_
                    rintro e w7 ⟨rfl, x7⟩
                    have X7 := hide (hz.out.trans x7)
                    rw [← HS.out]
                    clear x7
                    go_wp2_with (fail)
                    refine (has_held W w7 _ (i + 1) (i + 1) F' (a : Int) S (H6.out.ext X7.out) HAW.out HSZ.out).mono ?_
                    rintro e w' ⟨rfl, rfl⟩
                    go_wp2_with (fail)
                    refine (name_any k (k % 5) _ HK.out rfl).mono ?_
                    rintro e w8 ⟨rfl, x8⟩
                    have X8 := hide (X7.out.trans x8)
                    rw [← HS.out]
                    clear x8
                    go_wp2_with (fail)
                    refine (has_held W w8 _ (i + 1) (i + 1) F' (b : Int) S (H6.out.ext X8.out) HBW.out HSZ.out).mono ?_
                    rintro e w' ⟨rfl, rfl⟩
                    go_wp2_with (fail)
                    refine (goesR_any (F' S (a : Int)) (F' S (b : Int)) _).mono ?_
                    rintro e w' ⟨rfl, rfl⟩
                    rw [HGO.out]
                    go_wp2_with (fail)
                    go_roundw
                    case rel => exact ⟨b + 1, by omega, by omega, by go_num, X8.out⟩
                    case measure => simp [intOf]; omega
                  · obtain rfl : b = a := by omega
                    clear hltb
                    go_wp2
                    go_roundw
                    case rel => exact ⟨b + 1, by omega, by omega, by go_num, hz.out⟩
                    case measure => simp [intOf]; omega
              · have hai : (5 : Int) < (a : Int) := by omega
                clear hlta
                go_wp2
                go_roundw
                case rel => exact ⟨k + 1, by omega, by go_num, hy.out⟩
                case measure => simp [intOf]; omega
          · obtain rfl : k = 5 := by omega
            have HZ := hide (H6.out.ext hx.out)
            clear hltk hx
            go_wp2
            go_roundw
            case rel => exact ⟨i + 1, by omega, by go_num, F', HZ.out, P6.out⟩
            case measure => simp [intOf]; omega
    · have HZ := hide (BW.out.trans HF.out.world)
      clear hF
      go_wp2
      go_ret
      exact ⟨rfl, HZ.out⟩
end Go.Proofs.Ytebflbpjmpmnjaa.lockGoes
