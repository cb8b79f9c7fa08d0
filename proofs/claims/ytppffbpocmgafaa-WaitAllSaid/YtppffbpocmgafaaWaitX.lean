/- Wait: the reference graph: Cycle: the walk. -/
import Derived.Test.YtppffbpocmgafaaWaitV
namespace Go.Proofs.Ytppffbpocmgafaa
open Go.ChangeShapes Go.WideShapes Go.ChangeAt Go.RowKit Go.Maps
set_option linter.unusedVariables false

def lenOf : Value → Nat
  | .slice _ n _ => n
  | _ => 0
def mz (M : Nat) (s5 : Value) : Value → Nat
  | .bool true => M + 1 - lenOf s5
  | _ => 0
structure Ck (w wr : World) (el : List (Int × Int)) (who : Int) (s5 : Value) (L : List Int) : Prop where
  row : ∃ A c, s5 = .slice A L.length c ∧ Reads wr wr.heap.size 1 A L.length (iv L) ∧ L.length ≤ c ∧ c ≤ maxLen ∧ (A = none → c = 0)
  ext : Ext w wr
  seen : Seen el who L
set_option maxRecDepth 100000 in
set_option maxHeartbeats 8000000 in
theorem rcycle_any (base r : Nat) (el : List (Int × Int)) (who : Int) (w : World) (h : Rf w base r el) (hl : el.length ≤ 100000) :
    Calls Try.prog 18 #[.pointer (some ⟨r, 0, none⟩), .int .i64 who] w fun e w' => e = .returned (.bool (cyc (elE el) who)) ∧ Ext w w' := by
  have HF := hide h
  clear h
  go_enter Try.func18, Try.ntmps18
  go_wp2_with (fail)
  refine (ron_any base r el who w HF.out hl).mono ?_
  rintro e w1 ⟨A1, c1, rfl, r1, l1, m1, z1, x1⟩
  have HS := hide (show Ck w w1 el who (.slice A1 (onL el who el.length).length c1) (onL el who el.length) from ⟨⟨A1, c1, rfl, r1, l1, m1, z1⟩, x1, Seen.start⟩)
  clear r1 l1 m1 z1 x1
  go_wp2_with (fail)
  go_loopw [5, 6, 7, 8, 9, 10] (fun s5 s6 s7 s8 s9 s10 wr => (∃ b : Bool, s6 = .bool b ∧ Hid (∃ L, Ck w wr el who s5 L ∧ (b = false → cyc (elE el) who = false)))) (fun s5 s6 _ _ _ _ _ => mz el.length s5 s6)
  case atStart => exact ⟨true, rfl, _, HS.out, fun h => by cases h⟩
  case round =>
    obtain ⟨b, rfl, hs0⟩ := hrel
    obtain ⟨L0, hc0, hb0⟩ := hs0.out
    cases b with
    | false =>
      have hF := hide (hb0 rfl)
      have hE := hide hc0.ext
      clear hs0 hc0 hb0 HS
      go_wp2
      go_ret
      rw [hF.out]
      exact ⟨rfl, hE.out⟩
    | true =>
      have C0 := hide hc0
      clear hs0 hc0 hb0 HS
      go_wp2_with (fail)
      go_loopw [5, 6, 7, 8, 9, 10] (fun s5 s6 s7 s8 s9 s10 wr => (∃ (b : Bool) (i n : Nat), i ≤ n ∧ s6 = .bool b ∧ s7 = .int .i64 i ∧ lenOf s5 = n ∧ Hid (∃ L, L.length = n ∧ Ck w wr el who s5 L ∧ Pass el who L0.length L b i))) (fun _ _ s7 _ _ _ _ => (el.length - intOf s7).toNat)
      case atStart =>
        refine ⟨false, 0, L0.length, by omega, rfl, rfl, ?_, L0, rfl, C0.out, Pass.start L0⟩
        obtain ⟨⟨A, c, e, _⟩, _, _⟩ := C0.out
        rw [e]; rfl
      case round =>
        obtain ⟨b, i, n, hin, rfl, rfl, hln, hs1⟩ := hrel
        obtain ⟨L, hL, hc1, hp1⟩ := hs1.out
        obtain ⟨A, c, e5, r5, l5, m5, z5⟩ := hc1.row
        have hM := hc1.seen.le
        rw [hL] at e5 r5 l5 hM
        subst e5
        have R5 := hide r5
        have M5 := hide m5
        have Z5 := hide z5
        have C1 := hide hc1
        have P1 := hide hp1
        have HL := hide hL
        clear hs1 hc1 hp1 hL r5 m5 z5 hln
        by_cases hlt : i < n
        · obtain ⟨bk, off, hAe, hbw, hcell⟩ := R5.out.plain (by omega) (by omega)
          subst hAe
          obtain ⟨x, hx⟩ : ∃ x, L[i]? = some x := ⟨_, List.getElem?_eq_getElem (by have := HL.out; omega)⟩
          have g0 := hcell i (.int .i64 x) (by simp [iv, hx])
          have HX := hide hx
          clear hcell hx
          by_cases hxe : x = who
          · have hF := hide (C1.out.seen.hit (by rw [← hxe]; exact List.mem_of_getElem? HX.out))
            have hE := hide C1.out.ext
            have e0 : (x == who) = true := by simp [hxe]
            clear hxe
            go_wp2
            go_ret
            rw [hF.out]
            exact ⟨rfl, hE.out⟩
          · have e0 : (x == who) = false := by simp [hxe]
            have HXE := hide hxe
            clear hxe
            go_wp2_with (fail)
            refine (ron_any base r el x wr (HF.out.ext C1.out.ext) hl).mono ?_
            rintro e w4 ⟨A8, c8, rfl, r8, l8, m8, z8, x8⟩
            have R8 := hide r8
            have hC4 := hide (show Ck w w4 el who (.slice (some ⟨bk, off, none⟩) n c) L from ⟨⟨_, c, by rw [HL.out], by rw [HL.out]; exact (Ext.reads x8 R5.out (Nat.le_refl _)).more x8.size, by rw [HL.out]; exact l5, M5.out, Z5.out⟩, C1.out.ext.trans x8, C1.out.seen⟩)
            obtain ⟨O, hO⟩ : ∃ O, O = onL el x el.length := ⟨_, rfl⟩
            rw [← hO] at R8 ⊢
            have HOM := hide (show ∀ y, y ∈ O ↔ (x, y) ∈ el from fun y => by rw [hO, onL_mem, List.take_length])
            have P2 := hide (P1.out.into HX.out O)
            have hOl : O.length ≤ el.length := by rw [hO]; exact onL_le _ _ _
            obtain ⟨m, hm⟩ : ∃ m, m = O.length := ⟨_, rfl⟩
            rw [← hm] at R8 hOl ⊢
            have HMm := hide hm
            clear r8 l8 m8 z8 x8 hO hm
            go_wp2_with (fail)
            go_loopw [5, 6, 9, 10] (fun s5 s6 s9 s10 wr => (∃ (b : Bool) (k n : Nat), k ≤ m ∧ i < n ∧ s6 = .bool b ∧ s9 = .int .i64 k ∧ lenOf s5 = n ∧ Hid (Ext w4 wr ∧ ∃ L, L.length = n ∧ x ∈ L ∧ Ck w wr el who s5 L ∧ PassIn el who L0.length L b i x O k))) (fun _ _ s9 _ _ => (m - intOf s9).toNat)
            case atStart => exact ⟨b, 0, n, by omega, hlt, rfl, rfl, rfl, Ext.refl _, L, HL.out, List.mem_of_getElem? HX.out, hC4.out, P2.out⟩
            case round =>
              obtain ⟨b2, k, n2, hkm, hin2, rfl, rfl, hln2, hs2⟩ := hrel
              obtain ⟨hx2, L2, hL2, hxL, hc2, hp2⟩ := hs2.out
              have HXL := hide hxL
              clear hxL
              obtain ⟨A2, c2, e2, r2, l2, m2, z2⟩ := hc2.row
              have hM2 := hc2.seen.le
              rw [hL2] at e2 r2 l2 hM2
              subst e2
              have RR := hide r2
              have MM := hide m2
              have ZZ := hide z2
              have CC := hide hc2
              have PP := hide hp2
              have LL := hide hL2
              have XX := hide hx2
              clear hs2 hc2 hp2 hL2 r2 m2 z2 hln2 hx2
              by_cases hltk : k < m
              · obtain ⟨bo, oo, hAo, hbo, hco⟩ := R8.out.plain (by omega) (by omega)
                subst hAo
                obtain ⟨y, hy⟩ : ∃ y, O[k]? = some y := ⟨_, List.getElem?_eq_getElem (by have := HMm.out; omega)⟩
                have g1 : wr.cell? ⟨bo, oo + k, none⟩ = some (.int .i64 y) := (XX.out.cell (p := ⟨bo, oo + k, none⟩) hbo).trans (hco k _ (by simp [iv, hy]))
                have HY := hide hy
                have hPS := hide (PP.out.step CC.out.seen.r hy)
                have hSS := hide (CC.out.seen.ins HXL.out ((HOM.out y).1 (List.mem_of_getElem? hy)))
                clear hco hy g0
                go_wp2_with (fail)
                refine (rise_any A2 c2 n2 L2 y wr LL.out RR.out l2 MM.out ZZ.out (by omega)).mono ?_
                rintro e w5 ⟨A9, c9, rfl, r9, l9, m9, z9, x9⟩
                have hC5 : Hid (Ck w w5 el who (.slice A9 (ins y L2).length c9) (ins y L2)) := ⟨⟨A9, c9, rfl, r9, l9, m9, z9⟩, CC.out.ext.trans x9, hSS.out⟩
                have hX5 := hide (XX.out.trans x9)
                obtain ⟨n3, hn3⟩ : ∃ n3, n3 = (ins y L2).length := ⟨_, rfl⟩
                rw [LL.out, ← hn3] at hPS
                rw [← hn3] at hC5 ⊢
                have hi3 : i < n3 := by rw [hn3]; have := LL.out; rcases ins_len y L2 CC.out.seen.r with h | h <;> omega
                have H3 := hide hn3.symm
                clear r9 l9 m9 z9 x9 hn3
                cases b2 with
                | true =>
                  go_wp2
                  go_roundw
                  case rel => exact ⟨true, k + 1, n3, by omega, hi3, rfl, by go_num, rfl, hX5.out, _, H3.out, (ins_mem y x L2).2 (.inr HXL.out), hC5.out, hPS.out⟩
                  case measure => simp [intOf]; omega
                | false =>
                  have hd : decide ((n2 : Int) < (n3 : Int)) = (false || decide (n2 < n3)) := by simp
                  have HD := hide hd
                  clear hd
                  go_wp2
                  go_roundw
                  case rel => exact ⟨_, k + 1, n3, by omega, hi3, rfl, by go_num, rfl, hX5.out, _, H3.out, (ins_mem y x L2).2 (.inr HXL.out), hC5.out, by simpa using hPS.out⟩
                  case measure => simp [intOf]; omega
              · obtain rfl : k = m := by omega
                have hP3 := hide (show Pass el who L0.length L2 b2 (i + 1) from by
                  have := PP.out
                  rw [HMm.out] at this
                  exact this.out HXE.out (fun y hy => (HOM.out y).2 hy))
                clear g0
                go_wp2
                go_roundw
                case rel => exact ⟨b2, i + 1, n2, by omega, rfl, by go_num, rfl, L2, LL.out, CC.out, hP3.out⟩
                case measure => simp [intOf]; omega
        · obtain rfl : i = n := by omega
          have hn1 : Hid (∃ L, Ck w wr el who (.slice A i c) L ∧ (b = false → cyc (elE el) who = false)) := ⟨L, C1.out, fun hb => by subst hb; have := P1.out; rw [← HL.out] at this; exact this.fin C1.out.seen⟩
          have hgr : b = true → L0.length < i := fun hb => by subst hb; have := P1.out.grown; rw [HL.out] at this; exact this
          have hA0 := C0.out.row
          go_wp2
          go_roundw
          case rel => exact ⟨b, rfl, hn1.out⟩
          case measure =>
            obtain ⟨A0, c0, e0, _⟩ := hA0
            rw [e0]
            cases b with
            | false => simp [mz, lenOf]; have := C0.out.seen.le; omega
            | true => have := hgr rfl; simp [mz, lenOf]; omega
end Go.Proofs.Ytppffbpocmgafaa
