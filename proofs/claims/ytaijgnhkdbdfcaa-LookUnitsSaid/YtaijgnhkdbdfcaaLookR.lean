/- Look: contracts: dirty. (Printed by mk_lookr.py.) -/
import Derived.Test.YtaijgnhkdbdfcaaLookQ
namespace Go.Proofs.Ytaijgnhkdbdfcaa
open Go.ChangeShapes Go.WideShapes Go.ChangeAt Go.RowKit
set_option linter.unusedVariables false

/-- where a page is, or would be -/
def findD : List Dt → Int → Nat
  | [], _ => 0
  | x :: l, n => if x.p < n then findD l n + 1 else 0
theorem findD_at : ∀ (l : List Dt) (n : Int) (i : Nat), (∀ j x, j < i → l[j]? = some x → x.p < n) → i ≤ l.length → (∀ x, l[i]? = some x → ¬ x.p < n) → findD l n = i
  | [], n, i, _, hi, _ => by
    obtain rfl : i = 0 := by simpa using hi
    rfl
  | x :: l, n, 0, _, _, h => by
    have hx := h x rfl
    simp [findD, hx]
  | x :: l, n, i + 1, hb, hi, h => by
    have hx := hb 0 x (by omega) rfl
    have ih := findD_at l n i (fun j y hj hy => hb (j + 1) y (by omega) (by simpa using hy)) (by simpa using hi) (fun y hy => h y (by simpa using hy))
    simp [findD, hx, ih]
/-- a page is noted -/
def dirtyN (D : List Dt) (n lsn : Int) : List Dt := match D[findD D n]? with
  | some x => if x.p = n then D else putD D (findD D n) ⟨n, lsn⟩
  | none => putD D (findD D n) ⟨n, lsn⟩
theorem putD_len (L : List Dt) (i : Nat) (x : Dt) (h : i ≤ L.length) : (putD L i x).length = L.length + 1 := by
  unfold putD
  simp only [List.length_append, List.length_take, List.length_cons, List.length_drop]
  omega
theorem SnAt.insD {w w1 : World} {base sb : Nat} {s : Sn} {AL AD AO : Option Addr} {cL cD cO : Nat} {D' : List Dt} {A' : Option Addr} {c' : Nat} (h : SnAt w base s AL cL AD cD AO cO) (ht : Touch w w1 (fun k => (Value.slice AD s.D.length cD).ownBlock = some k)) (ho' : w1.ownsRow base 40 2 (.slice A' D'.length c') D'.length (dts D')) :
    SnAt w1 base { s with D := D' } AL cL A' c' AO cO ∧ Tch base sb w w1 := by
  obtain ⟨os, ho, hos⟩ := h.o
  have hT : Tch base sb w w1 := Tch.own ht h.d (.inr (.inl rfl))
  exact ⟨⟨row_apart ht h.d h.l (by decide), ho', os, row_apart ht h.d ho (by decide), hT.ous hos⟩, hT⟩
theorem gives_dirty {w w' : World} {base sb : Nat} {s : Sn} {D : List Dt} {AL : Option Addr} {cL : Nat} {AD : Option Addr} {cD : Nat} {AO : Option Addr} {cO nl nd no : Nat} {u h : Int} (hn : nl = s.L.length) (hd : nd = D.length) (ho : no = s.O.length) (hu : u = s.u) (hh : h = s.h)
    (hf : SnAt w' base { s with D := D } AL cL AD cD AO cO) (ht : Tch base sb w w') (hB : Blk w' sb 37 #[.slice AL nl cL, .slice AD nd cD, .slice AO no cO, .int .i64 u, .int .i64 h]) {e : Ending} (he : e = .returned (.tuple #[])) : GivesLive w base sb { s with D := D } e w' := by
  subst hn hd ho hu hh
  exact ⟨he, _, hB, ⟨AL, cL, AD, cD, AO, cO, rfl, hf⟩, ht⟩
set_option maxRecDepth 100000 in
set_option maxHeartbeats 8000000 in
theorem dirty_any (w : World) (base sb : Nat) (s : Sn) (AL : Option Addr) (cL : Nat) (AD : Option Addr) (cD : Nat) (AO : Option Addr) (cO nl nd no : Nat) (n lsn : Int)
    (hB : Blk w sb 37 #[.slice AL nl cL, .slice AD nd cD, .slice AO no cO, .int .i64 s.u, .int .i64 s.h]) (hS : SnAt w base s AL cL AD cD AO cO) (hnl : nl = s.L.length) (hnd : nd = s.D.length) (hno : no = s.O.length) (hb : base ≤ sb) (hl : s.D.length ≤ 900) :
    Calls Try.prog 31 #[.pointer (some ⟨sb, 0, none⟩), .int .i64 n, .int .i64 lsn] w (GivesLive w base sb { s with D := dirtyN s.D n lsn }) := by
  have HS := hide hS
  have NL := hide hnl
  have ND := hide hnd
  have NO := hide hno
  have HB := hide hb
  have hnd9 : nd ≤ 900 := by omega
  have h64 : nd ≤ 9223372036854775807 := by omega
  obtain ⟨su, hsu⟩ : ∃ su, su = s.u := ⟨_, rfl⟩
  obtain ⟨sh, hsh⟩ : ∃ sh, sh = s.h := ⟨_, rfl⟩
  have B0 : Hid (Blk w sb 37 #[.slice AL nl cL, .slice AD nd cD, .slice AO no cO, .int .i64 su, .int .i64 sh]) := by rw [hsu, hsh]; exact hB
  have HSU := hide hsu
  have HSH := hide hsh
  have g1 : w.cell? ⟨sb, 1, none⟩ = some (.slice AD nd cD) := (B0.out.cell 1).trans rfl
  clear hS hB hnl hnd hno hl hb hsu hsh
  go_enter Try.func31, Try.ntmps31
  go_wp2_with (fail)
  go_loopw [6] (fun s6 wr => (∃ i : Nat, i ≤ nd ∧ s6 = .int .i64 i ∧ w = wr ∧ Hid (∀ j x, j < i → s.D[j]? = some x → x.p < n))) (fun s6 _ => (nd - intOf s6).toNat)
  case atStart => exact ⟨0, by omega, rfl, rfl, fun j x hj => absurd hj (by omega)⟩
  case round =>
    obtain ⟨i, hi, rfl, rfl, hb⟩ := hrel
    by_cases hlt : i < nd
    · obtain ⟨g, rfl⟩ : ∃ g, AD = some ⟨g, 0, none⟩ := by
        obtain ⟨g, cp, hv', _, _⟩ := HS.out.d.form (by rw [← ND.out]; omega)
        injection hv' with hv1 _ _
        exact ⟨g, hv1⟩
      obtain ⟨x, hx⟩ : ∃ x, s.D[i]? = some x := ⟨_, List.getElem?_eq_getElem (by rw [← ND.out]; exact hlt)⟩
      have gx : w.cell? ⟨g, i * 2, none⟩ = some (.int .i64 x.p) := by rw [HS.out.d.cellAt _ (by rw [← ND.out]; omega)]; exact (dts_at hx).1
      have dn : decide ((i : Int) < (nd : Int)) = true := decide_eq_true (by omega)
      have HX := hide hx
      clear hx
      by_cases hxt : x.p < n
      · have dx : decide (x.p < n) = true := decide_eq_true hxt
        have HXT := hide hxt
        clear hxt
        go_wp2_with (fail)
        go_roundw
        case rel => exact ⟨i + 1, by omega, by go_num, by trivial, fun j y hj hy => by
          rcases Nat.lt_or_ge j i with h | h
          · exact hb.out j y h hy
          · obtain rfl : j = i := by omega
            rw [HX.out] at hy
            injection hy with hy
            subst hy
            exact HXT.out⟩
        case measure => simp [intOf]; omega
      · have dx : decide (x.p < n) = false := decide_eq_false hxt
        have HFD := hide (findD_at s.D n i hb.out (by rw [← ND.out]; exact hi) (fun y hy => by rw [HX.out] at hy; injection hy with hy; subst hy; exact hxt))
        have de : ((i : Int) == (nd : Int)) = false := by simp; omega
        have HXT := hide hxt
        clear hxt
        by_cases hxe : x.p = n
        · have HDN := hide (show dirtyN s.D n lsn = s.D by unfold dirtyN; rw [HFD.out, HX.out]; exact if_pos hxe)
          have dxe : (x.p != n) = false := by simpa using hxe
          clear hxe
          go_wp2_with (fail)
          go_end0
          rw [HDN.out]
          exact gives_dirty NL.out ND.out NO.out HSU.out HSH.out HS.out (Tch.refl _ _ _) B0.out rfl
        · have HDN := hide (show dirtyN s.D n lsn = putD s.D i ⟨n, lsn⟩ by unfold dirtyN; rw [HFD.out, HX.out]; exact if_neg hxe)
          have dxe : (x.p != n) = true := by simpa using hxe
          clear hxe
          have W1 := hide (Ext.new w (.cells #[.int .i64 n, .int .i64 lsn] 40))
          have V1 := hide (Blk.new w 40 #[.int .i64 n, .int .i64 lsn])
          have HVG := hide (show ∀ ad : Addr, ((some ⟨g, 0, none⟩) : Option Addr) = some ad → w.heap.size ≠ ad.block from fun ad hg e => by
            have h1 := own_lt HS.out.d ad hg
            omega)
          have O1 := hide (W1.out.own HS.out.d)
          have HB1 := hide (show base ≤ (w.alloc (.cells #[.int .i64 n, .int .i64 lsn] 40)).heap.size by have h1 := (W1.out.blk B0.out).lt; have := HB.out; omega)
          have HO1 := hide (show ∀ u ∈ [Value.int .i64 n, .int .i64 lsn], u.oneCell' = true by intro u hu; simp only [List.mem_cons, List.not_mem_nil, or_false] at hu; rcases hu with rfl | rfl <;> rfl)
          have hil : i ≤ nd := by omega
          go_wp2_with (fail)
          refine (insert_anyD (w.alloc (.cells #[.int .i64 n, .int .i64 lsn] 40)) base (some ⟨g, 0, none⟩) cD nd i (dts s.D) [.int .i64 n, .int .i64 lsn] w.heap.size (by rw [ND.out]; exact O1.out) V1.out HVG.out rfl HO1.out (dts_one s.D) HB1.out (by omega) hil).mono ?_
          rintro e w4 ⟨A4, c4, rfl, ho4, ht4⟩
          rw [show (dts s.D).take (i * 2) ++ [Value.int .i64 n, .int .i64 lsn] ++ (dts s.D).drop (i * 2) = dts (putD s.D i ⟨n, lsn⟩) from (dts_put s.D i ⟨n, lsn⟩).symm] at ho4
          have T34 := hide ht4
          have B4 := hide (T34.out.blk (W1.out.blk B0.out) (by rw [ND.out]; exact own_blk_ne O1.out (W1.out.blk B0.out) (by decide)))
          have O4 := hide ho4
          have f4 := B4.out.frozen 1
          have g4 : w4.cell? ⟨sb, 1, none⟩ = some (.slice (some ⟨g, 0, none⟩) nd cD) := (B4.out.cell 1).trans rfl
          clear ho4 ht4
          go_wp2_with (fail)
          go_end0
          have LN := hide (show nd + 1 = (putD s.D i ⟨n, lsn⟩).length by rw [putD_len _ _ _ (by rw [← ND.out]; exact hil), ND.out])
          have S4 := hide ((HS.out.ext W1.out).insD (sb := sb) (by rw [← ND.out]; exact T34.out) (by rw [← LN.out]; exact O4.out))
          have S5 := hide (S4.out.1.box B4.out HB.out 1 (.slice A4 (nd + 1) c4))
          rw [HDN.out]
          exact gives_dirty NL.out LN.out NO.out HSU.out HSH.out S5.out.1 ((Tch.ext W1.out).trans (S4.out.2.trans S5.out.2.1)) S5.out.2.2 rfl
    · obtain rfl : i = nd := by omega
      have dn : decide ((i : Int) < (i : Int)) = false := decide_eq_false (by omega)
      have de : ((i : Int) == (i : Int)) = true := by simp
      have HFD := hide (findD_at s.D n i hb.out (by rw [← ND.out]; exact hi) (fun y hy => by
        have := (List.getElem?_eq_some_iff.1 hy).1
        have := ND.out
        omega))
      have HDN := hide (show dirtyN s.D n lsn = putD s.D i ⟨n, lsn⟩ by
        unfold dirtyN
        rw [HFD.out, List.getElem?_eq_none (by have := ND.out; omega)])
      have W1 := hide (Ext.new w (.cells #[.int .i64 n, .int .i64 lsn] 40))
      have V1 := hide (Blk.new w 40 #[.int .i64 n, .int .i64 lsn])
      have HVG := hide (show ∀ ad : Addr, (AD : Option Addr) = some ad → w.heap.size ≠ ad.block from fun ad hg e => by
        have h1 := own_lt HS.out.d ad hg
        omega)
      have O1 := hide (W1.out.own HS.out.d)
      have HB1 := hide (show base ≤ (w.alloc (.cells #[.int .i64 n, .int .i64 lsn] 40)).heap.size by have h1 := (W1.out.blk B0.out).lt; have := HB.out; omega)
      have HO1 := hide (show ∀ u ∈ [Value.int .i64 n, .int .i64 lsn], u.oneCell' = true by intro u hu; simp only [List.mem_cons, List.not_mem_nil, or_false] at hu; rcases hu with rfl | rfl <;> rfl)
      have hil : i ≤ i := by omega
      go_wp2_with (fail)
      refine (insert_anyD (w.alloc (.cells #[.int .i64 n, .int .i64 lsn] 40)) base AD cD i i (dts s.D) [.int .i64 n, .int .i64 lsn] w.heap.size (by rw [ND.out]; exact O1.out) V1.out HVG.out rfl HO1.out (dts_one s.D) HB1.out (by omega) hil).mono ?_
      rintro e w4 ⟨A4, c4, rfl, ho4, ht4⟩
      rw [show (dts s.D).take (i * 2) ++ [Value.int .i64 n, .int .i64 lsn] ++ (dts s.D).drop (i * 2) = dts (putD s.D i ⟨n, lsn⟩) from (dts_put s.D i ⟨n, lsn⟩).symm] at ho4
      have T34 := hide ht4
      have B4 := hide (T34.out.blk (W1.out.blk B0.out) (by rw [ND.out]; exact own_blk_ne O1.out (W1.out.blk B0.out) (by decide)))
      have O4 := hide ho4
      have f4 := B4.out.frozen 1
      have g4 : w4.cell? ⟨sb, 1, none⟩ = some (.slice AD i cD) := (B4.out.cell 1).trans rfl
      clear ho4 ht4
      go_wp2_with (fail)
      go_end0
      have LN := hide (show i + 1 = (putD s.D i ⟨n, lsn⟩).length by rw [putD_len _ _ _ (by rw [← ND.out]; exact hil), ND.out])
      have S4 := hide ((HS.out.ext W1.out).insD (sb := sb) (by rw [← ND.out]; exact T34.out) (by rw [← LN.out]; exact O4.out))
      have S5 := hide (S4.out.1.box B4.out HB.out 1 (.slice A4 (i + 1) c4))
      rw [HDN.out]
      exact gives_dirty NL.out LN.out NO.out HSU.out HSH.out S5.out.1 ((Tch.ext W1.out).trans (S4.out.2.trans S5.out.2.1)) S5.out.2.2 rfl
end Go.Proofs.Ytaijgnhkdbdfcaa
