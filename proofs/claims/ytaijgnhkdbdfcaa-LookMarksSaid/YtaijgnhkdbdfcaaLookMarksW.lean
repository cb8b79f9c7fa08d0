/- LookMarks: the walk. (Printed by mk_marks.py.) -/
import Derived.Test.YtaijgnhkdbdfcaaSame
import Derived.Test.YtaijgnhkdbdfcaaLawM
namespace Go.Proofs.Ytaijgnhkdbdfcaa.lookMarks
open Go.ChangeShapes Go.WideShapes Go.ChangeAt Go.RowKit
set_option linter.unusedVariables false

/-- the notes so far -/
def Notes (w1 wr : World) (A : Option Addr) (m c i : Nat) : Prop := ∃ l, EnsOwn wr w1.heap.size l A m c ∧ (∀ k X, l[k]? = some X → BdX k X) ∧ Ext w1 wr ∧ m ≤ 2 * i
theorem bd_snoc {l : List En} {X : En} (h : ∀ k X, l[k]? = some X → BdX k X) (hX : BdX l.length X) : ∀ k Y, (l ++ [X])[k]? = some Y → BdX k Y := fun k Y hY => by
  by_cases hk : k < l.length
  · rw [List.getElem?_append_left hk] at hY
    exact h k Y hY
  · have hke : k = l.length := by
      have := (List.getElem?_eq_some_iff.1 hY).1
      simp at this
      omega
    subst hke
    rw [List.getElem?_append_right (by omega), Nat.sub_self] at hY
    simp at hY
    subst hY
    exact hX
theorem act_bd {ns : List Nat} {k : Nat} {X : En} (hx : (actsN 0 ns)[k]? = some X) (j : Nat) : BdX j X := by
  rw [actsN_at] at hx
  cases hn : ns[k]? with
  | none => rw [hn] at hx; cases hx
  | some x =>
    rw [hn] at hx
    injection hx with hx
    subst hx
    exact ⟨by simp [actX, someE], by simp [actX], by simp [actX], by simp [actX], by simp [actX]⟩
/-- a mark -/
def markE (u h : Int) (L : List Lv) (D : List Dt) (O : List Ou) : En := ⟨{ kind := 9, t := 0, u := u, h := h, p := 0, nx := 0, a0 := 0, a1 := 0, b0 := 0, b1 := 0, NL := [], mv := [] }, L, D, O⟩
theorem mark_bd {S : Sn} {k : Nat} {Dl : List Dt} (h : Bd k S) (hd : Dl.length ≤ S.D.length) (u hh : Int) : BdX k (markE u hh S.L Dl S.O) :=
  ⟨by simp [markE], h.l, Nat.le_trans hd h.d, h.o, h.m⟩
theorem bd_len' {l : List En} {lsn : Int} (hX : ∀ k X, l[k]? = some X → BdX k X) : Bd l.length (seenN sn0 l lsn) := by
  have := Bd.run (lsn := lsn) (m := 0) (l := l) (fun k X h => by simpa using hX k X h) l.length (Nat.le_refl _)
  rw [List.take_length] at this
  simpa using this
theorem mark_en {w : World} {b b2 : Nat} {S : Sn} {Dl : List Dt} {su sh : Int} {AL AD AO AE : Option Addr} {cL cD cO cE : Nat} (hs : SnAt w b S AL cL AD cD AO cO) (hd : w.ownsRow b2 40 2 (.slice AE Dl.length cE) Dl.length (dts Dl)) : EnAt w (markE su sh S.L Dl S.O) none 0 none 0 AL cL AE cE AO cO := by
  obtain ⟨os, q1, q2⟩ := hs.o
  exact ⟨World.ownsRow_nil _ _ _ _, World.ownsRow_nil _ _ _ _, own_base hs.l (Nat.zero_le _), own_base hd (Nat.zero_le _), os, own_base q1 (Nat.zero_le _), q2⟩
theorem ownO_ext {w w' : World} {base n c : Nat} {O : List Ou} {A : Option Addr} (h : OwnO w base O A n c) (hx : Ext w w') : OwnO w' base O A n c := by
  obtain ⟨os, h1, h2⟩ := h
  exact ⟨os, hx.own h1, h2.ext hx⟩
/-- a mark's cells, its list of dirty pages as far as it is -/
def MarkAt (w6 wy : World) (eb : Nat) (su sh : Int) (AL : Option Addr) (ml cL : Nat) (AO : Option Addr) (mo cO k : Nat) (AD : Option Addr) (j cD : Nat) (Dl : List Dt) : Prop :=
  Blk wy eb 35 #[.int .i64 9, .int .i64 0, .int .i64 su, .int .i64 sh, .int .i64 0, .int .i64 0, .int .i64 0, .int .i64 0, .int .i64 0, .int .i64 0, .slice none 0 0, .slice none 0 0, .slice none 0 0, .slice AL ml cL, .slice AD j cD, .slice AO mo cO] ∧ wy.ownsRow w6.heap.size 40 2 (.slice AD j cD) j (dts Dl) ∧ j = Dl.length ∧ j ≤ k ∧ Touch w6 wy (fun x => x = eb)
set_option maxRecDepth 1000000 in
set_option maxHeartbeats 80000000 in
theorem walk_short (A : Option Addr) (c n : Nat) (ns : List Nat) (mk cl : Int) (w0 : World) (hr : Reads w0 w0.heap.size 1 A n (nv ns)) (hn : n = ns.length) (hz : ∀ x ∈ ns, x ≤ 65535) (hl : n ≤ 30) (hm0 : 0 ≤ mk) (hm1 : mk ≤ 4294967295) (hc0 : 0 ≤ cl) (hc1 : cl ≤ 255) :
    Calls Try.prog 3 #[.slice A n c, .int .u32 mk, .int .u8 cl] w0 fun e w' => e = .returned (.bool true) ∧ Ext w0 w' := by
  have HR0 := hide hr
  have HN := hide hn
  have HZ := hide hz
  have dl : decide ((30 : Int) < (n : Int)) = false := decide_eq_false (by omega)
  clear hr hn hz
  go_enter Try.func3, Try.ntmps3
  go_upto_region 6 with (first | (go_at_call 8; refine (begun_any _).mono ?_; rintro e w ⟨rfl, hx0⟩; have X0 := hide hx0; have HR := hide (X0.out.read HR0.out); clear hx0) | (go_at_call 9; refine (acts_any A c n ns w HR.out HN.out HZ.out (by omega)).mono ?_; rintro e w1 ⟨A7, c7, rfl, ho1, hx1⟩; have O1 := hide ho1; have X1 := hide hx1; clear ho1 hx1))
  go_wp2_with (fail)
  have P0 := hide (show Notes w1 w1 none 0 0 0 from ⟨[], EnsOwn.nil _ _, fun k X h => by simp at h, Ext.refl _, Nat.le_refl _⟩)
  go_loopw [8, 9] (fun s8 s9 wr => (∃ i : Nat, i ≤ n ∧ s9 = .int .i64 i ∧ ∃ A8 m c8, s8 = .slice A8 m c8 ∧ Hid (Notes w1 wr A8 m c8 i))) (fun _ s9 _ => (n - intOf s9).toNat)
  case atStart => exact ⟨0, by omega, rfl, none, 0, 0, rfl, P0.out⟩
  case round =>
    obtain ⟨i, hi, rfl, A8, m, c8, rfl, hrel⟩ := hrel
    obtain ⟨l, hown, hbd, hext, hm2⟩ := hrel.out
    have NO := hide hown
    have BD := hide hbd
    have XW := hide hext
    clear hrel hown hbd hext
    by_cases hlt : i < n
    · obtain ⟨X, hX⟩ : ∃ X, (actsN 0 ns)[i]? = some X := ⟨_, List.getElem?_eq_getElem (by rw [actsN_len, ← HN.out]; exact hlt)⟩
      have BX := hide (act_bd hX)
      obtain ⟨g, AN, cN, AM, cM, EL, cEL, ED, cED, EO, cEO, hA, hg, hc, he⟩ := (O1.out.ext XW.out).cells hX
      subst hA
      have EA := hide he
      have q0 : wr.cell? ⟨g, i * 16, none⟩ = some (.int .i64 X.E.kind) := hc 0 _ rfl
      have q1 : wr.cell? ⟨g, i * 16 + 1, none⟩ = some (.int .i64 X.E.t) := hc 1 _ rfl
      have q2 : wr.cell? ⟨g, i * 16 + 2, none⟩ = some (.int .i64 X.E.u) := hc 2 _ rfl
      have q3 : wr.cell? ⟨g, i * 16 + 3, none⟩ = some (.int .i64 X.E.h) := hc 3 _ rfl
      have q4 : wr.cell? ⟨g, i * 16 + 4, none⟩ = some (.int .i64 X.E.p) := hc 4 _ rfl
      have q5 : wr.cell? ⟨g, i * 16 + 5, none⟩ = some (.int .i64 X.E.nx) := hc 5 _ rfl
      have q6 : wr.cell? ⟨g, i * 16 + 6, none⟩ = some (.int .i64 X.E.a0) := hc 6 _ rfl
      have q7 : wr.cell? ⟨g, i * 16 + 7, none⟩ = some (.int .i64 X.E.a1) := hc 7 _ rfl
      have q8 : wr.cell? ⟨g, i * 16 + 8, none⟩ = some (.int .i64 X.E.b0) := hc 8 _ rfl
      have q9 : wr.cell? ⟨g, i * 16 + 9, none⟩ = some (.int .i64 X.E.b1) := hc 9 _ rfl
      have q10 : wr.cell? ⟨g, i * 16 + 10, none⟩ = some (.slice none 0 0) := hc 10 _ rfl
      have q11 : wr.cell? ⟨g, i * 16 + 11, none⟩ = some (.slice AN X.E.NL.length cN) := hc 11 _ rfl
      have q12 : wr.cell? ⟨g, i * 16 + 12, none⟩ = some (.slice AM X.E.mv.length cM) := hc 12 _ rfl
      have q13 : wr.cell? ⟨g, i * 16 + 13, none⟩ = some (.slice EL X.L.length cEL) := hc 13 _ rfl
      have q14 : wr.cell? ⟨g, i * 16 + 14, none⟩ = some (.slice ED X.D.length cED) := hc 14 _ rfl
      have q15 : wr.cell? ⟨g, i * 16 + 15, none⟩ = some (.slice EO X.O.length cEO) := hc 15 _ rfl
      have dn : decide ((i : Int) < (n : Int)) = true := decide_eq_true (by omega)
      clear hc he hX
      have X3 := hide (Ext.new wr (.cells #[.int .i64 X.E.kind, .int .i64 X.E.t, .int .i64 X.E.u, .int .i64 X.E.h, .int .i64 X.E.p, .int .i64 X.E.nx, .int .i64 X.E.a0, .int .i64 X.E.a1, .int .i64 X.E.b0, .int .i64 X.E.b1, .slice none 0 0, .slice AN X.E.NL.length cN, .slice AM X.E.mv.length cM, .slice EL X.L.length cEL, .slice ED X.D.length cED, .slice EO X.O.length cEO] 35))
      have V3 := hide (Blk.new wr 35 #[.int .i64 X.E.kind, .int .i64 X.E.t, .int .i64 X.E.u, .int .i64 X.E.h, .int .i64 X.E.p, .int .i64 X.E.nx, .int .i64 X.E.a0, .int .i64 X.E.a1, .int .i64 X.E.b0, .int .i64 X.E.b1, .slice none 0 0, .slice AN X.E.NL.length cN, .slice AM X.E.mv.length cM, .slice EL X.L.length cEL, .slice ED X.D.length cED, .slice EO X.O.length cEO])
      have N3 := hide (NO.out.ext X3.out)
      have HB3 := hide (show w1.heap.size ≤ (wr.alloc (.cells #[.int .i64 X.E.kind, .int .i64 X.E.t, .int .i64 X.E.u, .int .i64 X.E.h, .int .i64 X.E.p, .int .i64 X.E.nx, .int .i64 X.E.a0, .int .i64 X.E.a1, .int .i64 X.E.b0, .int .i64 X.E.b1, .slice none 0 0, .slice AN X.E.NL.length cN, .slice AM X.E.mv.length cM, .slice EL X.L.length cEL, .slice ED X.D.length cED, .slice EO X.O.length cEO] 35)).heap.size from (XW.out.trans X3.out).size)
      have HE3 := hide (show EnIs (wr.alloc (.cells #[.int .i64 X.E.kind, .int .i64 X.E.t, .int .i64 X.E.u, .int .i64 X.E.h, .int .i64 X.E.p, .int .i64 X.E.nx, .int .i64 X.E.a0, .int .i64 X.E.a1, .int .i64 X.E.b0, .int .i64 X.E.b1, .slice none 0 0, .slice AN X.E.NL.length cN, .slice AM X.E.mv.length cM, .slice EL X.L.length cEL, .slice ED X.D.length cED, .slice EO X.O.length cEO] 35)) X [.int .i64 X.E.kind, .int .i64 X.E.t, .int .i64 X.E.u, .int .i64 X.E.h, .int .i64 X.E.p, .int .i64 X.E.nx, .int .i64 X.E.a0, .int .i64 X.E.a1, .int .i64 X.E.b0, .int .i64 X.E.b1, .slice none 0 0, .slice AN X.E.NL.length cN, .slice AM X.E.mv.length cM, .slice EL X.L.length cEL, .slice ED X.D.length cED, .slice EO X.O.length cEO] from ⟨AN, cN, AM, cM, EL, cEL, ED, cED, EO, cEO, rfl, EA.out.ext X3.out⟩)
      go_upto_region 11 with (at_builtin; refine wpList_append_ens _ rfl (.tmp 29) (.tmp 34) rfl w1.heap.size l A8 m c8 rfl wr.heap.size rfl X [.int .i64 X.E.kind, .int .i64 X.E.t, .int .i64 X.E.u, .int .i64 X.E.h, .int .i64 X.E.p, .int .i64 X.E.nx, .int .i64 X.E.a0, .int .i64 X.E.a1, .int .i64 X.E.b0, .int .i64 X.E.b1, .slice none 0 0, .slice AN X.E.NL.length cN, .slice AM X.E.mv.length cM, .slice EL X.L.length cEL, .slice ED X.D.length cED, .slice EO X.O.length cEO] N3.out V3.out HE3.out (by omega) HB3.out ?_; intro A9 c9 w4 ho4 _ hx4 _; have N4 := hide ho4; have X4 := hide (hx4 (Nat.le_refl _) (XW.out.trans X3.out)); clear ho4 hx4)
      have LM := hide (show m = l.length from NO.out.1)
      have BD4 := hide (bd_snoc BD.out (BX.out _))
      clear q0 q1 q2 q3 q4 q5 q6 q7 q8 q9 q10 q11 q12 q13 q14 q15
      have hi64 : (i : Int) < 64 := by omega
      go_upto_if 40 with (fail)
      obtain ⟨b, hb⟩ : ∃ b, b = (bits BinOp.and IntKind.u32 (mk / 2 ^ i) 1 == 1) := ⟨_, rfl⟩
      rw [← hb]
      clear hb
      cases b with
      | false =>
        go_wp2_with (fail)
        go_roundw
        case rel => exact ⟨i + 1, by omega, by go_num, A9, m + 1, c9, rfl, l ++ [X], N4.out, BD4.out, X4.out, by omega⟩
        case measure => simp [intOf]; omega
      | true =>
        have hm80 : 0 + (m + 1) ≤ 80 := by omega
        have CA := hide (gives_lit (all_any w4 A9 c9 (m + 1) (l ++ [X]) 0 N4.out.at_ (fun k Y h => by rw [Nat.zero_add]; exact BD4.out k Y h) hm80))
        have BS := hide (bd_len' (lsn := 1) BD4.out)
        have LX := hide N4.out.1
        rw [← LX.out] at BS
        obtain ⟨S, hS⟩ : ∃ S, S = seenN sn0 (l ++ [X]) 1 := ⟨_, rfl⟩
        rw [← hS] at CA BS
        clear hS
        go_upto_region 13 with (go_at_call 10; refine CA.out.mono ?_; rintro e w5 ⟨AL, cL, AD, cD, AO, cO, ml, md, mo, su, sh, rfl, hs5, hx5, hl, hd, ho, hu, hh⟩; have S5 := hide hs5; have X5 := hide hx5; have ML := hide hl; have MD := hide hd; have MO := hide ho; have MU := hide hu; have MH := hide hh; clear hs5 hx5 hl hd ho hu hh)
        obtain ⟨w5b, hw5b⟩ : ∃ w5b, w5b = w5.alloc (.cells #[.slice AL ml cL, .slice AD md cD, .slice AO mo cO, .int .i64 su, .int .i64 sh] 37) := ⟨_, rfl⟩
        obtain ⟨s10, hs10⟩ : ∃ s10, s10 = w5.heap.size := ⟨_, rfl⟩
        have X5b := hide (show Ext w5 w5b by rw [hw5b]; exact Ext.new w5 _)
        have B5 := hide (show Blk w5b s10 37 #[.slice AL ml cL, .slice AD md cD, .slice AO mo cO, .int .i64 su, .int .i64 sh] by rw [hw5b, hs10]; exact Blk.new w5 37 _)
        rw [← hw5b, ← hs10]
        clear hw5b hs10
        obtain ⟨z0, z1, z2, z3, z4⟩ := B5.out.cells5
        go_upto_region 14 with (fail)
        obtain ⟨w6, hw6⟩ : ∃ w6, w6 = w5b.alloc (.cells #[.int .i64 9, .int .i64 0, .int .i64 su, .int .i64 sh, .int .i64 0, .int .i64 0, .int .i64 0, .int .i64 0, .int .i64 0, .int .i64 0, .slice none 0 0, .slice none 0 0, .slice none 0 0, .slice AL ml cL, .slice none 0 0, .slice AO mo cO] 35) := ⟨_, rfl⟩
        obtain ⟨eb, heb⟩ : ∃ eb, eb = w5b.heap.size := ⟨_, rfl⟩
        have X6 := hide (show Ext w5b w6 by rw [hw6]; exact Ext.new w5b _)
        have E6 := hide (show Blk w6 eb 35 #[.int .i64 9, .int .i64 0, .int .i64 su, .int .i64 sh, .int .i64 0, .int .i64 0, .int .i64 0, .int .i64 0, .int .i64 0, .int .i64 0, .slice none 0 0, .slice none 0 0, .slice none 0 0, .slice AL ml cL, .slice none 0 0, .slice AO mo cO] by rw [hw6, heb]; exact Blk.new w5b 35 _)
        have B6 := hide (X6.out.blk B5.out)
        have HEB := hide heb
        have HSE := hide (Blk.ne_ B6.out E6.out (by decide))
        rw [← hw6, ← heb]
        clear hw6 heb z0 z1 z2 z3 z4
        have S6 := hide (S5.out.ext (X5b.out.trans X6.out))
        have hmd : md ≤ 1000 := by have h1 := BS.out.d; rw [MD.out]; omega
        go_wp2_with (fail)
        go_loopw [12] (fun s12 wy => (∃ k : Nat, k ≤ md ∧ s12 = .int .i64 k ∧ Hid (∃ AE j cE Dl, MarkAt w6 wy eb su sh AL ml cL AO mo cO k AE j cE Dl))) (fun s12 _ => (md - intOf s12).toNat)
        case atStart => exact ⟨0, by omega, rfl, none, 0, 0, [], E6.out, World.ownsRow_nil _ _ _ _, rfl, Nat.le_refl _, Touch.refl _ _⟩
        case round =>
          obtain ⟨k, hk, rfl, hrel⟩ := hrel
          obtain ⟨AE, j, cE, Dl, r1, r2, r3, r4, r5⟩ := hrel.out
          have E1 := hide r1
          have D1 := hide r2
          have J1 := hide r3
          have J2 := hide r4
          have T1 := hide r5
          clear r1 r2 r3 r4 r5 hrel
          have SB := hide (T1.out.blk B6.out HSE.out)
          have g1 : wr.cell? ⟨s10, 1, none⟩ = some (.slice AD md cD) := (SB.out.cell 1).trans rfl
          by_cases hkl : k < md
          · obtain ⟨x, hx⟩ : ∃ x, S.D[k]? = some x := ⟨_, List.getElem?_eq_getElem (by rw [← MD.out]; exact hkl)⟩
            obtain ⟨gd, rfl⟩ := own_some S6.out.d (by rw [← MD.out]; omega)
            have DR := hide (row_apart1 T1.out E6.out S6.out.d (by decide))
            have d0 : wr.cell? ⟨gd, k * 2, none⟩ = some (.int .i64 x.p) := by rw [DR.out.cellAt _ (by rw [← MD.out]; omega)]; exact (dts_at hx).1
            have d1 : wr.cell? ⟨gd, k * 2 + 1, none⟩ = some (.int .i64 x.r) := by rw [DR.out.cellAt _ (by rw [← MD.out]; omega)]; exact (dts_at hx).2
            have dn : decide ((k : Int) < (md : Int)) = true := decide_eq_true (by omega)
            have hkm : (k : Int) < (md : Int) := by omega
            clear hx
            go_upto_if 64 with (fail)
            obtain ⟨b2, hb2⟩ : ∃ b2, b2 = (bits BinOp.and IntKind.u8 (cl / 2 ^ (k % 8)) 1 == 0) := ⟨_, rfl⟩
            rw [← hb2]
            clear hb2
            cases b2 with
            | false =>
              go_wp2_with (fail)
              go_roundw
              case rel => exact ⟨k + 1, by omega, by go_num, AE, j, cE, Dl, E1.out, D1.out, J1.out, by have := J2.out; omega, T1.out⟩
              case measure => simp [intOf]; omega
            | true =>
              obtain ⟨i0, z0, hi0, hz0, hzs0, hs0, hb0⟩ := info_parts2 Try.info40'
              have hj : j ≤ 1000 := by have := J2.out; omega
              have e14 : wr.cell? ⟨eb, 14, none⟩ = some (.slice AE j cE) := (E1.out.cell 14).trans rfl
              go_upto_region 18 with (fail)
              refine wp_region_F (S := (fun w' => w'.cell? ⟨eb, 14, none⟩ = some (.slice AE j cE) ∧ w'.cell? ⟨s10, 1, none⟩ = some (.slice (some ⟨gd, 0, none⟩) md cD) ∧ w'.cell? ⟨gd, k * 2, none⟩ = some (.int .i64 x.p) ∧ w'.cell? ⟨gd, k * 2 + 1, none⟩ = some (.int .i64 x.r))) 10 (by kernel_rfl) (by kernel_rfl) ⟨e14, g1, d0, d1⟩ (fun hHeld => ?_)
              refine GoF.take 0 (some 65) (v := ?_) rfl rfl (by kernel_rfl) (by kernel_rfl) (by kernel_rfl) (fun _ _ _ h => h) (Or.inl ⟨by rfl, ?_⟩) (by assumption) ?_
              rotate_left
              · intro w' hSw
                try dsimp only at hSw
                go_simp
                try with_reducible rfl
              try simp only [Act.put, List.setIfInBounds_toArray, List.set_cons_zero, List.set_cons_succ]
              refine GoF.take 1 (some 66) (v := ?_) rfl rfl (by kernel_rfl) (by kernel_rfl) (by kernel_rfl) (fun _ _ _ h => h) (Or.inl ⟨by rfl, ?_⟩) (by assumption) ?_
              rotate_left
              · intro w' hSw
                try dsimp only at hSw
                go_simp
                try with_reducible rfl
              try simp only [Act.put, List.setIfInBounds_toArray, List.set_cons_zero, List.set_cons_succ]
              refine GoF.take 2 (some 67) (v := ?_) rfl rfl (by kernel_rfl) (by kernel_rfl) (by kernel_rfl) (fun _ _ _ h => h) (Or.inl ⟨by rfl, ?_⟩) (by assumption) ?_
              rotate_left
              · intro w' hSw
                try dsimp only at hSw
                go_simp
                try with_reducible rfl
              try simp only [Act.put, List.setIfInBounds_toArray, List.set_cons_zero, List.set_cons_succ]
              refine GoF.take 3 (some 68) (v := ?_) rfl rfl (by kernel_rfl) (by kernel_rfl) (by kernel_rfl) (fun _ _ _ h => h) (Or.inl ⟨by rfl, ?_⟩) (by assumption) ?_
              rotate_left
              · intro w' hSw
                try dsimp only at hSw
                go_simp
                try with_reducible rfl
              try simp only [Act.put, List.setIfInBounds_toArray, List.set_cons_zero, List.set_cons_succ]
              refine GoF.take 4 (some 69) (v := ?_) rfl rfl (by kernel_rfl) (by kernel_rfl) (by kernel_rfl) (fun _ _ _ h => h) (Or.inl ⟨by rfl, ?_⟩) (by assumption) ?_
              rotate_left
              · intro w' hSw
                try dsimp only at hSw
                go_simp
                try with_reducible rfl
              try simp only [Act.put, List.setIfInBounds_toArray, List.set_cons_zero, List.set_cons_succ]
              refine GoF.take 5 (some 70) (v := ?_) rfl rfl (by kernel_rfl) (by kernel_rfl) (by kernel_rfl) (fun _ _ _ h => h) (Or.inl ⟨by rfl, ?_⟩) (by assumption) ?_
              rotate_left
              · intro w' hSw
                try dsimp only at hSw
                go_simp
                try with_reducible rfl
              try simp only [Act.put, List.setIfInBounds_toArray, List.set_cons_zero, List.set_cons_succ]
              refine GoF.take 6 (some 71) (v := ?_) rfl rfl (by kernel_rfl) (by kernel_rfl) (by kernel_rfl) (fun _ _ _ h => h) (Or.inl ⟨by rfl, ?_⟩) (by assumption) ?_
              rotate_left
              · intro w' hSw
                try dsimp only at hSw
                go_simp
                try with_reducible rfl
              try simp only [Act.put, List.setIfInBounds_toArray, List.set_cons_zero, List.set_cons_succ]
              refine GoF.each (rs := [7]) (by kernel_rfl) (by kernel_rfl) (by kernel_rfl) ?_
              refine EachF.cons (i := 7) rfl (fun K hK => ?_) EachF.nil
              go_simp
              obtain ⟨w7, hw7⟩ : ∃ w7, w7 = (wr.alloc (.cells #[.int .i64 x.p, .int .i64 x.r] 40)).drew := ⟨_, rfl⟩
              obtain ⟨vb, hvb⟩ : ∃ vb, vb = wr.heap.size := ⟨_, rfl⟩
              have V7 := hide (show Blk w7 vb 40 #[.int .i64 x.p, .int .i64 x.r] by rw [hw7, hvb]; exact (Blk.new wr 40 _).drew)
              have X7 := hide (show Ext wr w7 by rw [hw7]; exact Ext.drew (Ext.new wr _))
              have E7 := hide (X7.out.blk E1.out)
              have SB7 := hide (X7.out.blk SB.out)
              have DR7 := hide (X7.out.own DR.out)
              have D7 := hide (X7.out.own D1.out)
              have c0 := (X7.out.cell (World.block_lt_of_cell? _ _ d0)).trans d0
              have c1 := (X7.out.cell (World.block_lt_of_cell? _ _ d1)).trans d1
              rw [← hw7, ← hvb]
              clear hw7 hvb
              refine hK.out _ _ ⟨(E7.out.cell 14).trans rfl, (SB7.out.cell 1).trans rfl, c0, c1⟩ (fun hHeld => ?_)
              clear hK K
              refine GoF.each (rs := [8]) (by kernel_rfl) (by kernel_rfl) (by kernel_rfl) ?_
              refine EachF.cons (i := 8) rfl (fun K hK => ?_) EachF.nil
              have HR7 := hide (show Reads w7 w7.heap.size 2 (some ⟨vb, 0, none⟩) 1 [.int .i64 x.p, .int .i64 x.r] from reads_blk V7.out rfl)
              have HBS := hide (show w6.heap.size ≤ w7.heap.size from Nat.le_trans T1.out.size X7.out.size)
              have H17 := hide (show ∀ u ∈ [Value.int .i64 x.p, .int .i64 x.r], u.oneCell' = true by intro u hu; simp only [List.mem_cons, List.not_mem_nil, or_false] at hu; rcases hu with rfl | rfl <;> rfl)
              refine step_append_any _ rfl (.tmp 66) (.tmp 72) 32 rfl w6.heap.size 40 i0 z0 2 16 Try.underlying32 hi0 hz0 hs0 hb0 hzs0 (by omega) (.slice AE j cE) j (dts Dl) (by rfl) D7.out _ (some ⟨vb, 0, none⟩) 1 1 [.int .i64 x.p, .int .i64 x.r] (by rfl) HR7.out H17.out (by simp only [maxLen]; omega) (by omega) HBS.out ?_
              intro v8 w8 ho8 hg8 hat8
              obtain ⟨A9e, c9e, hv8, _⟩ := own_form ho8
              subst hv8
              have O8 := hide ho8
              have T8 := hide ((Touch.refl w7 (fun k => Value.ownBlock (.slice AE j cE) = some k)).grown hg8 (fun k hk _ => hk))
              have E8 := hide (T8.out.blk E7.out (own_blk_ne D7.out E7.out (by decide)))
              have SB8 := hide (T8.out.blk SB7.out (own_blk_ne D7.out SB7.out (by decide)))
              have HGD := hide (show gd < w6.heap.size from own_lt S6.out.d _ rfl)
              have DR8 := hide (ownsRow_touch T8.out DR7.out (fun q hq hf => by
                have h1 := own_ge D7.out hf
                have h2 : q = gd := by simpa [Value.ownBlock] using hq.symm
                have := HGD.out
                omega))
              have f14 := E8.out.frozen 14
              have c0 : w8.cell? ⟨gd, k * 2, none⟩ = some (.int .i64 x.p) := by rw [DR8.out.cellAt _ (by rw [← MD.out]; omega), ← DR7.out.cellAt _ (by rw [← MD.out]; omega)]; exact hHeld.2.2.1
              have c1 : w8.cell? ⟨gd, k * 2 + 1, none⟩ = some (.int .i64 x.r) := by rw [DR8.out.cellAt _ (by rw [← MD.out]; omega), ← DR7.out.cellAt _ (by rw [← MD.out]; omega)]; exact hHeld.2.2.2
              have T68 := hide (show Touch w6 w8 (fun x => x = eb) from Touch.trans T1.out (Touch.trans (Touch.of_below X7.out (fun k => Value.ownBlock (.slice AE j cE) = some k)) T8.out (fun _ _ h => h)) (fun q hq hf => by have := own_ge D1.out hf; omega))
              refine hK.out _ _ ⟨(E8.out.cell 14).trans rfl, (SB8.out.cell 1).trans rfl, c0, c1⟩ (fun hHeld => ?_)
              clear hK K ho8 hg8 hat8
              have h14 := hHeld.1
              change GoF _ _ _ _ _ _ _ _ (Act.put _ (some 73) _) _
              simp only [Act.put, List.setIfInBounds_toArray, List.set_cons_zero, List.set_cons_succ]
              refine GoF.take 9 (some 74) (v := ?_) rfl rfl (by kernel_rfl) (by kernel_rfl) (by kernel_rfl) (fun _ _ _ h => h) (Or.inl ⟨by rfl, ?_⟩) (by assumption) ?_
              rotate_left
              · intro w' hSw
                try dsimp only at hSw
                go_simp
                try with_reducible rfl
              try simp only [Act.put, List.setIfInBounds_toArray, List.set_cons_zero, List.set_cons_succ]
              refine GoF.last (by kernel_rfl) (by kernel_rfl) rfl (fun K hK => ?_)
              go_simp
              refine hK.out _ _ ?_
              clear hK K hHeld h14 f14 c0 c1
              have E9 := hide (E8.out.set_ 14 (.slice A9e (j + 1) c9e))
              simp only [List.set_cons_zero, List.set_cons_succ, List.setIfInBounds_toArray] at E9
              have O9 := hide (own_far O8.out (p := ⟨eb, 14, none⟩) (own_blk_ne O8.out E8.out (by decide)) (.slice A9e (j + 1) c9e))
              have T9 := hide (T68.out.trans (touch_set w8 eb 14 (.slice A9e (j + 1) c9e)) (fun _ _ e => e))
              obtain ⟨w9, hw9⟩ : ∃ w9, w9 = w8.setCell ⟨eb, 14, none⟩ (.slice A9e (j + 1) c9e) := ⟨_, rfl⟩
              rw [← hw9] at E9 O9 T9
              rw [← hw9]
              clear hw9
              go_wp2_with (fail)
              go_roundw
              case rel => exact ⟨k + 1, by omega, by go_num, A9e, j + 1, c9e, Dl ++ [x], E9.out, by
                have e : dts (Dl ++ [x]) = dts Dl ++ [.int .i64 x.p, .int .i64 x.r] := by simp [dts, dtc]
                rw [e]
                exact O9.out, by rw [List.length_append, J1.out]; rfl, by have := J2.out; omega, T9.out⟩
              case measure => simp [intOf]; omega
          · obtain rfl : k = md := by omega
            have dn : decide ((k : Int) < (k : Int)) = false := decide_eq_false (by omega)
            have XR := hide (show Ext w4 wr from Touch.ext (X5.out.trans (X5b.out.trans X6.out)) T1.out (by rw [HEB.out]; exact (X5.out.trans X5b.out).size))
            have X7 := hide (Ext.new wr (.cells #[.int .i64 9, .int .i64 0, .int .i64 su, .int .i64 sh, .int .i64 0, .int .i64 0, .int .i64 0, .int .i64 0, .int .i64 0, .int .i64 0, .slice none 0 0, .slice none 0 0, .slice none 0 0, .slice AL ml cL, .slice AE j cE, .slice AO mo cO] 35))
            have V7 := hide (Blk.new wr 35 #[.int .i64 9, .int .i64 0, .int .i64 su, .int .i64 sh, .int .i64 0, .int .i64 0, .int .i64 0, .int .i64 0, .int .i64 0, .int .i64 0, .slice none 0 0, .slice none 0 0, .slice none 0 0, .slice AL ml cL, .slice AE j cE, .slice AO mo cO])
            have N7 := hide (N4.out.ext (XR.out.trans X7.out))
            have HB7 := hide (show w1.heap.size ≤ (wr.alloc (.cells #[.int .i64 9, .int .i64 0, .int .i64 su, .int .i64 sh, .int .i64 0, .int .i64 0, .int .i64 0, .int .i64 0, .int .i64 0, .int .i64 0, .slice none 0 0, .slice none 0 0, .slice none 0 0, .slice AL ml cL, .slice AE j cE, .slice AO mo cO] 35)).heap.size from (X4.out.trans (XR.out.trans X7.out)).size)
            have XS := hide (show Ext w5 wr from Touch.ext (X5b.out.trans X6.out) T1.out (by rw [HEB.out]; exact X5b.out.size))
            have HE7 := hide (show EnIs (wr.alloc (.cells #[.int .i64 9, .int .i64 0, .int .i64 su, .int .i64 sh, .int .i64 0, .int .i64 0, .int .i64 0, .int .i64 0, .int .i64 0, .int .i64 0, .slice none 0 0, .slice none 0 0, .slice none 0 0, .slice AL ml cL, .slice AE j cE, .slice AO mo cO] 35)) (markE su sh S.L Dl S.O) [.int .i64 9, .int .i64 0, .int .i64 su, .int .i64 sh, .int .i64 0, .int .i64 0, .int .i64 0, .int .i64 0, .int .i64 0, .int .i64 0, .slice none 0 0, .slice none 0 0, .slice none 0 0, .slice AL ml cL, .slice AE j cE, .slice AO mo cO] from ⟨none, 0, none, 0, AL, cL, AE, cE, AO, cO, by rw [ML.out, J1.out, MO.out]; rfl, mark_en (S5.out.ext (XS.out.trans X7.out)) (by rw [← J1.out]; exact X7.out.own D1.out)⟩)
            have BD7 := hide (bd_snoc BD4.out (by rw [← LX.out]; exact mark_bd (Dl := Dl) BS.out (by have := J1.out; have := J2.out; have := MD.out; omega) su sh))
            obtain ⟨y0, y1, y2, y3, y4, y5, y6, y7, y8, y9, y10, y11, y12, y13, y14, y15⟩ := E1.out.cells16
            clear E1
            go_wp2_with (at_builtin; refine wpList_append_ens _ rfl (.tmp 75) (.tmp 77) rfl w1.heap.size (l ++ [X]) A9 (m + 1) c9 rfl wr.heap.size rfl (markE su sh S.L Dl S.O) [.int .i64 9, .int .i64 0, .int .i64 su, .int .i64 sh, .int .i64 0, .int .i64 0, .int .i64 0, .int .i64 0, .int .i64 0, .int .i64 0, .slice none 0 0, .slice none 0 0, .slice none 0 0, .slice AL ml cL, .slice AE j cE, .slice AO mo cO] N7.out V7.out HE7.out (by omega) HB7.out ?_; intro A10 c10 w8 ho8 _ hx8 _; have N8 := hide ho8; have X8 := hide (hx8 (Nat.le_refl _) (X4.out.trans (XR.out.trans X7.out))); clear ho8 hx8)
            go_roundw
            case rel => exact ⟨i + 1, by omega, by go_num, A10, m + 1 + 1, c10, rfl, _, N8.out, BD7.out, X8.out, by omega⟩
            case measure => simp [intOf]; omega
    · obtain rfl : i = n := by omega
      have dn : decide ((i : Int) < (i : Int)) = false := decide_eq_false (by omega)
      have CA := hide (gives_lit (all_any wr A8 c8 m l 0 NO.out.at_ (fun k Y h => by rw [Nat.zero_add]; exact BD.out k Y h) (by omega)))
      have LE := hide (late_eq l)
      have BS := hide (bd_len' (lsn := 1) BD.out)
      have LL := hide NO.out.1
      go_upto_region 21 with (go_at_call 10; refine CA.out.mono ?_; rintro e w5 ⟨AL, cL, AD, cD, AO, cO, ml, md, mo, su, sh, rfl, hs5, hx5, hl, hd, ho, hu, hh⟩; have S5 := hide hs5; have X5 := hide hx5; have ML := hide hl; have MD := hide hd; have MO := hide ho; have MU := hide hu; have MH := hide hh; clear hs5 hx5 hl hd ho hu hh)
      obtain ⟨w5b, hw5b⟩ : ∃ w5b, w5b = w5.alloc (.cells #[.slice AL ml cL, .slice AD md cD, .slice AO mo cO, .int .i64 su, .int .i64 sh] 37) := ⟨_, rfl⟩
      obtain ⟨s13, hs13⟩ : ∃ s13, s13 = w5.heap.size := ⟨_, rfl⟩
      have X5b := hide (show Ext w5 w5b by rw [hw5b]; exact Ext.new w5 _)
      have B5 := hide (show Blk w5b s13 37 #[.slice AL ml cL, .slice AD md cD, .slice AO mo cO, .int .i64 su, .int .i64 sh] by rw [hw5b, hs13]; exact Blk.new w5 37 _)
      rw [← hw5b, ← hs13]
      clear hw5b hs13
      obtain ⟨S, hS⟩ : ∃ S, S = seenN sn0 l 1 := ⟨_, rfl⟩
      rw [← hS] at S5 ML MD MO MU MH LE BS
      clear hS
      have CB := hide (late_lit rfl rfl (late_any w5b A8 c8 m l (NO.out.ext (X5.out.trans X5b.out)).at_ BD.out (by omega) NO.out.cap))
      obtain ⟨S2, hS2⟩ : ∃ S2, S2 = lateS l := ⟨_, rfl⟩
      rw [← hS2] at CB LE
      clear hS2
      obtain ⟨fr, hfr⟩ : ∃ fr, fr = lateF l l.length := ⟨_, rfl⟩
      rw [← hfr] at CB
      clear hfr
      go_upto_region 22 with (go_at_call 11; refine CB.out.mono ?_; rintro e w7 ⟨BL, dL, BD2, dD, BO, dO, nl, nd, no, tu, th, rfl, hs7, hx7, hl, hd, ho, hu, hh⟩; have S7 := hide hs7; have X7 := hide hx7; have NL := hide hl; have NOO := hide ho; have NU := hide hu; have NH := hide hh; clear hs7 hx7 hl hd ho hu hh)
      obtain ⟨w8, hw8⟩ : ∃ w8, w8 = w7.alloc (.cells #[.slice BL nl dL, .slice BD2 nd dD, .slice BO no dO, .int .i64 tu, .int .i64 th] 37) := ⟨_, rfl⟩
      obtain ⟨s14, hs14⟩ : ∃ s14, s14 = w7.heap.size := ⟨_, rfl⟩
      have X8 := hide (show Ext w7 w8 by rw [hw8]; exact Ext.new w7 _)
      have B8 := hide (show Blk w8 s14 37 #[.slice BL nl dL, .slice BD2 nd dD, .slice BO no dO, .int .i64 tu, .int .i64 th] by rw [hw8, hs14]; exact Blk.new w7 37 _)
      rw [← hw8, ← hs14]
      clear hw8 hs14
      obtain ⟨e1, e2, e3, e4⟩ := LE.out
      obtain rfl : nl = ml := by rw [NL.out, ML.out, e1]
      obtain rfl : no = mo := by rw [NOO.out, MO.out, e2]
      obtain rfl : tu = su := by rw [NU.out, MU.out, e3]
      obtain rfl : th = sh := by rw [NH.out, MH.out, e4]
      have X58 := hide (X5b.out.trans (X7.out.trans X8.out))
      have LA := hide (own_reads (show w8.ownsRow _ 49 4 (.slice AL nl cL) nl (lvs S.L) by rw [ML.out]; exact X58.out.own S5.out.l))
      have LB := hide (own_reads (show w8.ownsRow _ 49 4 (.slice BL nl dL) nl (lvs S.L) by rw [NL.out, e1]; exact X8.out.own S7.out.l))
      have OA := hide (show OwnO w8 wr.heap.size S.O AO no cO by
        obtain ⟨os, q1, q2⟩ := (S5.out.ext X58.out).o
        rw [MO.out]
        exact ⟨os, q1, q2⟩)
      have OB := hide (show OwnO w8 w5b.heap.size S.O BO no dO by
        obtain ⟨os, q1, q2⟩ := (S7.out.ext X8.out).o
        rw [NOO.out, e2]
        exact ⟨os, q1, q2⟩)
      have B58 := hide ((X7.out.trans X8.out).blk B5.out)
      obtain ⟨a0, a1, a2, a3, a4⟩ := B58.out.cells5
      obtain ⟨b0, b1, b2, b3, b4⟩ := B8.out.cells5
      have hml : nl ≤ 1000 := by rw [ML.out]; have := BS.out.l; have := LL.out; omega
      have hmo : no ≤ 1000 := by rw [MO.out]; have := BS.out.o; have := LL.out; omega
      have HMV := hide (show ∀ x ∈ S.O, x.mv.length ≤ 1000 from fun x hx => by have := (BS.out.m x hx).1; omega)
      have duu : (tu == tu) = true := by simp
      have dhh : (th == th) = true := by simp
      clear e1 e2 e3 e4
      go_wp2_with (first | (go_at_call 12; refine (same_lives w8 AL BL cL dL nl S.L LA.out LB.out ML.out hml).mono ?_; rintro e wA ⟨rfl, m1, rfl⟩) | (go_at_call 13; refine (same_opens (w8.drewN m1) AO BO _ _ cO dO no S.O (ownO_ext OA.out ((Ext.refl w8).drewN m1)) (ownO_ext OB.out ((Ext.refl w8).drewN m1)) MO.out hmo HMV.out).mono ?_; rintro e wB ⟨rfl, m2, rfl⟩))
      go_ret
      exact ⟨rfl, (((X0.out.trans X1.out).trans XW.out).trans (X5.out.trans X58.out)).drewN _⟩
set_option maxRecDepth 1000000 in
theorem walk_long (A : Option Addr) (n c : Nat) (x y : Int) (w : World) (h1 : (30 : Int) < n) : Calls Try.prog 3 #[.slice A n c, .int .u32 x, .int .u8 y] w fun e w' => e = .returned (.bool true) ∧ Ext w w' := by
  go_enter Try.func3, Try.ntmps3
  go_wp2_with (go_at_call 8; refine (begun_any _).mono ?_; rintro e w1 ⟨rfl, b1⟩)
  go_ret
  exact ⟨rfl, b1⟩
end Go.Proofs.Ytaijgnhkdbdfcaa.lookMarks
