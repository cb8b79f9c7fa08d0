/- TileSubset: the walk. -/
import Derived.Test.YtpbenpkgbhmldaaTileSubsetP
import Derived.Test.YtpbenpkgbhmldaaTileLastW
namespace Go.Proofs.Ytpbenpkgbhmldaa.tileSubset
open Go.ChangeShapes Go.WideShapes Go.ChangeAt Go.RowKit Go.Maps
set_option linter.unusedVariables false

def bb (bs : List Bool) : List Value := bs.map Value.bool
theorem bb_set (bs : List Bool) (k : Nat) (c : Bool) : (bb bs).toArray.setIfInBounds k (.bool c) = (bb (bs.set k c)).toArray := by
  rw [List.setIfInBounds_toArray]
  unfold bb
  rw [List.map_set]
theorem bb_at {bs : List Bool} {k : Nat} {c : Bool} (h : bs[k]? = some c) : (bb bs).toArray[k]? = some (.bool c) := by
  rw [List.getElem?_toArray]
  unfold bb
  rw [List.getElem?_map, h]
  rfl
theorem bv_cell {vs : List UInt8} {k : Nat} (h : k < vs.length) : ∃ u, (bv vs).toArray[k]? = some u := ⟨_, Array.getElem?_eq_getElem (by simpa [bv] using h)⟩
theorem bb_cell {bs : List Bool} {k : Nat} (h : k < bs.length) : ∃ u, (bb bs).toArray[k]? = some u := ⟨_, Array.getElem?_eq_getElem (by simpa [bb] using h)⟩
theorem setRow_touch (w : World) (g : Nat) (cs : Array Value) : Touch w (w.setRow g cs) (fun k => k = g) := by
  refine ⟨rfl, rfl, rfl, by simp [World.setRow], fun k hk hn => ?_⟩
  simp [World.setRow, Array.getElem?_modify, Ne.symm hn]
theorem setRow_blk {w : World} {g : Nat} {t : TypeId} {old cs : Array Value} (h : Blk w g t old) : Blk (w.setRow g cs) g t cs := by
  unfold Blk at h ⊢
  simp [World.setRow, Array.getElem?_modify, h]
theorem bv_all (vs : List UInt8) : ((bv vs).toArray).all (·.oneCell') = true := by
  rw [Array.all_eq_true_iff_forall_mem]
  intro v hv
  exact bv_one vs v (by simpa using hv)
theorem info27 : (Try.prog.info? 27).map (·.size) = some 10 := by kernel_rfl
/-- the arrays that the statement keeps -/
structure Ar (W : World) (p q r : Nat) (vs us : List UInt8) (bs : List Bool) (w : World) : Prop where
  ext : Ext W w
  a : Blk w p 27 (bv vs).toArray
  b : Blk w q 27 (bv us).toArray
  c : Blk w r 28 (bb bs).toArray
  pq : p ≠ q
  lp : W.heap.size ≤ p
  lq : W.heap.size ≤ q
  lr : W.heap.size ≤ r
section
variable {W w w' : World} {p q r k : Nat} {vs us : List UInt8} {bs : List Bool} {c : UInt8}
theorem Ar.ex (h : Ar W p q r vs us bs w) (hx : Ext w w') : Ar W p q r vs us bs w' := { h with ext := h.ext.trans hx, a := hx.blk h.a, b := hx.blk h.b, c := hx.blk h.c }
theorem Ar.tn (h : Ar W p q r vs us bs w) (ht : Turn (Fr W) w w') : Ar W p q r vs us bs w' :=
  { h with ext := ht.ext h.ext (fun _ _ h => h), a := ht.blk h.a (by decide) (by decide) (by decide), b := ht.blk h.b (by decide) (by decide) (by decide), c := ht.blk h.c (by decide) (by decide) (by decide) }
theorem tset (w : World) (g k : Nat) (u : Value) : Touch w (w.setCell ⟨g, k, none⟩ u) (fun x => x = g) := Touch.setCell (F := fun x => x = g) (p := ⟨g, k, none⟩) (Touch.refl w _) (fun _ => rfl) u
theorem Ar.pr (h : Ar W p q r vs us bs w) : p ≠ r := Blk.ne_ h.a h.c (by decide)
theorem Ar.qr (h : Ar W p q r vs us bs w) : q ≠ r := Blk.ne_ h.b h.c (by decide)
theorem Ar.putA (h : Ar W p q r vs us bs w) (k : Nat) (c : UInt8) : Ar W p q r (vs.set k c) us bs (w.setCell ⟨p, k, none⟩ (.int .u8 (c.toNat : Int))) :=
  { h with ext := h.ext.set_ (p := ⟨p, k, none⟩) h.lp _, a := by rw [← bv_set]; exact h.a.set_ k _, b := (tset w p k _).blk h.b (fun e => h.pq e.symm), c := (tset w p k _).blk h.c (fun e => h.pr e.symm) }
theorem Ar.putB (h : Ar W p q r vs us bs w) (k : Nat) (c : UInt8) : Ar W p q r vs (us.set k c) (bs.set k true) ((w.setCell ⟨q, k, none⟩ (.int .u8 (c.toNat : Int))).setCell ⟨r, k, none⟩ (.bool true)) := by
  have h1 : Ar W p q r vs (us.set k c) bs (w.setCell ⟨q, k, none⟩ (.int .u8 (c.toNat : Int))) :=
    { h with ext := h.ext.set_ (p := ⟨q, k, none⟩) h.lq _, b := by rw [← bv_set]; exact h.b.set_ k _, a := (tset w q k _).blk h.a h.pq, c := (tset w q k _).blk h.c (fun e => h.qr e.symm) }
  exact { h1 with ext := h1.ext.set_ (p := ⟨r, k, none⟩) h1.lr _, c := by rw [← bb_set]; exact h1.c.set_ k _, a := (tset _ r k _).blk h1.a h1.pr, b := (tset _ r k _).blk h1.b h1.qr }
end
theorem Ar.copy {W w : World} {p q r : Nat} {vs us : List UInt8} {bs : List Bool} (h : Ar W p q r vs us bs w) : Ar W p q r vs vs bs (w.setRow q (bv vs).toArray) := by
  have ht := setRow_touch w q (bv vs).toArray
  exact { h with ext := Touch.ext h.ext ht h.lq, a := ht.blk h.a h.pq, b := setRow_blk h.b, c := ht.blk h.c (fun e => h.qr e.symm) }
theorem disk_row {Y Z : Nat → Prop} {w : World} {g N b : Nat} {t : TypeId} {cs cs' : Array Value} {dead : Bool} {T : List (List UInt8)} {U : Int → Option (List UInt8)} {pl : Option (Int × List UInt8)} (h : Disk Y Z w g N dead T U pl) (hb : Blk w b t cs) (h1 : t ≠ 66) (h2 : t ≠ 22) (h3 : t ≠ 71) (h4 : t ≠ 5) : Disk Y Z (w.setRow b cs') g N dead T U pl := by
  have ht := setRow_touch w b cs'
  refine h.touch ht (fun k _ e hd => ?_) (fun v l hv => hv.touch ht (fun k hk e => ?_))
  · subst e
    exact (hd t cs hb).elim h1 (fun e => e.elim h2 h3)
  · subst e
    obtain ⟨cs', hb'⟩ := hv.bytes hk
    exact Blk.ne_ hb hb' h4 rfl
theorem UL_none (vs : List UInt8) : UL vs (List.replicate 10 false) = fun _ => none := by
  funext x
  unfold UL
  rw [if_neg]
  rintro ⟨_, h⟩
  rw [List.getElem?_replicate] at h
  split at h <;> simp at h
theorem inv_start {vs : List UInt8} (h : vs.length = 10) : Inv vs vs (List.replicate 10 false) := ⟨h, h, by simp, fun _ _ => rfl⟩
def St1 (W : World) (p q r i : Nat) (vs us : List UInt8) (bs : List Bool) (w : World) : Prop :=
  Ar W p q r vs us bs w ∧ vs.length = 10 ∧ ∃ U N, N ≤ i ∧ Disk (Fr W) (Fr W) w (W.heap.size + 1) N false (vs.map rep) U none
def St2 (W : World) (p q r i : Nat) (vs us : List UInt8) (bs : List Bool) (w : World) : Prop :=
  Ar W p q r vs us bs w ∧ Inv vs us bs ∧ ∃ N, N ≤ i ∧ Disk (Fr W) (Fr W) w (W.heap.size + 1) N false (us.map rep) (UL vs bs) none
set_option maxRecDepth 1000000 in
set_option maxHeartbeats 16000000 in
theorem walk_short (A B : Option Addr) (c n d m : Nat) (la lc : List UInt8) (ms : Nat) (w : World) (hl : la.length = n) (hr : Reads w w.heap.size 1 A n (bv la)) (hn : (n : Int) ≤ 12) (hM : lc.length = m) (hr2 : Reads w w.heap.size 1 B m (bv lc)) (hm : (m : Int) ≤ 12) (hms : ms < 65536) :
    Calls Try.prog 3 #[.slice A n c, .slice B m d, .int .u16 ms] w fun e w' => e = .returned (.bool true) ∧ Ext w w' := by
  have HR := hide hr
  have HL := hide hl
  have HR2 := hide hr2
  have HM := hide hM
  have HMS := hide hms
  have hms2 : (ms : Int) < 65536 := by omega
  clear hr hl hr2 hM hms
  have dn : decide ((12 : Int) < (n : Int)) = false := by simp; omega
  have dm : decide ((12 : Int) < (m : Int)) = false := by simp; omega
  have HMS2 := hide hms2
  clear hms2
  go_enter Try.func3, Try.ntmps3
  go_wp2_with (go_at_call 10; refine (begun_any _).mono ?_; rintro e W ⟨rfl, b1⟩)
  refine (new_any 10 10 10 W (by decide) (by decide)).mono ?_
  rintro e wa ⟨rfl, ha, xa⟩
  have BW := hide b1
  have HA := hide ha
  have XA := hide xa
  clear ha xa b1
  go_wp2_with (fail)
  have dnn : n ≤ 12 := by omega
  have dmm : m ≤ 12 := by omega
  have HD := hide (And.intro dn dm)
  clear dn dm
  obtain ⟨p, hp⟩ : ∃ p, p = wa.heap.size := ⟨_, rfl⟩
  have A0 := hide (show St1 W p (p + 1) (p + 1 + 1) 0 (List.replicate 10 0) (List.replicate 10 0) (List.replicate 10 false) (((wa.alloc (.cells #[.int .u8 0, .int .u8 0, .int .u8 0, .int .u8 0, .int .u8 0, .int .u8 0, .int .u8 0, .int .u8 0, .int .u8 0, .int .u8 0] 27)).alloc (.cells #[.int .u8 0, .int .u8 0, .int .u8 0, .int .u8 0, .int .u8 0, .int .u8 0, .int .u8 0, .int .u8 0, .int .u8 0, .int .u8 0] 27)).alloc (.cells #[.bool false, .bool false, .bool false, .bool false, .bool false, .bool false, .bool false, .bool false, .bool false, .bool false] 28)) from by
    subst hp
    have x2 := ((Ext.new wa (.cells #[.int .u8 0, .int .u8 0, .int .u8 0, .int .u8 0, .int .u8 0, .int .u8 0, .int .u8 0, .int .u8 0, .int .u8 0, .int .u8 0] 27)).alloc (.cells #[.int .u8 0, .int .u8 0, .int .u8 0, .int .u8 0, .int .u8 0, .int .u8 0, .int .u8 0, .int .u8 0, .int .u8 0, .int .u8 0] 27)).alloc (.cells #[.bool false, .bool false, .bool false, .bool false, .bool false, .bool false, .bool false, .bool false, .bool false, .bool false] 28)
    have hs := XA.out.size
    refine ⟨⟨XA.out.trans x2, ?_, ?_, ?_, by omega, hs, by omega, by omega⟩, rfl, _, 0, Nat.le_refl _, HA.out.ext x2⟩
    · exact ((Blk.new wa 27 _).alloc _).alloc _
    · exact (blk2 wa (.cells #[.int .u8 0, .int .u8 0, .int .u8 0, .int .u8 0, .int .u8 0, .int .u8 0, .int .u8 0, .int .u8 0, .int .u8 0, .int .u8 0] 27) 27 _).alloc _
    · have := blk2 (wa.alloc (.cells #[.int .u8 0, .int .u8 0, .int .u8 0, .int .u8 0, .int .u8 0, .int .u8 0, .int .u8 0, .int .u8 0, .int .u8 0, .int .u8 0] 27)) (.cells #[.int .u8 0, .int .u8 0, .int .u8 0, .int .u8 0, .int .u8 0, .int .u8 0, .int .u8 0, .int .u8 0, .int .u8 0, .int .u8 0] 27) 28 #[.bool false, .bool false, .bool false, .bool false, .bool false, .bool false, .bool false, .bool false, .bool false, .bool false]
      have e : (wa.alloc (.cells #[.int .u8 0, .int .u8 0, .int .u8 0, .int .u8 0, .int .u8 0, .int .u8 0, .int .u8 0, .int .u8 0, .int .u8 0, .int .u8 0] 27)).heap.size + 1 = wa.heap.size + 2 := by simp
      rw [e] at this
      exact this)
  rw [← hp]
  obtain ⟨q, hq⟩ : ∃ q, q = p + 1 := ⟨_, rfl⟩
  obtain ⟨r, hr⟩ : ∃ r, r = q + 1 := ⟨_, rfl⟩
  rw [← hq, ← hr] at A0 ⊢
  clear hp hq hr HA XA
  go_loopw [11, 12] (fun s11 _ wr => (∃ i : Nat, i ≤ n ∧ s11 = .int .i64 i ∧ Hid (∃ vs us bs, vs.length = 10 ∧ us.length = 10 ∧ bs = List.replicate 10 false ∧ St1 W p q r i vs us bs wr))) (fun s11 _ _ => (n - intOf s11).toNat)
  case atStart => exact ⟨0, by omega, rfl, _, _, _, rfl, rfl, rfl, A0.out⟩
  case round =>
    obtain ⟨i, hi, rfl, hs0⟩ := hrel
    obtain ⟨vs, us, bs, hv10, hu10, hbs, har, hvl, U, N, hN, hd⟩ := hs0.out
    have HA := hide har
    have HD0 := hide hd
    have HV := hide hv10
    have HU := hide hu10
    have HBS := hide hbs
    clear hs0 hd hv10 hu10 hbs hvl
    by_cases hlt : i < n
    · obtain ⟨bk, off, hAe, hbw, hcell⟩ := HR.out.plain (by omega) (by omega)
      subst hAe
      obtain ⟨z, hz⟩ : ∃ z, la[i]? = some z := ⟨_, List.getElem?_eq_getElem (by rw [HL.out]; exact hlt)⟩
      obtain ⟨x, hx⟩ : ∃ x : Nat, x = z.toNat := ⟨_, rfl⟩
      have hx1 : (x : Int) < 256 := by rw [hx]; have := z.toNat_lt; omega
      have hg := hcell i (.int .u8 (z.toNat : Int)) (by simp [bv, hz])
      rw [← hx] at hg
      have gx := ((BW.out.trans har.ext).cell (p := ⟨bk, off + i, none⟩) hbw).trans hg
      obtain ⟨k, hk⟩ : ∃ k : Nat, x % 10 = k := ⟨_, rfl⟩
      have ek : (x : Int) % 10 = (k : Int) := by omega
      have hk1 : (k : Int) < 10 := by omega
      have hk0 : (0 : Int) ≤ (k : Int) := by omega
      have HK := hide (show k < 10 by omega)
      obtain ⟨cc, ecc2⟩ : ∃ cc : UInt8, (i : Int) + 1 = (cc.toNat : Int) := ⟨UInt8.ofNat (i + 1), by simp; omega⟩
      have hcc : ((cc.toNat : Nat) : Int) < 256 := by have := cc.toNat_lt; omega
      obtain ⟨u, hu⟩ := bv_cell (vs := vs) (k := k) (by rw [HV.out]; exact HK.out)
      have yk := (har.a.cell k).trans hu
      have fk := har.a.frozen k
      have HA1 := hide (har.putA k cc)
      have HD1 := hide (HD0.out.set_ (i := k) (u := .int .u8 (cc.toNat : Int)) har.a (by decide) (by decide) (by decide) (by decide))
      have EC := hide ecc2
      clear hcell hz hk hg hx har hu
      go_wp2_with (fail)
      refine (full_reads cc _).mono ?_
      rintro e w3 ⟨b3, rfl, r3, _, x3⟩
      have R3 := hide r3
      have A3 := hide (HA1.out.ex x3)
      have D3 := hide (HD1.out.ext x3)
      clear r3 x3 HA1 HD1 yk fk gx
      go_wp2_with (fail)
      refine (write_none (Fr W) (Fr W) w3 _ N _ U k (rep cc) _ 64 D3.out (by rw [List.length_map, HV.out]; exact HK.out) (by rw [List.length_map, HV.out]; omega) (by omega) (le_fr A3.out.ext) (rep_len _) (fun h => by cases h) (R3.out _)).mono ?_
      rintro e w4 ⟨rfl, h4, t4⟩
      have H4 := hide (show St1 W p q r (i + 1) (vs.set k cc) us bs w4 from ⟨A3.out.tn t4, by rw [List.length_set]; exact HV.out, _, N + 1, by omega, by rw [List.map_set]; exact h4⟩)
      clear h4 t4 D3 A3 R3
      go_wp2_with (fail)
      go_roundw
      case rel => exact ⟨i + 1, by omega, by have := EC.out; go_num, _, _, _, by rw [List.length_set]; exact HV.out, HU.out, HBS.out, H4.out⟩
      case measure => simp [intOf]; have := EC.out; omega
    · have HLN := hide (show (vs.map rep).length = 10 by rw [List.length_map]; exact HV.out)
      go_wp2_with (fail)
      refine (sync_none (Fr W) (Fr W) wr _ N _ U HD0.out (by rw [HLN.out]; omega) (by omega)).mono ?_
      rintro e w1 ⟨rfl, h1, t1⟩
      have D1 := hide h1
      have A1 := hide (HA.out.tn t1)
      clear h1 t1 har HA HD0
      go_wp2_with (first
        | (refine wpList_load_row rfl 27 (.tmp 8) rfl p rfl 27 (bv vs).toArray (0, 0) _ A1.out.a Try.underlying27 rfl (by rw [info27]; simp [bv]; exact HV.out.symm) ?_)
        | (refine wpList_store_row rfl 27 (.tmp 9) (.tmp 59) rfl q (bv vs).toArray rfl rfl 27 (bv us).toArray A1.out.b (by rw [info27]; simp [bv]; exact HV.out.symm) (by simp [bv]; rw [HV.out, HU.out]) (bv_all vs) ?_))
      have A2 := hide (A1.out.copy)
      have D2 := hide (show Disk (Fr W) (Fr W) (w1.setRow q (bv vs).toArray) (W.heap.size + 1) 0 false (vs.map rep) (UL vs bs) none by
        rw [HBS.out, UL_none]; exact disk_row D1.out A1.out.b (by decide) (by decide) (by decide) (by decide))
      have I2 := hide (show Inv vs vs bs by rw [HBS.out]; exact inv_start HV.out)
      obtain ⟨w2, hw2⟩ : ∃ w2, w2 = w1.setRow q (bv vs).toArray := ⟨_, rfl⟩
      rw [← hw2] at A2 D2 ⊢
      have S2 := hide (show St2 W p q r 0 vs vs bs w2 from ⟨A2.out, I2.out, 0, Nat.le_refl _, D2.out⟩)
      clear hw2 A1 D1 A2 D2 I2
      go_loopw [13, 14] (fun s13 _ wr => (∃ j : Nat, j ≤ m ∧ s13 = .int .i64 j ∧ Hid (∃ us bs, St2 W p q r j vs us bs wr))) (fun s13 _ _ => (m - intOf s13).toNat)
      case atStart => exact ⟨0, by omega, rfl, _, _, S2.out⟩
      case round =>
        obtain ⟨j, hj, rfl, hs1⟩ := hrel
        obtain ⟨us', bs', har, hin, N', hN', hd⟩ := hs1.out
        have HA := hide har
        have HD0 := hide hd
        have HI := hide hin
        clear hs1 hd hin
        by_cases hltj : j < m
        · obtain ⟨bk, off, hAe, hbw, hcell⟩ := HR2.out.plain (by omega) (by omega)
          subst hAe
          obtain ⟨z, hz⟩ : ∃ z, lc[j]? = some z := ⟨_, List.getElem?_eq_getElem (by rw [HM.out]; exact hltj)⟩
          obtain ⟨x, hx⟩ : ∃ x : Nat, x = z.toNat := ⟨_, rfl⟩
          have hx1 : (x : Int) < 256 := by rw [hx]; have := z.toNat_lt; omega
          have hg := hcell j (.int .u8 (z.toNat : Int)) (by simp [bv, hz])
          rw [← hx] at hg
          have gx := ((BW.out.trans har.ext).cell (p := ⟨bk, off + j, none⟩) hbw).trans hg
          obtain ⟨k, hk⟩ : ∃ k : Nat, x % 10 = k := ⟨_, rfl⟩
          have ek : (x : Int) % 10 = (k : Int) := by omega
          have hk1 : (k : Int) < 10 := by omega
          have hk0 : (0 : Int) ≤ (k : Int) := by omega
          have HK := hide (show k < 10 by omega)
          obtain ⟨cc, ecc2⟩ : ∃ cc : UInt8, (100 : Int) + (j : Int) = (cc.toNat : Int) := ⟨UInt8.ofNat (100 + j), by simp; omega⟩
          have hcc : ((cc.toNat : Nat) : Int) < 256 := by have := cc.toNat_lt; omega
          obtain ⟨u, hu⟩ := bv_cell (vs := us') (k := k) (by rw [HI.out.u]; exact HK.out)
          obtain ⟨u2, hu2⟩ := bb_cell (bs := bs') (k := k) (by rw [HI.out.b]; exact HK.out)
          have yk := (har.b.cell k).trans hu
          have fk := har.b.frozen k
          have tq := tset wr q k (.int .u8 (cc.toNat : Int))
          have hc2 := tq.blk har.c (fun e => har.qr e.symm)
          have zk := (hc2.cell k).trans hu2
          have zf := hc2.frozen k
          have HA1 := hide (har.putB k cc)
          have HD1 := hide ((HD0.out.set_ (i := k) (u := .int .u8 (cc.toNat : Int)) har.b (by decide) (by decide) (by decide) (by decide)).set_ (i := k) (u := .bool true) hc2 (by decide) (by decide) (by decide) (by decide))
          have EC := hide ecc2
          clear hcell hz hk hg hx har hu hu2 tq hc2
          go_wp2_with (fail)
          refine (full_reads cc _).mono ?_
          rintro e w3 ⟨b3, rfl, r3, _, x3⟩
          have R3 := hide r3
          have A3 := hide (HA1.out.ex x3)
          have D3 := hide (HD1.out.ext x3)
          clear r3 x3 HA1 HD1 yk fk gx zk zf
          go_wp2_with (fail)
          refine (write_none (Fr W) (Fr W) w3 _ N' _ (UL vs bs') k (rep cc) _ 64 D3.out (by rw [List.length_map, HI.out.u]; exact HK.out) (by rw [List.length_map, HI.out.u]; omega) (by omega) (le_fr A3.out.ext) (rep_len _) (fun h => by cases h) (R3.out _)).mono ?_
          rintro e w4 ⟨rfl, h4, t4⟩
          have H4 := hide (show St2 W p q r (j + 1) vs (us'.set k cc) (bs'.set k true) w4 from ⟨A3.out.tn t4, HI.out.put HK.out cc, N' + 1, by omega, by rw [List.map_set, ← UL_set HI.out HK.out]; exact h4⟩)
          clear h4 t4 D3 A3 R3
          go_wp2_with (fail)
          go_roundw
          case rel => exact ⟨j + 1, by omega, by go_num, _, _, H4.out⟩
          case measure => simp [intOf]; omega
        · clear har HBS HLN
          have hms2 := HMS2.out
          go_wp2_with (fail)
          obtain ⟨mq, hmq⟩ : ∃ mq : Nat, (ms : Int) % 256 = (mq : Int) := ⟨ms % 256, by omega⟩
          obtain ⟨mr, hmr⟩ : ∃ mr : Nat, (ms : Int) / 256 = (mr : Int) := ⟨ms / 256, by omega⟩
          obtain ⟨M, hMM⟩ : ∃ M, M = [UInt8.ofNat (ms % 256), UInt8.ofNat (ms / 256)] := ⟨_, rfl⟩
          have hb := Blk.new wr 5 #[.int .u8 ((ms : Int) % 256), .int .u8 ((ms : Int) / 256)]
          have HRD := hide (reads_turn (Y := Fr W) (bs := M) (n := 2) hb (by rw [hMM]; simp [bv]; omega) rfl)
          have HMM := hide hMM
          have HBIT := hide (fun (n : Nat) (hn : n < 16) => (and_eq_one16 ms n HMS.out).trans (by rw [hMM, bit_two ms n HMS.out hn]) : ∀ n, n < 16 → (bits .and .u16 ((ms : Int) / 2 ^ n) 1 == 1) = bit M n)
          have HE := hide (Ext.new wr (.cells #[.int .u8 ((ms : Int) % 256), .int .u8 ((ms : Int) / 256)] 5))
          clear hb hMM hmq hmr
          refine (crash_any (Fr W) (Fr W) _ _ N' false _ _ none _ 2 2 M (HD0.out.ext HE.out) (by omega) (by rw [List.length_map, HI.out.u]; omega) (by rw [HMM.out]; rfl) HRD.out (by omega)).mono ?_
          rintro e w5 ⟨rfl, h5, t5⟩
          have D5 := hide h5
          have A5 := hide ((HA.out.ex HE.out).tn t5)
          clear h5 t5 HRD HE HD0 HA hltj
          go_wp2_with (fail)
          refine (power_any (Fr W) (Fr W) w5 _ 0 true _ _ none D5.out).mono ?_
          rintro e w6 ⟨rfl, h6, t6⟩
          have D6 := hide h6
          have A6 := hide (A5.out.tn t6)
          clear h6 t6 D5 A5
          go_wp2_with (fail)
          go_loopw [15, 16, 17, 18, 19] (fun s15 s16 _ _ _ wr => (∃ i : Nat, i ≤ 10 ∧ s16 = .int .i64 i ∧ s15 = .int .i64 (cnt (UL vs bs') i) ∧ Hid (Ext w6 wr))) (fun _ s16 _ _ _ _ => (10 - intOf s16).toNat)
          case atStart => exact ⟨0, by omega, rfl, rfl, Ext.refl _⟩
          case round =>
            obtain ⟨i, hi, rfl, rfl, hx⟩ := hrel
            obtain ⟨nn, hnn⟩ : ∃ nn, nn = cnt (UL vs bs') i := ⟨_, rfl⟩
            rw [← hnn]
            have HN := hide hnn
            have hn10 : nn ≤ i := by rw [hnn]; exact cnt_le _ _
            clear hnn
            by_cases hlti : i < 10
            · have A7 := hide (A6.out.ex hx.out)
              obtain ⟨v, hv⟩ : ∃ v, vs[i]? = some v := ⟨_, List.getElem?_eq_getElem (by rw [HI.out.v]; exact hlti)⟩
              obtain ⟨u, hu⟩ : ∃ u, us'[i]? = some u := ⟨_, List.getElem?_eq_getElem (by rw [HI.out.u]; exact hlti)⟩
              obtain ⟨b, hb⟩ : ∃ b, bs'[i]? = some b := ⟨_, List.getElem?_eq_getElem (by rw [HI.out.b]; exact hlti)⟩
              have y1 := A7.out.a.cell i
              rw [bv_at hv] at y1
              have y2 := A7.out.b.cell i
              rw [bv_at hu] at y2
              have y3 := A7.out.c.cell i
              rw [bb_at hb] at y3
              have HSV := hide (survives HI.out M hv hu hb)
              rw [← HN.out] at HSV
              have HST := hide (cnt_step HI.out i hlti b hb)
              rw [← HN.out] at HST
              have hbt := HBIT.out nn (by omega)
              have hi10 : (i : Int) < 10 := by omega
              have hi0 : (0 : Int) ≤ (i : Int) := by omega
              have hn0 : (nn : Int) ≤ 10 := by omega
              have hvl : ((v.toNat : Nat) : Int) < 256 := by have := v.toNat_lt; omega
              have hul : ((u.toNat : Nat) : Int) < 256 := by have := u.toNat_lt; omega
              obtain ⟨bt, hbt2⟩ : ∃ bt, bt = bit M nn := ⟨_, rfl⟩
              rw [← hbt2] at hbt HSV
              clear hv hu hb hbt2
              go_upto_if 106 with (fail)
              go_cut [15, 17] (fun s15 s17 wx => wr = wx ∧ s15 = .int .i64 (cnt (UL vs bs') (i + 1)) ∧ ∃ d : UInt8, s17 = .int .u8 (d.toNat : Int) ∧ (crT M (UL vs bs') (us'.map rep))[i]? = some (rep d))
              case first =>
                cases b with
                | false =>
                  go_wp2_with (fail)
                  go_meet
                  case rel => exact ⟨rfl, by rw [HST.out]; simp, v, rfl, by simpa using HSV.out⟩
                | true =>
                  cases bt with
                  | false =>
                    go_wp2_with (fail)
                    go_meet
                    case rel => exact ⟨rfl, by rw [HST.out]; simp, v, rfl, by simpa using HSV.out⟩
                  | true =>
                    go_wp2_with (fail)
                    go_meet
                    case rel => exact ⟨rfl, by rw [HST.out]; simp, u, rfl, by simpa using HSV.out⟩
              case rest =>
                obtain ⟨rfl, rfl, dd, rfl, hT⟩ := hcut
                have HT := hide hT
                obtain ⟨S, hS⟩ : ∃ S, S = str (rep dd) := ⟨_, rfl⟩
                have HS2 := hide hS
                have hdl : ((dd.toNat : Nat) : Int) < 256 := by have := dd.toNat_lt; omega
                obtain ⟨n2, hn2⟩ : ∃ n2, n2 = cnt (UL vs bs') (i + 1) := ⟨_, rfl⟩
                rw [← hn2]
                have HN2 := hide hn2
                clear hT hS hn2 y1 y2 y3 hbt HST HSV
                go_wp2_with (fail)
                refine (read_in (Fr W) (Fr W) wr _ 0 _ _ none i (rep dd) (D6.out.ext hx.out) HT.out).mono ?_
                rintro e w7 ⟨A7', c7, rfl, _, o7, x7⟩
                have E7 := hide o7
                have X7 := hide (hx.out.trans x7)
                have s0 := conv_own (Ext.own (Ext.drew (Ext.refl w7)) o7)
                rw [← HS2.out] at s0
                clear o7 x7
                go_wp2_with (fail)
                go_cut [132] (fun s wx => s = .bool false ∧ Ext w7 wx)
                case first =>
                  go_region_with ((go_at_call 13; refine (full_reads dd _).mono ?_; rintro e w8 ⟨b8, rfl, r8, s8, x8⟩; rw [← HS2.out] at s8; have X8 := hide (Ext.trans (Ext.drew (Ext.refl w7)) x8); have s6 := conv_own (Ext.own X8.out E7.out); rw [← HS2.out] at s6; clear r8 x8))
                  all_goals
                    go_wp2_with (fail)
                    go_meet
                    case rel => exact ⟨by simp, X8.out⟩
                case rest =>
                  obtain ⟨rfl, hx8⟩ := hcut
                  have X8 := hide (X7.out.trans hx8)
                  clear hx8 s0
                  go_wp2_with (fail)
                  go_roundw
                  case rel => exact ⟨i + 1, by omega, by go_num, by rw [HN2.out], X8.out⟩
                  case measure => simp [intOf]; omega
            · obtain rfl : i = 10 := by omega
              have X := hide (A6.out.ext.trans hx.out)
              clear hlti hx
              go_wp2_with (fail)
              go_ret
              exact ⟨rfl, BW.out.trans X.out⟩
end Go.Proofs.Ytpbenpkgbhmldaa.tileSubset
