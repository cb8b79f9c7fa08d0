/- Tile: contracts: cut, set. -/
import Derived.Test.YtpbenpkgbhmldaaTileR
import Derived.Test.YtpbenpkgbhmldaaTileP
import Derived.IntWalk
namespace Go.Proofs.Ytpbenpkgbhmldaa
open Go.ChangeShapes Go.WideShapes Go.ChangeAt Go.RowKit Go.Maps
set_option linter.unusedVariables false

theorem cut_none (Y Z : Nat → Prop) (w : World) (g N : Nat) (dead : Bool) (T : List (List UInt8)) (U : Int → Option (List UInt8)) (h : Disk Y Z w g N dead T U none) :
    Calls Try.prog 31 #[.pointer (some ⟨g, 0, none⟩)] w fun e w' => e = .returned (.bool false) ∧ w = w' := by
  obtain ⟨vt, m, p, ts, f, h⟩ := h
  obtain rfl : p = none := h.pln
  have c3 := h.blk.cell 3
  simp at c3
  clear h
  go_enter Try.func31, Try.ntmps31
  go_wp2
  go_ret
  exact ⟨rfl, rfl⟩
/-- the plan's number turns -/
theorem Disk.plan_ {Y Z : Nat → Prop} {w : World} {g N : Nat} {dead : Bool} {T : List (List UInt8)} {U : Int → Option (List UInt8)} {a b : Int} {M : List UInt8} (h : Disk Y Z w g N dead T U (some (a, M))) :
    ∃ pb v vt m, Blk w g 66 #[vt, .map (some m), .bool dead, .pointer (some ⟨pb, 0, none⟩)] ∧ Blk w pb 71 #[.int .i64 a, v] ∧ g ≠ pb ∧ Disk Y Z (w.setCell ⟨pb, 0, none⟩ (.int .i64 b)) g N dead T U (some (b, M)) ∧ Turn Y w (w.setCell ⟨pb, 0, none⟩ (.int .i64 b)) := by
  obtain ⟨vt, m, p, ts, f, h⟩ := h
  obtain ⟨pb, v, rfl, hy, hb, hu⟩ := h.pln
  have hr := h.plan_ (a := b) (w' := w.setCell ⟨pb, 0, none⟩ (.int .i64 b)) hy (by have := hb.set_ 0 (.int .i64 b); simpa using this) hu ⟨_, hb⟩ (Touch.setCell (F := fun k => k = pb) (p := ⟨pb, 0, none⟩) (Touch.refl w _) (fun _ => rfl) _)
  exact ⟨pb, v, vt, m, h.blk, hb, Blk.ne_ h.blk hb (by decide), ⟨vt, m, _, ts, f, hr.1⟩, hr.2⟩
theorem cut_no (Y Z : Nat → Prop) (w : World) (g N : Nat) (dead : Bool) (T : List (List UInt8)) (U : Int → Option (List UInt8)) (a : Int) (M : List UInt8) (h : Disk Y Z w g N dead T U (some (a, M))) (h0 : 0 < a) (h1 : a ≤ 9223372036854775807) :
    Calls Try.prog 31 #[.pointer (some ⟨g, 0, none⟩)] w fun e w' => e = .returned (.bool false) ∧ Disk Y Z w' g N dead T U (some (a - 1, M)) ∧ Turn Y w w' := by
  obtain ⟨pb, v, vt, m, hg, hp, hne, hd, ht⟩ := h.plan_ (b := a - 1)
  have c3 := hg.cell 3
  have p0 := hp.cell 0
  simp at c3 p0
  have f0 := hp.frozen 0
  have y3 := (hg.far (p := ⟨pb, 0, none⟩) hne (.int .i64 (a - 1))).cell 3
  have y0 := (hp.set_ 0 (.int .i64 (a - 1))).cell 0
  simp at y3 y0
  have HD := hide hd
  have HT := hide ht
  clear hd ht hg hp h
  go_enter Try.func31, Try.ntmps31
  go_wp2
  go_ret
  exact ⟨ret_bool (by simp; omega), HD.out, HT.out⟩
theorem cut_yes (Y Z : Nat → Prop) (w : World) (g N : Nat) (dead : Bool) (T : List (List UInt8)) (U : Int → Option (List UInt8)) (M : List UInt8) (h : Disk Y Z w g N dead T U (some (0, M))) :
    Calls Try.prog 31 #[.pointer (some ⟨g, 0, none⟩)] w fun e w' => e = .returned (.bool true) ∧ Disk Y Z w' g N dead T U (some (-1, M)) ∧ Turn Y w w' := by
  obtain ⟨pb, v, vt, m, hg, hp, hne, hd, ht⟩ := h.plan_ (b := -1)
  have c3 := hg.cell 3
  have p0 := hp.cell 0
  simp at c3 p0
  have f0 := hp.frozen 0
  have y3 := (hg.far (p := ⟨pb, 0, none⟩) hne (.int .i64 (-1))).cell 3
  have y0 := (hp.set_ 0 (.int .i64 (-1))).cell 0
  simp at y3 y0
  have HD := hide hd
  have HT := hide ht
  clear hd ht hg hp h
  go_enter Try.func31, Try.ntmps31
  go_wp2
  go_ret
  exact ⟨rfl, HD.out, HT.out⟩
theorem and_one_u8 (a : Nat) (ha : a < 256) : bits .and .u8 (a : Int) 1 = ((a % 2 : Nat) : Int) := by
  have h1 : (BitVec.ofInt 8 (a : Int)).toNat = a := by
    rw [BitVec.ofInt_natCast, BitVec.toNat_ofNat]; exact Nat.mod_eq_of_lt (by omega)
  have h2 : (BitVec.ofInt 8 1).toNat = 1 := by decide
  show IntKind.u8.wrap ((BitVec.ofInt 8 (a : Int) &&& BitVec.ofInt 8 1).toNat : Int) = _
  rw [BitVec.toNat_and, h1, h2, Nat.and_one_is_mod]
  simp [IntKind.wrap, IntKind.bits, IntKind.signed]
  omega
theorem and_one (z r : Nat) (hz : z < 256) : (bits .and .u8 ((z : Int) / 2 ^ r) 1 != 0) = decide (z / 2 ^ r % 2 = 1) := by
  have h1 : (z : Int) / 2 ^ r = ((z / 2 ^ r : Nat) : Int) := by simp
  have h2 : z / 2 ^ r < 256 := Nat.lt_of_le_of_lt (Nat.div_le_self _ _) hz
  rw [h1, and_one_u8 _ h2]
  rcases Nat.mod_two_eq_zero_or_one (z / 2 ^ r) with h | h <;> rw [h] <;> rfl
set_option maxHeartbeats 1000000 in
/-- a bit of a mask -/
theorem set_any (A : Option Addr) (c n i : Nat) (M : List UInt8) (w : World) (hl : M.length = n) (hr : Reads w w.heap.size 1 A n (bv M)) (hi : i ≤ 1048576) (hn : n ≤ 1048576) :
    Calls Try.prog 32 #[.slice A n c, .int .i64 i] w fun e w' => e = .returned (.bool (bit M i)) ∧ w = w' := by
  obtain ⟨q, hq⟩ : ∃ q : Nat, q = i / 8 := ⟨_, rfl⟩
  obtain ⟨r, hr8⟩ : ∃ r : Nat, r = i % 8 := ⟨_, rfl⟩
  have e0 : (i : Int) / 8 = (q : Int) := by omega
  have e1 : (i : Int) % 8 = (r : Int) := by omega
  have er : (r : Int) < 8 := by omega
  by_cases h : q < n
  · obtain ⟨bk, off, hA, hbw, hcell⟩ := hr.plain (by omega) (by omega)
    subst hA
    obtain ⟨x, hx⟩ : ∃ x, M[q]? = some x := ⟨_, List.getElem?_eq_getElem (by omega)⟩
    have gx := hcell q (.int .u8 (x.toNat : Int)) (by simp [bv, hx])
    have hb : bit M i = decide ((x.toNat / 2 ^ r) % 2 = 1) := by
      unfold bit
      rw [hl, ← hq, ← hr8, List.getD_eq_getElem?_getD, hx]
      simp [h]
    have HB := hide hb
    obtain ⟨z, hz⟩ : ∃ z, z = x.toNat := ⟨_, rfl⟩
    have hz8 : z < 256 := by rw [hz]; exact x.toNat_lt
    rw [← hz] at gx HB
    have h1 : (q : Int) < (n : Int) := by omega
    have h2 : (0 : Int) ≤ (q : Int) := by omega
    clear hr hcell hx hb hq hr8 hz
    go_enter Try.func32, Try.ntmps32
    go_wp2
    go_ret
    exact ⟨ret_bool (by rw [HB.out]; exact and_one z r hz8), rfl⟩
  · have hb : bit M i = false := by
      unfold bit
      rw [hl, ← hq]
      simp [h]
    have HB := hide hb
    have h1 : (n : Int) ≤ (q : Int) := by omega
    clear hr hb h hq hr8
    go_enter Try.func32, Try.ntmps32
    go_wp2
    go_ret
    exact ⟨ret_bool (by rw [HB.out]), rfl⟩
end Go.Proofs.Ytpbenpkgbhmldaa
