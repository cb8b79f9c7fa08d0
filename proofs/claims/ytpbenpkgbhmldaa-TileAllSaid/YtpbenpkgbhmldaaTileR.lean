/- Tile: contracts: may, Read, Loose, Dead, Tiles, Power. -/
import Derived.Test.YtpbenpkgbhmldaaTileN
import Derived.Deep.RegionHeld3
import Derived.BigQuiet
import Derived.Deep.QuietTactic
namespace Go.Proofs.Ytpbenpkgbhmldaa
open Go.ChangeShapes Go.WideShapes Go.ChangeAt Go.RowKit Go.Maps
set_option linter.unusedVariables false

theorem may_in (Y Z : Nat → Prop) (w : World) (g N : Nat) (T : List (List UInt8)) (U : Int → Option (List UInt8)) (pl : Option (Int × List UInt8)) (k : Nat) (h : Disk Y Z w g N false T U pl) (hk : k < T.length) :
    Calls Try.prog 29 #[.pointer (some ⟨g, 0, none⟩), .int .i64 k] w fun e w' => e = .returned (.int .i64 0) ∧ w = w' := by
  obtain ⟨vt, m, p, ts, f, h⟩ := h
  obtain ⟨A, c, hv, _⟩ := own_form h.own
  subst hv
  have c0 := h.blk.cell 0
  have c2 := h.blk.cell 2
  simp at c0 c2
  have h0 : (0 : Int) ≤ (k : Int) := by omega
  have h1 : (k : Int) < (T.length : Int) := by omega
  clear h hk
  go_enter Try.func29, Try.ntmps29
  go_wp2
  go_ret
  exact ⟨rfl, rfl⟩
theorem may_out (Y Z : Nat → Prop) (w : World) (g N : Nat) (T : List (List UInt8)) (U : Int → Option (List UInt8)) (pl : Option (Int × List UInt8)) (x : Int) (h : Disk Y Z w g N false T U pl) (hk : x < 0 ∨ (T.length : Int) ≤ x) :
    Calls Try.prog 29 #[.pointer (some ⟨g, 0, none⟩), .int .i64 x] w fun e w' => e = .returned (.int .i64 1) ∧ w = w' := by
  obtain ⟨vt, m, p, ts, f, h⟩ := h
  obtain ⟨A, c, hv, _⟩ := own_form h.own
  subst hv
  have c0 := h.blk.cell 0
  have c2 := h.blk.cell 2
  simp at c0 c2
  clear h
  by_cases h0 : x < 0
  · clear hk
    go_enter Try.func29, Try.ntmps29
    go_wp2
    go_ret
    exact ⟨rfl, rfl⟩
  · have h1 : (T.length : Int) ≤ x := by omega
    clear hk
    go_enter Try.func29, Try.ntmps29
    go_wp2
    go_ret
    exact ⟨rfl, rfl⟩
theorem may_dead (Y Z : Nat → Prop) (w : World) (g N : Nat) (T : List (List UInt8)) (U : Int → Option (List UInt8)) (pl : Option (Int × List UInt8)) (x : Int) (h : Disk Y Z w g N true T U pl) :
    Calls Try.prog 29 #[.pointer (some ⟨g, 0, none⟩), .int .i64 x] w fun e w' => e = .returned (.int .i64 2) ∧ w = w' := by
  obtain ⟨vt, m, p, ts, f, h⟩ := h
  have c2 := h.blk.cell 2
  simp at c2
  clear h
  go_enter Try.func29, Try.ntmps29
  go_wp2
  go_ret
  exact ⟨rfl, rfl⟩
theorem may_nil (x : Int) (w : World) : Calls Try.prog 29 #[.pointer none, .int .i64 x] w fun e w' => e = .returned (.int .i64 1) ∧ w = w' := by
  go_enter Try.func29, Try.ntmps29
  go_wp2
  go_ret
  exact ⟨rfl, rfl⟩
/-- a tile's value and bytes -/
theorem Dk.at_ {Y Z : Nat → Prop} {w : World} {g m n N k : Nat} {vt : Value} {p : Option Addr} {dead : Bool} {ts : List Value} {T : List (List UInt8)} {f : Int → Option Value} {U : Int → Option (List UInt8)} {pl : Option (Int × List UInt8)} (h : Dk Y Z w g vt m p dead n N ts T f U pl) (hk : k < n) :
    ∃ b c t l, vt = .slice (some ⟨b, 0, none⟩) n c ∧ ts[k]? = some t ∧ T[k]? = some l ∧ w.cell? ⟨b, k, none⟩ = some t ∧ Tl w Z t l ∧ l.length = 64 := by
  obtain ⟨b, c, hv, _, _⟩ := h.own.form (by omega)
  subst hv
  have h1 : k < ts.length := by rw [h.lens]; exact hk
  have h2 : k < T.length := by rw [h.len]; exact hk
  have e1 := List.getElem?_eq_getElem h1
  have e2 := List.getElem?_eq_getElem h2
  have h3 := h.tl k _ _ e1 e2
  exact ⟨b, c, _, _, rfl, e1, e2, own_at h.own k _ e1, h3.1, h3.2⟩
theorem read_in (Y Z : Nat → Prop) (w : World) (g N : Nat) (T : List (List UInt8)) (U : Int → Option (List UInt8)) (pl : Option (Int × List UInt8)) (k : Nat) (l : List UInt8) (h : Disk Y Z w g N false T U pl) (hk : T[k]? = some l) :
    Calls Try.prog 17 #[.pointer (some ⟨g, 0, none⟩), .int .i64 k] w fun e w' => ∃ A c, e = .returned (.tuple #[.slice A 64 c, .int .i64 0]) ∧ l.length = 64 ∧ w'.ownsRow w.heap.size 5 1 (.slice A 64 c) 64 (bv l) ∧ Ext w w' := by
  have hkl : k < T.length := (List.getElem?_eq_some_iff.1 hk).1
  have HD := hide h
  obtain ⟨vt, m, p, ts, f, h⟩ := h
  obtain ⟨b, c, t, l', hv, e1, e2, hc, ht, h64⟩ := h.at_ hkl
  rw [hk] at e2
  obtain rfl : l = l' := by injection e2
  subst hv
  have c0 := h.blk.cell 0
  simp at c0
  obtain ⟨A, cc, rfl, hA, _, hr⟩ := ht.form
  rw [h64] at hc hr
  have HR := hide hr
  have HA := hide hA
  have H64 := hide h64
  have hki : (k : Int) < (T.length : Int) := by omega
  clear h e1 ht hr hA h64 hk e2
  go_enter Try.func17, Try.ntmps17
  go_wp2_with (first
    | (go_at_call 29; refine (may_in Y Z w g N T U pl k HD.out hkl).mono ?_; rintro e w' ⟨rfl, rfl⟩)
    | (go_at_call 30; refine (clone_any A cc 64 l w H64.out HA.out HR.out (by omega)).mono ?_; rintro e w1 ⟨A1, c1, rfl, ho, hx⟩))
  go_ret2
  exact ⟨A1, c1, rfl, H64.out, ho, hx⟩
theorem read_out (Y Z : Nat → Prop) (w : World) (g N : Nat) (T : List (List UInt8)) (U : Int → Option (List UInt8)) (pl : Option (Int × List UInt8)) (x : Int) (h : Disk Y Z w g N false T U pl) (hk : x < 0 ∨ (T.length : Int) ≤ x) :
    Calls Try.prog 17 #[.pointer (some ⟨g, 0, none⟩), .int .i64 x] w fun e w' => e = .returned (.tuple #[.slice none 0 0, .int .i64 1]) ∧ w = w' := by
  go_enter Try.func17, Try.ntmps17
  go_wp2_with (go_at_call 29; refine (may_out Y Z w g N T U pl x h hk).mono ?_; rintro e w' ⟨rfl, rfl⟩)
  go_ret2
  exact ⟨rfl, rfl⟩
theorem read_dead (Y Z : Nat → Prop) (w : World) (g N : Nat) (T : List (List UInt8)) (U : Int → Option (List UInt8)) (pl : Option (Int × List UInt8)) (x : Int) (h : Disk Y Z w g N true T U pl) :
    Calls Try.prog 17 #[.pointer (some ⟨g, 0, none⟩), .int .i64 x] w fun e w' => e = .returned (.tuple #[.slice none 0 0, .int .i64 2]) ∧ w = w' := by
  go_enter Try.func17, Try.ntmps17
  go_wp2_with (go_at_call 29; refine (may_dead Y Z w g N T U pl x h).mono ?_; rintro e w' ⟨rfl, rfl⟩)
  go_ret2
  exact ⟨rfl, rfl⟩
theorem loose_any (Y Z : Nat → Prop) (w : World) (g N : Nat) (dead : Bool) (T : List (List UInt8)) (U : Int → Option (List UInt8)) (pl : Option (Int × List UInt8)) (h : Disk Y Z w g N dead T U pl) (hN : N ≤ 1048576) :
    Calls Try.prog 18 #[.pointer (some ⟨g, 0, none⟩)] w (GivesKeys w N (fun x => (U x).isSome)) := by
  obtain ⟨vt, m, p, ts, f, h⟩ := h
  have c1 := h.blk.cell 1
  simp at c1
  have hw := hide h.was
  have e : (fun x => (U x).isSome) = fun x => (f x).isSome := funext fun x => (h.iff x).symm
  rw [e]
  clear h e
  go_enter Try.func18, Try.ntmps18
  go_wp2_with (first | (go_at_call 34; refine (keys_call (some m) _).mono ?_; rintro e w1 ⟨rfl, rfl⟩) | (go_at_call 33; refine (sorted_call m N f _ hw.out hN).mono ?_; rintro e w1 ⟨v, L, rfl, h1, h2, h3, h4, h5, h6⟩))
  go_ret
  exact ⟨v, L, rfl, h1, h2, h3, h4, h5, h6⟩
theorem dead_any (Y Z : Nat → Prop) (w : World) (g N : Nat) (dead : Bool) (T : List (List UInt8)) (U : Int → Option (List UInt8)) (pl : Option (Int × List UInt8)) (h : Disk Y Z w g N dead T U pl) :
    Calls Try.prog 19 #[.pointer (some ⟨g, 0, none⟩)] w fun e w' => e = .returned (.bool dead) ∧ w = w' := by
  obtain ⟨vt, m, p, ts, f, h⟩ := h
  have c2 := h.blk.cell 2
  simp at c2
  clear h
  go_enter Try.func19, Try.ntmps19
  go_wp2
  go_ret
  exact ⟨rfl, rfl⟩
theorem tiles_any (Y Z : Nat → Prop) (w : World) (g N : Nat) (dead : Bool) (T : List (List UInt8)) (U : Int → Option (List UInt8)) (pl : Option (Int × List UInt8)) (h : Disk Y Z w g N dead T U pl) :
    Calls Try.prog 21 #[.pointer (some ⟨g, 0, none⟩)] w fun e w' => e = .returned (.int .i64 T.length) ∧ w = w' := by
  obtain ⟨vt, m, p, ts, f, h⟩ := h
  obtain ⟨A, c, hv, _⟩ := own_form h.own
  subst hv
  have c0 := h.blk.cell 0
  simp at c0
  clear h
  go_enter Try.func21, Try.ntmps21
  go_wp2
  go_ret
  exact ⟨rfl, rfl⟩
theorem power_any (Y Z : Nat → Prop) (w : World) (g N : Nat) (dead : Bool) (T : List (List UInt8)) (U : Int → Option (List UInt8)) (pl : Option (Int × List UInt8)) (h : Disk Y Z w g N dead T U pl) :
    Calls Try.prog 16 #[.pointer (some ⟨g, 0, none⟩)] w fun e w' => e = .returned (.tuple #[]) ∧ Disk Y Z w' g N false T U pl ∧ Turn Y w w' := by
  obtain ⟨vt, m, p, ts, f, h⟩ := h
  have c2 := h.blk.cell 2
  simp at c2
  have f2 := h.blk.frozen 2
  have HD := hide (show Disk Y Z (w.setCell ⟨g, 2, none⟩ (.bool false)) g N false T U pl ∧ Turn Y w (w.setCell ⟨g, 2, none⟩ (.bool false)) from by
    obtain ⟨h1, h2⟩ := h.cell_ false h.pln (by have := h.blk.set_ 2 (.bool false); simpa using this) (Touch.setCell (F := fun k => k = g) (p := ⟨g, 2, none⟩) (Touch.refl w _) (fun _ => rfl) _)
    exact ⟨⟨vt, m, p, ts, f, h1⟩, h2⟩)
  clear h
  go_enter Try.func16, Try.ntmps16
  go_wp2_with (fail)
  go_end0
  exact ⟨rfl, HD.out⟩
end Go.Proofs.Ytpbenpkgbhmldaa
