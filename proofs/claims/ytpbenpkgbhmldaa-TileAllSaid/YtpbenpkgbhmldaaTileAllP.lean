/- TileAll: what both disks do with one deed. -/
import Derived.Test.YtpbenpkgbhmldaaTileG
import Derived.Test.YtpbenpkgbhmldaaTileF
namespace Go.Proofs.Ytpbenpkgbhmldaa
open Go.ChangeShapes Go.WideShapes Go.ChangeAt Go.RowKit Go.Maps
set_option linter.unusedVariables false

theorem pok_dec {pl : Option (Int × List UInt8)} (h : Pok pl) (h0 : ∀ M, pl ≠ some (0, M)) : Pok (dec pl) := by
  cases pl with
  | none => exact trivial
  | some q =>
    obtain ⟨a, M⟩ := q
    obtain ⟨h1, h2, h3⟩ := h
    have : a ≠ 0 := fun e => h0 M (by rw [e])
    exact ⟨by omega, by omega, h3⟩
theorem pok_armed {a : Int} {M : List UInt8} (h : a ≤ 9223372036854775807) (hM : M.length ≤ 1048576) : Pok (armed a M) := by
  unfold armed
  split
  · exact trivial
  · exact ⟨by omega, h, hM⟩
section
variable {Y Z : Nat → Prop} {B : Nat} {w : World} {d r N : Nat} {dead : Bool} {T : List (List UInt8)} {U : Int → Option (List UInt8)} {pl : Option (Int × List UInt8)}
theorem wr_both (h : Disk Y Z w d N dead T U pl) (hr : Rf B w r dead T U pl) (hp : Pok pl) (hT : T.length ≤ 2000) (hN : N ≤ 1000000) (hZ : ∀ k, w.heap.size ≤ k → Z k) (x : Int) (bs : List UInt8) (A : Option Addr) (n c : Nat) (hl : bs.length = n) (hA : A = none → c = 0)
    (hr1 : ∀ w', Turn Y w w' → Reads w' w'.heap.size 1 A n (bv bs)) (hr2 : ∀ w1 w', Turn Y w w1 → RTurn B w1 w' → Reads w' w'.heap.size 1 A n (bv bs)) :
    ∃ (y : Int) (dead' : Bool) (T' : List (List UInt8)) (U' : Int → Option (List UInt8)) (pl' : Option (Int × List UInt8)) (N' : Nat), T'.length = T.length ∧ N' ≤ N + 1 ∧ Pok pl' ∧
      Calls Try.prog 12 #[.pointer (some ⟨d, 0, none⟩), .int .i64 x, .slice A n c] w (fun e w1 => e = .returned (.int .i64 y) ∧ Disk Y Z w1 d N' dead' T' U' pl' ∧ Turn Y w w1) ∧
      ∀ w1, Turn Y w w1 → Calls Try.prog 24 #[.pointer (some ⟨r, 0, none⟩), .int .i64 x, .slice A n c] w1 (fun e w2 => e = .returned (.int .i64 y) ∧ Rf B w2 r dead' T' U' pl' ∧ RTurn B w1 w2) := by
  cases dead with
  | true =>
    refine ⟨2, true, T, U, pl, N, rfl, by omega, hp, (write_dead Y Z w d N T U pl x A n c h).mono ?_, fun w1 ht => (rwrite_dead x A n c (hr.turn ht)).mono ?_⟩
    · rintro e w1 ⟨rfl, rfl⟩
      exact ⟨rfl, h, Turn.refl _ _⟩
    · rintro e w2 ⟨rfl, rfl⟩
      exact ⟨rfl, hr.turn ht, RTurn.refl _ _⟩
  | false =>
    by_cases hx : x < 0 ∨ (T.length : Int) ≤ x
    · refine ⟨1, false, T, U, pl, N, rfl, by omega, hp, (write_out Y Z w d N T U pl x A n c h hx).mono ?_, fun w1 ht => (rwrite_out x A n c (hr.turn ht) hx).mono ?_⟩
      · rintro e w1 ⟨rfl, rfl⟩
        exact ⟨rfl, h, Turn.refl _ _⟩
      · rintro e w2 ⟨rfl, rfl⟩
        exact ⟨rfl, hr.turn ht, RTurn.refl _ _⟩
    · obtain ⟨k, rfl⟩ : ∃ k : Nat, x = (k : Int) := ⟨x.toNat, by omega⟩
      have hk : k < T.length := by omega
      by_cases h64 : n = 64
      · subst h64
        by_cases hcut : ∃ M, pl = some (0, M)
        · obtain ⟨M, rfl⟩ := hcut
          refine ⟨2, true, crT M (wrU T U k) (T.set k bs), fun _ => none, none, 0, by rw [crT_len, List.length_set], by omega, trivial, (write_in Y Z w d N T U _ k bs A c h hk hT hN hp hZ hl hA hr1).mono ?_, fun w1 ht => (rwrite_in k bs A c (hr.turn ht) hp hk hT (fun w' ht' => hr2 w1 w' ht ht')).mono ?_⟩
          · rintro e w1 ⟨ht, (⟨rfl, h0, _⟩ | ⟨rfl, M', e, h1⟩)⟩
            · exact absurd rfl (h0 M)
            · injection e with e
              injection e with _ e
              subst e
              exact ⟨rfl, h1, ht⟩
          · rintro e w1 ⟨ht, (⟨rfl, h0, _⟩ | ⟨rfl, M', e, h1⟩)⟩
            · exact absurd rfl (h0 M)
            · injection e with e
              injection e with _ e
              subst e
              exact ⟨rfl, h1, ht⟩
        · have h0 : ∀ M, pl ≠ some (0, M) := fun M e => hcut ⟨M, e⟩
          refine ⟨0, false, T.set k bs, wrU T U k, dec pl, N + 1, by rw [List.length_set], by omega, pok_dec hp h0, (write_in Y Z w d N T U _ k bs A c h hk hT hN hp hZ hl hA hr1).mono ?_, fun w1 ht => (rwrite_in k bs A c (hr.turn ht) hp hk hT (fun w' ht' => hr2 w1 w' ht ht')).mono ?_⟩
          · rintro e w1 ⟨ht, (⟨rfl, _, h1⟩ | ⟨rfl, M', e, h1⟩)⟩
            · exact ⟨rfl, h1, ht⟩
            · exact absurd e (h0 M')
          · rintro e w1 ⟨ht, (⟨rfl, _, h1⟩ | ⟨rfl, M', e, h1⟩)⟩
            · exact ⟨rfl, h1, ht⟩
            · exact absurd e (h0 M')
      · have hn : ((n : Int) != 64) = true := by simp; omega
        refine ⟨1, false, T, U, pl, N, rfl, by omega, hp, (write_len Y Z w d N T U pl k A n c h hk hn).mono ?_, fun w1 ht => (rwrite_len k A n c (hr.turn ht) hk hn).mono ?_⟩
        · rintro e w1 ⟨rfl, rfl⟩
          exact ⟨rfl, h, Turn.refl _ _⟩
        · rintro e w2 ⟨rfl, rfl⟩
          exact ⟨rfl, hr.turn ht, RTurn.refl _ _⟩
theorem sy_both (h : Disk Y Z w d N dead T U pl) (hr : Rf B w r dead T U pl) (hp : Pok pl) (hT : T.length ≤ 2000) (hN : N ≤ 1000000) :
    ∃ (y : Int) (dead' : Bool) (T' : List (List UInt8)) (U' : Int → Option (List UInt8)) (pl' : Option (Int × List UInt8)) (N' : Nat), T'.length = T.length ∧ N' ≤ N + 1 ∧ Pok pl' ∧
      Calls Try.prog 14 #[.pointer (some ⟨d, 0, none⟩)] w (fun e w1 => e = .returned (.int .i64 y) ∧ Disk Y Z w1 d N' dead' T' U' pl' ∧ Turn Y w w1) ∧
      ∀ w1, Turn Y w w1 → Calls Try.prog 25 #[.pointer (some ⟨r, 0, none⟩)] w1 (fun e w2 => e = .returned (.int .i64 y) ∧ Rf B w2 r dead' T' U' pl' ∧ RTurn B w1 w2) := by
  cases dead with
  | true =>
    refine ⟨2, true, T, U, pl, N, rfl, by omega, hp, (sync_dead Y Z w d N T U pl h).mono ?_, fun w1 ht => (rsync_dead (hr.turn ht)).mono ?_⟩
    · rintro e w1 ⟨rfl, rfl⟩
      exact ⟨rfl, h, Turn.refl _ _⟩
    · rintro e w2 ⟨rfl, rfl⟩
      exact ⟨rfl, hr.turn ht, RTurn.refl _ _⟩
  | false =>
    by_cases hcut : ∃ M, pl = some (0, M)
    · obtain ⟨M, rfl⟩ := hcut
      refine ⟨2, true, crT M U T, fun _ => none, none, 0, by rw [crT_len], by omega, trivial, (sync_in Y Z w d N T U _ h hT hN hp).mono ?_, fun w1 ht => (rsync_in (hr.turn ht) hp hT).mono ?_⟩
      · rintro e w1 ⟨ht, (⟨rfl, h0, _⟩ | ⟨rfl, M', e, h1⟩)⟩
        · exact absurd rfl (h0 M)
        · injection e with e
          injection e with _ e
          subst e
          exact ⟨rfl, h1, ht⟩
      · rintro e w1 ⟨ht, (⟨rfl, h0, _⟩ | ⟨rfl, M', e, h1⟩)⟩
        · exact absurd rfl (h0 M)
        · injection e with e
          injection e with _ e
          subst e
          exact ⟨rfl, h1, ht⟩
    · have h0 : ∀ M, pl ≠ some (0, M) := fun M e => hcut ⟨M, e⟩
      refine ⟨0, false, T, fun _ => none, dec pl, 0, rfl, by omega, pok_dec hp h0, (sync_in Y Z w d N T U _ h hT hN hp).mono ?_, fun w1 ht => (rsync_in (hr.turn ht) hp hT).mono ?_⟩
      · rintro e w1 ⟨ht, (⟨rfl, _, h1⟩ | ⟨rfl, M', e, h1⟩)⟩
        · exact ⟨rfl, h1, ht⟩
        · exact absurd e (h0 M')
      · rintro e w1 ⟨ht, (⟨rfl, _, h1⟩ | ⟨rfl, M', e, h1⟩)⟩
        · exact ⟨rfl, h1, ht⟩
        · exact absurd e (h0 M')
/-- the document's Crash -/
theorem rcrash_rf (A : Option Addr) (m c : Nat) (M : List UInt8) (h : Rf B w r dead T U pl) (hl : M.length = m) (hm : m ≤ 1048576) (hT : T.length ≤ 2000) (hr : ∀ w', RTurn B w w' → Reads w' w'.heap.size 1 A m (bv M)) :
    Calls Try.prog 26 #[.pointer (some ⟨r, 0, none⟩), .slice A m c] w fun e w' => e = .returned (.tuple #[]) ∧ Rf B w' r true (crT M U T) (fun _ => none) none ∧ RTurn B w w' := by
  obtain ⟨A1, A2, A3, Am, c1, c2, c3, km, cm, on, pa, M0, h, e⟩ := h
  exact (rcrash_any A m c M h hl hm hT hr).mono fun e w' ⟨h1, h2, h3⟩ => ⟨h1, rf_crash h2, h3⟩
/-- the document's disk is dead no more -/
theorem rpower (h : Rf B w r dead T U pl) : (∃ v, w.cell? ⟨r, 3, none⟩ = some v) ∧ w.frozen? ⟨r, 3, none⟩ = false ∧ Rf B (w.setCell ⟨r, 3, none⟩ (.bool false)) r false T U pl ∧ RTurn B w (w.setCell ⟨r, 3, none⟩ (.bool false)) := by
  obtain ⟨A1, A2, A3, Am, c1, c2, c3, km, cm, on, pa, M0, h, e⟩ := h
  have := h.set_ (d' := false) (o' := on) (a' := pa) (w' := w.setCell ⟨r, 3, none⟩ (.bool false)) (by have := h.blk.set_ 3 (.bool false); simpa using this) (tset' w r 3 _)
  obtain ⟨y0, y1, y2, y3, y4, y5, y6⟩ := h.cells
  exact ⟨⟨_, y3⟩, h.blk.frozen 3, ⟨A1, A2, A3, Am, c1, c2, c3, km, cm, on, pa, M0, this.1, e⟩, this.2⟩
end
end Go.Proofs.Ytpbenpkgbhmldaa
