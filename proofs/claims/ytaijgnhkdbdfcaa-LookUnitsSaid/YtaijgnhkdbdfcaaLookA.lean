/- Look: contracts: Clone of bytes; which pages an entry touches; Index, Contains. -/
import Derived.Test.YtaijgnhkdbdfcaaLast
import Derived.LoopTactic
import Derived.Deep.Cut
import Derived.Deep.DeepCutAuto
import Derived.Deep.CutBlock
import Derived.WalkLawsBesides
import Derived.WalkSpells
import Derived.Deep.RegionHeld3
import Derived.Outline
import Derived.BigQuiet
import Derived.Deep.QuietTactic
import Derived.Laws.IdiomStrings
namespace Go.Proofs.Ytaijgnhkdbdfcaa
open Go.ChangeShapes Go.WideShapes Go.ChangeAt Go.RowKit
set_option linter.unusedVariables false

theorem Try.info5' : (Try.prog.info? 5).map (fun i => (i.zero, i.size, i.bytes)) = some (some (.int .u8 0), 1, 1) := by kernel_rfl
theorem Try.info3' : (Try.prog.info? 3).map (fun i => (i.zero, i.size, i.bytes)) = some (some (.int .i64 0), 1, 8) := by kernel_rfl
def iv (l : List Int) : List Value := l.map (Value.int .i64)
theorem iv_one (l : List Int) : ∀ u ∈ iv l, u.oneCell' = true := by
  intro u hu
  obtain ⟨b, _, rfl⟩ := List.mem_map.1 hu
  rfl
theorem iv_snoc (l : List Int) (x : Int) : iv (l ++ [x]) = iv l ++ [.int .i64 x] := by simp [iv]
/-- a slice's cap goes with its length -/
def CapOk (A : Option Addr) (c n : Nat) : Prop := (A = none → c = 0) ∧ n ≤ c
/-- bytes that lie somewhere -/
def BB (w : World) (v : Value) (l : List UInt8) : Prop := ∃ A c, v = .slice A l.length c ∧ CapOk A c l.length ∧ Reads w w.heap.size 1 A l.length (bv l)
theorem BB.ext {w w' : World} {v : Value} {l : List UInt8} (h : BB w v l) (hx : Ext w w') : BB w' v l := by
  obtain ⟨A, c, e, h1, h2⟩ := h
  exact ⟨A, c, e, h1, hx.read h2⟩
/-- bytes that lie somewhere, not in that block -/
def BBx (w : World) (pb : Nat) (v : Value) (l : List UInt8) : Prop := ∃ A c, v = .slice A l.length c ∧ CapOk A c l.length ∧ Reads w w.heap.size 1 A l.length (bv l) ∧ (l ≠ [] → ∀ ad, A = some ad → ad.block ≠ pb)
theorem BBx.ext {w w' : World} {pb : Nat} {v : Value} {l : List UInt8} (h : BBx w pb v l) (hx : Ext w w') : BBx w' pb v l := by
  obtain ⟨A, c, e, h1, h2, h3⟩ := h
  exact ⟨A, c, e, h1, hx.read h2, h3⟩
theorem BBx.touch {w w' : World} {pb : Nat} {v : Value} {l : List UInt8} (h : BBx w pb v l) (ht : Touch w w' (fun a => a = pb)) : BBx w' pb v l := by
  obtain ⟨A, c, e, h1, h2, h3⟩ := h
  refine ⟨A, c, e, h1, ?_, h3⟩
  by_cases hl : l = []
  · subst hl
    exact ⟨rfl, fun h => absurd h (by simp)⟩
  · exact (h2.touch ht (Nat.le_refl _) (fun ad had e => h3 hl ad had e)).more ht.size
theorem BBx.bb {w : World} {pb : Nat} {v : Value} {l : List UInt8} (h : BBx w pb v l) : BB w v l := by
  obtain ⟨A, c, e, h1, h2, _⟩ := h
  exact ⟨A, c, e, h1, h2⟩
/-- a move: whence, whither -/
structure Mv where
  f0 : Int
  f1 : Int
  t0 : Int
  t1 : Int
def mvc (x : Mv) : List Value := [.int .i64 x.f0, .int .i64 x.f1, .int .i64 x.t0, .int .i64 x.t1]
def mvs (l : List Mv) : List Value := l.flatMap mvc
theorem mvs_len (l : List Mv) : (mvs l).length = l.length * 4 := by
  induction l with
  | nil => rfl
  | cons a l ih => simp only [mvs, List.flatMap_cons, List.length_append, List.length_cons, mvc] at ih ⊢; simp only [List.length_nil]; omega
theorem mvs_at {l : List Mv} {q : Nat} {x : Mv} (h : l[q]? = some x) : (mvs l)[q * 4]? = some (.int .i64 x.f0) ∧ (mvs l)[q * 4 + 1]? = some (.int .i64 x.f1) ∧ (mvs l)[q * 4 + 2]? = some (.int .i64 x.t0) ∧ (mvs l)[q * 4 + 3]? = some (.int .i64 x.t1) := by
  obtain ⟨hq, e⟩ := List.getElem?_eq_some_iff.1 h
  have e1 : l = l.take q ++ (x :: l.drop (q + 1)) := by
    rw [← e, List.getElem_cons_drop, List.take_append_drop]
  have e2 : mvs l = mvs (l.take q) ++ (mvc x ++ mvs (l.drop (q + 1))) := by
    conv => lhs; rw [e1]
    simp [mvs]
  have hl : (mvs (l.take q)).length = q * 4 := by rw [mvs_len, List.length_take]; omega
  rw [e2]
  refine ⟨?_, ?_, ?_, ?_⟩
  · rw [List.getElem?_append_right (by omega), hl]; simp [mvc]
  · rw [List.getElem?_append_right (by omega), hl, show q * 4 + 1 - q * 4 = 1 by omega]; simp [mvc]
  · rw [List.getElem?_append_right (by omega), hl, show q * 4 + 2 - q * 4 = 2 by omega]; simp [mvc]
  · rw [List.getElem?_append_right (by omega), hl, show q * 4 + 3 - q * 4 = 3 by omega]; simp [mvc]
/-- an entry as it is handed over: its kind, where, where to, the new bytes, the moves; the rest is whatever -/
def env (kind a0 a1 b0 b1 : Int) (t u h p n : Int) (so sn sm sl sd sp : Value) : Value :=
  .agg #[.int .i64 kind, .int .i64 t, .int .i64 u, .int .i64 h, .int .i64 p, .int .i64 n, .int .i64 a0, .int .i64 a1, .int .i64 b0, .int .i64 b1, so, sn, sm, sl, sd, sp]
/-- which pages an entry touches -/
def touchL (kind a0 b0 : Int) (mv : List Mv) : List Int := if kind = 1 ∨ kind = 2 then [a0] else if kind = 7 then [a0, b0] else if kind = 8 then mv.map (·.f0) else []
/-- numbers in new memory -/
def GivesI (w : World) (L : List Int) (e : Ending) (w' : World) : Prop := ∃ A c, e = .returned (.slice A L.length c) ∧ w'.ownsRow w.heap.size 3 1 (.slice A L.length c) L.length (iv L) ∧ Ext w w'
theorem own_blk {w : World} {B b n : Nat} {t : TypeId} {cs : Array Value} (h : Blk w b t cs) (hB : B ≤ b) (hc : cs.size = n) (hn : n ≤ 1000) : w.ownsRow B t 1 (.slice (some ⟨b, 0, none⟩) n n) n cs.toList := by
  refine ⟨by simpa using hc, .inr ⟨b, n, cs, rfl, hB, h, Nat.le_refl _, by unfold maxLen; omega, by omega, ?_⟩⟩
  rw [List.take_of_length_le (by simp; omega)]
theorem blk_new1 (w : World) (o : Obj) (t : TypeId) (cs : Array Value) : Blk ((w.alloc o).alloc (.cells cs t)) (w.heap.size + 1) t cs := by
  have h := Blk.new (w.alloc o) t cs
  have e : (w.alloc o).heap.size = w.heap.size + 1 := by simp
  rwa [e] at h
set_option maxRecDepth 100000 in
set_option maxHeartbeats 4000000 in
theorem touched_any (kind a0 a1 b0 b1 t u h p n : Int) (A11 : Option Addr) (n11 c11 : Nat) (A10 : Option Addr) (n10 c10 : Nat) (A12 A13 A14 A15 : Option Addr) (c12 n13 c13 n14 c14 n15 c15 : Nat) (mv : List Mv) (w : World) (hr : Reads w w.heap.size 4 A12 mv.length (mvs mv)) (hl : mv.length ≤ 1000) :
    Calls Try.prog 37 #[env kind a0 a1 b0 b1 t u h p n (.slice A10 n10 c10) (.slice A11 n11 c11) (.slice A12 mv.length c12) (.slice A13 n13 c13) (.slice A14 n14 c14) (.slice A15 n15 c15)] w (GivesI w (touchL kind a0 b0 mv)) := by
  have HR := hide hr
  clear hr
  simp only [env]
  have hk : kind = 1 ∨ kind = 2 ∨ kind = 7 ∨ kind = 8 ∨ (kind ≠ 1 ∧ kind ≠ 2 ∧ kind ≠ 7 ∧ kind ≠ 8) := by omega
  rcases hk with rfl | rfl | rfl | rfl | ⟨e1, e2, e7, e8⟩
  · have eT := hide (show touchL 1 a0 b0 mv = [a0] by simp [touchL])
    go_enter Try.func37, Try.ntmps37
    go_wp2_with (fail)
    go_ret
    rw [eT.out]
    exact ⟨some ⟨w.heap.size + 1, 0, none⟩, 1, rfl, own_blk (cs := #[.int .i64 a0]) (blk_new1 w _ 3 _) (Nat.le_succ _) rfl (by simp), (Ext.new w _).alloc _⟩
  · have eT := hide (show touchL 2 a0 b0 mv = [a0] by simp [touchL])
    go_enter Try.func37, Try.ntmps37
    go_wp2_with (fail)
    go_ret
    rw [eT.out]
    exact ⟨some ⟨w.heap.size + 1, 0, none⟩, 1, rfl, own_blk (cs := #[.int .i64 a0]) (blk_new1 w _ 3 _) (Nat.le_succ _) rfl (by simp), (Ext.new w _).alloc _⟩
  · have eT := hide (show touchL 7 a0 b0 mv = [a0, b0] by simp [touchL])
    go_enter Try.func37, Try.ntmps37
    go_wp2_with (fail)
    go_ret
    rw [eT.out]
    exact ⟨some ⟨w.heap.size + 1, 0, none⟩, 2, rfl, own_blk (cs := #[.int .i64 a0, .int .i64 b0]) (blk_new1 w _ 3 _) (Nat.le_succ _) rfl (by simp), (Ext.new w _).alloc _⟩
  · obtain ⟨i0, hi0, hz0, hz1, hz2⟩ := info_parts Try.info3'
    obtain ⟨N, hN⟩ : ∃ N, N = mv.length := ⟨_, rfl⟩
    rw [← hN] at hl ⊢
    have HN := hide hN
    clear hN
    go_enter Try.func37, Try.ntmps37
    go_wp2_with (fail)
    go_loopw [3, 29] (fun s3 s29 wr => (∃ i : Nat, i ≤ N ∧ s29 = .int .i64 i ∧ Hid (Ext w wr ∧ wr.ownsRow w.heap.size 3 1 s3 i (iv ((mv.take i).map (·.f0)))))) (fun _ s29 _ => (N - intOf s29).toNat)
    case atStart => exact ⟨0, by omega, rfl, Ext.new w _, World.ownsRow_nil _ _ _ _⟩
    case round =>
      obtain ⟨i, hi, rfl, hs⟩ := hrel
      have X := hide hs.out.1
      have ho := hs.out.2
      obtain ⟨A3, c3, hv3, _⟩ := own_form ho
      subst hv3
      have HO := hide ho
      clear hs ho
      by_cases hlt : i < N
      · obtain ⟨bk, off, hAe, hbw, hcell⟩ := HR.out.plain (by rw [← HN.out]; omega) (by omega)
        subst hAe
        obtain ⟨x, hx⟩ : ∃ x, mv[i]? = some x := ⟨_, List.getElem?_eq_getElem (by rw [← HN.out]; exact hlt)⟩
        obtain ⟨y0, y1, y2, y3⟩ := mvs_at hx
        have g0 := (X.out.cell (p := ⟨bk, off + i * 4, none⟩) hbw).trans (hcell _ _ y0)
        have g1 := (X.out.cell (p := ⟨bk, off + (i * 4 + 1), none⟩) hbw).trans (hcell _ _ y1)
        have g2 := (X.out.cell (p := ⟨bk, off + (i * 4 + 2), none⟩) hbw).trans (hcell _ _ y2)
        have g3 := (X.out.cell (p := ⟨bk, off + (i * 4 + 3), none⟩) hbw).trans (hcell _ _ y3)
        rw [← Nat.add_assoc] at g1 g2 g3
        have hbr : bk < wr.heap.size := Nat.lt_of_lt_of_le hbw X.out.size
        have HX := hide hx
        clear y0 y1 y2 y3 hcell hx
        go_wp2_with (at_builtin; refine wpList_append_any _ rfl (.tmp 33) (.tmp 37) _ rfl w.heap.size 3 i0 _ 1 8 Try.underlying52 hi0 hz0 hz1 hz2 rfl (by omega) (.slice A3 i c3) i (iv ((mv.take i).map (·.f0))) rfl (Ext.own (((Ext.refl wr).alloc _).alloc _) HO.out) _ (some ⟨wr.heap.size + 1, 0, none⟩) 1 1 [.int .i64 x.f0] rfl (by have h := reads_blk (m := 1) (Blk.new (wr.alloc (.cells #[.int .i64 x.f0, .int .i64 x.f1, .int .i64 x.t0, .int .i64 x.t1] 54)) 3 #[.int .i64 x.f0]) rfl; have e : (wr.alloc (.cells #[.int .i64 x.f0, .int .i64 x.f1, .int .i64 x.t0, .int .i64 x.t1] 54)).heap.size = wr.heap.size + 1 := (by simp); rw [e] at h; exact h) (by intro u hu; simp at hu; subst hu; rfl) (by unfold maxLen; omega) (by omega) (by have := X.out.size; simp; omega) ?_; intro v4 w4 ho4 hg4 hat4; have E4 := hide (Ext.grown ((X.out.alloc _).alloc _) hg4 (fun z hz => (HO.out.lt z hz).1)); have O4 := hide ho4; clear ho4 hg4 hat4)
        go_roundw
        case rel => exact ⟨i + 1, by omega, by go_num, E4.out, by
          have hk := (List.getElem?_eq_some_iff.1 HX.out).1
          have e : mv[i] = x := (List.getElem?_eq_some_iff.1 HX.out).2
          rw [List.take_succ_eq_append_getElem hk, List.map_append, e]
          simpa [iv] using O4.out⟩
        case measure => simp [intOf]; omega
      · obtain rfl : i = N := by omega
        have eT : mv.take i = mv := List.take_of_length_le (by rw [← HN.out]; exact Nat.le_refl _)
        rw [eT] at HO
        go_wp2_with (fail)
        go_ret
        have eL : (touchL 8 a0 b0 mv).length = i := by simp [touchL, HN.out]
        unfold GivesI
        rw [eL]
        exact ⟨A3, c3, rfl, HO.out, X.out⟩
  · have b1 : (kind == 1) = false := by simpa using e1
    have b2 : (kind == 2) = false := by simpa using e2
    have b7 : (kind == 7) = false := by simpa using e7
    have b8 : (kind == 8) = false := by simpa using e8
    have eT := hide (show touchL kind a0 b0 mv = [] by simp [touchL, e1, e2, e7, e8])
    clear e1 e2 e7 e8
    go_enter Try.func37, Try.ntmps37
    go_wp2_with (fail)
    go_ret
    rw [eT.out]
    exact ⟨none, 0, rfl, World.ownsRow_nil _ _ _ _, Ext.new w _⟩
end Go.Proofs.Ytaijgnhkdbdfcaa
