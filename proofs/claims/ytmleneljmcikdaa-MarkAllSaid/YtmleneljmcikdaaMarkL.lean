/- Mark: what lies in memory while a mark is made. -/
import Derived.Test.YtmleneljmcikdaaMarkD
import Derived.Deep.Onto
namespace Go.Proofs.Ytmleneljmcikdaa
open Go.ChangeShapes Go.WideShapes Go.ChangeAt Go.RowKit
set_option linter.unusedVariables false

/-- Behind the mark's composite. -/
structure Mid (w wx : World) (u h : Int) (n1 n2 n3 : Nat) (xL xD xO : List Value) (eb : Nat) (sL sD sO : Value) : Prop where
  blk : Blk wx eb 34 #[.int .i64 9, .int .i64 0, .int .i64 u, .int .i64 h, .int .i64 0, .int .i64 0, .int .i64 0, .int .i64 0, .int .i64 0, .int .i64 0, .slice none 0 0, .slice none 0 0, .slice none 0 0, sL, sD, sO]
  L : wx.ownsRow w.heap.size 51 4 sL n1 xL
  D : wx.ownsRow w.heap.size 41 2 sD n2 xD
  O : wx.ownsRow w.heap.size 55 3 sO n3 xO
  res : Blk wx (w.heap.size + 1) 34 #[.int .i64 0, .int .i64 0, .int .i64 0, .int .i64 0, .int .i64 0, .int .i64 0, .int .i64 0, .int .i64 0, .int .i64 0, .int .i64 0, .slice none 0 0, .slice none 0 0, .slice none 0 0, .slice none 0 0, .slice none 0 0, .slice none 0 0]
  ext : Ext w wx
  eb_ : w.heap.size + 1 < eb
def MidV (w : World) (u h : Int) (n1 n2 n3 : Nat) (xL xD xO : List Value) (v : Value) (wx : World) : Prop := ∃ eb sL sD sO, v = .pointer (some ⟨eb, 0, none⟩) ∧ Mid w wx u h n1 n2 n3 xL xD xO eb sL sD sO
section
variable {w W1 w3 w4 w5 : World} {u h : Int} {n1 n2 n3 eb : Nat} {xL xD xO : List Value} {sL sD sO : Value}
theorem mid_a (e1 : Ext w W1) (kr : Blk W1 (w.heap.size + 1) 34 #[.int .i64 0, .int .i64 0, .int .i64 0, .int .i64 0, .int .i64 0, .int .i64 0, .int .i64 0, .int .i64 0, .int .i64 0, .int .i64 0, .slice none 0 0, .slice none 0 0, .slice none 0 0, .slice none 0 0, .slice none 0 0, .slice none 0 0])
    (E5 : Ext W1 w5) (OL : w3.ownsRow w.heap.size 51 4 sL n1 xL) (F3 : Ext w3 w4) (OD : w4.ownsRow w.heap.size 41 2 sD n2 xD) (F4 : Ext w4 w5) (OO : w5.ownsRow w.heap.size 55 3 sO n3 xO)
    (kk : Blk w5 eb 34 #[.int .i64 0, .int .i64 0, .int .i64 0, .int .i64 0, .int .i64 0, .int .i64 0, .int .i64 0, .int .i64 0, .int .i64 0, .int .i64 0, .slice none 0 0, .slice none 0 0, .slice none 0 0, .slice none 0 0, .slice none 0 0, .slice none 0 0]) (heb : w.heap.size + 1 < eb) :
    MidV w u h n1 n2 n3 xL xD xO (.pointer (some ⟨eb, 0, none⟩)) ((((((((((((((((w5.setCell ⟨eb, 0, none⟩ (.int .i64 9)).setCell ⟨eb, 1, none⟩ (.int .i64 0)).setCell ⟨eb, 2, none⟩ (.int .i64 u)).setCell ⟨eb, 3, none⟩ (.int .i64 h)).setCell ⟨eb, 4, none⟩ (.int .i64 0)).setCell ⟨eb, 5, none⟩ (.int .i64 0)).setCell ⟨eb, 6, none⟩ (.int .i64 0)).setCell ⟨eb, 7, none⟩ (.int .i64 0)).setCell ⟨eb, 8, none⟩ (.int .i64 0)).setCell ⟨eb, 9, none⟩ (.int .i64 0)).setCell ⟨eb, 10, none⟩ (.slice none 0 0)).setCell ⟨eb, 11, none⟩ (.slice none 0 0)).setCell ⟨eb, 12, none⟩ (.slice none 0 0)).setCell ⟨eb, 13, none⟩ sL).setCell ⟨eb, 14, none⟩ sD).setCell ⟨eb, 15, none⟩ sO) := by
  have T := touch_set16 w5 eb (.int .i64 9) (.int .i64 0) (.int .i64 u) (.int .i64 h) (.int .i64 0) (.int .i64 0) (.int .i64 0) (.int .i64 0) (.int .i64 0) (.int .i64 0) (.slice none 0 0) (.slice none 0 0) (.slice none 0 0) sL sD sO
  have OL5 := F4.own (F3.own OL)
  have OD5 := F4.own OD
  exact ⟨eb, sL, sD, sO, rfl, kk.set16 _ _ _ _ _ _ _ _ _ _ _ _ _ _ _ _, ownsRow_touch T OL5 (fun k hk e => own_blk_ne OL5 kk (by decide) (by rw [hk, e])), ownsRow_touch T OD5 (fun k hk e => own_blk_ne OD5 kk (by decide) (by rw [hk, e])),
    ownsRow_touch T OO (fun k hk e => own_blk_ne OO kk (by decide) (by rw [hk, e])), T.blk (E5.blk kr) (by omega), Touch.ext (e1.trans E5) T (by omega), heb⟩
theorem mid_b (e1 : Ext w W1) (kr : Blk W1 (w.heap.size + 1) 34 #[.int .i64 0, .int .i64 0, .int .i64 0, .int .i64 0, .int .i64 0, .int .i64 0, .int .i64 0, .int .i64 0, .int .i64 0, .int .i64 0, .slice none 0 0, .slice none 0 0, .slice none 0 0, .slice none 0 0, .slice none 0 0, .slice none 0 0])
    (E5 : Ext W1 w5) (OL : w3.ownsRow w.heap.size 51 4 sL n1 xL) (F3 : Ext w3 w4) (OD : w4.ownsRow w.heap.size 41 2 sD n2 xD) (F4 : Ext w4 w5) (OO : w5.ownsRow w.heap.size 55 3 sO n3 xO) :
    MidV w u h n1 n2 n3 xL xD xO (.pointer (some ⟨w5.heap.size, 0, none⟩)) (w5.alloc (.cells #[.int .i64 9, .int .i64 0, .int .i64 u, .int .i64 h, .int .i64 0, .int .i64 0, .int .i64 0, .int .i64 0, .int .i64 0, .int .i64 0, .slice none 0 0, .slice none 0 0, .slice none 0 0, sL, sD, sO] 34)) := by
  have hlt := (E5.blk kr).lt
  exact ⟨w5.heap.size, sL, sD, sO, rfl, Blk.new _ _ _, (F4.own (F3.own OL)).alloc _, (F4.own OD).alloc _, OO.alloc _, (E5.blk kr).alloc _, (e1.trans E5).alloc _, hlt⟩
end
/-- an open unit that was there, and its twin -/
def Opn (w0 w : World) (ys xs : List Value) (sO : Value) (j : Nat) : Prop := ∃ (u d : Int) (A1 A2 : Option Addr) (m c1 c2 : Nat) (ms : List Value),
  ys[j * 3]? = some (.int .i64 u) ∧ ys[j * 3 + 1]? = some (.slice A1 m c1) ∧ ys[j * 3 + 2]? = some (.int .i64 d) ∧
  xs[j * 3]? = some (.int .i64 u) ∧ xs[j * 3 + 1]? = some (.slice A2 m c2) ∧ xs[j * 3 + 2]? = some (.int .i64 d) ∧
  MoveRow ms m ∧ Reads w w.heap.size 4 A1 m ms ∧ Reads w0 w0.heap.size 4 A2 m ms ∧ m ≤ maxLen ∧ ∀ ad, A1 = some ad → sO.ownBlock ≠ some ad.block ∧ w0.heap.size + 1 < ad.block
/-- the open units that came in -/
def OpenIn (w : World) (xs : List Value) (n : Nat) : Prop := ∀ k, k < n → ∃ (u d : Int) (A : Option Addr) (m c : Nat) (ms : List Value),
  xs[k * 3]? = some (.int .i64 u) ∧ xs[k * 3 + 1]? = some (.slice A m c) ∧ xs[k * 3 + 2]? = some (.int .i64 d) ∧ MoveRow ms m ∧ Reads w w.heap.size 4 A m ms ∧ (A = none → c = 0) ∧ m ≤ maxLen ∧ m * 32 ≤ 140737488355328
theorem moves_one {ms : List Value} {m : Nat} (h : MoveRow ms m) (hl : ms.length = m * 4) : ∀ v ∈ ms, v.oneCell' = true := by
  intro v hv
  obtain ⟨i, hi, rfl⟩ := List.getElem_of_mem hv
  obtain ⟨a, b, c, d, h0, h1, h2, h3⟩ := h (i / 4) (by omega)
  have hr : i = i / 4 * 4 ∨ i = i / 4 * 4 + 1 ∨ i = i / 4 * 4 + 2 ∨ i = i / 4 * 4 + 3 := by omega
  have key : ∀ q x, ms[q]? = some (Value.int .i64 x) → i = q → ms[i].oneCell' = true := by
    rintro q x hq rfl
    rw [List.getElem?_eq_getElem hi] at hq
    injection hq with hq
    rw [hq]
    rfl
  rcases hr with e | e | e | e
  · exact key _ _ h0 e
  · exact key _ _ h1 e
  · exact key _ _ h2 e
  · exact key _ _ h3 e
theorem opens_one {w : World} {xs : List Value} {n : Nat} (h : OpenIn w xs n) (hl : xs.length = n * 3) : ∀ v ∈ xs, v.oneCell' = true := by
  intro v hv
  obtain ⟨i, hi, rfl⟩ := List.getElem_of_mem hv
  obtain ⟨u, d, A, m, c, ms, h0, h1, h2, _⟩ := h (i / 3) (by omega)
  have hr : i = i / 3 * 3 ∨ i = i / 3 * 3 + 1 ∨ i = i / 3 * 3 + 2 := by omega
  have key : ∀ q x, ms.length = ms.length → xs[q]? = some x → x.oneCell' = true → i = q → xs[i].oneCell' = true := by
    rintro q x _ hq hx rfl
    rw [List.getElem?_eq_getElem hi] at hq
    injection hq with hq
    rw [hq]
    exact hx
  rcases hr with e | e | e
  · exact key _ _ rfl h0 rfl e
  · exact key _ _ rfl h1 rfl e
  · exact key _ _ rfl h2 rfl e
theorem lives_one {xs : List Value} {n : Nat} (h : LiveRow xs n) (hl : xs.length = n * 4) : ∀ v ∈ xs, v.oneCell' = true := by
  intro v hv
  obtain ⟨i, hi, rfl⟩ := List.getElem_of_mem hv
  obtain ⟨a, b, c, d, h0, h1, h2, h3⟩ := h (i / 4) (by omega)
  have hr : i = i / 4 * 4 ∨ i = i / 4 * 4 + 1 ∨ i = i / 4 * 4 + 2 ∨ i = i / 4 * 4 + 3 := by omega
  have key : ∀ q x, xs[q]? = some x → x.oneCell' = true → i = q → xs[i].oneCell' = true := by
    rintro q x hq hx rfl
    rw [List.getElem?_eq_getElem hi] at hq
    injection hq with hq
    rw [hq]
    exact hx
  rcases hr with e | e | e | e
  · exact key _ _ h0 rfl e
  · exact key _ _ h1 rfl e
  · exact key _ _ h2 rfl e
  · exact key _ _ h3 rfl e
/-- Behind k rounds of the copies of the moves. -/
structure MidK (w wx : World) (u h : Int) (n1 n2 n3 : Nat) (xL xD xO : List Value) (eb : Nat) (sL sD sO : Value) (ys : List Value) (k : Nat) : Prop where
  mid : Mid w wx u h n1 n2 n3 xL xD ys eb sL sD sO
  lo : ∀ j, j < n3 → j < k → Opn w wx ys xO sO j
  hi : ∀ j, j < n3 → k ≤ j → ys[j * 3]? = xO[j * 3]? ∧ ys[j * 3 + 1]? = xO[j * 3 + 1]? ∧ ys[j * 3 + 2]? = xO[j * 3 + 2]?
theorem MidK.start {w wx : World} {u h : Int} {n1 n2 n3 : Nat} {xL xD xO : List Value} {eb : Nat} {sL sD sO : Value} (m : Mid w wx u h n1 n2 n3 xL xD xO eb sL sD sO) : MidK w wx u h n1 n2 n3 xL xD xO eb sL sD sO xO 0 :=
  ⟨m, fun j _ h => absurd h (by omega), fun j _ _ => ⟨rfl, rfl, rfl⟩⟩
theorem own_set {w : World} {base e m n g cap : Nat} {xs : List Value} (h : w.ownsRow base e m (.slice (some ⟨g, 0, none⟩) n cap) n xs) (j : Nat) (u : Value) : (w.setCell ⟨g, j, none⟩ u).ownsRow base e m (.slice (some ⟨g, 0, none⟩) n cap) n (xs.set j u) := (h.stored j u).1
theorem MidK.step {w wr w6 : World} {u h : Int} {n1 n2 n3 : Nat} {xL xD xO : List Value} {eb g cap : Nat} {sL sD : Value} {ys : List Value} {k m c c' : Nat} {A A' : Option Addr} {ms : List Value} {u0 d0 : Int}
    (H : MidK w wr u h n1 n2 n3 xL xD xO eb sL sD (.slice (some ⟨g, 0, none⟩) n3 cap) ys k) (hk : k < n3) (he : Ext wr w6) (ho : w6.ownsRow wr.heap.size 58 4 (.slice A' m c') m ms) (hm : MoveRow ms m) (hr : Reads w w.heap.size 4 A m ms) (hml : m ≤ maxLen)
    (x0 : xO[k * 3]? = some (.int .i64 u0)) (x1 : xO[k * 3 + 1]? = some (.slice A m c)) (x2 : xO[k * 3 + 2]? = some (.int .i64 d0)) :
    MidK w (w6.setCell ⟨g, k * 3 + 1, none⟩ (.slice A' m c')) u h n1 n2 n3 xL xD xO eb sL sD (.slice (some ⟨g, 0, none⟩) n3 cap) (ys.set (k * 3 + 1) (.slice A' m c')) (k + 1) := by
  have M := H.mid
  have hgl : g < wr.heap.size := (M.O.lt g rfl).2
  have hgw : w.heap.size ≤ g := (M.O.lt g rfl).1
  have hO6 := he.own M.O
  have T : Touch w6 (w6.setCell ⟨g, k * 3 + 1, none⟩ (.slice A' m c')) (fun x => x = g) := Touch.setCell (F := fun x => x = g) (p := ⟨g, k * 3 + 1, none⟩) (Touch.refl _ _) (fun _ => rfl) _
  have hylen : ys.length = n3 * 3 := M.O.1
  have neL : ∀ z, sL.ownBlock = some z → ¬ z = g := fun z hz e => by
    subst e
    rcases M.O.2 with ⟨h1, _⟩ | ⟨b, _, _, h1, _, hh, _⟩
    · cases h1
    · injection h1 with h1
      injection h1 with h1
      injection h1 with h1
      subst h1
      exact own_blk_ne M.L hh (by decide) hz
  have neD : ∀ z, sD.ownBlock = some z → ¬ z = g := fun z hz e => by
    subst e
    rcases M.O.2 with ⟨h1, _⟩ | ⟨b, _, _, h1, _, hh, _⟩
    · cases h1
    · injection h1 with h1
      injection h1 with h1
      injection h1 with h1
      subst h1
      exact own_blk_ne M.D hh (by decide) hz
  have neE : ¬ eb = g := fun e => own_blk_ne M.O M.blk (by decide) (by rw [e]; rfl)
  have neR : ¬ w.heap.size + 1 = g := fun e => own_blk_ne M.O M.res (by decide) (by rw [e]; rfl)
  refine ⟨⟨T.blk (he.blk M.blk) neE, ownsRow_touch T (he.own M.L) neL, ownsRow_touch T (he.own M.D) neD, own_set hO6 _ _, T.blk (he.blk M.res) neR, Touch.ext (M.ext.trans he) T hgw, M.eb_⟩, fun j hj hjk => ?_, fun j hj hjk => ?_⟩
  · by_cases e : j = k
    · subst e
      obtain ⟨h1, h2, h3⟩ := H.hi j hj (Nat.le_refl _)
      refine ⟨u0, d0, A', A, m, c', c, ms, ?_, ?_, ?_, x0, x1, x2, hm, ?_, hr, hml, fun ad had => ?_⟩
      · rw [List.getElem?_set_ne (by omega), h1, x0]
      · rw [List.getElem?_set_self (by omega)]
      · rw [List.getElem?_set_ne (by omega), h3, x2]
      · refine (Reads.touch (Reads.of_own ho) T (Nat.le_refl _) (fun ad had => ?_)).more T.size
        have := (ho.lt ad.block (by rw [had]; rfl)).1
        omega
      · have := (ho.lt ad.block (by rw [had]; rfl)).1
        have := M.res.lt
        exact ⟨by simp [Value.ownBlock]; omega, by omega⟩
    · obtain ⟨u1, d1, A1, A2, m1, c1, c2, ms1, a0, a1, a2, b0, b1, b2, q1, q2, q3, q4, q5⟩ := H.lo j hj (by omega)
      refine ⟨u1, d1, A1, A2, m1, c1, c2, ms1, ?_, ?_, ?_, b0, b1, b2, q1, ?_, q3, q4, q5⟩
      · rw [List.getElem?_set_ne (by omega), a0]
      · rw [List.getElem?_set_ne (by omega), a1]
      · rw [List.getElem?_set_ne (by omega), a2]
      · refine (Reads.touch (he.read q2) T (Nat.le_refl _) (fun ad had => ?_)).more T.size
        have := (q5 ad had).1
        simp [Value.ownBlock] at this
        omega
  · obtain ⟨h1, h2, h3⟩ := H.hi j hj (by omega)
    refine ⟨?_, ?_, ?_⟩
    · rw [List.getElem?_set_ne (by omega), h1]
    · rw [List.getElem?_set_ne (by omega), h2]
    · rw [List.getElem?_set_ne (by omega), h3]
/-- what Make gives -/
def GivesMark (w : World) (u h : Int) (n1 n2 n3 : Nat) (xL xD xO : List Value) (e : Ending) (w' : World) : Prop :=
  ∃ (A1 A2 A3 : Option Addr) (c1 c2 c3 : Nat) (yO : List Value), e = .returned (.agg #[.int .i64 9, .int .i64 0, .int .i64 u, .int .i64 h, .int .i64 0, .int .i64 0, .int .i64 0, .int .i64 0, .int .i64 0, .int .i64 0, .slice none 0 0, .slice none 0 0, .slice none 0 0, .slice A1 n1 c1, .slice A2 n2 c2, .slice A3 n3 c3]) ∧
    Reads w' w'.heap.size 4 A1 n1 xL ∧ Reads w' w'.heap.size 2 A2 n2 xD ∧ Reads w' w'.heap.size 3 A3 n3 yO ∧ OpenRows w' yO xO n3 ∧ Ext w w'
theorem gives_mark {w wx : World} {u h : Int} {n1 n2 n3 : Nat} {xL xD xO : List Value} {eb c1 c2 c3 : Nat} {A1 A2 A3 : Option Addr} {ys : List Value} (H : MidK w wx u h n1 n2 n3 xL xD xO eb (.slice A1 n1 c1) (.slice A2 n2 c2) (.slice A3 n3 c3) ys n3)
    {w' : World} (T : Touch wx w' (fun k => k = w.heap.size + 1)) : GivesMark w u h n1 n2 n3 xL xD xO (.returned (.agg #[.int .i64 9, .int .i64 0, .int .i64 u, .int .i64 h, .int .i64 0, .int .i64 0, .int .i64 0, .int .i64 0, .int .i64 0, .int .i64 0, .slice none 0 0, .slice none 0 0, .slice none 0 0, .slice A1 n1 c1, .slice A2 n2 c2, .slice A3 n3 c3])) w' := by
  have M := H.mid
  have hE : Ext w w' := Touch.ext M.ext T (by omega)
  refine ⟨A1, A2, A3, c1, c2, c3, ys, rfl, Reads.of_own (ownsRow_touch T M.L (fun k hk e => own_blk_ne M.L M.res (by decide) (by rw [hk, e]))), Reads.of_own (ownsRow_touch T M.D (fun k hk e => own_blk_ne M.D M.res (by decide) (by rw [hk, e]))),
    Reads.of_own (ownsRow_touch T M.O (fun k hk e => own_blk_ne M.O M.res (by decide) (by rw [hk, e]))), fun k hk => ?_, hE⟩
  obtain ⟨u1, d1, B1, B2, m1, q1, q2, ms1, a0, a1, a2, b0, b1, b2, r1, r2, r3, r4, r5⟩ := H.lo k hk hk
  refine ⟨u1, d1, B1, B2, m1, q1, q2, ms1, a0, a1, a2, b0, b1, b2, r1, (Reads.touch r2 T (Nat.le_refl _) (fun ad had => ?_)).more T.size, hE.read r3, r4⟩
  have := (r5 ad had).2
  omega
end Go.Proofs.Ytmleneljmcikdaa
