/- Redo: words for Apply. -/
import Derived.Test.YtaagdjipjeindaaRedoD
import Derived.Deep.Cut
import Derived.Deep.DeepCutAuto
import Derived.Deep.CutBlock
namespace Go.Proofs.Ytaagdjipjeindaa
open Go.ChangeShapes Go.WideShapes Go.ChangeAt Go.RowKit
set_option linter.unusedVariables false

theorem BBx.read {w : World} {pb n c : Nat} {A : Option Addr} {l : List UInt8} (h : BBx w pb (.slice A n c) l) : Reads w w.heap.size 1 A l.length (bv l) := by
  obtain ⟨A', c', e, _, h2, _⟩ := h
  injection e with e1 e2 e3
  subst e1
  exact h2
theorem PgB.of {w : World} {xb : Nat} {f : Nat → List UInt8} {ls n : Int} {L0 L1 L2 L3 : List UInt8} {u0 u1 u2 u3 : Value} (hf : Hid (f 0 = L0 ∧ f 1 = L1 ∧ f 2 = L2 ∧ f 3 = L3)) (hb : Blk w xb 62 #[u0, u1, u2, u3, .int .i64 ls, .int .i64 n]) (h0 : BBx w xb u0 L0) (h1 : BBx w xb u1 L1) (h2 : BBx w xb u2 L2) (h3 : BBx w xb u3 L3) : PgB w xb f ls n := by
  obtain ⟨e0, e1, e2, e3⟩ := hf.out
  exact ⟨u0, u1, u2, u3, hb, by rw [e0]; exact h0, by rw [e1]; exact h1, by rw [e2]; exact h2, by rw [e3]; exact h3⟩
theorem Blk.cells6 {w : World} {g : Nat} {t : TypeId} {v0 v1 v2 v3 v4 v5 : Value} (h : Blk w g t #[v0, v1, v2, v3, v4, v5]) : w.cell? ⟨g, 0, none⟩ = some v0 ∧ w.cell? ⟨g, 1, none⟩ = some v1 ∧ w.cell? ⟨g, 2, none⟩ = some v2 ∧ w.cell? ⟨g, 3, none⟩ = some v3 ∧ w.cell? ⟨g, 4, none⟩ = some v4 ∧ w.cell? ⟨g, 5, none⟩ = some v5 :=
  ⟨h.cell 0, h.cell 1, h.cell 2, h.cell 3, h.cell 4, h.cell 5⟩
theorem BBx.form {w : World} {pb : Nat} {v : Value} {l : List UInt8} (h : BBx w pb v l) : ∃ A c, v = .slice A l.length c := by
  obtain ⟨A, c, e, _⟩ := h
  exact ⟨A, c, e⟩
theorem BB.nil (w : World) : BB w (.slice none 0 0) [] := ⟨none, 0, rfl, ⟨fun _ => rfl, Nat.le_refl _⟩, rfl, fun h => absurd h (by simp)⟩
/-- the bytes of a stub, none where there can be none -/
def stubOf (b0 b1 : Int) : List UInt8 := if 0 ≤ b0 ∧ b0 < 32 ∧ 0 ≤ b1 ∧ b1 < 4 then stubL b0.toNat b1.toNat else []
/-- a page's cells behind an entry that touches it -/
def paintF (kind a0 a1 b0 b1 n : Int) (NL : List UInt8) (mv : List Mv) (f : Nat → List UInt8) : Nat → List UInt8 :=
  if kind = 1 ∨ kind = 2 then setP f a0 a1 n NL else if kind = 7 then setP (setP f a0 a1 n (stubOf b0 b1)) b0 b1 n NL else if kind = 8 then mv.foldl (fun f x => setP f x.f0 x.f1 n []) f else f
/-- an entry turns this page -/
def actsP (ls n kind a0 b0 lsn : Int) (mv : List Mv) : Prop := ls < lsn ∧ n ∈ touchL kind a0 b0 mv
instance (ls n kind a0 b0 lsn : Int) (mv : List Mv) : Decidable (actsP ls n kind a0 b0 lsn mv) := inferInstanceAs (Decidable (_ ∧ _))
/-- a page in whatever memory -/
def GivesP (w : World) (F : Nat → List UInt8) (l : Int) (b : Bool) (e : Ending) (w' : World) : Prop :=
  ∃ u0 u1 u2 u3, e = .returned (.tuple #[.agg #[u0, u1, u2, u3, .int .i64 l], .bool b]) ∧ BB w' u0 (F 0) ∧ BB w' u1 (F 1) ∧ BB w' u2 (F 2) ∧ BB w' u3 (F 3) ∧ Ext w w'
theorem BB.far {w w' : World} {g : Nat} {t : TypeId} {cs : Array Value} {v : Value} {l : List UInt8} (h : BB w v l) (hb : Blk w g t cs) (hc : ∀ (u : Value), u ∈ cs.toList → ∀ z, u ≠ .int .u8 z) (ht : Touch w w' (fun a => a = g)) : BB w' v l := by
  obtain ⟨A, c, ev, h1, h2⟩ := h
  refine ⟨A, c, ev, h1, ?_⟩
  by_cases hl : l = []
  · subst hl
    exact ⟨rfl, fun h => absurd h (by simp)⟩
  · refine (h2.touch ht (Nat.le_refl _) (fun ad had eb => ?_)).more ht.size
    have hp : 0 < l.length := List.length_pos_iff.2 hl
    obtain ⟨b, off, hA, _, hcell⟩ := h2.plain hp (by omega)
    rw [hA] at had
    injection had with had
    subst had
    obtain ⟨x, xs, rfl⟩ := List.exists_cons_of_ne_nil hl
    have h0 := hcell 0 (.int .u8 (x.toNat : Int)) rfl
    simp only [Nat.add_zero] at h0
    have e' : b = g := eb
    subst e'
    rw [hb.cell off] at h0
    obtain ⟨hlt, e⟩ := Array.getElem?_eq_some_iff.1 h0
    exact hc _ (by rw [← e]; exact Array.getElem_mem_toList _) _ rfl
theorem GivesP.of {w wr : World} {F : Nat → List UInt8} {l : Int} {b : Bool} {xb rb : Nat} {u0 u1 u2 u3 : Value} (hx : Ext w wr) (hR : Blk wr rb 35 #[.slice none 0 0, .slice none 0 0, .slice none 0 0, .slice none 0 0, .int .i64 0]) (hge : w.heap.size ≤ rb) (h0 : BBx wr xb u0 (F 0)) (h1 : BBx wr xb u1 (F 1)) (h2 : BBx wr xb u2 (F 2)) (h3 : BBx wr xb u3 (F 3)) :
    GivesP w F l b (.returned (.tuple #[.agg #[u0, u1, u2, u3, .int .i64 l], .bool b])) (((((wr.setCell ⟨rb, 0, none⟩ u0).setCell ⟨rb, 1, none⟩ u1).setCell ⟨rb, 2, none⟩ u2).setCell ⟨rb, 3, none⟩ u3).setCell ⟨rb, 4, none⟩ (.int .i64 l)) := by
  have ht := touch_set5 wr rb u0 u1 u2 u3 (.int .i64 l)
  have hc : ∀ (u : Value), u ∈ (#[.slice none 0 0, .slice none 0 0, .slice none 0 0, .slice none 0 0, .int .i64 0] : Array Value).toList → ∀ z, u ≠ .int .u8 z := by
    intro u hu z e
    simp only [List.mem_cons, List.not_mem_nil, or_false] at hu
    rcases hu with h | h | h | h | h <;> rw [h] at e <;> cases e
  exact ⟨u0, u1, u2, u3, rfl, h0.bb.far hR hc ht, h1.bb.far hR hc ht, h2.bb.far hR hc ht, h3.bb.far hR hc ht, Touch.ext hx ht hge⟩
theorem GivesP.no {c : Prop} [Decidable c] {w w' : World} {F f : Nat → List UInt8} {l ls : Int} {e : Ending} (h : ¬ c) (g : GivesP w f ls false e w') : GivesP w (if c then F else f) (if c then l else ls) (decide c) e w' := by
  rw [if_neg h, if_neg h, decide_eq_false h]; exact g
theorem GivesP.yes {c : Prop} [Decidable c] {w w' : World} {F f : Nat → List UInt8} {l ls : Int} {e : Ending} (h : c) (g : GivesP w F l true e w') : GivesP w (if c then F else f) (if c then l else ls) (decide c) e w' := by
  rw [if_pos h, if_pos h, decide_eq_true h]; exact g
theorem PgB.touch {w w' : World} {pb : Nat} {f : Nat → List UInt8} {ls n : Int} {g : Nat} (h : PgB w pb f ls n) (ht : Touch w w' (fun a => a = g)) (hg : g ≠ pb) (h0 : ∀ {v : Value} {l : List UInt8}, BBx w pb v l → BBx w' pb v l) : PgB w' pb f ls n := by
  obtain ⟨u0, u1, u2, u3, hb, q0, q1, q2, q3⟩ := h
  exact ⟨u0, u1, u2, u3, ht.blk hb (fun e => hg e.symm), h0 q0, h0 q1, h0 q2, h0 q3⟩
theorem PgB.lsn {w : World} {pb : Nat} {f : Nat → List UInt8} {ls n : Int} (h : PgB w pb f ls n) (x : Int) : PgB (w.setCell ⟨pb, 4, none⟩ (.int .i64 x)) pb f x n := by
  obtain ⟨u0, u1, u2, u3, hb, q0, q1, q2, q3⟩ := h
  have ht : Touch w (w.setCell ⟨pb, 4, none⟩ (.int .i64 x)) (fun a => a = pb) := Touch.setCell (F := fun a => a = pb) (p := ⟨pb, 4, none⟩) (Touch.refl w _) (fun _ => rfl) _
  have b1 := hb.set_ 4 (.int .i64 x)
  simp only [List.setIfInBounds_toArray, List.set_cons_zero, List.set_cons_succ] at b1
  exact ⟨u0, u1, u2, u3, b1, q0.touch ht, q1.touch ht, q2.touch ht, q3.touch ht⟩
end Go.Proofs.Ytaagdjipjeindaa
