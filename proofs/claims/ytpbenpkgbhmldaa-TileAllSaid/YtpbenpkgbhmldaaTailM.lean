/- A region that draws its order, with several stores at its end, one behind the other: the condition holds till the first store (number n) comes up; behind it what asks nothing of the world is taken when it is ready, and the other stores as they come. Over any program. -/
import Derived.Test.YtpbenpkgbhmldaaTailG
namespace Go.Proofs.Ytpbenpkgbhmldaa
open Go.ChangeShapes Go.WideShapes Go.ChangeAt Go.RowKit
set_option linter.unusedVariables false
section
variable {P : Program} {ops : Array Oper} {Q : Exit → Act → World → Prop} {md : Region.Mode} {S : World → Prop} {n : Nat}

/-- the first store -/
theorem GoG.store {f : Nat} {listed : Array Bool} {a : Act} {w : World} {o : Oper} (hr : Region.ready md ops listed = [n]) (ho : ops[n]? = some o)
    (h : ∀ K' : Act → World → Prop, Hid (∀ a w, GoG P md ops Q S n f (listed.setIfInBounds n true) a w → K' a w) → if Region.wanted o (yielded ops a.tmps) = true then Oper.wp P o a w K' Q else K' (a.put o.dst undef) w) : GoG P md ops Q S n (f + 1) listed a w := fun hg => by
  refine ⟨fun e => ?_, fun j hj => ?_⟩
  · rw [hr] at e; cases e
  · have hj' := hj
    rw [hr] at hj'
    have e : j = n := by simpa using hj'
    subst e
    exact wpOp_step ho (fun K' hK => h K' (fun a w hG => hK a w ⟨fun hlt => absurd rfl hlt, hG (hg.set hj)⟩))
/-- behind the first store: number i, which asks nothing of the world -/
theorem GoG.pure2 (i : Nat) (d : Option Tmp) {oi : Oper} {v : Value} {f : Nat} {listed : Array Bool} {a : Act} {w : World} (hl : listed.getD n false = true) (hi : ops[i]? = some oi) (hd : oi.dst = d) (hin : decide (i ≠ n) = true) (hf : Region.free md ops listed i = true) (hr : (Region.ready md ops listed).contains i = true)
    (hQ : ∀ c a w, Q (.panic c) (a.put oi.dst v) w → Q (.panic c) a w) (hy : YieldsIf P ops (fun _ => True) oi v a)
    (h : GoG P md ops Q S n f (listed.setIfInBounds i true) (a.put d v) w) : GoG P md ops Q S n (f + 1) listed a w := fun hg => by
  subst hd
  have hr' : i ∈ Region.ready md ops listed := by simpa using hr
  exact AnyG.pure hi (of_decide_eq_true hin) hQ f listed a w hg (Region.free_spec hi hf) hr' hy (fun h0 => by rw [hl] at h0; cases h0) (h (hg.set hr'))
/-- behind the first store: another one -/
theorem GoG.store2 (i : Nat) {f : Nat} {listed : Array Bool} {a : Act} {w : World} {o : Oper} (hl : listed.getD n false = true) (hr : Region.ready md ops listed = [i]) (ho : ops[i]? = some o)
    (h : ∀ K' : Act → World → Prop, Hid (∀ a w, GoG P md ops Q S n f (listed.setIfInBounds i true) a w → K' a w) → if Region.wanted o (yielded ops a.tmps) = true then Oper.wp P o a w K' Q else K' (a.put o.dst undef) w) : GoG P md ops Q S n (f + 1) listed a w := fun hg => by
  refine ⟨fun e => ?_, fun j hj => ?_⟩
  · rw [hr] at e; cases e
  · have hj' := hj
    rw [hr] at hj'
    have e : j = i := by simpa using hj'
    subst e
    exact wpOp_step ho (fun K' hK => h K' (fun a w hG => hK a w ⟨(fun _ h0 => by rw [hl] at h0; cases h0), hG (hg.set hj)⟩))
/-- the last one -/
theorem GoG.last2 (i : Nat) {listed : Array Bool} {a : Act} {w : World} {o : Oper} (hl : listed.getD n false = true) (hr : Region.ready md ops listed = [i]) (he : Region.ready md ops (listed.setIfInBounds i true) = []) (ho : ops[i]? = some o)
    (h : ∀ K' : Act → World → Prop, Hid (∀ a w, Q .normal a w → K' a w) → if Region.wanted o (yielded ops a.tmps) = true then Oper.wp P o a w K' Q else K' (a.put o.dst undef) w) : GoG P md ops Q S n 1 listed a w := fun _ => by
  refine ⟨fun e => ?_, fun j hj => ?_⟩
  · rw [hr] at e; cases e
  · rw [hr] at hj
    have e : j = i := by simpa using hj
    subst e
    exact wpOp_step ho (fun K' hK => h K' (fun a w hq => hK a w ⟨(fun _ h0 => by rw [hl] at h0; cases h0), he, hq⟩))
end
end Go.Proofs.Ytpbenpkgbhmldaa
