/- A region that draws its order, of loads, allocs, appends, and ONE STORE LAST, into a cell that it loads: every other operation comes ahead of that store, so a condition on the world has to hold only till then. Over any program. -/
import Derived.Test.YtpbenpkgbhmldaaKit
import Derived.StillTail
import Derived.OrdersHeld
import Derived.Deep.RegionHeld3
import Derived.RegionTactic
namespace Go.Proofs.Ytpbenpkgbhmldaa
open Go.ChangeShapes Go.WideShapes Go.ChangeAt Go.RowKit
set_option linter.unusedVariables false

section
variable {P : Program} {ops : Array Oper} {Q : Exit → Act → World → Prop} {md : Region.Mode} {S : World → Prop} {n : Nat}

/-- whatever order is picked; ahead of the last operation the condition holds -/
def AnyF (P : Program) (md : Region.Mode) (ops : Array Oper) (Q : Exit → Act → World → Prop) (S : World → Prop) (n : Nat) : Nat → Array Bool → Act → World → Prop
  | 0, listed, a, w => Region.ready md ops listed = [] ∧ Q .normal a w
  | f + 1, listed, a, w =>
    (Region.ready md ops listed = [] → Q .normal a w) ∧ ∀ i ∈ Region.ready md ops listed, wpOp P ops Q i (fun a' w' => (i < n → S w') ∧ AnyF P md ops Q S n f (listed.setIfInBounds i true) a' w') a w
theorem any_of_F : ∀ (f : Nat) (listed : Array Bool) (a : Act) (w : World), AnyF P md ops Q S n f listed a w → wpAny P md ops Q f listed a w
  | 0, _, _, _, h => h
  | f + 1, _, _, _, h => ⟨h.1, fun i hi => wpOp_mono (fun a' w' h' => any_of_F f _ a' w' h'.2) (h.2 i hi)⟩
/-- what holds of the region's text and of what has come up -/
structure Good (md : Region.Mode) (ops : Array Oper) (n : Nat) (listed : Array Bool) : Prop where
  sink : Region.sinkB md ops n = true
  chain : Region.chainB md ops n = true
  lt : n < ops.size
  sel : Region.noSelect ops = true
  inv : HeadInv md ops n listed
theorem Good.set {i : Nat} {listed : Array Bool} (h : Good md ops n listed) (hi : i ∈ Region.ready md ops listed) (hin : i < n) : Good md ops n (listed.setIfInBounds i true) :=
  ⟨h.sink, h.chain, h.lt, h.sel, h.inv.set hi hin⟩
theorem Good.ahead {i : Nat} {listed : Array Bool} (h : Good md ops n listed) (hi : i ∈ Region.ready md ops listed) (hin : i < n) {j : Nat} (hj : j ∈ Region.ready md ops listed) : j < n := by
  rcases Nat.lt_or_ge j n with hlt | hge
  · exact hlt
  · exact absurd hj (tail_waits h.sink h.chain h.lt h.inv _ i rfl hin (mem_ready.1 hi).1 j hge)
theorem AnyF.first {i : Nat} {oi : Oper} {v : Value} (hi : ops[i]? = some oi) (hin : i < n) (hQ : ∀ c a w, Q (.panic c) (a.put oi.dst v) w → Q (.panic c) a w) :
    ∀ (f : Nat) (listed : Array Bool) (a : Act) (w : World), Good md ops n listed →
      (∀ j oj, ops[j]? = some oj → j ≠ i → listed.getD j true = false → (∀ e ∈ oj.after, Region.binds md e = true → e.on ≠ i) → oi.apart ops oj = true) →
      i ∈ Region.ready md ops listed → YieldsIf P ops S oi v a → S w → AnyF P md ops Q S n f (listed.setIfInBounds i true) (a.put oi.dst v) w → AnyF P md ops Q S n (f + 1) listed a w := by
  intro f
  induction f with
  | zero =>
    intro listed a w hg _ hr hy hS H
    refine ⟨fun e => absurd hr (by rw [e]; exact List.not_mem_nil), fun j hj => ?_⟩
    rcases Decidable.em (j = i) with e | e
    · rw [e]; exact hy.wpOp hi hS ⟨fun _ => hS, H⟩
    · exact absurd (ready_mono hj e) (by rw [H.1]; exact List.not_mem_nil)
  | succ f ih =>
    intro listed a w hg hfree hr hy hS H
    refine ⟨fun e => absurd hr (by rw [e]; exact List.not_mem_nil), fun j hj => ?_⟩
    rcases Decidable.em (j = i) with e | e
    · rw [e]; exact hy.wpOp hi hS ⟨fun _ => hS, H⟩
    · obtain ⟨hun, oj, hoj, hall⟩ := mem_ready.1 hj
      have hiun := (mem_ready.1 hr).1
      have hno : ∀ e ∈ oj.after, Region.binds md e = true → e.on ≠ i := fun x hx hb he => by
        have := hall x hx hb
        rw [he, getD_both hiun] at this
        cases this
      have hjn := hg.ahead hr hin hj
      have sel := Region.noSelect_spec hg.sel
      have step := wpOp_putIf hoj (hfree j oj hoj e hun hno) (fun cs b => sel i oi cs b hi) (fun cs b => sel j oj cs b hoj) hQ hy (H.2 j (ready_mono hj e))
      refine wpOp_mono (fun a' w' h3 => ⟨h3.2.1, ih (listed.setIfInBounds j true) a' w' (hg.set hj hjn) (fun k ok hk hki hku hkn => ?_) (ready_mono hr (Ne.symm e)) h3.1 (h3.2.1 hjn) ?_⟩) step
      · rcases Decidable.em (j = k) with ejk | ejk
        · subst ejk
          exact hfree j ok hk hki hun hkn
        · rw [getD_set_ne true ejk] at hku
          exact hfree k ok hk hki hku hkn
      · rw [Array.setIfInBounds_comm _ _ e]
        exact h3.2.2

def GoF (P : Program) (md : Region.Mode) (ops : Array Oper) (Q : Exit → Act → World → Prop) (S : World → Prop) (n : Nat) (f : Nat) (listed : Array Bool) (a : Act) (w : World) : Prop :=
  Good md ops n listed → AnyF P md ops Q S n f listed a w
/-- number i is taken first -/
theorem GoF.take (i : Nat) (d : Option Tmp) {oi : Oper} {v : Value} {f : Nat} {listed : Array Bool} {a : Act} {w : World} (hi : ops[i]? = some oi) (hd : oi.dst = d) (hin : decide (i < n) = true) (hf : Region.free md ops listed i = true) (hr : (Region.ready md ops listed).contains i = true)
    (hQ : ∀ c a w, Q (.panic c) (a.put oi.dst v) w → Q (.panic c) a w) (hy : YieldsIf P ops S oi v a) (hS : S w)
    (h : GoF P md ops Q S n f (listed.setIfInBounds i true) (a.put d v) w) : GoF P md ops Q S n (f + 1) listed a w := fun hg => by
  subst hd
  have hr' : i ∈ Region.ready md ops listed := by simpa using hr
  have hin' := of_decide_eq_true hin
  exact AnyF.first hi hin' hQ f listed a w hg (Region.free_spec hi hf) hr' hy hS (h (hg.set hr' hin'))
def EachF (P : Program) (md : Region.Mode) (ops : Array Oper) (Q : Exit → Act → World → Prop) (S : World → Prop) (n f : Nat) (listed : Array Bool) (a : Act) (w : World) (rs : List Nat) : Prop :=
  ∀ i ∈ rs, wpOp P ops Q i (fun a' w' => S w' ∧ GoF P md ops Q S n f (listed.setIfInBounds i true) a' w') a w
/-- whichever may come up now -/
theorem GoF.each {rs : List Nat} {f : Nat} {listed : Array Bool} {a : Act} {w : World} (hr : Region.ready md ops listed = rs) (hne : rs.isEmpty = false) (hlt : (rs.all fun i => decide (i < n)) = true)
    (h : EachF P md ops Q S n f listed a w rs) : GoF P md ops Q S n (f + 1) listed a w := fun hg => by
  refine ⟨fun e => ?_, fun i hi => ?_⟩
  · rw [hr] at e
    rw [e] at hne
    cases hne
  · have hi' := hi
    rw [hr] at hi'
    have hin := of_decide_eq_true (List.all_eq_true.1 hlt i hi')
    exact wpOp_mono (fun a' w' h' => ⟨fun _ => h'.1, h'.2 (hg.set hi hin)⟩) (h i hi')
theorem EachF.nil {f : Nat} {listed : Array Bool} {a : Act} {w : World} : EachF P md ops Q S n f listed a w [] := fun _ h => absurd h List.not_mem_nil
theorem EachF.cons {f : Nat} {listed : Array Bool} {a : Act} {w : World} {i : Nat} {o : Oper} {rs : List Nat} (ho : ops[i]? = some o)
    (h : ∀ K' : Act → World → Prop, Hid (∀ a w, S w → (S w → GoF P md ops Q S n f (listed.setIfInBounds i true) a w) → K' a w) → if Region.wanted o (yielded ops a.tmps) = true then Oper.wp P o a w K' Q else K' (a.put o.dst undef) w)
    (hs : EachF P md ops Q S n f listed a w rs) : EachF P md ops Q S n f listed a w (i :: rs) := fun j hj => by
  rcases List.mem_cons.1 hj with e | e
  · subst e
    exact wpOp_step ho (fun K' hK => h K' (fun a w hS hW => hK a w ⟨hS, hW hS⟩))
  · exact hs j e
/-- the last one -/
theorem GoF.last {listed : Array Bool} {a : Act} {w : World} {o : Oper} (hr : Region.ready md ops listed = [n]) (he : Region.ready md ops (listed.setIfInBounds n true) = []) (ho : ops[n]? = some o)
    (h : ∀ K' : Act → World → Prop, Hid (∀ a w, Q .normal a w → K' a w) → if Region.wanted o (yielded ops a.tmps) = true then Oper.wp P o a w K' Q else K' (a.put o.dst undef) w) : GoF P md ops Q S n 1 listed a w := fun _ => by
  refine ⟨fun e => ?_, fun i hi => ?_⟩
  · rw [hr] at e; cases e
  · rw [hr] at hi
    have e : i = n := by simpa using hi
    subst e
    exact wpOp_step ho (fun K' hK => h K' (fun a w hq => hK a w ⟨fun hlt => absurd hlt (Nat.lt_irrefl _), he, hq⟩))
/-- the beginning -/
theorem wp_region_F (n : Nat) {id : Nat} {a : Act} {w : World} (hm : P.follows .mixedOrders = true) (hB : (Region.sinkB .any ops n && Region.chainB .any ops n && decide (n < ops.size) && Region.noSelect ops) = true) (hS : S w.drew)
    (h : S w.drew → GoF P .any ops Q S n ops.size (Array.replicate ops.size false) a w.drew) : (Code.region id ops true).wp P Q a w := by
  simp only [Bool.and_eq_true, decide_eq_true_eq] at hB
  obtain ⟨⟨⟨h1, h2⟩, h3⟩, h4⟩ := hB
  refine wp_region_any hm (any_of_F _ _ _ _ (h hS ⟨h1, h2, h3, h4, ⟨by simp, fun j oj _ hl => ?_, fun t _ ht => getD_in (by simpa using ht) (getD_replicate_false _ _)⟩⟩))
  rw [getD_replicate_false] at hl
  cases hl
end
end Go.Proofs.Ytpbenpkgbhmldaa
