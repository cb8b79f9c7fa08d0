/- A region that draws its order: the operations behind number n, when all ahead of n have come up: those that ask nothing of the world one by one, then the last. Over any program. -/
import Derived.Test.YtaijgnhkdbdfcaaLast
namespace Go.Proofs.Ytaijgnhkdbdfcaa
open Go.ChangeShapes Go.WideShapes Go.ChangeAt Go.RowKit
set_option linter.unusedVariables false
section
variable {P : Program} {ops : Array Oper} {Q : Exit → Act → World → Prop} {md : Region.Mode} {S : World → Prop} {n : Nat}

theorem AnyF.firstP {i : Nat} {oi : Oper} {v : Value} (hi : ops[i]? = some oi) (hin : n ≤ i) (hsel : Region.noSelect ops = true) (hQ : ∀ c a w, Q (.panic c) (a.put oi.dst v) w → Q (.panic c) a w) :
    ∀ (f : Nat) (listed : Array Bool) (a : Act) (w : World),
      (∀ j oj, ops[j]? = some oj → j ≠ i → listed.getD j true = false → (∀ e ∈ oj.after, Region.binds md e = true → e.on ≠ i) → oi.apart ops oj = true) →
      i ∈ Region.ready md ops listed → YieldsIf P ops (fun _ => True) oi v a → AnyF P md ops Q S n f (listed.setIfInBounds i true) (a.put oi.dst v) w → AnyF P md ops Q S n (f + 1) listed a w := by
  intro f
  induction f with
  | zero =>
    intro listed a w _ hr hy H
    refine ⟨fun e => absurd hr (by rw [e]; exact List.not_mem_nil), fun j hj => ?_⟩
    rcases Decidable.em (j = i) with e | e
    · rw [e]; exact hy.wpOp hi trivial ⟨fun h => absurd h (by omega), H⟩
    · exact absurd (ready_mono hj e) (by rw [H.1]; exact List.not_mem_nil)
  | succ f ih =>
    intro listed a w hfree hr hy H
    refine ⟨fun e => absurd hr (by rw [e]; exact List.not_mem_nil), fun j hj => ?_⟩
    rcases Decidable.em (j = i) with e | e
    · rw [e]; exact hy.wpOp hi trivial ⟨fun h => absurd h (by omega), H⟩
    · obtain ⟨hun, oj, hoj, hall⟩ := mem_ready.1 hj
      have hiun := (mem_ready.1 hr).1
      have hno : ∀ e ∈ oj.after, Region.binds md e = true → e.on ≠ i := fun x hx hb he => by
        have := hall x hx hb
        rw [he, getD_both hiun] at this
        cases this
      have sel := Region.noSelect_spec hsel
      have step := wpOp_putIf hoj (hfree j oj hoj e hun hno) (fun cs b => sel i oi cs b hi) (fun cs b => sel j oj cs b hoj) hQ hy (H.2 j (ready_mono hj e))
      refine wpOp_mono (fun a' w' h3 => ⟨h3.2.1, ih (listed.setIfInBounds j true) a' w' (fun k ok hk hki hku hkn => ?_) (ready_mono hr (Ne.symm e)) h3.1 ?_⟩) step
      · rcases Decidable.em (j = k) with ejk | ejk
        · subst ejk
          exact hfree j ok hk hki hun hkn
        · rw [getD_set_ne true ejk] at hku
          exact hfree k ok hk hki hku hkn
      · rw [Array.setIfInBounds_comm _ _ e]
        exact h3.2.2
/-- number t of the tail waits for all of the head -/
def sinkT (md : Region.Mode) (ops : Array Oper) (n t : Nat) : Bool :=
  (List.range n).all fun i => (List.range ops.size).any fun j => decide (i < j) && (decide (j < n) || decide (j = t)) && Region.waitsFor md ops j i
def tailB (md : Region.Mode) (ops : Array Oper) (n : Nat) : Bool :=
  (List.range ops.size).all fun t => decide (t < n) || sinkT md ops n t || (decide (n < t) && Region.waitsFor md ops t (t - 1))
theorem tail_waits2 {listed : Array Bool} (ht : tailB md ops n = true) (inv : HeadInv md ops n listed) :
    ∀ (d i : Nat), n - i = d → i < n → listed.getD i true = false → ∀ t, n ≤ t → t ∉ Region.ready md ops listed := by
  intro d
  induction d using Nat.strongRecOn with
  | _ d ih =>
    intro i hd hi hun t htn hr
    obtain ⟨_, ot, hot, hall⟩ := mem_ready.1 hr
    have htlt : t < ops.size := (Array.getElem?_eq_some_iff.1 hot).1
    have h1 := List.all_eq_true.1 ht t (List.mem_range.2 htlt)
    simp only [Bool.or_eq_true, Bool.and_eq_true, decide_eq_true_eq] at h1
    rcases h1 with (h1 | h1) | ⟨h0, h1⟩
    · omega
    · have h2 := List.all_eq_true.1 h1 i (List.mem_range.2 hi)
      obtain ⟨j, hj, hj2⟩ := List.any_eq_true.1 h2
      simp only [Bool.and_eq_true, Bool.or_eq_true, decide_eq_true_eq] at hj2
      obtain ⟨oj, hoj, e, he, hb, hon⟩ := Region.waitsFor_spec hj2.2
      rcases hj2.1.2 with hjn | hjt
      · cases hl : listed.getD j false with
        | true =>
          have h2 := inv.closed j oj hoj hl e he hb
          rw [hon, getD_both hun] at h2
          cases h2
        | false =>
          have hjs : j < listed.size := by rw [inv.size]; exact List.mem_range.1 hj
          exact ih (n - j) (by omega) j rfl hjn (getD_in hjs hl) t htn hr
      · subst hjt
        have : oj = ot := Option.some.inj (hoj.symm.trans hot)
        subst this
        have h2 := hall e he hb
        rw [hon, getD_both hun] at h2
        cases h2
    · obtain ⟨o', ho', e, he, hb, hon⟩ := Region.waitsFor_spec h1
      have : o' = ot := Option.some.inj (ho'.symm.trans hot)
      subst this
      have h2 := hall e he hb
      rw [hon, getD_both (inv.tail (t - 1) (by omega) (by omega))] at h2
      cases h2
structure GoodT (md : Region.Mode) (ops : Array Oper) (n : Nat) (listed : Array Bool) : Prop where
  tl : tailB md ops n = true
  sel : Region.noSelect ops = true
  inv : HeadInv md ops n listed
theorem GoodT.set {i : Nat} {listed : Array Bool} (h : GoodT md ops n listed) (hi : i ∈ Region.ready md ops listed) (hin : i < n) : GoodT md ops n (listed.setIfInBounds i true) :=
  ⟨h.tl, h.sel, h.inv.set hi hin⟩
theorem GoodT.ahead {i : Nat} {listed : Array Bool} (h : GoodT md ops n listed) (hi : i ∈ Region.ready md ops listed) (hin : i < n) {j : Nat} (hj : j ∈ Region.ready md ops listed) : j < n := by
  rcases Nat.lt_or_ge j n with hlt | hge
  · exact hlt
  · exact absurd hj (tail_waits2 h.tl h.inv _ i rfl hin (mem_ready.1 hi).1 j hge)
theorem AnyF.firstT {i : Nat} {oi : Oper} {v : Value} (hi : ops[i]? = some oi) (hin : i < n) (hQ : ∀ c a w, Q (.panic c) (a.put oi.dst v) w → Q (.panic c) a w) :
    ∀ (f : Nat) (listed : Array Bool) (a : Act) (w : World), GoodT md ops n listed →
      (∀ j oj, ops[j]? = some oj → j ≠ i → listed.getD j true = false → (∀ e ∈ oj.after, Region.binds md e = true → e.on ≠ i) → oi.apart ops oj = true) →
      i ∈ Region.ready md ops listed → YieldsIf P ops S oi v a → S w → AnyF P md ops Q S n f (listed.setIfInBounds i true) (a.put oi.dst v) w → AnyF P md ops Q S n (f + 1) listed a w := by
  intro f
  induction f with
  | zero =>
    intro listed a w hg _ hr hy hS H
    refine ⟨fun e => absurd hr (by rw [e]; exact List.not_mem_nil), fun j hj => ?_⟩
    rcases Decidable.em (j = i) with e | e
    · rw [e]; exact hy.wpOp hi hS ⟨fun _ => hS, H⟩
    · exact absurd (ready_mono hj e) (by rw [H.1]; exact List.not_mem_nil)
  | succ f ih =>
    intro listed a w hg hfree hr hy hS H
    refine ⟨fun e => absurd hr (by rw [e]; exact List.not_mem_nil), fun j hj => ?_⟩
    rcases Decidable.em (j = i) with e | e
    · rw [e]; exact hy.wpOp hi hS ⟨fun _ => hS, H⟩
    · obtain ⟨hun, oj, hoj, hall⟩ := mem_ready.1 hj
      have hiun := (mem_ready.1 hr).1
      have hno : ∀ e ∈ oj.after, Region.binds md e = true → e.on ≠ i := fun x hx hb he => by
        have := hall x hx hb
        rw [he, getD_both hiun] at this
        cases this
      have hjn := hg.ahead hr hin hj
      have sel := Region.noSelect_spec hg.sel
      have step := wpOp_putIf hoj (hfree j oj hoj e hun hno) (fun cs b => sel i oi cs b hi) (fun cs b => sel j oj cs b hoj) hQ hy (H.2 j (ready_mono hj e))
      refine wpOp_mono (fun a' w' h3 => ⟨h3.2.1, ih (listed.setIfInBounds j true) a' w' (hg.set hj hjn) (fun k ok hk hki hku hkn => ?_) (ready_mono hr (Ne.symm e)) h3.1 (h3.2.1 hjn) ?_⟩) step
      · rcases Decidable.em (j = k) with ejk | ejk
        · subst ejk
          exact hfree j ok hk hki hun hkn
        · rw [getD_set_ne true ejk] at hku
          exact hfree k ok hk hki hku hkn
      · rw [Array.setIfInBounds_comm _ _ e]
        exact h3.2.2
/-- the head -/
def GoH (P : Program) (md : Region.Mode) (ops : Array Oper) (Q : Exit → Act → World → Prop) (S : World → Prop) (n : Nat) (f : Nat) (listed : Array Bool) (a : Act) (w : World) : Prop :=
  GoodT md ops n listed → AnyF P md ops Q S n f listed a w
theorem GoH.take (i : Nat) (d : Option Tmp) {oi : Oper} {v : Value} {f : Nat} {listed : Array Bool} {a : Act} {w : World} (hi : ops[i]? = some oi) (hd : oi.dst = d) (hin : decide (i < n) = true) (hf : Region.free md ops listed i = true) (hr : (Region.ready md ops listed).contains i = true)
    (hQ : ∀ c a w, Q (.panic c) (a.put oi.dst v) w → Q (.panic c) a w) (hy : YieldsIf P ops S oi v a) (hS : S w)
    (h : GoH P md ops Q S n f (listed.setIfInBounds i true) (a.put d v) w) : GoH P md ops Q S n (f + 1) listed a w := fun hg => by
  subst hd
  have hr' : i ∈ Region.ready md ops listed := by simpa using hr
  have hin' := of_decide_eq_true hin
  exact AnyF.firstT hi hin' hQ f listed a w hg (Region.free_spec hi hf) hr' hy hS (h (hg.set hr' hin'))
def EachH (P : Program) (md : Region.Mode) (ops : Array Oper) (Q : Exit → Act → World → Prop) (S : World → Prop) (n f : Nat) (listed : Array Bool) (a : Act) (w : World) (rs : List Nat) : Prop :=
  ∀ i ∈ rs, wpOp P ops Q i (fun a' w' => S w' ∧ GoH P md ops Q S n f (listed.setIfInBounds i true) a' w') a w
/-- whichever may come up now, of the head -/
theorem GoH.each {rs : List Nat} {f : Nat} {listed : Array Bool} {a : Act} {w : World} (hr : Region.ready md ops listed = rs) (hne : rs.isEmpty = false) (hlt : (rs.all fun i => decide (i < n)) = true)
    (h : EachH P md ops Q S n f listed a w rs) : GoH P md ops Q S n (f + 1) listed a w := fun hg => by
  refine ⟨fun e => ?_, fun i hi => ?_⟩
  · rw [hr] at e
    rw [e] at hne
    cases hne
  · have hi' := hi
    rw [hr] at hi'
    have hin := of_decide_eq_true (List.all_eq_true.1 hlt i hi')
    exact wpOp_mono (fun a' w' h' => ⟨fun _ => h'.1, h'.2 (hg.set hi hin)⟩) (h i hi')
theorem EachH.nil {f : Nat} {listed : Array Bool} {a : Act} {w : World} : EachH P md ops Q S n f listed a w [] := fun _ h => absurd h List.not_mem_nil
theorem EachH.cons {f : Nat} {listed : Array Bool} {a : Act} {w : World} {i : Nat} {o : Oper} {rs : List Nat} (ho : ops[i]? = some o)
    (h : ∀ K' : Act → World → Prop, Hid (∀ a w, S w → (S w → GoH P md ops Q S n f (listed.setIfInBounds i true) a w) → K' a w) → if Region.wanted o (yielded ops a.tmps) = true then Oper.wp P o a w K' Q else K' (a.put o.dst undef) w)
    (hs : EachH P md ops Q S n f listed a w rs) : EachH P md ops Q S n f listed a w (i :: rs) := fun j hj => by
  rcases List.mem_cons.1 hj with e | e
  · subst e
    exact wpOp_step ho (fun K' hK => h K' (fun a w hS hW => hK a w ⟨hS, hW hS⟩))
  · exact hs j e
/-- the beginning: a head of n operations -/
theorem wp_region_H (n : Nat) {id : Nat} {a : Act} {w : World} (hm : P.follows .mixedOrders = true) (hB : (tailB .any ops n && Region.noSelect ops) = true) (hS : S w.drew)
    (h : S w.drew → GoH P .any ops Q S n ops.size (Array.replicate ops.size false) a w.drew) : (Code.region id ops true).wp P Q a w := by
  simp only [Bool.and_eq_true] at hB
  obtain ⟨h1, h4⟩ := hB
  refine wp_region_any hm (any_of_F _ _ _ _ (h hS ⟨h1, h4, ⟨by simp, fun j oj _ hl => ?_, fun t _ ht => getD_in (by simpa using ht) (getD_replicate_false _ _)⟩⟩))
  rw [getD_replicate_false] at hl
  cases hl
/-- the tail -/
def GoT (P : Program) (md : Region.Mode) (ops : Array Oper) (Q : Exit → Act → World → Prop) (S : World → Prop) (n : Nat) (f : Nat) (listed : Array Bool) (a : Act) (w : World) : Prop := AnyF P md ops Q S n f listed a w
theorem GoH.tail {f : Nat} {listed : Array Bool} {a : Act} {w : World} (h : GoT P md ops Q S n f listed a w) : GoH P md ops Q S n f listed a w := fun _ => h
theorem GoT.take (i : Nat) (d : Option Tmp) {oi : Oper} {v : Value} {f : Nat} {listed : Array Bool} {a : Act} {w : World} (hi : ops[i]? = some oi) (hd : oi.dst = d) (hin : decide (n ≤ i) = true) (hsel : Region.noSelect ops = true) (hf : Region.free md ops listed i = true) (hr : (Region.ready md ops listed).contains i = true)
    (hQ : ∀ c a w, Q (.panic c) (a.put oi.dst v) w → Q (.panic c) a w) (hy : YieldsIf P ops (fun _ => True) oi v a)
    (h : GoT P md ops Q S n f (listed.setIfInBounds i true) (a.put d v) w) : GoT P md ops Q S n (f + 1) listed a w := by
  subst hd
  exact AnyF.firstP hi (of_decide_eq_true hin) hsel hQ f listed a w (Region.free_spec hi hf) (by simpa using hr) hy h
theorem GoT.last (i : Nat) {listed : Array Bool} {a : Act} {w : World} {o : Oper} (hr : Region.ready md ops listed = [i]) (hin : decide (n ≤ i) = true) (he : Region.ready md ops (listed.setIfInBounds i true) = []) (ho : ops[i]? = some o)
    (h : ∀ K' : Act → World → Prop, Hid (∀ a w, Q .normal a w → K' a w) → if Region.wanted o (yielded ops a.tmps) = true then Oper.wp P o a w K' Q else K' (a.put o.dst undef) w) : GoT P md ops Q S n 1 listed a w := by
  refine ⟨fun e => ?_, fun j hj => ?_⟩
  · rw [hr] at e; cases e
  · rw [hr] at hj
    have e : j = i := by simpa using hj
    subst e
    exact wpOp_step ho (fun K' hK => h K' (fun a w hq => hK a w ⟨fun hlt => absurd hlt (by have := of_decide_eq_true hin; omega), he, hq⟩))
/-- whichever may come up now, of the tail -/
def EachT (P : Program) (md : Region.Mode) (ops : Array Oper) (Q : Exit → Act → World → Prop) (S : World → Prop) (n f : Nat) (listed : Array Bool) (a : Act) (w : World) (rs : List Nat) : Prop :=
  ∀ i ∈ rs, wpOp P ops Q i (fun a' w' => GoT P md ops Q S n f (listed.setIfInBounds i true) a' w') a w
theorem GoT.each {rs : List Nat} {f : Nat} {listed : Array Bool} {a : Act} {w : World} (hr : Region.ready md ops listed = rs) (hne : rs.isEmpty = false) (hlt : (rs.all fun i => decide (n ≤ i)) = true)
    (h : EachT P md ops Q S n f listed a w rs) : GoT P md ops Q S n (f + 1) listed a w := by
  refine ⟨fun e => ?_, fun i hi => ?_⟩
  · rw [hr] at e
    rw [e] at hne
    cases hne
  · rw [hr] at hi
    have hin := of_decide_eq_true (List.all_eq_true.1 hlt i hi)
    exact wpOp_mono (fun a' w' h' => ⟨fun hh => absurd hh (by omega), h'⟩) (h i hi)
theorem EachT.nil {f : Nat} {listed : Array Bool} {a : Act} {w : World} : EachT P md ops Q S n f listed a w [] := fun _ h => absurd h List.not_mem_nil
theorem EachT.cons {f : Nat} {listed : Array Bool} {a : Act} {w : World} {i : Nat} {o : Oper} {rs : List Nat} (ho : ops[i]? = some o)
    (h : ∀ K' : Act → World → Prop, Hid (∀ a w, GoT P md ops Q S n f (listed.setIfInBounds i true) a w → K' a w) → if Region.wanted o (yielded ops a.tmps) = true then Oper.wp P o a w K' Q else K' (a.put o.dst undef) w)
    (hs : EachT P md ops Q S n f listed a w rs) : EachT P md ops Q S n f listed a w (i :: rs) := fun j hj => by
  rcases List.mem_cons.1 hj with e | e
  · subst e
    exact wpOp_step ho h
  · exact hs j e
end
end Go.Proofs.Ytaijgnhkdbdfcaa
