/- A region that draws its order, with one store: a condition on the world holds till that store (number n) comes up; what the store waits for is taken one by one under it; what asks nothing of the world may be taken whenever it is ready; the store comes last. Over any program. -/
import Derived.Test.YtpbenpkgbhmldaaLast
namespace Go.Proofs.Ytpbenpkgbhmldaa
open Go.ChangeShapes Go.WideShapes Go.ChangeAt Go.RowKit
set_option linter.unusedVariables false
section
variable {P : Program} {ops : Array Oper} {Q : Exit → Act → World → Prop} {md : Region.Mode} {S : World → Prop} {n : Nat}

/-- whatever order is picked; till number n has come up the condition holds -/
def AnyG (P : Program) (md : Region.Mode) (ops : Array Oper) (Q : Exit → Act → World → Prop) (S : World → Prop) (n : Nat) : Nat → Array Bool → Act → World → Prop
  | 0, listed, a, w => Region.ready md ops listed = [] ∧ Q .normal a w
  | f + 1, listed, a, w =>
    (Region.ready md ops listed = [] → Q .normal a w) ∧ ∀ i ∈ Region.ready md ops listed, wpOp P ops Q i (fun a' w' => (i ≠ n → listed.getD n false = false → S w') ∧ AnyG P md ops Q S n f (listed.setIfInBounds i true) a' w') a w
theorem any_of_G : ∀ (f : Nat) (listed : Array Bool) (a : Act) (w : World), AnyG P md ops Q S n f listed a w → wpAny P md ops Q f listed a w
  | 0, _, _, _, h => h
  | f + 1, _, _, _, h => ⟨h.1, fun i hi => wpOp_mono (fun a' w' h' => any_of_G f _ a' w' h'.2) (h.2 i hi)⟩
/-- number n waits for number i, by whatever steps -/
def ancB (md : Region.Mode) (ops : Array Oper) (n : Nat) : Nat → Nat → Bool
  | 0, _ => false
  | f + 1, i => (List.range ops.size).any fun j => Region.waitsFor md ops j i && (decide (j = n) || ancB md ops n f j)
structure InvG (md : Region.Mode) (ops : Array Oper) (listed : Array Bool) : Prop where
  size : listed.size = ops.size
  closed : ∀ j oj, ops[j]? = some oj → listed.getD j false = true → ∀ e ∈ oj.after, Region.binds md e = true → listed.getD e.on false = true
theorem InvG.set {i : Nat} {listed : Array Bool} (inv : InvG md ops listed) (hi : i ∈ Region.ready md ops listed) : InvG md ops (listed.setIfInBounds i true) := by
  obtain ⟨_, oi, hoi, hall⟩ := mem_ready.1 hi
  refine ⟨by simp [inv.size], fun j oj hj hl e he hb => ?_⟩
  by_cases hij : i = j
  · subst hij
    have : oj = oi := Option.some.inj (hj.symm.trans hoi)
    subst this
    exact getD_set_true (hall e he hb)
  · rw [getD_set_ne false hij] at hl
    exact getD_set_true (inv.closed j oj hj hl e he hb)
theorem anc_unlisted {listed : Array Bool} (inv : InvG md ops listed) : ∀ (f i : Nat), ancB md ops n f i = true → listed.getD i false = false → listed.getD n false = false ∧ n ∉ Region.ready md ops listed
  | 0, _, h, _ => by cases h
  | f + 1, i, h, hun => by
    obtain ⟨j, hj, hj2⟩ := List.any_eq_true.1 h
    simp only [Bool.and_eq_true, Bool.or_eq_true, decide_eq_true_eq] at hj2
    obtain ⟨oj, hoj, e, he, hb, hon⟩ := Region.waitsFor_spec hj2.1
    have hju : listed.getD j false = false := by
      cases hl : listed.getD j false with
      | false => rfl
      | true =>
        have h2 := inv.closed j oj hoj hl e he hb
        rw [hon, hun] at h2
        cases h2
    rcases hj2.2 with hjn | hja
    · subst hjn
      refine ⟨hju, fun hr => ?_⟩
      obtain ⟨_, ot, hot, hall⟩ := mem_ready.1 hr
      have : oj = ot := Option.some.inj (hoj.symm.trans hot)
      subst this
      have h2 := hall e he hb
      rw [hon, hun] at h2
      cases h2
    · exact anc_unlisted inv f j hja hju
structure GoodG (md : Region.Mode) (ops : Array Oper) (n : Nat) (listed : Array Bool) : Prop where
  lt : n < ops.size
  sel : Region.noSelect ops = true
  inv : InvG md ops listed
theorem GoodG.set {i : Nat} {listed : Array Bool} (h : GoodG md ops n listed) (hi : i ∈ Region.ready md ops listed) : GoodG md ops n (listed.setIfInBounds i true) := ⟨h.lt, h.sel, h.inv.set hi⟩
theorem AnyG.first {i k : Nat} {oi : Oper} {v : Value} (hi : ops[i]? = some oi) (ha : ancB md ops n k i = true) (hQ : ∀ c a w, Q (.panic c) (a.put oi.dst v) w → Q (.panic c) a w) :
    ∀ (f : Nat) (listed : Array Bool) (a : Act) (w : World), GoodG md ops n listed →
      (∀ j oj, ops[j]? = some oj → j ≠ i → listed.getD j true = false → (∀ e ∈ oj.after, Region.binds md e = true → e.on ≠ i) → oi.apart ops oj = true) →
      i ∈ Region.ready md ops listed → YieldsIf P ops S oi v a → S w → AnyG P md ops Q S n f (listed.setIfInBounds i true) (a.put oi.dst v) w → AnyG P md ops Q S n (f + 1) listed a w := by
  intro f
  induction f with
  | zero =>
    intro listed a w hg _ hr hy hS H
    refine ⟨fun e => absurd hr (by rw [e]; exact List.not_mem_nil), fun j hj => ?_⟩
    rcases Decidable.em (j = i) with e | e
    · rw [e]; exact hy.wpOp hi hS ⟨fun _ _ => hS, H⟩
    · exact absurd (ready_mono hj e) (by rw [H.1]; exact List.not_mem_nil)
  | succ f ih =>
    intro listed a w hg hfree hr hy hS H
    refine ⟨fun e => absurd hr (by rw [e]; exact List.not_mem_nil), fun j hj => ?_⟩
    rcases Decidable.em (j = i) with e | e
    · rw [e]; exact hy.wpOp hi hS ⟨fun _ _ => hS, H⟩
    · obtain ⟨hun, oj, hoj, hall⟩ := mem_ready.1 hj
      have hiun := (mem_ready.1 hr).1
      have hno : ∀ e ∈ oj.after, Region.binds md e = true → e.on ≠ i := fun x hx hb he => by
        have := hall x hx hb
        rw [he, getD_both hiun] at this
        cases this
      obtain ⟨hnu, hnr⟩ := anc_unlisted hg.inv k i ha (getD_both hiun)
      have hjn : j ≠ n := fun e => hnr (e ▸ hj)
      have hnu2 : (listed.setIfInBounds i true).getD n false = false := by
        rw [getD_set_ne false (fun e => hnr (by rw [← e]; exact hr))]; exact hnu
      have sel := Region.noSelect_spec hg.sel
      have step := wpOp_putIf hoj (hfree j oj hoj e hun hno) (fun cs b => sel i oi cs b hi) (fun cs b => sel j oj cs b hoj) hQ hy (H.2 j (ready_mono hj e))
      refine wpOp_mono (fun a' w' h3 => ⟨fun _ _ => h3.2.1 hjn hnu2, ih (listed.setIfInBounds j true) a' w' (hg.set hj) (fun k ok hk hki hku hkn => ?_) (ready_mono hr (Ne.symm e)) h3.1 (h3.2.1 hjn hnu2) ?_⟩) step
      · rcases Decidable.em (j = k) with ejk | ejk
        · subst ejk
          exact hfree j ok hk hki hun hkn
        · rw [getD_set_ne true ejk] at hku
          exact hfree k ok hk hki hku hkn
      · rw [Array.setIfInBounds_comm _ _ e]
        exact h3.2.2
theorem AnyG.pure {i : Nat} {oi : Oper} {v : Value} (hi : ops[i]? = some oi) (hin : i ≠ n) (hQ : ∀ c a w, Q (.panic c) (a.put oi.dst v) w → Q (.panic c) a w) :
    ∀ (f : Nat) (listed : Array Bool) (a : Act) (w : World), GoodG md ops n listed →
      (∀ j oj, ops[j]? = some oj → j ≠ i → listed.getD j true = false → (∀ e ∈ oj.after, Region.binds md e = true → e.on ≠ i) → oi.apart ops oj = true) →
      i ∈ Region.ready md ops listed → YieldsIf P ops (fun _ => True) oi v a → (listed.getD n false = false → S w) → AnyG P md ops Q S n f (listed.setIfInBounds i true) (a.put oi.dst v) w → AnyG P md ops Q S n (f + 1) listed a w := by
  intro f
  induction f with
  | zero =>
    intro listed a w hg _ hr hy hS H
    refine ⟨fun e => absurd hr (by rw [e]; exact List.not_mem_nil), fun j hj => ?_⟩
    rcases Decidable.em (j = i) with e | e
    · rw [e]; exact hy.wpOp hi trivial ⟨fun _ h => hS h, H⟩
    · exact absurd (ready_mono hj e) (by rw [H.1]; exact List.not_mem_nil)
  | succ f ih =>
    intro listed a w hg hfree hr hy hS H
    refine ⟨fun e => absurd hr (by rw [e]; exact List.not_mem_nil), fun j hj => ?_⟩
    rcases Decidable.em (j = i) with e | e
    · rw [e]; exact hy.wpOp hi trivial ⟨fun _ h => hS h, H⟩
    · obtain ⟨hun, oj, hoj, hall⟩ := mem_ready.1 hj
      have hiun := (mem_ready.1 hr).1
      have hno : ∀ e ∈ oj.after, Region.binds md e = true → e.on ≠ i := fun x hx hb he => by
        have := hall x hx hb
        rw [he, getD_both hiun] at this
        cases this
      have sel := Region.noSelect_spec hg.sel
      have step := wpOp_putIf hoj (hfree j oj hoj e hun hno) (fun cs b => sel i oi cs b hi) (fun cs b => sel j oj cs b hoj) hQ hy (H.2 j (ready_mono hj e))
      refine wpOp_mono (fun a' w' h3 => ⟨fun hjn hl => h3.2.1 hjn (by rw [getD_set_ne false hin]; exact hl), ih (listed.setIfInBounds j true) a' w' (hg.set hj) (fun k ok hk hki hku hkn => ?_) (ready_mono hr (Ne.symm e)) h3.1 (fun hl => ?_) ?_⟩) step
      · rcases Decidable.em (j = k) with ejk | ejk
        · subst ejk
          exact hfree j ok hk hki hun hkn
        · rw [getD_set_ne true ejk] at hku
          exact hfree k ok hk hki hku hkn
      · rcases Decidable.em (j = n) with ejn | ejn
        · subst ejn
          have hlt : j < listed.size := by rw [hg.inv.size]; exact hg.lt
          rw [show (listed.setIfInBounds j true).getD j false = true by simp [hlt]] at hl
          cases hl
        · rw [getD_set_ne false ejn] at hl
          exact h3.2.1 ejn (by rw [getD_set_ne false hin]; exact hl)
      · rw [Array.setIfInBounds_comm _ _ e]
        exact h3.2.2
/-- the walk of such a region -/
def GoG (P : Program) (md : Region.Mode) (ops : Array Oper) (Q : Exit → Act → World → Prop) (S : World → Prop) (n : Nat) (f : Nat) (listed : Array Bool) (a : Act) (w : World) : Prop :=
  GoodG md ops n listed → AnyG P md ops Q S n f listed a w
/-- number i, which the store waits for, is taken first -/
theorem GoG.take (i k : Nat) (d : Option Tmp) {oi : Oper} {v : Value} {f : Nat} {listed : Array Bool} {a : Act} {w : World} (hi : ops[i]? = some oi) (hd : oi.dst = d) (ha : ancB md ops n k i = true) (hf : Region.free md ops listed i = true) (hr : (Region.ready md ops listed).contains i = true)
    (hQ : ∀ c a w, Q (.panic c) (a.put oi.dst v) w → Q (.panic c) a w) (hy : YieldsIf P ops S oi v a) (hS : S w)
    (h : GoG P md ops Q S n f (listed.setIfInBounds i true) (a.put d v) w) : GoG P md ops Q S n (f + 1) listed a w := fun hg => by
  subst hd
  have hr' : i ∈ Region.ready md ops listed := by simpa using hr
  exact AnyG.first hi ha hQ f listed a w hg (Region.free_spec hi hf) hr' hy hS (h (hg.set hr'))
/-- number i, which asks nothing of the world, is taken first -/
theorem GoG.pure (i : Nat) (d : Option Tmp) {oi : Oper} {v : Value} {f : Nat} {listed : Array Bool} {a : Act} {w : World} (hi : ops[i]? = some oi) (hd : oi.dst = d) (hin : decide (i ≠ n) = true) (hf : Region.free md ops listed i = true) (hr : (Region.ready md ops listed).contains i = true)
    (hQ : ∀ c a w, Q (.panic c) (a.put oi.dst v) w → Q (.panic c) a w) (hy : YieldsIf P ops (fun _ => True) oi v a) (hS : S w)
    (h : GoG P md ops Q S n f (listed.setIfInBounds i true) (a.put d v) w) : GoG P md ops Q S n (f + 1) listed a w := fun hg => by
  subst hd
  have hr' : i ∈ Region.ready md ops listed := by simpa using hr
  exact AnyG.pure hi (of_decide_eq_true hin) hQ f listed a w hg (Region.free_spec hi hf) hr' hy (fun _ => hS) (h (hg.set hr'))
def EachG (P : Program) (md : Region.Mode) (ops : Array Oper) (Q : Exit → Act → World → Prop) (S : World → Prop) (n f : Nat) (listed : Array Bool) (a : Act) (w : World) (rs : List Nat) : Prop :=
  ∀ i ∈ rs, wpOp P ops Q i (fun a' w' => S w' ∧ GoG P md ops Q S n f (listed.setIfInBounds i true) a' w') a w
/-- whichever may come up now -/
theorem GoG.each {rs : List Nat} {f : Nat} {listed : Array Bool} {a : Act} {w : World} (hr : Region.ready md ops listed = rs) (hne : rs.isEmpty = false)
    (h : EachG P md ops Q S n f listed a w rs) : GoG P md ops Q S n (f + 1) listed a w := fun hg => by
  refine ⟨fun e => ?_, fun i hi => ?_⟩
  · rw [hr] at e
    rw [e] at hne
    cases hne
  · have hi' := hi
    rw [hr] at hi'
    exact wpOp_mono (fun a' w' h' => ⟨fun _ _ => h'.1, h'.2 (hg.set hi)⟩) (h i hi')
theorem EachG.nil {f : Nat} {listed : Array Bool} {a : Act} {w : World} : EachG P md ops Q S n f listed a w [] := fun _ h => absurd h List.not_mem_nil
theorem EachG.cons {f : Nat} {listed : Array Bool} {a : Act} {w : World} {i : Nat} {o : Oper} {rs : List Nat} (ho : ops[i]? = some o)
    (h : ∀ K' : Act → World → Prop, Hid (∀ a w, S w → (S w → GoG P md ops Q S n f (listed.setIfInBounds i true) a w) → K' a w) → if Region.wanted o (yielded ops a.tmps) = true then Oper.wp P o a w K' Q else K' (a.put o.dst undef) w)
    (hs : EachG P md ops Q S n f listed a w rs) : EachG P md ops Q S n f listed a w (i :: rs) := fun j hj => by
  rcases List.mem_cons.1 hj with e | e
  · subst e
    exact wpOp_step ho (fun K' hK => h K' (fun a w hS hW => hK a w ⟨hS, hW hS⟩))
  · exact hs j e
/-- the store, last -/
theorem GoG.last {listed : Array Bool} {a : Act} {w : World} {o : Oper} (hr : Region.ready md ops listed = [n]) (he : Region.ready md ops (listed.setIfInBounds n true) = []) (ho : ops[n]? = some o)
    (h : ∀ K' : Act → World → Prop, Hid (∀ a w, Q .normal a w → K' a w) → if Region.wanted o (yielded ops a.tmps) = true then Oper.wp P o a w K' Q else K' (a.put o.dst undef) w) : GoG P md ops Q S n 1 listed a w := fun _ => by
  refine ⟨fun e => ?_, fun j hj => ?_⟩
  · rw [hr] at e; cases e
  · rw [hr] at hj
    have e : j = n := by simpa using hj
    subst e
    exact wpOp_step ho (fun K' hK => h K' (fun a w hq => hK a w ⟨fun hlt => absurd rfl hlt, he, hq⟩))
/-- the beginning -/
theorem wp_region_G (n : Nat) {id : Nat} {a : Act} {w : World} (hm : P.follows .mixedOrders = true) (hB : (decide (n < ops.size) && Region.noSelect ops) = true) (hS : S w.drew)
    (h : S w.drew → GoG P .any ops Q S n ops.size (Array.replicate ops.size false) a w.drew) : (Code.region id ops true).wp P Q a w := by
  simp only [Bool.and_eq_true, decide_eq_true_eq] at hB
  obtain ⟨h1, h4⟩ := hB
  refine wp_region_any hm (any_of_G _ _ _ _ (h hS ⟨h1, h4, ⟨by simp, fun j oj _ hl => ?_⟩⟩))
  rw [getD_replicate_false] at hl
  cases hl
end
end Go.Proofs.Ytpbenpkgbhmldaa
