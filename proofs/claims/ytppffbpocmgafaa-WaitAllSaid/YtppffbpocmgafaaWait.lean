/- Wait: sets of numbers and tables of sets, in memory; the keys of a set, rising. -/
import Derived.Test.YtppffbpocmgafaaKit
import Derived.Test.YtppffbpocmgafaaShelf
import Derived.WalkLawsBesides
import Derived.WalkSpells
import Derived.LoopTactic
import Derived.Maps.Own
import Derived.Maps.OwnOps
import Derived.Maps.OwnSet
import Derived.Deep.Onto
import Derived.Lib.SlKeysI
namespace Go.Proofs.Ytppffbpocmgafaa
open Go.ChangeShapes Go.WideShapes Go.ChangeAt Go.RowKit Go.Maps
set_option linter.unusedVariables false

def iv (l : List Int) : List Value := l.map (Value.int .i64)
def K (x : Int) : Lit := .int .i64 x
def Wf (x : Int) : Prop := (Lit.int .i64 x).wf = true
theorem isKey (x : Int) : WideAt.IsKeyLit (K x) := by simp [K, WideAt.IsKeyLit]
theorem keyed3 : Keyed Try.prog 3 := int_keyed Try.underlying3
theorem key_at {x : Int} (h : Wf x) : keyOf Try.prog 3 (.int .i64 x) = some (K x) := keyOf_int_mk Try.underlying3 h
theorem key_ne {x y : Int} (h : y ≠ x) : K y ≠ K x := fun e => h (by injection e)
theorem zero4 (w : World) : (zeroValue 4).run Try.prog w = .ok (.bool false) w := by kernel_rfl
theorem zero51 (w : World) : (zeroValue 51).run Try.prog w = .ok (.map none) w := by kernel_rfl
theorem ownsMap_touch {w w1 : World} {F : Nat → Prop} {H : Type} {P : Program} {k : TypeId} {R : Value → Option (DataW H × List MemPlace)} {b n : Nat} {D : DataW H} (h : w.ownsMap P k R b n D) (ht : Touch w w1 F) (hb : ¬ F b) : w1.ownsMap P k R b n D := by
  have hl := h.lt
  obtain ⟨es, clock, hh, r⟩ := h
  exact ⟨es, clock, (ht.block b hl hb).trans hh, r⟩

/-- a set of numbers in block b: at most n of them -/
def SetAt (w : World) (b n : Nat) (s : Int → Bool) : Prop :=
  ∃ D : DataW Unit, w.ownsMap Try.prog 3 (plainElem Try.prog 4) b n D ∧ ∀ x, Maps.has D (K x) = s x ∧ D.atKey (K x) (.lit (.bool false)) = .lit (.bool (s x))
theorem plain_bool_inv {v : Value} {z : DataW Unit × List MemPlace} (h : plainElem Try.prog 4 v = some z) : ∃ x, v = .bool x ∧ z = (.lit (.bool x), []) := by
  unfold plainElem at h
  rw [Try.underlying4] at h
  cases v <;> simp at h
  exact ⟨_, rfl, h.symm⟩
section
variable {w w1 : World} {b n : Nat} {s : Int → Bool} {F : Nat → Prop}
theorem SetAt.lt (h : SetAt w b n s) : b < w.heap.size := by obtain ⟨D, h, _⟩ := h; exact h.lt
theorem SetAt.touch (h : SetAt w b n s) (ht : Touch w w1 F) (hb : ¬ F b) : SetAt w1 b n s := by obtain ⟨D, h, r⟩ := h; exact ⟨D, ownsMap_touch h ht hb, r⟩
theorem SetAt.ext (h : SetAt w b n s) (he : Ext w w1) : SetAt w1 b n s := h.touch (Touch.of_below he (fun _ => False)) (fun h => h)
theorem SetAt.new (w : World) : SetAt (w.alloc (.map #[] 0)) w.heap.size 0 (fun _ => false) := ⟨_, World.ownsMap_made w _ _ _, fun x => ⟨rfl, rfl⟩⟩
theorem SetAt.more (h : SetAt w b n s) {m : Nat} (hm : n ≤ m) : SetAt w b m s := by obtain ⟨D, h, r⟩ := h; exact ⟨D, h.mono hm, r⟩
theorem SetAt.look (h : SetAt w b n s) {x : Int} (hx : Wf x) : (Instr.lookup 51 (.map (some b)) (.int .i64 x) false).run Try.prog w = .ok (.bool (s x)) w := by
  obtain ⟨D, h, r⟩ := h
  obtain ⟨v, ps, hrun, hv⟩ := h.lookup keyed3 Try.underlying51 (zero4 w) (plainElem_bool Try.underlying4 false) (key_at hx)
  obtain ⟨y, rfl, hy⟩ := plain_bool_inv hv
  rw [(r x).2] at hy
  simp at hy
  rw [hrun, hy.1]
def put (s : Int → Bool) (x : Int) : Int → Bool := fun y => if y = x then true else s y
theorem SetAt.put_ {D : DataW Unit} (r : ∀ x, Maps.has D (K x) = s x ∧ D.atKey (K x) (.lit (.bool false)) = .lit (.bool (s x))) (hD : IsMap D) (x : Int) :
    ∀ y, Maps.has (D.put (K x) (.lit (.bool true))) (K y) = put s x y ∧ (D.put (K x) (.lit (.bool true))).atKey (K y) (.lit (.bool false)) = .lit (.bool (put s x y)) := fun y => by
  unfold put
  by_cases e : y = x
  · subst e
    rw [if_pos rfl, has_put_same hD (isKey y), atKey_put_same hD (isKey y)]
    exact ⟨rfl, rfl⟩
  · rw [if_neg e, has_put_other (key_ne e), atKey_put_other (key_ne e)]
    exact r y
theorem SetAt.store {ops : Array Oper} {rest : List Oper} {o : Oper} {a : Act} {Q : Exit → Act → World → Prop} (hg : o.guard = none) (m x v : Operand) (hop : o.op = Op.mapUpdate 51 m x v)
    (hm : a.eval m = .map (some b)) (h : SetAt w b n s) (hn : n < maxLen) (y : Int) (hx : a.eval x = .int .i64 y) (hv : a.eval v = .bool true) (hy : Wf y)
    (hK : ∀ w', SetAt w' b (n + 1) (put s y) → Touch w w' (fun k => k = b) → wpList Try.prog ops Q rest (a.put o.dst undef) w') : wpList Try.prog ops Q (o :: rest) a w := by
  obtain ⟨D, h, r⟩ := h
  refine wpList_mapUpdate_own w hg m x v 51 hop 3 4 keyed3 Try.underlying51 (plainElem Try.prog 4) b n D hm h hn _ _ (K y) hx hv (key_at hy) (.lit (.bool true)) [] (plainElem_bool Try.underlying4 true) fun w' h' hgr => ?_
  exact hK w' ⟨_, h', SetAt.put_ r h.isMap y⟩ ((Touch.refl w _).grown hgr (fun k e _ => by injection e with e; exact e.symm))
def cut (s : Int → Bool) (x : Int) : Int → Bool := fun y => if y = x then false else s y
theorem SetAt.delete {ops : Array Oper} {rest : List Oper} {o : Oper} {a : Act} {Q : Exit → Act → World → Prop} (hg : o.guard = none) (m x : Operand) (hop : o.op = Op.call { callee := Callee.builtin Builtin.delete, args := #[m, x], argTypes := #[51, 3] })
    (hm : a.eval m = .map (some b)) (h : SetAt w b n s) (y : Int) (hx : a.eval x = .int .i64 y) (hy : Wf y)
    (hK : ∀ w', SetAt w' b n (cut s y) → Touch w w' (fun k => k = b) → wpList Try.prog ops Q rest (a.put o.dst (.tuple #[])) w') : wpList Try.prog ops Q (o :: rest) a w := by
  obtain ⟨D, h, r⟩ := h
  refine wpList_delete_own w hg m x 51 3 hop 4 keyed3 Try.underlying51 (plainElem Try.prog 4) b n D hm h _ (K y) hx (key_at hy) fun w' h' hgr => ?_
  refine hK w' ⟨_, h', fun z => ?_⟩ ((Touch.refl w _).grown hgr.grown (fun k e _ => by injection e with e; exact e.symm))
  unfold cut
  by_cases e : z = y
  · subst e
    rw [if_pos rfl, has_del_same, atKey_del_same]
    exact ⟨rfl, rfl⟩
  · rw [if_neg e, has_del_other (key_ne e), atKey_del_other (key_ne e)]
    exact r z
end

/-- how the block of a set stands in a table -/
def code : Value → Option (DataW Unit × List MemPlace)
  | .map none => some (.lit (.int .i64 (-1)), [])
  | .map (some b) => some (.lit (.int .i64 (b : Nat)), [])
  | _ => none
def codeOf : Option Nat → DataW Unit
  | none => .lit (.int .i64 (-1))
  | some b => .lit (.int .i64 (b : Nat))
theorem codeOf_inj {a b : Option Nat} (h : codeOf a = codeOf b) : a = b := by
  cases a <;> cases b <;> simp [codeOf] at h <;> first | rfl | omega | (congr 1; omega)
theorem code_inv {v : Value} {z : DataW Unit × List MemPlace} (h : code v = some z) : ∃ o, v = .map o ∧ z = (codeOf o, []) := by
  unfold code at h
  split at h
  · exact ⟨none, rfl, by injection h with h; exact h.symm⟩
  · exact ⟨some _, rfl, by injection h with h; exact h.symm⟩
  · cases h
theorem code_mk (o : Option Nat) : code (.map o) = some (codeOf o, []) := by cases o <;> rfl
/-- a table of sets in block m: whose set lies where -/
def OutAt (w : World) (m n : Nat) (f : Int → Option Nat) : Prop :=
  ∃ D : DataW Unit, w.ownsMap Try.prog 3 code m n D ∧ ∀ x, D.atKey (K x) (codeOf none) = codeOf (f x)
section
variable {w w1 : World} {m n : Nat} {f : Int → Option Nat} {F : Nat → Prop}
theorem OutAt.lt (h : OutAt w m n f) : m < w.heap.size := by obtain ⟨D, h, _⟩ := h; exact h.lt
theorem OutAt.touch (h : OutAt w m n f) (ht : Touch w w1 F) (hb : ¬ F m) : OutAt w1 m n f := by obtain ⟨D, h, r⟩ := h; exact ⟨D, ownsMap_touch h ht hb, r⟩
theorem OutAt.new (w : World) : OutAt (w.alloc (.map #[] 0)) w.heap.size 0 (fun _ => none) := ⟨_, World.ownsMap_made w _ _ _, fun x => rfl⟩
theorem OutAt.look (h : OutAt w m n f) {x : Int} (hx : Wf x) : (Instr.lookup 48 (.map (some m)) (.int .i64 x) false).run Try.prog w = .ok (.map (f x)) w := by
  obtain ⟨D, h, r⟩ := h
  obtain ⟨v, ps, hrun, hv⟩ := h.lookup keyed3 Try.underlying48 (zero51 w) (code_mk none) (key_at hx)
  obtain ⟨o, rfl, ho⟩ := code_inv hv
  rw [r x] at ho
  simp at ho
  rw [hrun, codeOf_inj ho.1]
def putO (f : Int → Option Nat) (x : Int) (b : Nat) : Int → Option Nat := fun y => if y = x then some b else f y
theorem OutAt.store {ops : Array Oper} {rest : List Oper} {o : Oper} {a : Act} {Q : Exit → Act → World → Prop} (hg : o.guard = none) (mm x v : Operand) (hop : o.op = Op.mapUpdate 48 mm x v)
    (hm : a.eval mm = .map (some m)) (h : OutAt w m n f) (hn : n < maxLen) (y : Int) (b : Nat) (hx : a.eval x = .int .i64 y) (hv : a.eval v = .map (some b)) (hy : Wf y)
    (hK : ∀ w', OutAt w' m (n + 1) (putO f y b) → Touch w w' (fun k => k = m) → wpList Try.prog ops Q rest (a.put o.dst undef) w') : wpList Try.prog ops Q (o :: rest) a w := by
  obtain ⟨D, h, r⟩ := h
  refine wpList_mapUpdate_own w hg mm x v 48 hop 3 51 keyed3 Try.underlying48 code m n D hm h hn _ _ (K y) hx hv (key_at hy) (codeOf (some b)) [] (code_mk (some b)) fun w' h' hgr => ?_
  refine hK w' ⟨_, h', fun z => ?_⟩ ((Touch.refl w _).grown hgr (fun k e _ => by injection e with e; exact e.symm))
  unfold putO
  by_cases e : z = y
  · subst e
    rw [if_pos rfl, atKey_put_same h.isMap (isKey z)]
  · rw [if_neg e, atKey_put_other (key_ne e)]
    exact r z
def cutO (f : Int → Option Nat) (x : Int) : Int → Option Nat := fun y => if y = x then none else f y
theorem OutAt.delete {ops : Array Oper} {rest : List Oper} {o : Oper} {a : Act} {Q : Exit → Act → World → Prop} (hg : o.guard = none) (mm x : Operand) (hop : o.op = Op.call { callee := Callee.builtin Builtin.delete, args := #[mm, x], argTypes := #[48, 3] })
    (hm : a.eval mm = .map (some m)) (h : OutAt w m n f) (y : Int) (hx : a.eval x = .int .i64 y) (hy : Wf y)
    (hK : ∀ w', OutAt w' m n (cutO f y) → Touch w w' (fun k => k = m) → wpList Try.prog ops Q rest (a.put o.dst (.tuple #[])) w') : wpList Try.prog ops Q (o :: rest) a w := by
  obtain ⟨D, h, r⟩ := h
  refine wpList_delete_own w hg mm x 48 3 hop 51 keyed3 Try.underlying48 code m n D hm h _ (K y) hx (key_at hy) fun w' h' hgr => ?_
  refine hK w' ⟨_, h', fun z => ?_⟩ ((Touch.refl w _).grown hgr.grown (fun k e _ => by injection e with e; exact e.symm))
  unfold cutO
  by_cases e : z = y
  · subst e
    rw [if_pos rfl, atKey_del_same]
  · rw [if_neg e, atKey_del_other (key_ne e)]
    exact r z
end

/-! ### The keys of a set, rising -/
theorem keys_of {w : World} {b n : Nat} {D : DataW Unit} (h : w.ownsMap Try.prog 3 (plainElem Try.prog 4) b n D) : (intKeys D).Nodup ∧ ∀ x, x ∈ intKeys D ↔ Maps.has D (K x) = true := by
  obtain ⟨es, hD, hpw, _⟩ := h.entries keyed3
  obtain ⟨es', hD', hko⟩ := h.keysOf
  obtain rfl : es = es' := by rw [hD] at hD'; simpa using hD'
  subst hD
  have hk : ∀ p ∈ es, ∃ x, p.1 = .int .i64 x := fun p hp => by
    obtain ⟨v, hv⟩ := hko p hp
    obtain ⟨x, _, hx, _⟩ := Maps.keyOf_i64 Try.underlying3 hv
    exact ⟨x, hx⟩
  refine ⟨?_, fun x => ?_⟩
  · show (es.map fun p => Go.intOf p.1).Nodup
    refine List.pairwise_map.2 (hpw.imp_of_mem fun {p q} hp' hq' hne e => hne ?_)
    obtain ⟨a, ha⟩ := hk p hp'
    obtain ⟨b, hb⟩ := hk q hq'
    rw [ha, hb] at e ⊢
    exact congrArg _ e
  · rw [has_eq, List.any_eq_true]
    show x ∈ es.map (fun p => Go.intOf p.1) ↔ _
    rw [List.mem_map]
    constructor
    · rintro ⟨p, hp', rfl⟩
      obtain ⟨a, ha⟩ := hk p hp'
      exact ⟨p, hp', by rw [ha]; simp [Lit.sameKey, Go.intOf, K]⟩
    · rintro ⟨p, hp', hs⟩
      obtain ⟨a, ha⟩ := hk p hp'
      rw [ha] at hs
      exact ⟨p, hp', by rw [ha]; simpa [Lit.sameKey, Go.intOf, K] using hs⟩
/-- a list that rises -/
def Rises (l : List Int) : Prop := l.Pairwise (· < ·)
/-- the keys of a set, rising, in new memory -/
def GivesKeys (w : World) (n : Nat) (s : Int → Bool) (e : Ending) (w' : World) : Prop :=
  ∃ v L, e = .returned v ∧ Rises L ∧ (∀ x, x ∈ L ↔ s x = true) ∧ L.length ≤ n ∧ (∀ x ∈ L, Wf x) ∧ w'.ownsRow w.heap.size 3 1 v L.length (iv L) ∧ Ext w w'
theorem sorts (m : Nat) : AnyZI.SortsIn Try.prog Try.sortedA_ren Fence.wide m :=
  ⟨fun blk off cap ss W hH hblk hsz => callsIn_wide.2 (AnyM.slices_Sort_int Try.sortA blk off cap ss W hH hblk hsz),
   fun p cap W => callsIn_wide.2 (AnyM.slices_Sort_int_none Try.sortA p cap W)⟩
theorem keys_call (mb : Option Nat) (w : World) : Calls Try.prog 20 #[.map mb] w fun e w' => e = .returned (.func (.func 24) #[] #[.pointer (some ⟨w.heap.size, 0, none⟩)]) ∧ w.alloc (.cells #[.map mb] 51) = w' :=
  (callsIn_wide.1 (AnyZI.keys_in Try.keysA Fence.wide 5 trivial rfl mb w)).mono fun _ _ ⟨h1, h2⟩ => ⟨h1, h2.symm⟩
theorem rises_sorted {ss : List Int} (hn : ss.Nodup) : Rises (ss.mergeSort (fun x y => decide (x ≤ y))) := by
  have tr : ∀ a b c : Int, decide (a ≤ b) = true → decide (b ≤ c) = true → decide (a ≤ c) = true := fun a b c h1 h2 => by simp at *; omega
  have to : ∀ a b : Int, (decide (a ≤ b) || decide (b ≤ a)) = true := fun a b => by simp; omega
  have hp := List.pairwise_mergeSort tr to ss
  have hnd : (ss.mergeSort (fun x y => decide (x ≤ y))).Nodup := (List.mergeSort_perm ss _).nodup_iff.2 hn
  refine List.Pairwise.imp₂ (R := fun a b => decide (a ≤ b) = true) (S := fun a b => a ≠ b) (fun a b h1 h2 => ?_) hp hnd
  simp at h1
  omega
theorem sorted_call (b n : Nat) (s : Int → Bool) (w : World) (h : SetAt w b n s) (hn : n ≤ 1048576) :
    Calls Try.prog 19 #[.func (.func 24) #[] #[.pointer (some ⟨w.heap.size, 0, none⟩)]] (w.alloc (.cells #[.map (some b)] 51)) (GivesKeys w n s) := by
  obtain ⟨D, hown, r⟩ := h
  have hbl := hown.lt
  obtain ⟨hnd, hmem⟩ := keys_of hown
  have hsz : Maps.size D ≤ n := hown.size_le
  have hseq : SeqGives Fence.wide 2 Try.prog 24 #[.pointer (some ⟨w.heap.size, 0, none⟩)] encZ (fun ss => ss.Perm (intKeys D)) (Maps.size D) (w.alloc (.cells #[.map (some b)] 51)) :=
    AnyZI.keys_gives (ρ := Try.keysA_ren) { Try.keysA with } Fence.wide _ trivial rfl (by omega) w.heap.size b n D _ (by simp) (by simp) (by
      obtain ⟨es, clock, hb, Ft, hs, hD⟩ := hown
      exact ⟨es, clock, (Below.heap_alloc _ _ b hbl).trans hb, Ft, hs, hD⟩)
  have cS := AnyZI.sorted_in Try.sortedA Fence.wide 5 trivial trivial trivial trivial rfl (by omega) (sorts _) (enters_of Try.func23 (by kernel_rfl) rfl) 24 #[.pointer (some ⟨w.heap.size, 0, none⟩)] trivial (enters_of Try.func24 (by kernel_rfl) rfl) _ _ (by unfold maxLen; omega) (by omega) _ hseq
  change CallsIn _ _ Try.prog 19 _ _ _ at cS
  refine (callsIn_wide.1 cS).mono ?_
  rintro e w' ⟨v, ss, rfl, hS, hrow, hnil, hb⟩
  have hssn : ss.Nodup := hS.nodup_iff.2 hnd
  have hE : Ext w w' := Ext.trans (Ext.new w _) hb
  refine ⟨v, ss.mergeSort (fun x y => decide (x ≤ y)), rfl, rises_sorted hssn, fun x => ?_, ?_, fun x hx => ?_, ?_, hE⟩
  · rw [List.mem_mergeSort, hS.mem_iff, hmem x, (r x).1]
  · rw [List.length_mergeSort]
    have h1 := hS.length_eq
    have h2 : (intKeys D).length = Maps.size D := by
      obtain ⟨es, rfl⟩ := hown.isMap
      simp [intKeys, Maps.size]
    omega
  · rw [List.mem_mergeSort, hS.mem_iff] at hx
    exact intKeys_wf hown Try.underlying3 x hx
  · rw [List.length_mergeSort]
    exact World.ownsRow.mono hrow (by simp)
theorem sorted_nil (w : World) : Calls Try.prog 19 #[.func (.func 24) #[] #[.pointer (some ⟨w.heap.size, 0, none⟩)]] (w.alloc (.cells #[.map none] 51)) (GivesKeys w 0 (fun _ => false)) := by
  have hseq : SeqGives Fence.wide 2 Try.prog 24 #[.pointer (some ⟨w.heap.size, 0, none⟩)] encZ (fun ss : List Int => ss = []) 0 (w.alloc (.cells #[.map none] 51)) :=
    AnyZI.keys_gives_nil (ρ := Try.keysA_ren) { Try.keysA with } Fence.wide _ trivial rfl w.heap.size _ (by simp) (by simp)
  have cS := AnyZI.sorted_in Try.sortedA Fence.wide 5 trivial trivial trivial trivial rfl (by omega) (sorts _) (enters_of Try.func23 (by kernel_rfl) rfl) 24 #[.pointer (some ⟨w.heap.size, 0, none⟩)] trivial (enters_of Try.func24 (by kernel_rfl) rfl) _ 0 (Nat.zero_le _) (by omega) _ hseq
  change CallsIn _ _ Try.prog 19 _ _ _ at cS
  refine (callsIn_wide.1 cS).mono ?_
  rintro e w' ⟨v, ss, rfl, rfl, hrow, hnil, hb⟩
  rw [List.mergeSort_nil] at hrow
  exact ⟨v, [], rfl, List.Pairwise.nil, (fun x => by simp), (by simp), (fun x hx => by cases hx), World.ownsRow.mono (base' := w.heap.size) hrow (by simp), Ext.trans (Ext.new w _) hb⟩
end Go.Proofs.Ytppffbpocmgafaa
