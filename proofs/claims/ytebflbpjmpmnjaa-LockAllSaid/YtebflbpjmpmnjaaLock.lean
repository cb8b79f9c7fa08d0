/- Lock: sets of holders with their modes, and tables of them by names, in memory; the keys of a set, rising. -/
import Derived.Test.YtebflbpjmpmnjaaKit
import Derived.Test.YtebflbpjmpmnjaaShelf
import Derived.WalkLawsBesides
import Derived.WalkSpells
import Derived.LoopTactic
import Derived.Maps.Own
import Derived.Maps.OwnOps
import Derived.Maps.OwnSet
import Derived.Maps.RangeWalk
import Derived.Sort.MapsRangeIn
import Derived.Deep.Onto
import Derived.Lib.SlKeysI
namespace Go.Proofs.Ytebflbpjmpmnjaa
open Go.ChangeShapes Go.WideShapes Go.ChangeAt Go.RowKit Go.Maps
set_option linter.unusedVariables false

def iv (l : List Int) : List Value := l.map (Value.int .i64)
def K (x : Int) : Lit := .int .i64 x
def Wf (x : Int) : Prop := (Lit.int .i64 x).wf = true
theorem isKey (x : Int) : WideAt.IsKeyLit (K x) := by simp [K, WideAt.IsKeyLit]
theorem keyed3 : Keyed Try.prog 3 := int_keyed Try.underlying3
theorem key_at {x : Int} (h : Wf x) : keyOf Try.prog 3 (.int .i64 x) = some (K x) := keyOf_int_mk Try.underlying3 h
theorem key_ne {x y : Int} (h : y ≠ x) : K y ≠ K x := fun e => h (by injection e)
theorem zero3 (w : World) : (zeroValue 3).run Try.prog w = .ok (.int .i64 0) w := by kernel_rfl
theorem zero52 (w : World) : (zeroValue 52).run Try.prog w = .ok (.map none) w := by kernel_rfl
/-- a name as a key -/
def Sk (s : ByteArray) : Lit := .string s.data.toList
def Sz (s : ByteArray) : Prop := s.size ≤ maxLen
theorem isKeyS (s : ByteArray) : WideAt.IsKeyLit (Sk s) := by simp [Sk, WideAt.IsKeyLit]
theorem keyed9 : Keyed Try.prog 9 := string_keyed Try.underlying9
theorem keyS_at {s : ByteArray} (h : Sz s) : keyOf Try.prog 9 (.string s) = some (Sk s) := WideMaps.keyOf_string_mk Try.underlying9 h
theorem Sk_inj {x y : ByteArray} (h : Sk x = Sk y) : x = y := by
  unfold Sk at h
  injection h with h
  cases x; cases y
  simpa using h
theorem keyS_ne {x y : ByteArray} (h : y ≠ x) : Sk y ≠ Sk x := fun e => h (Sk_inj e)
theorem ownsMap_touch {w w1 : World} {F : Nat → Prop} {H : Type} {P : Program} {k : TypeId} {R : Value → Option (DataW H × List MemPlace)} {b n : Nat} {D : DataW H} (h : w.ownsMap P k R b n D) (ht : Touch w w1 F) (hb : ¬ F b) : w1.ownsMap P k R b n D := by
  have hl := h.lt
  obtain ⟨es, clock, hh, r⟩ := h
  exact ⟨es, clock, (ht.block b hl hb).trans hh, r⟩

/-- who holds in which mode (0: does not), in block b: at most n of them -/
def InAt (w : World) (b n : Nat) (s : Int → Int) : Prop :=
  ∃ D : DataW Unit, w.ownsMap Try.prog 3 (plainElem Try.prog 3) b n D ∧ ∀ x, Maps.has D (K x) = decide (s x ≠ 0) ∧ D.atKey (K x) (.lit (.int .i64 0)) = .lit (.int .i64 (s x))
def putI (s : Int → Int) (x v : Int) : Int → Int := fun y => if y = x then v else s y
/-- The keys that a set has are numbers. -/
theorem keys_of {w : World} {b n : Nat} {R : Value → Option (DataW Unit × List MemPlace)} {D : DataW Unit} (h : w.ownsMap Try.prog 3 R b n D) : (intKeys D).Nodup ∧ ∀ x, x ∈ intKeys D ↔ Maps.has D (K x) = true := by
  obtain ⟨es, hD, hpw, _⟩ := h.entries keyed3
  obtain ⟨es', hD', hko⟩ := h.keysOf
  obtain rfl : es = es' := by rw [hD] at hD'; simpa using hD'
  subst hD
  have hk : ∀ p ∈ es, ∃ x, p.1 = .int .i64 x := fun p hp => by
    obtain ⟨v, hv⟩ := hko p hp
    obtain ⟨x, _, hx, _⟩ := Maps.keyOf_i64 Try.underlying3 hv
    exact ⟨x, hx⟩
  refine ⟨?_, fun x => ?_⟩
  · show (es.map fun p => Go.intOf p.1).Nodup
    refine List.pairwise_map.2 (hpw.imp_of_mem fun {p q} hp' hq' hne e => hne ?_)
    obtain ⟨a, ha⟩ := hk p hp'
    obtain ⟨b, hb⟩ := hk q hq'
    rw [ha, hb] at e ⊢
    exact congrArg _ e
  · rw [has_eq, List.any_eq_true]
    show x ∈ es.map (fun p => Go.intOf p.1) ↔ _
    rw [List.mem_map]
    constructor
    · rintro ⟨p, hp', rfl⟩
      obtain ⟨a, ha⟩ := hk p hp'
      exact ⟨p, hp', by rw [ha]; simp [Lit.sameKey, Go.intOf, K]⟩
    · rintro ⟨p, hp', hs⟩
      obtain ⟨a, ha⟩ := hk p hp'
      rw [ha] at hs
      exact ⟨p, hp', by rw [ha]; simpa [Lit.sameKey, Go.intOf, K] using hs⟩
section
variable {w w1 : World} {b n : Nat} {s : Int → Int} {F : Nat → Prop}
theorem InAt.lt (h : InAt w b n s) : b < w.heap.size := by obtain ⟨D, h, _⟩ := h; exact h.lt
theorem InAt.touch (h : InAt w b n s) (ht : Touch w w1 F) (hb : ¬ F b) : InAt w1 b n s := by obtain ⟨D, h, r⟩ := h; exact ⟨D, ownsMap_touch h ht hb, r⟩
theorem InAt.ext (h : InAt w b n s) (he : Ext w w1) : InAt w1 b n s := h.touch (Touch.of_below he (fun _ => False)) (fun h => h)
theorem InAt.new (w : World) : InAt (w.alloc (.map #[] 0)) w.heap.size 0 (fun _ => 0) := ⟨_, World.ownsMap_made w _ _ _, fun x => ⟨rfl, rfl⟩⟩
theorem InAt.more (h : InAt w b n s) {m : Nat} (hm : n ≤ m) : InAt w b m s := by obtain ⟨D, h, r⟩ := h; exact ⟨D, h.mono hm, r⟩
theorem InAt.look (h : InAt w b n s) {x : Int} (hx : Wf x) : (Instr.lookup 52 (.map (some b)) (.int .i64 x) false).run Try.prog w = .ok (.int .i64 (s x)) w := by
  obtain ⟨D, h, r⟩ := h
  obtain ⟨c, hrun, hat, _⟩ := h.lookup_int keyed3 Try.underlying52 Try.underlying3 (zero3 w) (key_at hx)
  rw [(r x).2] at hat
  simp at hat
  rw [hrun, hat]
theorem InAt.store {ops : Array Oper} {rest : List Oper} {o : Oper} {a : Act} {Q : Exit → Act → World → Prop} (hg : o.guard = none) (m x v : Operand) (hop : o.op = Op.mapUpdate 52 m x v)
    (hm : a.eval m = .map (some b)) (h : InAt w b n s) (hn : n < maxLen) (y z : Int) (hx : a.eval x = .int .i64 y) (hv : a.eval v = .int .i64 z) (hy : Wf y) (hz : Wf z) (hz0 : z ≠ 0)
    (hK : ∀ w', InAt w' b (n + 1) (putI s y z) → Touch w w' (fun k => k = b) → wpList Try.prog ops Q rest (a.put o.dst undef) w') : wpList Try.prog ops Q (o :: rest) a w := by
  obtain ⟨D, h, r⟩ := h
  refine wpList_mapUpdate_own w hg m x v 52 hop 3 3 keyed3 Try.underlying52 (plainElem Try.prog 3) b n D hm h hn _ _ (K y) hx hv (key_at hy) (.lit (.int .i64 z)) [] (plainElem_int Try.underlying3 hz) fun w' h' hgr => ?_
  refine hK w' ⟨_, h', fun q => ?_⟩ ((Touch.refl w _).grown hgr (fun k e _ => by injection e with e; exact e.symm))
  unfold putI
  by_cases e : q = y
  · subst e
    rw [if_pos rfl, has_put_same h.isMap (isKey q), atKey_put_same h.isMap (isKey q)]
    exact ⟨by simp [hz0], rfl⟩
  · rw [if_neg e, has_put_other (key_ne e), atKey_put_other (key_ne e)]
    exact r q
theorem InAt.delete {ops : Array Oper} {rest : List Oper} {o : Oper} {a : Act} {Q : Exit → Act → World → Prop} (hg : o.guard = none) (m x : Operand) (hop : o.op = Op.call { callee := Callee.builtin Builtin.delete, args := #[m, x], argTypes := #[52, 3] })
    (hm : a.eval m = .map (some b)) (h : InAt w b n s) (y : Int) (hx : a.eval x = .int .i64 y) (hy : Wf y)
    (hK : ∀ w', InAt w' b n (putI s y 0) → Touch w w' (fun k => k = b) → wpList Try.prog ops Q rest (a.put o.dst (.tuple #[])) w') : wpList Try.prog ops Q (o :: rest) a w := by
  obtain ⟨D, h, r⟩ := h
  refine wpList_delete_own w hg m x 52 3 hop 3 keyed3 Try.underlying52 (plainElem Try.prog 3) b n D hm h _ (K y) hx (key_at hy) fun w' h' hgr => ?_
  refine hK w' ⟨_, h', fun z => ?_⟩ ((Touch.refl w _).grown hgr.grown (fun k e _ => by injection e with e; exact e.symm))
  unfold putI
  by_cases e : z = y
  · subst e
    rw [if_pos rfl, has_del_same, atKey_del_same]
    exact ⟨by simp, rfl⟩
  · rw [if_neg e, has_del_other (key_ne e), atKey_del_other (key_ne e)]
    exact r z
/-- how many hold: none just where nobody does -/
theorem InAt.len {ops : Array Oper} {rest : List Oper} {o : Oper} {a : Act} {Q : Exit → Act → World → Prop} (hg : o.guard = none) (m : Operand) (hop : o.op = Op.call { callee := Callee.builtin Builtin.len, args := #[m], argTypes := #[52] })
    (hm : a.eval m = .map (some b)) (h : InAt w b n s) (hK : ∀ q : Nat, (q = 0 ↔ ∀ x, s x = 0) → wpList Try.prog ops Q rest (a.put o.dst (.int .i64 q)) w) : wpList Try.prog ops Q (o :: rest) a w := by
  obtain ⟨D, h, r⟩ := h
  refine wpList_len_own w hg m 52 hop 3 3 Try.underlying52 (plainElem Try.prog 3) b n D hm h ?_
  refine hK (Maps.size D) ?_
  obtain ⟨_, hk⟩ := keys_of h
  obtain ⟨es, hD⟩ := h.isMap
  subst hD
  constructor
  · intro h0 x
    have h1 : es = [] := List.eq_nil_of_length_eq_zero h0
    have h2 := (r x).1
    rw [h1] at h2
    simpa [Maps.has_eq] using h2
  · intro h0
    show es.length = 0
    rcases es with _ | ⟨p, es⟩
    · rfl
    · have := (hk (Go.intOf p.1)).1 (by simp [intKeys])
      rw [(r _).1, h0] at this
      cases this
/-- 'm[x]' with whether it is there -/
theorem InAt.look_ok (h : InAt w b n s) {x : Int} (hx : Wf x) : (Instr.lookup 52 (.map (some b)) (.int .i64 x) true).run Try.prog w = .ok (.tuple #[.int .i64 (s x), .bool (decide (s x ≠ 0))]) w := by
  obtain ⟨D, h, r⟩ := h
  obtain ⟨v, ps, hrun, hv⟩ := h.look_ok keyed3 Try.underlying52 (zero3 w) (plainElem_int Try.underlying3 (by decide)) (key_at hx)
  obtain ⟨c, rfl, hc, _⟩ := plainElem_int_inv Try.underlying3 hv
  rw [(r x).2] at hc
  simp only [Prod.mk.injEq] at hc
  have hc1 : c = s x := by have := hc.1; simp at this; exact this.symm
  rw [hrun, (r x).1, hc1]
end
theorem look_none (w : World) {x : Int} (hx : Wf x) : (Instr.lookup 52 (.map none) (.int .i64 x) false).run Try.prog w = .ok (.int .i64 0) w :=
  Maps.look_nil false keyed3 Try.underlying52 (zero3 w) (key_at hx)

/-- how the block of a set stands in a table -/
def code : Value → Option (DataW Unit × List MemPlace)
  | .map none => some (.lit (.int .i64 (-1)), [])
  | .map (some b) => some (.lit (.int .i64 (b : Nat)), [])
  | _ => none
def codeOf : Option Nat → DataW Unit
  | none => .lit (.int .i64 (-1))
  | some b => .lit (.int .i64 (b : Nat))
theorem codeOf_inj {a b : Option Nat} (h : codeOf a = codeOf b) : a = b := by
  cases a <;> cases b <;> simp [codeOf] at h <;> first | rfl | omega | (congr 1; omega)
theorem code_inv {v : Value} {z : DataW Unit × List MemPlace} (h : code v = some z) : ∃ o, v = .map o ∧ z = (codeOf o, []) := by
  unfold code at h
  split at h
  · exact ⟨none, rfl, by injection h with h; exact h.symm⟩
  · exact ⟨some _, rfl, by injection h with h; exact h.symm⟩
  · cases h
theorem code_mk (o : Option Nat) : code (.map o) = some (codeOf o, []) := by cases o <;> rfl
/-- a table of sets in block m: whose set lies where; D: what is in it, as data -/
def OutD (w : World) (m n : Nat) (D : DataW Unit) (f : ByteArray → Option Nat) : Prop :=
  w.ownsMap Try.prog 9 code m n D ∧ ∀ x, Maps.has D (Sk x) = (f x).isSome ∧ D.atKey (Sk x) (codeOf none) = codeOf (f x)
def OutAt (w : World) (m n : Nat) (f : ByteArray → Option Nat) : Prop := ∃ D : DataW Unit, OutD w m n D f
section
variable {w w1 : World} {m n : Nat} {f : ByteArray → Option Nat} {F : Nat → Prop}
theorem OutAt.lt (h : OutAt w m n f) : m < w.heap.size := by obtain ⟨D, h, _⟩ := h; exact h.lt
theorem OutAt.touch (h : OutAt w m n f) (ht : Touch w w1 F) (hb : ¬ F m) : OutAt w1 m n f := by obtain ⟨D, h, r⟩ := h; exact ⟨D, ownsMap_touch h ht hb, r⟩
theorem OutAt.new (w : World) : OutAt (w.alloc (.map #[] 0)) w.heap.size 0 (fun _ => none) := ⟨_, World.ownsMap_made w _ _ _, fun x => ⟨rfl, rfl⟩⟩
theorem OutAt.look (h : OutAt w m n f) {x : ByteArray} (hx : Sz x) : (Instr.lookup 49 (.map (some m)) (.string x) false).run Try.prog w = .ok (.map (f x)) w := by
  obtain ⟨D, h, r⟩ := h
  obtain ⟨v, ps, hrun, hv⟩ := h.lookup keyed9 Try.underlying49 (zero52 w) (code_mk none) (keyS_at hx)
  obtain ⟨o, rfl, ho⟩ := code_inv hv
  rw [(r x).2] at ho
  simp at ho
  rw [hrun, codeOf_inj ho.1]
def putO (f : ByteArray → Option Nat) (x : ByteArray) (b : Option Nat) : ByteArray → Option Nat := fun y => if y = x then b else f y
theorem OutAt.store {ops : Array Oper} {rest : List Oper} {o : Oper} {a : Act} {Q : Exit → Act → World → Prop} (hg : o.guard = none) (mm x v : Operand) (hop : o.op = Op.mapUpdate 49 mm x v)
    (hm : a.eval mm = .map (some m)) (h : OutAt w m n f) (hn : n < maxLen) (y : ByteArray) (b : Nat) (hx : a.eval x = .string y) (hv : a.eval v = .map (some b)) (hy : Sz y)
    (hK : ∀ w', OutAt w' m (n + 1) (putO f y (some b)) → Touch w w' (fun k => k = m) → wpList Try.prog ops Q rest (a.put o.dst undef) w') : wpList Try.prog ops Q (o :: rest) a w := by
  obtain ⟨D, h, r⟩ := h
  refine wpList_mapUpdate_own w hg mm x v 49 hop 9 52 keyed9 Try.underlying49 code m n D hm h hn _ _ (Sk y) hx hv (keyS_at hy) (codeOf (some b)) [] (code_mk (some b)) fun w' h' hgr => ?_
  refine hK w' ⟨_, h', fun z => ?_⟩ ((Touch.refl w _).grown hgr (fun k e _ => by injection e with e; exact e.symm))
  unfold putO
  by_cases e : z = y
  · subst e
    rw [if_pos rfl, has_put_same h.isMap (isKeyS z), atKey_put_same h.isMap (isKeyS z)]
    exact ⟨rfl, rfl⟩
  · rw [if_neg e, has_put_other (keyS_ne e), atKey_put_other (keyS_ne e)]
    exact r z
theorem OutD.del {D : DataW Unit} (h : OutD w m n D f) (y : ByteArray) (hw : w1.ownsMap Try.prog 9 code m n (D.del (Sk y))) : OutD w1 m n (D.del (Sk y)) (putO f y none) := by
  refine ⟨hw, fun z => ?_⟩
  unfold putO
  by_cases e : z = y
  · subst e
    rw [if_pos rfl, has_del_same, atKey_del_same]
    exact ⟨rfl, rfl⟩
  · rw [if_neg e, has_del_other (keyS_ne e), atKey_del_other (keyS_ne e)]
    exact h.2 z
end

/-! ### The keys of a set, rising -/
/-- a list that rises -/
def Rises (l : List Int) : Prop := l.Pairwise (· < ·)
/-- the keys of a set, rising, in new memory -/
def GivesKeys (w : World) (n : Nat) (s : Int → Int) (e : Ending) (w' : World) : Prop :=
  ∃ v L, e = .returned v ∧ Rises L ∧ (∀ x, x ∈ L ↔ s x ≠ 0) ∧ L.length ≤ n ∧ (∀ x ∈ L, Wf x) ∧ w'.ownsRow w.heap.size 3 1 v L.length (iv L) ∧ Ext w w'
theorem sorts (m : Nat) : AnyZI.SortsIn Try.prog Try.sortedA_ren Fence.wide m :=
  ⟨fun blk off cap ss W hH hblk hsz => callsIn_wide.2 (AnyM.slices_Sort_int Try.sortA blk off cap ss W hH hblk hsz),
   fun p cap W => callsIn_wide.2 (AnyM.slices_Sort_int_none Try.sortA p cap W)⟩
theorem keys_call (mb : Option Nat) (w : World) : Calls Try.prog 27 #[.map mb] w fun e w' => e = .returned (.func (.func 34) #[] #[.pointer (some ⟨w.heap.size, 0, none⟩)]) ∧ w.alloc (.cells #[.map mb] 52) = w' :=
  (callsIn_wide.1 (AnyZI.keys_in Try.keysA Fence.wide 5 trivial rfl mb w)).mono fun _ _ ⟨h1, h2⟩ => ⟨h1, h2.symm⟩
theorem rises_sorted {ss : List Int} (hn : ss.Nodup) : Rises (ss.mergeSort (fun x y => decide (x ≤ y))) := by
  have tr : ∀ a b c : Int, decide (a ≤ b) = true → decide (b ≤ c) = true → decide (a ≤ c) = true := fun a b c h1 h2 => by simp at *; omega
  have to : ∀ a b : Int, (decide (a ≤ b) || decide (b ≤ a)) = true := fun a b => by simp; omega
  have hp := List.pairwise_mergeSort tr to ss
  have hnd : (ss.mergeSort (fun x y => decide (x ≤ y))).Nodup := (List.mergeSort_perm ss _).nodup_iff.2 hn
  refine List.Pairwise.imp₂ (R := fun a b => decide (a ≤ b) = true) (S := fun a b => a ≠ b) (fun a b h1 h2 => ?_) hp hnd
  simp at h1
  omega
theorem sorted_call (b n : Nat) (s : Int → Int) (w : World) (h : InAt w b n s) (hn : n ≤ 1048576) :
    Calls Try.prog 26 #[.func (.func 34) #[] #[.pointer (some ⟨w.heap.size, 0, none⟩)]] (w.alloc (.cells #[.map (some b)] 52)) (GivesKeys w n s) := by
  obtain ⟨D, hown, r⟩ := h
  have hbl := hown.lt
  obtain ⟨hnd, hmem⟩ := keys_of hown
  have hsz : Maps.size D ≤ n := hown.size_le
  have hseq : SeqGives Fence.wide 2 Try.prog 34 #[.pointer (some ⟨w.heap.size, 0, none⟩)] encZ (fun ss => ss.Perm (intKeys D)) (Maps.size D) (w.alloc (.cells #[.map (some b)] 52)) :=
    AnyZI.keys_gives (ρ := Try.keysA_ren) { Try.keysA with } Fence.wide _ trivial rfl (by omega) w.heap.size b n D _ (by simp) (by simp) (by
      obtain ⟨es, clock, hb, Ft, hs, hD⟩ := hown
      exact ⟨es, clock, (Below.heap_alloc _ _ b hbl).trans hb, Ft, hs, hD⟩)
  have cS := AnyZI.sorted_in Try.sortedA Fence.wide 5 trivial trivial trivial trivial rfl (by omega) (sorts _) (enters_of Try.func33 (by kernel_rfl) rfl) 34 #[.pointer (some ⟨w.heap.size, 0, none⟩)] trivial (enters_of Try.func34 (by kernel_rfl) rfl) _ _ (by unfold maxLen; omega) (by omega) _ hseq
  change CallsIn _ _ Try.prog 26 _ _ _ at cS
  refine (callsIn_wide.1 cS).mono ?_
  rintro e w' ⟨v, ss, rfl, hS, hrow, hnil, hb⟩
  have hssn : ss.Nodup := hS.nodup_iff.2 hnd
  have hE : Ext w w' := Ext.trans (Ext.new w _) hb
  refine ⟨v, ss.mergeSort (fun x y => decide (x ≤ y)), rfl, rises_sorted hssn, fun x => ?_, ?_, fun x hx => ?_, ?_, hE⟩
  · rw [List.mem_mergeSort, hS.mem_iff, hmem x, (r x).1]
    simp
  · rw [List.length_mergeSort]
    have h1 := hS.length_eq
    have h2 : (intKeys D).length = Maps.size D := by
      obtain ⟨es, rfl⟩ := hown.isMap
      simp [intKeys, Maps.size]
    omega
  · rw [List.mem_mergeSort, hS.mem_iff] at hx
    exact intKeys_wf hown Try.underlying3 x hx
  · rw [List.length_mergeSort]
    exact World.ownsRow.mono hrow (by simp)
theorem sorted_nil (w : World) : Calls Try.prog 26 #[.func (.func 34) #[] #[.pointer (some ⟨w.heap.size, 0, none⟩)]] (w.alloc (.cells #[.map none] 52)) (GivesKeys w 0 (fun _ => 0)) := by
  have hseq : SeqGives Fence.wide 2 Try.prog 34 #[.pointer (some ⟨w.heap.size, 0, none⟩)] encZ (fun ss : List Int => ss = []) 0 (w.alloc (.cells #[.map none] 52)) :=
    AnyZI.keys_gives_nil (ρ := Try.keysA_ren) { Try.keysA with } Fence.wide _ trivial rfl w.heap.size _ (by simp) (by simp)
  have cS := AnyZI.sorted_in Try.sortedA Fence.wide 5 trivial trivial trivial trivial rfl (by omega) (sorts _) (enters_of Try.func33 (by kernel_rfl) rfl) 34 #[.pointer (some ⟨w.heap.size, 0, none⟩)] trivial (enters_of Try.func34 (by kernel_rfl) rfl) _ 0 (Nat.zero_le _) (by omega) _ hseq
  change CallsIn _ _ Try.prog 26 _ _ _ at cS
  refine (callsIn_wide.1 cS).mono ?_
  rintro e w' ⟨v, ss, rfl, rfl, hrow, hnil, hb⟩
  rw [List.mergeSort_nil] at hrow
  exact ⟨v, [], rfl, List.Pairwise.nil, (fun x => by simp), (by simp), (fun x hx => by cases hx), World.ownsRow.mono (base' := w.heap.size) hrow (by simp), Ext.trans (Ext.new w _) hb⟩
end Go.Proofs.Ytebflbpjmpmnjaa
