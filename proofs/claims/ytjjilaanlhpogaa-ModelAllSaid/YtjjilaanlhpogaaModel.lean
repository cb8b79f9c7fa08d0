/- Model: rows in memory, tables of them by keys; the keys of a table, in order. -/
import Derived.Test.YtjjilaanlhpogaaKit
import Derived.Test.YtjjilaanlhpogaaShelf
import Derived.WalkLawsBesides
import Derived.WalkSpells
import Derived.LoopTactic
import Derived.Maps.Own
import Derived.Maps.OwnOps
import Derived.Maps.OwnSet
import Derived.Deep.Onto
import Derived.Sort.OwnSorted
namespace Go.Proofs.Ytjjilaanlhpogaa
open Go.ChangeShapes Go.WideShapes Go.ChangeAt Go.RowKit Go.Maps Go.MapKept Go.Sort
set_option linter.unusedVariables false

/-- a row -/
structure Rw where
  k : ByteArray
  s : ByteArray
  v : ByteArray
def rv (r : Rw) : Value := .agg #[.string r.k, .string r.s, .string r.v]
def rc (r : Rw) : List Value := [.string r.k, .string r.s, .string r.v]
def rcs (l : List Rw) : List Value := l.flatMap rc
def r0 : Rw := ⟨.empty, .empty, .empty⟩
theorem rcs_len (l : List Rw) : (rcs l).length = l.length * 3 := by
  induction l with
  | nil => rfl
  | cons r l ih => simp only [rcs, List.flatMap_cons, List.length_append, List.length_cons] at ih ⊢; rw [ih]; simp [rc]; omega
theorem rcs_snoc (l : List Rw) (r : Rw) : rcs (l ++ [r]) = rcs l ++ rc r := by simp [rcs]
theorem rv_inj {a b : Rw} (h : rv a = rv b) : a = b := by
  cases a; cases b; simp [rv] at h; simp [h]
/-- a name as a key -/
def Sk (s : ByteArray) : Lit := .string s.data.toList
def Sz (s : ByteArray) : Prop := s.size ≤ maxLen
theorem isKeyS (s : ByteArray) : WideAt.IsKeyLit (Sk s) := by simp [Sk, WideAt.IsKeyLit]
theorem keyed9 : Keyed Try.prog 9 := string_keyed Try.underlying9
theorem keyS_at {s : ByteArray} (h : Sz s) : keyOf Try.prog 9 (.string s) = some (Sk s) := WideMaps.keyOf_string_mk Try.underlying9 h
theorem Sk_inj {x y : ByteArray} (h : Sk x = Sk y) : x = y := by
  unfold Sk at h
  injection h with h
  cases x; cases y
  simpa using h
theorem keyS_ne {x y : ByteArray} (h : y ≠ x) : Sk y ≠ Sk x := fun e => h (Sk_inj e)
theorem zero31 (w : World) : (zeroValue 31).run Try.prog w = .ok (rv r0) w := by kernel_rfl
theorem ownsMap_touch {w w1 : World} {F : Nat → Prop} {H : Type} {P : Program} {k : TypeId} {R : Value → Option (DataW H × List MemPlace)} {b n : Nat} {D : DataW H} (h : w.ownsMap P k R b n D) (ht : Touch w w1 F) (hb : ¬ F b) : w1.ownsMap P k R b n D := by
  have hl := h.lt
  obtain ⟨es, clock, hh, r⟩ := h
  exact ⟨es, clock, (ht.block b hl hb).trans hh, r⟩
theorem map_ne {w : World} {g m : Nat} {t : TypeId} {cs : Array Value} {H : Type} {P : Program} {k : TypeId} {R : Value → Option (DataW H × List MemPlace)} {n : Nat} {D : DataW H} (h : Blk w g t cs) (h' : w.ownsMap P k R m n D) : g ≠ m := by
  rintro rfl
  obtain ⟨es, clock, hh, _⟩ := h'
  unfold Blk at h
  rw [h] at hh
  cases hh
/-- a table's elements are told as they are -/
def held (v : Value) : Option (DataW Value × List MemPlace) := some (.held v, [])
theorem held_inj {v u : Value} {ps : List MemPlace} (h : held v = some (.held u, ps)) : v = u := DataW.held.inj (congrArg Prod.fst (Option.some.inj h))
/-- a table of rows in block m: which row stands at which key -/
def RowsAt (w : World) (m n : Nat) (f : ByteArray → Option Rw) : Prop :=
  ∃ D : DataW Value, w.ownsMap Try.prog 9 held m n D ∧ ∀ x, Maps.has D (Sk x) = (f x).isSome ∧ D.atKey (Sk x) (.held (rv r0)) = .held (rv ((f x).getD r0))
def putR (f : ByteArray → Option Rw) (x : ByteArray) (v : Option Rw) : ByteArray → Option Rw := fun y => if y = x then v else f y
/-- The keys that a table has are names. -/
theorem keys_of {w : World} {b n : Nat} {H : Type} {R : Value → Option (DataW H × List MemPlace)} {D : DataW H} (h : w.ownsMap Try.prog 9 R b n D) : (strKeys D).Nodup ∧ ∀ x, x ∈ strKeys D ↔ Maps.has D (.string x) = true := by
  obtain ⟨es, hD, hpw, _⟩ := h.entries keyed9
  obtain ⟨es', hD', hko⟩ := h.keysOf
  obtain rfl : es = es' := by rw [hD] at hD'; simpa using hD'
  subst hD
  have hk : ∀ p ∈ es, ∃ x, p.1 = .string x := fun p hp => by
    obtain ⟨v, hv⟩ := hko p hp
    obtain ⟨x, _, hx, _⟩ := Maps.keyOf_str Try.underlying9 hv
    exact ⟨x, hx⟩
  refine ⟨?_, fun x => ?_⟩
  · show (es.map fun p => strOf p.1).Nodup
    refine List.pairwise_map.2 (hpw.imp_of_mem fun {p q} hp' hq' hne e => hne ?_)
    obtain ⟨a, ha⟩ := hk p hp'
    obtain ⟨b, hb⟩ := hk q hq'
    rw [ha, hb] at e ⊢
    exact congrArg _ e
  · rw [has_eq, List.any_eq_true]
    show x ∈ es.map (fun p => strOf p.1) ↔ _
    rw [List.mem_map]
    constructor
    · rintro ⟨p, hp', rfl⟩
      obtain ⟨a, ha⟩ := hk p hp'
      exact ⟨p, hp', by rw [ha]; simp [Lit.sameKey, strOf]⟩
    · rintro ⟨p, hp', hs⟩
      obtain ⟨a, ha⟩ := hk p hp'
      rw [ha] at hs
      exact ⟨p, hp', by rw [ha]; simpa [Lit.sameKey, strOf] using hs⟩
section
variable {w w1 : World} {m n : Nat} {f : ByteArray → Option Rw} {F : Nat → Prop}
theorem RowsAt.lt (h : RowsAt w m n f) : m < w.heap.size := by obtain ⟨D, h, _⟩ := h; exact h.lt
theorem RowsAt.touch (h : RowsAt w m n f) (ht : Touch w w1 F) (hb : ¬ F m) : RowsAt w1 m n f := by obtain ⟨D, h, r⟩ := h; exact ⟨D, ownsMap_touch h ht hb, r⟩
theorem RowsAt.ext (h : RowsAt w m n f) (he : Ext w w1) : RowsAt w1 m n f := h.touch (Touch.of_below he (fun _ => False)) (fun h => h)
theorem RowsAt.more (h : RowsAt w m n f) {n' : Nat} (hn : n ≤ n') : RowsAt w m n' f := by obtain ⟨D, h, r⟩ := h; exact ⟨D, h.mono hn, r⟩
theorem RowsAt.new (w : World) : RowsAt (w.alloc (.map #[] 0)) w.heap.size 0 (fun _ => none) := ⟨_, World.ownsMap_made w _ _ _, fun x => ⟨rfl, rfl⟩⟩
theorem RowsAt.look (h : RowsAt w m n f) {x : ByteArray} (hx : Sz x) : (Instr.lookup 50 (.map (some m)) (.string x) false).run Try.prog w = .ok (rv ((f x).getD r0)) w := by
  obtain ⟨D, h, r⟩ := h
  obtain ⟨v, ps, hrun, hv⟩ := h.lookup keyed9 Try.underlying50 (zero31 w) (show held (rv r0) = some (.held (rv r0), []) from rfl) (keyS_at hx)
  rw [(r x).2] at hv
  have e : v = rv ((f x).getD r0) := held_inj hv
  rw [hrun, e]
theorem RowsAt.look_ok (h : RowsAt w m n f) {x : ByteArray} (hx : Sz x) : (Instr.lookup 50 (.map (some m)) (.string x) true).run Try.prog w = .ok (.tuple #[rv ((f x).getD r0), .bool (f x).isSome]) w := by
  obtain ⟨D, h, r⟩ := h
  obtain ⟨v, ps, hrun, hv⟩ := h.look_ok keyed9 Try.underlying50 (zero31 w) (show held (rv r0) = some (.held (rv r0), []) from rfl) (keyS_at hx)
  rw [(r x).2] at hv
  have e : v = rv ((f x).getD r0) := held_inj hv
  rw [hrun, (r x).1, e]
theorem RowsAt.store {ops : Array Oper} {rest : List Oper} {o : Oper} {a : Act} {Q : Exit → Act → World → Prop} (hg : o.guard = none) (mm x v : Operand) (hop : o.op = Op.mapUpdate 50 mm x v)
    (hm : a.eval mm = .map (some m)) (h : RowsAt w m n f) (hn : n < maxLen) (y : ByteArray) (u : Rw) (hx : a.eval x = .string y) (hv : a.eval v = rv u) (hy : Sz y)
    (hK : ∀ w', RowsAt w' m (n + 1) (putR f y (some u)) → Touch w w' (fun k => k = m) → wpList Try.prog ops Q rest (a.put o.dst undef) w') : wpList Try.prog ops Q (o :: rest) a w := by
  obtain ⟨D, h, r⟩ := h
  refine wpList_mapUpdate_own w hg mm x v 50 hop 9 31 keyed9 Try.underlying50 held m n D hm h hn _ _ (Sk y) hx hv (keyS_at hy) (.held (rv u)) [] rfl fun w' h' hgr => ?_
  refine hK w' ⟨_, h', fun z => ?_⟩ ((Touch.refl w _).grown hgr (fun k e _ => by injection e with e; exact e.symm))
  unfold putR
  by_cases e : z = y
  · subst e
    rw [if_pos rfl, has_put_same h.isMap (isKeyS z), atKey_put_same h.isMap (isKeyS z)]
    exact ⟨rfl, rfl⟩
  · rw [if_neg e, has_put_other (keyS_ne e), atKey_put_other (keyS_ne e)]
    exact r z
theorem RowsAt.delete {ops : Array Oper} {rest : List Oper} {o : Oper} {a : Act} {Q : Exit → Act → World → Prop} (hg : o.guard = none) (mm x : Operand) (hop : o.op = Op.call { callee := Callee.builtin Builtin.delete, args := #[mm, x], argTypes := #[50, 9] })
    (hm : a.eval mm = .map (some m)) (h : RowsAt w m n f) (y : ByteArray) (hx : a.eval x = .string y) (hy : Sz y)
    (hK : ∀ w', RowsAt w' m n (putR f y none) → Touch w w' (fun k => k = m) → wpList Try.prog ops Q rest (a.put o.dst (.tuple #[])) w') : wpList Try.prog ops Q (o :: rest) a w := by
  obtain ⟨D, h, r⟩ := h
  refine wpList_delete_own w hg mm x 50 9 hop 31 keyed9 Try.underlying50 held m n D hm h _ (Sk y) hx (keyS_at hy) fun w' h' hgr => ?_
  refine hK w' ⟨_, h', fun z => ?_⟩ ((Touch.refl w _).grown hgr.grown (fun k e _ => by injection e with e; exact e.symm))
  unfold putR
  by_cases e : z = y
  · subst e
    rw [if_pos rfl, has_del_same, atKey_del_same]
    exact ⟨rfl, rfl⟩
  · rw [if_neg e, has_del_other (keyS_ne e), atKey_del_other (keyS_ne e)]
    exact r z
end

/-! ### The keys of a table, in order -/
def sv (l : List (List UInt8)) : List Value := l.map encStr
def bt (l : List UInt8) : ByteArray := ⟨l.toArray⟩
theorem bt_data (l : List UInt8) : (bt l).data.toList = l := by simp [bt]
theorem bt_of (s : ByteArray) : bt s.data.toList = s := by cases s; simp [bt]
/-- a list of names, none twice, in order -/
def RisesS (l : List (List UInt8)) : Prop := l.Pairwise (fun x y => decide (x ≤ y) = true) ∧ l.Nodup
theorem le_tr (a b c : List UInt8) : decide (a ≤ b) = true → decide (b ≤ c) = true → decide (a ≤ c) = true := fun h1 h2 => by
  simp only [decide_eq_true_eq] at *
  exact List.le_trans h1 h2
theorem le_to (a b : List UInt8) : (decide (a ≤ b) || decide (b ≤ a)) = true := by
  simp only [Bool.or_eq_true, decide_eq_true_eq]
  exact List.le_total a b
theorem risesS_sorted {ss : List (List UInt8)} (hn : ss.Nodup) : RisesS (ss.mergeSort (fun x y => decide (x ≤ y))) :=
  ⟨List.pairwise_mergeSort le_tr le_to ss, (List.mergeSort_perm ss _).nodup_iff.2 hn⟩
theorem risesS_same {L M : List (List UInt8)} (hL : RisesS L) (hM : RisesS M) (h : ∀ x, x ∈ L ↔ x ∈ M) : L = M := by
  refine List.Perm.eq_of_pairwise (le := fun a b => decide (a ≤ b) = true) (fun a b _ _ h1 h2 => ?_) hL.1 hM.1 ?_
  · simp only [decide_eq_true_eq] at h1 h2
    exact List.le_antisymm h1 h2
  · exact (List.perm_ext_iff_of_nodup hL.2 hM.2).2 h
/-- the keys of a table, in order, in new memory -/
def GivesKeys (w : World) (n : Nat) (f : ByteArray → Bool) (e : Ending) (w' : World) : Prop :=
  ∃ v L, e = .returned v ∧ RisesS L ∧ (∀ l, l ∈ L ↔ f (bt l) = true) ∧ L.length ≤ n ∧ w'.ownsRow w.heap.size 9 1 v L.length (sv L) ∧ (∀ l ∈ L, l.length ≤ maxLen) ∧ Ext w w'
theorem sorts (m : Nat) : AnyZ.SortsIn Try.prog Try.sortedA_ren Fence.wide m :=
  ⟨fun blk off cap ss W hH hblk hsz => callsIn_wide.2 (AnyM.slices_Sort_string Try.sortA blk off cap ss W hH hblk hsz),
   fun p cap W => callsIn_wide.2 (AnyM.slices_Sort_string_none Try.sortA p cap W)⟩
theorem keys_call (mb : Option Nat) (w : World) : Calls Try.prog 27 #[.map mb] w fun e w' => e = .returned (.func (.func 31) #[] #[.pointer (some ⟨w.heap.size, 0, none⟩)]) ∧ w.alloc (.cells #[.map mb] 50) = w' :=
  (callsIn_wide.1 (AnyZ.keys_in Try.keysA Fence.wide 5 trivial rfl mb w)).mono fun _ _ ⟨h1, h2⟩ => ⟨h1, h2.symm⟩
theorem sorted_call (b n : Nat) (f : ByteArray → Option Rw) (w : World) (h : RowsAt w b n f) (hn : n ≤ 1048576) :
    Calls Try.prog 26 #[.func (.func 31) #[] #[.pointer (some ⟨w.heap.size, 0, none⟩)]] (w.alloc (.cells #[.map (some b)] 50)) (GivesKeys w n (fun x => (f x).isSome)) := by
  obtain ⟨D, hown, r⟩ := h
  have hbl := hown.lt
  obtain ⟨hnd, hmem⟩ := keys_of hown
  have hsz : Maps.size D ≤ n := hown.size_le
  have hseq : SeqGives Fence.wide 2 Try.prog 31 #[.pointer (some ⟨w.heap.size, 0, none⟩)] encStr (fun ss => ss.Perm (strKeys D)) (Maps.size D) (w.alloc (.cells #[.map (some b)] 50)) :=
    AnyZ.keys_gives (ρ := Try.keysA_ren) { Try.keysA with } Fence.wide _ trivial rfl (by omega) w.heap.size b n D _ (by simp) (by simp) (by
      obtain ⟨es, clock, hb, Ft, hs, hD⟩ := hown
      exact ⟨es, clock, (Below.heap_alloc _ _ b hbl).trans hb, Ft, hs, hD⟩)
  have cS := AnyZ.sorted_in Try.sortedA Fence.wide 5 trivial trivial trivial trivial rfl (by omega) (sorts _) (enters_of Try.func30 (by kernel_rfl) rfl) 31 #[.pointer (some ⟨w.heap.size, 0, none⟩)] trivial (enters_of Try.func31 (by kernel_rfl) rfl) _ _ (by unfold maxLen; omega) (by omega) _ hseq
  change CallsIn _ _ Try.prog 26 _ _ _ at cS
  refine (callsIn_wide.1 cS).mono ?_
  rintro e w' ⟨v, ss, rfl, hS, hrow, hnil, hb⟩
  have hssn : ss.Nodup := hS.nodup_iff.2 hnd
  have hE : Ext w w' := Ext.trans (Ext.new w _) hb
  refine ⟨v, ss.mergeSort (fun x y => decide (x ≤ y)), rfl, risesS_sorted hssn, fun x => ?_, ?_, ?_, fun x hx => ?_, hE⟩
  · show _ ↔ (f (bt x)).isSome = true
    rw [List.mem_mergeSort, hS.mem_iff, hmem x, ← (r (bt x)).1]
    unfold Sk
    rw [bt_data]
  · rw [List.length_mergeSort]
    have h1 := hS.length_eq
    have h2 : (strKeys D).length = Maps.size D := by
      obtain ⟨es, rfl⟩ := hown.isMap
      simp [strKeys, Maps.size]
    omega
  · rw [List.length_mergeSort]
    exact World.ownsRow.mono hrow (by simp)
  · rw [List.mem_mergeSort, hS.mem_iff] at hx
    exact strKeys_le hown Try.underlying9 x hx
/-- maps.Clone -/
theorem clone_call (b n : Nat) (f : ByteArray → Option Rw) (w : World) (h : RowsAt w b n f) :
    Calls Try.prog 15 #[.map (some b)] w fun e w' => e = .returned (.map (some w.heap.size)) ∧ RowsAt w' w.heap.size n f ∧ RowsAt w' b n f ∧ Ext w w' := by
  obtain ⟨D, hown, r⟩ := h
  refine (AnyW.maps_Clone_owns Try.cloneA 9 held b n D w hown).mono ?_
  rintro e w' ⟨he, h1, h2, h3⟩
  exact ⟨he, ⟨D, h1, r⟩, ⟨D, h2, r⟩, h3⟩
end Go.Proofs.Ytjjilaanlhpogaa
