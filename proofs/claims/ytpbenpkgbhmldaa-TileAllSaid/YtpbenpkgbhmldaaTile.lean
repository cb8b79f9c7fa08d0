/- Tile: bytes in blocks of their own, and tables of them by numbers, in memory; the keys of a table, rising. -/
import Derived.Test.YtpbenpkgbhmldaaKit
import Derived.Test.YtpbenpkgbhmldaaShelf
import Derived.WalkLawsBesides
import Derived.WalkSpells
import Derived.LoopTactic
import Derived.Maps.Own
import Derived.Maps.OwnOps
import Derived.Maps.OwnSet
import Derived.Deep.Onto
import Derived.Lib.SlKeysI
namespace Go.Proofs.Ytpbenpkgbhmldaa
open Go.ChangeShapes Go.WideShapes Go.ChangeAt Go.RowKit Go.Maps Go.MapKept
set_option linter.unusedVariables false

def iv (l : List Int) : List Value := l.map (Value.int .i64)
def K (x : Int) : Lit := .int .i64 x
def Wf (x : Int) : Prop := (Lit.int .i64 x).wf = true
theorem wf_big {x : Int} (h0 : 0 ≤ x) (h1 : x ≤ 1000000) : Wf x := by
  unfold Wf
  simp [Lit.wf, IntKind.min, IntKind.max, IntKind.signed, IntKind.bits]
  omega
theorem isKey (x : Int) : WideAt.IsKeyLit (K x) := by simp [K, WideAt.IsKeyLit]
theorem keyed3 : Keyed Try.prog 3 := int_keyed Try.underlying3
theorem key_at {x : Int} (h : Wf x) : keyOf Try.prog 3 (.int .i64 x) = some (K x) := keyOf_int_mk Try.underlying3 h
theorem key_ne {x y : Int} (h : y ≠ x) : K y ≠ K x := fun e => h (by injection e)
theorem zero22 (w : World) : (zeroValue 22).run Try.prog w = .ok (.slice none 0 0) w := by kernel_rfl
theorem ownsMap_touch {w w1 : World} {F : Nat → Prop} {H : Type} {P : Program} {k : TypeId} {R : Value → Option (DataW H × List MemPlace)} {b n : Nat} {D : DataW H} (h : w.ownsMap P k R b n D) (ht : Touch w w1 F) (hb : ¬ F b) : w1.ownsMap P k R b n D := by
  have hl := h.lt
  obtain ⟨es, clock, hh, r⟩ := h
  exact ⟨es, clock, (ht.block b hl hb).trans hh, r⟩
theorem map_ne {w : World} {g m : Nat} {t : TypeId} {cs : Array Value} {H : Type} {P : Program} {k : TypeId} {R : Value → Option (DataW H × List MemPlace)} {n : Nat} {D : DataW H} (h : Blk w g t cs) (h' : w.ownsMap P k R m n D) : g ≠ m := by
  rintro rfl
  obtain ⟨es, clock, hh, _⟩ := h'
  unfold Blk at h
  rw [h] at hh
  cases hh
theorem row_map {w : World} {H : Type} {P : Program} {k : TypeId} {R : Value → Option (DataW H × List MemPlace)} {base e m n nn b : Nat} {D : DataW H} {v : Value} {xs : List Value} (h : w.ownsRow base e m v n xs) (h' : w.ownsMap P k R b nn D) : v.ownBlock ≠ some b := by
  rcases h.2 with ⟨rfl, _⟩ | ⟨g', cap, cur, rfl, _, hh, _⟩
  · simp [Value.ownBlock]
  · intro he
    have : g' = b := by simpa [Value.ownBlock] using he
    subst this
    obtain ⟨es, clock, hh', _⟩ := h'
    rw [hh] at hh'
    cases hh'
theorem row_row {w : World} {base base' e e' m m' n n' : Nat} {v v' : Value} {xs xs' : List Value} {b : Nat} (h : w.ownsRow base e m v n xs) (h' : w.ownsRow base' e' m' v' n' xs') (hne : e ≠ e') (hb : v.ownBlock = some b) : v'.ownBlock ≠ some b := by
  rcases h.2 with ⟨rfl, _⟩ | ⟨g, cap, cur, rfl, _, hh, _⟩
  · simp [Value.ownBlock] at hb
  · have hg : g = b := by simpa [Value.ownBlock] using hb
    subst hg
    rcases h'.2 with ⟨rfl, _⟩ | ⟨g', cap', cur', rfl, _, hh', _⟩
    · simp [Value.ownBlock]
    · intro he
      have : g' = g := by simpa [Value.ownBlock] using he
      subst this
      rw [hh] at hh'
      injection hh' with hh'
      injection hh' with _ ht
      exact hne ht
/-- bytes in a block of their own, one of Z -/
def Tl (w : World) (Z : Nat → Prop) (v : Value) (l : List UInt8) : Prop := w.ownsRow 0 5 1 v l.length (bv l) ∧ ∀ k, v.ownBlock = some k → Z k
section
variable {w w1 : World} {Z Z' : Nat → Prop} {v : Value} {l : List UInt8} {F : Nat → Prop}
theorem Tl.touch (h : Tl w Z v l) (ht : Touch w w1 F) (hv : ∀ k, v.ownBlock = some k → ¬ F k) : Tl w1 Z v l := ⟨ownsRow_touch ht h.1 hv, h.2⟩
theorem Tl.ext (h : Tl w Z v l) (he : Ext w w1) : Tl w1 Z v l := ⟨he.own h.1, h.2⟩
theorem Tl.lt (h : Tl w Z v l) {k : Nat} (hk : v.ownBlock = some k) : k < w.heap.size := (h.1.lt k hk).2
theorem Tl.to (h : Tl w Z v l) (hz : ∀ k, k < w.heap.size → Z k → Z' k) : Tl w Z' v l := ⟨h.1, fun k hk => hz k (h.lt hk) (h.2 k hk)⟩
theorem Tl.form (h : Tl w Z v l) : ∃ A c, v = .slice A l.length c ∧ (A = none → c = 0) ∧ l.length ≤ c ∧ Reads w w.heap.size 1 A l.length (bv l) := by
  obtain ⟨A, c, hv, h1, h2, _⟩ := own_form h.1
  subst hv
  exact ⟨A, c, rfl, h1, h2, Reads.of_own h.1⟩
/-- whoever's block it is, it is one of bytes -/
theorem Tl.bytes (h : Tl w Z v l) {k : Nat} (hk : v.ownBlock = some k) : ∃ cs, Blk w k 5 cs := by
  rcases h.1.2 with ⟨rfl, _⟩ | ⟨g', cap, cur, rfl, _, hh, _⟩
  · simp [Value.ownBlock] at hk
  · have : g' = k := by simpa [Value.ownBlock] using hk
    subst this
    exact ⟨_, hh⟩
end

/-- a table's elements are told as they are -/
def held (v : Value) : Option (DataW Value × List MemPlace) := some (.held v, [])
theorem held_inj {v u : Value} {ps : List MemPlace} (h : held v = some (.held u, ps)) : v = u := DataW.held.inj (congrArg Prod.fst (Option.some.inj h))
/-- a table of slices in block m: which stands where -/
def WasAt (w : World) (m n : Nat) (f : Int → Option Value) : Prop :=
  ∃ D : DataW Value, w.ownsMap Try.prog 3 held m n D ∧ ∀ x, Maps.has D (K x) = (f x).isSome ∧ D.atKey (K x) (.held (.slice none 0 0)) = .held ((f x).getD (.slice none 0 0))
def putW (f : Int → Option Value) (x : Int) (v : Option Value) : Int → Option Value := fun y => if y = x then v else f y
/-- The keys that a table has are numbers. -/
theorem keys_of {w : World} {b n : Nat} {H : Type} {R : Value → Option (DataW H × List MemPlace)} {D : DataW H} (h : w.ownsMap Try.prog 3 R b n D) : (intKeys D).Nodup ∧ ∀ x, x ∈ intKeys D ↔ Maps.has D (K x) = true := by
  obtain ⟨es, hD, hpw, _⟩ := h.entries keyed3
  obtain ⟨es', hD', hko⟩ := h.keysOf
  obtain rfl : es = es' := by rw [hD] at hD'; simpa using hD'
  subst hD
  have hk : ∀ p ∈ es, ∃ x, p.1 = .int .i64 x := fun p hp => by
    obtain ⟨v, hv⟩ := hko p hp
    obtain ⟨x, _, hx, _⟩ := Maps.keyOf_i64 Try.underlying3 hv
    exact ⟨x, hx⟩
  refine ⟨?_, fun x => ?_⟩
  · show (es.map fun p => Go.intOf p.1).Nodup
    refine List.pairwise_map.2 (hpw.imp_of_mem fun {p q} hp' hq' hne e => hne ?_)
    obtain ⟨a, ha⟩ := hk p hp'
    obtain ⟨b, hb⟩ := hk q hq'
    rw [ha, hb] at e ⊢
    exact congrArg _ e
  · rw [has_eq, List.any_eq_true]
    show x ∈ es.map (fun p => Go.intOf p.1) ↔ _
    rw [List.mem_map]
    constructor
    · rintro ⟨p, hp', rfl⟩
      obtain ⟨a, ha⟩ := hk p hp'
      exact ⟨p, hp', by rw [ha]; simp [Lit.sameKey, Go.intOf, K]⟩
    · rintro ⟨p, hp', hs⟩
      obtain ⟨a, ha⟩ := hk p hp'
      rw [ha] at hs
      exact ⟨p, hp', by rw [ha]; simpa [Lit.sameKey, Go.intOf, K] using hs⟩
section
variable {w w1 : World} {m n : Nat} {f : Int → Option Value} {F : Nat → Prop}
theorem WasAt.lt (h : WasAt w m n f) : m < w.heap.size := by obtain ⟨D, h, _⟩ := h; exact h.lt
theorem WasAt.touch (h : WasAt w m n f) (ht : Touch w w1 F) (hb : ¬ F m) : WasAt w1 m n f := by obtain ⟨D, h, r⟩ := h; exact ⟨D, ownsMap_touch h ht hb, r⟩
theorem WasAt.ext (h : WasAt w m n f) (he : Ext w w1) : WasAt w1 m n f := h.touch (Touch.of_below he (fun _ => False)) (fun h => h)
theorem WasAt.new (w : World) : WasAt (w.alloc (.map #[] 0)) w.heap.size 0 (fun _ => none) := ⟨_, World.ownsMap_made w _ _ _, fun x => ⟨rfl, rfl⟩⟩
theorem WasAt.look (h : WasAt w m n f) {x : Int} (hx : Wf x) : (Instr.lookup 62 (.map (some m)) (.int .i64 x) false).run Try.prog w = .ok ((f x).getD (.slice none 0 0)) w := by
  obtain ⟨D, h, r⟩ := h
  obtain ⟨v, ps, hrun, hv⟩ := h.lookup keyed3 Try.underlying62 (zero22 w) (show held (.slice none 0 0) = some (.held (.slice none 0 0), []) from rfl) (key_at hx)
  rw [(r x).2] at hv
  have e : v = (f x).getD (.slice none 0 0) := held_inj hv
  rw [hrun, e]
theorem WasAt.look_ok (h : WasAt w m n f) {x : Int} (hx : Wf x) : (Instr.lookup 62 (.map (some m)) (.int .i64 x) true).run Try.prog w = .ok (.tuple #[(f x).getD (.slice none 0 0), .bool (f x).isSome]) w := by
  obtain ⟨D, h, r⟩ := h
  obtain ⟨v, ps, hrun, hv⟩ := h.look_ok keyed3 Try.underlying62 (zero22 w) (show held (.slice none 0 0) = some (.held (.slice none 0 0), []) from rfl) (key_at hx)
  rw [(r x).2] at hv
  have e : v = (f x).getD (.slice none 0 0) := held_inj hv
  rw [hrun, (r x).1, e]
theorem WasAt.store {ops : Array Oper} {rest : List Oper} {o : Oper} {a : Act} {Q : Exit → Act → World → Prop} (hg : o.guard = none) (mm x v : Operand) (hop : o.op = Op.mapUpdate 62 mm x v)
    (hm : a.eval mm = .map (some m)) (h : WasAt w m n f) (hn : n < maxLen) (y : Int) (u : Value) (hx : a.eval x = .int .i64 y) (hv : a.eval v = u) (hy : Wf y)
    (hK : ∀ w', WasAt w' m (n + 1) (putW f y (some u)) → Touch w w' (fun k => k = m) → wpList Try.prog ops Q rest (a.put o.dst undef) w') : wpList Try.prog ops Q (o :: rest) a w := by
  obtain ⟨D, h, r⟩ := h
  refine wpList_mapUpdate_own w hg mm x v 62 hop 3 22 keyed3 Try.underlying62 held m n D hm h hn _ _ (K y) hx hv (key_at hy) (.held u) [] rfl fun w' h' hgr => ?_
  refine hK w' ⟨_, h', fun z => ?_⟩ ((Touch.refl w _).grown hgr (fun k e _ => by injection e with e; exact e.symm))
  unfold putW
  by_cases e : z = y
  · subst e
    rw [if_pos rfl, has_put_same h.isMap (isKey z), atKey_put_same h.isMap (isKey z)]
    exact ⟨rfl, rfl⟩
  · rw [if_neg e, has_put_other (key_ne e), atKey_put_other (key_ne e)]
    exact r z
/-- 'clear(m)' -/
theorem WasAt.clear_ (h : WasAt w m n f) : ∃ w', (∀ ty, (Builtin.clear_ #[62] ty #[.map (some m)]).run Try.prog w = .ok (.tuple #[]) w') ∧ WasAt w' m 0 (fun _ => none) ∧ Touch w w' (fun k => k = m) := by
  obtain ⟨D, h, r⟩ := h
  obtain ⟨es, clock, hb, F, hs, hD⟩ := h
  have hl : m < w.heap.size := (Array.getElem?_eq_some_iff.1 hb).1
  refine ⟨{ w with heap := w.heap.setIfInBounds m (.map #[] clock) }, fun ty => ?_, ⟨.map [], ⟨#[], clock, ?_, ⟨by simp, stamped_empty clock, by simp⟩, Nat.le_refl _, rfl⟩, fun x => ⟨rfl, rfl⟩⟩, ⟨rfl, rfl, rfl, by simp, fun k hk hn => ?_⟩⟩
  · simp [Builtin.clear_, run_underlying Try.underlying62, MapKept.run_getObj_map hb, MapKept.run_setObj_map _ hb, Result.andThen]
  · simp [hl]
  · simp [Array.getElem?_setIfInBounds]
    intro e
    exact absurd e.symm hn
end

/-! ### The keys of a table, rising -/
/-- a list that rises -/
def Rises (l : List Int) : Prop := l.Pairwise (· < ·)
theorem Rises.nodup {l : List Int} (h : Rises l) : l.Nodup := h.imp (fun h => by omega)
theorem rises_same {L M : List Int} (hL : Rises L) (hM : Rises M) (h : ∀ x, x ∈ L ↔ x ∈ M) : L = M := by
  refine List.Perm.eq_of_pairwise (le := fun a b => a ≤ b) (fun a b _ _ h1 h2 => by omega) (hL.imp (fun h => by omega)) (hM.imp (fun h => by omega)) ?_
  exact (List.perm_ext_iff_of_nodup hL.nodup hM.nodup).2 h
/-- the keys of a table, rising, in new memory -/
def GivesKeys (w : World) (n : Nat) (f : Int → Bool) (e : Ending) (w' : World) : Prop :=
  ∃ v L, e = .returned v ∧ Rises L ∧ (∀ x, x ∈ L ↔ f x = true) ∧ L.length ≤ n ∧ (∀ x ∈ L, Wf x) ∧ w'.ownsRow w.heap.size 3 1 v L.length (iv L) ∧ Ext w w'
theorem sorts (m : Nat) : AnyZI.SortsIn Try.prog Try.sortedA_ren Fence.wide m :=
  ⟨fun blk off cap ss W hH hblk hsz => callsIn_wide.2 (AnyM.slices_Sort_int Try.sortA blk off cap ss W hH hblk hsz),
   fun p cap W => callsIn_wide.2 (AnyM.slices_Sort_int_none Try.sortA p cap W)⟩
theorem keys_call (mb : Option Nat) (w : World) : Calls Try.prog 34 #[.map mb] w fun e w' => e = .returned (.func (.func 43) #[] #[.pointer (some ⟨w.heap.size, 0, none⟩)]) ∧ w.alloc (.cells #[.map mb] 62) = w' :=
  (callsIn_wide.1 (AnyZI.keys_in Try.keysA Fence.wide 5 trivial rfl mb w)).mono fun _ _ ⟨h1, h2⟩ => ⟨h1, h2.symm⟩
theorem rises_sorted {ss : List Int} (hn : ss.Nodup) : Rises (ss.mergeSort (fun x y => decide (x ≤ y))) := by
  have tr : ∀ a b c : Int, decide (a ≤ b) = true → decide (b ≤ c) = true → decide (a ≤ c) = true := fun a b c h1 h2 => by simp at *; omega
  have to : ∀ a b : Int, (decide (a ≤ b) || decide (b ≤ a)) = true := fun a b => by simp; omega
  have hp := List.pairwise_mergeSort tr to ss
  have hnd : (ss.mergeSort (fun x y => decide (x ≤ y))).Nodup := (List.mergeSort_perm ss _).nodup_iff.2 hn
  refine List.Pairwise.imp₂ (R := fun a b => decide (a ≤ b) = true) (S := fun a b => a ≠ b) (fun a b h1 h2 => ?_) hp hnd
  simp at h1
  omega
theorem sorted_call (b n : Nat) (f : Int → Option Value) (w : World) (h : WasAt w b n f) (hn : n ≤ 1048576) :
    Calls Try.prog 33 #[.func (.func 43) #[] #[.pointer (some ⟨w.heap.size, 0, none⟩)]] (w.alloc (.cells #[.map (some b)] 62)) (GivesKeys w n (fun x => (f x).isSome)) := by
  obtain ⟨D, hown, r⟩ := h
  have hbl := hown.lt
  obtain ⟨hnd, hmem⟩ := keys_of hown
  have hsz : Maps.size D ≤ n := hown.size_le
  have hseq : SeqGives Fence.wide 2 Try.prog 43 #[.pointer (some ⟨w.heap.size, 0, none⟩)] encZ (fun ss => ss.Perm (intKeys D)) (Maps.size D) (w.alloc (.cells #[.map (some b)] 62)) :=
    AnyZI.keys_gives (ρ := Try.keysA_ren) { Try.keysA with } Fence.wide _ trivial rfl (by omega) w.heap.size b n D _ (by simp) (by simp) (by
      obtain ⟨es, clock, hb, Ft, hs, hD⟩ := hown
      exact ⟨es, clock, (Below.heap_alloc _ _ b hbl).trans hb, Ft, hs, hD⟩)
  have cS := AnyZI.sorted_in Try.sortedA Fence.wide 5 trivial trivial trivial trivial rfl (by omega) (sorts _) (enters_of Try.func42 (by kernel_rfl) rfl) 43 #[.pointer (some ⟨w.heap.size, 0, none⟩)] trivial (enters_of Try.func43 (by kernel_rfl) rfl) _ _ (by unfold maxLen; omega) (by omega) _ hseq
  change CallsIn _ _ Try.prog 33 _ _ _ at cS
  refine (callsIn_wide.1 cS).mono ?_
  rintro e w' ⟨v, ss, rfl, hS, hrow, hnil, hb⟩
  have hssn : ss.Nodup := hS.nodup_iff.2 hnd
  have hE : Ext w w' := Ext.trans (Ext.new w _) hb
  refine ⟨v, ss.mergeSort (fun x y => decide (x ≤ y)), rfl, rises_sorted hssn, fun x => ?_, ?_, fun x hx => ?_, ?_, hE⟩
  · rw [List.mem_mergeSort, hS.mem_iff, hmem x, (r x).1]
  · rw [List.length_mergeSort]
    have h1 := hS.length_eq
    have h2 : (intKeys D).length = Maps.size D := by
      obtain ⟨es, rfl⟩ := hown.isMap
      simp [intKeys, Maps.size]
    omega
  · rw [List.mem_mergeSort, hS.mem_iff] at hx
    exact intKeys_wf hown Try.underlying3 x hx
  · rw [List.length_mergeSort]
    exact World.ownsRow.mono hrow (by simp)
end Go.Proofs.Ytpbenpkgbhmldaa
