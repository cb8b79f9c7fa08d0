/- Model: tables of numbered keys, in plain Lean. -/
import Derived.Test.YtjjilaanlhpogaaModelG
namespace Go.Proofs.Ytjjilaanlhpogaa
open Go.ChangeShapes Go.WideShapes Go.ChangeAt Go.RowKit Go.Maps Go.MapKept Go.Sort
set_option linter.unusedVariables false

/-- a name of one letter: the letter 'a', 'x', '0', and so many on -/
def lt (a k : Nat) : ByteArray := ⟨#[UInt8.ofNat (a + k)]⟩
def ll (a k : Nat) : List UInt8 := [UInt8.ofNat (a + k)]
theorem bt_ll (a k : Nat) : bt (ll a k) = lt a k := rfl
theorem lt_data (a k : Nat) : (lt a k).data.toList = ll a k := rfl
theorem lt_size (a k : Nat) : (lt a k).size = 1 := rfl
theorem ll_le {a j k : Nat} (hj : a + j < 256) (hk : a + k < 256) : ll a j ≤ ll a k ↔ j ≤ k := by
  unfold ll
  rw [← List.not_lt, List.cons_lt_cons_iff]
  simp only [List.not_lt_nil, and_false, or_false, UInt8.lt_iff_toNat_lt, UInt8.toNat_ofNat']
  omega
theorem ll_inj {a j k : Nat} (hj : a + j < 256) (hk : a + k < 256) (h : ll a j = ll a k) : j = k := by
  have h1 := (ll_le hj hk).1 (by rw [h]; exact List.le_refl _)
  have h2 := (ll_le hk hj).1 (by rw [h]; exact List.le_refl _)
  omega
theorem lt_inj {a j k : Nat} (hj : a + j < 256) (hk : a + k < 256) (h : lt a j = lt a k) : j = k := ll_inj hj hk (by rw [← lt_data, ← lt_data, h])
/-- a table has just the rows that 'val' tells, at the keys a, b, .. -/
structure Tab (n : Nat) (f : ByteArray → Option Rw) (val : Nat → Option Rw) : Prop where
  at_ : ∀ k, k < n → f (lt 97 k) = val k
  only : ∀ x, (f x).isSome = true → ∃ k, k < n ∧ x = lt 97 k
theorem Tab.none (n : Nat) : Tab n (fun _ => none) (fun _ => none) := ⟨fun _ _ => rfl, fun _ h => by cases h⟩
theorem Tab.put {n k : Nat} {f : ByteArray → Option Rw} {val : Nat → Option Rw} (h : Tab n f val) (hn : n ≤ 100) (hk : k < n) (o : Option Rw) :
    Tab n (putR f (lt 97 k) o) (fun j => if j = k then o else val j) where
  at_ j hj := by
    unfold putR
    by_cases e : j = k
    · subst e; simp
    · rw [if_neg (fun h => e (lt_inj (by omega) (by omega) h)), if_neg e]
      exact h.at_ j hj
  only x hx := by
    unfold putR at hx
    by_cases e : x = lt 97 k
    · exact ⟨k, hk, e⟩
    · rw [if_neg e] at hx
      exact h.only x hx
/-- which keys it has -/
def ks (n : Nat) (val : Nat → Option Rw) : List Nat := (List.range n).filter fun k => (val k).isSome
theorem Tab.keys {n : Nat} {f : ByteArray → Option Rw} {val : Nat → Option Rw} (h : Tab n f val) (hn : n ≤ 100) {L : List (List UInt8)} (hL : Keys f L) : L = (ks n val).map (ll 97) := by
  refine risesS_same hL.1 ⟨?_, ?_⟩ fun x => ?_
  · rw [List.pairwise_map]
    refine List.Pairwise.imp_of_mem ?_ (List.Pairwise.filter _ List.pairwise_lt_range)
    intro i j hi hj hij
    have hi := List.mem_range.1 (List.mem_filter.1 hi).1
    have hj := List.mem_range.1 (List.mem_filter.1 hj).1
    exact decide_eq_true ((ll_le (by omega) (by omega)).2 (by omega))
  · unfold List.Nodup
    rw [List.pairwise_map]
    refine List.Pairwise.imp_of_mem ?_ (List.Pairwise.filter _ List.pairwise_lt_range)
    intro i j hi hj hij e
    have hi := List.mem_range.1 (List.mem_filter.1 hi).1
    have hj := List.mem_range.1 (List.mem_filter.1 hj).1
    have := ll_inj (by omega) (by omega) e
    omega
  · rw [hL.2, List.mem_map]
    constructor
    · intro hx
      obtain ⟨k, hk, e⟩ := h.only _ hx
      refine ⟨k, ?_, ?_⟩
      · unfold ks
        rw [List.mem_filter, List.mem_range, ← h.at_ k hk, ← e]
        exact ⟨hk, hx⟩
      · rw [← bt_ll] at e
        have := congrArg (fun b => b.data.toList) e
        simpa [bt_data] using this.symm
    · rintro ⟨k, hk, rfl⟩
      unfold ks at hk
      rw [List.mem_filter, List.mem_range] at hk
      rw [bt_ll, h.at_ k hk.1]
      exact hk.2
theorem fm_filter {α β : Type} (g : α → Option β) (d : β) (l : List α) : ((l.filter fun k => (g k).isSome).map fun k => (g k).getD d) = l.filterMap g := by
  induction l with
  | nil => rfl
  | cons a l ih =>
    cases h : g a with
    | none => simp [h, ih]
    | some b => simp [h, ih]
theorem Tab.rows {n : Nat} {f : ByteArray → Option Rw} {val : Nat → Option Rw} (h : Tab n f val) (hn : n ≤ 100) {L : List (List UInt8)} (hL : Keys f L) : rowsL f L = (List.range n).filterMap val := by
  rw [h.keys hn hL]
  unfold rowsL ks
  rw [List.map_map, ← fm_filter val r0]
  refine List.map_congr_left fun k hk => ?_
  have hk := List.mem_range.1 (List.mem_filter.1 hk).1
  show (f (bt (ll 97 k))).getD r0 = _
  rw [bt_ll, h.at_ k hk]
theorem Tab.such {n : Nat} {f : ByteArray → Option Rw} {val : Nat → Option Rw} (h : Tab n f val) (hn : n ≤ 100) {L : List (List UInt8)} (hL : Keys f L) (P : Rw → Bool) : (rowsL f L).filter P = (List.range n).filterMap fun k => (val k).filter P := by
  rw [h.rows hn hL, List.filter_filterMap]
/-- how many ahead of k -/
def cn (g : Nat → Option Rw) (k : Nat) : Nat := ((List.range k).filterMap g).length
theorem cn_zero {g : Nat → Option Rw} {k : Nat} (h : ∀ j, j < k → g j = none) : cn g k = 0 := by
  unfold cn
  rw [List.length_eq_zero_iff, List.filterMap_eq_nil_iff]
  exact fun j hj => h j (List.mem_range.1 hj)
theorem cn_none {g : Nat → Option Rw} {k : Nat} (h : g k = none) : cn g (k + 1) = cn g k := by
  unfold cn
  rw [List.range_succ, List.filterMap_append]
  simp [h]
theorem cn_some {g : Nat → Option Rw} {k : Nat} {r : Rw} (h : g k = some r) : cn g (k + 1) = cn g k + 1 := by
  unfold cn
  rw [List.range_succ, List.filterMap_append]
  simp [h]
theorem cn_le (g : Nat → Option Rw) (k : Nat) : cn g k ≤ k := by
  unfold cn
  exact Nat.le_trans (List.length_filterMap_le _ _) (by simp)
theorem cn_at {g : Nat → Option Rw} {n k : Nat} {r : Rw} (h : g k = some r) (hk : k < n) : ((List.range n).filterMap g)[cn g k]? = some r := by
  have e : List.range n = List.range k ++ (k :: (List.range (n - k - 1)).map (· + (k + 1))) := by
    obtain ⟨m, rfl⟩ : ∃ m, n = k + (m + 1) := ⟨n - k - 1, by omega⟩
    rw [List.range_add, List.range_succ_eq_map]
    simp only [List.map_cons, List.map_map, Nat.add_zero]
    congr 2
    rw [show k + (m + 1) - k - 1 = m by omega]
    refine List.map_congr_left fun j _ => ?_
    simp; omega
  rw [e, List.filterMap_append, List.filterMap_cons, h]
  unfold cn
  rw [List.getElem?_append_right (Nat.le_refl _)]
  simp
theorem Md.set_ {W w : World} {g m n b i : Nat} {f : ByteArray → Option Rw} {t : TypeId} {cs : Array Value} {u : Value} (h : Md W w g m n f) (hb : Blk w b t cs) (ht : t ≠ 52) (hW : W.heap.size ≤ b) : Md W (w.setCell ⟨b, i, none⟩ u) g m n f where
  blk := h.blk.far (p := ⟨b, i, none⟩) (Blk.ne_ h.blk hb (fun e => ht e.symm)) u
  rows := by
    obtain ⟨D, hD, _⟩ := h.rows
    exact h.rows.touch (Touch.setCell (F := fun k => k = b) (p := ⟨b, i, none⟩) (Touch.refl w _) (fun _ => rfl) u) (fun e => map_ne hb hD e.symm)
  key := h.key
  hg := h.hg
  hm := h.hm
  ext := h.ext.set_ (p := ⟨b, i, none⟩) hW u
theorem keyed_put {f : ByteArray → Option Rw} {r : Rw} (hr : Rz r) (h : ∀ x q, f x = some q → q.k = x ∧ Rz q) : ∀ x q, putR f r.k (some r) x = some q → q.k = x ∧ Rz q := fun x q hq => by
  unfold putR at hq
  by_cases e : x = r.k
  · rw [if_pos e] at hq; injection hq with hq; subst hq; exact ⟨e.symm, hr⟩
  · rw [if_neg e] at hq; exact h x q hq
theorem und32 : Try.prog.underlying 32 = some (.slice 5) := by kernel_rfl
theorem und5 : Try.prog.underlying 5 = some (.int .u8) := by kernel_rfl
/-- a name of one letter, made -/
theorem conv_lt {w : World} {b : Nat} {x : Int} {a k : Nat} (h : Blk w b 5 #[.int .u8 x]) (hx : x = ((a + k : Nat) : Int)) (hk : a + k < 256) : (convert 32 9 (.slice (some ⟨b, 0, none⟩) 1 1)).run Try.prog w = .ok (.string (lt a k)) w := by
  have hr : Reads w w.heap.size 1 (some ⟨b, 0, none⟩) 1 (bv (ll a k)) := by
    refine ⟨rfl, fun _ => ⟨_, rfl, h.lt, fun j u hu => ?_⟩⟩
    have e : (⟨b, 0, none⟩ : Addr).add j = ⟨b, j, none⟩ := by unfold Addr.add; split <;> simp_all
    rw [e, h.cell, hx]
    have e2 : ((UInt8.ofNat (a + k)).toNat : Int) = ((a + k : Nat) : Int) := by rw [UInt8.toNat_ofNat', Nat.mod_eq_of_lt (by omega)]
    simp only [bv, ll, List.map_cons, List.map_nil, e2] at hu
    simpa using hu
  exact run_string_of_reads 32 9 5 1 und32 und5 Try.underlying9 hr
end Go.Proofs.Ytjjilaanlhpogaa
