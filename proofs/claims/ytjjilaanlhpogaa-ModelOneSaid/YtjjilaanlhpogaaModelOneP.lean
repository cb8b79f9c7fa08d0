/- ModelOne: the rows of a few keys, in plain Lean; what a step does to them. -/
import Derived.Test.YtjjilaanlhpogaaModelP
namespace Go.Proofs.Ytjjilaanlhpogaa.modelOne
open Go.ChangeShapes Go.WideShapes Go.ChangeAt Go.RowKit Go.Maps Go.MapKept Go.Sort
set_option linter.unusedVariables false

/-- the row of the key k with the value of the round v; 0 of a list is no row, v + 1 the value v -/
def rwO (k v : Nat) : Rw := ⟨lt 97 k, ⟨#[115]⟩, lt 48 v⟩
def valO (l : List Nat) (k : Nat) : Option Rw := if l.getD k 0 = 0 then none else some (rwO k (l.getD k 0 - 1))
theorem valO_at {l : List Nat} {k u : Nat} (h : l[k]? = some u) : valO l k = if u = 0 then none else some (rwO k (u - 1)) := by
  unfold valO
  rw [List.getD_eq_getElem?_getD, h]
  rfl
theorem valO_none : valO (List.replicate 8 0) = fun _ => none := by
  funext j
  unfold valO
  rw [List.getD_eq_getElem?_getD, List.getElem?_replicate]
  split <;> rfl
theorem valO_set {l : List Nat} {k x : Nat} (hk : k < l.length) : (fun j => if j = k then (if x = 0 then none else some (rwO k (x - 1))) else valO l j) = valO (l.set k x) := by
  funext j
  by_cases e : j = k
  · subst e
    rw [if_pos rfl, valO_at (u := x) (by simp [hk])]
  · rw [if_neg e]
    unfold valO
    simp only [List.getD_eq_getElem?_getD]
    rw [List.getElem?_set_ne (fun h => e h.symm)]
theorem valO_same {l : List Nat} {k u : Nat} (h : l[k]? = some u) : l.set k u = l := by
  obtain ⟨hk, e⟩ := List.getElem?_eq_some_iff.1 h
  subst e
  exact List.set_getElem_self hk
def wantO (kd : Int) (u : Nat) : Int := if kd = 3 then (if u = 0 then 0 else 8) else if u = 0 then 9 else 0
def nextO (kd : Int) (u v : Nat) : Nat := if kd = 3 then (if u = 0 then v + 1 else u) else if kd = 4 then (if u = 0 then 0 else v + 1) else 0
theorem rzO (k v : Nat) : Rz (rwO k v) := by
  unfold Rz rwO
  rw [lt_size, lt_size]
  unfold maxLen
  simp [ByteArray.size]
theorem _root_.Go.Proofs.Ytjjilaanlhpogaa.Md.more {W w : World} {g m n n' : Nat} {f : ByteArray → Option Rw} (h : Md W w g m n f) (hn : n ≤ n') : Md W w g m n' f := { h with rows := h.rows.more hn }
theorem do_one (W w : World) (g m N k v u : Nat) (kd : Int) (f : ByteArray → Option Rw) (l : List Nat) (hkd : kd = 3 ∨ kd = 4 ∨ kd = 5) (h : Md W w g m N f) (hN : N ≤ 1000) (ht : Tab 8 f (valO l)) (hk : k < 8) (hu : l[k]? = some u) :
    Calls Try.prog 10 #[.pointer (some ⟨g, 0, none⟩), stv kd 0 0 (rwO k v) none 0 0] w fun e w' => e = .returned (.agg #[.int .i64 (wantO kd u), .slice none 0 0]) ∧
      (∃ f', Md W w' g m (N + 1) f' ∧ Tab 8 f' (valO (l.set k (nextO kd u v)))) ∧ ∀ b t cs, Blk w b t cs → t ≠ 52 → Blk w' b t cs := by
  have hf : f (rwO k v).k = if u = 0 then none else some (rwO k (u - 1)) := (ht.at_ k hk).trans (valO_at hu)
  have hl : k < l.length := (List.getElem?_eq_some_iff.1 hu).1
  have put : ∀ x : Nat, Tab 8 (putR f (rwO k v).k (if x = 0 then none else some (rwO k (x - 1)))) (valO (l.set k x)) := fun x => by
    rw [← valO_set hl]
    exact ht.put (by decide) hk _
  have same : u = 0 → Tab 8 f (valO (l.set k 0)) := fun e => by
    subst e
    rw [valO_same hu]
    exact ht
  rcases hkd with rfl | rfl | rfl
  · by_cases e : u = 0
    · rw [if_pos e] at hf
      refine (do_put W w g m N f 0 0 (rwO k v) none 0 0 h hN (rzO k v) rfl hf).mono ?_
      rintro e' w' ⟨rfl, hd, hb⟩
      refine ⟨by simp [wantO, e], ⟨_, hd, ?_⟩, hb⟩
      have := put (v + 1)
      simpa [nextO, e] using this
    · rw [if_neg e] at hf
      refine (do_put_dup W w g m N f 0 0 (rwO k v) none 0 0 h hN (rzO k v) rfl _ hf).mono ?_
      rintro e' w' ⟨rfl, hx⟩
      refine ⟨by simp [wantO, e], ⟨f, (h.ex hx).more (Nat.le_succ N), ?_⟩, fun b t cs hb _ => hx.blk hb⟩
      rw [show nextO 3 u v = u by simp [nextO, e], valO_same hu]
      exact ht
  · by_cases e : u = 0
    · rw [if_pos e] at hf
      refine (do_upd_none W w g m N f 0 0 (rwO k v) none 0 0 h hN (rzO k v) rfl hf).mono ?_
      rintro e' w' ⟨rfl, hx⟩
      refine ⟨by simp [wantO, e], ⟨f, (h.ex hx).more (Nat.le_succ N), ?_⟩, fun b t cs hb _ => hx.blk hb⟩
      rw [show nextO 4 u v = 0 by simp [nextO, e]]
      exact same e
    · rw [if_neg e] at hf
      refine (do_upd W w g m N f 0 0 (rwO k v) none 0 0 h hN (rzO k v) rfl _ hf).mono ?_
      rintro e' w' ⟨rfl, hd, hb⟩
      refine ⟨by simp [wantO, e], ⟨_, hd, ?_⟩, hb⟩
      have := put (v + 1)
      simpa [nextO, e] using this
  · by_cases e : u = 0
    · rw [if_pos e] at hf
      refine (do_del_none W w g m N f 0 0 (rwO k v) none 0 0 h hN (rzO k v) rfl hf).mono ?_
      rintro e' w' ⟨rfl, hx⟩
      refine ⟨by simp [wantO, e], ⟨f, (h.ex hx).more (Nat.le_succ N), ?_⟩, fun b t cs hb _ => hx.blk hb⟩
      rw [show nextO 5 u v = 0 by simp [nextO]]
      exact same e
    · rw [if_neg e] at hf
      refine (do_del W w g m N f 0 0 (rwO k v) none 0 0 h hN (rzO k v) rfl _ hf).mono ?_
      rintro e' w' ⟨rfl, hd, hb⟩
      refine ⟨by simp [wantO, e], ⟨_, hd.more (Nat.le_succ N), ?_⟩, hb⟩
      have := put 0
      simpa [nextO, e] using this
/-- the rows that a scan from the key j finds -/
def gO (l : List Nat) (j k : Nat) : Option Rw := (valO l k).filter fun q => geK q ⟨lt 97 j, ⟨#[]⟩, ⟨#[]⟩⟩
theorem gO_low {l : List Nat} {j k : Nat} (hj : j < 8) (hk : k < j) : gO l j k = none := by
  unfold gO valO
  by_cases e : l.getD k 0 = 0
  · rw [if_pos e]; rfl
  · rw [if_neg e]
    have : ¬ (ll 97 j ≤ ll 97 k) := fun h => by have := (ll_le (by omega) (by omega)).1 h; omega
    simp [geK, rwO, lt_data, this]
theorem gO_yes {l : List Nat} {j k u : Nat} (h : l[k]? = some (u + 1)) (hj : j ≤ k) (hk : k < 8) : gO l j k = some (rwO k u) := by
  unfold gO
  rw [valO_at h]
  have : ll 97 j ≤ ll 97 k := (ll_le (by omega) (by omega)).2 hj
  simp [geK, rwO, lt_data, this]
theorem gO_no {l : List Nat} {j k : Nat} (h : l[k]? = some 0) : gO l j k = none := by
  unfold gO
  rw [valO_at h]
  rfl
end Go.Proofs.Ytjjilaanlhpogaa.modelOne
