/- Look: entries by numbers; a row of entries that is read. -/
import Derived.Test.YtaijgnhkdbdfcaaEnt
namespace Go.Proofs.Ytaijgnhkdbdfcaa
open Go.ChangeShapes Go.WideShapes Go.ChangeAt Go.RowKit
set_option linter.unusedVariables false

def someX (x : Nat) : En := ⟨someE x, [], [], []⟩
theorem some_lit (A : Option Addr) (c n : Nat) (ns : List Nat) (w : World) (hr : Reads w w.heap.size 1 A n (nv ns)) (hn : n = ns.length) (hz : ∀ x ∈ ns, x ≤ 65535) (hl : n ≤ 100) :
    Calls Try.prog 14 #[.slice A n c] w fun e w' => ∃ A3 c3, e = .returned (.slice A3 n c3) ∧ EnsOwn w' w.heap.size (ns.map someX) A3 n c3 ∧ Ext w w' :=
  (some_any A c n ns w hr hn hz hl).mono fun e w' ⟨A3, c3, vs, he, ho, hv, hx⟩ => by
    have hlen : (ns.map someE).length = n := by rw [List.length_map, hn]
    rw [hlen] at he ho
    refine ⟨A3, c3, he, ⟨by rw [List.length_map, hn], vs, ho, ?_⟩, hx⟩
    have := hv.ens
    rw [List.map_map] at this
    exact this
theorem EnsOwn.far {w w' : World} {base n c g : Nat} {l : List En} {A : Option Addr} {t : TypeId} {cs : Array Value} (h : EnsOwn w base l A n c) (ht : Touch w w' (fun k => k = g)) (hB : Blk w g t cs) (h1 : t ≠ 35 ∧ t ≠ 5 ∧ t ≠ 54 ∧ t ≠ 49 ∧ t ≠ 40 ∧ t ≠ 56) : EnsOwn w' base l A n c := by
  obtain ⟨h0, vs, h2, h3, h4⟩ := h
  refine ⟨h0, vs, row_apart1 ht hB h2 h1.1.symm, h3, fun k X hX => ?_⟩
  obtain ⟨AN, cN, AM, cM, EL, cEL, ED, cED, EO, cEO, hc, he⟩ := h4 k X hX
  obtain ⟨os, ho, hos⟩ := he.s.o
  exact ⟨AN, cN, AM, cM, EL, cEL, ED, cED, EO, cEO, hc, row_apart1 ht hB he.n h1.2.1.symm, row_apart1 ht hB he.m h1.2.2.1.symm, row_apart1 ht hB he.s.l h1.2.2.2.1.symm, row_apart1 ht hB he.s.d h1.2.2.2.2.1.symm, os, row_apart1 ht hB ho h1.2.2.2.2.2.symm, hos.keep fun _ _ _ hr => row_apart1 ht hB hr h1.2.2.1.symm⟩
theorem EnsOwn.cells {w : World} {base n c k : Nat} {l : List En} {A : Option Addr} {X : En} (h : EnsOwn w base l A n c) (hX : l[k]? = some X) :
    ∃ g AN cN AM cM EL cEL ED cED EO cEO, A = some ⟨g, 0, none⟩ ∧ g < w.heap.size ∧ (∀ j u, (enC X AN cN AM cM EL cEL ED cED EO cEO)[j]? = some u → w.cell? ⟨g, k * 16 + j, none⟩ = some u) ∧ EnAt w X AN cN AM cM EL cEL ED cED EO cEO := by
  obtain ⟨h0, vs, h2, h3⟩ := h
  have hk := (List.getElem?_eq_some_iff.1 hX).1
  obtain ⟨AN, cN, AM, cM, EL, cEL, ED, cED, EO, cEO, hc, he⟩ := h3.2 k X hX
  obtain ⟨g, cap, hvv, _, hg⟩ := h2.form (by omega)
  injection hvv with hA
  subst hA
  refine ⟨g, AN, cN, AM, cM, EL, cEL, ED, cED, EO, cEO, rfl, hg, fun j u hj => ?_, he⟩
  have := (List.getElem?_eq_some_iff.1 hj).1
  rw [enC_len] at this
  rw [h2.cellAt _ (by omega)]
  exact hc j u hj
theorem some_bd (ns : List Nat) (m : Nat) : ∀ k X, (ns.map someX)[k]? = some X → BdX (m + k) X := fun k X hx => by
  obtain ⟨x, _, rfl⟩ := List.mem_map.1 (List.mem_of_getElem? hx)
  exact ⟨by simp [someX, someE], by simp [someX], by simp [someX], by simp [someX], by simp [someX]⟩
end Go.Proofs.Ytaijgnhkdbdfcaa
