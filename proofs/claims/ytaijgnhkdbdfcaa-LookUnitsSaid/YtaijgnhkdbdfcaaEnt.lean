/- Look: entries in a row that grows; bytes that come in as numbers. -/
import Derived.Test.YtaijgnhkdbdfcaaLookZ
import Derived.Test.YtaijgnhkdbdfcaaLawL
namespace Go.Proofs.Ytaijgnhkdbdfcaa
open Go.ChangeShapes Go.WideShapes Go.ChangeAt Go.RowKit
set_option linter.unusedVariables false

/-- what was turned are blocks of entries -/
def F35 (w : World) (F : Nat → Prop) : Prop := ∀ k, F k → k < w.heap.size → ∃ cs, Blk w k 35 cs
theorem row35 {w w' : World} {F : Nat → Prop} {b e m n : Nat} {v : Value} {xs : List Value} (h : w.ownsRow b e m v n xs) (ht : Touch w w' F) (hF : F35 w F) (he : e ≠ 35) : w'.ownsRow b e m v n xs :=
  ownsRow_touch ht h fun k hk hf => by
    obtain ⟨cs, hB⟩ := own_block h hk
    obtain ⟨cs', hB'⟩ := hF k hf hB.lt
    exact Blk.ne_ hB hB' he rfl
theorem EnAt.touch35 {w w' : World} {F : Nat → Prop} {X : En} {AN cN AM cM AL cL AD cD AO cO} (h : EnAt w X AN cN AM cM AL cL AD cD AO cO) (ht : Touch w w' F) (hF : F35 w F) : EnAt w' X AN cN AM cM AL cL AD cD AO cO := by
  obtain ⟨os, ho, hos⟩ := h.s.o
  exact ⟨row35 h.n ht hF (by decide), row35 h.m ht hF (by decide), row35 h.s.l ht hF (by decide), row35 h.s.d ht hF (by decide), os, row35 ho ht hF (by decide), hos.keep fun _ _ _ hr => row35 hr ht hF (by decide)⟩
theorem EnIs.touch35 {w w' : World} {F : Nat → Prop} {X : En} {cs : List Value} (h : EnIs w X cs) (ht : Touch w w' F) (hF : F35 w F) : EnIs w' X cs := by
  obtain ⟨AN, cN, AM, cM, AL, cL, AD, cD, AO, cO, e, h⟩ := h
  exact ⟨AN, cN, AM, cM, AL, cL, AD, cD, AO, cO, e, h.touch35 ht hF⟩
theorem EnsAre.touch35 {w w' : World} {F : Nat → Prop} {l : List En} {vs : List Value} (h : EnsAre w l vs) (ht : Touch w w' F) (hF : F35 w F) : EnsAre w' l vs :=
  ⟨h.1, fun k X hX => by
    obtain ⟨AN, cN, AM, cM, EL, cEL, ED, cED, EO, cEO, hc, he⟩ := h.2 k X hX
    exact ⟨AN, cN, AM, cM, EL, cEL, ED, cED, EO, cEO, hc, he.touch35 ht hF⟩⟩
theorem EnIs.one {w : World} {X : En} {cs : List Value} (h : EnIs w X cs) : ∀ u ∈ cs, u.oneCell' = true := by
  obtain ⟨AN, cN, AM, cM, AL, cL, AD, cD, AO, cO, rfl, h⟩ := h
  intro u hu
  simp only [enC, List.mem_cons, List.not_mem_nil, or_false] at hu
  rcases hu with rfl | rfl | rfl | rfl | rfl | rfl | rfl | rfl | rfl | rfl | rfl | rfl | rfl | rfl | rfl | rfl <;> rfl
/-- entries in a row of the call's own -/
def EnsOwn (w : World) (base : Nat) (l : List En) (A : Option Addr) (n c : Nat) : Prop := n = l.length ∧ ∃ vs, w.ownsRow base 35 16 (.slice A n c) n vs ∧ EnsAre w l vs
theorem EnsOwn.nil (w : World) (base : Nat) : EnsOwn w base [] none 0 0 := ⟨rfl, [], World.ownsRow_nil _ _ _ _, EnsAre.nil w⟩
theorem EnsOwn.ext {w w' : World} {base n c : Nat} {l : List En} {A : Option Addr} (h : EnsOwn w base l A n c) (hx : Ext w w') : EnsOwn w' base l A n c := by
  obtain ⟨h0, vs, h1, h2⟩ := h
  exact ⟨h0, vs, hx.own h1, h2.ext hx⟩
theorem EnsOwn.at_ {w : World} {base n c : Nat} {l : List En} {A : Option Addr} (h : EnsOwn w base l A n c) : EnsAt w A n l := by
  obtain ⟨h0, vs, h1, h2⟩ := h
  exact EnsAt.of_own h1 h0 h2
theorem EnsOwn.cap {w : World} {base n c : Nat} {l : List En} {A : Option Addr} (h : EnsOwn w base l A n c) : n ≤ c := by
  obtain ⟨h0, vs, h1, h2⟩ := h
  obtain ⟨_, _, e, _, hnc, _⟩ := own_form h1
  injection e with e1 e2 e3
  subst e3
  exact hnc
/-- an entry more, at the operation -/
theorem wpList_append_ens {ops : Array Oper} {rest : List Oper} {o : Oper} {a : Act} {Q : Exit → Act → World → Prop} (w : World) (hgd : o.guard = none) (s x : Operand)
    (ho : o.op = .call { callee := .builtin .append, args := #[s, x], argTypes := #[25, 25] }) (base : Nat) (l : List En) (A : Option Addr) (n c : Nat) (hs : a.eval s = .slice A n c) (vb : Nat) (hx : a.eval x = .slice (some ⟨vb, 0, none⟩) 1 1) (X : En) (cs : List Value)
    (hown : EnsOwn w base l A n c) (hv : Blk w vb 35 cs.toArray) (hX : EnIs w X cs) (hn : n ≤ 1000) (hb : base ≤ w.heap.size)
    (h : ∀ A' c' w', EnsOwn w' base (l ++ [X]) A' (n + 1) c' → Touch w w' (fun k => Value.ownBlock (.slice A n c) = some k) → (∀ {w0 : World}, w0.heap.size ≤ base → Ext w0 w → Ext w0 w') → (∀ b e m v n xs, e ≠ 35 → w.ownsRow b e m v n xs → w'.ownsRow b e m v n xs) → wpList Try.prog ops Q rest (a.put o.dst (.slice A' (n + 1) c')) w') : wpList Try.prog ops Q (o :: rest) a w := by
  obtain ⟨i0, z0, hi0, hz0, hzs0, hs0, hb0⟩ := info_parts2 Try.info35'
  obtain ⟨h0, vs, h1, h2⟩ := hown
  have hl : cs.length = 16 := by
    obtain ⟨AN, cN, AM, cM, AL, cL, AD, cD, AO, cO, rfl, _⟩ := hX
    rfl
  refine wpList_append_any w hgd s x 25 ho base 35 i0 z0 16 224 Try.underlying25 hi0 hz0 hs0 hb0 hzs0 (by omega) (.slice A n c) n vs hs h1 _ (some ⟨vb, 0, none⟩) 1 1 cs hx (by have := reads_blk (m := 16) hv (by simpa using hl); simpa using this) hX.one (by simp only [maxLen]; omega) (by omega) hb ?_
  intro v' w' ho' hg' hat'
  obtain ⟨A', c', hv', _⟩ := own_form ho'
  subst hv'
  have ht : Touch w w' (fun k => Value.ownBlock (.slice A n c) = some k) := (Touch.refl w _).grown hg' (fun k hk _ => hk)
  have hF : F35 w (fun k => Value.ownBlock (.slice A n c) = some k) := fun k hk _ => own_block h1 hk
  exact h A' c' w' ⟨by rw [List.length_append, h0]; rfl, _, ho', (h2.touch35 ht hF).snoc (hX.touch35 ht hF)⟩ ht (fun {w0} hb0 hx0 => Below.trans hx0 (ht.below (Ext.size hx0) (fun k hk => Nat.le_trans hb0 (own_ge h1 hk)))) (fun b e m v n xs he hr => row35 hr ht hF he)
end Go.Proofs.Ytaijgnhkdbdfcaa
