/- Touch: what a call may have written (XKit's later words, for this seat). -/
import Derived.Test.YtogminifliceaaaKit
namespace Go.Proofs.Ytogminifliceaaa
open Go.ChangeShapes Go.WideShapes Go.ChangeAt Go.RowKit
set_option linter.unusedVariables false

/-! ### What a call may have written -/
/-- w' is w with new blocks, and with writes to blocks of F alone. -/
structure Touch (w w' : World) (F : Nat → Prop) : Prop where
  os : w'.os = w.os
  tape : w'.tape = w.tape
  output : w'.output = w.output
  size : w.heap.size ≤ w'.heap.size
  block : ∀ k, k < w.heap.size → ¬ F k → w'.heap[k]? = w.heap[k]?
section
variable {w w1 w2 : World} {F F' : Nat → Prop}
theorem Touch.refl (w : World) (F : Nat → Prop) : Touch w w F := ⟨rfl, rfl, rfl, Nat.le_refl _, fun _ _ _ => rfl⟩
theorem Touch.trans (h : Touch w w1 F) (h' : Touch w1 w2 F') (hF : ∀ k, k < w.heap.size → F' k → F k) : Touch w w2 F :=
  ⟨h'.os.trans h.os, h'.tape.trans h.tape, h'.output.trans h.output, Nat.le_trans h.size h'.size, fun k hk hn =>
    (h'.block k (Nat.lt_of_lt_of_le hk h.size) fun hf => hn (hF k hk hf)).trans (h.block k hk hn)⟩
theorem Touch.more (h : Touch w w1 F) (hF : ∀ k, k < w.heap.size → F k → F' k) : Touch w w1 F' :=
  ⟨h.os, h.tape, h.output, h.size, fun k hk hn => h.block k hk fun hf => hn (hF k hk hf)⟩
theorem Touch.below {B : Nat} (h : Touch w w1 F) (hB : B ≤ w.heap.size) (hF : ∀ k, F k → B ≤ k) : Below B w w1 :=
  ⟨h.os, h.tape, h.output, h.size, fun k hk => h.block k (by omega) fun hf => by have := hF k hf; omega⟩
theorem Touch.of_below (h : Below w.heap.size w w1) (F : Nat → Prop) : Touch w w1 F := ⟨h.os, h.tape, h.output, h.size, fun k hk _ => h.block k hk⟩
theorem Touch.drew (h : Touch w w1 F) : Touch w w1.drew F := ⟨h.os, h.tape, h.output, h.size, h.block⟩
theorem Touch.drewN (h : Touch w w1 F) (n : Nat) : Touch w (w1.drewN n) F := ⟨h.os, h.tape, h.output, h.size, h.block⟩
theorem Touch.alloc (h : Touch w w1 F) (o : Obj) : Touch w (w1.alloc o) F :=
  ⟨h.os, h.tape, h.output, Nat.le_trans h.size (by simp), fun k hk hn => (Below.heap_alloc w1 o k (Nat.lt_of_lt_of_le hk h.size)).trans (h.block k hk hn)⟩
theorem Touch.setCell (h : Touch w w1 F) {p : Addr} (hp : p.block < w.heap.size → F p.block) (u : Value) : Touch w (w1.setCell p u) F :=
  ⟨h.os, h.tape, h.output, by simpa [World.setCell] using h.size, fun k hk hn => (Below.heap_setCell w1 p u k (by rintro rfl; exact hn (hp hk))).trans (h.block k hk hn)⟩
theorem Touch.grown {row : Option Nat} (h : Touch w w1 F) (hg : w1.grownBy w2 row) (hr : ∀ k, row = some k → k < w.heap.size → F k) : Touch w w2 F :=
  ⟨hg.os.trans h.os, hg.tape.trans h.tape, hg.output.trans h.output, Nat.le_trans h.size hg.size, fun k hk hn =>
    (hg.block k (Nat.lt_of_lt_of_le hk h.size) fun e => hn (hr k e.symm hk)).trans (h.block k hk hn)⟩
theorem Touch.blk {g : Nat} {t : TypeId} {cs : Array Value} (h : Touch w w1 F) (hb : Blk w g t cs) (hg : ¬ F g) : Blk w1 g t cs := (h.block g hb.lt hg).trans hb
theorem ownsRow_touch {base : Nat} {e : TypeId} {size n : Nat} {v : Value} {xs : List Value} (h : Touch w w1 F) (ho : w.ownsRow base e size v n xs) (hv : ∀ k, v.ownBlock = some k → ¬ F k) : w1.ownsRow base e size v n xs := by
  refine ⟨ho.1, ?_⟩
  rcases ho.2 with h0 | ⟨g, cap, cur, hv', hb, hh, r⟩
  · exact .inl h0
  · refine .inr ⟨g, cap, cur, hv', hb, (h.block g ?_ (hv g (by rw [hv']; rfl))).trans hh, r⟩
    rcases Nat.lt_or_ge g w.heap.size with hlt | hge
    · exact hlt
    · rw [Array.getElem?_eq_none hge] at hh; cases hh
end
theorem Reads.touch {w w' : World} {F : Nat → Prop} {B size n : Nat} {A : Option Addr} {xs : List Value} (h : Reads w B size A n xs) (ht : Touch w w' F) (hB : B ≤ w.heap.size) (hA : ∀ ad, A = some ad → ¬ F ad.block) : Reads w' B size A n xs :=
  ⟨h.1, fun hn => by
    obtain ⟨ad, e, hb, hc⟩ := h.2 hn
    refine ⟨ad, e, hb, fun j u hu => (World.cell?_of_block (ht.block _ ?_ ?_)).trans (hc j u hu)⟩
    · rw [block_of_add]; omega
    · rw [block_of_add]; exact hA ad e⟩

end Go.Proofs.Ytogminifliceaaa
