/- Lock: a table in memory; contracts: New, Held, Holders. -/
import Derived.Test.YtebflbpjmpmnjaaLock
import Derived.Outline
namespace Go.Proofs.Ytebflbpjmpmnjaa
open Go.ChangeShapes Go.WideShapes Go.ChangeAt Go.RowKit Go.Maps
set_option linter.unusedVariables false

/-- The table: its struct in block g, its map in block m, a set for each name that is held; none of more than c; all modes are modes. -/
structure Gr (w : World) (base g m N c : Nat) (F : ByteArray → Int → Int) (f : ByteArray → Option Nat) : Prop where
  blk : Blk w g 51 #[.map (some m)]
  out : OutAt w m N f
  no : ∀ x, f x = none → ∀ y, F x y = 0
  yes : ∀ x b, f x = some b → InAt w b c (F x) ∧ base ≤ b ∧ b ≠ m
  inj : ∀ x y b, f x = some b → f y = some b → x = y
  md : ∀ x y, 0 ≤ F x y ∧ F x y ≤ 4
  wf : ∀ x y, F x y ≠ 0 → Wf y
  hg : base ≤ g
  hm : base ≤ m
theorem map_ne {w : World} {g m : Nat} {t : TypeId} {cs : Array Value} {H : Type} {P : Program} {k : TypeId} {R : Value → Option (DataW H × List MemPlace)} {n : Nat} {D : DataW H} (h : Blk w g t cs) (h' : w.ownsMap P k R m n D) : g ≠ m := by
  rintro rfl
  obtain ⟨es, clock, hh, _⟩ := h'
  unfold Blk at h
  rw [h] at hh
  cases hh
section
variable {w w1 : World} {base g m N c : Nat} {F : ByteArray → Int → Int} {f : ByteArray → Option Nat}
theorem Gr.gm (h : Gr w base g m N c F f) : g ≠ m := by obtain ⟨D, h', _⟩ := h.out; exact map_ne h.blk h'
theorem Gr.gb (h : Gr w base g m N c F f) {x : ByteArray} {b : Nat} (hx : f x = some b) : g ≠ b := by obtain ⟨D, h', _⟩ := (h.yes x b hx).1; exact map_ne h.blk h'
theorem Gr.ext (h : Gr w base g m N c F f) (he : Ext w w1) : Gr w1 base g m N c F f :=
  { h with blk := he.blk h.blk, out := h.out.touch (Touch.of_below he (fun _ => False)) (fun h => h), yes := fun x b hx => ⟨(h.yes x b hx).1.ext he, (h.yes x b hx).2⟩ }
theorem Gr.more (h : Gr w base g m N c F f) {c' : Nat} (hc : c ≤ c') : Gr w base g m N c' F f :=
  { h with yes := fun x b hx => ⟨(h.yes x b hx).1.more hc, (h.yes x b hx).2⟩ }
end
/-- blocks of cells are as they were -/
def Cells (w w' : World) : Prop := ∀ k t cs, Blk w k t cs → Blk w' k t cs
theorem Cells.refl (w : World) : Cells w w := fun _ _ _ h => h
theorem Cells.of_ext {w w' : World} (h : Ext w w') : Cells w w' := fun _ _ _ hk => h.blk hk
theorem Cells.trans {a b c : World} (h : Cells a b) (h' : Cells b c) : Cells a c := fun k t cs hk => h' k t cs (h k t cs hk)
theorem Cells.own {w w' : World} {base e m n : Nat} {v : Value} {xs : List Value} (h : Cells w w') (ho : w.ownsRow base e m v n xs) : w'.ownsRow base e m v n xs := by
  refine ⟨ho.1, ?_⟩
  rcases ho.2 with h0 | ⟨g', cap, cur, hv', hb, hh, r⟩
  · exact .inl h0
  · exact .inr ⟨g', cap, cur, hv', hb, h g' e cur hh, r⟩
theorem Touch.cells {w w' : World} {m : Nat} {H : Type} {P : Program} {k : TypeId} {R : Value → Option (DataW H × List MemPlace)} {n : Nat} {D : DataW H} (h : w.ownsMap P k R m n D) (ht : Touch w w' (fun k => k = m)) : Cells w w' :=
  fun k t cs hk => ht.blk hk (fun e => map_ne hk (e ▸ h) rfl)
/-- a table that was made at the world W -/
def Has (W w : World) (g N c : Nat) (F : ByteArray → Int → Int) : Prop := ∃ m f, Gr w W.heap.size g m N c F f ∧ Ext W w
section
variable {W w w' : World} {g N c c' : Nat} {F : ByteArray → Int → Int}
theorem Has.ext (h : Has W w g N c F) (he : Ext w w') : Has W w' g N c F := by
  obtain ⟨m, f, h1, h2⟩ := h; exact ⟨m, f, h1.ext he, h2.trans he⟩
theorem Has.world (h : Has W w g N c F) : Ext W w := by obtain ⟨m, f, h1, h2⟩ := h; exact h2
theorem Has.more (h : Has W w g N c F) (hc : c ≤ c') : Has W w g N c' F := by obtain ⟨m, f, h1, h2⟩ := h; exact ⟨m, f, h1.more hc, h2⟩
theorem Has.md (h : Has W w g N c F) (x : ByteArray) (y : Int) : 0 ≤ F x y ∧ F x y ≤ 4 := by obtain ⟨m, f, h1, _⟩ := h; exact h1.md x y
theorem Has.wf (h : Has W w g N c F) {x : ByteArray} {y : Int} (hf : F x y ≠ 0) : Wf y := by obtain ⟨m, f, h1, _⟩ := h; exact h1.wf x y hf
end

theorem has_new (W : World) : Calls Try.prog 9 #[] W fun e w' => e = .returned (.pointer (some ⟨W.heap.size + 1, 0, none⟩)) ∧ Has W w' (W.heap.size + 1) 0 0 (fun _ _ => 0) := by
  have hmm := @run_makeMap Try.prog
  go_enter Try.func9, Try.ntmps9
  go_wp2
  go_ret
  refine ⟨rfl, W.heap.size, fun _ => none, ⟨?_, ?_, (fun _ _ _ => rfl), (fun _ _ h => by cases h), (fun _ _ _ h => by cases h), (fun _ _ => ⟨Int.le_refl _, by decide⟩), (fun _ _ h => absurd rfl h), by omega, Nat.le_refl _⟩, ((Ext.refl W).alloc _).alloc _⟩
  · simpa using Blk.new (W.alloc (.map #[] 0)) 51 #[.map (some W.heap.size)]
  · exact (OutAt.new W).touch (Touch.of_below (Ext.new _ _) (fun _ => False)) (fun h => h)

theorem has_held (W w : World) (g N c : Nat) (F : ByteArray → Int → Int) (who : Int) (s : ByteArray) (h : Has W w g N c F) (hw : Wf who) (hs : Sz s) :
    Calls Try.prog 12 #[.pointer (some ⟨g, 0, none⟩), .int .i64 who, .string s] w fun e w' => e = .returned (.int .i64 (F s who)) ∧ w = w' := by
  obtain ⟨m, f, h, _⟩ := h
  have c0 := h.blk.cell 0
  simp at c0
  have hlk := h.out.look hs
  cases hf : f s with
  | none =>
    rw [hf] at hlk
    have h2 := look_none w hw
    have h0 := hide (h.no s hf who)
    clear h hf
    go_enter Try.func12, Try.ntmps12
    go_wp2_with (fail)
    go_ret
    exact ⟨by rw [h0.out]; rfl, rfl⟩
  | some b =>
    rw [hf] at hlk
    have h2 := (h.yes s b hf).1.look hw
    clear h hf
    go_enter Try.func12, Try.ntmps12
    go_wp2_with (fail)
    go_ret
    exact ⟨rfl, rfl⟩

theorem has_holders (W w : World) (g N c : Nat) (F : ByteArray → Int → Int) (s : ByteArray) (h : Has W w g N c F) (hs : Sz s) (hc : c ≤ 1048576) :
    Calls Try.prog 11 #[.pointer (some ⟨g, 0, none⟩), .string s] w (GivesKeys w c (F s)) := by
  obtain ⟨m, f, h, _⟩ := h
  have c0 := h.blk.cell 0
  simp at c0
  have hlk := h.out.look hs
  cases hf : f s with
  | none =>
    rw [hf] at hlk
    have hE : F s = fun _ => 0 := funext fun y => h.no s hf y
    rw [hE]
    clear h hf hE
    go_enter Try.func11, Try.ntmps11
    go_wp2_with (first | (go_at_call 27; refine (keys_call none _).mono ?_; rintro e w1 ⟨rfl, rfl⟩) | (go_at_call 26; refine (sorted_nil _).mono ?_; rintro e w1 ⟨v, L, rfl, h1, h2, h3, h4, h5, h6⟩))
    go_ret
    exact ⟨v, L, rfl, h1, h2, by omega, h4, h5, h6⟩
  | some b =>
    rw [hf] at hlk
    have hi := hide (h.yes s b hf).1
    clear h hf
    go_enter Try.func11, Try.ntmps11
    go_wp2_with (first | (go_at_call 27; refine (keys_call (some b) _).mono ?_; rintro e w1 ⟨rfl, rfl⟩) | (go_at_call 26; refine (sorted_call b c (F s) _ hi.out hc).mono ?_; rintro e w1 ⟨v, L, rfl, h1, h2, h3, h4, h5, h6⟩))
    go_ret
    exact ⟨v, L, rfl, h1, h2, h3, h4, h5, h6⟩
end Go.Proofs.Ytebflbpjmpmnjaa
