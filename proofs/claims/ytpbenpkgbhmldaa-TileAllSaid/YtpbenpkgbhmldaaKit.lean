/- Words for memory that this claim's walks share: a slice that reads as a list, a block known whole, append onto a row of the call's own, small lemmas on worlds. Over any program. -/
import Derived.Test.YtpbenpkgbhmldaaRows
import Derived.WalkKit
import Derived.ProofKit
import Derived.OpenShut
import Derived.Below
import Derived.Laws.OwnMore
import Derived.Deep.AppendLies
import Derived.Deep.Draws
import Derived.Deep.Slices
import Derived.Laws.Rows
import Derived.Maps.AppendAt
import Derived.RegionTactic
import Derived.OwnWalk
import Derived.Laws.BytesArg
namespace Go.Proofs.Ytpbenpkgbhmldaa
open Go.ChangeShapes Go.WideShapes Go.ChangeAt Go.RowKit
set_option linter.unusedVariables false

theorem ret_bool {a b : Bool} (h : a = b) : Ending.returned (.bool a) = .returned (.bool b) := by rw [h]
theorem ret_int {k : IntKind} {a b : Int} (h : a = b) : Ending.returned (.int k a) = .returned (.int k b) := by rw [h]
theorem hide {p : Prop} (h : p) : Hid p := h
theorem bcell {W w1 : World} (hb : Below W.heap.size W w1) : (∀ b o, b < W.heap.size → w1.cell? ⟨b, o, none⟩ = W.cell? ⟨b, o, none⟩) ∧ (∀ b o, b < W.heap.size → w1.frozen? ⟨b, o, none⟩ = W.frozen? ⟨b, o, none⟩) :=
  ⟨fun b o h => hb.cell (p := ⟨b, o, none⟩) h, fun b o h => hb.frozen (p := ⟨b, o, none⟩) h⟩
theorem below_drewN {B : Nat} {a w : World} (h : Below B a w) (n : Nat) : Below B a (w.drewN n) := ⟨h.os, h.tape, h.output, h.size, h.block⟩

theorem block_of_add (a : Addr) (n : Nat) : (a.add n).block = a.block := by unfold Addr.add; split <;> rfl
theorem add_of_add (a : Addr) (i j : Nat) : (a.add i).add j = a.add (i + j) := by
  unfold Addr.add
  by_cases hi : i = 0 <;> by_cases hj : j = 0 <;> simp [hi, hj, Nat.add_assoc]

def Reads (w : World) (B size : Nat) (A : Option Addr) (n : Nat) (xs : List Value) : Prop :=
  xs.length = n * size ∧ (0 < n → ∃ ad, A = some ad ∧ ad.block < B ∧ ∀ j u, xs[j]? = some u → w.cell? (ad.add j) = some u)

section
variable {w w' : World} {B B' size n : Nat} {A : Option Addr} {xs : List Value}
theorem Reads.none_ : Reads w B size A 0 [] := ⟨by simp, fun h => absurd h (by omega)⟩
theorem Reads.at_ {k : Nat} (h : Reads w B 1 A n xs) (hk : k < n) : ∃ ad u, A = some ad ∧ ad.block < B ∧ xs[k]? = some u ∧ w.cell? (ad.add k) = some u := by
  obtain ⟨ad, e, hb, hc⟩ := h.2 (by omega)
  have hl : k < xs.length := by have := h.1; omega
  exact ⟨ad, xs[k], e, hb, List.getElem?_eq_getElem hl, hc k _ (List.getElem?_eq_getElem hl)⟩
theorem Reads.keep (h : Reads w B size A n xs) (hk : ∀ p : Addr, p.block < B → w'.cell? p = w.cell? p) : Reads w' B size A n xs :=
  ⟨h.1, fun hn => by
    obtain ⟨ad, e, hb, hc⟩ := h.2 hn
    exact ⟨ad, e, hb, fun j u hu => (hk _ (by rw [block_of_add]; exact hb)).trans (hc j u hu)⟩⟩
theorem Reads.more (h : Reads w B size A n xs) (hB : B ≤ B') : Reads w B' size A n xs :=
  ⟨h.1, fun hn => by
    obtain ⟨ad, e, hb, hc⟩ := h.2 hn
    exact ⟨ad, e, by omega, hc⟩⟩
theorem Reads.below (h : Reads w B size A n xs) (hb : Below B w w') : Reads w' B size A n xs := h.keep fun _ hp => hb.cell hp
theorem Reads.drew (h : Reads w B size A n xs) : Reads w.drew B size A n xs := h
theorem Reads.drewN (h : Reads w B size A n xs) (k : Nat) : Reads (w.drewN k) B size A n xs := h
theorem Reads.alloc (h : Reads w B size A n xs) (hB : B ≤ w.heap.size) (o : Obj) : Reads (w.alloc o) B size A n xs := h.keep fun p hp => World.cell?_alloc_lt w o p (by omega)
theorem Reads.setCell (h : Reads w B size A n xs) {p : Addr} (hB : B ≤ p.block) (u : Value) : Reads (w.setCell p u) B size A n xs :=
  h.keep fun q hq => World.cell?_setCell_other w p q u (fun e => by subst e; omega)
theorem Reads.grown (h : Reads w B size A n xs) {row : Option Nat} (hg : w.grownBy w' row) (hB : B ≤ w.heap.size) (hr : ∀ g, row = some g → B ≤ g) : Reads w' B size A n xs :=
  h.keep fun p hp => World.cell?_of_block (hg.block p.block (by omega) (fun e => by have := hr _ e.symm; omega))
theorem Reads.cut (h : Reads w B size A n xs) {k cap : Nat} (hk : k ≤ n) (hc : n ≤ cap) :
    Reads w B size (if cap = k then A else A.map (·.add (k * size))) (n - k) (xs.drop (k * size)) := by
  refine ⟨by rw [List.length_drop, h.1, Nat.sub_mul], fun hn => ?_⟩
  obtain ⟨ad, rfl, hb, hcell⟩ := h.2 (by omega)
  rw [if_neg (by omega)]
  refine ⟨ad.add (k * size), rfl, by rw [block_of_add]; exact hb, fun j u hu => ?_⟩
  rw [add_of_add]
  exact hcell _ u (by rw [← hu, List.getElem?_drop])
theorem Reads.of_own {base : Nat} {e : TypeId} {c : Nat} (h : w.ownsRow base e size (.slice A n c) n xs) : Reads w w.heap.size size A n xs := by
  refine ⟨h.1, fun hn => ?_⟩
  obtain ⟨g, cap, hv, _, hlt⟩ := h.form hn
  have hA : A = some ⟨g, 0, none⟩ := by injection hv
  subst hA
  exact ⟨_, rfl, hlt, h.cells (g := g) rfl⟩
end

def Blk (w : World) (g : Nat) (t : TypeId) (cs : Array Value) : Prop := w.heap[g]? = some (.cells cs t (0, 0))

section
variable {w w' : World} {g : Nat} {t : TypeId} {cs : Array Value}
theorem Blk.lt (h : Blk w g t cs) : g < w.heap.size := by
  rcases Nat.lt_or_ge g w.heap.size with hlt | hge
  · exact hlt
  · unfold Blk at h; rw [Array.getElem?_eq_none hge] at h; cases h
theorem Blk.cell (h : Blk w g t cs) (i : Nat) : w.cell? ⟨g, i, none⟩ = cs[i]? := cell_of_row w g i cs t (0, 0) h
theorem Blk.frozen (h : Blk w g t cs) (i : Nat) : w.frozen? ⟨g, i, none⟩ = false := by
  unfold Blk at h
  simp [World.frozen?, h]
theorem Blk.new (w : World) (t : TypeId) (cs : Array Value) : Blk (w.alloc (.cells cs t)) w.heap.size t cs := heap_alloc_new w _
theorem Blk.drew (h : Blk w g t cs) : Blk w.drew g t cs := h
theorem Blk.drewN (h : Blk w g t cs) (n : Nat) : Blk (w.drewN n) g t cs := h
theorem Blk.alloc (h : Blk w g t cs) (o : Obj) : Blk (w.alloc o) g t cs := (Below.heap_alloc w o g h.lt).trans h
theorem Blk.set_ (h : Blk w g t cs) (i : Nat) (u : Value) : Blk (w.setCell ⟨g, i, none⟩ u) g t (cs.setIfInBounds i u) := by
  unfold Blk at h ⊢
  simp [World.setCell, Array.getElem?_modify, h]
theorem Blk.far (h : Blk w g t cs) {p : Addr} (hp : g ≠ p.block) (u : Value) : Blk (w.setCell p u) g t cs := (Below.heap_setCell w p u g hp).trans h
theorem Blk.below {B : Nat} (h : Blk w g t cs) (hb : Below B w w') (hg : g < B) : Blk w' g t cs := (hb.block g hg).trans h
theorem Blk.grown {row : Option Nat} (h : Blk w g t cs) (hb : w.grownBy w' row) (hg : some g ≠ row) : Blk w' g t cs := (hb.block g h.lt hg).trans h
theorem Blk.ne_ {g' : Nat} {t' : TypeId} {cs' : Array Value} (h : Blk w g t cs) (h' : Blk w g' t' cs') (hne : t ≠ t') : g ≠ g' := by
  rintro rfl
  unfold Blk at h h'
  rw [h] at h'
  injection h' with h'
  injection h' with _ ht
  exact hne ht
theorem own_blk_ne {base : Nat} {e : TypeId} {size n : Nat} {v : Value} {xs : List Value} (h : w.ownsRow base e size v n xs) (hg : Blk w g t cs) (hne : e ≠ t) : v.ownBlock ≠ some g := by
  rcases h.2 with ⟨rfl, _⟩ | ⟨g', cap, cur, rfl, _, hh, _⟩
  · simp [Value.ownBlock]
  · intro he
    have : g' = g := by simpa [Value.ownBlock] using he
    subst this
    exact Blk.ne_ (t := e) hh hg hne rfl
end

section
variable {P : Program} (w : World)

theorem run_append_of_nil (base : Nat) (t ty e : TypeId) (i : TypeInfo) (size : Nat) (ht : P.underlying t = some (.slice e)) (hi : P.info? e = some i)
    (v : Value) (n : Nat) (xs : List Value) (hown : w.ownsRow base e size v n xs) (c : Nat) : (Builtin.append_ #[t, t] ty #[v, .slice none 0 c]).run P w = .ok v w := by
  rcases hown.2 with ⟨rfl, rfl⟩ | ⟨g, cap, cur, rfl, _, _, hnc, _⟩
  · simp [Builtin.append_, run_underlying ht, sizeOf, typeInfo, hi, Builtin.lenOf, Builtin.firstCells]
  · simp [Builtin.append_, run_underlying ht, sizeOf, typeInfo, hi, Builtin.lenOf, Builtin.firstCells, hnc, storeCells]

theorem run_append_any (base : Nat) (t ty e : TypeId) (i : TypeInfo) (z : Value) (size bytes : Nat) (ht : P.underlying t = some (.slice e)) (hi : P.info? e = some i) (hz : i.zero = some z)
    (hsize : i.size = size) (hby : i.bytes = bytes) (hzs : z.cells.size = size) (hsz : 0 < size)
    (v : Value) (n : Nat) (xs : List Value) (hown : w.ownsRow base e size v n xs)
    (B : Nat) (A : Option Addr) (m c : Nat) (news : List Value) (hr : Reads w B size A m news) (h1 : ∀ u ∈ news, u.oneCell' = true)
    (h63 : n + m ≤ maxLen) (hbytes : (n + m) * bytes ≤ 140737488355328) (hbase : base ≤ w.heap.size) :
    ∃ v' w', (Builtin.append_ #[t, t] ty #[v, .slice A m c]).run P w = .ok v' w' ∧ w'.ownsRow base e size v' (n + m) (xs ++ news) ∧ w.grownBy w' v.ownBlock ∧
      (v'.ownBlock = v.ownBlock ∨ v'.ownBlock = some w.heap.size) := by
  rcases A with _ | ad
  · have hm : m = 0 := by
      rcases Nat.eq_zero_or_pos m with h0 | h0
      · exact h0
      · obtain ⟨ad, h, _⟩ := hr.2 h0
        cases h
    subst hm
    have hn : news = [] := List.eq_nil_of_length_eq_zero (by simpa using hr.1)
    subst hn
    exact ⟨v, w, run_append_of_nil w base t ty e i size ht hi v n xs hown c, by simpa using hown, World.grownBy.refl w _, .inl rfl⟩
  · have hcells : ∀ j u, news[j]? = some u → w.cell? (ad.add j) = some u := by
      intro j u hu
      rcases Nat.eq_zero_or_pos m with h0 | h0
      · subst h0
        have hn : news = [] := List.eq_nil_of_length_eq_zero (by simpa using hr.1)
        subst hn
        simp at hu
      · obtain ⟨ad', h, _, hc⟩ := hr.2 h0
        injection h with h
        subst h
        exact hc j u hu
    obtain ⟨v', w', hrun, h2, h3, _, h5⟩ := run_append_own_at (P := P) w base t ty e i z size bytes ht hi hz hsize hby hzs hsz v n xs hown ad m c news hr.1 hcells h1 h63 hbytes hbase
    exact ⟨v', w', hrun, h2, h3, h5⟩

theorem wp_append_any {o : Oper} {a : Act} {K : Act → World → Prop} {Q : Exit → Act → World → Prop} (s x : Operand) (t : TypeId)
    (ho : o.op = .call { callee := .builtin .append, args := #[s, x], argTypes := #[t, t] })
    (base : Nat) (e : TypeId) (i : TypeInfo) (z : Value) (size bytes : Nat) (ht : P.underlying t = some (.slice e)) (hi : P.info? e = some i) (hz : i.zero = some z)
    (hsize : i.size = size) (hby : i.bytes = bytes) (hzs : z.cells.size = size) (hsz : 0 < size)
    (v : Value) (n : Nat) (xs : List Value) (hs : a.eval s = v) (hown : w.ownsRow base e size v n xs)
    (B : Nat) (A : Option Addr) (m c : Nat) (news : List Value) (hx : a.eval x = .slice A m c) (hr : Reads w B size A m news) (h1 : ∀ u ∈ news, u.oneCell' = true)
    (h63 : n + m ≤ maxLen) (hbytes : (n + m) * bytes ≤ 140737488355328) (hbase : base ≤ w.heap.size)
    (h : ∀ v' w', w'.ownsRow base e size v' (n + m) (xs ++ news) → w.grownBy w' v.ownBlock → (v'.ownBlock = v.ownBlock ∨ v'.ownBlock = some w.heap.size) → K (a.put o.dst v') w') : o.wp P a w K Q := by
  obtain ⟨v', w', hrun, h2, h3, h4⟩ := run_append_any (P := P) w base t o.type e i z size bytes ht hi hz hsize hby hzs hsz v n xs hown B A m c news hr h1 h63 hbytes hbase
  unfold Oper.wp execOp
  simp only [ho, resolve, invoke, builtin, Sem.run_bind, Sem.run_pure, Result.andThen_ok, List.map_toArray, List.map_cons, List.map_nil, hs, hx, hrun]
  exact h v' w' h2 h3 h4

theorem wpList_append_any {ops : Array Oper} {rest : List Oper} {o : Oper} {a : Act} {Q : Exit → Act → World → Prop} (hgd : o.guard = none) (s x : Operand) (t : TypeId)
    (ho : o.op = .call { callee := .builtin .append, args := #[s, x], argTypes := #[t, t] })
    (base : Nat) (e : TypeId) (i : TypeInfo) (z : Value) (size bytes : Nat) (ht : P.underlying t = some (.slice e)) (hi : P.info? e = some i) (hz : i.zero = some z)
    (hsize : i.size = size) (hby : i.bytes = bytes) (hzs : z.cells.size = size) (hsz : 0 < size)
    (v : Value) (n : Nat) (xs : List Value) (hs : a.eval s = v) (hown : w.ownsRow base e size v n xs)
    (B : Nat) (A : Option Addr) (m c : Nat) (news : List Value) (hx : a.eval x = .slice A m c) (hr : Reads w B size A m news) (h1 : ∀ u ∈ news, u.oneCell' = true)
    (h63 : n + m ≤ maxLen) (hbytes : (n + m) * bytes ≤ 140737488355328) (hbase : base ≤ w.heap.size)
    (h : ∀ v' w', w'.ownsRow base e size v' (n + m) (xs ++ news) → w.grownBy w' v.ownBlock → (v'.ownBlock = v.ownBlock ∨ v'.ownBlock = some w.heap.size) → wpList P ops Q rest (a.put o.dst v') w') : wpList P ops Q (o :: rest) a w :=
  wpList_plain hgd fun _ hK => wp_append_any w s x t ho base e i z size bytes ht hi hz hsize hby hzs hsz v n xs hs hown B A m c news hx hr h1 h63 hbytes hbase fun v' w' h2 h3 h4 => hK _ _ (h v' w' h2 h3 h4)

theorem step_append_any {ops : Array Oper} {o : Oper} {a : Act} {K : Act → World → Prop} {Q : Exit → Act → World → Prop} {E : Prop} (hgd : o.guard = none) (s x : Operand) (t : TypeId)
    (ho : o.op = .call { callee := .builtin .append, args := #[s, x], argTypes := #[t, t] })
    (base : Nat) (e : TypeId) (i : TypeInfo) (z : Value) (size bytes : Nat) (ht : P.underlying t = some (.slice e)) (hi : P.info? e = some i) (hz : i.zero = some z)
    (hsize : i.size = size) (hby : i.bytes = bytes) (hzs : z.cells.size = size) (hsz : 0 < size)
    (v : Value) (n : Nat) (xs : List Value) (hs : a.eval s = v) (hown : w.ownsRow base e size v n xs)
    (B : Nat) (A : Option Addr) (m c : Nat) (news : List Value) (hx : a.eval x = .slice A m c) (hr : Reads w B size A m news) (h1 : ∀ u ∈ news, u.oneCell' = true)
    (h63 : n + m ≤ maxLen) (hbytes : (n + m) * bytes ≤ 140737488355328) (hbase : base ≤ w.heap.size)
    (h : ∀ v' w', w'.ownsRow base e size v' (n + m) (xs ++ news) → w.grownBy w' v.ownBlock → (v'.ownBlock = v.ownBlock ∨ v'.ownBlock = some w.heap.size) → K (a.put o.dst v') w') :
    if Region.wanted o (yielded ops a.tmps) = true then Oper.wp P o a w K Q else E := by
  have hw : Region.wanted o (yielded ops a.tmps) = true := by simp [Region.wanted, hgd]
  rw [if_pos hw]
  exact wp_append_any w s x t ho base e i z size bytes ht hi hz hsize hby hzs hsz v n xs hs hown B A m c news hx hr h1 h63 hbytes hbase h
end


theorem Reads.far {w : World} {B size n : Nat} {A : Option Addr} {xs : List Value} (h : Reads w B size A n xs) {p : Addr} (hA : ∀ ad, A = some ad → ad.block ≠ p.block) (u : Value) : Reads (w.setCell p u) B size A n xs :=
  ⟨h.1, fun hn => by
    obtain ⟨ad, e, hb, hc⟩ := h.2 hn
    refine ⟨ad, e, hb, fun j u hu => (World.cell?_of_block (Below.heap_setCell w p _ _ ?_)).trans (hc j u hu)⟩
    rw [block_of_add]
    exact hA ad e⟩

/-! ### What a call may have written -/
/-- w' is w with new blocks, and with writes to blocks of F alone. -/
structure Touch (w w' : World) (F : Nat → Prop) : Prop where
  os : w'.os = w.os
  tape : w'.tape = w.tape
  output : w'.output = w.output
  size : w.heap.size ≤ w'.heap.size
  block : ∀ k, k < w.heap.size → ¬ F k → w'.heap[k]? = w.heap[k]?
section
variable {w w1 w2 : World} {F F' : Nat → Prop}
theorem Touch.refl (w : World) (F : Nat → Prop) : Touch w w F := ⟨rfl, rfl, rfl, Nat.le_refl _, fun _ _ _ => rfl⟩
theorem Touch.trans (h : Touch w w1 F) (h' : Touch w1 w2 F') (hF : ∀ k, k < w.heap.size → F' k → F k) : Touch w w2 F :=
  ⟨h'.os.trans h.os, h'.tape.trans h.tape, h'.output.trans h.output, Nat.le_trans h.size h'.size, fun k hk hn =>
    (h'.block k (Nat.lt_of_lt_of_le hk h.size) fun hf => hn (hF k hk hf)).trans (h.block k hk hn)⟩
theorem Touch.more (h : Touch w w1 F) (hF : ∀ k, k < w.heap.size → F k → F' k) : Touch w w1 F' :=
  ⟨h.os, h.tape, h.output, h.size, fun k hk hn => h.block k hk fun hf => hn (hF k hk hf)⟩
theorem Touch.below {B : Nat} (h : Touch w w1 F) (hB : B ≤ w.heap.size) (hF : ∀ k, F k → B ≤ k) : Below B w w1 :=
  ⟨h.os, h.tape, h.output, h.size, fun k hk => h.block k (by omega) fun hf => by have := hF k hf; omega⟩
theorem Touch.of_below (h : Below w.heap.size w w1) (F : Nat → Prop) : Touch w w1 F := ⟨h.os, h.tape, h.output, h.size, fun k hk _ => h.block k hk⟩
theorem Touch.drew (h : Touch w w1 F) : Touch w w1.drew F := ⟨h.os, h.tape, h.output, h.size, h.block⟩
theorem Touch.drewN (h : Touch w w1 F) (n : Nat) : Touch w (w1.drewN n) F := ⟨h.os, h.tape, h.output, h.size, h.block⟩
theorem Touch.alloc (h : Touch w w1 F) (o : Obj) : Touch w (w1.alloc o) F :=
  ⟨h.os, h.tape, h.output, Nat.le_trans h.size (by simp), fun k hk hn => (Below.heap_alloc w1 o k (Nat.lt_of_lt_of_le hk h.size)).trans (h.block k hk hn)⟩
theorem Touch.setCell (h : Touch w w1 F) {p : Addr} (hp : p.block < w.heap.size → F p.block) (u : Value) : Touch w (w1.setCell p u) F :=
  ⟨h.os, h.tape, h.output, by simpa [World.setCell] using h.size, fun k hk hn => (Below.heap_setCell w1 p u k (by rintro rfl; exact hn (hp hk))).trans (h.block k hk hn)⟩
theorem Touch.grown {row : Option Nat} (h : Touch w w1 F) (hg : w1.grownBy w2 row) (hr : ∀ k, row = some k → k < w.heap.size → F k) : Touch w w2 F :=
  ⟨hg.os.trans h.os, hg.tape.trans h.tape, hg.output.trans h.output, Nat.le_trans h.size hg.size, fun k hk hn =>
    (hg.block k (Nat.lt_of_lt_of_le hk h.size) fun e => hn (hr k e.symm hk)).trans (h.block k hk hn)⟩
theorem Touch.blk {g : Nat} {t : TypeId} {cs : Array Value} (h : Touch w w1 F) (hb : Blk w g t cs) (hg : ¬ F g) : Blk w1 g t cs := (h.block g hb.lt hg).trans hb
theorem ownsRow_touch {base : Nat} {e : TypeId} {size n : Nat} {v : Value} {xs : List Value} (h : Touch w w1 F) (ho : w.ownsRow base e size v n xs) (hv : ∀ k, v.ownBlock = some k → ¬ F k) : w1.ownsRow base e size v n xs := by
  refine ⟨ho.1, ?_⟩
  rcases ho.2 with h0 | ⟨g, cap, cur, hv', hb, hh, r⟩
  · exact .inl h0
  · refine .inr ⟨g, cap, cur, hv', hb, (h.block g ?_ (hv g (by rw [hv']; rfl))).trans hh, r⟩
    rcases Nat.lt_or_ge g w.heap.size with hlt | hge
    · exact hlt
    · rw [Array.getElem?_eq_none hge] at hh; cases hh
end
theorem Reads.touch {w w' : World} {F : Nat → Prop} {B size n : Nat} {A : Option Addr} {xs : List Value} (h : Reads w B size A n xs) (ht : Touch w w' F) (hB : B ≤ w.heap.size) (hA : ∀ ad, A = some ad → ¬ F ad.block) : Reads w' B size A n xs :=
  ⟨h.1, fun hn => by
    obtain ⟨ad, e, hb, hc⟩ := h.2 hn
    refine ⟨ad, e, hb, fun j u hu => (World.cell?_of_block (ht.block _ ?_ ?_)).trans (hc j u hu)⟩
    · rw [block_of_add]; omega
    · rw [block_of_add]; exact hA ad e⟩

/-! ### What came in -/
theorem Reads.plain {w : World} {B size n : Nat} {A : Option Addr} {xs : List Value} (h : Reads w B size A n xs) (hn : 0 < n) (hs : 0 < size) :
    ∃ b off, A = some ⟨b, off, none⟩ ∧ b < B ∧ ∀ j u, xs[j]? = some u → w.cell? ⟨b, off + j, none⟩ = some u := by
  obtain ⟨ad, rfl, hb, hc⟩ := h.2 hn
  obtain ⟨b, off, spot⟩ := ad
  have hl : 0 < xs.length := by rw [h.1]; exact Nat.mul_pos hn hs
  have h0 := hc 0 _ (List.getElem?_eq_getElem hl)
  have hspot : spot = none := by simpa [Addr.add] using World.cell?_spot h0
  subst hspot
  refine ⟨b, off, rfl, hb, fun j u hu => ?_⟩
  have := hc j u hu
  have e : (⟨b, off, none⟩ : Addr).add j = ⟨b, off + j, none⟩ := by unfold Addr.add; split <;> simp_all
  rwa [e] at this

section
variable {H : Type} {enc : TypeId × Value → H} {P : Program} {w : World} {base : Nat} {spare : Nat → Bool} {held : Bool}
/-- A slice of whatever elements of m cells that came in: it reads as a list of cells; each element's cells have their own reading. -/
theorem open_slice_flat {t e m : Nat} {fuel : Nat} {cs : List Value} {x : DataW H × List MemPlace} (ht : P.underlying t = some (.slice e)) (hm : P.cellsOf e = m) (hm0 : 0 < m)
    (h : DataW.trod enc P w base spare held fuel t cs = some x) :
    ∃ (A : Option Addr) (n c : Nat) (xs : List Value), cs = [.slice A n c] ∧ n ≤ c ∧ c ≤ maxLen ∧ (A = none → n = 0 ∧ c = 0) ∧ Reads w w.heap.size m A n xs ∧
      ∀ i, i < n → ∃ (f : Nat) (y : DataW H × List MemPlace), DataW.trod enc P w base spare held f e ((xs.drop (i * m)).take m) = some y := by
  rcases Go.Deep.open_slice ht h with ⟨rfl, _⟩ | ⟨a, len, cap, m', n', D, Pl, rfl, hb, hl, hcm, hmm, _, hi⟩
  · exact ⟨none, 0, 0, [], rfl, Nat.le_refl _, Nat.zero_le _, fun _ => ⟨rfl, rfl⟩, Reads.none_, fun i hi => absurd hi (by omega)⟩
  · have hlen : len ≤ m' := by rw [hmm]; split <;> omega
    have key : ∀ k, k ≤ len → ∃ xs : List Value, xs.length = k * m ∧ (∀ j u, xs[j]? = some u → w.cell? (a.add j) = some u) ∧
        ∀ i, i < k → ∃ (f : Nat) (y : DataW H × List MemPlace), DataW.trod enc P w base spare held f e ((xs.drop (i * m)).take m) = some y := by
      intro k
      induction k with
      | zero => intro _; exact ⟨[], by simp, by simp, fun i hi => absurd hi (by omega)⟩
      | succ k ih =>
        intro hk
        obtain ⟨xs, hx1, hx2, hx3⟩ := ih (by omega)
        obtain ⟨cs', hc, ht'⟩ := hi k (by omega)
        rw [hm] at hc
        obtain ⟨_, hcl, hat⟩ := World.cells?_some hc
        refine ⟨xs ++ cs', by rw [List.length_append, hx1, hcl, Nat.add_mul]; omega, fun j u hu => ?_, fun i hik => ?_⟩
        · by_cases hj : j < xs.length
          · rw [List.getElem?_append_left hj] at hu
            exact hx2 j u hu
          · rw [List.getElem?_append_right (by omega)] at hu
            have hjl : j - xs.length < cs'.length := (List.getElem?_eq_some_iff.1 hu).1
            have h1 := hat (j - xs.length) (by omega)
            rw [Go.Deep.add_add, ← hx1] at h1
            rw [show xs.length + (j - xs.length) = j by omega] at h1
            rw [h1, ← hu]
        · by_cases hik' : i < k
          · obtain ⟨f, y, hy⟩ := hx3 i hik'
            refine ⟨f, y, ?_⟩
            have hle : i * m + m ≤ xs.length := by
              rw [hx1, ← Nat.succ_mul]
              exact Nat.mul_le_mul_right m hik'
            rw [List.drop_append_of_le_length (by omega), List.take_append_of_le_length (by rw [List.length_drop]; omega)]
            exact hy
          · obtain rfl : i = k := by omega
            refine ⟨n', (D i, Pl i), ?_⟩
            rw [← hx1, List.drop_left, ← hcl, List.take_length]
            exact ht'
    obtain ⟨xs, hx1, hx2, hx3⟩ := key len (Nat.le_refl _)
    refine ⟨some a, len, cap, xs, rfl, hl, hcm, (fun h => by cases h), ⟨hx1, fun hn => ⟨a, rfl, ?_, hx2⟩⟩, hx3⟩
    have h0 : 0 < xs.length := by rw [hx1]; exact Nat.mul_pos hn hm0
    have := World.block_lt_of_cell? w _ (hx2 0 _ (List.getElem?_eq_getElem h0))
    simpa [block_of_add] using this

theorem open_flat_ints {t e : TypeId} {k : IntKind} {fuel : Nat} {cs : List Value} {x : DataW H × List MemPlace} (ht : P.underlying t = some (.slice e)) (he : P.underlying e = some (.int k)) (hm : P.cellsOf e = 1)
    (h : DataW.trod enc P w base spare held fuel t cs = some x) :
    ∃ (A : Option Addr) (n c : Nat) (zs : List Int), cs = [.slice A n c] ∧ n ≤ c ∧ c ≤ maxLen ∧ (A = none → n = 0 ∧ c = 0) ∧ zs.length = n ∧ Reads w w.heap.size 1 A n (zs.map (Value.int k)) ∧
      ∀ z ∈ zs, (Lit.int k z).wf = true := by
  obtain ⟨A, n, c, xs, hcs, h1, h2, h3, hr, hi⟩ := open_slice_flat ht hm (by omega) h
  have hl : xs.length = n := by simpa using hr.1
  have key : ∀ i (hi' : i < xs.length), ∃ z : Int, xs[i] = .int k z ∧ (Lit.int k z).wf = true := by
    intro i hi'
    obtain ⟨f, y, hy⟩ := hi i (by omega)
    rw [Nat.mul_one, List.drop_eq_getElem_cons hi', List.take_succ_cons, List.take_zero] at hy
    obtain ⟨z, hz, _, hw⟩ := DataW.trod_int he hy
    exact ⟨z, by simpa using hz, hw⟩
  have hall : xs = (xs.map intOf).map (Value.int k) := by
    apply List.ext_getElem
    · simp
    · intro i h1 h2
      obtain ⟨z, hz, _⟩ := key i h1
      simp [hz, intOf]
  refine ⟨A, n, c, xs.map intOf, hcs, h1, h2, h3, by simpa using hl, by rw [← hall]; exact hr, fun z hz => ?_⟩
  obtain ⟨u, hu, rfl⟩ := List.mem_map.1 hz
  obtain ⟨i, hi', rfl⟩ := List.getElem_of_mem hu
  obtain ⟨z, hz, hw⟩ := key i hi'
  rw [hz]
  exact hw
end

/-! ### Bytes -/
def bv (l : List UInt8) : List Value := l.map fun b => .int .u8 (b.toNat : Int)
theorem bv_length (l : List UInt8) : (bv l).length = l.length := by simp [bv]
theorem bv_one (l : List UInt8) : ∀ u ∈ bv l, u.oneCell' = true := by
  intro u hu
  obtain ⟨b, _, rfl⟩ := List.mem_map.1 hu
  rfl
theorem bytes_of_ints {zs : List Int} (h : ∀ z ∈ zs, (Lit.int .u8 z).wf = true) : ∃ l : List UInt8, zs.map (Value.int .u8) = bv l ∧ l.length = zs.length := by
  induction zs with
  | nil => exact ⟨[], rfl, rfl⟩
  | cons z zs ih =>
    obtain ⟨l, hl, hn⟩ := ih fun y hy => h y (List.mem_cons_of_mem _ hy)
    have hz := h z (List.mem_cons_self)
    have hb : 0 ≤ z ∧ z ≤ 255 := by simpa [Lit.wf, IntKind.min, IntKind.max, IntKind.signed, IntKind.bits] using hz
    refine ⟨UInt8.ofNat z.toNat :: l, ?_, by simp [hn]⟩
    have e : ((UInt8.ofNat z.toNat).toNat : Int) = z := by
      rw [UInt8.toNat_ofNat']
      omega
    simp only [List.map_cons, bv, List.map_cons, e]
    rw [hl]
    rfl
/-- 'string(b)' -/
theorem run_string_of_reads {P : Program} {w : World} {B n : Nat} {A : Option Addr} {l : List UInt8} (src dst e c : Nat) (hs : P.underlying src = some (.slice e)) (he : P.underlying e = some (.int .u8)) (hd : P.underlying dst = some .string)
    (h : Reads w B 1 A n (bv l)) : (convert src dst (.slice A n c)).run P w = .ok (.string ⟨l.toArray⟩) w := by
  have hl : l.length = n := by have := h.1; rw [bv_length] at this; omega
  rw [run_convert_bytes_string w src dst e A n c hs he hd]
  by_cases hn : 0 < n
  · obtain ⟨ad, rfl, _, hc⟩ := h.2 hn
    have hload : (loadCells ad n).run P w = .ok ((l.map fun b => (b.toNat : Int)).map (Value.int .u8)).toArray w := by
      have := run_loadCells_list (P := P) w ad (bv l) hc
      rw [bv_length, hl] at this
      rw [this]
      simp [bv, Function.comp_def]
    rw [run_bytesToString w ad n c _ hload, foldl_push_bytes]
    have e2 : (l.map fun b => (b.toNat : Int)).map (fun n => UInt8.ofNat n.toNat) = l := by
      rw [List.map_map]
      conv => rhs; rw [← List.map_id l]
      refine List.map_congr_left fun b _ => ?_
      simp
    rw [e2]
    simp [ByteArray.empty, ByteArray.emptyWithCapacity]
    rfl
  · obtain rfl : n = 0 := by omega
    obtain rfl : l = [] := List.eq_nil_of_length_eq_zero hl
    rcases A with _ | ad
    · simp [Conv.bytesToString]
      rfl
    · have hload : (loadCells ad 0).run P w = .ok (([] : List Int).map (Value.int .u8)).toArray w := by
        have := run_loadCells_list (P := P) w ad [] (by simp)
        simpa using this
      rw [run_bytesToString w ad 0 c [] hload, foldl_push_bytes]
      simp [ByteArray.empty, ByteArray.emptyWithCapacity]
      rfl

/-! ### A piece of a function's text, by its number: so that it can be walked in a declaration of its own -/
def regionOf (n : Nat) : Code → Option Code
  | .region i ops d => if i = n then some (.region i ops d) else none
  | .seq a b => match regionOf n a with | some c => some c | none => regionOf n b
  | .block _ c => regionOf n c
  | .loop c => regionOf n c
  | .scope c => regionOf n c
  | .cond _ a b => match regionOf n a with | some c => some c | none => regionOf n b
  | _ => none
noncomputable def regionAt (f : Func) (n : Nat) : Code := (f.body.bind (regionOf n)).getD .skip
def blockOf (n : Nat) : Code → Option Code
  | .seq a b => match blockOf n a with | some c => some c | none => blockOf n b
  | .block i c => if i = n then some (.block i c) else blockOf n c
  | .loop c => blockOf n c
  | .scope c => blockOf n c
  | .cond _ a b => match blockOf n a with | some c => some c | none => blockOf n b
  | _ => none
noncomputable def blockAt (f : Func) (n : Nat) : Code := (f.body.bind (blockOf n)).getD .skip

/-! ### A world that goes on -/
/-- b is a with new blocks and draws; nothing that lay has turned. -/
def Ext (a b : World) : Prop := Below a.heap.size a b
section
variable {a b c : World} {g m n B : Nat} {t : TypeId} {cs : Array Value} {xs : List Value} {A : Option Addr}
theorem Ext.refl (a : World) : Ext a a := Below.refl _ _
theorem Ext.size (h : Ext a b) : a.heap.size ≤ b.heap.size := Below.size h
theorem Ext.trans (h : Ext a b) (k : Ext b c) : Ext a c := Below.trans h (Below.mono k h.size)
theorem Ext.alloc (h : Ext a b) (o : Obj) : Ext a (b.alloc o) := Below.alloc h h.size o
theorem Ext.new (a : World) (o : Obj) : Ext a (a.alloc o) := (Ext.refl a).alloc o
theorem Ext.drew (h : Ext a b) : Ext a b.drew := Below.drew h
theorem Ext.drewN (h : Ext a b) (n : Nat) : Ext a (b.drewN n) := below_drewN h n
theorem Ext.set_ (h : Ext a b) {p : Addr} (hp : a.heap.size ≤ p.block) (u : Value) : Ext a (b.setCell p u) := Below.setCell h hp u
theorem Ext.grown {row : Option Nat} (h : Ext a b) (hg : b.grownBy c row) (hr : ∀ k, row = some k → a.heap.size ≤ k) : Ext a c := Below.grown h hg h.size hr
theorem Ext.cell (h : Ext a b) {p : Addr} (hp : p.block < a.heap.size) : b.cell? p = a.cell? p := Below.cell h hp
theorem Ext.blk (h : Ext a b) (hk : Blk a g t cs) : Blk b g t cs := hk.below h hk.lt
theorem Ext.reads (h : Ext a b) (hr : Reads a B m A n xs) (hB : B ≤ a.heap.size) : Reads b B m A n xs := hr.below (Below.mono h hB)
theorem Ext.read (h : Ext a b) (hr : Reads a a.heap.size m A n xs) : Reads b b.heap.size m A n xs := (hr.below h).more h.size
theorem Ext.own {base : Nat} {e : TypeId} {v : Value} (h : Ext a b) (ho : a.ownsRow base e m v n xs) : b.ownsRow base e m v n xs := ownsRow_touch (Touch.of_below h (fun _ => False)) ho (fun _ _ hf => hf)
theorem Ext.below (h : Ext a b) : Below a.heap.size a b := h
end
/-- A row keeps what it holds where a cell of another block is written. -/
theorem own_far {w : World} {base e m n : Nat} {v : Value} {xs : List Value} (h : w.ownsRow base e m v n xs) {p : Addr} (hp : v.ownBlock ≠ some p.block) (u : Value) : (w.setCell p u).ownsRow base e m v n xs :=
  ownsRow_touch (F := fun k => k = p.block) (Touch.setCell (F := fun k => k = p.block) (p := p) (Touch.refl w _) (fun _ => rfl) u) h (fun k hk e => hp (by rw [hk, e]))
theorem own_form {w : World} {base e m n : Nat} {v : Value} {xs : List Value} (h : w.ownsRow base e m v n xs) : ∃ A c, v = .slice A n c ∧ (A = none → c = 0) ∧ n ≤ c ∧ c ≤ maxLen ∧ ∀ ad, A = some ad → ad.off = 0 ∧ ad.spot = none ∧ base ≤ ad.block ∧ ad.block < w.heap.size := by
  rcases h.2 with ⟨rfl, rfl⟩ | ⟨b, c, cur, rfl, hb, hh, h1, h2, _⟩
  · exact ⟨_, _, rfl, (fun _ => rfl), Nat.le_refl _, Nat.zero_le _, fun _ h => by cases h⟩
  · refine ⟨_, _, rfl, (fun h => by cases h), h1, h2, fun ad h => ?_⟩
    injection h with h
    subst h
    refine ⟨rfl, rfl, hb, ?_⟩
    rcases Nat.lt_or_ge b w.heap.size with hlt | hge
    · exact hlt
    · rw [Array.getElem?_eq_none hge] at hh; cases hh
/-- a list of the call's own comes back -/
def Gives (w : World) (e m n : Nat) (xs : List Value) (x : Ending) (w' : World) : Prop := ∃ v, x = .returned v ∧ w'.ownsRow w.heap.size e m v n xs ∧ Ext w w'
theorem no_elems {w : World} {B m n : Nat} {xs : List Value} (h : Reads w B m none n xs) : n = 0 ∧ xs = [] := by
  have h0 : n = 0 := by
    rcases Nat.eq_zero_or_pos n with h0 | h0
    · exact h0
    · obtain ⟨_, e, _⟩ := h.2 h0
      cases e
  subst h0
  exact ⟨rfl, List.eq_nil_of_length_eq_zero (by simpa using h.1)⟩
theorem quiet_add {P : Program} {f : FuncId} {args : Array Value} {w : World} {a n : Nat} {v : Value}
    (h : Calls P f args (w.drewN (a + n)) fun e w' => e = .returned v ∧ ∃ m, w' = (w.drewN (a + n)).drewN m) :
    Calls P f args (w.drewN (a + n)) fun e w'' => e = .returned v ∧ ∃ m, w'' = w.drewN (a + m) :=
  h.mono fun _ _ ⟨he, m, hm⟩ => ⟨he, n + m, by rw [hm, World.drewN_drewN, Nat.add_assoc]⟩
theorem quiet_add_left {P : Program} {f : FuncId} {args : Array Value} {w : World} {a n : Nat} {v : Value}
    (h : Calls P f args (w.drewN (a + n)) fun e w' => e = .returned v ∧ w.drewN (a + n) = w') :
    Calls P f args (w.drewN (a + n)) fun e w'' => e = .returned v ∧ ∃ m, w'' = w.drewN (a + m) :=
  h.mono fun _ _ ⟨he, hm⟩ => ⟨he, n, hm.symm⟩
theorem quiet_left {P : Program} {f : FuncId} {args : Array Value} {w : World} {n : Nat} {v : Value}
    (h : Calls P f args (w.drewN n) fun e w' => e = .returned v ∧ w.drewN n = w') : Calls P f args (w.drewN n) fun e w'' => e = .returned v ∧ ∃ m, w'' = w.drewN m :=
  h.mono fun _ _ ⟨he, hm⟩ => ⟨he, n, hm.symm⟩
theorem Blk.cells16 {w : World} {g : Nat} {t : TypeId} {v0 v1 v2 v3 v4 v5 v6 v7 v8 v9 v10 v11 v12 v13 v14 v15 : Value} (h : Blk w g t #[v0, v1, v2, v3, v4, v5, v6, v7, v8, v9, v10, v11, v12, v13, v14, v15]) : w.cell? ⟨g, 0, none⟩ = some v0 ∧ w.cell? ⟨g, 1, none⟩ = some v1 ∧ w.cell? ⟨g, 2, none⟩ = some v2 ∧ w.cell? ⟨g, 3, none⟩ = some v3 ∧ w.cell? ⟨g, 4, none⟩ = some v4 ∧ w.cell? ⟨g, 5, none⟩ = some v5 ∧ w.cell? ⟨g, 6, none⟩ = some v6 ∧ w.cell? ⟨g, 7, none⟩ = some v7 ∧ w.cell? ⟨g, 8, none⟩ = some v8 ∧ w.cell? ⟨g, 9, none⟩ = some v9 ∧ w.cell? ⟨g, 10, none⟩ = some v10 ∧ w.cell? ⟨g, 11, none⟩ = some v11 ∧ w.cell? ⟨g, 12, none⟩ = some v12 ∧ w.cell? ⟨g, 13, none⟩ = some v13 ∧ w.cell? ⟨g, 14, none⟩ = some v14 ∧ w.cell? ⟨g, 15, none⟩ = some v15 :=
  ⟨h.cell 0, h.cell 1, h.cell 2, h.cell 3, h.cell 4, h.cell 5, h.cell 6, h.cell 7, h.cell 8, h.cell 9, h.cell 10, h.cell 11, h.cell 12, h.cell 13, h.cell 14, h.cell 15⟩
/-- A struct of 16 cells, stored whole into a block that is known whole. -/
theorem Blk.set16 {w : World} {g : Nat} {t : TypeId} {v0 v1 v2 v3 v4 v5 v6 v7 v8 v9 v10 v11 v12 v13 v14 v15 : Value} (h : Blk w g t #[v0, v1, v2, v3, v4, v5, v6, v7, v8, v9, v10, v11, v12, v13, v14, v15]) (u0 u1 u2 u3 u4 u5 u6 u7 u8 u9 u10 u11 u12 u13 u14 u15 : Value) : Blk ((((((((((((((((w.setCell ⟨g, 0, none⟩ u0).setCell ⟨g, 1, none⟩ u1).setCell ⟨g, 2, none⟩ u2).setCell ⟨g, 3, none⟩ u3).setCell ⟨g, 4, none⟩ u4).setCell ⟨g, 5, none⟩ u5).setCell ⟨g, 6, none⟩ u6).setCell ⟨g, 7, none⟩ u7).setCell ⟨g, 8, none⟩ u8).setCell ⟨g, 9, none⟩ u9).setCell ⟨g, 10, none⟩ u10).setCell ⟨g, 11, none⟩ u11).setCell ⟨g, 12, none⟩ u12).setCell ⟨g, 13, none⟩ u13).setCell ⟨g, 14, none⟩ u14).setCell ⟨g, 15, none⟩ u15) g t #[u0, u1, u2, u3, u4, u5, u6, u7, u8, u9, u10, u11, u12, u13, u14, u15] := by
  have := ((((((((((((((((h.set_ 0 u0).set_ 1 u1).set_ 2 u2).set_ 3 u3).set_ 4 u4).set_ 5 u5).set_ 6 u6).set_ 7 u7).set_ 8 u8).set_ 9 u9).set_ 10 u10).set_ 11 u11).set_ 12 u12).set_ 13 u13).set_ 14 u14).set_ 15 u15)
  simpa using this
/-- What 16 stores into one block leave of other blocks. -/
theorem touch_set16 (w : World) (g : Nat) (u0 u1 u2 u3 u4 u5 u6 u7 u8 u9 u10 u11 u12 u13 u14 u15 : Value) : Touch w ((((((((((((((((w.setCell ⟨g, 0, none⟩ u0).setCell ⟨g, 1, none⟩ u1).setCell ⟨g, 2, none⟩ u2).setCell ⟨g, 3, none⟩ u3).setCell ⟨g, 4, none⟩ u4).setCell ⟨g, 5, none⟩ u5).setCell ⟨g, 6, none⟩ u6).setCell ⟨g, 7, none⟩ u7).setCell ⟨g, 8, none⟩ u8).setCell ⟨g, 9, none⟩ u9).setCell ⟨g, 10, none⟩ u10).setCell ⟨g, 11, none⟩ u11).setCell ⟨g, 12, none⟩ u12).setCell ⟨g, 13, none⟩ u13).setCell ⟨g, 14, none⟩ u14).setCell ⟨g, 15, none⟩ u15) (fun k => k = g) := by
  refine Touch.setCell (p := ⟨g, 15, none⟩) (Touch.setCell (p := ⟨g, 14, none⟩) (Touch.setCell (p := ⟨g, 13, none⟩) (Touch.setCell (p := ⟨g, 12, none⟩) (Touch.setCell (p := ⟨g, 11, none⟩) (Touch.setCell (p := ⟨g, 10, none⟩) (Touch.setCell (p := ⟨g, 9, none⟩) (Touch.setCell (p := ⟨g, 8, none⟩) (Touch.setCell (p := ⟨g, 7, none⟩) (Touch.setCell (p := ⟨g, 6, none⟩) (Touch.setCell (p := ⟨g, 5, none⟩) (Touch.setCell (p := ⟨g, 4, none⟩) (Touch.setCell (p := ⟨g, 3, none⟩) (Touch.setCell (p := ⟨g, 2, none⟩) (Touch.setCell (p := ⟨g, 1, none⟩) (Touch.setCell (p := ⟨g, 0, none⟩) (Touch.refl w _) ?_ _) ?_ _) ?_ _) ?_ _) ?_ _) ?_ _) ?_ _) ?_ _) ?_ _) ?_ _) ?_ _) ?_ _) ?_ _) ?_ _) ?_ _) ?_ _ <;> exact fun _ => rfl
theorem Blk.cells2 {w : World} {g : Nat} {t : TypeId} {v0 v1 : Value} (h : Blk w g t #[v0, v1]) : w.cell? ⟨g, 0, none⟩ = some v0 ∧ w.cell? ⟨g, 1, none⟩ = some v1 :=
  ⟨h.cell 0, h.cell 1⟩
theorem Blk.set2 {w : World} {g : Nat} {t : TypeId} {v0 v1 : Value} (h : Blk w g t #[v0, v1]) (u0 u1 : Value) : Blk ((w.setCell ⟨g, 0, none⟩ u0).setCell ⟨g, 1, none⟩ u1) g t #[u0, u1] := by
  have := ((h.set_ 0 u0).set_ 1 u1)
  simpa using this
theorem touch_set2 (w : World) (g : Nat) (u0 u1 : Value) : Touch w ((w.setCell ⟨g, 0, none⟩ u0).setCell ⟨g, 1, none⟩ u1) (fun k => k = g) := by
  refine Touch.setCell (p := ⟨g, 1, none⟩) (Touch.setCell (p := ⟨g, 0, none⟩) (Touch.refl w _) ?_ _) ?_ _ <;> exact fun _ => rfl
theorem Blk.cells3 {w : World} {g : Nat} {t : TypeId} {v0 v1 v2 : Value} (h : Blk w g t #[v0, v1, v2]) : w.cell? ⟨g, 0, none⟩ = some v0 ∧ w.cell? ⟨g, 1, none⟩ = some v1 ∧ w.cell? ⟨g, 2, none⟩ = some v2 :=
  ⟨h.cell 0, h.cell 1, h.cell 2⟩
theorem Blk.set3 {w : World} {g : Nat} {t : TypeId} {v0 v1 v2 : Value} (h : Blk w g t #[v0, v1, v2]) (u0 u1 u2 : Value) : Blk (((w.setCell ⟨g, 0, none⟩ u0).setCell ⟨g, 1, none⟩ u1).setCell ⟨g, 2, none⟩ u2) g t #[u0, u1, u2] := by
  have := (((h.set_ 0 u0).set_ 1 u1).set_ 2 u2)
  simpa using this
theorem touch_set3 (w : World) (g : Nat) (u0 u1 u2 : Value) : Touch w (((w.setCell ⟨g, 0, none⟩ u0).setCell ⟨g, 1, none⟩ u1).setCell ⟨g, 2, none⟩ u2) (fun k => k = g) := by
  refine Touch.setCell (p := ⟨g, 2, none⟩) (Touch.setCell (p := ⟨g, 1, none⟩) (Touch.setCell (p := ⟨g, 0, none⟩) (Touch.refl w _) ?_ _) ?_ _) ?_ _ <;> exact fun _ => rfl
theorem Blk.cells4 {w : World} {g : Nat} {t : TypeId} {v0 v1 v2 v3 : Value} (h : Blk w g t #[v0, v1, v2, v3]) : w.cell? ⟨g, 0, none⟩ = some v0 ∧ w.cell? ⟨g, 1, none⟩ = some v1 ∧ w.cell? ⟨g, 2, none⟩ = some v2 ∧ w.cell? ⟨g, 3, none⟩ = some v3 :=
  ⟨h.cell 0, h.cell 1, h.cell 2, h.cell 3⟩
theorem Blk.set4 {w : World} {g : Nat} {t : TypeId} {v0 v1 v2 v3 : Value} (h : Blk w g t #[v0, v1, v2, v3]) (u0 u1 u2 u3 : Value) : Blk ((((w.setCell ⟨g, 0, none⟩ u0).setCell ⟨g, 1, none⟩ u1).setCell ⟨g, 2, none⟩ u2).setCell ⟨g, 3, none⟩ u3) g t #[u0, u1, u2, u3] := by
  have := ((((h.set_ 0 u0).set_ 1 u1).set_ 2 u2).set_ 3 u3)
  simpa using this
theorem touch_set4 (w : World) (g : Nat) (u0 u1 u2 u3 : Value) : Touch w ((((w.setCell ⟨g, 0, none⟩ u0).setCell ⟨g, 1, none⟩ u1).setCell ⟨g, 2, none⟩ u2).setCell ⟨g, 3, none⟩ u3) (fun k => k = g) := by
  refine Touch.setCell (p := ⟨g, 3, none⟩) (Touch.setCell (p := ⟨g, 2, none⟩) (Touch.setCell (p := ⟨g, 1, none⟩) (Touch.setCell (p := ⟨g, 0, none⟩) (Touch.refl w _) ?_ _) ?_ _) ?_ _) ?_ _ <;> exact fun _ => rfl
theorem Blk.cells5 {w : World} {g : Nat} {t : TypeId} {v0 v1 v2 v3 v4 : Value} (h : Blk w g t #[v0, v1, v2, v3, v4]) : w.cell? ⟨g, 0, none⟩ = some v0 ∧ w.cell? ⟨g, 1, none⟩ = some v1 ∧ w.cell? ⟨g, 2, none⟩ = some v2 ∧ w.cell? ⟨g, 3, none⟩ = some v3 ∧ w.cell? ⟨g, 4, none⟩ = some v4 :=
  ⟨h.cell 0, h.cell 1, h.cell 2, h.cell 3, h.cell 4⟩
theorem Blk.set5 {w : World} {g : Nat} {t : TypeId} {v0 v1 v2 v3 v4 : Value} (h : Blk w g t #[v0, v1, v2, v3, v4]) (u0 u1 u2 u3 u4 : Value) : Blk (((((w.setCell ⟨g, 0, none⟩ u0).setCell ⟨g, 1, none⟩ u1).setCell ⟨g, 2, none⟩ u2).setCell ⟨g, 3, none⟩ u3).setCell ⟨g, 4, none⟩ u4) g t #[u0, u1, u2, u3, u4] := by
  have := (((((h.set_ 0 u0).set_ 1 u1).set_ 2 u2).set_ 3 u3).set_ 4 u4)
  simpa using this
theorem touch_set5 (w : World) (g : Nat) (u0 u1 u2 u3 u4 : Value) : Touch w (((((w.setCell ⟨g, 0, none⟩ u0).setCell ⟨g, 1, none⟩ u1).setCell ⟨g, 2, none⟩ u2).setCell ⟨g, 3, none⟩ u3).setCell ⟨g, 4, none⟩ u4) (fun k => k = g) := by
  refine Touch.setCell (p := ⟨g, 4, none⟩) (Touch.setCell (p := ⟨g, 3, none⟩) (Touch.setCell (p := ⟨g, 2, none⟩) (Touch.setCell (p := ⟨g, 1, none⟩) (Touch.setCell (p := ⟨g, 0, none⟩) (Touch.refl w _) ?_ _) ?_ _) ?_ _) ?_ _) ?_ _ <;> exact fun _ => rfl
theorem Blk.cells7 {w : World} {g : Nat} {t : TypeId} {v0 v1 v2 v3 v4 v5 v6 : Value} (h : Blk w g t #[v0, v1, v2, v3, v4, v5, v6]) : w.cell? ⟨g, 0, none⟩ = some v0 ∧ w.cell? ⟨g, 1, none⟩ = some v1 ∧ w.cell? ⟨g, 2, none⟩ = some v2 ∧ w.cell? ⟨g, 3, none⟩ = some v3 ∧ w.cell? ⟨g, 4, none⟩ = some v4 ∧ w.cell? ⟨g, 5, none⟩ = some v5 ∧ w.cell? ⟨g, 6, none⟩ = some v6 :=
  ⟨h.cell 0, h.cell 1, h.cell 2, h.cell 3, h.cell 4, h.cell 5, h.cell 6⟩
theorem Blk.set7 {w : World} {g : Nat} {t : TypeId} {v0 v1 v2 v3 v4 v5 v6 : Value} (h : Blk w g t #[v0, v1, v2, v3, v4, v5, v6]) (u0 u1 u2 u3 u4 u5 u6 : Value) : Blk (((((((w.setCell ⟨g, 0, none⟩ u0).setCell ⟨g, 1, none⟩ u1).setCell ⟨g, 2, none⟩ u2).setCell ⟨g, 3, none⟩ u3).setCell ⟨g, 4, none⟩ u4).setCell ⟨g, 5, none⟩ u5).setCell ⟨g, 6, none⟩ u6) g t #[u0, u1, u2, u3, u4, u5, u6] := by
  have := (((((((h.set_ 0 u0).set_ 1 u1).set_ 2 u2).set_ 3 u3).set_ 4 u4).set_ 5 u5).set_ 6 u6)
  simpa using this
theorem touch_set7 (w : World) (g : Nat) (u0 u1 u2 u3 u4 u5 u6 : Value) : Touch w (((((((w.setCell ⟨g, 0, none⟩ u0).setCell ⟨g, 1, none⟩ u1).setCell ⟨g, 2, none⟩ u2).setCell ⟨g, 3, none⟩ u3).setCell ⟨g, 4, none⟩ u4).setCell ⟨g, 5, none⟩ u5).setCell ⟨g, 6, none⟩ u6) (fun k => k = g) := by
  refine Touch.setCell (p := ⟨g, 6, none⟩) (Touch.setCell (p := ⟨g, 5, none⟩) (Touch.setCell (p := ⟨g, 4, none⟩) (Touch.setCell (p := ⟨g, 3, none⟩) (Touch.setCell (p := ⟨g, 2, none⟩) (Touch.setCell (p := ⟨g, 1, none⟩) (Touch.setCell (p := ⟨g, 0, none⟩) (Touch.refl w _) ?_ _) ?_ _) ?_ _) ?_ _) ?_ _) ?_ _) ?_ _ <;> exact fun _ => rfl
theorem Touch.ext {a b c : World} {g : Nat} (h : Ext a b) (k : Touch b c (fun x => x = g)) (hg : a.heap.size ≤ g) : Ext a c :=
  Below.trans h (k.below h.size (fun _ e => by rw [e]; exact hg))
theorem reads_blk {w : World} {g : Nat} {t : TypeId} {cs : Array Value} {m : Nat} (h : Blk w g t cs) (hm : cs.size = m) : Reads w w.heap.size m (some ⟨g, 0, none⟩) 1 cs.toList := by
  refine ⟨by simpa using hm, fun _ => ⟨_, rfl, h.lt, fun j u hu => ?_⟩⟩
  have e : (⟨g, 0, none⟩ : Addr).add j = ⟨g, j, none⟩ := by unfold Addr.add; split <;> simp_all
  rw [e, h.cell]
  simpa using hu
end Go.Proofs.Ytpbenpkgbhmldaa
