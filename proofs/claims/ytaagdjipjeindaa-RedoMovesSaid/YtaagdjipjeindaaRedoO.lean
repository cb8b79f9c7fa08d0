/- Redo: Apply on entries; pages in cells of their own; doing all again. -/
import Derived.Test.YtaagdjipjeindaaRedoM
import Derived.Test.YtaagdjipjeindaaRedoN
namespace Go.Proofs.Ytaagdjipjeindaa
open Go.ChangeShapes Go.WideShapes Go.ChangeAt Go.RowKit
set_option linter.unusedVariables false

/-! ### The plain law -/
/-- a page behind an entry -/
def stepP (n : Int) (s : (Nat → List UInt8) × Int) (E : EntS) (lsn : Int) : (Nat → List UInt8) × Int :=
  if actsP s.2 n E.kind E.a0 E.b0 lsn E.mv then (paintF E.kind E.a0 E.a1 E.b0 E.b1 n E.NL E.mv s.1, lsn) else s
/-- a page behind so many entries -/
def runP (n : Int) (es : List EntS) : Nat → (Nat → List UInt8) × Int
  | 0 => (noP, 0)
  | k + 1 => match es[k]? with
    | some E => stepP n (runP n es k) E ((k : Int) + 1)
    | none => runP n es k
theorem runP_succ {n : Int} {es : List EntS} {k : Nat} {E : EntS} (h : es[k]? = some E) : runP n es (k + 1) = stepP n (runP n es k) E ((k : Int) + 1) := by
  simp only [runP, h]
theorem stepP_num (n : Int) (s : (Nat → List UInt8) × Int) (E : EntS) (lsn : Int) : (stepP n s E lsn).2 = s.2 ∨ (stepP n s E lsn).2 = lsn ∧ s.2 < lsn := by
  unfold stepP
  split
  · rename_i h
    exact .inr ⟨rfl, h.1⟩
  · exact .inl rfl
theorem runP_le (n : Int) (es : List EntS) : ∀ k : Nat, (runP n es k).2 ≤ k
  | 0 => by simp [runP]
  | k + 1 => by
    have ih := runP_le n es k
    rcases h : es[k]? with _ | E
    · simp only [runP, h]; omega
    · rw [runP_succ h]
      rcases stepP_num n (runP n es k) E ((k : Int) + 1) with e | ⟨e, _⟩ <;> rw [e] <;> omega
theorem runP_mono (n : Int) (es : List EntS) (k : Nat) : ∀ d : Nat, (runP n es k).2 ≤ (runP n es (k + d)).2
  | 0 => by simp
  | d + 1 => by
    have ih := runP_mono n es k d
    rw [show k + (d + 1) = (k + d) + 1 by omega]
    rcases h : es[k + d]? with _ | E
    · simp only [runP, h]; exact ih
    · rw [runP_succ h]
      have := runP_le n es (k + d)
      rcases stepP_num n (runP n es (k + d)) E (((k + d : Nat) : Int) + 1) with e | ⟨e, h2⟩ <;> rw [e] <;> omega
theorem runP_hit {n : Int} {es : List EntS} {i : Nat} {E : EntS} (h : es[i]? = some E) (ht : n ∈ touchL E.kind E.a0 E.b0 E.mv) : (runP n es (i + 1)).2 = (i : Int) + 1 := by
  have hle := runP_le n es i
  rw [runP_succ h, stepP, if_pos ⟨by omega, ht⟩]
/-- who does again what was done already is where one was -/
theorem runP_again {n : Int} {es : List EntS} {i j : Nat} {E : EntS} (h : es[i]? = some E) (hij : i < j) : stepP n (runP n es j) E ((i : Int) + 1) = runP n es j := by
  unfold stepP
  rw [if_neg]
  rintro ⟨h1, h2⟩
  have e1 := runP_hit (n := n) h h2
  have e2 := runP_mono n es (i + 1) (j - (i + 1))
  rw [show i + 1 + (j - (i + 1)) = j by omega] at e2
  omega
theorem runP_max {n : Int} {es : List EntS} {i j : Nat} {E : EntS} (h : es[i]? = some E) : stepP n (runP n es (max i j)) E ((i : Int) + 1) = runP n es (max (i + 1) j) := by
  rcases Nat.lt_or_ge i j with hij | hij
  · rw [show max i j = j by omega, show max (i + 1) j = j by omega]
    exact runP_again h hij
  · rw [show max i j = i by omega, show max (i + 1) j = i + 1 by omega, runP_succ h]
/-- an entry that is not too great -/
def EntOk (E : EntS) : Prop := E.NL.length ≤ 1000 ∧ E.mv.length ≤ 1000
theorem stubOf_len (b0 b1 : Int) : (stubOf b0 b1).length ≤ 1000 := by
  unfold stubOf
  split <;> simp [stubL]
theorem setP_len {f : Nat → List UInt8} {a0 a1 n : Int} {l : List UInt8} (hf : ∀ j, (f j).length ≤ 1000) (hl : l.length ≤ 1000) : ∀ j, (setP f a0 a1 n l j).length ≤ 1000 := by
  intro j
  unfold setP
  split
  · exact hl
  · exact hf j
theorem fold_len {n : Int} : ∀ (mv : List Mv) (f : Nat → List UInt8), (∀ j, (f j).length ≤ 1000) → ∀ j, (mv.foldl (fun f x => setP f x.f0 x.f1 n []) f j).length ≤ 1000
  | [], f, hf, j => hf j
  | x :: mv, f, hf, j => fold_len mv _ (setP_len hf (by simp)) j
theorem paintF_len {kind a0 a1 b0 b1 n : Int} {NL : List UInt8} {mv : List Mv} {f : Nat → List UInt8} (hf : ∀ j, (f j).length ≤ 1000) (hl : NL.length ≤ 1000) : ∀ j, (paintF kind a0 a1 b0 b1 n NL mv f j).length ≤ 1000 := by
  unfold paintF
  split
  · exact setP_len hf hl
  · split
    · exact setP_len (setP_len hf (stubOf_len b0 b1)) hl
    · split
      · exact fold_len mv f hf
      · exact hf
theorem stepP_len {n : Int} {s : (Nat → List UInt8) × Int} {E : EntS} {lsn : Int} (hs : ∀ j, (s.1 j).length ≤ 1000) (hE : EntOk E) : ∀ j, ((stepP n s E lsn).1 j).length ≤ 1000 := by
  unfold stepP
  split
  · exact paintF_len hs hE.1
  · exact hs
theorem runP_len {n : Int} {es : List EntS} (hE : ∀ E ∈ es, EntOk E) : ∀ k j : Nat, ((runP n es k).1 j).length ≤ 1000
  | 0, j => by simp [runP, noP]
  | k + 1, j => by
    rcases h : es[k]? with _ | E
    · simp only [runP, h]; exact runP_len hE k j
    · rw [runP_succ h]
      exact stepP_len (runP_len hE k) (hE E (List.mem_of_getElem? h)) j
theorem someE_ok (x : Nat) : EntOk (someE x) := by
  refine ⟨?_, by simp [someE]⟩
  simp only [someE]
  split
  · simp
  · rw [rowL_len (by simp [ltL]) (by simp) (by simp)]; decide

/-! ### Apply on entries -/
theorem apply_ent (w : World) (v : Value) (s : (Nat → List UInt8) × Int) (n lsn : Int) (hp : Pg w v s.1 s.2) (hL : ∀ j, (s.1 j).length ≤ 1000) (E : EntS) (AN : Option Addr) (cN : Nat) (AM : Option Addr) (cM : Nat)
    (h1 : w.ownsRow 0 5 1 (.slice AN E.NL.length cN) E.NL.length (bv E.NL)) (h2 : w.ownsRow 0 54 4 (.slice AM E.mv.length cM) E.mv.length (mvs E.mv)) (hE : EntOk E) :
    Calls Try.prog 9 #[v, .int .i64 n, .agg #[.int .i64 E.kind, .int .i64 E.t, .int .i64 E.u, .int .i64 E.h, .int .i64 E.p, .int .i64 E.nx, .int .i64 E.a0, .int .i64 E.a1, .int .i64 E.b0, .int .i64 E.b1, .slice none 0 0, .slice AN E.NL.length cN, .slice AM E.mv.length cM, .slice none 0 0, .slice none 0 0, .slice none 0 0], .int .i64 lsn] w
      (GivesPg w (stepP n s E lsn).1 (stepP n s E lsn).2 (decide (actsP s.2 n E.kind E.a0 E.b0 lsn E.mv))) := by
  have h := apply_pg w v s.1 s.2 n lsn hp (fun j _ => hL j) E.kind E.a0 E.a1 E.b0 E.b1 E.t E.u E.h E.p E.nx AN cN E.NL.length E.NL none 0 0 AM cM E.mv.length E.mv none none none 0 0 0 0 0 0 (BB.own h1) hE.1 rfl (own_reads h2) hE.2
  simp only [env, pageF] at h
  refine h.mono ?_
  rintro e w' ⟨v', rfl, hp', hx⟩
  refine ⟨v', rfl, ?_, hx⟩
  unfold stepP
  split
  · rename_i hc
    rw [if_pos hc, if_pos hc] at hp'
    exact hp'
  · rename_i hc
    rw [if_neg hc, if_neg hc] at hp'
    exact hp'

/-! ### A page in a variable -/
/-- a page in a block -/
def PgAt (w : World) (b : Nat) (s : (Nat → List UInt8) × Int) : Prop :=
  ∃ A0 c0 A1 c1 A2 c2 A3 c3, Blk w b 35 #[.slice A0 (s.1 0).length c0, .slice A1 (s.1 1).length c1, .slice A2 (s.1 2).length c2, .slice A3 (s.1 3).length c3, .int .i64 s.2] ∧
    Pg w (.agg #[.slice A0 (s.1 0).length c0, .slice A1 (s.1 1).length c1, .slice A2 (s.1 2).length c2, .slice A3 (s.1 3).length c3, .int .i64 s.2]) s.1 s.2
theorem PgAt.ext {w w' : World} {b : Nat} {s : (Nat → List UInt8) × Int} (h : PgAt w b s) (hx : Ext w w') : PgAt w' b s := by
  obtain ⟨A0, c0, A1, c1, A2, c2, A3, c3, hb, hp⟩ := h
  exact ⟨A0, c0, A1, c1, A2, c2, A3, c3, hx.blk hb, hp.ext hx⟩
theorem Pg.far {w w' : World} {g : Nat} {t : TypeId} {cs : Array Value} {v : Value} {f : Nat → List UInt8} {ls : Int} (h : Pg w v f ls) (hb : Blk w g t cs) (hc : ∀ (u : Value), u ∈ cs.toList → ∀ z, u ≠ .int .u8 z) (ht : Touch w w' (fun a => a = g)) : Pg w' v f ls := by
  obtain ⟨u0, u1, u2, u3, rfl, h0, h1, h2, h3⟩ := h
  exact ⟨u0, u1, u2, u3, rfl, h0.far hb hc ht, h1.far hb hc ht, h2.far hb hc ht, h3.far hb hc ht⟩
theorem PgAt.no8 {A0 A1 A2 A3 : Option Addr} {n0 c0 n1 c1 n2 c2 n3 c3 : Nat} {ls : Int} : ∀ (u : Value), u ∈ (#[.slice A0 n0 c0, .slice A1 n1 c1, .slice A2 n2 c2, .slice A3 n3 c3, .int .i64 ls] : Array Value).toList → ∀ z, u ≠ .int .u8 z := by
  intro u hu z e
  simp only [List.mem_cons, List.not_mem_nil, or_false] at hu
  rcases hu with h | h | h | h | h <;> rw [h] at e <;> cases e
theorem PgAt.far {w w' : World} {b g : Nat} {s s' : (Nat → List UInt8) × Int} (h : PgAt w b s) (hg : PgAt w g s') (hne : b ≠ g) (ht : Touch w w' (fun a => a = g)) : PgAt w' b s := by
  obtain ⟨A0, c0, A1, c1, A2, c2, A3, c3, hb, hp⟩ := h
  obtain ⟨_, _, _, _, _, _, _, _, hb', _⟩ := hg
  exact ⟨A0, c0, A1, c1, A2, c2, A3, c3, ht.blk hb hne, hp.far hb' PgAt.no8 ht⟩
/-- a page laid into a variable -/
theorem PgAt.lay {w : World} {g : Nat} {s s' : (Nat → List UInt8) × Int} {A0 A1 A2 A3 : Option Addr} {c0 c1 c2 c3 : Nat} (hg : PgAt w g s)
    (hp : Pg w (.agg #[.slice A0 (s'.1 0).length c0, .slice A1 (s'.1 1).length c1, .slice A2 (s'.1 2).length c2, .slice A3 (s'.1 3).length c3, .int .i64 s'.2]) s'.1 s'.2) :
    PgAt (((((w.setCell ⟨g, 0, none⟩ (.slice A0 (s'.1 0).length c0)).setCell ⟨g, 1, none⟩ (.slice A1 (s'.1 1).length c1)).setCell ⟨g, 2, none⟩ (.slice A2 (s'.1 2).length c2)).setCell ⟨g, 3, none⟩ (.slice A3 (s'.1 3).length c3)).setCell ⟨g, 4, none⟩ (.int .i64 s'.2)) g s' := by
  obtain ⟨_, _, _, _, _, _, _, _, hb', _⟩ := hg
  exact ⟨A0, c0, A1, c1, A2, c2, A3, c3, hb'.set5 _ _ _ _ _, hp.far hb' PgAt.no8 (touch_set5 _ _ _ _ _ _ _)⟩
/-- entries stay where a block of another type is written -/
theorem EntsAre.far {w w' : World} {g : Nat} {t : TypeId} {cs : Array Value} (hb : Blk w g t cs) (h5 : (5 : Nat) ≠ t) (h54 : (54 : Nat) ≠ t) (ht : Touch w w' (fun a => a = g)) : ∀ {es : List EntS} {l : List Value}, EntsAre w es l → EntsAre w' es l
  | [], _, h => h
  | _ :: _, _, ⟨c, r, e, ⟨AN, cN, AM, cM, e2, h1, h2⟩, h3⟩ => ⟨c, r, e, ⟨AN, cN, AM, cM, e2, ownsRow_touch ht h1 (fun k hk hf => own_blk_ne h1 hb h5 (by rw [hk, hf])), ownsRow_touch ht h2 (fun k hk hf => own_blk_ne h2 hb h54 (by rw [hk, hf]))⟩, EntsAre.far hb h5 h54 ht h3⟩
/-- entries in a row -/
def Ents (w : World) (v : Value) (es : List EntS) : Prop := ∃ A c vs, v = .slice A es.length c ∧ w.ownsRow 0 31 16 v es.length vs ∧ EntsAre w es vs
theorem Ents.ext {w w' : World} {v : Value} {es : List EntS} (h : Ents w v es) (hx : Ext w w') : Ents w' v es := by
  obtain ⟨A, c, vs, e, h1, h2⟩ := h
  exact ⟨A, c, vs, e, hx.own h1, h2.ext hx⟩
theorem Ents.far {w w' : World} {v : Value} {es : List EntS} {g : Nat} {t : TypeId} {cs : Array Value} (h : Ents w v es) (hb : Blk w g t cs) (h5 : (5 : Nat) ≠ t) (h54 : (54 : Nat) ≠ t) (h31 : (31 : Nat) ≠ t) (ht : Touch w w' (fun a => a = g)) : Ents w' v es := by
  obtain ⟨A, c, vs, e, h1, h2⟩ := h
  exact ⟨A, c, vs, e, ownsRow_touch ht h1 (fun k hk hf => own_blk_ne h1 hb h31 (by rw [hk, hf])), h2.far hb h5 h54 ht⟩
/-- an entry's cells, where it lies -/
def C16 (w : World) (b o : Nat) (E : EntS) (AN : Option Addr) (cN : Nat) (AM : Option Addr) (cM : Nat) : Prop :=
  w.cell? ⟨b, o, none⟩ = some (.int .i64 E.kind) ∧ w.cell? ⟨b, o + 1, none⟩ = some (.int .i64 E.t) ∧ w.cell? ⟨b, o + 2, none⟩ = some (.int .i64 E.u) ∧ w.cell? ⟨b, o + 3, none⟩ = some (.int .i64 E.h) ∧ w.cell? ⟨b, o + 4, none⟩ = some (.int .i64 E.p) ∧ w.cell? ⟨b, o + 5, none⟩ = some (.int .i64 E.nx) ∧
  w.cell? ⟨b, o + 6, none⟩ = some (.int .i64 E.a0) ∧ w.cell? ⟨b, o + 7, none⟩ = some (.int .i64 E.a1) ∧ w.cell? ⟨b, o + 8, none⟩ = some (.int .i64 E.b0) ∧ w.cell? ⟨b, o + 9, none⟩ = some (.int .i64 E.b1) ∧ w.cell? ⟨b, o + 10, none⟩ = some (.slice none 0 0) ∧ w.cell? ⟨b, o + 11, none⟩ = some (.slice AN E.NL.length cN) ∧
  w.cell? ⟨b, o + 12, none⟩ = some (.slice AM E.mv.length cM) ∧ w.cell? ⟨b, o + 13, none⟩ = some (.slice none 0 0) ∧ w.cell? ⟨b, o + 14, none⟩ = some (.slice none 0 0) ∧ w.cell? ⟨b, o + 15, none⟩ = some (.slice none 0 0)
theorem Ents.at_ {w : World} {A : Option Addr} {c m i : Nat} {es : List EntS} {E : EntS} (h : Ents w (.slice A m c) es) (hi : es[i]? = some E) :
    ∃ g AN cN AM cM, A = some ⟨g, 0, none⟩ ∧ g < w.heap.size ∧ (∀ w' : World, Ext w w' → C16 w' g (i * 16) E AN cN AM cM) ∧ w.ownsRow 0 5 1 (.slice AN E.NL.length cN) E.NL.length (bv E.NL) ∧ w.ownsRow 0 54 4 (.slice AM E.mv.length cM) E.mv.length (mvs E.mv) := by
  obtain ⟨A', c', vs, e, ho, hv⟩ := h
  injection e with e1 e2 e3
  subst e1 e2 e3
  obtain ⟨cs, ⟨AN, cN, AM, cM, rfl, h1, h2⟩, hcs⟩ := hv.at_ hi
  have hlt := (List.getElem?_eq_some_iff.1 hi).1
  obtain ⟨g, cap, hvv, hb, hglt⟩ := ho.form (by omega)
  injection hvv with hA
  subst hA
  have hc := ho.cells (g := g) rfl
  refine ⟨g, AN, cN, AM, cM, rfl, hglt, fun w' hx => ?_, h1, h2⟩
  have hh : ∀ j u, j < 16 → (entC E AN cN AM cM)[j]? = some u → w'.cell? ⟨g, i * 16 + j, none⟩ = some u := fun j u hj hu => by
    have := hc (i * 16 + j) u ((hcs j hj).trans hu)
    rw [show (⟨g, 0, none⟩ : Addr).add (i * 16 + j) = ⟨g, i * 16 + j, none⟩ by unfold Addr.add; split <;> simp_all] at this
    exact (hx.cell (p := ⟨g, i * 16 + j, none⟩) hglt).trans this
  exact ⟨hh 0 _ (by omega) rfl, hh 1 _ (by omega) rfl, hh 2 _ (by omega) rfl, hh 3 _ (by omega) rfl, hh 4 _ (by omega) rfl, hh 5 _ (by omega) rfl, hh 6 _ (by omega) rfl, hh 7 _ (by omega) rfl, hh 8 _ (by omega) rfl, hh 9 _ (by omega) rfl, hh 10 _ (by omega) rfl, hh 11 _ (by omega) rfl, hh 12 _ (by omega) rfl, hh 13 _ (by omega) rfl, hh 14 _ (by omega) rfl, hh 15 _ (by omega) rfl⟩
end Go.Proofs.Ytaagdjipjeindaa
