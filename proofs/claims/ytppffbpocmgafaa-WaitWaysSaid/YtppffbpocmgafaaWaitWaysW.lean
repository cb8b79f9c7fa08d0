/- WaitWays: the walk. -/
import Derived.Test.YtppffbpocmgafaaWaitWaysP
import Derived.Test.YtppffbpocmgafaaWaitSetsW
import Derived.RegionTactic
import Derived.Deep.QuietTactic
import Derived.BigQuiet
import Derived.Deep.RegionHeld3
import Derived.Outline
namespace Go.Proofs.Ytppffbpocmgafaa.waitWays
open Go.ChangeShapes Go.WideShapes Go.ChangeAt Go.RowKit Go.Maps
set_option linter.unusedVariables false

/-- the edges are being read: k of them -/
structure L1 (w0 wr : World) (ob cb : Nat) (V : Nat → Value) (L : Nat → List Int) (k : Nat) : Prop where
  on : Blk wr ob 27 (onA V)
  can : Blk wr cb 29 (canA (c0 L))
  own : ∀ a, a < 8 → wr.ownsRow w0.heap.size 3 1 (V a) (L a).length (iv (L a))
  le : ∀ a, a < 8 → (L a).length ≤ k
  apart : ∀ a b, a < 8 → b < 8 → a ≠ b → ∀ z, (V a).ownBlock = some z → (V b).ownBlock ≠ some z
  rng : ∀ a, a < 8 → ∀ x ∈ L a, 0 ≤ x ∧ x < 8
  to : Touch w0 wr (fun x => x = ob ∨ x = cb)
  ho : ob < w0.heap.size
  hc : cb < w0.heap.size
  ne : ob ≠ cb
theorem can_zero : #[.bool false, .bool false, .bool false, .bool false, .bool false, .bool false, .bool false, .bool false, .bool false, .bool false, .bool false, .bool false, .bool false, .bool false, .bool false, .bool false, .bool false, .bool false, .bool false, .bool false, .bool false, .bool false, .bool false, .bool false, .bool false, .bool false, .bool false, .bool false, .bool false, .bool false, .bool false, .bool false, .bool false, .bool false, .bool false, .bool false, .bool false, .bool false, .bool false, .bool false, .bool false, .bool false, .bool false, .bool false, .bool false, .bool false, .bool false, .bool false, .bool false, .bool false, .bool false, .bool false, .bool false, .bool false, .bool false, .bool false, .bool false, .bool false, .bool false, .bool false, .bool false, .bool false, .bool false, .bool false] = canA (c0 fun _ => []) := by
  have e1 : (#[.bool false, .bool false, .bool false, .bool false, .bool false, .bool false, .bool false, .bool false, .bool false, .bool false, .bool false, .bool false, .bool false, .bool false, .bool false, .bool false, .bool false, .bool false, .bool false, .bool false, .bool false, .bool false, .bool false, .bool false, .bool false, .bool false, .bool false, .bool false, .bool false, .bool false, .bool false, .bool false, .bool false, .bool false, .bool false, .bool false, .bool false, .bool false, .bool false, .bool false, .bool false, .bool false, .bool false, .bool false, .bool false, .bool false, .bool false, .bool false, .bool false, .bool false, .bool false, .bool false, .bool false, .bool false, .bool false, .bool false, .bool false, .bool false, .bool false, .bool false, .bool false, .bool false, .bool false, .bool false] : Array Value) = Array.replicate 64 (.bool false) := rfl
  rw [e1]
  apply Array.ext
  · simp [canA]
  · intro t h1 h2
    simp [canA, c0]
theorem has_far2 {W w w' : World} {g N c ob cb t t' : Nat} {ks : List Int} {E : Int → Int → Bool} {cs cs' : Array Value} (h : Has W w g N c ks E) (hb : Blk w ob t cs) (hb' : Blk w cb t' cs') (ht : t ≠ 50) (ht' : t' ≠ 50) (hi : W.heap.size ≤ ob) (hi' : W.heap.size ≤ cb) (T : Touch w w' (fun k => k = ob ∨ k = cb)) : Has W w' g N c ks E := by
  obtain ⟨m, f, h1, h2⟩ := h
  have hF : ∀ z, (z = ob ∨ z = cb) → ∃ t cs, Blk w z t cs ∧ t ≠ 50 := fun z hz => by
    rcases hz with rfl | rfl
    · exact ⟨_, _, hb, ht⟩
    · exact ⟨_, _, hb', ht'⟩
  have hg : ¬ (g = ob ∨ g = cb) := fun e => by
    obtain ⟨t, cs, h3, h4⟩ := hF g e
    exact Blk.ne_ h1.blk h3 (fun e => h4 e.symm) rfl
  have hmap : ∀ {z n : Nat} {D : DataW Unit} {R : Value → Option (DataW Unit × List MemPlace)}, w.ownsMap Try.prog 3 R z n D → ¬ (z = ob ∨ z = cb) := fun h' e => by
    obtain ⟨t, cs, h3, h4⟩ := hF _ e
    exact map_ne h3 h' rfl
  refine ⟨m, f, ⟨T.blk h1.blk hg, h1.out.touch T (by obtain ⟨D, h', _⟩ := h1.out; exact hmap h'), h1.no, fun x b hx => ⟨(h1.yes x b hx).1.touch T (by obtain ⟨D, h', _⟩ := (h1.yes x b hx).1; exact hmap h'), (h1.yes x b hx).2⟩, h1.inj, h1.fin, h1.hg, h1.hm⟩, ?_⟩
  exact Below.trans h2 (T.below h2.size (fun z hz => by rcases hz with rfl | rfl <;> assumption))
theorem wf_nat {i : Nat} (h : i < 1000) : Wf i := by
  unfold Wf
  simp [Lit.wf, IntKind.min, IntKind.max, IntKind.bits, IntKind.signed]
  omega
/-- the lists are being set -/
structure L2 (W w3 wr : World) (g i : Nat) (L : Nat → List Int) (N : Nat) (ks : List Int) : Prop where
  h : Has W wr g N 30 ks (waysE L i)
  n : N ≤ i
  l : ks.length ≤ i
  e : Ext w3 wr ∨ True
  c : Cells w3 wr
/-- the ways are being reckoned -/
structure L3 (w3 wr : World) (cb : Nat) (L : Nat → List Int) (C : Nat → Nat → Bool) (k i j : Nat) : Prop where
  can : Blk wr cb 29 (canA C)
  fw : FW (waysE L 8) (c0 L) C k i j
  to : Touch w3 wr (fun x => x = cb)
theorem L3.step {w3 wr : World} {cb : Nat} {L : Nat → List Int} {C : Nat → Nat → Bool} {k i j : Nat} (h : L3 w3 wr cb L C k i j) (hk : k < 8) (hi : i < 8) (hj : j < 8) (u : Bool) (hu : u = (C i j || (C i k && C k j))) (w' : World) (hw : w' = wr.drew.setCell ⟨cb, i * 8 + j, none⟩ (.bool u)) :
    L3 w3 w' cb L (stepC C i j (C i j || (C i k && C k j))) k i (j + 1) := by
  subst hu hw
  refine ⟨?_, h.fw.step hk hi hj, Touch.setCell (p := ⟨cb, i * 8 + j, none⟩) h.to.drew (fun _ => rfl) _⟩
  have := h.can.drew.set_ (i * 8 + j) (.bool (C i j || (C i k && C k j)))
  rwa [canA_set _ _ hi hj] at this
section
variable {w0 wr w1 w2 : World} {ob cb k a b : Nat} {V : Nat → Value} {L : Nat → List Int} {v : Value}
theorem L1.drewN (h : L1 w0 wr ob cb V L k) (n : Nat) : L1 w0 (wr.drewN n) ob cb V L k :=
  have ht : Touch wr (wr.drewN n) (fun _ => False) := (Touch.refl wr _).drewN n
  ⟨ht.blk h.on (fun h => h), ht.blk h.can (fun h => h), fun a ha => ownsRow_touch ht (h.own a ha) (fun _ _ h => h), h.le, h.apart, h.rng, h.to.drewN n, h.ho, h.hc, h.ne⟩
theorem L1.lt (h : L1 w0 wr ob cb V L k) : w0.heap.size ≤ wr.heap.size := h.to.size
/-- a number is behind a list: what is so at once, and when it lies in the table -/
theorem L1.app (h : L1 w0 wr ob cb V L k) (ha : a < 8) (hb : b < 8) (ho : w2.ownsRow w0.heap.size 3 1 v ((L a).length + 1) (iv (L a) ++ [.int .i64 (b : Int)])) (hg : (wr.alloc (.cells #[.int .i64 (b : Int)] 3)).grownBy w2 (V a).ownBlock)
    (hat : v.ownBlock = (V a).ownBlock ∨ v.ownBlock = some (wr.alloc (.cells #[.int .i64 (b : Int)] 3)).heap.size) :
    Blk w2 ob 27 (onA V) ∧ Blk (w2.setCell ⟨ob, a, none⟩ v) cb 29 (canA (c0 L)) ∧
      ∀ (u : Bool) (w3 : World), u = (c0 L a b || decide (a ≠ b)) → w3 = (w2.setCell ⟨ob, a, none⟩ v).drew.setCell ⟨cb, a * 8 + b, none⟩ (.bool u) → L1 w0 w3 ob cb (putV V a v) (putL L a b) (k + 1) := by
  have hna : ∀ x, (V a).ownBlock = some x → x ≠ ob ∧ x ≠ cb := fun x hx => by
    have := ((h.own a ha).lt x hx).1
    have := h.ho
    have := h.hc
    omega
  have b1 : Blk w2 ob 27 (onA V) := (h.on.alloc _).grown hg (fun e => (hna ob e.symm).1 rfl)
  have b2 : Blk w2 cb 29 (canA (c0 L)) := (h.can.alloc _).grown hg (fun e => (hna cb e.symm).2 rfl)
  have t2 : Touch w0 w2 (fun x => x = ob ∨ x = cb) := (h.to.alloc _).grown hg (fun z hz hlt => by have := ((h.own a ha).lt z hz).1; omega)
  have b4 : Blk (w2.setCell ⟨ob, a, none⟩ v) cb 29 (canA (c0 L)) := Touch.blk (Touch.setCell (F := fun x => x = ob) (p := ⟨ob, a, none⟩) (Touch.refl w2 _) (fun _ => rfl) v) b2 (fun e => h.ne e.symm)
  have hvb : ∀ x, v.ownBlock = some x → x ≠ ob ∧ x ≠ cb := fun x hx => by
    have := (ho.lt x hx).1
    have := h.ho
    have := h.hc
    omega
  refine ⟨b1, b4, fun u w3 hu hw3 => ?_⟩
  have t3 : Touch w2 w3 (fun x => x = ob ∨ x = cb) := by
    rw [hw3]
    exact Touch.setCell (p := ⟨cb, a * 8 + b, none⟩) (Touch.setCell (p := ⟨ob, a, none⟩) (Touch.refl w2 _) (fun _ => .inl rfl) v).drew (fun _ => .inr rfl) _
  refine ⟨?_, ?_, fun x hx => ?_, fun x hx => ?_, fun x y hx hy hxy z hz => ?_, fun x hx z hz => ?_, t2.trans t3 (fun _ _ h => h), h.ho, h.hc, h.ne⟩
  · have b3 := b1.set_ a v
    rw [onA_set V v ha] at b3
    rw [hw3]
    exact Touch.blk (Touch.setCell (F := fun x => x = cb) (p := ⟨cb, a * 8 + b, none⟩) (Touch.refl _ _) (fun _ => rfl) _) b3.drew h.ne
  · have b5 := b4.drew.set_ (a * 8 + b) (.bool u)
    rw [canA_set _ u ha hb, hu, c0_put] at b5
    rw [hw3, hu]
    exact b5
  · unfold putV putL
    by_cases e : x = a
    · rw [if_pos e, if_pos e]
      refine ownsRow_touch t3 (by simpa [iv] using ho) (fun z hz hF => ?_)
      have := hvb z hz
      omega
    · rw [if_neg e, if_neg e]
      have hx' := h.own x hx
      have e1 : w2.ownsRow w0.heap.size 3 1 (V x) (L x).length (iv (L x)) := (hx'.alloc _).kept hg (by
        cases hv : (V x).ownBlock with
        | none => exact .inl rfl
        | some z => exact .inr (fun e' => h.apart x a hx ha e z hv e'.symm))
      refine ownsRow_touch t3 e1 (fun z hz hF => ?_)
      have := (hx'.lt z hz).1
      have := h.ho
      have := h.hc
      omega
  · unfold putL
    have := h.le x hx
    have := h.le a ha
    split
    · simp; omega
    · omega
  · have hnew : ∀ q, q < 8 → q ≠ a → ∀ z, v.ownBlock = some z → (V q).ownBlock ≠ some z := fun q hq hqa z hz hz' => by
      rcases hat with h1 | h1
      · rw [h1] at hz
        exact h.apart a q ha hq (Ne.symm hqa) z hz hz'
      · rw [h1] at hz
        injection hz with hz
        have := ((h.own q hq).lt z hz').2
        simp at hz
        omega
    unfold putV at hz ⊢
    by_cases e : x = a
    · rw [if_pos e] at hz
      rw [if_neg (fun e' => hxy (e.trans e'.symm))]
      exact hnew y hy (fun e' => hxy (e.trans e'.symm)) z hz
    · rw [if_neg e] at hz
      by_cases e' : y = a
      · rw [if_pos e']
        intro hz'
        exact hnew x hx e z hz' hz
      · rw [if_neg e']
        exact h.apart x y hx hy hxy z hz
  · unfold putL at hz
    by_cases e : x = a
    · rw [if_pos e] at hz
      rcases List.mem_append.1 hz with h1 | h1
      · exact h.rng a ha z h1
      · simp at h1; omega
    · rw [if_neg e] at hz
      exact h.rng x hx z hz
end
set_option maxRecDepth 100000 in
set_option maxHeartbeats 8000000 in
theorem walk_short (A : Option Addr) (c : Nat) (xs : List Value) (na : Nat) (w : World) (ha : Reads w w.heap.size 2 A na xs) (hx : ∀ j, j < 2 * na → ∃ n : Nat, xs[j]? = some (.int .u8 n) ∧ n < 256) (h1 : (na : Int) ≤ 30) :
    Calls Try.prog 3 #[.slice A na c] w fun e w' => e = .returned (.bool true) ∧ Ext w w' := by
  obtain ⟨i0, hi0, iz0, iz1, iz2⟩ := info_parts Try.info3'
  have HA := hide ha
  have HX := hide hx
  clear ha hx
  go_enter Try.func3, Try.ntmps3
  go_wp2_with (go_at_call 7; refine (begun_any _).mono ?_; rintro e W ⟨rfl, b1⟩)
  refine (has_new W).mono ?_
  rintro e w1 ⟨rfl, hg⟩
  have HG := hide (hg.more (c' := 30) (by omega))
  have BW := hide b1
  have hzW : W.heap.size ≤ w1.heap.size := hg.world.size
  have hzw : w.heap.size ≤ W.heap.size := b1.size
  clear b1 hg
  go_wp2_with (fail)
  obtain ⟨w0, hw0⟩ : ∃ w0, w0 = (w1.alloc (.cells (onA fun _ => .slice none 0 0) 27)).alloc (.cells (canA (c0 fun _ => [])) 29) := ⟨_, rfl⟩
  have e0 : (w1.alloc (.cells #[.slice none 0 0, .slice none 0 0, .slice none 0 0, .slice none 0 0, .slice none 0 0, .slice none 0 0, .slice none 0 0, .slice none 0 0] 27)).alloc (.cells #[.bool false, .bool false, .bool false, .bool false, .bool false, .bool false, .bool false, .bool false, .bool false, .bool false, .bool false, .bool false, .bool false, .bool false, .bool false, .bool false, .bool false, .bool false, .bool false, .bool false, .bool false, .bool false, .bool false, .bool false, .bool false, .bool false, .bool false, .bool false, .bool false, .bool false, .bool false, .bool false, .bool false, .bool false, .bool false, .bool false, .bool false, .bool false, .bool false, .bool false, .bool false, .bool false, .bool false, .bool false, .bool false, .bool false, .bool false, .bool false, .bool false, .bool false, .bool false, .bool false, .bool false, .bool false, .bool false, .bool false, .bool false, .bool false, .bool false, .bool false, .bool false, .bool false, .bool false, .bool false] 29) = w0 := by rw [can_zero]; exact hw0.symm
  rw [e0]
  have hz0 : w1.heap.size + 1 < w0.heap.size := by rw [hw0]; simp
  have EW := hide (show Ext w w0 by rw [hw0]; exact (BW.out.trans (HG.out.world)).trans ((Ext.new _ _).alloc _))
  have HG0 := hide (show Has W w0 (W.heap.size + 1) 0 30 [] (fun _ _ => false) by rw [hw0]; exact HG.out.ext ((Ext.new _ _).alloc _))
  have HS0 := hide (show L1 w0 w0 w1.heap.size (w1.heap.size + 1) (fun _ => .slice none 0 0) (fun _ => []) 0 from by
    refine ⟨?_, ?_, fun a _ => World.ownsRow_nil _ _ _ _, fun a _ => Nat.le_refl _, (fun a b _ _ _ z hz => by cases hz), (fun a _ x hx => by cases hx), Touch.refl _ _, by omega, by omega, by omega⟩
    · rw [hw0]; exact (Blk.new w1 27 _).alloc _
    · rw [hw0]; simpa using Blk.new (w1.alloc (.cells (onA fun _ => .slice none 0 0) 27)) 29 (canA (c0 fun _ => [])))
  clear e0 hw0
  go_loopw [6, 7, 8] (fun s6 s7 s8 wr => (∃ k : Nat, k ≤ na ∧ s6 = .int .i64 k ∧ Hid (∃ V L, L1 w0 wr w1.heap.size (w1.heap.size + 1) V L k))) (fun s6 _ _ _ => (na - intOf s6).toNat)
  case atStart => exact ⟨0, by omega, rfl, _, _, HS0.out⟩
  case round =>
    obtain ⟨k, hk, rfl, hs0⟩ := hrel
    obtain ⟨V, L, hs1⟩ := hs0.out
    have HS := hide hs1
    clear hs1 hs0
    by_cases hlt : k < na
    · obtain ⟨bk, off, hAe, hbw, hcell⟩ := HA.out.plain (by omega) (by omega)
      subst hAe
      obtain ⟨n0, hn0, h256⟩ := HX.out (k * 2) (by omega)
      obtain ⟨n1, hn1, h256'⟩ := HX.out (k * 2 + 1) (by omega)
      have far : ∀ j u, xs[j]? = some u → wr.cell? ⟨bk, off + j, none⟩ = some u := fun j u hu => by
        have e1 := (EW.out.cell (p := ⟨bk, off + j, none⟩) (show bk < w.heap.size from hbw)).trans (hcell j u hu)
        exact (World.cell?_of_block (HS.out.to.block bk (by have := EW.out.size; omega) (by omega))).trans e1
      have g0 := far _ _ hn0
      have g1 := far _ _ hn1
      rw [← Nat.add_assoc] at g1
      clear far hcell hn0 hn1
      obtain ⟨a, ha⟩ : ∃ a, a = n0 % 8 := ⟨_, rfl⟩
      obtain ⟨b, hb⟩ : ∃ b, b = n1 % 8 := ⟨_, rfl⟩
      have ha8 : a < 8 := by omega
      have hb8 : b < 8 := by omega
      have ham : (n0 : Int) % 8 = (a : Int) := by omega
      have hbm : (n1 : Int) % 8 = (b : Int) := by omega
      clear ha hb
      have hlti : (k : Int) < (na : Int) := by omega
      go_wp2_with (fail)
      go_quiet (fail)
      clear g0 g1 ham hbm
      have HSq := hide (HS.out.drewN nq)
      clear HS
      obtain ⟨wq, hwq⟩ : ∃ wq, wq = wr.drewN nq := ⟨_, rfl⟩
      rw [← hwq] at HSq ⊢
      clear hwq
      obtain ⟨n, hn⟩ : ∃ n, n = (L a).length := ⟨_, rfl⟩
      have hnk : n ≤ k := by rw [hn]; exact HSq.out.le a ha8
      have HN := hide hn
      obtain ⟨Ax, cx, hVa, _⟩ := own_form (HSq.out.own a ha8)
      rw [← hn] at hVa
      have HV := hide hVa
      have own1 := hide (show (wq.alloc (.cells #[.int .i64 (b : Int)] 3)).ownsRow w0.heap.size 3 1 (.slice Ax n cx) n (iv (L a)) by rw [← hVa, hn]; exact (HSq.out.own a ha8).alloc _)
      have x0 := HSq.out.on.cell a
      rw [onA_at _ ha8, hVa] at x0
      have hz : w0.heap.size ≤ wq.heap.size := HSq.out.lt
      have hoq : w1.heap.size < wq.heap.size := HSq.out.on.lt
      have hcq : w1.heap.size + 1 < wq.heap.size := HSq.out.can.lt
      clear hn hVa
      have news := hide (reads_blk (m := 1) (Blk.new wq 3 #[.int .i64 (b : Int)]) rfl)
      go_wp2_with (at_builtin; refine wpList_append_any _ rfl (.tmp 43) (.tmp 45) _ rfl w0.heap.size 3 i0 _ 1 8 Try.underlying26 hi0 iz0 iz1 iz2 rfl (by omega) (.slice Ax n cx) n (iv (L a)) rfl own1.out _ _ 1 1 [.int .i64 (b : Int)] rfl news.out (by simp [Value.oneCell']) (by unfold maxLen; omega) (by omega) (by simp; omega) ?_; intro v4 w4 ho4 hg4 hat4; obtain ⟨A4, c4, hv4, _⟩ := own_form ho4; subst hv4; have HA4 := hide (HSq.out.app ha8 hb8 (by rw [← HN.out]; exact ho4) (by rw [HV.out]; exact hg4) (by rw [HV.out]; exact hat4)); have x1 := HA4.out.1.cell a; have xf := HA4.out.1.frozen a; rw [onA_at _ ha8] at x1; clear ho4 hg4 hat4)
      obtain ⟨w5, hw5⟩ : ∃ w5, w5 = w4.setCell ⟨w1.heap.size, a, none⟩ (.slice A4 (n + 1) c4) := ⟨_, rfl⟩
      have hb5 := HA4.out.2.1
      have hl5 := hide HA4.out.2.2
      rw [← hw5] at hb5 hl5 ⊢
      have x2 := hb5.cell (a * 8 + b)
      have xf2 := hb5.frozen (a * 8 + b)
      rw [canA_at _ ha8 hb8] at x2
      obtain ⟨bb, hbb⟩ : ∃ bb, bb = decide (a ≠ b) := ⟨_, rfl⟩
      have hne : ((a : Int) != (b : Int)) = bb := by rw [hbb, Bool.eq_iff_iff]; simp; omega
      rw [← hbb] at hl5
      clear x0 x1 xf hb5 HA4 hw5 hbb news own1 HV
      cases hcc : c0 L a b with
      | true =>
        rw [hcc] at x2 hl5
        clear hcc
        go_region
        all_goals
          have hn1 := hide (hl5.out true _ rfl rfl)
          go_wp2
          go_roundw
          case rel => exact ⟨k + 1, by omega, by go_num, _, _, hn1.out⟩
          case measure => simp [intOf]; omega
      | false =>
        rw [hcc] at x2 hl5
        clear hcc
        go_region
        all_goals
          have hn1 := hide (hl5.out bb _ rfl rfl)
          go_wp2
          go_roundw
          case rel => exact ⟨k + 1, by omega, by go_num, _, _, hn1.out⟩
          case measure => simp [intOf]; omega
    · obtain rfl : k = na := by omega
      have HR := hide (has_far2 HG0.out HS0.out.on HS0.out.can (by decide) (by decide) (by omega) (by omega) HS.out.to)
      have ER := hide (show Ext w wr from Below.trans EW.out (HS.out.to.below EW.out.size (fun z hz => by rcases hz with rfl | rfl <;> omega)))
      clear HG HG0 HS0 EW HA HX
      have hz1 : w0.heap.size ≤ wr.heap.size := HS.out.lt
      go_wp2_with (fail)
      obtain ⟨w3, hw3⟩ : ∃ w3, w3 = wr := ⟨_, rfl⟩
      subst hw3
      go_loopw [9] (fun s9 wr => (∃ i : Nat, i ≤ 8 ∧ s9 = .int .i64 i ∧ Hid (∃ N ks, L2 W w3 wr (W.heap.size + 1) i L N ks))) (fun s9 _ => (8 - intOf s9).toNat)
      case atStart => exact ⟨0, by omega, rfl, 0, [], by rw [waysE_zero]; exact HR.out, Nat.le_refl _, Nat.le_refl _, .inr trivial, fun _ _ _ h => h⟩
      case round =>
        obtain ⟨i, hi, rfl, hs2⟩ := hrel
        obtain ⟨N, ks, hs3⟩ := hs2.out
        have H2 := hide hs3
        clear hs2 hs3
        by_cases hlt : i < 8
        · have WI := hide (wf_nat (i := i) (by omega))
          have ho := H2.out.c.own (HS.out.own i hlt)
          obtain ⟨Ai, ci, hVi, _⟩ := own_form ho
          have x0 := (H2.out.c _ _ _ HS.out.on).cell i
          rw [onA_at _ hlt, hVi] at x0
          rw [hVi] at ho
          have RI := hide (Reads.of_own ho)
          clear ho hVi
          go_wp2_with (fail)
          refine (has_set W _ _ N 30 ks (waysE L i) i Ai ci _ (L i) H2.out.h rfl RI.out WI.out (fun x hx => by have := HS.out.rng i hlt x hx; obtain ⟨h1, h2⟩ := this; have := wf_nat (i := x.toNat) (by omega); rwa [show ((x.toNat : Nat) : Int) = x by omega] at this) (by have := HS.out.le i hlt; omega) (by omega) (by have := H2.out.n; omega)).mono ?_
          rintro e w5 ⟨rfl, h5, c5⟩
          rw [waysE_set] at h5
          have hn1 : Hid (L2 W w3 w5 (W.heap.size + 1) (i + 1) L (N + 1) ((i : Int) :: ks)) := ⟨h5, by have := H2.out.n; omega, by have := H2.out.l; simp; omega, .inr trivial, fun k t cs hk => c5 k t cs (H2.out.c k t cs hk)⟩
          clear h5 c5
          go_wp2
          go_roundw
          case rel => exact ⟨i + 1, by omega, by go_num, _, _, hn1.out⟩
          case measure => simp [intOf]; omega
        · obtain rfl : i = 8 := by omega
          have K3 := hide (H2.out.c _ _ _ HS.out.can)
          have H3 := hide H2.out.h
          have RNG := hide HS.out.rng
          have hks : ks.length ≤ 8 := H2.out.l
          clear HR H2 HS
          go_wp2_with (fail)
          obtain ⟨w4, hw4⟩ : ∃ w4, w4 = wr := ⟨_, rfl⟩
          subst hw4
          go_loopw [10, 11, 12] (fun s10 _ _ wr => (∃ p : Nat, p ≤ 8 ∧ s10 = .int .i64 p ∧ Hid (∃ C, L3 w4 wr (w1.heap.size + 1) L C p 0 0))) (fun s10 _ _ _ => (8 - intOf s10).toNat)
          case atStart => exact ⟨0, by omega, rfl, _, K3.out, ways_start, Touch.refl _ _⟩
          case round =>
            obtain ⟨p, hp, rfl, hs4⟩ := hrel
            by_cases hltp : p < 8
            · go_wp2_with (fail)
              go_loopw [11, 12] (fun s11 _ wr => (∃ q : Nat, q ≤ 8 ∧ s11 = .int .i64 q ∧ Hid (∃ C, L3 w4 wr (w1.heap.size + 1) L C p q 0))) (fun s11 _ _ => (8 - intOf s11).toNat)
              case atStart => exact ⟨0, by omega, rfl, hs4.out⟩
              case round =>
                obtain ⟨q, hq, rfl, hs5⟩ := hrel
                by_cases hltq : q < 8
                · go_wp2_with (fail)
                  go_loopw [12] (fun s12 wr => (∃ r : Nat, r ≤ 8 ∧ s12 = .int .i64 r ∧ Hid (∃ C, L3 w4 wr (w1.heap.size + 1) L C p q r))) (fun s12 _ => (8 - intOf s12).toNat)
                  case atStart => exact ⟨0, by omega, rfl, hs5.out⟩
                  case round =>
                    obtain ⟨r, hr, rfl, hs6⟩ := hrel
                    by_cases hltr : r < 8
                    · obtain ⟨C, hC⟩ := hs6.out
                      have x0 := hC.can.cell (q * 8 + r)
                      have x1 := hC.can.cell (q * 8 + p)
                      have x2 := hC.can.cell (p * 8 + r)
                      have xf := hC.can.frozen (q * 8 + r)
                      rw [canA_at _ hltq hltr] at x0
                      rw [canA_at _ hltq hltp] at x1
                      rw [canA_at _ hltp hltr] at x2
                      have HC := hide (hC.step hltp hltq hltr)
                      clear hC hs4 hs5 hs6
                      cases c0 : C q r with
                      | true =>
                        rw [c0] at x0
                        have hn1 := hide (HC.out true (by rw [c0]; rfl) _ rfl)
                        clear x1 x2 HC c0
                        go_wp2_with (fail)
                        go_region
                        all_goals
                          go_wp2
                          go_roundw
                          case rel => exact ⟨r + 1, by omega, by go_num, _, hn1.out⟩
                          case measure => simp [intOf]; omega
                      | false =>
                        rw [c0] at x0
                        cases c1 : C q p with
                        | false =>
                          rw [c1] at x1
                          have hn1 := hide (HC.out false (by rw [c0, c1]; rfl) _ rfl)
                          clear x2 HC c0 c1
                          go_wp2_with (fail)
                          go_region
                          all_goals
                            go_wp2
                            go_roundw
                            case rel => exact ⟨r + 1, by omega, by go_num, _, hn1.out⟩
                            case measure => simp [intOf]; omega
                        | true =>
                          rw [c1] at x1
                          obtain ⟨cv, hcv⟩ : ∃ cv, cv = C p r := ⟨_, rfl⟩
                          rw [← hcv] at x2
                          have hn1 := hide (HC.out cv (by rw [c0, c1, hcv]; rfl) _ rfl)
                          clear HC c0 c1 hcv
                          go_wp2_with (fail)
                          go_region
                          all_goals
                            go_wp2
                            go_roundw
                            case rel => exact ⟨r + 1, by omega, by go_num, _, hn1.out⟩
                            case measure => simp [intOf]; omega
                    · obtain rfl : r = 8 := by omega
                      have hn1 : Hid (∃ C, L3 w4 wr (w1.heap.size + 1) L C p (q + 1) 0) := by
                        obtain ⟨C, hC⟩ := hs6.out
                        exact ⟨C, hC.can, hC.fw.row, hC.to⟩
                      clear hs4 hs5 hs6
                      go_wp2
                      go_roundw
                      case rel => exact ⟨q + 1, by omega, by go_num, hn1.out⟩
                      case measure => simp [intOf]; omega
                · obtain rfl : q = 8 := by omega
                  have hn1 : Hid (∃ C, L3 w4 wr (w1.heap.size + 1) L C (p + 1) 0 0) := by
                    obtain ⟨C, hC⟩ := hs5.out
                    exact ⟨C, hC.can, hC.fw.round, hC.to⟩
                  clear hs4 hs5
                  go_wp2
                  go_roundw
                  case rel => exact ⟨p + 1, by omega, by go_num, hn1.out⟩
                  case measure => simp [intOf]; omega
            · obtain rfl : p = 8 := by omega
              obtain ⟨C, hC⟩ := hs4.out
              have HF := hide (fun i (hi : i < 8) => ways_cyc RNG.out hC.fw hi)
              have H5 := hide (H3.out.far K3.out (by decide) (by omega) hC.to)
              have K5 := hide hC.can
              clear hC hs4 H3 K3
              go_wp2_with (fail)
              obtain ⟨w5, hw5⟩ : ∃ w5, w5 = wr := ⟨_, rfl⟩
              subst hw5
              go_loopw [13] (fun s13 wr => (∃ i : Nat, i ≤ 8 ∧ s13 = .int .i64 i ∧ Hid (Ext w5 wr))) (fun s13 _ => (8 - intOf s13).toNat)
              case atStart => exact ⟨0, by omega, rfl, Ext.refl _⟩
              case round =>
                obtain ⟨i, hi, rfl, hs7⟩ := hrel
                by_cases hlt : i < 8
                · have WI := hide (wf_nat (i := i) (by omega))
                  have K6 := hide (hs7.out.blk K5.out)
                  have x0 := hide (show wr.cell? ⟨w1.heap.size + 1, i * 8 + i, none⟩ = some (.bool (C i i)) by have := K6.out.cell (i * 8 + i); rwa [canA_at _ hlt hlt] at this)
                  have hcl : w1.heap.size + 1 < wr.heap.size := K6.out.lt
                  obtain ⟨cv, hcv⟩ : ∃ cv, cv = C i i := ⟨_, rfl⟩
                  have HCY := hide (HF.out i hlt)
                  rw [← hcv] at HCY x0
                  clear hcv K6
                  have x00 := x0.out
                  go_wp2_with (fail)
                  go_region_held3 (fun w' => w'.cell? ⟨w1.heap.size + 1, i * 8 + i, none⟩ = some (.bool cv)) (first | exact x1.out | exact x0.out)
                    (first | (go_at_call 10; refine (has_cycle W _ _ N 30 ks (waysE L 8) i (H5.out.ext (hs7.out.drew)) WI.out (by omega)).mono ?_; rintro e w6 ⟨rfl, h6⟩; rw [HCY.out]; have x1 := hide ((h6.cell (p := ⟨w1.heap.size + 1, i * 8 + i, none⟩) hcl).trans x0.out); have E6 := hide (hs7.out.drew.trans h6); clear h6))
                  all_goals
                    go_wp2
                    go_roundw
                    case rel => first | exact ⟨i + 1, by omega, by go_num, E6.out⟩ | ((repeat apply Exists.intro); exact ⟨⟨i + 1, by omega, by go_num, E6.out⟩, rfl⟩)
                    case measure => simp [intOf]; omega
                · obtain rfl : i = 8 := by omega
                  have hF := hide (BW.out.trans (H5.out.world.trans hs7.out))
                  go_wp2
                  go_ret
                  exact ⟨rfl, hF.out⟩
end Go.Proofs.Ytppffbpocmgafaa.waitWays
