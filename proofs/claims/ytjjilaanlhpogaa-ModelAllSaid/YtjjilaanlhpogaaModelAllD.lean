/- ModelAll: the document's Do, kind by kind. -/
import Derived.Test.YtjjilaanlhpogaaModelAllR
import Derived.RegionTactic
import Derived.BigRegion
import Derived.Deep.RegionLaw
import Derived.Deep.RegionHeld
import Derived.Outline
namespace Go.Proofs.Ytjjilaanlhpogaa
open Go.ChangeShapes Go.WideShapes Go.ChangeAt Go.RowKit Go.Maps Go.MapKept Go.Sort
set_option linter.unusedVariables false

/-- what the document's Do has made -/
structure Rh (W w w1 : World) (rb : Nat) (A0 : Option Addr) (c0 : Nat) (R : List Rw) (kind t n : Int) (r : Rw) (A : Option Addr) (l c : Nat) : Prop where
  rf : Rf W w1 rb A0 c0 R
  stp : Stp w1 w.heap.size kind t n r A l c
  ans : Blk w1 (w.heap.size + 1) 37 #[.int .i64 0, .slice none 0 0]
  ext : Ext w w1
section
variable {W w w1 w2 : World} {rb c0 : Nat} {A0 : Option Addr} {R : List Rw} {kind t n : Int} {r : Rw} {A : Option Addr} {l c : Nat}
theorem Rh.ex (h : Rh W w w1 rb A0 c0 R kind t n r A l c) (hx : Ext w1 w2) : Rh W w w2 rb A0 c0 R kind t n r A l c :=
  ⟨h.rf.ex hx, hx.blk h.stp, hx.blk h.ans, h.ext.trans hx⟩
theorem Rh.start (h : Rf W w rb A0 c0 R) (hx : Ext ((w.alloc (sblk kind t n r A l c)).alloc ablk) w1) : Rh W w w1 rb A0 c0 R kind t n r A l c :=
  ⟨h.ex ((head_ext w kind t n r A l c).trans hx), hx.blk ((Ext.new _ _).blk (Blk.new w 34 _)), hx.blk (blk2 w _ 37 _), (head_ext w kind t n r A l c).trans hx⟩
theorem Rh.own (h : Rh W w w1 rb A0 c0 R kind t n r A l c) : w1.ownsRow W.heap.size 31 3 (.slice A0 R.length c0) R.length (rcs R) := h.rf.own
end
theorem found_b {f : ByteArray → Option Rw} {R : List Rw} (h : Rep f R) (hk : Kd f) {x : ByteArray} {k : Nat} {b : Bool} (ha : At R x k) (hb : b = true ↔ ∃ r, R[k]? = some r ∧ r.k = x) : b = (f x).isSome ∧ ∃ A B, Cut f R x k A B := by
  obtain ⟨A, B, hc⟩ := h.cut hk ha
  refine ⟨?_, A, B, hc⟩
  rcases hf : f x with _ | o
  · cases b with
    | false => rfl
    | true =>
      obtain ⟨r, h1, h2⟩ := hb.1 rfl
      exact absurd h2 (hc.lost hf r h1)
  · exact hb.2 ⟨o, (hc.found hf).1, hk _ _ hf⟩
/-- the document's answer: an error or rows; its table is as told -/
def RTells (W w : World) (rb : Nat) (x : Int) (ls R : List Rw) (e : Ending) (w' : World) : Prop :=
  ∃ A c A2 c2, e = .returned (.agg #[.int .i64 x, .slice A ls.length c]) ∧ w'.ownsRow w.heap.size 31 3 (.slice A ls.length c) ls.length (rcs ls) ∧ Rf W w' rb A2 c2 R ∧ Touch w w' (fun a => a = rb)
theorem rtells_of {W w w' : World} {rb c c0 : Nat} {x : Int} {A A0 : Option Addr} {ls R : List Rw} (h : Rf W w rb A0 c0 R) (ho : w'.ownsRow w.heap.size 31 3 (.slice A ls.length c) ls.length (rcs ls)) (hx : Ext w w') : RTells W w rb x ls R (.returned (.agg #[.int .i64 x, .slice A ls.length c])) w' :=
  ⟨A, c, A0, c0, rfl, ho, h.ex hx, Touch.of_below hx _⟩
theorem rdo_bad (W w : World) (rb : Nat) (A0 : Option Addr) (c0 : Nat) (R : List Rw) (kind t n : Int) (r : Rw) (A : Option Addr) (l c : Nat) (h : Rf W w rb A0 c0 R) (hz : Rz r) (hm : mayS kind r = false) :
    Calls Try.prog 12 #[.pointer (some ⟨rb, 0, none⟩), stv kind t n r A l c] w (RTells W w rb 1 [] R) := by
  have hM := hide (fun w => rbad_any kind t n r A l c w hz.1 hz.2.1 hz.2.2)
  have HM := hide hm
  have H := hide h
  clear hm hz h
  simp only [stv] at hM ⊢
  go_enter Try.func12, Try.ntmps12
  go_wp2_with (go_at_call 21; refine (hM.out _).mono ?_; rintro e w1 ⟨rfl, x1⟩; rw [HM.out]; have HH := hide (Rh.start (n := n) (r := r) (A := A) (l := l) (c := c) H.out x1); have ha0 := HH.out.ans.cell 0; have ha1 := HH.out.ans.cell 1; simp at ha0 ha1; have fa0 := HH.out.ans.frozen 0; have fa1 := HH.out.ans.frozen 1; have hlt2 : w.heap.size + 1 < w1.heap.size := HH.out.ans.lt)
  have hE := ans_end (w := w) HH.out.ans HH.out.ext (.int .i64 1) (.slice none 0 0)
  have q0 := hE.1.cell 0
  have q1 := hE.1.cell 1
  simp only [List.getElem?_toArray, List.getElem?_cons_zero, List.getElem?_cons_succ] at q0 q1
  exact bodyPost_ret (v := .agg #[.int .i64 1, .slice none 0 0]) (by simp [results, Try.results12, go_sem, q0, q1]) rfl (rtells_of (ls := []) H.out (World.ownsRow_nil _ _ _ _) hE.2)
theorem rcs_take (R : List Rw) (k : Nat) : rcs (R.take k) = (rcs R).take (k * 3) := by
  induction R generalizing k with
  | nil => simp [rcs]
  | cons a R ih =>
    cases k with
    | zero => simp [rcs]
    | succ k =>
      have := ih k
      simp only [rcs, rc, List.take_succ_cons, List.flatMap_cons, List.cons_append, List.nil_append] at this ⊢
      rw [this, show (k + 1) * 3 = k * 3 + 3 by omega]
      rfl
theorem rcs_drop (R : List Rw) (k : Nat) : rcs (R.drop k) = (rcs R).drop (k * 3) := by
  induction R generalizing k with
  | nil => simp [rcs]
  | cons a R ih =>
    cases k with
    | zero => simp [rcs]
    | succ k =>
      have := ih k
      simp only [rcs, rc, List.drop_succ_cons, List.flatMap_cons, List.cons_append, List.nil_append] at this ⊢
      rw [this, show (k + 1) * 3 = k * 3 + 3 by omega]
      rfl
theorem rcs_app (A B : List Rw) : rcs (A ++ B) = rcs A ++ rcs B := by simp [rcs]
theorem rcs_one (R : List Rw) : ∀ u ∈ rcs R, u.oneCell' = true := by
  intro u hu
  unfold rcs at hu
  obtain ⟨r, _, h⟩ := List.mem_flatMap.1 hu
  simp [rc] at h
  rcases h with rfl | rfl | rfl <;> rfl
theorem reads_takeR {w : World} {B n k : Nat} {A : Option Addr} {R : List Rw} (h : Reads w B 3 A n (rcs R)) (hk : k ≤ n) : Reads w B 3 A k (rcs (R.take k)) := by
  have hl : R.length = n := by have := h.1; rw [rcs_len] at this; omega
  refine ⟨by rw [rcs_len, List.length_take]; congr 1; omega, fun hn => ?_⟩
  obtain ⟨ad, e, hb, hc⟩ := h.2 (by omega)
  refine ⟨ad, e, hb, fun j u hu => hc j u ?_⟩
  rw [rcs_take, List.getElem?_take] at hu
  split at hu
  · exact hu
  · cases hu
theorem reads_dropR {w : World} {B n k g c : Nat} {R : List Rw} (h : Reads w B 3 (some ⟨g, 0, none⟩) n (rcs R)) (hk : k ≤ n) (hc : n ≤ c) (hne : c ≠ k) : Reads w B 3 (some ⟨g, k * 3, none⟩) (n - k) (rcs (R.drop k)) := by
  have hcut := h.cut (k := k) (cap := c) hk hc
  rw [if_neg hne, Option.map_some] at hcut
  have e : (⟨g, 0, none⟩ : Addr).add (k * 3) = ⟨g, k * 3, none⟩ := by unfold Addr.add; split <;> simp_all
  rw [e] at hcut
  rw [rcs_drop]
  exact hcut
theorem reads_end {w : World} {B n k : Nat} {R : List Rw} (hR : R.length = n) (hk : n ≤ k) (A : Option Addr) : Reads w B 3 A 0 (rcs (R.drop k)) := by
  rw [List.drop_eq_nil_of_le (by omega)]
  exact ⟨rfl, fun h => absurd h (by omega)⟩
/-- how the document's rows lie -/
theorem Rf.shape {W w : World} {rb c : Nat} {A : Option Addr} {R : List Rw} (h : Rf W w rb A c R) : (A = none ∧ c = 0 ∧ R = []) ∨ ∃ g, A = some ⟨g, 0, none⟩ ∧ R.length ≤ c ∧ c ≤ maxLen := by
  obtain ⟨A', c', hv, h0, h1, h2, _⟩ := own_form h.own
  injection hv with q1 q2 q3
  subst q1 q3
  rcases h.own.2 with ⟨hv, hn⟩ | ⟨g, cap, cur, hv, _⟩
  · injection hv with q1 q2 q3
    exact .inl ⟨q1, q3, List.length_eq_zero_iff.1 q2⟩
  · injection hv with q1 q2 q3
    exact .inr ⟨g, q1, h1, h2⟩
theorem Rf.some_ {W w : World} {rb c : Nat} {A : Option Addr} {R : List Rw} (h : Rf W w rb A c R) (h0 : 0 < R.length) : ∃ g, A = some ⟨g, 0, none⟩ ∧ R.length ≤ c ∧ c ≤ maxLen := by
  rcases h.shape with ⟨_, _, e⟩ | h
  · subst e; exact absurd h0 (by simp)
  · exact h
theorem own_row_at {w : World} {B g n c k : Nat} {R : List Rw} {o : Rw} (h : w.ownsRow B 31 3 (.slice (some ⟨g, 0, none⟩) n c) n (rcs R)) (hk : R[k]? = some o) :
    w.cell? ⟨g, k * 3, none⟩ = some (.string o.k) ∧ w.cell? ⟨g, k * 3 + 1, none⟩ = some (.string o.s) ∧ w.cell? ⟨g, k * 3 + 2, none⟩ = some (.string o.v) := by
  obtain ⟨y0, y1, y2⟩ := rcs3 hk
  have hc := h.cells (g := g) rfl
  have e : ∀ j, (⟨g, 0, none⟩ : Addr).add j = ⟨g, j, none⟩ := fun j => by unfold Addr.add; split <;> simp_all
  have h0 := hc _ _ y0
  have h1 := hc _ _ y1
  have h2 := hc _ _ y2
  rw [e] at h0 h1 h2
  exact ⟨h0, h1, h2⟩
set_option maxRecDepth 100000 in
set_option maxHeartbeats 4000000 in
theorem rdo_put_dup (W w : World) (rb : Nat) (A0 : Option Addr) (c0 : Nat) (R : List Rw) (f : ByteArray → Option Rw) (t n : Int) (r : Rw) (A : Option Addr) (l c : Nat) (h : Rf W w rb A0 c0 R) (hn : R.length ≤ 1000) (hz : Rz r) (hm : mayS 3 r = true) (hrep : Rep f R) (hkd : Kd f) (o : Rw) (ho : f r.k = some o) :
    Calls Try.prog 12 #[.pointer (some ⟨rb, 0, none⟩), stv 3 t n r A l c] w (RTells W w rb 8 [] R) := by
  have hM := hide (fun w => rbad_any 3 t n r A l c w hz.1 hz.2.1 hz.2.2)
  have HM := hide hm
  have H := hide h
  have HP := hide hrep
  have HKD := hide hkd
  have HN := hide hn
  have HOO := hide ho
  clear ho
  obtain ⟨N, hNL⟩ : ∃ N, N = R.length := ⟨_, rfl⟩
  have HNL := hide hNL
  have hN : N ≤ 1000 := by omega
  obtain ⟨i0, hi0, iz0, iz1, iz2⟩ := info_parts Try.info31'
  clear hm hz h hrep hkd hn hNL
  simp only [stv] at hM ⊢
  go_enter Try.func12, Try.ntmps12
  go_wp2_with (first
    | (go_at_call 21; refine (hM.out _).mono ?_; rintro e w1 ⟨rfl, x1⟩; rw [HM.out]; have HH := hide (Rh.start (n := n) (r := r) (A := A) (l := l) (c := c) H.out x1); have hk3 := HH.out.stp.cell 3; simp at hk3; clear x1)
    | (go_at_call 22; refine (rfind_any w1 rb _ A0 c0 R r.k HH.out.rf.blk (Reads.of_own HH.out.rf.own) HN.out).mono ?_; rintro e w2 ⟨k, b, m, rfl, hat, hb, hw2⟩; have HC := hide (HH.out.ex (show Ext w1 w2 from by rw [hw2]; exact (Ext.refl w1).drewN m)); obtain ⟨hbe, CA, CB, hcut⟩ := found_b HP.out HKD.out hat hb; rw [HOO.out] at hbe; obtain rfl : b = true := hbe; have HCUT := hide hcut; have hkN : k ≤ N := (by rw [HNL.out]; exact hat.1); have hs0 := HC.out.stp.cell 0; have hc0 := HC.out.rf.blk.cell 0; have ha0 := HC.out.ans.cell 0; have ha1 := HC.out.ans.cell 1; simp at hs0 hc0 ha0 ha1; rw [← HNL.out] at hc0; have fa0 := HC.out.ans.frozen 0; have fa1 := HC.out.ans.frozen 1; have hlt2 : w.heap.size + 1 < w2.heap.size := HC.out.ans.lt; have hrb2 : rb < w2.heap.size := HC.out.rf.blk.lt; clear hat hb hw2 hcut hk3 HH hM HM))
  have hE := ans_end (w := w) HC.out.ans HC.out.ext (.int .i64 8) (.slice none 0 0)
  have q0 := hE.1.cell 0
  have q1 := hE.1.cell 1
  simp only [List.getElem?_toArray, List.getElem?_cons_zero, List.getElem?_cons_succ] at q0 q1
  exact bodyPost_ret (v := .agg #[.int .i64 8, .slice none 0 0]) (by simp [results, Try.results12, go_sem, q0, q1]) rfl (rtells_of (ls := []) H.out (World.ownsRow_nil _ _ _ _) hE.2)
set_option maxRecDepth 100000 in
set_option maxHeartbeats 4000000 in
theorem rdo_get_none (W w : World) (rb : Nat) (A0 : Option Addr) (c0 : Nat) (R : List Rw) (f : ByteArray → Option Rw) (t n : Int) (r : Rw) (A : Option Addr) (l c : Nat) (h : Rf W w rb A0 c0 R) (hn : R.length ≤ 1000) (hz : Rz r) (hm : mayS 2 r = true) (hrep : Rep f R) (hkd : Kd f) (ho : f r.k = none) :
    Calls Try.prog 12 #[.pointer (some ⟨rb, 0, none⟩), stv 2 t n r A l c] w (RTells W w rb 9 [] R) := by
  have hM := hide (fun w => rbad_any 2 t n r A l c w hz.1 hz.2.1 hz.2.2)
  have HM := hide hm
  have H := hide h
  have HP := hide hrep
  have HKD := hide hkd
  have HN := hide hn
  have HOO := hide ho
  clear ho
  obtain ⟨N, hNL⟩ : ∃ N, N = R.length := ⟨_, rfl⟩
  have HNL := hide hNL
  have hN : N ≤ 1000 := by omega
  obtain ⟨i0, hi0, iz0, iz1, iz2⟩ := info_parts Try.info31'
  clear hm hz h hrep hkd hn hNL
  simp only [stv] at hM ⊢
  go_enter Try.func12, Try.ntmps12
  go_wp2_with (first
    | (go_at_call 21; refine (hM.out _).mono ?_; rintro e w1 ⟨rfl, x1⟩; rw [HM.out]; have HH := hide (Rh.start (n := n) (r := r) (A := A) (l := l) (c := c) H.out x1); have hk3 := HH.out.stp.cell 3; simp at hk3; clear x1)
    | (go_at_call 22; refine (rfind_any w1 rb _ A0 c0 R r.k HH.out.rf.blk (Reads.of_own HH.out.rf.own) HN.out).mono ?_; rintro e w2 ⟨k, b, m, rfl, hat, hb, hw2⟩; have HC := hide (HH.out.ex (show Ext w1 w2 from by rw [hw2]; exact (Ext.refl w1).drewN m)); obtain ⟨hbe, CA, CB, hcut⟩ := found_b HP.out HKD.out hat hb; rw [HOO.out] at hbe; obtain rfl : b = false := hbe; have HCUT := hide hcut; have hkN : k ≤ N := (by rw [HNL.out]; exact hat.1); have hs0 := HC.out.stp.cell 0; have hc0 := HC.out.rf.blk.cell 0; have ha0 := HC.out.ans.cell 0; have ha1 := HC.out.ans.cell 1; simp at hs0 hc0 ha0 ha1; rw [← HNL.out] at hc0; have fa0 := HC.out.ans.frozen 0; have fa1 := HC.out.ans.frozen 1; have hlt2 : w.heap.size + 1 < w2.heap.size := HC.out.ans.lt; have hrb2 : rb < w2.heap.size := HC.out.rf.blk.lt; clear hat hb hw2 hcut hk3 HH hM HM))
  have hE := ans_end (w := w) HC.out.ans HC.out.ext (.int .i64 9) (.slice none 0 0)
  have q0 := hE.1.cell 0
  have q1 := hE.1.cell 1
  simp only [List.getElem?_toArray, List.getElem?_cons_zero, List.getElem?_cons_succ] at q0 q1
  exact bodyPost_ret (v := .agg #[.int .i64 9, .slice none 0 0]) (by simp [results, Try.results12, go_sem, q0, q1]) rfl (rtells_of (ls := []) H.out (World.ownsRow_nil _ _ _ _) hE.2)
set_option maxRecDepth 100000 in
set_option maxHeartbeats 4000000 in
theorem rdo_upd_none (W w : World) (rb : Nat) (A0 : Option Addr) (c0 : Nat) (R : List Rw) (f : ByteArray → Option Rw) (t n : Int) (r : Rw) (A : Option Addr) (l c : Nat) (h : Rf W w rb A0 c0 R) (hn : R.length ≤ 1000) (hz : Rz r) (hm : mayS 4 r = true) (hrep : Rep f R) (hkd : Kd f) (ho : f r.k = none) :
    Calls Try.prog 12 #[.pointer (some ⟨rb, 0, none⟩), stv 4 t n r A l c] w (RTells W w rb 9 [] R) := by
  have hM := hide (fun w => rbad_any 4 t n r A l c w hz.1 hz.2.1 hz.2.2)
  have HM := hide hm
  have H := hide h
  have HP := hide hrep
  have HKD := hide hkd
  have HN := hide hn
  have HOO := hide ho
  clear ho
  obtain ⟨N, hNL⟩ : ∃ N, N = R.length := ⟨_, rfl⟩
  have HNL := hide hNL
  have hN : N ≤ 1000 := by omega
  obtain ⟨i0, hi0, iz0, iz1, iz2⟩ := info_parts Try.info31'
  clear hm hz h hrep hkd hn hNL
  simp only [stv] at hM ⊢
  go_enter Try.func12, Try.ntmps12
  go_wp2_with (first
    | (go_at_call 21; refine (hM.out _).mono ?_; rintro e w1 ⟨rfl, x1⟩; rw [HM.out]; have HH := hide (Rh.start (n := n) (r := r) (A := A) (l := l) (c := c) H.out x1); have hk3 := HH.out.stp.cell 3; simp at hk3; clear x1)
    | (go_at_call 22; refine (rfind_any w1 rb _ A0 c0 R r.k HH.out.rf.blk (Reads.of_own HH.out.rf.own) HN.out).mono ?_; rintro e w2 ⟨k, b, m, rfl, hat, hb, hw2⟩; have HC := hide (HH.out.ex (show Ext w1 w2 from by rw [hw2]; exact (Ext.refl w1).drewN m)); obtain ⟨hbe, CA, CB, hcut⟩ := found_b HP.out HKD.out hat hb; rw [HOO.out] at hbe; obtain rfl : b = false := hbe; have HCUT := hide hcut; have hkN : k ≤ N := (by rw [HNL.out]; exact hat.1); have hs0 := HC.out.stp.cell 0; have hc0 := HC.out.rf.blk.cell 0; have ha0 := HC.out.ans.cell 0; have ha1 := HC.out.ans.cell 1; simp at hs0 hc0 ha0 ha1; rw [← HNL.out] at hc0; have fa0 := HC.out.ans.frozen 0; have fa1 := HC.out.ans.frozen 1; have hlt2 : w.heap.size + 1 < w2.heap.size := HC.out.ans.lt; have hrb2 : rb < w2.heap.size := HC.out.rf.blk.lt; clear hat hb hw2 hcut hk3 HH hM HM))
  have hE := ans_end (w := w) HC.out.ans HC.out.ext (.int .i64 9) (.slice none 0 0)
  have q0 := hE.1.cell 0
  have q1 := hE.1.cell 1
  simp only [List.getElem?_toArray, List.getElem?_cons_zero, List.getElem?_cons_succ] at q0 q1
  exact bodyPost_ret (v := .agg #[.int .i64 9, .slice none 0 0]) (by simp [results, Try.results12, go_sem, q0, q1]) rfl (rtells_of (ls := []) H.out (World.ownsRow_nil _ _ _ _) hE.2)
set_option maxRecDepth 100000 in
set_option maxHeartbeats 4000000 in
theorem rdo_del_none (W w : World) (rb : Nat) (A0 : Option Addr) (c0 : Nat) (R : List Rw) (f : ByteArray → Option Rw) (t n : Int) (r : Rw) (A : Option Addr) (l c : Nat) (h : Rf W w rb A0 c0 R) (hn : R.length ≤ 1000) (hz : Rz r) (hm : mayS 5 r = true) (hrep : Rep f R) (hkd : Kd f) (ho : f r.k = none) :
    Calls Try.prog 12 #[.pointer (some ⟨rb, 0, none⟩), stv 5 t n r A l c] w (RTells W w rb 9 [] R) := by
  have hM := hide (fun w => rbad_any 5 t n r A l c w hz.1 hz.2.1 hz.2.2)
  have HM := hide hm
  have H := hide h
  have HP := hide hrep
  have HKD := hide hkd
  have HN := hide hn
  have HOO := hide ho
  clear ho
  obtain ⟨N, hNL⟩ : ∃ N, N = R.length := ⟨_, rfl⟩
  have HNL := hide hNL
  have hN : N ≤ 1000 := by omega
  obtain ⟨i0, hi0, iz0, iz1, iz2⟩ := info_parts Try.info31'
  clear hm hz h hrep hkd hn hNL
  simp only [stv] at hM ⊢
  go_enter Try.func12, Try.ntmps12
  go_wp2_with (first
    | (go_at_call 21; refine (hM.out _).mono ?_; rintro e w1 ⟨rfl, x1⟩; rw [HM.out]; have HH := hide (Rh.start (n := n) (r := r) (A := A) (l := l) (c := c) H.out x1); have hk3 := HH.out.stp.cell 3; simp at hk3; clear x1)
    | (go_at_call 22; refine (rfind_any w1 rb _ A0 c0 R r.k HH.out.rf.blk (Reads.of_own HH.out.rf.own) HN.out).mono ?_; rintro e w2 ⟨k, b, m, rfl, hat, hb, hw2⟩; have HC := hide (HH.out.ex (show Ext w1 w2 from by rw [hw2]; exact (Ext.refl w1).drewN m)); obtain ⟨hbe, CA, CB, hcut⟩ := found_b HP.out HKD.out hat hb; rw [HOO.out] at hbe; obtain rfl : b = false := hbe; have HCUT := hide hcut; have hkN : k ≤ N := (by rw [HNL.out]; exact hat.1); have hs0 := HC.out.stp.cell 0; have hc0 := HC.out.rf.blk.cell 0; have ha0 := HC.out.ans.cell 0; have ha1 := HC.out.ans.cell 1; simp at hs0 hc0 ha0 ha1; rw [← HNL.out] at hc0; have fa0 := HC.out.ans.frozen 0; have fa1 := HC.out.ans.frozen 1; have hlt2 : w.heap.size + 1 < w2.heap.size := HC.out.ans.lt; have hrb2 : rb < w2.heap.size := HC.out.rf.blk.lt; clear hat hb hw2 hcut hk3 HH hM HM))
  have hE := ans_end (w := w) HC.out.ans HC.out.ext (.int .i64 9) (.slice none 0 0)
  have q0 := hE.1.cell 0
  have q1 := hE.1.cell 1
  simp only [List.getElem?_toArray, List.getElem?_cons_zero, List.getElem?_cons_succ] at q0 q1
  exact bodyPost_ret (v := .agg #[.int .i64 9, .slice none 0 0]) (by simp [results, Try.results12, go_sem, q0, q1]) rfl (rtells_of (ls := []) H.out (World.ownsRow_nil _ _ _ _) hE.2)
set_option maxRecDepth 100000 in
set_option maxHeartbeats 4000000 in
theorem rdo_get (W w : World) (rb : Nat) (A0 : Option Addr) (c0 : Nat) (R : List Rw) (f : ByteArray → Option Rw) (t n : Int) (r : Rw) (A : Option Addr) (l c : Nat) (h : Rf W w rb A0 c0 R) (hn : R.length ≤ 1000) (hz : Rz r) (hm : mayS 2 r = true) (hrep : Rep f R) (hkd : Kd f) (o : Rw) (ho : f r.k = some o) :
    Calls Try.prog 12 #[.pointer (some ⟨rb, 0, none⟩), stv 2 t n r A l c] w (RTells W w rb 0 [o] R) := by
  have hM := hide (fun w => rbad_any 2 t n r A l c w hz.1 hz.2.1 hz.2.2)
  have HM := hide hm
  have H := hide h
  have HP := hide hrep
  have HKD := hide hkd
  have HN := hide hn
  have HOO := hide ho
  clear ho
  obtain ⟨N, hNL⟩ : ∃ N, N = R.length := ⟨_, rfl⟩
  have HNL := hide hNL
  have hN : N ≤ 1000 := by omega
  obtain ⟨i0, hi0, iz0, iz1, iz2⟩ := info_parts Try.info31'
  clear hm hz h hrep hkd hn hNL
  simp only [stv] at hM ⊢
  go_enter Try.func12, Try.ntmps12
  go_wp2_with (first
    | (go_at_call 21; refine (hM.out _).mono ?_; rintro e w1 ⟨rfl, x1⟩; rw [HM.out]; have HH := hide (Rh.start (n := n) (r := r) (A := A) (l := l) (c := c) H.out x1); have hk3 := HH.out.stp.cell 3; simp at hk3; clear x1)
    | (go_at_call 22; refine (rfind_any w1 rb _ A0 c0 R r.k HH.out.rf.blk (Reads.of_own HH.out.rf.own) HN.out).mono ?_; rintro e w2 ⟨k, b, m, rfl, hat, hb, hw2⟩; have HC := hide (HH.out.ex (show Ext w1 w2 from by rw [hw2]; exact (Ext.refl w1).drewN m)); obtain ⟨hbe, CA, CB, hcut⟩ := found_b HP.out HKD.out hat hb; rw [HOO.out] at hbe; obtain rfl : b = true := hbe; have hfo := hcut.found HOO.out; have hkN2 : k < N := (by rw [HNL.out]; exact hfo.2.1); obtain ⟨g, hA, hcN, hcM⟩ := Rf.some_ H.out (by have := hfo.2.1; omega); subst hA; obtain ⟨g0, g1, g2⟩ := own_row_at HC.out.own hfo.1; have HCUT := hide hcut; have hkN : k ≤ N := (by rw [HNL.out]; exact hat.1); have hs0 := HC.out.stp.cell 0; have hc0 := HC.out.rf.blk.cell 0; have ha0 := HC.out.ans.cell 0; have ha1 := HC.out.ans.cell 1; simp at hs0 hc0 ha0 ha1; rw [← HNL.out] at hc0; have fa0 := HC.out.ans.frozen 0; have fa1 := HC.out.ans.frozen 1; have hlt2 : w.heap.size + 1 < w2.heap.size := HC.out.ans.lt; have hrb2 : rb < w2.heap.size := HC.out.rf.blk.lt; clear hat hb hw2 hcut hk3 HH hM HM))
  have hE := ans_end (w := w) HC.out.ans HC.out.ext (.int .i64 0) (.slice (some ⟨w2.heap.size, 0, none⟩) 1 1)
  have hE2 := hE.1.alloc (.cells #[.string o.k, .string o.s, .string o.v] 31)
  have q0 := hE2.cell 0
  have q1 := hE2.cell 1
  simp only [List.getElem?_toArray, List.getElem?_cons_zero, List.getElem?_cons_succ] at q0 q1
  have hb := Blk.new ((w2.setCell ⟨w.heap.size + 1, 0, none⟩ (.int .i64 0)).setCell ⟨w.heap.size + 1, 1, none⟩ (.slice (some ⟨w2.heap.size, 0, none⟩) 1 1)) 31 #[.string o.k, .string o.s, .string o.v]
  have es : ((w2.setCell ⟨w.heap.size + 1, 0, none⟩ (.int .i64 0)).setCell ⟨w.heap.size + 1, 1, none⟩ (.slice (some ⟨w2.heap.size, 0, none⟩) 1 1)).heap.size = w2.heap.size := by simp [World.setCell]
  rw [es] at hb
  refine bodyPost_ret (v := .agg #[.int .i64 0, .slice (some ⟨w2.heap.size, 0, none⟩) 1 1]) (by simp [results, Try.results12, go_sem, q0, q1]) rfl (rtells_of (ls := [o]) H.out ?_ (hE.2.alloc _))
  have := own_row1 hb HC.out.ext.size rfl
  simpa [rcs, rc] using this
set_option maxRecDepth 100000 in
set_option maxHeartbeats 4000000 in
theorem rdo_scan (W w : World) (rb : Nat) (A0 : Option Addr) (c0 : Nat) (R : List Rw) (f : ByteArray → Option Rw) (t n : Int) (r : Rw) (A : Option Addr) (l c : Nat) (h : Rf W w rb A0 c0 R) (hn : R.length ≤ 1000) (hz : Rz r) (hm : mayS 6 r = true) (hrep : Rep f R) (hkd : Kd f)  :
    Calls Try.prog 12 #[.pointer (some ⟨rb, 0, none⟩), stv 6 t n r A l c] w (RTells W w rb 0 (R.filter fun q => geK q r) R) := by
  have hM := hide (fun w => rbad_any 6 t n r A l c w hz.1 hz.2.1 hz.2.2)
  have HM := hide hm
  have H := hide h
  have HP := hide hrep
  have HKD := hide hkd
  have HN := hide hn
  skip
  obtain ⟨N, hNL⟩ : ∃ N, N = R.length := ⟨_, rfl⟩
  have HNL := hide hNL
  have hN : N ≤ 1000 := by omega
  obtain ⟨i0, hi0, iz0, iz1, iz2⟩ := info_parts Try.info31'
  clear hm hz h hrep hkd hn hNL
  simp only [stv] at hM ⊢
  go_enter Try.func12, Try.ntmps12
  go_upto_region 6 with (first
    | (go_at_call 21; refine (hM.out _).mono ?_; rintro e w1 ⟨rfl, x1⟩; rw [HM.out]; have HH := hide (Rh.start (n := n) (r := r) (A := A) (l := l) (c := c) H.out x1); have hk3 := HH.out.stp.cell 3; simp at hk3; clear x1)
    | (go_at_call 22; refine (rfind_any w1 rb _ A0 c0 R r.k HH.out.rf.blk (Reads.of_own HH.out.rf.own) HN.out).mono ?_; rintro e w2 ⟨k, b, m, rfl, hat, hb, hw2⟩; have HC := hide (HH.out.ex (show Ext w1 w2 from by rw [hw2]; exact (Ext.refl w1).drewN m)); obtain ⟨hbe, CA, CB, hcut⟩ := found_b HP.out HKD.out hat hb; skip; have HCUT := hide hcut; have hkN : k ≤ N := (by rw [HNL.out]; exact hat.1); have hs0 := HC.out.stp.cell 0; have hc0 := HC.out.rf.blk.cell 0; have ha0 := HC.out.ans.cell 0; have ha1 := HC.out.ans.cell 1; simp at hs0 hc0 ha0 ha1; rw [← HNL.out] at hc0; have fa0 := HC.out.ans.frozen 0; have fa1 := HC.out.ans.frozen 1; have hlt2 : w.heap.size + 1 < w2.heap.size := HC.out.ans.lt; have hrb2 : rb < w2.heap.size := HC.out.rf.blk.lt; clear hat hb hw2 hcut hk3 HH hM HM))
  rcases H.out.shape with ⟨rfl, rfl, hR⟩ | ⟨g, rfl, hc1, hc2⟩
  · obtain rfl : N = 0 := by rw [HNL.out, hR]; rfl
    obtain rfl : k = 0 := by omega
    have RD : Hid (∀ A', Reads w2 w2.heap.size 3 A' 0 (rcs (R.drop 0))) := fun A' => reads_end HNL.out.symm (Nat.le_refl _) A'
    clear hR
    go_wp2_with (at_builtin; refine wpList_append_any _ rfl (.tmp 24) (.tmp 30) _ rfl w.heap.size 31 i0 _ 3 48 Try.underlying27 hi0 iz0 iz1 iz2 rfl (by omega) (.slice (some ⟨w2.heap.size, 0, none⟩) 0 0) 0 [] rfl (World.ownsRow_made w2 #[] 0 HC.out.ext.size (Nat.zero_le _) rfl) w2.heap.size _ 0 _ (rcs (R.drop 0)) rfl (Ext.reads (Ext.new w2 _) (RD.out _) (Nat.le_refl _)) (rcs_one _) (by unfold maxLen; omega) (by omega) (by have := HC.out.ext.size; simp; omega) ?_; intro v3 w3 ho3 hg3 hat3; rw [Nat.zero_add, List.nil_append] at ho3; have E3 := hide (Ext.grown ((Ext.refl w2).alloc _) hg3 (fun z hz => by simp [Value.ownBlock] at hz; omega)); have HC3 := hide (HC.out.ex E3.out); obtain ⟨A3, c3, hv3, _⟩ := own_form ho3; subst hv3; have O3 := hide ho3; have b0 := HC3.out.ans.cell 0; have b1 := HC3.out.ans.cell 1; simp at b0 b1; have fb0 := HC3.out.ans.frozen 0; have fb1 := HC3.out.ans.frozen 1; clear ho3 hg3 hat3)
    have hE := ans_end (w := w) HC3.out.ans HC3.out.ext (.int .i64 0) (.slice A3 0 c3)
    have q0 := hE.1.cell 0
    have q1 := hE.1.cell 1
    simp only [List.getElem?_toArray, List.getElem?_cons_zero, List.getElem?_cons_succ] at q0 q1
    refine bodyPost_ret (v := .agg #[.int .i64 0, .slice A3 0 c3]) (by simp [results, Try.results12, go_sem, q0, q1]) rfl ?_
    have e1 : (R.drop 0).length = 0 := by rw [List.length_drop, ← HNL.out]; try omega
    rw [HCUT.out.scan HKD.out rfl]
    have hfin := rtells_of (ls := R.drop 0) (x := 0) (A := A3) (c := c3) H.out (by rw [e1]; exact ownsRow_touch (touch_set2 w3 (w.heap.size + 1) _ _) O3.out (fun z hz e => by subst e; exact own_blk_ne O3.out HC3.out.ans (by decide) hz)) hE.2
    rw [e1] at hfin
    exact hfin
  · rw [← HNL.out] at hc1
    by_cases hck : c0 = k
    · subst hck
      obtain rfl : N = c0 := by omega
      have RD : Hid (∀ A', Reads w2 w2.heap.size 3 A' 0 (rcs (R.drop N))) := fun A' => reads_end HNL.out.symm (Nat.le_refl _) A'
      go_wp2_with (at_builtin; refine wpList_append_any _ rfl (.tmp 24) (.tmp 30) _ rfl w.heap.size 31 i0 _ 3 48 Try.underlying27 hi0 iz0 iz1 iz2 rfl (by omega) (.slice (some ⟨w2.heap.size, 0, none⟩) 0 0) 0 [] rfl (World.ownsRow_made w2 #[] 0 HC.out.ext.size (Nat.zero_le _) rfl) w2.heap.size _ 0 _ (rcs (R.drop N)) rfl (Ext.reads (Ext.new w2 _) (RD.out _) (Nat.le_refl _)) (rcs_one _) (by unfold maxLen; omega) (by omega) (by have := HC.out.ext.size; simp; omega) ?_; intro v3 w3 ho3 hg3 hat3; rw [Nat.zero_add, List.nil_append] at ho3; have E3 := hide (Ext.grown ((Ext.refl w2).alloc _) hg3 (fun z hz => by simp [Value.ownBlock] at hz; omega)); have HC3 := hide (HC.out.ex E3.out); obtain ⟨A3, c3, hv3, _⟩ := own_form ho3; subst hv3; have O3 := hide ho3; have b0 := HC3.out.ans.cell 0; have b1 := HC3.out.ans.cell 1; simp at b0 b1; have fb0 := HC3.out.ans.frozen 0; have fb1 := HC3.out.ans.frozen 1; clear ho3 hg3 hat3)
      have hE := ans_end (w := w) HC3.out.ans HC3.out.ext (.int .i64 0) (.slice A3 0 c3)
      have q0 := hE.1.cell 0
      have q1 := hE.1.cell 1
      simp only [List.getElem?_toArray, List.getElem?_cons_zero, List.getElem?_cons_succ] at q0 q1
      refine bodyPost_ret (v := .agg #[.int .i64 0, .slice A3 0 c3]) (by simp [results, Try.results12, go_sem, q0, q1]) rfl ?_
      have e1 : (R.drop N).length = 0 := by rw [List.length_drop, ← HNL.out]; try omega
      rw [HCUT.out.scan HKD.out rfl]
      have hfin := rtells_of (ls := R.drop N) (x := 0) (A := A3) (c := c3) H.out (by rw [e1]; exact ownsRow_touch (touch_set2 w3 (w.heap.size + 1) _ _) O3.out (fun z hz e => by subst e; exact own_blk_ne O3.out HC3.out.ans (by decide) hz)) hE.2
      rw [e1] at hfin
      exact hfin
    · have RD := hide (reads_dropR (by rw [HNL.out]; exact Reads.of_own HC.out.own) hkN hc1 hck)
      go_wp2_with (at_builtin; refine wpList_append_any _ rfl (.tmp 24) (.tmp 30) _ rfl w.heap.size 31 i0 _ 3 48 Try.underlying27 hi0 iz0 iz1 iz2 rfl (by omega) (.slice (some ⟨w2.heap.size, 0, none⟩) 0 0) 0 [] rfl (World.ownsRow_made w2 #[] 0 HC.out.ext.size (Nat.zero_le _) rfl) w2.heap.size _ (N - k) _ (rcs (R.drop k)) rfl (Ext.reads (Ext.new w2 _) RD.out (Nat.le_refl _)) (rcs_one _) (by unfold maxLen; omega) (by omega) (by have := HC.out.ext.size; simp; omega) ?_; intro v3 w3 ho3 hg3 hat3; rw [Nat.zero_add, List.nil_append] at ho3; have E3 := hide (Ext.grown ((Ext.refl w2).alloc _) hg3 (fun z hz => by simp [Value.ownBlock] at hz; omega)); have HC3 := hide (HC.out.ex E3.out); obtain ⟨A3, c3, hv3, _⟩ := own_form ho3; subst hv3; have O3 := hide ho3; have b0 := HC3.out.ans.cell 0; have b1 := HC3.out.ans.cell 1; simp at b0 b1; have fb0 := HC3.out.ans.frozen 0; have fb1 := HC3.out.ans.frozen 1; clear ho3 hg3 hat3)
      have hE := ans_end (w := w) HC3.out.ans HC3.out.ext (.int .i64 0) (.slice A3 (N - k) c3)
      have q0 := hE.1.cell 0
      have q1 := hE.1.cell 1
      simp only [List.getElem?_toArray, List.getElem?_cons_zero, List.getElem?_cons_succ] at q0 q1
      refine bodyPost_ret (v := .agg #[.int .i64 0, .slice A3 (N - k) c3]) (by simp [results, Try.results12, go_sem, q0, q1]) rfl ?_
      have e1 : (R.drop k).length = N - k := by rw [List.length_drop, ← HNL.out]; try omega
      rw [HCUT.out.scan HKD.out rfl]
      have hfin := rtells_of (ls := R.drop k) (x := 0) (A := A3) (c := c3) H.out (by rw [e1]; exact ownsRow_touch (touch_set2 w3 (w.heap.size + 1) _ _) O3.out (fun z hz e => by subst e; exact own_blk_ne O3.out HC3.out.ans (by decide) hz)) hE.2
      rw [e1] at hfin
      exact hfin
end Go.Proofs.Ytjjilaanlhpogaa
