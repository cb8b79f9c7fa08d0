/- ModelAll: one step, by the table and by the document: the same answer. None at all: what it answers. -/
import Derived.Test.YtjjilaanlhpogaaModelAllT
import Derived.Test.YtjjilaanlhpogaaModelAllK
import Derived.Test.YtjjilaanlhpogaaModelAllV
namespace Go.Proofs.Ytjjilaanlhpogaa
open Go.ChangeShapes Go.WideShapes Go.ChangeAt Go.RowKit Go.Maps Go.MapKept Go.Sort
set_option linter.unusedVariables false

/-- Do's answer, whatever was asked -/
def MTells (W w : World) (g m N : Nat) (x : Int) (ls : List Rw) (f' : ByteArray → Option Rw) (e : Ending) (w' : World) : Prop :=
  ∃ A c, e = .returned (.agg #[.int .i64 x, .slice A ls.length c]) ∧ w'.ownsRow w.heap.size 31 3 (.slice A ls.length c) ls.length (rcs ls) ∧ Md W w' g m N f' ∧ Touch w w' (fun k => k = m)
theorem Md.more {W w : World} {g m N N' : Nat} {f : ByteArray → Option Rw} (h : Md W w g m N f) (hN : N ≤ N') : Md W w g m N' f := { h with rows := h.rows.more hN }
section
variable {W w w' : World} {g m N N' : Nat} {f f' : ByteArray → Option Rw} {x : Int} {e : Ending} {ls : List Rw}
theorem mt_err (h : Md W w g m N f) (he : Err w x e w') : MTells W w g m (N + 1) x [] f e w' := by
  obtain ⟨rfl, hx⟩ := he
  exact ⟨none, 0, rfl, World.ownsRow_nil _ _ _ _, (h.ex hx).more (Nat.le_succ _), Touch.of_below hx _⟩
theorem mt_done (hN : N' ≤ N + 1) (hd : DoneT W g m N' f' w e w') : MTells W w g m (N + 1) 0 [] f' e w' := by
  obtain ⟨rfl, hm, ht⟩ := hd
  exact ⟨none, 0, rfl, World.ownsRow_nil _ _ _ _, hm.more hN, ht⟩
theorem mt_tells (h : Md W w g m N f) (ht : Tells w ls e w') : MTells W w g m (N + 1) 0 ls f e w' := by
  obtain ⟨A, c, rfl, ho, hx⟩ := ht
  exact ⟨A, c, rfl, ho, (h.ex hx).more (Nat.le_succ _), Touch.of_below hx _⟩
end
theorem mayS_kind {kind : Int} {r : Rw} (h : mayS kind r = true) : kind = 2 ∨ kind = 3 ∨ kind = 4 ∨ kind = 5 ∨ kind = 6 ∨ kind = 7 := by
  unfold mayS at h
  split at h
  · omega
  · split at h
    · omega
    · split at h
      · omega
      · split at h
        · omega
        · cases h
/-- one step: the same error, the same rows, the same table behind it -/
theorem step_both {f : ByteArray → Option Rw} {R : List Rw} (hrep : Rep f R) (hkd : Kd f) (hn : R.length ≤ 1000) (kind t n : Int) (r : Rw) (A : Option Addr) (l c : Nat) (hz : Rz r) : ∃ (x : Int) (ls : List Rw) (f' : ByteArray → Option Rw), ls.length ≤ R.length + 1 ∧ Kd f' ∧
    (∀ (W w : World) (g m N : Nat), Md W w g m N f → N ≤ 1000 → Calls Try.prog 10 #[.pointer (some ⟨g, 0, none⟩), stv kind t n r A l c] w (MTells W w g m (N + 1) x ls f')) ∧
    (∀ (W w : World) (rb : Nat) (A0 : Option Addr) (c0 : Nat), Rf W w rb A0 c0 R → Calls Try.prog 12 #[.pointer (some ⟨rb, 0, none⟩), stv kind t n r A l c] w fun e w' => ∃ R', Rep f' R' ∧ R'.length ≤ R.length + 1 ∧ RTells W w rb x ls R' e w') := by
  have same : ∀ {x ls e w' W w rb}, RTells W w rb x ls R e w' → ∃ R', Rep f R' ∧ R'.length ≤ R.length + 1 ∧ RTells W w rb x ls R' e w' := fun h => ⟨R, hrep, Nat.le_succ _, h⟩
  by_cases hm : mayS kind r = true
  · rcases mayS_kind hm with rfl | rfl | rfl | rfl | rfl | rfl
    · rcases ho : f r.k with _ | o
      · exact ⟨9, [], f, Nat.zero_le _, hkd, fun W w g m N h hN => (do_get_none W w g m N f t n r A l c h hN hz hm ho).mono fun e w' he => mt_err h he,
          fun W w rb A0 c0 h => (rdo_get_none W w rb A0 c0 R f t n r A l c h hn hz hm hrep hkd ho).mono fun e w' he => same he⟩
      · exact ⟨0, [o], f, by simp, hkd, fun W w g m N h hN => (do_get W w g m N f t n r A l c h hN hz hm o ho).mono fun e w' he => mt_tells h he,
          fun W w rb A0 c0 h => (rdo_get W w rb A0 c0 R f t n r A l c h hn hz hm hrep hkd o ho).mono fun e w' he => same he⟩
    · rcases ho : f r.k with _ | o
      · exact ⟨0, [], putR f r.k (some r), Nat.zero_le _, kd_put hkd (fun r' e => by injection e with e; rw [e]), fun W w g m N h hN => (dot_put W w g m N f t n r A l c h hN hz hm ho).mono fun e w' he => mt_done (Nat.le_refl _) he,
          fun W w rb A0 c0 h => rdo_put W w rb A0 c0 R f t n r A l c h hn hz hm hrep hkd ho⟩
      · exact ⟨8, [], f, Nat.zero_le _, hkd, fun W w g m N h hN => (do_put_dup W w g m N f t n r A l c h hN hz hm o ho).mono fun e w' he => mt_err h he,
          fun W w rb A0 c0 h => (rdo_put_dup W w rb A0 c0 R f t n r A l c h hn hz hm hrep hkd o ho).mono fun e w' he => same he⟩
    · rcases ho : f r.k with _ | o
      · exact ⟨9, [], f, Nat.zero_le _, hkd, fun W w g m N h hN => (do_upd_none W w g m N f t n r A l c h hN hz hm ho).mono fun e w' he => mt_err h he,
          fun W w rb A0 c0 h => (rdo_upd_none W w rb A0 c0 R f t n r A l c h hn hz hm hrep hkd ho).mono fun e w' he => same he⟩
      · exact ⟨0, [], putR f r.k (some r), Nat.zero_le _, kd_put hkd (fun r' e => by injection e with e; rw [e]), fun W w g m N h hN => (dot_upd W w g m N f t n r A l c h hN hz hm o ho).mono fun e w' he => mt_done (Nat.le_refl _) he,
          fun W w rb A0 c0 h => (rdo_upd W w rb A0 c0 R f t n r A l c h hn hz hm hrep hkd o ho).mono fun e w' ⟨R', h1, h2, h3⟩ => ⟨R', h1, Nat.le_succ_of_le h2, h3⟩⟩
    · rcases ho : f r.k with _ | o
      · exact ⟨9, [], f, Nat.zero_le _, hkd, fun W w g m N h hN => (do_del_none W w g m N f t n r A l c h hN hz hm ho).mono fun e w' he => mt_err h he,
          fun W w rb A0 c0 h => (rdo_del_none W w rb A0 c0 R f t n r A l c h hn hz hm hrep hkd ho).mono fun e w' he => same he⟩
      · exact ⟨0, [], putR f r.k none, Nat.zero_le _, kd_put hkd (fun r' e => by cases e), fun W w g m N h hN => (dot_del W w g m N f t n r A l c h hN hz hm o ho).mono fun e w' he => mt_done (Nat.le_succ _) he,
          fun W w rb A0 c0 h => (rdo_del W w rb A0 c0 R f t n r A l c h hn hz hm hrep hkd o ho).mono fun e w' ⟨R', h1, h2, h3⟩ => ⟨R', h1, Nat.le_succ_of_le h2, h3⟩⟩
    · refine ⟨0, R.filter fun q => geK q r, f, Nat.le_succ_of_le (List.length_filter_le _ _), hkd, fun W w g m N h hN => (do_scan W w g m N f t n r A l c h hN hz hm).mono fun e w' he => ?_,
          fun W w rb A0 c0 h => (rdo_scan W w rb A0 c0 R f t n r A l c h hn hz hm hrep hkd).mono fun e w' he => same he⟩
      obtain ⟨L, hL, _, hT⟩ := he
      rw [(rep_rows hL hkd).same hrep] at hT
      exact mt_tells h hT
    · refine ⟨0, R.filter fun q => eqS q r, f, Nat.le_succ_of_le (List.length_filter_le _ _), hkd, fun W w g m N h hN => (do_seek W w g m N f t n r A l c h hN hz hm).mono fun e w' he => ?_,
          fun W w rb A0 c0 h => (rdo_seek W w rb A0 c0 R f t n r A l c h hn hz hm hrep hkd).mono fun e w' he => same he⟩
      obtain ⟨L, hL, _, hT⟩ := he
      rw [(rep_rows hL hkd).same hrep] at hT
      exact mt_tells h hT
  · have hm' : mayS kind r = false := by simpa using hm
    exact ⟨1, [], f, Nat.zero_le _, hkd, fun W w g m N h hN => (do_bad w g kind t n r A l c hz hm').mono fun e w' he => mt_err h he,
      fun W w rb A0 c0 h => (rdo_bad W w rb A0 c0 R kind t n r A l c h hz hm').mono fun e w' he => same he⟩
/-- none at all -/
theorem do_nil (w : World) (kind t n : Int) (r : Rw) (A : Option Addr) (l c : Nat) : Calls Try.prog 10 #[.pointer none, stv kind t n r A l c] w fun e w' => e = .returned (.agg #[.int .i64 1, .slice none 0 0]) ∧ Ext w w' := by
  simp only [stv]
  go_enter Try.func10, Try.ntmps10
  go_wp2_with (go_at_call 17; refine (bad_any 1 _).mono ?_; rintro e w2 ⟨rfl, x2⟩; have a2 := x2.blk (blk2 w (sblk kind t n r A l c) 37 #[.int .i64 0, .slice none 0 0]); have k0 := a2.cell 0; have k1 := a2.cell 1; simp at k0 k1; have g0 := a2.frozen 0; have g1 := a2.frozen 1; have z2 := x2.size)
  have e2 := a2.set2 (.int .i64 1) (.slice none 0 0)
  have q0 := e2.cell 0
  have q1 := e2.cell 1
  simp only [List.getElem?_toArray, List.getElem?_cons_zero, List.getElem?_cons_succ] at q0 q1
  refine bodyPost_ret (v := .agg #[.int .i64 1, .slice none 0 0]) (by simp [results, Try.results10, go_sem, q0, q1]) rfl ⟨rfl, ?_⟩
  exact Touch.ext (Ext.trans ((Ext.new w (sblk kind t n r A l c)).alloc ablk) x2) (touch_set2 w2 (w.heap.size + 1) _ _) (Nat.le_succ _)
theorem rows_nil (w : World) : Calls Try.prog 14 #[.pointer none] w fun e w' => e = .returned (.slice none 0 0) ∧ w = w' := by
  go_enter Try.func14, Try.ntmps14
  go_wp2
  go_ret
  exact ⟨rfl, rfl⟩
theorem copy_nil (w : World) : Calls Try.prog 9 #[.pointer none] w fun e w' => e = .returned (.pointer none) ∧ w = w' := by
  go_enter Try.func9, Try.ntmps9
  go_wp2
  go_ret
  exact ⟨rfl, rfl⟩
end Go.Proofs.Ytjjilaanlhpogaa
