/- Tile: contract: Copy. -/
import Derived.Test.YtpbenpkgbhmldaaTileB
import Derived.Shelf.SlMaps.Clone
import Derived.Deep.RegionHeld3
namespace Go.Proofs.Ytpbenpkgbhmldaa
open Go.ChangeShapes Go.WideShapes Go.ChangeAt Go.RowKit Go.Maps
set_option linter.unusedVariables false

/-- slices.Clone of slices of bytes -/
theorem cloneT_any (A : Option Addr) (c n : Nat) (l : List Value) (w : World) (hl0 : l.length = n) (hn : A = none → c = 0) (hr : Reads w w.heap.size 1 A n l) (hl : n ≤ 2000) (h1 : ∀ u ∈ l, u.oneCell' = true) :
    Calls Try.prog 35 #[.slice A n c] w fun e w' => ∃ A' c', e = .returned (.slice A' n c') ∧ w'.ownsRow w.heap.size 22 1 (.slice A' n c') n l ∧ Ext w w' := by
  subst hl0
  obtain ⟨i0, hi0, hz0, hz1, hz2⟩ := info_parts Try.info22'
  have hq := fun w => Lib.run_eql_slice_nil (P := Try.prog) w 63 22
  rcases A with _ | ad
  · obtain ⟨h0, h1⟩ := no_elems hr
    obtain rfl : l = [] := List.eq_nil_of_length_eq_zero h0
    obtain rfl := hn rfl
    go_enter Try.func35, Try.ntmps35
    go_wp2
    go_ret
    exact ⟨none, 0, rfl, World.ownsRow_nil _ _ _ _, Ext.refl _⟩
  · have hown : (w.alloc (.cells #[] 22)).ownsRow w.heap.size 22 1 (.slice (some ⟨w.heap.size, 0, none⟩) 0 0) 0 [] := World.ownsRow_made w #[] 0 (Nat.le_refl _) (Nat.zero_le _) rfl
    have hr1 := hide (hr.alloc (Nat.le_refl _) (.cells #[] 22))
    have hown' := hide hown
    have HO := hide h1
    clear hr hown h1
    go_enter Try.func35, Try.ntmps35
    go_wp2_with (at_builtin; refine wpList_append_any _ rfl (.tmp 5) (.tmp 6) _ rfl w.heap.size 22 i0 _ 1 24 Try.underlying63 hi0 hz0 hz1 hz2 rfl (by omega) (.slice (some ⟨w.heap.size, 0, none⟩) 0 0) 0 [] rfl hown'.out w.heap.size (some ad) l.length c l rfl hr1.out HO.out (by simp only [maxLen]; omega) (by omega) (by simp) ?_; intro v1 w1 hown1 hg1 hat1)
    go_ret
    rw [Nat.zero_add, List.nil_append] at hown1
    obtain ⟨A', c', rfl, _⟩ := own_form hown1
    exact ⟨A', c', rfl, hown1, Ext.grown (Ext.new w _) hg1 (fun k hk => by simp [Value.ownBlock] at hk; omega)⟩
set_option maxRecDepth 100000 in
theorem WasAt.copy {w : World} {m n : Nat} {f : Int → Option Value} (h : WasAt w m n f) :
    Calls Try.prog 36 #[.map (some m)] w fun e w' => e = .returned (.map (some w.heap.size)) ∧ WasAt w' w.heap.size n f ∧ Ext w w' := by
  obtain ⟨D, hm, hr⟩ := h
  obtain ⟨es, clock, hb, F, hs, hD⟩ := hm
  have hq := fun w => run_eql_map_nil_sl (P := Try.prog) w 62 _ _ (some m) Try.underlying62
  have hc := run_maps_clone_sl (P := Try.prog) w 62 hb
  have HF := hide (show WasAt (w.alloc (.map es clock)) w.heap.size n f from ⟨D, ⟨es, clock, heap_alloc_new w _, F, hs, hD⟩, hr⟩)
  clear hb hs hD hr
  go_enter Try.func36, Try.ntmps36
  go_wp2
  rw [run_callFunc_extern Try.func44 (by kernel_rfl) (by kernel_rfl) (by kernel_rfl) (e := Extern.MapsClone.clone) (by kernel_rfl), hc]
  simp only [Result.andThen]
  rw [Oper.upon_value]
  go_wp2
  rw [run_typeAssert_map_sl _ 62 20 _ _ _ Try.underlying62]
  simp only [Result.andThen]
  rw [Oper.upon_value]
  go_wp2
  go_ret
  exact ⟨rfl, HF.out, Ext.new w _⟩
/-- a copy of the struct, its row and its table is a disk; it has no plan yet -/
theorem Dk.copied {Y Z : Nat → Prop} {w w2 : World} {g g' m m' n N : Nat} {vt v' : Value} {p : Option Addr} {dead : Bool} {ts : List Value} {T : List (List UInt8)} {f : Int → Option Value} {U : Int → Option (List UInt8)} {pl : Option (Int × List UInt8)}
    (h : Dk Y Z w g vt m p dead n N ts T f U pl) (he : Ext w w2) (ho : ∃ b, w.heap.size ≤ b ∧ w2.ownsRow b 22 1 v' n ts) (hw : WasAt w2 m' N f) (hm : w.heap.size ≤ m') (hb : Blk w2 g' 66 #[v', .map (some m'), .bool dead, .pointer none]) (hg : w.heap.size ≤ g') :
    Dk (Fr w) Z w2 g' v' m' none dead n N ts T f U none := by
  obtain ⟨b, hb0, ho⟩ := ho
  exact { h.ext he with blk := hb, own := World.ownsRow.mono ho (Nat.zero_le _), oY := fun k hk => Nat.le_trans hb0 (ho.lt k hk).1, was := hw, hg := hg, hm := hm, pln := rfl }
theorem Dk.ones {Y Z : Nat → Prop} {w : World} {g m n N : Nat} {vt : Value} {p : Option Addr} {dead : Bool} {ts : List Value} {T : List (List UInt8)} {f : Int → Option Value} {U : Int → Option (List UInt8)} {pl : Option (Int × List UInt8)}
    (h : Dk Y Z w g vt m p dead n N ts T f U pl) : ∀ u ∈ ts, u.oneCell' = true := fun u hu => by
  obtain ⟨i, hi, rfl⟩ := List.mem_iff_getElem.1 hu
  have h2 : i < T.length := by rw [h.len, ← h.lens]; exact hi
  obtain ⟨A, c, e, _⟩ := (h.tl i _ _ (List.getElem?_eq_getElem hi) (List.getElem?_eq_getElem h2)).1.form
  rw [e]
  rfl
theorem Dk.cells4 {Y Z : Nat → Prop} {w : World} {g m n N : Nat} {vt : Value} {p : Option Addr} {dead : Bool} {ts : List Value} {T : List (List UInt8)} {f : Int → Option Value} {U : Int → Option (List UInt8)} {pl : Option (Int × List UInt8)}
    (h : Dk Y Z w g vt m p dead n N ts T f U pl) : w.cell? ⟨g, 0, none⟩ = some vt ∧ w.cell? ⟨g, 1, none⟩ = some (.map (some m)) ∧ w.cell? ⟨g, 2, none⟩ = some (.bool dead) ∧ w.cell? ⟨g, 3, none⟩ = some (.pointer p) := by
  have c0 := h.blk.cell 0
  have c1 := h.blk.cell 1
  have c2 := h.blk.cell 2
  have c3 := h.blk.cell 3
  simp at c0 c1 c2 c3
  exact ⟨c0, c1, c2, c3⟩
set_option maxRecDepth 100000 in
set_option maxHeartbeats 16000000 in
theorem copy_any (Y Z : Nat → Prop) (w : World) (g N : Nat) (dead : Bool) (T : List (List UInt8)) (U : Int → Option (List UInt8)) (pl : Option (Int × List UInt8)) (h : Disk Y Z w g N dead T U pl) (hT : T.length ≤ 2000) :
    Calls Try.prog 22 #[.pointer (some ⟨g, 0, none⟩)] w fun e w' => ∃ g', e = .returned (.pointer (some ⟨g', 0, none⟩)) ∧ Disk (Fr w) Z w' g' N dead T U pl ∧ Ext w w' := by
  obtain ⟨vt, m, p, ts, f, h⟩ := h
  obtain ⟨A, c, rfl, hA, _⟩ := own_form h.own
  have HD := hide h
  have HA := hide hA
  have HL := hide h.lens
  have HR := hide (Reads.of_own h.own)
  have HO := hide h.ones
  have HW := hide h.was
  obtain ⟨n, hn⟩ : ∃ n, n = T.length := ⟨_, rfl⟩
  rw [← hn] at HD HL HR h
  have HN := hide hn
  obtain ⟨c0, c1, c2, c3⟩ := h.cells4
  have hn2 : n ≤ 2000 := by omega
  clear h hA hn
  go_enter Try.func22, Try.ntmps22
  go_wp2_with (fail)
  go_region_held3 (fun w' => w'.cell? ⟨g, 0, none⟩ = some (.slice A n c) ∧ w'.cell? ⟨g, 1, none⟩ = some (.map (some m)) ∧ w'.cell? ⟨g, 2, none⟩ = some (.bool dead))
    (first | (exact (fun (x : Ext w _) => (fun y => ⟨y.1, y.2.1, y.2.2.1⟩) (HD.out.ext x).cells4) (by (repeat (first | with_reducible exact Ext.refl _ | with_reducible refine Ext.drew ?_ | with_reducible refine Ext.alloc ?_ _ | with_reducible refine Ext.trans ?_ H5.out | with_reducible refine Ext.trans ?_ H6.out)))))
    (first
      | (go_at_call 35; refine (cloneT_any A c n ts _ HL.out HA.out (Ext.read (by (repeat (first | with_reducible exact Ext.refl _ | with_reducible refine Ext.drew ?_ | with_reducible refine Ext.alloc ?_ _ | with_reducible refine Ext.trans ?_ H5.out | with_reducible refine Ext.trans ?_ H6.out))) HR.out) hn2 HO.out).mono ?_; rintro e w5 ⟨A5, c5, rfl, ho5, hx5⟩; have O5 := hide ho5; have H5 := hide hx5; clear ho5 hx5)
      | (go_at_call 36; refine (WasAt.copy (HW.out.ext (by (repeat (first | with_reducible exact Ext.refl _ | with_reducible refine Ext.drew ?_ | with_reducible refine Ext.alloc ?_ _ | with_reducible refine Ext.trans ?_ H5.out | with_reducible refine Ext.trans ?_ H6.out))))).mono ?_; rintro e w6 ⟨rfl, hm6, hx6⟩; have M6 := hide hm6; have H6 := hide hx6; clear hm6 hx6))
  obtain ⟨wd, hwd⟩ : ∃ wd, wd = w6.alloc (.cells #[.slice A5 n c5, .map (some w5.heap.size), .bool dead, .pointer none] 66) := ⟨_, rfl⟩
  obtain ⟨gd, hgd⟩ : ∃ gd, gd = w6.heap.size := ⟨_, rfl⟩
  have X56 := hide (show Ext w5 wd by rw [hwd]; (repeat (first | with_reducible exact Ext.refl _ | with_reducible refine Ext.drew ?_ | with_reducible refine Ext.alloc ?_ _ | with_reducible refine Ext.trans ?_ H5.out | with_reducible refine Ext.trans ?_ H6.out)))
  have X6 := hide (show Ext w6 wd by rw [hwd]; (repeat (first | with_reducible exact Ext.refl _ | with_reducible refine Ext.drew ?_ | with_reducible refine Ext.alloc ?_ _ | with_reducible refine Ext.trans ?_ H5.out | with_reducible refine Ext.trans ?_ H6.out)))
  have X := hide (show Ext w wd by rw [hwd]; (repeat (first | with_reducible exact Ext.refl _ | with_reducible refine Ext.drew ?_ | with_reducible refine Ext.alloc ?_ _ | with_reducible refine Ext.trans ?_ H5.out | with_reducible refine Ext.trans ?_ H6.out)))
  have DD := hide (HD.out.copied (g' := gd) X.out ⟨_, (show Ext w _ by (repeat (first | with_reducible exact Ext.refl _ | with_reducible refine Ext.drew ?_ | with_reducible refine Ext.alloc ?_ _ | with_reducible refine Ext.trans ?_ H5.out | with_reducible refine Ext.trans ?_ H6.out))).size, X56.out.own O5.out⟩ (M6.out.ext X6.out) (show Ext w w5 by (repeat (first | with_reducible exact Ext.refl _ | with_reducible refine Ext.drew ?_ | with_reducible refine Ext.alloc ?_ _ | with_reducible refine Ext.trans ?_ H5.out | with_reducible refine Ext.trans ?_ H6.out))).size (by rw [hwd, hgd]; exact Blk.new w6 66 _) (by rw [hgd]; exact (show Ext w w6 by (repeat (first | with_reducible exact Ext.refl _ | with_reducible refine Ext.drew ?_ | with_reducible refine Ext.alloc ?_ _ | with_reducible refine Ext.trans ?_ H5.out | with_reducible refine Ext.trans ?_ H6.out))).size))
  have c3 := (HD.out.ext X.out).cells4.2.2.2
  have hgl : gd < wd.heap.size := DD.out.blk.lt
  have z3 := DD.out.cells4.2.2.2
  have zf := DD.out.blk.frozen 3
  rw [← hwd, ← hgd]
  clear hwd hgd H5 H6 O5 M6 c0 c1 c2
  cases pl with
  | none =>
    obtain rfl : p = none := HD.out.pln
    go_wp2_with (fail)
    go_ret
    exact ⟨gd, rfl, ⟨_, _, _, _, _, HN.out ▸ DD.out⟩, X.out⟩
  | some q =>
    obtain ⟨a, M⟩ := q
    obtain ⟨pb, v, rfl, hpY, hpb, hpt⟩ := (HD.out.ext X.out).pln
    obtain ⟨Av, cv, rfl, _⟩ := hpt.form
    have y0 := hpb.cell 0
    have y1 := hpb.cell 1
    simp at y0 y1
    have HT := hide hpt
    clear hpt hpY
    go_wp2_with (fail)
    go_region
    all_goals go_wp2_with (fail)
    all_goals go_ret
    all_goals
      have XE := Ext.alloc (Ext.refl wd) (.cells #[.int .i64 a, .slice Av M.length cv] 71)
      have hr := ((DD.out.ext XE).newplan (Blk.new wd 71 #[.int .i64 a, .slice Av M.length cv]) (HT.out.ext XE) X.out.size).1
      have hx := (X.out.trans XE).set_ (p := ⟨gd, 3, none⟩) DD.out.hg (.pointer (some ⟨wd.heap.size, 0, none⟩))
      rw [World.setCell_alloc_past _ _ _ _ hgl] at hr hx
      exact ⟨gd, rfl, ⟨_, _, _, _, _, HN.out ▸ hr.ext (Ext.drew (Ext.refl _))⟩, Ext.drew hx⟩
end Go.Proofs.Ytpbenpkgbhmldaa
