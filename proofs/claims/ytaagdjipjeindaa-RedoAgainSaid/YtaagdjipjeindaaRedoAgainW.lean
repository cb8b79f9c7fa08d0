/- RedoAgain: the walk: who does all again, over whatever was there of it, is where one was. -/
import Derived.Test.YtaagdjipjeindaaRedoO
import Derived.Test.YtaagdjipjeindaaTail
namespace Go.Proofs.Ytaagdjipjeindaa.redoAgain
open Go.ChangeShapes Go.WideShapes Go.ChangeAt Go.RowKit
set_option linter.unusedVariables false

/-- the two pages and the entries -/
def St (w0 : World) (wb sb : Nat) (v8 : Value) (p : Int) (es : List EntS) (i1 i2 : Nat) (wr : World) : Prop := PgAt wr wb (runP p es i1) ∧ PgAt wr sb (runP p es i2) ∧ Ents wr v8 es ∧ Ext w0 wr
theorem _root_.Go.Proofs.Ytaagdjipjeindaa.PgAt.cells {w : World} {b : Nat} {s : (Nat → List UInt8) × Int} (h : PgAt w b s) : ∃ u0 u1 u2 u3 u4, w.cell? ⟨b, 0, none⟩ = some u0 ∧ w.cell? ⟨b, 1, none⟩ = some u1 ∧ w.cell? ⟨b, 2, none⟩ = some u2 ∧ w.cell? ⟨b, 3, none⟩ = some u3 ∧ w.cell? ⟨b, 4, none⟩ = some u4 := by
  obtain ⟨_, _, _, _, _, _, _, _, hb, _⟩ := h
  exact ⟨_, _, _, _, _, hb.cells5⟩
theorem _root_.Go.Proofs.Ytaagdjipjeindaa.PgAt.frozen {w : World} {b : Nat} {s : (Nat → List UInt8) × Int} (h : PgAt w b s) : w.frozen? ⟨b, 0, none⟩ = false ∧ w.frozen? ⟨b, 1, none⟩ = false ∧ w.frozen? ⟨b, 2, none⟩ = false ∧ w.frozen? ⟨b, 3, none⟩ = false ∧ w.frozen? ⟨b, 4, none⟩ = false := by
  obtain ⟨_, _, _, _, _, _, _, _, hb, _⟩ := h
  exact ⟨hb.frozen 0, hb.frozen 1, hb.frozen 2, hb.frozen 3, hb.frozen 4⟩
/-- the first page turned -/
theorem St.turn {w0 wr w3 : World} {wb sb : Nat} {v8 : Value} {p : Int} {es : List EntS} {i1 i2 i1' : Nat} {A0 A1 A2 A3 : Option Addr} {c0 c1 c2 c3 : Nat} {s' : (Nat → List UInt8) × Int} (h : St w0 wb sb v8 p es i1 i2 wr) (hx : Ext wr w3) (hne : wb ≠ sb) (hw : w0.heap.size ≤ wb) (hs : s' = runP p es i1')
    (hp : Pg w3 (.agg #[.slice A0 (s'.1 0).length c0, .slice A1 (s'.1 1).length c1, .slice A2 (s'.1 2).length c2, .slice A3 (s'.1 3).length c3, .int .i64 s'.2]) s'.1 s'.2) :
    St w0 wb sb v8 p es i1' i2 (((((w3.setCell ⟨wb, 0, none⟩ (.slice A0 (s'.1 0).length c0)).setCell ⟨wb, 1, none⟩ (.slice A1 (s'.1 1).length c1)).setCell ⟨wb, 2, none⟩ (.slice A2 (s'.1 2).length c2)).setCell ⟨wb, 3, none⟩ (.slice A3 (s'.1 3).length c3)).setCell ⟨wb, 4, none⟩ (.int .i64 s'.2)) := by
  obtain ⟨h1, h2, h3, h4⟩ := h
  subst hs
  have h1' := h1.ext hx
  have ht := touch_set5 w3 wb (.slice A0 ((runP p es i1').1 0).length c0) (.slice A1 ((runP p es i1').1 1).length c1) (.slice A2 ((runP p es i1').1 2).length c2) (.slice A3 ((runP p es i1').1 3).length c3) (.int .i64 (runP p es i1').2)
  refine ⟨h1'.lay hp, (h2.ext hx).far h1' (Ne.symm hne) ht, ?_, Touch.ext (h4.trans hx) ht hw⟩
  obtain ⟨_, _, _, _, _, _, _, _, hb, _⟩ := h1'
  exact (h3.ext hx).far hb (by decide) (by decide) (by decide) ht
theorem St.swap {w0 wr : World} {wb sb : Nat} {v8 : Value} {p : Int} {es : List EntS} {i1 i2 : Nat} (h : St w0 wb sb v8 p es i1 i2 wr) : St w0 sb wb v8 p es i2 i1 wr := ⟨h.2.1, h.1, h.2.2.1, h.2.2.2⟩
set_option maxRecDepth 1000000 in
set_option maxHeartbeats 8000000 in
theorem walk_short (A : Option Addr) (c n : Nat) (ns : List Nat) (k q : Nat) (w : World) (hr : Reads w w.heap.size 1 A n (nv ns)) (hn : n = ns.length) (hz : ∀ x ∈ ns, x ≤ 65535) (hl : (n : Int) ≤ 12) (hk : k ≤ 255) (hq : q ≤ 255) :
    Calls Try.prog 4 #[.slice A n c, .int .u8 (k : Int), .int .u8 (q : Int)] w fun e w' => e = .returned (.bool true) ∧ Ext w w' := by
  have HR := hide hr
  have HZ := hide hz
  have HN := hide hn
  clear hr hz hn
  obtain ⟨p, hp⟩ : ∃ p : Nat, p = q % 4 := ⟨_, rfl⟩
  have ep : (q : Int) % 4 = (p : Int) := by omega
  have hp1 : p < 4 := by omega
  clear hp
  obtain ⟨es, hes⟩ : ∃ es, es = ns.map someE := ⟨_, rfl⟩
  have OKS := hide (show ∀ E ∈ es, EntOk E by
    intro E hE
    rw [hes, List.mem_map] at hE
    obtain ⟨x, _, rfl⟩ := hE
    exact someE_ok x)
  obtain ⟨m, hm⟩ : ∃ m, m = es.length := ⟨_, rfl⟩
  have hm12 : m ≤ 12 := by rw [hm, hes, List.length_map, ← HN.out]; omega
  have HSM := hide (show ∀ w1 : World, Ext w w1 → Calls Try.prog 14 #[.slice A n c] w1 fun e w2 => ∃ A8 c8, e = .returned (.slice A8 m c8) ∧ Ents w2 (.slice A8 m c8) es ∧ Ext w1 w2 from fun w1 hx => (some_any A c n ns _ (hx.read HR.out) HN.out HZ.out (by omega)).mono (by
    rintro e w2 ⟨A8, c8, vs8, rfl, ho8, hv8, hx8⟩
    rw [← hes] at ho8 hv8 ⊢
    rw [← hm] at ho8 ⊢
    exact ⟨A8, c8, rfl, ⟨A8, c8, vs8, by rw [hm], by rw [← hm]; exact own_base ho8 (Nat.zero_le _), hv8⟩, hx8⟩))
  have HM := hide hm
  clear hm hes
  go_enter Try.func4, Try.ntmps4
  go_upto_region 3 with (go_at_call 7; refine (begun_any _).mono ?_; rintro e w1 ⟨rfl, b1⟩; have X1 := hide b1; clear b1)
  go_upto_region 7 with (go_at_call 14; refine (HSM.out _ X1.out).mono ?_; rintro e w2 ⟨A8, c8, rfl, hv8, hx8⟩; have X2 := hide (X1.out.trans hx8); have V2 := hide hv8; clear hv8 hx8)
  go_wp2_with (fail)
  obtain ⟨w4, hw4⟩ : ∃ w4, w4 = (w2.alloc (.cells #[.slice none 0 0, .slice none 0 0, .slice none 0 0, .slice none 0 0, .int .i64 0] 35)).alloc (.cells #[.slice none 0 0, .slice none 0 0, .slice none 0 0, .slice none 0 0, .int .i64 0] 35) := ⟨_, rfl⟩
  have X4 := hide (show Ext w2 w4 by rw [hw4]; exact ((Ext.refl w2).alloc _).alloc _)
  have PW := hide (show PgAt w4 w2.heap.size (noP, 0) from ⟨none, 0, none, 0, none, 0, none, 0, by rw [hw4]; exact (Blk.new w2 35 _).alloc _, Pg.none _⟩)
  have PS := hide (show PgAt w4 (w2.heap.size + 1) (noP, 0) from ⟨none, 0, none, 0, none, 0, none, 0, by rw [hw4]; exact blk_new1 w2 _ 35 _, Pg.none _⟩)
  obtain ⟨wb, hwb⟩ : ∃ wb, wb = w2.heap.size := ⟨_, rfl⟩
  obtain ⟨sb, hsb⟩ : ∃ sb, sb = w2.heap.size + 1 := ⟨_, rfl⟩
  have HB := hide (show wb ≠ sb ∧ w.heap.size ≤ wb ∧ w.heap.size ≤ sb by have := X2.out.size; omega)
  rw [← hw4, ← hsb, ← hwb]
  rw [← hwb] at PW
  rw [← hsb] at PS
  have V4 := hide (V2.out.ext X4.out)
  clear hw4 hwb hsb V2
  obtain ⟨j, hj⟩ : ∃ j : Nat, j = k % (m + 1) := ⟨_, rfl⟩
  have hjm : j ≤ m := by have := Nat.mod_lt k (show 0 < m + 1 by omega); omega
  have HJ := hide hj
  clear hj
  go_loopw [11] (fun s11 wr => (∃ i : Nat, i ≤ m ∧ s11 = .int .i64 i ∧ Hid (St w wb sb (.slice A8 m c8) p es i (min i j) wr))) (fun s11 _ => (m - intOf s11).toNat)
  case atStart => exact ⟨0, by omega, rfl, PW.out, PS.out, V4.out, X2.out.trans X4.out⟩
  case round =>
    obtain ⟨i, hi, rfl, hs0⟩ := hrel
    have ST := hide hs0.out
    clear hs0
    by_cases hlt : i < m
    · obtain ⟨E, hE⟩ : ∃ E, es[i]? = some E := ⟨_, List.getElem?_eq_getElem (by rw [← HM.out]; exact hlt)⟩
      have OK := hide (OKS.out E (List.mem_of_getElem? hE))
      have LEN := hide (runP_len (n := p) OKS.out i)
      obtain ⟨g, AN, cN, AM, cM, hA8, hglt, hC, ho1, ho2⟩ := ST.out.2.2.1.at_ hE
      subst hA8
      have PGA := hide ST.out.1
      obtain ⟨A0, c0, A1, c1, A2, c2, A3, c3, hb, hpg⟩ := ST.out.1
      obtain ⟨s, hs⟩ : ∃ s, s = runP p es i := ⟨_, rfl⟩
      rw [← hs] at hb hpg LEN PGA
      have PG := hide hpg
      have O1 := hide ho1
      have O2 := hide ho2
      have HE := hide hE
      have HSS := hide hs
      have HBB := hide hb
      have HC := hide hC
      have HS := hide (show ∀ w' : World, Ext wr w' → (fun w' => w'.cell? ⟨wb, 0, none⟩ = some (.slice A0 (s.1 0).length c0) ∧ w'.cell? ⟨wb, 1, none⟩ = some (.slice A1 (s.1 1).length c1) ∧ w'.cell? ⟨wb, 2, none⟩ = some (.slice A2 (s.1 2).length c2) ∧ w'.cell? ⟨wb, 3, none⟩ = some (.slice A3 (s.1 3).length c3) ∧ w'.cell? ⟨wb, 4, none⟩ = some (.int .i64 s.2) ∧ w'.cell? ⟨g, i * 16, none⟩ = some (.int .i64 E.kind) ∧ w'.cell? ⟨g, i * 16 + 1, none⟩ = some (.int .i64 E.t) ∧ w'.cell? ⟨g, i * 16 + 2, none⟩ = some (.int .i64 E.u) ∧ w'.cell? ⟨g, i * 16 + 3, none⟩ = some (.int .i64 E.h) ∧ w'.cell? ⟨g, i * 16 + 4, none⟩ = some (.int .i64 E.p) ∧ w'.cell? ⟨g, i * 16 + 5, none⟩ = some (.int .i64 E.nx) ∧ w'.cell? ⟨g, i * 16 + 6, none⟩ = some (.int .i64 E.a0) ∧ w'.cell? ⟨g, i * 16 + 7, none⟩ = some (.int .i64 E.a1) ∧ w'.cell? ⟨g, i * 16 + 8, none⟩ = some (.int .i64 E.b0) ∧ w'.cell? ⟨g, i * 16 + 9, none⟩ = some (.int .i64 E.b1) ∧ w'.cell? ⟨g, i * 16 + 10, none⟩ = some (.slice none 0 0) ∧ w'.cell? ⟨g, i * 16 + 11, none⟩ = some (.slice AN E.NL.length cN) ∧ w'.cell? ⟨g, i * 16 + 12, none⟩ = some (.slice AM E.mv.length cM) ∧ w'.cell? ⟨g, i * 16 + 13, none⟩ = some (.slice none 0 0) ∧ w'.cell? ⟨g, i * 16 + 14, none⟩ = some (.slice none 0 0) ∧ w'.cell? ⟨g, i * 16 + 15, none⟩ = some (.slice none 0 0)) w' from fun w' hx => by
        obtain ⟨q0, q1, q2, q3, q4⟩ := (hx.blk HBB.out).cells5
        exact ⟨q0, q1, q2, q3, q4, HC.out w' hx⟩)
      clear hE hb hpg ho1 ho2 hs hC
      have hw1 : IntKind.i64.wrap ((i : Int) + 1) = (i : Int) + 1 := by simp [IntKind.wrap, IntKind.signed, IntKind.bits]; omega
      go_upto_region 11 with (fail)
      refine wp_region_H (S := (fun w' => w'.cell? ⟨wb, 0, none⟩ = some (.slice A0 (s.1 0).length c0) ∧ w'.cell? ⟨wb, 1, none⟩ = some (.slice A1 (s.1 1).length c1) ∧ w'.cell? ⟨wb, 2, none⟩ = some (.slice A2 (s.1 2).length c2) ∧ w'.cell? ⟨wb, 3, none⟩ = some (.slice A3 (s.1 3).length c3) ∧ w'.cell? ⟨wb, 4, none⟩ = some (.int .i64 s.2) ∧ w'.cell? ⟨g, i * 16, none⟩ = some (.int .i64 E.kind) ∧ w'.cell? ⟨g, i * 16 + 1, none⟩ = some (.int .i64 E.t) ∧ w'.cell? ⟨g, i * 16 + 2, none⟩ = some (.int .i64 E.u) ∧ w'.cell? ⟨g, i * 16 + 3, none⟩ = some (.int .i64 E.h) ∧ w'.cell? ⟨g, i * 16 + 4, none⟩ = some (.int .i64 E.p) ∧ w'.cell? ⟨g, i * 16 + 5, none⟩ = some (.int .i64 E.nx) ∧ w'.cell? ⟨g, i * 16 + 6, none⟩ = some (.int .i64 E.a0) ∧ w'.cell? ⟨g, i * 16 + 7, none⟩ = some (.int .i64 E.a1) ∧ w'.cell? ⟨g, i * 16 + 8, none⟩ = some (.int .i64 E.b0) ∧ w'.cell? ⟨g, i * 16 + 9, none⟩ = some (.int .i64 E.b1) ∧ w'.cell? ⟨g, i * 16 + 10, none⟩ = some (.slice none 0 0) ∧ w'.cell? ⟨g, i * 16 + 11, none⟩ = some (.slice AN E.NL.length cN) ∧ w'.cell? ⟨g, i * 16 + 12, none⟩ = some (.slice AM E.mv.length cM) ∧ w'.cell? ⟨g, i * 16 + 13, none⟩ = some (.slice none 0 0) ∧ w'.cell? ⟨g, i * 16 + 14, none⟩ = some (.slice none 0 0) ∧ w'.cell? ⟨g, i * 16 + 15, none⟩ = some (.slice none 0 0))) 10 (by kernel_rfl) (by kernel_rfl) (HS.out _ (Ext.drew (Ext.refl wr))) (fun hHeld => ?_)
      refine GoH.take 0 (some 30) (v := ?_) rfl rfl (by kernel_rfl) (by kernel_rfl) (by kernel_rfl) (fun _ _ _ h => h) (Or.inl ⟨by rfl, ?_⟩) (by assumption) ?_
      rotate_left
      · intro w' hSw
        try dsimp only at hSw
        go_simp
        try with_reducible rfl
      try simp only [Act.put, List.setIfInBounds_toArray, List.set_cons_zero, List.set_cons_succ]
      refine GoH.take 1 (some 31) (v := ?_) rfl rfl (by kernel_rfl) (by kernel_rfl) (by kernel_rfl) (fun _ _ _ h => h) (Or.inl ⟨by rfl, ?_⟩) (by assumption) ?_
      rotate_left
      · intro w' hSw
        try dsimp only at hSw
        go_simp
        try with_reducible rfl
      try simp only [Act.put, List.setIfInBounds_toArray, List.set_cons_zero, List.set_cons_succ]
      refine GoH.take 2 (some 32) (v := ?_) rfl rfl (by kernel_rfl) (by kernel_rfl) (by kernel_rfl) (fun _ _ _ h => h) (Or.inl ⟨by rfl, ?_⟩) (by assumption) ?_
      rotate_left
      · intro w' hSw
        try dsimp only at hSw
        go_simp
        try with_reducible rfl
      try simp only [Act.put, List.setIfInBounds_toArray, List.set_cons_zero, List.set_cons_succ]
      refine GoH.take 3 (some 33) (v := ?_) rfl rfl (by kernel_rfl) (by kernel_rfl) (by kernel_rfl) (fun _ _ _ h => h) (Or.inl ⟨by rfl, ?_⟩) (by assumption) ?_
      rotate_left
      · intro w' hSw
        try dsimp only at hSw
        go_simp
        try with_reducible rfl
      try simp only [Act.put, List.setIfInBounds_toArray, List.set_cons_zero, List.set_cons_succ]
      refine GoH.take 4 (some 34) (v := ?_) rfl rfl (by kernel_rfl) (by kernel_rfl) (by kernel_rfl) (fun _ _ _ h => h) (Or.inl ⟨by rfl, ?_⟩) (by assumption) ?_
      rotate_left
      · intro w' hSw
        try dsimp only at hSw
        go_simp
        try with_reducible rfl
      try simp only [Act.put, List.setIfInBounds_toArray, List.set_cons_zero, List.set_cons_succ]
      refine GoH.take 5 (some 35) (v := ?_) rfl rfl (by kernel_rfl) (by kernel_rfl) (by kernel_rfl) (fun _ _ _ h => h) (Or.inl ⟨by rfl, ?_⟩) (by assumption) ?_
      rotate_left
      · intro w' hSw
        try dsimp only at hSw
        go_simp
        try with_reducible rfl
      try simp only [Act.put, List.setIfInBounds_toArray, List.set_cons_zero, List.set_cons_succ]
      refine GoH.take 6 (some 36) (v := ?_) rfl rfl (by kernel_rfl) (by kernel_rfl) (by kernel_rfl) (fun _ _ _ h => h) (Or.inl ⟨by rfl, ?_⟩) (by assumption) ?_
      rotate_left
      · intro w' hSw
        try dsimp only at hSw
        go_simp
        try with_reducible rfl
      try simp only [Act.put, List.setIfInBounds_toArray, List.set_cons_zero, List.set_cons_succ]
      refine GoH.take 7 (some 37) (v := ?_) rfl rfl (by kernel_rfl) (by kernel_rfl) (by kernel_rfl) (fun _ _ _ h => h) (Or.inl ⟨by rfl, ?_⟩) (by assumption) ?_
      rotate_left
      · intro w' hSw
        try dsimp only at hSw
        go_simp
        try with_reducible rfl
      try simp only [Act.put, List.setIfInBounds_toArray, List.set_cons_zero, List.set_cons_succ]
      refine GoH.each (rs := [8]) (by kernel_rfl) (by kernel_rfl) (by kernel_rfl) ?_
      refine EachH.cons (i := 8) rfl (fun K hK => ?_) EachH.nil
      go_simp
      refine (apply_ent wr.drew _ s p ((i : Int) + 1) (PG.out.ext (Ext.drew (Ext.refl wr))) LEN.out E AN cN AM cM (Ext.own (Ext.drew (Ext.refl wr)) O1.out) (Ext.own (Ext.drew (Ext.refl wr)) O2.out) OK.out).mono ?_
      rintro e w3 ⟨v3, rfl, hp3, hx3⟩
      obtain ⟨B0, d0, B1, d1, B2, d2, B3, d3, rfl⟩ := hp3.form
      have X3 := hide (Ext.trans (Ext.drew (Ext.refl wr)) hx3)
      obtain ⟨s', hs'⟩ : ∃ s', s' = stepP p s E ((i : Int) + 1) := ⟨_, rfl⟩
      rw [← hs'] at hp3
      simp only [← hs']
      have P3 := hide hp3
      have HS' := hide hs'
      clear hp3 hx3 hs'
      try go_simp
      refine hK.out _ _ (HS.out _ X3.out) (fun hHeld => ?_)
      clear hK K
      try simp only [Act.put, List.setIfInBounds_toArray, List.set_cons_zero, List.set_cons_succ]
      refine GoH.take 9 (some 29) (v := ?_) rfl rfl (by kernel_rfl) (by kernel_rfl) (by kernel_rfl) (fun _ _ _ h => h) (Or.inl ⟨by rfl, ?_⟩) (by assumption) ?_
      rotate_left
      · intro w' hSw
        try dsimp only at hSw
        go_simp
        try with_reducible rfl
      try simp only [Act.put, List.setIfInBounds_toArray, List.set_cons_zero, List.set_cons_succ]
      refine GoH.tail ?_
      refine GoT.take 10 (some 39) (v := ?_) rfl rfl (by kernel_rfl) (by kernel_rfl) (by kernel_rfl) (by kernel_rfl) (fun _ _ _ h => h) (Or.inl ⟨by rfl, ?_⟩) ?_
      rotate_left
      · intro w' hSw
        try dsimp only at hSw
        go_simp
        try with_reducible rfl
      try simp only [Act.put, List.setIfInBounds_toArray, List.set_cons_zero, List.set_cons_succ]
      refine GoT.take 11 (some 40) (v := ?_) rfl rfl (by kernel_rfl) (by kernel_rfl) (by kernel_rfl) (by kernel_rfl) (fun _ _ _ h => h) (Or.inl ⟨by rfl, ?_⟩) ?_
      rotate_left
      · intro w' hSw
        try dsimp only at hSw
        go_simp
        try with_reducible rfl
      try simp only [Act.put, List.setIfInBounds_toArray, List.set_cons_zero, List.set_cons_succ]
      refine GoT.last 12 (by kernel_rfl) (by kernel_rfl) (by kernel_rfl) rfl (fun K hK => ?_)
      obtain ⟨z0, z1, z2, z3, z4⟩ := (PGA.out.ext X3.out).cells
      obtain ⟨f0, f1, f2, f3, f4⟩ := (PGA.out.ext X3.out).frozen
      go_simp
      refine hK.out _ _ ?_
      clear hK K hHeld
      have hrun : s' = runP p es (i + 1) := by rw [HS'.out, HSS.out, runP_succ HE.out]
      obtain ⟨w4, hw4, hst⟩ : ∃ w4, w4 = (((((w3.setCell ⟨wb, 0, none⟩ (.slice B0 (s'.1 0).length d0)).setCell ⟨wb, 1, none⟩ (.slice B1 (s'.1 1).length d1)).setCell ⟨wb, 2, none⟩ (.slice B2 (s'.1 2).length d2)).setCell ⟨wb, 3, none⟩ (.slice B3 (s'.1 3).length d3)).setCell ⟨wb, 4, none⟩ (.int .i64 s'.2)) ∧ St w wb sb (.slice (some ⟨g, 0, none⟩) m c8) p es (i + 1) (min i j) w4 := ⟨_, rfl, St.turn ST.out X3.out HB.out.1 HB.out.2.1 hrun P3.out⟩
      rw [← hw4]
      have ST4 := hide hst
      obtain ⟨s2, hs2⟩ : ∃ s2, s2 = runP p es (i + 1) := ⟨_, rfl⟩
      have HS2 := hide hs2
      obtain ⟨C0, g0, C1, g1, C2, g2, C3, g3, hb4, hp4⟩ := hst.1
      rw [← hs2] at hb4 hp4
      obtain ⟨y0, y1, y2, y3, y4⟩ := hb4.cells5
      have HP4 := hide hp4
      have PS4 := hide hst.2.1
      clear hw4 hst hb4 hp4 hs2 hrun z0 z1 z2 z3 z4 f0 f1 f2 f3 f4
      have ej : (k : Int) % ((m : Int) + 1) = (j : Int) := by rw [HJ.out]; push_cast; rfl
      have dz : ((m : Int) + 1 == 0) = false := by simp; omega
      have hw2 : IntKind.i64.wrap ((m : Int) + 1) = (m : Int) + 1 := by simp [IntKind.wrap, IntKind.signed, IntKind.bits]; omega
      by_cases hij : i < j
      · obtain ⟨v0, v1, v2, v3, v4, z0, z1, z2, z3, z4⟩ := PS4.out.cells
        obtain ⟨f0, f1, f2, f3, f4⟩ := PS4.out.frozen
        go_wp2_with (fail)
        go_roundw
        case rel => exact ⟨i + 1, by omega, by go_num, by
          rw [show min (i + 1) j = i + 1 by omega]
          exact (St.turn ST4.out.swap (Ext.refl w4) (Ne.symm HB.out.1) HB.out.2.2 HS2.out HP4.out).swap⟩
        case measure => simp [intOf]; omega
      · go_wp2_with (fail)
        go_roundw
        case rel => exact ⟨i + 1, by omega, by go_num, by
          rw [show min (i + 1) j = min i j by omega]
          exact ST4.out⟩
        case measure => simp [intOf]; omega
    · have him : i = m := by omega
      rw [him, show min m j = j by omega] at ST
      go_wp2_with (fail)
      go_loopw [12] (fun s12 wr => (∃ i2 : Nat, i2 ≤ m ∧ s12 = .int .i64 i2 ∧ Hid (St w wb sb (.slice A8 m c8) p es m (max i2 j) wr))) (fun s12 _ => (m - intOf s12).toNat)
      case atStart => exact ⟨0, by omega, rfl, by rw [show max 0 j = j by omega]; exact ST.out⟩
      case round =>
        clear ST
        obtain ⟨i2, hi2, rfl, hs0⟩ := hrel
        have ST := hide hs0.out
        clear hs0
        by_cases hlt2 : i2 < m
        · obtain ⟨E, hE⟩ : ∃ E, es[i2]? = some E := ⟨_, List.getElem?_eq_getElem (by rw [← HM.out]; exact hlt2)⟩
          have OK := hide (OKS.out E (List.mem_of_getElem? hE))
          have LEN := hide (runP_len (n := p) OKS.out (max i2 j))
          obtain ⟨g, AN, cN, AM, cM, hA8, hglt, hC, ho1, ho2⟩ := ST.out.2.2.1.at_ hE
          subst hA8
          have PGA := hide ST.out.2.1
          obtain ⟨A0, c0, A1, c1, A2, c2, A3, c3, hb, hpg⟩ := ST.out.2.1
          obtain ⟨s, hs⟩ : ∃ s, s = runP p es (max i2 j) := ⟨_, rfl⟩
          rw [← hs] at hb hpg LEN PGA
          have PG := hide hpg
          have O1 := hide ho1
          have O2 := hide ho2
          have HE := hide hE
          have HSS := hide hs
          have HBB := hide hb
          have HC := hide hC
          have HS := hide (show ∀ w' : World, Ext wr w' → (fun w' => w'.cell? ⟨sb, 0, none⟩ = some (.slice A0 (s.1 0).length c0) ∧ w'.cell? ⟨sb, 1, none⟩ = some (.slice A1 (s.1 1).length c1) ∧ w'.cell? ⟨sb, 2, none⟩ = some (.slice A2 (s.1 2).length c2) ∧ w'.cell? ⟨sb, 3, none⟩ = some (.slice A3 (s.1 3).length c3) ∧ w'.cell? ⟨sb, 4, none⟩ = some (.int .i64 s.2) ∧ w'.cell? ⟨g, i2 * 16, none⟩ = some (.int .i64 E.kind) ∧ w'.cell? ⟨g, i2 * 16 + 1, none⟩ = some (.int .i64 E.t) ∧ w'.cell? ⟨g, i2 * 16 + 2, none⟩ = some (.int .i64 E.u) ∧ w'.cell? ⟨g, i2 * 16 + 3, none⟩ = some (.int .i64 E.h) ∧ w'.cell? ⟨g, i2 * 16 + 4, none⟩ = some (.int .i64 E.p) ∧ w'.cell? ⟨g, i2 * 16 + 5, none⟩ = some (.int .i64 E.nx) ∧ w'.cell? ⟨g, i2 * 16 + 6, none⟩ = some (.int .i64 E.a0) ∧ w'.cell? ⟨g, i2 * 16 + 7, none⟩ = some (.int .i64 E.a1) ∧ w'.cell? ⟨g, i2 * 16 + 8, none⟩ = some (.int .i64 E.b0) ∧ w'.cell? ⟨g, i2 * 16 + 9, none⟩ = some (.int .i64 E.b1) ∧ w'.cell? ⟨g, i2 * 16 + 10, none⟩ = some (.slice none 0 0) ∧ w'.cell? ⟨g, i2 * 16 + 11, none⟩ = some (.slice AN E.NL.length cN) ∧ w'.cell? ⟨g, i2 * 16 + 12, none⟩ = some (.slice AM E.mv.length cM) ∧ w'.cell? ⟨g, i2 * 16 + 13, none⟩ = some (.slice none 0 0) ∧ w'.cell? ⟨g, i2 * 16 + 14, none⟩ = some (.slice none 0 0) ∧ w'.cell? ⟨g, i2 * 16 + 15, none⟩ = some (.slice none 0 0)) w' from fun w' hx => by
            obtain ⟨q0, q1, q2, q3, q4⟩ := (hx.blk HBB.out).cells5
            exact ⟨q0, q1, q2, q3, q4, HC.out w' hx⟩)
          clear hE hb hpg ho1 ho2 hs hC
          have hw1 : IntKind.i64.wrap ((i2 : Int) + 1) = (i2 : Int) + 1 := by simp [IntKind.wrap, IntKind.signed, IntKind.bits]; omega
          go_upto_region 17 with (fail)
          refine wp_region_H (S := (fun w' => w'.cell? ⟨sb, 0, none⟩ = some (.slice A0 (s.1 0).length c0) ∧ w'.cell? ⟨sb, 1, none⟩ = some (.slice A1 (s.1 1).length c1) ∧ w'.cell? ⟨sb, 2, none⟩ = some (.slice A2 (s.1 2).length c2) ∧ w'.cell? ⟨sb, 3, none⟩ = some (.slice A3 (s.1 3).length c3) ∧ w'.cell? ⟨sb, 4, none⟩ = some (.int .i64 s.2) ∧ w'.cell? ⟨g, i2 * 16, none⟩ = some (.int .i64 E.kind) ∧ w'.cell? ⟨g, i2 * 16 + 1, none⟩ = some (.int .i64 E.t) ∧ w'.cell? ⟨g, i2 * 16 + 2, none⟩ = some (.int .i64 E.u) ∧ w'.cell? ⟨g, i2 * 16 + 3, none⟩ = some (.int .i64 E.h) ∧ w'.cell? ⟨g, i2 * 16 + 4, none⟩ = some (.int .i64 E.p) ∧ w'.cell? ⟨g, i2 * 16 + 5, none⟩ = some (.int .i64 E.nx) ∧ w'.cell? ⟨g, i2 * 16 + 6, none⟩ = some (.int .i64 E.a0) ∧ w'.cell? ⟨g, i2 * 16 + 7, none⟩ = some (.int .i64 E.a1) ∧ w'.cell? ⟨g, i2 * 16 + 8, none⟩ = some (.int .i64 E.b0) ∧ w'.cell? ⟨g, i2 * 16 + 9, none⟩ = some (.int .i64 E.b1) ∧ w'.cell? ⟨g, i2 * 16 + 10, none⟩ = some (.slice none 0 0) ∧ w'.cell? ⟨g, i2 * 16 + 11, none⟩ = some (.slice AN E.NL.length cN) ∧ w'.cell? ⟨g, i2 * 16 + 12, none⟩ = some (.slice AM E.mv.length cM) ∧ w'.cell? ⟨g, i2 * 16 + 13, none⟩ = some (.slice none 0 0) ∧ w'.cell? ⟨g, i2 * 16 + 14, none⟩ = some (.slice none 0 0) ∧ w'.cell? ⟨g, i2 * 16 + 15, none⟩ = some (.slice none 0 0))) 10 (by kernel_rfl) (by kernel_rfl) (HS.out _ (Ext.drew (Ext.refl wr))) (fun hHeld => ?_)
          refine GoH.take 0 (some 57) (v := ?_) rfl rfl (by kernel_rfl) (by kernel_rfl) (by kernel_rfl) (fun _ _ _ h => h) (Or.inl ⟨by rfl, ?_⟩) (by assumption) ?_
          rotate_left
          · intro w' hSw
            try dsimp only at hSw
            go_simp
            try with_reducible rfl
          try simp only [Act.put, List.setIfInBounds_toArray, List.set_cons_zero, List.set_cons_succ]
          refine GoH.take 1 (some 58) (v := ?_) rfl rfl (by kernel_rfl) (by kernel_rfl) (by kernel_rfl) (fun _ _ _ h => h) (Or.inl ⟨by rfl, ?_⟩) (by assumption) ?_
          rotate_left
          · intro w' hSw
            try dsimp only at hSw
            go_simp
            try with_reducible rfl
          try simp only [Act.put, List.setIfInBounds_toArray, List.set_cons_zero, List.set_cons_succ]
          refine GoH.take 2 (some 59) (v := ?_) rfl rfl (by kernel_rfl) (by kernel_rfl) (by kernel_rfl) (fun _ _ _ h => h) (Or.inl ⟨by rfl, ?_⟩) (by assumption) ?_
          rotate_left
          · intro w' hSw
            try dsimp only at hSw
            go_simp
            try with_reducible rfl
          try simp only [Act.put, List.setIfInBounds_toArray, List.set_cons_zero, List.set_cons_succ]
          refine GoH.take 3 (some 60) (v := ?_) rfl rfl (by kernel_rfl) (by kernel_rfl) (by kernel_rfl) (fun _ _ _ h => h) (Or.inl ⟨by rfl, ?_⟩) (by assumption) ?_
          rotate_left
          · intro w' hSw
            try dsimp only at hSw
            go_simp
            try with_reducible rfl
          try simp only [Act.put, List.setIfInBounds_toArray, List.set_cons_zero, List.set_cons_succ]
          refine GoH.take 4 (some 61) (v := ?_) rfl rfl (by kernel_rfl) (by kernel_rfl) (by kernel_rfl) (fun _ _ _ h => h) (Or.inl ⟨by rfl, ?_⟩) (by assumption) ?_
          rotate_left
          · intro w' hSw
            try dsimp only at hSw
            go_simp
            try with_reducible rfl
          try simp only [Act.put, List.setIfInBounds_toArray, List.set_cons_zero, List.set_cons_succ]
          refine GoH.take 5 (some 62) (v := ?_) rfl rfl (by kernel_rfl) (by kernel_rfl) (by kernel_rfl) (fun _ _ _ h => h) (Or.inl ⟨by rfl, ?_⟩) (by assumption) ?_
          rotate_left
          · intro w' hSw
            try dsimp only at hSw
            go_simp
            try with_reducible rfl
          try simp only [Act.put, List.setIfInBounds_toArray, List.set_cons_zero, List.set_cons_succ]
          refine GoH.take 6 (some 63) (v := ?_) rfl rfl (by kernel_rfl) (by kernel_rfl) (by kernel_rfl) (fun _ _ _ h => h) (Or.inl ⟨by rfl, ?_⟩) (by assumption) ?_
          rotate_left
          · intro w' hSw
            try dsimp only at hSw
            go_simp
            try with_reducible rfl
          try simp only [Act.put, List.setIfInBounds_toArray, List.set_cons_zero, List.set_cons_succ]
          refine GoH.take 7 (some 64) (v := ?_) rfl rfl (by kernel_rfl) (by kernel_rfl) (by kernel_rfl) (fun _ _ _ h => h) (Or.inl ⟨by rfl, ?_⟩) (by assumption) ?_
          rotate_left
          · intro w' hSw
            try dsimp only at hSw
            go_simp
            try with_reducible rfl
          try simp only [Act.put, List.setIfInBounds_toArray, List.set_cons_zero, List.set_cons_succ]
          refine GoH.each (rs := [8]) (by kernel_rfl) (by kernel_rfl) (by kernel_rfl) ?_
          refine EachH.cons (i := 8) rfl (fun K hK => ?_) EachH.nil
          go_simp
          refine (apply_ent wr.drew _ s p ((i2 : Int) + 1) (PG.out.ext (Ext.drew (Ext.refl wr))) LEN.out E AN cN AM cM (Ext.own (Ext.drew (Ext.refl wr)) O1.out) (Ext.own (Ext.drew (Ext.refl wr)) O2.out) OK.out).mono ?_
          rintro e w3 ⟨v3, rfl, hp3, hx3⟩
          obtain ⟨B0, d0, B1, d1, B2, d2, B3, d3, rfl⟩ := hp3.form
          have X3 := hide (Ext.trans (Ext.drew (Ext.refl wr)) hx3)
          obtain ⟨s', hs'⟩ : ∃ s', s' = stepP p s E ((i2 : Int) + 1) := ⟨_, rfl⟩
          rw [← hs'] at hp3
          simp only [← hs']
          have P3 := hide hp3
          have HS' := hide hs'
          clear hp3 hx3 hs'
          try go_simp
          refine hK.out _ _ (HS.out _ X3.out) (fun hHeld => ?_)
          clear hK K
          try simp only [Act.put, List.setIfInBounds_toArray, List.set_cons_zero, List.set_cons_succ]
          refine GoH.take 9 (some 56) (v := ?_) rfl rfl (by kernel_rfl) (by kernel_rfl) (by kernel_rfl) (fun _ _ _ h => h) (Or.inl ⟨by rfl, ?_⟩) (by assumption) ?_
          rotate_left
          · intro w' hSw
            try dsimp only at hSw
            go_simp
            try with_reducible rfl
          try simp only [Act.put, List.setIfInBounds_toArray, List.set_cons_zero, List.set_cons_succ]
          refine GoH.tail ?_
          refine GoT.take 10 (some 66) (v := ?_) rfl rfl (by kernel_rfl) (by kernel_rfl) (by kernel_rfl) (by kernel_rfl) (fun _ _ _ h => h) (Or.inl ⟨by rfl, ?_⟩) ?_
          rotate_left
          · intro w' hSw
            try dsimp only at hSw
            go_simp
            try with_reducible rfl
          try simp only [Act.put, List.setIfInBounds_toArray, List.set_cons_zero, List.set_cons_succ]
          refine GoT.take 11 (some 67) (v := ?_) rfl rfl (by kernel_rfl) (by kernel_rfl) (by kernel_rfl) (by kernel_rfl) (fun _ _ _ h => h) (Or.inl ⟨by rfl, ?_⟩) ?_
          rotate_left
          · intro w' hSw
            try dsimp only at hSw
            go_simp
            try with_reducible rfl
          try simp only [Act.put, List.setIfInBounds_toArray, List.set_cons_zero, List.set_cons_succ]
          refine GoT.last 12 (by kernel_rfl) (by kernel_rfl) (by kernel_rfl) rfl (fun K hK => ?_)
          obtain ⟨z0, z1, z2, z3, z4⟩ := (PGA.out.ext X3.out).cells
          obtain ⟨f0, f1, f2, f3, f4⟩ := (PGA.out.ext X3.out).frozen
          go_simp
          refine hK.out _ _ ?_
          clear hK K hHeld
          have hrun : s' = runP p es (max (i2 + 1) j) := by rw [HS'.out, HSS.out, runP_max HE.out]
          obtain ⟨w4, hw4, hst⟩ : ∃ w4, w4 = (((((w3.setCell ⟨sb, 0, none⟩ (.slice B0 (s'.1 0).length d0)).setCell ⟨sb, 1, none⟩ (.slice B1 (s'.1 1).length d1)).setCell ⟨sb, 2, none⟩ (.slice B2 (s'.1 2).length d2)).setCell ⟨sb, 3, none⟩ (.slice B3 (s'.1 3).length d3)).setCell ⟨sb, 4, none⟩ (.int .i64 s'.2)) ∧ St w wb sb (.slice (some ⟨g, 0, none⟩) m c8) p es m (max (i2 + 1) j) w4 := ⟨_, rfl, (St.turn ST.out.swap X3.out (Ne.symm HB.out.1) HB.out.2.2 hrun P3.out).swap⟩
          rw [← hw4]
          have ST4 := hide hst
          clear hw4 hst hrun z0 z1 z2 z3 z4 f0 f1 f2 f3 f4
          go_wp2_with (fail)
          go_roundw
          case rel => exact ⟨i2 + 1, by omega, by go_num, ST4.out⟩
          case measure => simp [intOf]; omega
        · have hi2m : i2 = m := by omega
          rw [hi2m, show max m j = m by omega] at ST
          have LEN := hide (runP_len (n := p) OKS.out m)
          obtain ⟨h1, h2, h3, h4⟩ := ST.out
          obtain ⟨A0, c0, A1, c1, A2, c2, A3, c3, hb, hpg⟩ := h1
          obtain ⟨B0, d0, B1, d1, B2, d2, B3, d3, hb', hpg'⟩ := h2
          obtain ⟨s, hs⟩ : ∃ s, s = runP p es m := ⟨_, rfl⟩
          rw [← hs] at hb hpg hb' hpg' LEN
          have PG := hide hpg
          have PG' := hide hpg'
          have X9 := hide h4
          obtain ⟨y0, y1, y2, y3, y4⟩ := hb.cells5
          obtain ⟨z0, z1, z2, z3, z4⟩ := hb'.cells5
          clear hs hpg hpg' hb hb' h3 h4 ST
          go_wp2_with (go_at_call 11; refine (samePage_any _ _ _ s.1 s.2 PG.out PG'.out (fun j _ => LEN.out j)).mono ?_; rintro e w9 ⟨rfl, hx9⟩; have X10 := hide hx9; clear hx9)
          go_ret
          exact ⟨rfl, X9.out.trans X10.out⟩
end Go.Proofs.Ytaagdjipjeindaa.redoAgain
