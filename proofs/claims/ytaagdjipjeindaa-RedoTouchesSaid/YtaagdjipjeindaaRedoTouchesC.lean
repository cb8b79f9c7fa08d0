/- RedoTouches: a cell of a page: an entry turns just the pages that it touches, and of these no cells but its own. -/
import Derived.Test.YtaagdjipjeindaaRedoQ
namespace Go.Proofs.Ytaagdjipjeindaa.redoTouches
open Go.ChangeShapes Go.WideShapes Go.ChangeAt Go.RowKit
set_option linter.unusedVariables false

/-! ### The plain law -/
/-- a cell is the entry's own -/
def ownP (p c : Int) (E : EntS) : Prop := (E.a0 = p ∧ E.a1 = c) ∨ (E.kind = 7 ∧ E.b0 = p ∧ E.b1 = c)
instance (p c : Int) (E : EntS) : Decidable (ownP p c E) := inferInstanceAs (Decidable (_ ∨ _))
theorem setP_other {f : Nat → List UInt8} {a0 a1 n : Int} {l : List UInt8} {c : Nat} (h : ¬ (a0 = n ∧ a1 = c)) : setP f a0 a1 n l c = f c := by
  unfold setP
  rw [if_neg]
  rintro ⟨⟨h1, _⟩, h2⟩
  exact h ⟨h1, h2.symm⟩
theorem step_other {p : Nat} {s : (Nat → List UInt8) × Int} {x c : Nat} {lsn : Int} (h : ¬ ownP p c (someE x) ∨ ¬ actsP s.2 p (someE x).kind (someE x).a0 (someE x).b0 lsn (someE x).mv) : (stepP p s (someE x) lsn).1 c = s.1 c := by
  unfold stepP
  split
  · rename_i ha
    have hn : ¬ ownP p c (someE x) := h.resolve_right (fun e => e ha)
    have h1 : ¬ ((someE x).a0 = p ∧ (someE x).a1 = c) := fun e => hn (.inl e)
    show paintF _ _ _ _ _ _ _ _ _ c = s.1 c
    unfold paintF
    split
    · exact setP_other h1
    · split
      · rename_i h7
        rw [setP_other (fun e => hn (.inr ⟨h7, e⟩)), setP_other h1]
      · split
        · exact setP_other h1
        · rfl
  · rfl
theorem _root_.Go.Proofs.Ytaagdjipjeindaa.pages_ent (w : World) (E : EntS) (AN : Option Addr) (cN : Nat) (AM : Option Addr) (cM : Nat) (h2 : w.ownsRow 0 54 4 (.slice AM E.mv.length cM) E.mv.length (mvs E.mv)) (hE : EntOk E) :
    Calls Try.prog 12 #[.agg #[.int .i64 E.kind, .int .i64 E.t, .int .i64 E.u, .int .i64 E.h, .int .i64 E.p, .int .i64 E.nx, .int .i64 E.a0, .int .i64 E.a1, .int .i64 E.b0, .int .i64 E.b1, .slice none 0 0, .slice AN E.NL.length cN, .slice AM E.mv.length cM, .slice none 0 0, .slice none 0 0, .slice none 0 0]] w (GivesN w (pagesOf (touchL E.kind E.a0 E.b0 E.mv))) := by
  have h := pages_any E.kind E.a0 E.a1 E.b0 E.b1 E.t E.u E.h E.p E.nx AN E.NL.length cN none 0 0 AM none none none cM 0 0 0 0 0 0 E.mv w (own_reads h2) hE.2
  simp only [env] at h
  exact h
theorem _root_.Go.Proofs.Ytaagdjipjeindaa.Pg.celli {w : World} {u0 u1 u2 u3 : Value} {F : Nat → List UInt8} {ls : Int} (h : Pg w (.agg #[u0, u1, u2, u3, .int .i64 ls]) F ls) {i : Nat} (hi : i < 4) :
    ∃ A c, (#[u0, u1, u2, u3, .int .i64 ls] : Array Value)[i]? = some (.slice A (F i).length c) ∧ BB w (.slice A (F i).length c) (F i) := by
  obtain ⟨_, _, _, _, e, h0, h1, h2, h3⟩ := h
  injection e with e
  simp only [Array.mk.injEq, List.cons.injEq, and_true] at e
  obtain ⟨rfl, rfl, rfl, rfl⟩ := e
  rcases (show i = 0 ∨ i = 1 ∨ i = 2 ∨ i = 3 by omega) with rfl | rfl | rfl | rfl
  · have k := h0
    obtain ⟨A, c, rfl, _⟩ := h0
    exact ⟨A, c, rfl, k⟩
  · have k := h1
    obtain ⟨A, c, rfl, _⟩ := h1
    exact ⟨A, c, rfl, k⟩
  · have k := h2
    obtain ⟨A, c, rfl, _⟩ := h2
    exact ⟨A, c, rfl, k⟩
  · have k := h3
    obtain ⟨A, c, rfl, _⟩ := h3
    exact ⟨A, c, rfl, k⟩
set_option maxRecDepth 1000000 in
set_option maxHeartbeats 8000000 in
theorem cell_blk (w : World) (E : EntS) (AN : Option Addr) (cN : Nat) (AM : Option Addr) (cM : Nat) (f F : Nat → List UInt8) (ls : Int) (A0 A1 A2 A3 B0 B1 B2 B3 : Option Addr) (c0 c1 c2 c3 d0 d1 d2 d3 eb pb qb p c : Nat) (b : Bool)
    (he : Blk w eb 31 #[.int .i64 E.kind, .int .i64 E.t, .int .i64 E.u, .int .i64 E.h, .int .i64 E.p, .int .i64 E.nx, .int .i64 E.a0, .int .i64 E.a1, .int .i64 E.b0, .int .i64 E.b1, .slice none 0 0, .slice AN E.NL.length cN, .slice AM E.mv.length cM, .slice none 0 0, .slice none 0 0, .slice none 0 0]) (hp : Blk w pb 35 #[.slice A0 (f 0).length c0, .slice A1 (f 1).length c1, .slice A2 (f 2).length c2, .slice A3 (f 3).length c3, .int .i64 5]) (hq : Blk w qb 35 #[.slice B0 (F 0).length d0, .slice B1 (F 1).length d1, .slice B2 (F 2).length d2, .slice B3 (F 3).length d3, .int .i64 ls]) (hf : Pg w (.agg #[.slice A0 (f 0).length c0, .slice A1 (f 1).length c1, .slice A2 (f 2).length c2, .slice A3 (f 3).length c3, .int .i64 5]) f 5) (hF : Pg w (.agg #[.slice B0 (F 0).length d0, .slice B1 (F 1).length d1, .slice B2 (F 2).length d2, .slice B3 (F 3).length d3, .int .i64 ls]) F ls) (hlt : c < 4) (hso : (¬ ownP p c E ∨ b = false) → F c = f c)
    (u0 u1 u2 u3 u4 u5 u6 u12 u13 u14 u16 u17 u18 u19 u20 u21 u22 u23 u24 u25 u26 u27 u28 u29 u30 u31 u32 u33 u34 u35 u36 u37 u38 u39 u40 u41 u42 u43 u44 u45 u46 u47 u48 u49 u50 u51 u52 u53 u54 u55 u56 u57 u58 u59 u60 u61 u62 u63 u64 u65 u66 u67 u68 u69 u70 u71 u72 u73 u74 u75 u76 u77 u78 u79 u80 u81 u82 u83 u84 u85 u86 u87 u88 u89 u90 u91 u92 u93 u94 u95 u96 u97 u98 u99 u100 u101 u102 u103 u104 u105 u106 u107 u108 u109 u110 u111 u112 u113 u114 u115 u116 u117 : Value) (KK : Act → World → Prop) (Q : Exit → Act → World → Prop)
    (hKK : ∀ (v16 v80 v81 v82 v83 v84 v85 v86 v87 v88 v89 v90 v91 v92 v93 v94 v95 v96 v97 v98 v99 v100 v101 v102 v103 v104 v105 v106 v107 v108 v109 v110 v111 v112 v113 v114 v115 v116 v117 : Value) (wx : World), Ext w wx → KK ⟨(u0 :: u1 :: u2 :: u3 :: u4 :: u5 :: u6 :: Value.pointer (some ⟨eb, 0, none⟩) :: Value.int .i64 (p : Int) :: Value.pointer (some ⟨pb, 0, none⟩) :: Value.pointer (some ⟨qb, 0, none⟩) :: Value.bool b :: u12 :: u13 :: u14 :: Value.int .i64 (c : Int) :: v16 :: u17 :: u18 :: u19 :: u20 :: u21 :: u22 :: u23 :: u24 :: u25 :: u26 :: u27 :: u28 :: u29 :: u30 :: u31 :: u32 :: u33 :: u34 :: u35 :: u36 :: u37 :: u38 :: u39 :: u40 :: u41 :: u42 :: u43 :: u44 :: u45 :: u46 :: u47 :: u48 :: u49 :: u50 :: u51 :: u52 :: u53 :: u54 :: u55 :: u56 :: u57 :: u58 :: u59 :: u60 :: u61 :: u62 :: u63 :: u64 :: u65 :: u66 :: u67 :: u68 :: u69 :: u70 :: u71 :: u72 :: u73 :: u74 :: u75 :: u76 :: u77 :: u78 :: u79 :: v80 :: v81 :: v82 :: v83 :: v84 :: v85 :: v86 :: v87 :: v88 :: v89 :: v90 :: v91 :: v92 :: v93 :: v94 :: v95 :: v96 :: v97 :: v98 :: v99 :: v100 :: v101 :: v102 :: v103 :: v104 :: v105 :: v106 :: v107 :: v108 :: v109 :: v110 :: v111 :: v112 :: v113 :: v114 :: v115 :: v116 :: v117 :: []).toArray, []⟩ wx) :
    Code.wp Try.prog (blockAt Try.f5 3) (Exit.then KK Q) ⟨(u0 :: u1 :: u2 :: u3 :: u4 :: u5 :: u6 :: Value.pointer (some ⟨eb, 0, none⟩) :: Value.int .i64 (p : Int) :: Value.pointer (some ⟨pb, 0, none⟩) :: Value.pointer (some ⟨qb, 0, none⟩) :: Value.bool b :: u12 :: u13 :: u14 :: Value.int .i64 (c : Int) :: u16 :: u17 :: u18 :: u19 :: u20 :: u21 :: u22 :: u23 :: u24 :: u25 :: u26 :: u27 :: u28 :: u29 :: u30 :: u31 :: u32 :: u33 :: u34 :: u35 :: u36 :: u37 :: u38 :: u39 :: u40 :: u41 :: u42 :: u43 :: u44 :: u45 :: u46 :: u47 :: u48 :: u49 :: u50 :: u51 :: u52 :: u53 :: u54 :: u55 :: u56 :: u57 :: u58 :: u59 :: u60 :: u61 :: u62 :: u63 :: u64 :: u65 :: u66 :: u67 :: u68 :: u69 :: u70 :: u71 :: u72 :: u73 :: u74 :: u75 :: u76 :: u77 :: u78 :: u79 :: u80 :: u81 :: u82 :: u83 :: u84 :: u85 :: u86 :: u87 :: u88 :: u89 :: u90 :: u91 :: u92 :: u93 :: u94 :: u95 :: u96 :: u97 :: u98 :: u99 :: u100 :: u101 :: u102 :: u103 :: u104 :: u105 :: u106 :: u107 :: u108 :: u109 :: u110 :: u111 :: u112 :: u113 :: u114 :: u115 :: u116 :: u117 :: []).toArray, []⟩ w := by
  have hc1 : (c : Int) < 4 := by omega
  have BE8 := hide he
  have BP8 := hide hp
  have BF8 := hide hq
  have P8 := hide hF
  have P8' := hide hf
  have HSO := hide hso
  clear he hp hq hF hf hso
  conv => arg 2; whnf
  obtain ⟨q0, q1, q2, q3, q4, q5, q6, q7, q8, q9, q10, q11, q12, q13, q14, q15⟩ := BE8.out.cells16
  go_upto_region 20 with (fail)
  go_cut [16] from 80 to 117 (fun s wx => s = .bool (decide (ownP (p : Int) (c : Int) E)) ∧ w = wx)
  case first =>
    go_wp2_with (fail)
    all_goals
      go_meet
      case rel =>
        refine ⟨congrArg Value.bool (Eq.symm ?_), by trivial⟩
        first
          | exact decide_eq_true (by unfold ownP; omega)
          | exact decide_eq_false (by unfold ownP; omega)
  case rest =>
    clear q0 q1 q2 q3 q4 q5 q6 q7 q8 q9 q10 q11 q12 q13 q14 q15
    obtain ⟨rfl, rfl⟩ := hcut
    obtain ⟨o, ho⟩ : ∃ o, o = decide (ownP (p : Int) (c : Int) E) := ⟨_, rfl⟩
    rw [← ho]
    have HO := hide ho
    clear ho
    by_cases hob : o = true ∧ b = true
    · obtain ⟨rfl, rfl⟩ := hob
      go_upto_region 21 with (fail)
      refine wp_region_noPanic ?_
      refine wp_region_F (S := (fun _ => True)) 18 (by kernel_rfl) (by kernel_rfl) (trivial) (fun hHeld => ?_)
      refine GoF.take 0 (some 99) (v := ?_) rfl rfl (by kernel_rfl) (by kernel_rfl) (by kernel_rfl) (fun _ _ _ h => h) (Or.inl ⟨by rfl, ?_⟩) (by assumption) ?_
      rotate_left
      · intro w' hSw
        try dsimp only at hSw
        go_simp
        try with_reducible rfl
      try simp only [Act.put, List.setIfInBounds_toArray, List.set_cons_zero, List.set_cons_succ]
      refine GoF.take 1 (some 100) (v := ?_) rfl rfl (by kernel_rfl) (by kernel_rfl) (by kernel_rfl) (fun _ _ _ h => h) (Or.inl ⟨by rfl, ?_⟩) (by assumption) ?_
      rotate_left
      · intro w' hSw
        try dsimp only at hSw
        go_simp
        try with_reducible rfl
      try simp only [Act.put, List.setIfInBounds_toArray, List.set_cons_zero, List.set_cons_succ]
      refine GoF.take 2 (some 101) (v := ?_) rfl rfl (by kernel_rfl) (by kernel_rfl) (by kernel_rfl) (fun _ _ _ h => h) (Or.inl ⟨by rfl, ?_⟩) (by assumption) ?_
      rotate_left
      · intro w' hSw
        try dsimp only at hSw
        go_simp
        try with_reducible rfl
      try simp only [Act.put, List.setIfInBounds_toArray, List.set_cons_zero, List.set_cons_succ]
      refine GoF.take 3 (some 102) (v := ?_) rfl rfl (by kernel_rfl) (by kernel_rfl) (by kernel_rfl) (fun _ _ _ h => h) (Or.inl ⟨by rfl, ?_⟩) (by assumption) ?_
      rotate_left
      · intro w' hSw
        try dsimp only at hSw
        go_simp
        try with_reducible rfl
      try simp only [Act.put, List.setIfInBounds_toArray, List.set_cons_zero, List.set_cons_succ]
      refine GoF.take 4 (some 103) (v := ?_) rfl rfl (by kernel_rfl) (by kernel_rfl) (by kernel_rfl) (fun _ _ _ h => h) (Or.inl ⟨by rfl, ?_⟩) (by assumption) ?_
      rotate_left
      · intro w' hSw
        try dsimp only at hSw
        go_simp
        try with_reducible rfl
      try simp only [Act.put, List.setIfInBounds_toArray, List.set_cons_zero, List.set_cons_succ]
      refine GoF.take 5 (some 104) (v := ?_) rfl rfl (by kernel_rfl) (by kernel_rfl) (by kernel_rfl) (fun _ _ _ h => h) (Or.inl ⟨by rfl, ?_⟩) (by assumption) ?_
      rotate_left
      · intro w' hSw
        try dsimp only at hSw
        go_simp
        try with_reducible rfl
      try simp only [Act.put, List.setIfInBounds_toArray, List.set_cons_zero, List.set_cons_succ]
      refine GoF.take 6 (some 105) (v := ?_) rfl rfl (by kernel_rfl) (by kernel_rfl) (by kernel_rfl) (fun _ _ _ h => h) (Or.inl ⟨by rfl, ?_⟩) (by assumption) ?_
      rotate_left
      · intro w' hSw
        try dsimp only at hSw
        go_simp
        try with_reducible rfl
      try simp only [Act.put, List.setIfInBounds_toArray, List.set_cons_zero, List.set_cons_succ]
      refine GoF.take 7 (some 106) (v := undef) rfl rfl (by kernel_rfl) (by kernel_rfl) (by kernel_rfl) (fun _ _ _ h => h) (Or.inr ⟨by rfl, rfl⟩) (by assumption) ?_
      try simp only [Act.put, List.setIfInBounds_toArray, List.set_cons_zero, List.set_cons_succ]
      refine GoF.take 8 (some 107) (v := undef) rfl rfl (by kernel_rfl) (by kernel_rfl) (by kernel_rfl) (fun _ _ _ h => h) (Or.inr ⟨by rfl, rfl⟩) (by assumption) ?_
      try simp only [Act.put, List.setIfInBounds_toArray, List.set_cons_zero, List.set_cons_succ]
      refine GoF.take 9 (some 108) (v := undef) rfl rfl (by kernel_rfl) (by kernel_rfl) (by kernel_rfl) (fun _ _ _ h => h) (Or.inr ⟨by rfl, rfl⟩) (by assumption) ?_
      try simp only [Act.put, List.setIfInBounds_toArray, List.set_cons_zero, List.set_cons_succ]
      refine GoF.take 10 (some 109) (v := undef) rfl rfl (by kernel_rfl) (by kernel_rfl) (by kernel_rfl) (fun _ _ _ h => h) (Or.inr ⟨by rfl, rfl⟩) (by assumption) ?_
      try simp only [Act.put, List.setIfInBounds_toArray, List.set_cons_zero, List.set_cons_succ]
      refine GoF.take 11 (some 110) (v := undef) rfl rfl (by kernel_rfl) (by kernel_rfl) (by kernel_rfl) (fun _ _ _ h => h) (Or.inr ⟨by rfl, rfl⟩) (by assumption) ?_
      try simp only [Act.put, List.setIfInBounds_toArray, List.set_cons_zero, List.set_cons_succ]
      refine GoF.take 12 (some 111) (v := undef) rfl rfl (by kernel_rfl) (by kernel_rfl) (by kernel_rfl) (fun _ _ _ h => h) (Or.inr ⟨by rfl, rfl⟩) (by assumption) ?_
      try simp only [Act.put, List.setIfInBounds_toArray, List.set_cons_zero, List.set_cons_succ]
      refine GoF.take 13 (some 112) (v := undef) rfl rfl (by kernel_rfl) (by kernel_rfl) (by kernel_rfl) (fun _ _ _ h => h) (Or.inr ⟨by rfl, rfl⟩) (by assumption) ?_
      try simp only [Act.put, List.setIfInBounds_toArray, List.set_cons_zero, List.set_cons_succ]
      refine GoF.take 14 (some 113) (v := undef) rfl rfl (by kernel_rfl) (by kernel_rfl) (by kernel_rfl) (fun _ _ _ h => h) (Or.inr ⟨by rfl, rfl⟩) (by assumption) ?_
      try simp only [Act.put, List.setIfInBounds_toArray, List.set_cons_zero, List.set_cons_succ]
      refine GoF.take 15 (some 114) (v := undef) rfl rfl (by kernel_rfl) (by kernel_rfl) (by kernel_rfl) (fun _ _ _ h => h) (Or.inr ⟨by rfl, rfl⟩) (by assumption) ?_
      try simp only [Act.put, List.setIfInBounds_toArray, List.set_cons_zero, List.set_cons_succ]
      refine GoF.take 16 (some 115) (v := undef) rfl rfl (by kernel_rfl) (by kernel_rfl) (by kernel_rfl) (fun _ _ _ h => h) (Or.inr ⟨by rfl, rfl⟩) (by assumption) ?_
      try simp only [Act.put, List.setIfInBounds_toArray, List.set_cons_zero, List.set_cons_succ]
      refine GoF.take 17 (some 116) (v := undef) rfl rfl (by kernel_rfl) (by kernel_rfl) (by kernel_rfl) (fun _ _ _ h => h) (Or.inr ⟨by rfl, rfl⟩) (by assumption) ?_
      try simp only [Act.put, List.setIfInBounds_toArray, List.set_cons_zero, List.set_cons_succ]
      refine GoF.last (by kernel_rfl) (by kernel_rfl) rfl (fun K hK => ?_)
      go_simp
      refine hK.out _ _ (NoPanic.normal ?_)
      clear hK K hHeld
      go_wp2_with (fail)
      exact (Ext.refl w).drew
    · have heq := HSO.out (by
        rcases o with _ | _
        · exact .inl (by have := HO.out; simpa using this)
        · exact .inr (by simpa using hob))
      obtain ⟨Q, d, eq_, bq⟩ := P8.out.celli hlt
      obtain ⟨P, g, ep_, bp⟩ := P8'.out.celli hlt
      rw [heq] at eq_ bq
      obtain ⟨lc, hlc⟩ : ∃ lc, lc = f c := ⟨_, rfl⟩
      rw [← hlc] at eq_ bq ep_ bp
      obtain ⟨nc, hnc⟩ : ∃ nc, nc = lc.length := ⟨_, rfl⟩
      rw [← hnc] at eq_ ep_
      have rq := bq.reads
      have rp := bp.reads
      rw [← hnc] at rq rp
      have HS := hide (show (fun w' => w'.cell? ⟨qb, c, none⟩ = some (.slice Q nc d) ∧ w'.cell? ⟨pb, c, none⟩ = some (.slice P nc g) ∧ (convert 22 9 (.slice Q nc d)).run Try.prog w' = .ok (.string ⟨lc.toArray⟩) w' ∧ (convert 22 9 (.slice P nc g)).run Try.prog w' = .ok (.string ⟨lc.toArray⟩) w') w.drew from ⟨(BF8.out.cell c).trans eq_, (BP8.out.cell c).trans ep_, run_string_of_reads 22 9 5 d Try.underlying22 Try.underlying5 Try.underlying9 rq.drew, run_string_of_reads 22 9 5 g Try.underlying22 Try.underlying5 Try.underlying9 rp.drew⟩)
      clear eq_ ep_ bq bp hlc hnc rq rp heq
      cases o
      · clear hob
        go_upto_region 21 with (fail)
        skip
        refine wp_region_noPanic ?_
        refine wp_region_F (S := (fun w' => w'.cell? ⟨qb, c, none⟩ = some (.slice Q nc d) ∧ w'.cell? ⟨pb, c, none⟩ = some (.slice P nc g) ∧ (convert 22 9 (.slice Q nc d)).run Try.prog w' = .ok (.string ⟨lc.toArray⟩) w' ∧ (convert 22 9 (.slice P nc g)).run Try.prog w' = .ok (.string ⟨lc.toArray⟩) w')) 18 (by kernel_rfl) (by kernel_rfl) (HS.out) (fun hHeld => ?_)
        refine GoF.take 0 (some 99) (v := ?_) rfl rfl (by kernel_rfl) (by kernel_rfl) (by kernel_rfl) (fun _ _ _ h => h) (Or.inl ⟨by rfl, ?_⟩) (by assumption) ?_
        rotate_left
        · intro w' hSw
          try dsimp only at hSw
          go_simp
          try with_reducible rfl
        try simp only [Act.put, List.setIfInBounds_toArray, List.set_cons_zero, List.set_cons_succ]
        refine GoF.take 1 (some 100) (v := ?_) rfl rfl (by kernel_rfl) (by kernel_rfl) (by kernel_rfl) (fun _ _ _ h => h) (Or.inl ⟨by rfl, ?_⟩) (by assumption) ?_
        rotate_left
        · intro w' hSw
          try dsimp only at hSw
          go_simp
          try with_reducible rfl
        try simp only [Act.put, List.setIfInBounds_toArray, List.set_cons_zero, List.set_cons_succ]
        refine GoF.take 2 (some 101) (v := ?_) rfl rfl (by kernel_rfl) (by kernel_rfl) (by kernel_rfl) (fun _ _ _ h => h) (Or.inl ⟨by rfl, ?_⟩) (by assumption) ?_
        rotate_left
        · intro w' hSw
          try dsimp only at hSw
          go_simp
          try with_reducible rfl
        try simp only [Act.put, List.setIfInBounds_toArray, List.set_cons_zero, List.set_cons_succ]
        refine GoF.take 3 (some 102) (v := undef) rfl rfl (by kernel_rfl) (by kernel_rfl) (by kernel_rfl) (fun _ _ _ h => h) (Or.inr ⟨by rfl, rfl⟩) (by assumption) ?_
        try simp only [Act.put, List.setIfInBounds_toArray, List.set_cons_zero, List.set_cons_succ]
        refine GoF.take 4 (some 103) (v := undef) rfl rfl (by kernel_rfl) (by kernel_rfl) (by kernel_rfl) (fun _ _ _ h => h) (Or.inr ⟨by rfl, rfl⟩) (by assumption) ?_
        try simp only [Act.put, List.setIfInBounds_toArray, List.set_cons_zero, List.set_cons_succ]
        refine GoF.take 5 (some 104) (v := ?_) rfl rfl (by kernel_rfl) (by kernel_rfl) (by kernel_rfl) (fun _ _ _ h => h) (Or.inl ⟨by rfl, ?_⟩) (by assumption) ?_
        rotate_left
        · intro w' hSw
          try dsimp only at hSw
          go_simp
          try with_reducible rfl
        try simp only [Act.put, List.setIfInBounds_toArray, List.set_cons_zero, List.set_cons_succ]
        refine GoF.take 6 (some 105) (v := ?_) rfl rfl (by kernel_rfl) (by kernel_rfl) (by kernel_rfl) (fun _ _ _ h => h) (Or.inl ⟨by rfl, ?_⟩) (by assumption) ?_
        rotate_left
        · intro w' hSw
          try dsimp only at hSw
          go_simp
          try with_reducible rfl
        try simp only [Act.put, List.setIfInBounds_toArray, List.set_cons_zero, List.set_cons_succ]
        refine GoF.take 7 (some 106) (v := ?_) rfl rfl (by kernel_rfl) (by kernel_rfl) (by kernel_rfl) (fun _ _ _ h => h) (Or.inl ⟨by rfl, ?_⟩) (by assumption) ?_
        rotate_left
        · intro w' hSw
          try dsimp only at hSw
          go_simp
          try with_reducible rfl
        try simp only [Act.put, List.setIfInBounds_toArray, List.set_cons_zero, List.set_cons_succ]
        refine GoF.take 8 (some 107) (v := ?_) rfl rfl (by kernel_rfl) (by kernel_rfl) (by kernel_rfl) (fun _ _ _ h => h) (Or.inl ⟨by rfl, ?_⟩) (by assumption) ?_
        rotate_left
        · intro w' hSw
          try dsimp only at hSw
          go_simp
          try with_reducible rfl
        try simp only [Act.put, List.setIfInBounds_toArray, List.set_cons_zero, List.set_cons_succ]
        refine GoF.take 9 (some 108) (v := ?_) rfl rfl (by kernel_rfl) (by kernel_rfl) (by kernel_rfl) (fun _ _ _ h => h) (Or.inl ⟨by rfl, ?_⟩) (by assumption) ?_
        rotate_left
        · intro w' hSw
          try dsimp only at hSw
          go_simp
          try with_reducible rfl
        try simp only [Act.put, List.setIfInBounds_toArray, List.set_cons_zero, List.set_cons_succ]
        refine GoF.take 10 (some 109) (v := ?_) rfl rfl (by kernel_rfl) (by kernel_rfl) (by kernel_rfl) (fun _ _ _ h => h) (Or.inl ⟨by rfl, ?_⟩) (by assumption) ?_
        rotate_left
        · intro w' hSw
          try dsimp only at hSw
          go_simp
          try with_reducible rfl
        try simp only [Act.put, List.setIfInBounds_toArray, List.set_cons_zero, List.set_cons_succ]
        refine GoF.take 11 (some 110) (v := ?_) rfl rfl (by kernel_rfl) (by kernel_rfl) (by kernel_rfl) (fun _ _ _ h => h) (Or.inl ⟨by rfl, ?_⟩) (by assumption) ?_
        rotate_left
        · intro w' hSw
          try dsimp only at hSw
          go_simp
          try with_reducible rfl
        try simp only [Act.put, List.setIfInBounds_toArray, List.set_cons_zero, List.set_cons_succ]
        refine GoF.take 12 (some 111) (v := ?_) rfl rfl (by kernel_rfl) (by kernel_rfl) (by kernel_rfl) (fun _ _ _ h => h) (Or.inl ⟨by rfl, ?_⟩) (by assumption) ?_
        rotate_left
        · intro w' hSw
          try dsimp only at hSw
          go_simp
          try with_reducible rfl
        try simp only [Act.put, List.setIfInBounds_toArray, List.set_cons_zero, List.set_cons_succ]
        refine GoF.take 13 (some 112) (v := ?_) rfl rfl (by kernel_rfl) (by kernel_rfl) (by kernel_rfl) (fun _ _ _ h => h) (Or.inl ⟨by rfl, ?_⟩) (by assumption) ?_
        rotate_left
        · intro w' hSw
          try dsimp only at hSw
          go_simp
          try with_reducible rfl
        try simp only [Act.put, List.setIfInBounds_toArray, List.set_cons_zero, List.set_cons_succ]
        refine GoF.take 14 (some 113) (v := ?_) rfl rfl (by kernel_rfl) (by kernel_rfl) (by kernel_rfl) (fun _ _ _ h => h) (Or.inl ⟨by rfl, ?_⟩) (by assumption) ?_
        rotate_left
        · intro w' hSw
          try dsimp only at hSw
          go_simp
          try with_reducible rfl
        try simp only [Act.put, List.setIfInBounds_toArray, List.set_cons_zero, List.set_cons_succ]
        refine GoF.take 15 (some 114) (v := ?_) rfl rfl (by kernel_rfl) (by kernel_rfl) (by kernel_rfl) (fun _ _ _ h => h) (Or.inl ⟨by rfl, ?_⟩) (by assumption) ?_
        rotate_left
        · intro w' hSw
          try dsimp only at hSw
          go_simp
          try with_reducible rfl
        try simp only [Act.put, List.setIfInBounds_toArray, List.set_cons_zero, List.set_cons_succ]
        refine GoF.take 16 (some 115) (v := ?_) rfl rfl (by kernel_rfl) (by kernel_rfl) (by kernel_rfl) (fun _ _ _ h => h) (Or.inl ⟨by rfl, ?_⟩) (by assumption) ?_
        rotate_left
        · intro w' hSw
          try dsimp only at hSw
          go_simp
          try with_reducible rfl
        try simp only [Act.put, List.setIfInBounds_toArray, List.set_cons_zero, List.set_cons_succ]
        refine GoF.take 17 (some 116) (v := ?_) rfl rfl (by kernel_rfl) (by kernel_rfl) (by kernel_rfl) (fun _ _ _ h => h) (Or.inl ⟨by rfl, ?_⟩) (by assumption) ?_
        rotate_left
        · intro w' hSw
          try dsimp only at hSw
          go_simp
          try with_reducible rfl
        try simp only [Act.put, List.setIfInBounds_toArray, List.set_cons_zero, List.set_cons_succ]
        refine GoF.last (by kernel_rfl) (by kernel_rfl) rfl (fun K hK => ?_)
        go_simp
        refine hK.out _ _ (NoPanic.normal ?_)
        clear hK K hHeld
        go_wp2_with (fail)
        exact (Ext.refl w).drew
      · have eb : b = false := by simpa using hob
        subst eb
        go_upto_region 21 with (fail)
        skip
        refine wp_region_noPanic ?_
        refine wp_region_F (S := (fun w' => w'.cell? ⟨qb, c, none⟩ = some (.slice Q nc d) ∧ w'.cell? ⟨pb, c, none⟩ = some (.slice P nc g) ∧ (convert 22 9 (.slice Q nc d)).run Try.prog w' = .ok (.string ⟨lc.toArray⟩) w' ∧ (convert 22 9 (.slice P nc g)).run Try.prog w' = .ok (.string ⟨lc.toArray⟩) w')) 18 (by kernel_rfl) (by kernel_rfl) (HS.out) (fun hHeld => ?_)
        refine GoF.take 0 (some 99) (v := ?_) rfl rfl (by kernel_rfl) (by kernel_rfl) (by kernel_rfl) (fun _ _ _ h => h) (Or.inl ⟨by rfl, ?_⟩) (by assumption) ?_
        rotate_left
        · intro w' hSw
          try dsimp only at hSw
          go_simp
          try with_reducible rfl
        try simp only [Act.put, List.setIfInBounds_toArray, List.set_cons_zero, List.set_cons_succ]
        refine GoF.take 1 (some 100) (v := ?_) rfl rfl (by kernel_rfl) (by kernel_rfl) (by kernel_rfl) (fun _ _ _ h => h) (Or.inl ⟨by rfl, ?_⟩) (by assumption) ?_
        rotate_left
        · intro w' hSw
          try dsimp only at hSw
          go_simp
          try with_reducible rfl
        try simp only [Act.put, List.setIfInBounds_toArray, List.set_cons_zero, List.set_cons_succ]
        refine GoF.take 2 (some 101) (v := ?_) rfl rfl (by kernel_rfl) (by kernel_rfl) (by kernel_rfl) (fun _ _ _ h => h) (Or.inl ⟨by rfl, ?_⟩) (by assumption) ?_
        rotate_left
        · intro w' hSw
          try dsimp only at hSw
          go_simp
          try with_reducible rfl
        try simp only [Act.put, List.setIfInBounds_toArray, List.set_cons_zero, List.set_cons_succ]
        refine GoF.take 3 (some 102) (v := ?_) rfl rfl (by kernel_rfl) (by kernel_rfl) (by kernel_rfl) (fun _ _ _ h => h) (Or.inl ⟨by rfl, ?_⟩) (by assumption) ?_
        rotate_left
        · intro w' hSw
          try dsimp only at hSw
          go_simp
          try with_reducible rfl
        try simp only [Act.put, List.setIfInBounds_toArray, List.set_cons_zero, List.set_cons_succ]
        refine GoF.take 4 (some 103) (v := ?_) rfl rfl (by kernel_rfl) (by kernel_rfl) (by kernel_rfl) (fun _ _ _ h => h) (Or.inl ⟨by rfl, ?_⟩) (by assumption) ?_
        rotate_left
        · intro w' hSw
          try dsimp only at hSw
          go_simp
          try with_reducible rfl
        try simp only [Act.put, List.setIfInBounds_toArray, List.set_cons_zero, List.set_cons_succ]
        refine GoF.take 5 (some 104) (v := ?_) rfl rfl (by kernel_rfl) (by kernel_rfl) (by kernel_rfl) (fun _ _ _ h => h) (Or.inl ⟨by rfl, ?_⟩) (by assumption) ?_
        rotate_left
        · intro w' hSw
          try dsimp only at hSw
          go_simp
          try with_reducible rfl
        try simp only [Act.put, List.setIfInBounds_toArray, List.set_cons_zero, List.set_cons_succ]
        refine GoF.take 6 (some 105) (v := ?_) rfl rfl (by kernel_rfl) (by kernel_rfl) (by kernel_rfl) (fun _ _ _ h => h) (Or.inl ⟨by rfl, ?_⟩) (by assumption) ?_
        rotate_left
        · intro w' hSw
          try dsimp only at hSw
          go_simp
          try with_reducible rfl
        try simp only [Act.put, List.setIfInBounds_toArray, List.set_cons_zero, List.set_cons_succ]
        refine GoF.take 7 (some 106) (v := ?_) rfl rfl (by kernel_rfl) (by kernel_rfl) (by kernel_rfl) (fun _ _ _ h => h) (Or.inl ⟨by rfl, ?_⟩) (by assumption) ?_
        rotate_left
        · intro w' hSw
          try dsimp only at hSw
          go_simp
          try with_reducible rfl
        try simp only [Act.put, List.setIfInBounds_toArray, List.set_cons_zero, List.set_cons_succ]
        refine GoF.take 8 (some 107) (v := ?_) rfl rfl (by kernel_rfl) (by kernel_rfl) (by kernel_rfl) (fun _ _ _ h => h) (Or.inl ⟨by rfl, ?_⟩) (by assumption) ?_
        rotate_left
        · intro w' hSw
          try dsimp only at hSw
          go_simp
          try with_reducible rfl
        try simp only [Act.put, List.setIfInBounds_toArray, List.set_cons_zero, List.set_cons_succ]
        refine GoF.take 9 (some 108) (v := ?_) rfl rfl (by kernel_rfl) (by kernel_rfl) (by kernel_rfl) (fun _ _ _ h => h) (Or.inl ⟨by rfl, ?_⟩) (by assumption) ?_
        rotate_left
        · intro w' hSw
          try dsimp only at hSw
          go_simp
          try with_reducible rfl
        try simp only [Act.put, List.setIfInBounds_toArray, List.set_cons_zero, List.set_cons_succ]
        refine GoF.take 10 (some 109) (v := ?_) rfl rfl (by kernel_rfl) (by kernel_rfl) (by kernel_rfl) (fun _ _ _ h => h) (Or.inl ⟨by rfl, ?_⟩) (by assumption) ?_
        rotate_left
        · intro w' hSw
          try dsimp only at hSw
          go_simp
          try with_reducible rfl
        try simp only [Act.put, List.setIfInBounds_toArray, List.set_cons_zero, List.set_cons_succ]
        refine GoF.take 11 (some 110) (v := ?_) rfl rfl (by kernel_rfl) (by kernel_rfl) (by kernel_rfl) (fun _ _ _ h => h) (Or.inl ⟨by rfl, ?_⟩) (by assumption) ?_
        rotate_left
        · intro w' hSw
          try dsimp only at hSw
          go_simp
          try with_reducible rfl
        try simp only [Act.put, List.setIfInBounds_toArray, List.set_cons_zero, List.set_cons_succ]
        refine GoF.take 12 (some 111) (v := ?_) rfl rfl (by kernel_rfl) (by kernel_rfl) (by kernel_rfl) (fun _ _ _ h => h) (Or.inl ⟨by rfl, ?_⟩) (by assumption) ?_
        rotate_left
        · intro w' hSw
          try dsimp only at hSw
          go_simp
          try with_reducible rfl
        try simp only [Act.put, List.setIfInBounds_toArray, List.set_cons_zero, List.set_cons_succ]
        refine GoF.take 13 (some 112) (v := ?_) rfl rfl (by kernel_rfl) (by kernel_rfl) (by kernel_rfl) (fun _ _ _ h => h) (Or.inl ⟨by rfl, ?_⟩) (by assumption) ?_
        rotate_left
        · intro w' hSw
          try dsimp only at hSw
          go_simp
          try with_reducible rfl
        try simp only [Act.put, List.setIfInBounds_toArray, List.set_cons_zero, List.set_cons_succ]
        refine GoF.take 14 (some 113) (v := ?_) rfl rfl (by kernel_rfl) (by kernel_rfl) (by kernel_rfl) (fun _ _ _ h => h) (Or.inl ⟨by rfl, ?_⟩) (by assumption) ?_
        rotate_left
        · intro w' hSw
          try dsimp only at hSw
          go_simp
          try with_reducible rfl
        try simp only [Act.put, List.setIfInBounds_toArray, List.set_cons_zero, List.set_cons_succ]
        refine GoF.take 15 (some 114) (v := ?_) rfl rfl (by kernel_rfl) (by kernel_rfl) (by kernel_rfl) (fun _ _ _ h => h) (Or.inl ⟨by rfl, ?_⟩) (by assumption) ?_
        rotate_left
        · intro w' hSw
          try dsimp only at hSw
          go_simp
          try with_reducible rfl
        try simp only [Act.put, List.setIfInBounds_toArray, List.set_cons_zero, List.set_cons_succ]
        refine GoF.take 16 (some 115) (v := ?_) rfl rfl (by kernel_rfl) (by kernel_rfl) (by kernel_rfl) (fun _ _ _ h => h) (Or.inl ⟨by rfl, ?_⟩) (by assumption) ?_
        rotate_left
        · intro w' hSw
          try dsimp only at hSw
          go_simp
          try with_reducible rfl
        try simp only [Act.put, List.setIfInBounds_toArray, List.set_cons_zero, List.set_cons_succ]
        refine GoF.take 17 (some 116) (v := ?_) rfl rfl (by kernel_rfl) (by kernel_rfl) (by kernel_rfl) (fun _ _ _ h => h) (Or.inl ⟨by rfl, ?_⟩) (by assumption) ?_
        rotate_left
        · intro w' hSw
          try dsimp only at hSw
          go_simp
          try with_reducible rfl
        try simp only [Act.put, List.setIfInBounds_toArray, List.set_cons_zero, List.set_cons_succ]
        refine GoF.last (by kernel_rfl) (by kernel_rfl) rfl (fun K hK => ?_)
        go_simp
        refine hK.out _ _ (NoPanic.normal ?_)
        clear hK K hHeld
        go_wp2_with (fail)
        exact (Ext.refl w).drew
end Go.Proofs.Ytaagdjipjeindaa.redoTouches
