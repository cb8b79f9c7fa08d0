/- Look: contracts: live. (Printed by mk_lookq.py.) -/
import Derived.Test.YtaijgnhkdbdfcaaLookP
namespace Go.Proofs.Ytaijgnhkdbdfcaa
open Go.ChangeShapes Go.WideShapes Go.ChangeAt Go.RowKit
set_option linter.unusedVariables false

theorem split_at {α : Type} {L : List α} {i : Nat} {x : α} (h : L[i]? = some x) : L = L.take i ++ (x :: L.drop (i + 1)) ∧ ∀ y, L.set i y = L.take i ++ (y :: L.drop (i + 1)) := by
  obtain ⟨hq, e⟩ := List.getElem?_eq_some_iff.1 h
  have e1 : L = L.take i ++ (x :: L.drop (i + 1)) := by rw [← e, List.getElem_cons_drop, List.take_append_drop]
  refine ⟨e1, fun y => ?_⟩
  have hl : (L.take i).length = i := by rw [List.length_take]; omega
  conv => lhs; rw [e1]
  rw [List.set_append_right _ _ (by omega), hl, Nat.sub_self]
  rfl
theorem lvs_set {L : List Lv} {i : Nat} {x : Lv} (h : L[i]? = some x) (y : Lv) (j : Nat) (u : Value) (hj : j < 4) (hy : (lvc x).set j u = lvc y) : (lvs L).set (i * 4 + j) u = lvs (L.set i y) := by
  obtain ⟨e1, e2⟩ := split_at h
  have hq : i < L.length := (List.getElem?_eq_some_iff.1 h).1
  have hl : (lvs (L.take i)).length = i * 4 := by rw [lvs_len, List.length_take]; omega
  have e3 : lvs L = lvs (L.take i) ++ (lvc x ++ lvs (L.drop (i + 1))) := by
    conv => lhs; rw [e1]
    simp [lvs]
  have e4 : lvs (L.set i y) = lvs (L.take i) ++ (lvc y ++ lvs (L.drop (i + 1))) := by
    rw [e2]
    simp [lvs]
  rw [e3, e4, List.set_append_right _ _ (by omega), hl, show i * 4 + j - i * 4 = j by omega, List.set_append_left _ _ (by simp [lvc]; omega), hy]
theorem findN_mem : ∀ (L : List Lv) (t : Int) (i : Nat), findN L t = (i, true) → ∃ x, L[i]? = some x ∧ x.t = t
  | [], t, i, h => by simp [findN] at h
  | x :: L, t, i, h => by
    unfold findN at h
    by_cases hx : x.t < t
    · rw [if_pos hx] at h
      obtain ⟨y, hy, hy2⟩ := findN_mem L t ((findN L t).1) (by injection h with h1 h2; rw [← h2])
      injection h with h1 h2
      exact ⟨y, by rw [← h1]; simpa using hy, hy2⟩
    · rw [if_neg hx] at h
      injection h with h1 h2
      subst h1
      exact ⟨x, rfl, by simpa using h2⟩
theorem findN_le : ∀ (L : List Lv) (t : Int), (findN L t).1 ≤ L.length
  | [], t => Nat.le_refl _
  | x :: L, t => by
    unfold findN
    split
    · have := findN_le L t; simp; omega
    · simp
/-- what an entry turns of one -/
def liveX (x : Lv) (kind nx lsn : Int) : Lv :=
  if kind = 1 then { x with l := lsn, n := lsn } else if kind = 2 then { x with l := lsn, n := nx } else if kind = 3 then { x with l := lsn, c := true } else { x with l := lsn }
def liveI (L : List Lv) (t : Int) : List Lv := if (findN L t).2 then L else putN L (findN L t).1 ⟨t, 0, 0, false⟩
/-- an entry of a transaction -/
def liveN (L : List Lv) (kind t nx lsn : Int) : List Lv := match (liveI L t)[(findN L t).1]? with
  | some x => (liveI L t).set (findN L t).1 (liveX x kind nx lsn)
  | none => liveI L t
theorem putN_at (L : List Lv) (i : Nat) (x : Lv) (h : i ≤ L.length) : (putN L i x)[i]? = some x := by
  unfold putN
  rw [List.getElem?_append_right (by rw [List.length_take]; omega), List.length_take, show i - min i L.length = 0 by omega]
  rfl
theorem putN_len (L : List Lv) (i : Nat) (x : Lv) (h : i ≤ L.length) : (putN L i x).length = L.length + 1 := by
  unfold putN
  simp only [List.length_append, List.length_take, List.length_cons, List.length_drop]
  omega
/-- a cell of one who lives is written -/
theorem SnAt.setL {w : World} {base : Nat} {s : Sn} {g cL : Nat} {AD AO : Option Addr} {cD cO : Nat} (h : SnAt w base s (some ⟨g, 0, none⟩) cL AD cD AO cO) (j : Nat) (u : Value) {L' : List Lv} (hL : (lvs s.L).set j u = lvs L') (hn : L'.length = s.L.length) {sb : Nat} {cs : Array Value} (hB : Blk w sb 37 cs) :
    SnAt (w.setCell ⟨g, j, none⟩ u) base { s with L := L' } (some ⟨g, 0, none⟩) cL AD cD AO cO ∧ Tch base sb w (w.setCell ⟨g, j, none⟩ u) ∧ Blk (w.setCell ⟨g, j, none⟩ u) sb 37 cs := by
  obtain ⟨os, ho, hos⟩ := h.o
  obtain ⟨cs', hB'⟩ := own_block h.l rfl
  have ht := touch_set w g j u
  have hst := (h.l.stored j u).1
  rw [hL] at hst
  have hT : Tch base sb w (w.setCell ⟨g, j, none⟩ u) := Tch.of ht hB' (own_ge h.l rfl) (.inl rfl)
  refine ⟨⟨?_, row_apart1 ht hB' h.d (by decide), os, row_apart1 ht hB' ho (by decide), hT.ous hos⟩, hT, hB.far (p := ⟨g, j, none⟩) (Blk.ne_ hB hB' (by decide)) u⟩
  rw [show ({ s with L := L' } : Sn).L.length = s.L.length from hn]
  exact hst
/-- what is seen, turned in place -/
def GivesLive (w : World) (base sb : Nat) (s : Sn) (e : Ending) (w' : World) : Prop := e = .returned (.tuple #[]) ∧ ∃ cs, Blk w' sb 37 cs.toArray ∧ SnIs w' base s cs ∧ Tch base sb w w'
/-- the row that Insert gives, and what else is seen -/
theorem SnAt.insL {w w1 : World} {base sb : Nat} {s : Sn} {AL AD AO : Option Addr} {cL cD cO : Nat} {L' : List Lv} {A' : Option Addr} {c' : Nat} (h : SnAt w base s AL cL AD cD AO cO) (ht : Touch w w1 (fun k => (Value.slice AL s.L.length cL).ownBlock = some k)) (ho' : w1.ownsRow base 49 4 (.slice A' L'.length c') L'.length (lvs L')) :
    SnAt w1 base { s with L := L' } A' c' AD cD AO cO ∧ Tch base sb w w1 := by
  obtain ⟨os, ho, hos⟩ := h.o
  have hT : Tch base sb w w1 := Tch.own ht h.l (.inl rfl)
  exact ⟨⟨ho', row_apart ht h.l h.d (by decide), os, row_apart ht h.l ho (by decide), hT.ous hos⟩, hT⟩
/-- the cell that holds a row is written -/
theorem SnAt.box {w : World} {base : Nat} {s : Sn} {AL AD AO : Option Addr} {cL cD cO : Nat} (h : SnAt w base s AL cL AD cD AO cO) {sb : Nat} {cs : Array Value} (hB : Blk w sb 37 cs) (hb : base ≤ sb) (j : Nat) (u : Value) :
    SnAt (w.setCell ⟨sb, j, none⟩ u) base s AL cL AD cD AO cO ∧ Tch base sb w (w.setCell ⟨sb, j, none⟩ u) ∧ Blk (w.setCell ⟨sb, j, none⟩ u) sb 37 (cs.setIfInBounds j u) :=
  ⟨touch_ne (touch_set w sb j u) hB h rfl, Tch.of (touch_set w sb j u) hB hb (.inr (.inr (.inr ⟨rfl, rfl⟩))), hB.set_ j u⟩
theorem own_lt {w : World} {b e m n c : Nat} {A : Option Addr} {xs : List Value} (h : w.ownsRow b e m (.slice A n c) n xs) : ∀ ad, A = some ad → ad.block < w.heap.size := by
  obtain ⟨_, _, e1, _, _, _, h1⟩ := own_form h
  injection e1 with a b c
  subst a
  exact fun ad h => (h1 ad h).2.2.2
theorem lvs_put' (L : List Lv) (i : Nat) (x : Lv) : lvs (putN L i x) = (lvs L).take (i * 4) ++ lvc x ++ (lvs L).drop (i * 4) := by
  rw [(lvs_take_drop L i).1, (lvs_take_drop L i).2]
  simp [putN, lvs]
/-- the end of it: the cells of one are written -/
theorem live_fin1 {w : World} {base : Nat} {s : Sn} {g cL : Nat} {AD AO : Option Addr} {cD cO : Nat} (h : SnAt w base s (some ⟨g, 0, none⟩) cL AD cD AO cO) {i : Nat} {x : Lv} (hx : s.L[i]? = some x) {sb : Nat} {cs : Array Value} (hB : Blk w sb 37 cs) (lsn : Int) :
    SnAt (w.setCell ⟨g, i * 4 + 1, none⟩ (.int .i64 lsn)) base { s with L := s.L.set i { x with l := lsn } } (some ⟨g, 0, none⟩) cL AD cD AO cO ∧ Tch base sb w (w.setCell ⟨g, i * 4 + 1, none⟩ (.int .i64 lsn)) ∧ Blk (w.setCell ⟨g, i * 4 + 1, none⟩ (.int .i64 lsn)) sb 37 cs :=
  h.setL _ _ (lvs_set hx { x with l := lsn } 1 _ (by omega) rfl) (by simp) hB
theorem live_fin2 {w : World} {base : Nat} {s : Sn} {g cL : Nat} {AD AO : Option Addr} {cD cO : Nat} (h : SnAt w base s (some ⟨g, 0, none⟩) cL AD cD AO cO) {i : Nat} {x : Lv} (hx : s.L[i]? = some x) {sb : Nat} {cs : Array Value} (hB : Blk w sb 37 cs) (lsn : Int) (j : Nat) (u : Value) (y : Lv) (hj : j < 4) (hy : (lvc { x with l := lsn }).set j u = lvc y) :
    SnAt ((w.setCell ⟨g, i * 4 + 1, none⟩ (.int .i64 lsn)).setCell ⟨g, i * 4 + j, none⟩ u) base { s with L := s.L.set i y } (some ⟨g, 0, none⟩) cL AD cD AO cO ∧ Tch base sb w ((w.setCell ⟨g, i * 4 + 1, none⟩ (.int .i64 lsn)).setCell ⟨g, i * 4 + j, none⟩ u) ∧ Blk ((w.setCell ⟨g, i * 4 + 1, none⟩ (.int .i64 lsn)).setCell ⟨g, i * 4 + j, none⟩ u) sb 37 cs := by
  obtain ⟨h1, h2, h3⟩ := live_fin1 h hx hB lsn
  have hi : i < s.L.length := (List.getElem?_eq_some_iff.1 hx).1
  have hx2 : (s.L.set i { x with l := lsn })[i]? = some { x with l := lsn } := List.getElem?_set_self hi
  obtain ⟨k1, k2, k3⟩ := h1.setL (i * 4 + j) u (lvs_set hx2 y j u hj hy) (by simp) h3
  rw [List.set_set] at k1
  exact ⟨k1, h2.trans k2, k3⟩
theorem gives_live {w w2 w' : World} {base sb : Nat} {s : Sn} {L : List Lv} {AL : Option Addr} {cL : Nat} {AD : Option Addr} {cD : Nat} {AO : Option Addr} {cO nl nd no : Nat} {u h : Int} (ht : Tch base sb w w2) (hn : nl = L.length) (hd : nd = s.D.length) (ho : no = s.O.length) (hu : u = s.u) (hh : h = s.h)
    (hf : SnAt w' base { s with L := L } AL cL AD cD AO cO ∧ Tch base sb w2 w' ∧ Blk w' sb 37 #[.slice AL nl cL, .slice AD nd cD, .slice AO no cO, .int .i64 u, .int .i64 h]) {e : Ending} (he : e = .returned (.tuple #[])) : GivesLive w base sb { s with L := L } e w' := by
  subst hn hd ho hu hh
  exact ⟨he, _, hf.2.2, ⟨AL, cL, AD, cD, AO, cO, rfl, hf.1⟩, ht.trans hf.2.1⟩
set_option maxRecDepth 100000 in
set_option maxHeartbeats 8000000 in
theorem live_old (w : World) (base sb : Nat) (s : Sn) (AL : Option Addr) (cL : Nat) (AD : Option Addr) (cD : Nat) (AO : Option Addr) (cO nl nd no i : Nat) (x : Lv) (kind t u h p nx a0 a1 b0 b1 lsn : Int)
    (P0 : Option Addr) (n0 c0 : Nat) (P1 : Option Addr) (n1 c1 : Nat) (P2 : Option Addr) (n2 c2 : Nat) (P3 : Option Addr) (n3 c3 : Nat) (P4 : Option Addr) (n4 c4 : Nat) (P5 : Option Addr) (n5 c5 : Nat)
    (hB : Blk w sb 37 #[.slice AL nl cL, .slice AD nd cD, .slice AO no cO, .int .i64 s.u, .int .i64 s.h]) (hS : SnAt w base s AL cL AD cD AO cO) (hnl : nl = s.L.length) (hnd : nd = s.D.length) (hno : no = s.O.length) (hb : base ≤ sb) (hl : s.L.length ≤ 900)
    (hf : findN s.L t = (i, true)) (hx : (liveI s.L t)[i]? = some x) :
    Calls Try.prog 22 #[.pointer (some ⟨sb, 0, none⟩), .agg #[.int .i64 kind, .int .i64 t, .int .i64 u, .int .i64 h, .int .i64 p, .int .i64 nx, .int .i64 a0, .int .i64 a1, .int .i64 b0, .int .i64 b1, .slice P0 n0 c0, .slice P1 n1 c1, .slice P2 n2 c2, .slice P3 n3 c3, .slice P4 n4 c4, .slice P5 n5 c5], .int .i64 lsn] w
      (GivesLive w base sb { s with L := (liveI s.L t).set i (liveX x kind nx lsn) }) := by
  have HS := hide hS
  have B0 := hide hB
  have NL := hide hnl
  have ND := hide hnd
  have NO := hide hno
  have HF := hide hf
  have HX := hide hx
  have HL := hide hl
  have HB := hide hb
  have hile := findN_le s.L t
  rw [hf] at hile
  have hil : i ≤ nl := by rw [hnl]; exact hile
  have hnl9 : nl ≤ 900 := by omega
  clear hS hB hnl hnd hno hf hx hl hb hile
  obtain ⟨su, hsu⟩ : ∃ su, su = s.u := ⟨_, rfl⟩
  obtain ⟨sh, hsh⟩ : ∃ sh, sh = s.h := ⟨_, rfl⟩
  have B0 : Hid (Blk w sb 37 #[.slice AL nl cL, .slice AD nd cD, .slice AO no cO, .int .i64 su, .int .i64 sh]) := by rw [hsu, hsh]; exact B0.out
  have HSU := hide hsu
  have HSH := hide hsh
  clear hsu hsh
  go_enter Try.func22, Try.ntmps22
  go_upto_region 1 with (fail)
  obtain ⟨w1, hw1⟩ : ∃ w1, w1 = w.alloc (.cells #[.int .i64 kind, .int .i64 t, .int .i64 u, .int .i64 h, .int .i64 p, .int .i64 nx, .int .i64 a0, .int .i64 a1, .int .i64 b0, .int .i64 b1, .slice P0 n0 c0, .slice P1 n1 c1, .slice P2 n2 c2, .slice P3 n3 c3, .slice P4 n4 c4, .slice P5 n5 c5] 35) := ⟨_, rfl⟩
  rw [← hw1]
  obtain ⟨eb, heb⟩ : ∃ eb, eb = w.heap.size := ⟨_, rfl⟩
  rw [← heb]
  have X1 := hide (show Ext w w1 by rw [hw1]; exact (Ext.new w _))
  have E1 := hide (show Blk w1 eb 35 #[.int .i64 kind, .int .i64 t, .int .i64 u, .int .i64 h, .int .i64 p, .int .i64 nx, .int .i64 a0, .int .i64 a1, .int .i64 b0, .int .i64 b1, .slice P0 n0 c0, .slice P1 n1 c1, .slice P2 n2 c2, .slice P3 n3 c3, .slice P4 n4 c4, .slice P5 n5 c5] by rw [hw1, heb]; exact (Blk.new w 35 _))
  have B1 := hide (X1.out.blk B0.out)
  have HEB := hide heb
  clear hw1 heb
  have g0 := B1.out.cell 0
  have g1 := E1.out.cell 1
  simp only [List.getElem?_toArray, List.getElem?_cons_zero, List.getElem?_cons_succ] at g0 g1
  refine wp_region_F (S := (fun w' => w'.cell? ⟨sb, 0, none⟩ = some (.slice AL nl cL) ∧ w'.cell? ⟨eb, 1, none⟩ = some (.int .i64 t))) 11 (by kernel_rfl) (by kernel_rfl) ⟨g0, g1⟩ (fun hHeld => ?_)
  refine GoF.take 0 (some 10) (v := ?_) rfl rfl (by kernel_rfl) (by kernel_rfl) (by kernel_rfl) (fun _ _ _ h => h) (Or.inl ⟨by rfl, ?_⟩) (by assumption) ?_
  rotate_left
  · intro w' hSw
    try dsimp only at hSw
    go_simp
    try with_reducible rfl
  try simp only [Act.put, List.setIfInBounds_toArray, List.set_cons_zero, List.set_cons_succ]
  refine GoF.take 1 (some 11) (v := ?_) rfl rfl (by kernel_rfl) (by kernel_rfl) (by kernel_rfl) (fun _ _ _ h => h) (Or.inl ⟨by rfl, ?_⟩) (by assumption) ?_
  rotate_left
  · intro w' hSw
    try dsimp only at hSw
    go_simp
    try with_reducible rfl
  try simp only [Act.put, List.setIfInBounds_toArray, List.set_cons_zero, List.set_cons_succ]
  refine GoF.take 2 (some 12) (v := ?_) rfl rfl (by kernel_rfl) (by kernel_rfl) (by kernel_rfl) (fun _ _ _ h => h) (Or.inl ⟨by rfl, ?_⟩) (by assumption) ?_
  rotate_left
  · intro w' hSw
    try dsimp only at hSw
    go_simp
    try with_reducible rfl
  try simp only [Act.put, List.setIfInBounds_toArray, List.set_cons_zero, List.set_cons_succ]
  refine GoF.take 3 (some 13) (v := ?_) rfl rfl (by kernel_rfl) (by kernel_rfl) (by kernel_rfl) (fun _ _ _ h => h) (Or.inl ⟨by rfl, ?_⟩) (by assumption) ?_
  rotate_left
  · intro w' hSw
    try dsimp only at hSw
    go_simp
    try with_reducible rfl
  try simp only [Act.put, List.setIfInBounds_toArray, List.set_cons_zero, List.set_cons_succ]
  refine GoF.take 4 (some 14) (v := ?_) rfl rfl (by kernel_rfl) (by kernel_rfl) (by kernel_rfl) (fun _ _ _ h => h) (Or.inl ⟨by rfl, ?_⟩) (by assumption) ?_
  rotate_left
  · intro w' hSw
    try dsimp only at hSw
    go_simp
    try with_reducible rfl
  try simp only [Act.put, List.setIfInBounds_toArray, List.set_cons_zero, List.set_cons_succ]
  refine GoF.take 5 (some 15) (v := ?_) rfl rfl (by kernel_rfl) (by kernel_rfl) (by kernel_rfl) (fun _ _ _ h => h) (Or.inl ⟨by rfl, ?_⟩) (by assumption) ?_
  rotate_left
  · intro w' hSw
    try dsimp only at hSw
    go_simp
    try with_reducible rfl
  try simp only [Act.put, List.setIfInBounds_toArray, List.set_cons_zero, List.set_cons_succ]
  refine GoF.each (rs := [6]) (by kernel_rfl) (by kernel_rfl) (by kernel_rfl) ?_
  refine EachF.cons (i := 6) rfl (fun K hK => ?_) EachF.nil
  go_simp
  refine (find_any _ AL cL nl _ s.L t (own_reads (X1.out.drew.own (by rw [NL.out]; exact HS.out.l) : w1.drew.ownsRow base 49 4 (.slice AL nl cL) nl (lvs s.L))) NL.out (by omega)).mono ?_
  rintro e w2 ⟨he0, he⟩
  rw [HF.out] at he0
  subst he0
  have X2 := hide (X1.out.drew.trans he)
  have B2 := hide (Ext.blk he B1.out.drew)
  have E2 := hide (Ext.blk he E1.out.drew)
  refine hK.out _ _ ⟨(B2.out.cell 0).trans rfl, (E2.out.cell 1).trans rfl⟩ (fun hHeld => ?_)
  clear hK K he
  refine GoF.take 7 (some 9) (v := ?_) rfl rfl (by kernel_rfl) (by kernel_rfl) (by kernel_rfl) (fun _ _ _ h => h) (Or.inl ⟨by rfl, ?_⟩) (by assumption) ?_
  rotate_left
  · intro w' hSw
    try dsimp only at hSw
    go_simp
    try with_reducible rfl
  try simp only [Act.put, List.setIfInBounds_toArray, List.set_cons_zero, List.set_cons_succ]
  refine GoF.take 8 (some 17) (v := ?_) rfl rfl (by kernel_rfl) (by kernel_rfl) (by kernel_rfl) (fun _ _ _ h => h) (Or.inl ⟨by rfl, ?_⟩) (by assumption) ?_
  rotate_left
  · intro w' hSw
    try dsimp only at hSw
    go_simp
    try with_reducible rfl
  try simp only [Act.put, List.setIfInBounds_toArray, List.set_cons_zero, List.set_cons_succ]
  refine GoF.take 9 (some 18) (v := ?_) rfl rfl (by kernel_rfl) (by kernel_rfl) (by kernel_rfl) (fun _ _ _ h => h) (Or.inl ⟨by rfl, ?_⟩) (by assumption) ?_
  rotate_left
  · intro w' hSw
    try dsimp only at hSw
    go_simp
    try with_reducible rfl
  try simp only [Act.put, List.setIfInBounds_toArray, List.set_cons_zero, List.set_cons_succ]
  refine GoF.take 10 (some 6) (v := ?_) rfl rfl (by kernel_rfl) (by kernel_rfl) (by kernel_rfl) (fun _ _ _ h => h) (Or.inl ⟨by rfl, ?_⟩) (by assumption) ?_
  rotate_left
  · intro w' hSw
    try dsimp only at hSw
    go_simp
    try with_reducible rfl
  try simp only [Act.put, List.setIfInBounds_toArray, List.set_cons_zero, List.set_cons_succ]
  refine GoF.last (by kernel_rfl) (by kernel_rfl) rfl (fun K hK => ?_)
  go_simp
  refine hK.out _ _ ?_
  clear hK K hHeld g0 g1
  have SA := hide (HS.out.ext X2.out)
  have hLI := hide (show liveI s.L t = s.L by unfold liveI; rw [HF.out]; rfl)
  have HX2 := hide (show s.L[i]? = some x by rw [← hLI.out]; exact HX.out)
  have hi : i < nl := by rw [NL.out]; exact (List.getElem?_eq_some_iff.1 HX2.out).1
  obtain ⟨g, rfl⟩ : ∃ g, AL = some ⟨g, 0, none⟩ := by
    obtain ⟨g, cp, hv', _, _⟩ := SA.out.l.form (by rw [← NL.out]; omega)
    injection hv' with hv1 _ _
    exact ⟨g, hv1⟩
  have T2 := hide (show Tch base sb w w2 from Tch.ext X2.out)
  have ML := hide (show nl = s.L.length from NL.out)
  have OA := hide (show w2.ownsRow base 49 4 (.slice (some ⟨g, 0, none⟩) nl cL) nl (lvs s.L) by rw [NL.out]; exact SA.out.l)
  obtain ⟨cs, hBg⟩ := own_block OA.out rfl
  have heg := Blk.ne_ E2.out hBg (by decide)
  have hge := Ne.symm heg
  have hsg := Blk.ne_ B2.out hBg (by decide)
  have hgs := Ne.symm hsg
  have q0 : w2.cell? ⟨sb, 0, none⟩ = some (.slice (some ⟨g, 0, none⟩) nl cL) := (B2.out.cell 0).trans rfl
  have e0 : w2.cell? ⟨eb, 0, none⟩ = some (.int .i64 kind) := (E2.out.cell 0).trans rfl
  have e5 : w2.cell? ⟨eb, 5, none⟩ = some (.int .i64 nx) := (E2.out.cell 5).trans rfl
  have x1 : w2.cell? ⟨g, i * 4 + 1, none⟩ = some (.int .i64 x.l) := by rw [OA.out.cellAt _ (by omega)]; exact (lvs_at HX2.out).2.1
  have x2 : w2.cell? ⟨g, i * 4 + 2, none⟩ = some (.int .i64 x.n) := by rw [OA.out.cellAt _ (by omega)]; exact (lvs_at HX2.out).2.2.1
  have x3 : w2.cell? ⟨g, i * 4 + 3, none⟩ = some (.bool x.c) := by rw [OA.out.cellAt _ (by omega)]; exact (lvs_at HX2.out).2.2.2
  have y1 := OA.out.frozenAt (i * 4 + 1)
  have y2 := OA.out.frozenAt (i * 4 + 2)
  have y3 := OA.out.frozenAt (i * 4 + 3)
  clear hBg
  by_cases k1 : kind = 1
  · subst k1
    go_wp2_with (fail)
    go_end0
    rw [hLI.out]
    exact gives_live T2.out (by rw [List.length_set]; exact ML.out) ND.out NO.out HSU.out HSH.out (live_fin2 SA.out HX2.out B2.out lsn 2 _ (liveX x 1 nx lsn) (by omega) rfl) rfl
  · have d1 : (kind == 1) = false := by simpa using k1
    by_cases k2 : kind = 2
    · subst k2
      go_wp2_with (fail)
      go_end0
      rw [hLI.out]
      exact gives_live T2.out (by rw [List.length_set]; exact ML.out) ND.out NO.out HSU.out HSH.out (live_fin2 SA.out HX2.out B2.out lsn 2 _ (liveX x 2 nx lsn) (by omega) rfl) rfl
    · have d2 : (kind == 2) = false := by simpa using k2
      by_cases k3 : kind = 3
      · subst k3
        go_wp2_with (fail)
        go_end0
        rw [hLI.out]
        exact gives_live T2.out (by rw [List.length_set]; exact ML.out) ND.out NO.out HSU.out HSH.out (live_fin2 SA.out HX2.out B2.out lsn 3 _ (liveX x 3 nx lsn) (by omega) rfl) rfl
      · have d3 : (kind == 3) = false := by simpa using k3
        have HK := hide (show liveX x kind nx lsn = { x with l := lsn } by unfold liveX; rw [if_neg k1, if_neg k2, if_neg k3])
        go_wp2_with (fail)
        go_end0
        rw [hLI.out, HK.out]
        exact gives_live T2.out (by rw [List.length_set]; exact ML.out) ND.out NO.out HSU.out HSH.out (live_fin1 SA.out HX2.out B2.out lsn) rfl
set_option maxRecDepth 100000 in
set_option maxHeartbeats 8000000 in
theorem live_new (w : World) (base sb : Nat) (s : Sn) (AL : Option Addr) (cL : Nat) (AD : Option Addr) (cD : Nat) (AO : Option Addr) (cO nl nd no i : Nat) (x : Lv) (kind t u h p nx a0 a1 b0 b1 lsn : Int)
    (P0 : Option Addr) (n0 c0 : Nat) (P1 : Option Addr) (n1 c1 : Nat) (P2 : Option Addr) (n2 c2 : Nat) (P3 : Option Addr) (n3 c3 : Nat) (P4 : Option Addr) (n4 c4 : Nat) (P5 : Option Addr) (n5 c5 : Nat)
    (hB : Blk w sb 37 #[.slice AL nl cL, .slice AD nd cD, .slice AO no cO, .int .i64 s.u, .int .i64 s.h]) (hS : SnAt w base s AL cL AD cD AO cO) (hnl : nl = s.L.length) (hnd : nd = s.D.length) (hno : no = s.O.length) (hb : base ≤ sb) (hl : s.L.length ≤ 900)
    (hf : findN s.L t = (i, false)) (hx : (liveI s.L t)[i]? = some x) :
    Calls Try.prog 22 #[.pointer (some ⟨sb, 0, none⟩), .agg #[.int .i64 kind, .int .i64 t, .int .i64 u, .int .i64 h, .int .i64 p, .int .i64 nx, .int .i64 a0, .int .i64 a1, .int .i64 b0, .int .i64 b1, .slice P0 n0 c0, .slice P1 n1 c1, .slice P2 n2 c2, .slice P3 n3 c3, .slice P4 n4 c4, .slice P5 n5 c5], .int .i64 lsn] w
      (GivesLive w base sb { s with L := (liveI s.L t).set i (liveX x kind nx lsn) }) := by
  have HS := hide hS
  have B0 := hide hB
  have NL := hide hnl
  have ND := hide hnd
  have NO := hide hno
  have HF := hide hf
  have HX := hide hx
  have HL := hide hl
  have HB := hide hb
  have hile := findN_le s.L t
  rw [hf] at hile
  have hil : i ≤ nl := by rw [hnl]; exact hile
  have hnl9 : nl ≤ 900 := by omega
  clear hS hB hnl hnd hno hf hx hl hb hile
  obtain ⟨su, hsu⟩ : ∃ su, su = s.u := ⟨_, rfl⟩
  obtain ⟨sh, hsh⟩ : ∃ sh, sh = s.h := ⟨_, rfl⟩
  have B0 : Hid (Blk w sb 37 #[.slice AL nl cL, .slice AD nd cD, .slice AO no cO, .int .i64 su, .int .i64 sh]) := by rw [hsu, hsh]; exact B0.out
  have HSU := hide hsu
  have HSH := hide hsh
  clear hsu hsh
  go_enter Try.func22, Try.ntmps22
  go_upto_region 1 with (fail)
  obtain ⟨w1, hw1⟩ : ∃ w1, w1 = w.alloc (.cells #[.int .i64 kind, .int .i64 t, .int .i64 u, .int .i64 h, .int .i64 p, .int .i64 nx, .int .i64 a0, .int .i64 a1, .int .i64 b0, .int .i64 b1, .slice P0 n0 c0, .slice P1 n1 c1, .slice P2 n2 c2, .slice P3 n3 c3, .slice P4 n4 c4, .slice P5 n5 c5] 35) := ⟨_, rfl⟩
  rw [← hw1]
  obtain ⟨eb, heb⟩ : ∃ eb, eb = w.heap.size := ⟨_, rfl⟩
  rw [← heb]
  have X1 := hide (show Ext w w1 by rw [hw1]; exact (Ext.new w _))
  have E1 := hide (show Blk w1 eb 35 #[.int .i64 kind, .int .i64 t, .int .i64 u, .int .i64 h, .int .i64 p, .int .i64 nx, .int .i64 a0, .int .i64 a1, .int .i64 b0, .int .i64 b1, .slice P0 n0 c0, .slice P1 n1 c1, .slice P2 n2 c2, .slice P3 n3 c3, .slice P4 n4 c4, .slice P5 n5 c5] by rw [hw1, heb]; exact (Blk.new w 35 _))
  have B1 := hide (X1.out.blk B0.out)
  have HEB := hide heb
  clear hw1 heb
  have g0 := B1.out.cell 0
  have g1 := E1.out.cell 1
  simp only [List.getElem?_toArray, List.getElem?_cons_zero, List.getElem?_cons_succ] at g0 g1
  refine wp_region_F (S := (fun w' => w'.cell? ⟨sb, 0, none⟩ = some (.slice AL nl cL) ∧ w'.cell? ⟨eb, 1, none⟩ = some (.int .i64 t))) 11 (by kernel_rfl) (by kernel_rfl) ⟨g0, g1⟩ (fun hHeld => ?_)
  refine GoF.take 0 (some 10) (v := ?_) rfl rfl (by kernel_rfl) (by kernel_rfl) (by kernel_rfl) (fun _ _ _ h => h) (Or.inl ⟨by rfl, ?_⟩) (by assumption) ?_
  rotate_left
  · intro w' hSw
    try dsimp only at hSw
    go_simp
    try with_reducible rfl
  try simp only [Act.put, List.setIfInBounds_toArray, List.set_cons_zero, List.set_cons_succ]
  refine GoF.take 1 (some 11) (v := ?_) rfl rfl (by kernel_rfl) (by kernel_rfl) (by kernel_rfl) (fun _ _ _ h => h) (Or.inl ⟨by rfl, ?_⟩) (by assumption) ?_
  rotate_left
  · intro w' hSw
    try dsimp only at hSw
    go_simp
    try with_reducible rfl
  try simp only [Act.put, List.setIfInBounds_toArray, List.set_cons_zero, List.set_cons_succ]
  refine GoF.take 2 (some 12) (v := ?_) rfl rfl (by kernel_rfl) (by kernel_rfl) (by kernel_rfl) (fun _ _ _ h => h) (Or.inl ⟨by rfl, ?_⟩) (by assumption) ?_
  rotate_left
  · intro w' hSw
    try dsimp only at hSw
    go_simp
    try with_reducible rfl
  try simp only [Act.put, List.setIfInBounds_toArray, List.set_cons_zero, List.set_cons_succ]
  refine GoF.take 3 (some 13) (v := ?_) rfl rfl (by kernel_rfl) (by kernel_rfl) (by kernel_rfl) (fun _ _ _ h => h) (Or.inl ⟨by rfl, ?_⟩) (by assumption) ?_
  rotate_left
  · intro w' hSw
    try dsimp only at hSw
    go_simp
    try with_reducible rfl
  try simp only [Act.put, List.setIfInBounds_toArray, List.set_cons_zero, List.set_cons_succ]
  refine GoF.take 4 (some 14) (v := ?_) rfl rfl (by kernel_rfl) (by kernel_rfl) (by kernel_rfl) (fun _ _ _ h => h) (Or.inl ⟨by rfl, ?_⟩) (by assumption) ?_
  rotate_left
  · intro w' hSw
    try dsimp only at hSw
    go_simp
    try with_reducible rfl
  try simp only [Act.put, List.setIfInBounds_toArray, List.set_cons_zero, List.set_cons_succ]
  refine GoF.take 5 (some 15) (v := ?_) rfl rfl (by kernel_rfl) (by kernel_rfl) (by kernel_rfl) (fun _ _ _ h => h) (Or.inl ⟨by rfl, ?_⟩) (by assumption) ?_
  rotate_left
  · intro w' hSw
    try dsimp only at hSw
    go_simp
    try with_reducible rfl
  try simp only [Act.put, List.setIfInBounds_toArray, List.set_cons_zero, List.set_cons_succ]
  refine GoF.each (rs := [6]) (by kernel_rfl) (by kernel_rfl) (by kernel_rfl) ?_
  refine EachF.cons (i := 6) rfl (fun K hK => ?_) EachF.nil
  go_simp
  refine (find_any _ AL cL nl _ s.L t (own_reads (X1.out.drew.own (by rw [NL.out]; exact HS.out.l) : w1.drew.ownsRow base 49 4 (.slice AL nl cL) nl (lvs s.L))) NL.out (by omega)).mono ?_
  rintro e w2 ⟨he0, he⟩
  rw [HF.out] at he0
  subst he0
  have X2 := hide (X1.out.drew.trans he)
  have B2 := hide (Ext.blk he B1.out.drew)
  have E2 := hide (Ext.blk he E1.out.drew)
  refine hK.out _ _ ⟨(B2.out.cell 0).trans rfl, (E2.out.cell 1).trans rfl⟩ (fun hHeld => ?_)
  clear hK K he
  refine GoF.take 7 (some 9) (v := ?_) rfl rfl (by kernel_rfl) (by kernel_rfl) (by kernel_rfl) (fun _ _ _ h => h) (Or.inl ⟨by rfl, ?_⟩) (by assumption) ?_
  rotate_left
  · intro w' hSw
    try dsimp only at hSw
    go_simp
    try with_reducible rfl
  try simp only [Act.put, List.setIfInBounds_toArray, List.set_cons_zero, List.set_cons_succ]
  refine GoF.take 8 (some 17) (v := ?_) rfl rfl (by kernel_rfl) (by kernel_rfl) (by kernel_rfl) (fun _ _ _ h => h) (Or.inl ⟨by rfl, ?_⟩) (by assumption) ?_
  rotate_left
  · intro w' hSw
    try dsimp only at hSw
    go_simp
    try with_reducible rfl
  try simp only [Act.put, List.setIfInBounds_toArray, List.set_cons_zero, List.set_cons_succ]
  refine GoF.take 9 (some 18) (v := ?_) rfl rfl (by kernel_rfl) (by kernel_rfl) (by kernel_rfl) (fun _ _ _ h => h) (Or.inl ⟨by rfl, ?_⟩) (by assumption) ?_
  rotate_left
  · intro w' hSw
    try dsimp only at hSw
    go_simp
    try with_reducible rfl
  try simp only [Act.put, List.setIfInBounds_toArray, List.set_cons_zero, List.set_cons_succ]
  refine GoF.take 10 (some 6) (v := ?_) rfl rfl (by kernel_rfl) (by kernel_rfl) (by kernel_rfl) (fun _ _ _ h => h) (Or.inl ⟨by rfl, ?_⟩) (by assumption) ?_
  rotate_left
  · intro w' hSw
    try dsimp only at hSw
    go_simp
    try with_reducible rfl
  try simp only [Act.put, List.setIfInBounds_toArray, List.set_cons_zero, List.set_cons_succ]
  refine GoF.last (by kernel_rfl) (by kernel_rfl) rfl (fun K hK => ?_)
  go_simp
  refine hK.out _ _ ?_
  clear hK K hHeld g0 g1
  go_upto_region 3 with (fail)
  obtain ⟨g0, g1⟩ : w2.cell? ⟨sb, 0, none⟩ = some (.slice AL nl cL) ∧ w2.cell? ⟨eb, 1, none⟩ = some (.int .i64 t) := ⟨(B2.out.cell 0).trans rfl, (E2.out.cell 1).trans rfl⟩
  refine wp_region_F (S := (fun w' => w'.cell? ⟨sb, 0, none⟩ = some (.slice AL nl cL) ∧ w'.cell? ⟨eb, 1, none⟩ = some (.int .i64 t))) 13 (by kernel_rfl) (by kernel_rfl) ⟨g0, g1⟩ (fun hHeld => ?_)
  refine GoF.take 0 (some 21) (v := ?_) rfl rfl (by kernel_rfl) (by kernel_rfl) (by kernel_rfl) (fun _ _ _ h => h) (Or.inl ⟨by rfl, ?_⟩) (by assumption) ?_
  rotate_left
  · intro w' hSw
    try dsimp only at hSw
    go_simp
    try with_reducible rfl
  try simp only [Act.put, List.setIfInBounds_toArray, List.set_cons_zero, List.set_cons_succ]
  refine GoF.take 1 (some 22) (v := ?_) rfl rfl (by kernel_rfl) (by kernel_rfl) (by kernel_rfl) (fun _ _ _ h => h) (Or.inl ⟨by rfl, ?_⟩) (by assumption) ?_
  rotate_left
  · intro w' hSw
    try dsimp only at hSw
    go_simp
    try with_reducible rfl
  try simp only [Act.put, List.setIfInBounds_toArray, List.set_cons_zero, List.set_cons_succ]
  refine GoF.take 2 (some 23) (v := ?_) rfl rfl (by kernel_rfl) (by kernel_rfl) (by kernel_rfl) (fun _ _ _ h => h) (Or.inl ⟨by rfl, ?_⟩) (by assumption) ?_
  rotate_left
  · intro w' hSw
    try dsimp only at hSw
    go_simp
    try with_reducible rfl
  try simp only [Act.put, List.setIfInBounds_toArray, List.set_cons_zero, List.set_cons_succ]
  refine GoF.take 3 (some 24) (v := ?_) rfl rfl (by kernel_rfl) (by kernel_rfl) (by kernel_rfl) (fun _ _ _ h => h) (Or.inl ⟨by rfl, ?_⟩) (by assumption) ?_
  rotate_left
  · intro w' hSw
    try dsimp only at hSw
    go_simp
    try with_reducible rfl
  try simp only [Act.put, List.setIfInBounds_toArray, List.set_cons_zero, List.set_cons_succ]
  refine GoF.take 4 (some 25) (v := ?_) rfl rfl (by kernel_rfl) (by kernel_rfl) (by kernel_rfl) (fun _ _ _ h => h) (Or.inl ⟨by rfl, ?_⟩) (by assumption) ?_
  rotate_left
  · intro w' hSw
    try dsimp only at hSw
    go_simp
    try with_reducible rfl
  try simp only [Act.put, List.setIfInBounds_toArray, List.set_cons_zero, List.set_cons_succ]
  refine GoF.take 5 (some 26) (v := ?_) rfl rfl (by kernel_rfl) (by kernel_rfl) (by kernel_rfl) (fun _ _ _ h => h) (Or.inl ⟨by rfl, ?_⟩) (by assumption) ?_
  rotate_left
  · intro w' hSw
    try dsimp only at hSw
    go_simp
    try with_reducible rfl
  try simp only [Act.put, List.setIfInBounds_toArray, List.set_cons_zero, List.set_cons_succ]
  refine GoF.take 6 (some 27) (v := ?_) rfl rfl (by kernel_rfl) (by kernel_rfl) (by kernel_rfl) (fun _ _ _ h => h) (Or.inl ⟨by rfl, ?_⟩) (by assumption) ?_
  rotate_left
  · intro w' hSw
    try dsimp only at hSw
    go_simp
    try with_reducible rfl
  try simp only [Act.put, List.setIfInBounds_toArray, List.set_cons_zero, List.set_cons_succ]
  refine GoF.take 7 (some 28) (v := ?_) rfl rfl (by kernel_rfl) (by kernel_rfl) (by kernel_rfl) (fun _ _ _ h => h) (Or.inl ⟨by rfl, ?_⟩) (by assumption) ?_
  rotate_left
  · intro w' hSw
    try dsimp only at hSw
    go_simp
    try with_reducible rfl
  try simp only [Act.put, List.setIfInBounds_toArray, List.set_cons_zero, List.set_cons_succ]
  refine GoF.take 8 (some 29) (v := ?_) rfl rfl (by kernel_rfl) (by kernel_rfl) (by kernel_rfl) (fun _ _ _ h => h) (Or.inl ⟨by rfl, ?_⟩) (by assumption) ?_
  rotate_left
  · intro w' hSw
    try dsimp only at hSw
    go_simp
    try with_reducible rfl
  try simp only [Act.put, List.setIfInBounds_toArray, List.set_cons_zero, List.set_cons_succ]
  refine GoF.each (rs := [9]) (by kernel_rfl) (by kernel_rfl) (by kernel_rfl) ?_
  refine EachF.cons (i := 9) rfl (fun K hK => ?_) EachF.nil
  go_simp
  obtain ⟨w3, hw3⟩ : ∃ w3, w3 = (w2.alloc (.cells #[.int .i64 t, .int .i64 0, .int .i64 0, .bool false] 49)).drew := ⟨_, rfl⟩
  have V3 := hide (show Blk w3 w2.heap.size 49 (lvc ⟨t, 0, 0, false⟩).toArray by rw [hw3]; exact (Blk.new w2 49 _).drew)
  have X23 := hide (show Ext w2 w3 by rw [hw3]; exact Ext.drew (Ext.new w2 _))
  obtain ⟨vb, hvb⟩ : ∃ vb, vb = w2.heap.size := ⟨_, rfl⟩
  rw [← hvb] at V3
  have HVB := hide hvb
  have X3 := hide (X2.out.trans X23.out)
  have B3 := hide (X23.out.blk B2.out)
  have E3 := hide (X23.out.blk E2.out)
  rw [← hw3, ← hvb]
  clear hw3 hvb
  refine hK.out _ _ ⟨(B3.out.cell 0).trans rfl, (E3.out.cell 1).trans rfl⟩ (fun hHeld => ?_)
  clear hK K
  refine GoF.each (rs := [10]) (by kernel_rfl) (by kernel_rfl) (by kernel_rfl) ?_
  refine EachF.cons (i := 10) rfl (fun K hK => ?_) EachF.nil
  go_simp
  have O3 := hide (X3.out.own HS.out.l)
  have HVG := hide (show ∀ g, AL = some g → vb ≠ g.block from fun g hg e => by
    have h1 := own_lt HS.out.l g hg
    have h2 := X2.out.size
    have h3 := HVB.out
    omega)
  have HB3 := hide (show base ≤ w3.heap.size by have h1 := B0.out.lt; have h2 := X3.out.size; have := HB.out; omega)
  refine (insert_any _ base AL cL nl i (lvs s.L) (lvc ⟨t, 0, 0, false⟩) vb (by rw [NL.out]; exact O3.out) V3.out HVG.out rfl (by intro u hu; simp only [lvc, List.mem_cons, List.not_mem_nil, or_false] at hu; rcases hu with rfl | rfl | rfl | rfl <;> rfl) (lvs_one s.L) HB3.out (by omega) hil).mono ?_
  rintro e w4 ⟨A4, c4, rfl, ho4, ht4⟩
  rw [← lvs_put'] at ho4
  have T34 := hide ht4
  have B4 := hide (T34.out.blk B3.out (by rw [NL.out]; exact own_blk_ne O3.out B3.out (by decide)))
  have E4 := hide (T34.out.blk E3.out (by rw [NL.out]; exact own_blk_ne O3.out E3.out (by decide)))
  have LN := hide (show nl + 1 = (putN s.L i ⟨t, 0, 0, false⟩).length by rw [putN_len _ _ _ (by rw [← NL.out]; exact hil), NL.out])
  have S4 := hide ((HS.out.ext X3.out).insL (sb := sb) (by rw [← NL.out]; exact T34.out) (by rw [← LN.out]; exact ho4))
  have O4 := hide ho4
  have f4 := B4.out.frozen 0
  refine hK.out _ _ ⟨(B4.out.cell 0).trans rfl, (E4.out.cell 1).trans rfl⟩ (fun hHeld => ?_)
  clear hK K ho4 ht4
  have h40 := hHeld.1
  refine GoF.take 11 (some 32) (v := ?_) rfl rfl (by kernel_rfl) (by kernel_rfl) (by kernel_rfl) (fun _ _ _ h => h) (Or.inl ⟨by rfl, ?_⟩) (by assumption) ?_
  rotate_left
  · intro w' hSw
    try dsimp only at hSw
    go_simp
    try with_reducible rfl
  try simp only [Act.put, List.setIfInBounds_toArray, List.set_cons_zero, List.set_cons_succ]
  refine GoF.take 12 (some 33) (v := ?_) rfl rfl (by kernel_rfl) (by kernel_rfl) (by kernel_rfl) (fun _ _ _ h => h) (Or.inl ⟨by rfl, ?_⟩) (by assumption) ?_
  rotate_left
  · intro w' hSw
    try dsimp only at hSw
    go_simp
    try with_reducible rfl
  try simp only [Act.put, List.setIfInBounds_toArray, List.set_cons_zero, List.set_cons_succ]
  refine GoF.last (by kernel_rfl) (by kernel_rfl) rfl (fun K hK => ?_)
  go_simp
  refine hK.out _ _ ?_
  clear hK K h40 f4 g0 g1 hHeld
  have S5 := hide (S4.out.1.box B4.out HB.out 0 (.slice A4 (nl + 1) c4))
  have E5 := hide (E4.out.far (p := ⟨sb, 0, none⟩) (Ne.symm (Blk.ne_ B4.out E4.out (by decide))) (.slice A4 (nl + 1) c4))
  have O5 := hide (own_far O4.out (p := ⟨sb, 0, none⟩) (own_blk_ne O4.out B4.out (by decide)) (.slice A4 (nl + 1) c4))
  obtain ⟨w5, hw5⟩ : ∃ w5, w5 = w4.setCell ⟨sb, 0, none⟩ (.slice A4 (nl + 1) c4) := ⟨_, rfl⟩
  rw [← hw5] at S5 E5 O5
  rw [← hw5]
  clear hw5
  have B5 := hide S5.out.2.2
  simp only [List.set_cons_zero, List.setIfInBounds_toArray] at B5
  have SA := hide S5.out.1
  have T5 := hide ((Tch.trans (Tch.ext (base := base) X3.out) (S4.out.2.trans S5.out.2.1) : Tch base sb w w5))
  have hLI := hide (show liveI s.L t = putN s.L i ⟨t, 0, 0, false⟩ by unfold liveI; rw [HF.out]; rfl)
  obtain ⟨L', hL'⟩ : ∃ L', L' = putN s.L i ⟨t, 0, 0, false⟩ := ⟨_, rfl⟩
  rw [← hL'] at LN O5 SA hLI
  clear hL'
  have HX2 := hide (show L'[i]? = some x by rw [← hLI.out]; exact HX.out)
  obtain ⟨g, rfl⟩ : ∃ g, A4 = some ⟨g, 0, none⟩ := by
    obtain ⟨g, cp, hv', _, _⟩ := O5.out.form (by omega)
    injection hv' with hv1 _ _
    exact ⟨g, hv1⟩
  have ML := hide LN.out
  have OA := hide O5.out
  have hin : (i : Int) < (nl : Int) + 1 := by omega
  obtain ⟨cs, hBg⟩ := own_block OA.out rfl
  have heg := Blk.ne_ E5.out hBg (by decide)
  have hge := Ne.symm heg
  have hsg := Blk.ne_ B5.out hBg (by decide)
  have hgs := Ne.symm hsg
  have q0 : w5.cell? ⟨sb, 0, none⟩ = some (.slice (some ⟨g, 0, none⟩) (nl + 1) c4) := (B5.out.cell 0).trans rfl
  have e0 : w5.cell? ⟨eb, 0, none⟩ = some (.int .i64 kind) := (E5.out.cell 0).trans rfl
  have e5 : w5.cell? ⟨eb, 5, none⟩ = some (.int .i64 nx) := (E5.out.cell 5).trans rfl
  have x1 : w5.cell? ⟨g, i * 4 + 1, none⟩ = some (.int .i64 x.l) := by rw [OA.out.cellAt _ (by omega)]; exact (lvs_at HX2.out).2.1
  have x2 : w5.cell? ⟨g, i * 4 + 2, none⟩ = some (.int .i64 x.n) := by rw [OA.out.cellAt _ (by omega)]; exact (lvs_at HX2.out).2.2.1
  have x3 : w5.cell? ⟨g, i * 4 + 3, none⟩ = some (.bool x.c) := by rw [OA.out.cellAt _ (by omega)]; exact (lvs_at HX2.out).2.2.2
  have y1 := OA.out.frozenAt (i * 4 + 1)
  have y2 := OA.out.frozenAt (i * 4 + 2)
  have y3 := OA.out.frozenAt (i * 4 + 3)
  clear hBg
  by_cases k1 : kind = 1
  · subst k1
    go_wp2_with (fail)
    go_end0
    rw [hLI.out]
    exact gives_live T5.out (by rw [List.length_set]; exact ML.out) ND.out NO.out HSU.out HSH.out (live_fin2 SA.out HX2.out B5.out lsn 2 _ (liveX x 1 nx lsn) (by omega) rfl) rfl
  · have d1 : (kind == 1) = false := by simpa using k1
    by_cases k2 : kind = 2
    · subst k2
      go_wp2_with (fail)
      go_end0
      rw [hLI.out]
      exact gives_live T5.out (by rw [List.length_set]; exact ML.out) ND.out NO.out HSU.out HSH.out (live_fin2 SA.out HX2.out B5.out lsn 2 _ (liveX x 2 nx lsn) (by omega) rfl) rfl
    · have d2 : (kind == 2) = false := by simpa using k2
      by_cases k3 : kind = 3
      · subst k3
        go_wp2_with (fail)
        go_end0
        rw [hLI.out]
        exact gives_live T5.out (by rw [List.length_set]; exact ML.out) ND.out NO.out HSU.out HSH.out (live_fin2 SA.out HX2.out B5.out lsn 3 _ (liveX x 3 nx lsn) (by omega) rfl) rfl
      · have d3 : (kind == 3) = false := by simpa using k3
        have HK := hide (show liveX x kind nx lsn = { x with l := lsn } by unfold liveX; rw [if_neg k1, if_neg k2, if_neg k3])
        go_wp2_with (fail)
        go_end0
        rw [hLI.out, HK.out]
        exact gives_live T5.out (by rw [List.length_set]; exact ML.out) ND.out NO.out HSU.out HSH.out (live_fin1 SA.out HX2.out B5.out lsn) rfl
/-- live, whoever it is -/
theorem live_any (w : World) (base sb : Nat) (s : Sn) (AL : Option Addr) (cL : Nat) (AD : Option Addr) (cD : Nat) (AO : Option Addr) (cO nl nd no : Nat) (kind t u h p nx a0 a1 b0 b1 lsn : Int)
    (P0 : Option Addr) (n0 c0 : Nat) (P1 : Option Addr) (n1 c1 : Nat) (P2 : Option Addr) (n2 c2 : Nat) (P3 : Option Addr) (n3 c3 : Nat) (P4 : Option Addr) (n4 c4 : Nat) (P5 : Option Addr) (n5 c5 : Nat)
    (hB : Blk w sb 37 #[.slice AL nl cL, .slice AD nd cD, .slice AO no cO, .int .i64 s.u, .int .i64 s.h]) (hS : SnAt w base s AL cL AD cD AO cO) (hnl : nl = s.L.length) (hnd : nd = s.D.length) (hno : no = s.O.length) (hb : base ≤ sb) (hl : s.L.length ≤ 900) :
    Calls Try.prog 22 #[.pointer (some ⟨sb, 0, none⟩), .agg #[.int .i64 kind, .int .i64 t, .int .i64 u, .int .i64 h, .int .i64 p, .int .i64 nx, .int .i64 a0, .int .i64 a1, .int .i64 b0, .int .i64 b1, .slice P0 n0 c0, .slice P1 n1 c1, .slice P2 n2 c2, .slice P3 n3 c3, .slice P4 n4 c4, .slice P5 n5 c5], .int .i64 lsn] w
      (GivesLive w base sb { s with L := liveN s.L kind t nx lsn }) := by
  obtain ⟨i, b, hf⟩ : ∃ i b, findN s.L t = (i, b) := ⟨_, _, rfl⟩
  have hile := findN_le s.L t
  rw [hf] at hile
  obtain ⟨x, hx⟩ : ∃ x, (liveI s.L t)[i]? = some x := by
    cases b with
    | true =>
      obtain ⟨x, hx, _⟩ := findN_mem s.L t i hf
      exact ⟨x, by unfold liveI; rw [hf]; exact hx⟩
    | false => exact ⟨_, by unfold liveI; rw [hf]; exact putN_at s.L i _ hile⟩
  have e : liveN s.L kind t nx lsn = (liveI s.L t).set i (liveX x kind nx lsn) := by
    unfold liveN
    rw [hf]
    simp only [hx]
  rw [e]
  cases b with
  | true => exact live_old w base sb s AL cL AD cD AO cO nl nd no i x kind t u h p nx a0 a1 b0 b1 lsn P0 n0 c0 P1 n1 c1 P2 n2 c2 P3 n3 c3 P4 n4 c4 P5 n5 c5 hB hS hnl hnd hno hb hl hf hx
  | false => exact live_new w base sb s AL cL AD cD AO cO nl nd no i x kind t u h p nx a0 a1 b0 b1 lsn P0 n0 c0 P1 n1 c1 P2 n2 c2 P3 n3 c3 P4 n4 c4 P5 n5 c5 hB hS hnl hnd hno hb hl hf hx
end Go.Proofs.Ytaijgnhkdbdfcaa
