/- Look: entries by numbers. -/
import Derived.Test.YtaijgnhkdbdfcaaLookI
namespace Go.Proofs.Ytaijgnhkdbdfcaa
open Go.ChangeShapes Go.WideShapes Go.ChangeAt Go.RowKit
set_option linter.unusedVariables false

theorem Try.info35' : (Try.prog.info? 35).map (fun i => (i.zero.map (·.cells.size), i.size, i.bytes)) = some (some 16, 16, 224) := by kernel_rfl
theorem info_parts2 {P : Program} {t : TypeId} {n s b : Nat} (h : (P.info? t).map (fun i => (i.zero.map (·.cells.size), i.size, i.bytes)) = some (some n, s, b)) : ∃ i z, P.info? t = some i ∧ i.zero = some z ∧ z.cells.size = n ∧ i.size = s ∧ i.bytes = b := by
  cases hi : P.info? t with
  | none => rw [hi] at h; cases h
  | some i =>
    rw [hi] at h
    simp only [Option.map_some, Option.some.injEq, Prod.mk.injEq, Option.map_eq_some_iff] at h
    obtain ⟨⟨z, hz, hn⟩, hs, hb⟩ := h
    exact ⟨i, z, rfl, hz, hn, hs, hb⟩
/-- one letter -/
def ltL (m : Nat) : List UInt8 := [UInt8.ofNat (97 + m)]
theorem conv_lt {w : World} {b : Nat} {m : Nat} (h : Blk w b 5 #[.int .u8 (97 + (m : Int))]) (hk : m < 26) : (convert 29 9 (.slice (some ⟨b, 0, none⟩) 1 1)).run Try.prog w = .ok (.string ⟨(ltL m).toArray⟩) w := by
  have hr : Reads w w.heap.size 1 (some ⟨b, 0, none⟩) 1 (bv (ltL m)) := by
    refine ⟨rfl, fun _ => ⟨_, rfl, h.lt, fun j u hu => ?_⟩⟩
    have e : (⟨b, 0, none⟩ : Addr).add j = ⟨b, j, none⟩ := by unfold Addr.add; split <;> simp_all
    rw [e, h.cell]
    have e2 : ((UInt8.ofNat (97 + m)).toNat : Int) = 97 + (m : Int) := by rw [UInt8.toNat_ofNat', Nat.mod_eq_of_lt (by omega)]; omega
    simp only [bv, ltL, List.map_cons, List.map_nil, e2] at hu
    simpa using hu
  exact run_string_of_reads 29 9 5 1 Try.underlying29 Try.underlying5 Try.underlying9 hr
/-- an entry -/
structure EntS where
  kind : Int
  t : Int
  u : Int
  h : Int
  p : Int
  nx : Int
  a0 : Int
  a1 : Int
  b0 : Int
  b1 : Int
  NL : List UInt8
  mv : List Mv
/-- an entry's cells -/
def entC (E : EntS) (AN : Option Addr) (cN : Nat) (AM : Option Addr) (cM : Nat) : List Value :=
  [.int .i64 E.kind, .int .i64 E.t, .int .i64 E.u, .int .i64 E.h, .int .i64 E.p, .int .i64 E.nx, .int .i64 E.a0, .int .i64 E.a1, .int .i64 E.b0, .int .i64 E.b1, .slice none 0 0, .slice AN E.NL.length cN, .slice AM E.mv.length cM, .slice none 0 0, .slice none 0 0, .slice none 0 0]
theorem own_base {w : World} {b b' e m n : Nat} {v : Value} {xs : List Value} (h : w.ownsRow b e m v n xs) (hb : b' ≤ b) : w.ownsRow b' e m v n xs := by
  rcases h with ⟨h1, h2 | ⟨g, cap, cur, e1, e2, e3⟩⟩
  · exact ⟨h1, .inl h2⟩
  · exact ⟨h1, .inr ⟨g, cap, cur, e1, Nat.le_trans hb e2, e3⟩⟩
theorem own_block {w : World} {b e m n k : Nat} {v : Value} {xs : List Value} (h : w.ownsRow b e m v n xs) (hk : v.ownBlock = some k) : ∃ cs, Blk w k e cs := by
  rcases h with ⟨_, ⟨rfl, _⟩ | ⟨g, cap, cur, rfl, _, hh, _⟩⟩
  · simp [Value.ownBlock] at hk
  · simp [Value.ownBlock] at hk
    subst hk
    exact ⟨cur, hh⟩
theorem own_ge {w : World} {b e m n k : Nat} {v : Value} {xs : List Value} (h : w.ownsRow b e m v n xs) (hk : v.ownBlock = some k) : b ≤ k := by
  rcases h with ⟨_, ⟨rfl, _⟩ | ⟨g, cap, cur, rfl, hb, hh, _⟩⟩
  · simp [Value.ownBlock] at hk
  · simp [Value.ownBlock] at hk
    omega
theorem own_blkN {w : World} {B b n m : Nat} {t : TypeId} {cs : Array Value} (h : Blk w b t cs) (hB : B ≤ b) (hc : cs.size = n * m) (hn : n ≤ 1000) : w.ownsRow B t m (.slice (some ⟨b, 0, none⟩) n n) n cs.toList := by
  refine ⟨by simpa using hc, .inr ⟨b, n, cs, rfl, hB, h, Nat.le_refl _, by unfold maxLen; omega, by omega, ?_⟩⟩
  rw [List.take_of_length_le (by simp; omega)]
theorem own_reads {w : World} {b e m n c : Nat} {A : Option Addr} {xs : List Value} (h : w.ownsRow b e m (.slice A n c) n xs) : Reads w w.heap.size m A n xs := Reads.of_own h
def EntIs (w : World) (E : EntS) (cs : List Value) : Prop :=
  ∃ AN cN AM cM, cs = entC E AN cN AM cM ∧ w.ownsRow 0 5 1 (.slice AN E.NL.length cN) E.NL.length (bv E.NL) ∧ w.ownsRow 0 54 4 (.slice AM E.mv.length cM) E.mv.length (mvs E.mv)
theorem EntIs.ext {w w' : World} {E : EntS} {cs : List Value} (h : EntIs w E cs) (hx : Ext w w') : EntIs w' E cs := by
  obtain ⟨AN, cN, AM, cM, e, h1, h2⟩ := h
  exact ⟨AN, cN, AM, cM, e, hx.own h1, hx.own h2⟩
/-- what writes blocks of entries alone leaves what an entry points at -/
theorem EntIs.touch {w w' : World} {F : Nat → Prop} {E : EntS} {cs : List Value} (h : EntIs w E cs) (ht : Touch w w' F) (hF : ∀ k, F k → k < w.heap.size → ∃ cs, Blk w k 35 cs) : EntIs w' E cs := by
  obtain ⟨AN, cN, AM, cM, e, h1, h2⟩ := h
  refine ⟨AN, cN, AM, cM, e, ownsRow_touch ht h1 (fun k hk hf => ?_), ownsRow_touch ht h2 (fun k hk hf => ?_)⟩
  · obtain ⟨cs', hb'⟩ := own_block h1 hk
    obtain ⟨cs, hb⟩ := hF k hf hb'.lt
    exact own_blk_ne h1 hb (by decide) hk
  · obtain ⟨cs', hb'⟩ := own_block h2 hk
    obtain ⟨cs, hb⟩ := hF k hf hb'.lt
    exact own_blk_ne h2 hb (by decide) hk
theorem EntIs.len {w : World} {E : EntS} {cs : List Value} (h : EntIs w E cs) : cs.length = 16 := by
  obtain ⟨AN, cN, AM, cM, rfl, _⟩ := h
  rfl
theorem EntIs.one {w : World} {E : EntS} {cs : List Value} (h : EntIs w E cs) : ∀ u ∈ cs, u.oneCell' = true := by
  obtain ⟨AN, cN, AM, cM, rfl, _⟩ := h
  intro u hu
  simp only [entC, List.mem_cons, List.not_mem_nil, or_false] at hu
  rcases hu with rfl | rfl | rfl | rfl | rfl | rfl | rfl | rfl | rfl | rfl | rfl | rfl | rfl | rfl | rfl | rfl <;> rfl
/-- entries' cells, one behind the other -/
def EntsAre (w : World) : List EntS → List Value → Prop
  | [], l => l = []
  | E :: es, l => ∃ c r, l = c ++ r ∧ EntIs w E c ∧ EntsAre w es r
theorem EntsAre.ext {w w' : World} : ∀ {es : List EntS} {l : List Value}, EntsAre w es l → Ext w w' → EntsAre w' es l
  | [], _, h, _ => h
  | _ :: _, _, ⟨c, r, e, h1, h2⟩, hx => ⟨c, r, e, h1.ext hx, h2.ext hx⟩
theorem EntsAre.touch {w w' : World} {F : Nat → Prop} : ∀ {es : List EntS} {l : List Value}, EntsAre w es l → Touch w w' F → (∀ k, F k → k < w.heap.size → ∃ cs, Blk w k 35 cs) → EntsAre w' es l
  | [], _, h, _, _ => h
  | _ :: _, _, ⟨c, r, e, h1, h2⟩, hx, hF => ⟨c, r, e, h1.touch hx hF, h2.touch hx hF⟩
theorem EntsAre.snoc {w : World} {E : EntS} {c : List Value} : ∀ {es : List EntS} {l : List Value}, EntsAre w es l → EntIs w E c → EntsAre w (es ++ [E]) (l ++ c)
  | [], _, h, hc => by
    cases h
    exact ⟨c, [], by simp, hc, rfl⟩
  | _ :: _, _, ⟨c', r, e, h1, h2⟩, hc => ⟨c', r ++ c, by rw [e, List.append_assoc], h1, h2.snoc hc⟩
theorem EntsAre.len {w : World} : ∀ {es : List EntS} {l : List Value}, EntsAre w es l → l.length = es.length * 16
  | [], _, h => by cases h; rfl
  | _ :: es, _, ⟨c, r, e, h1, h2⟩ => by rw [e, List.length_append, h1.len, h2.len, List.length_cons]; omega
theorem EntsAre.at_ {w : World} : ∀ {es : List EntS} {l : List Value} {i : Nat} {E : EntS}, EntsAre w es l → es[i]? = some E → ∃ c, EntIs w E c ∧ ∀ j, j < 16 → l[i * 16 + j]? = c[j]?
  | [], _, _, _, _, hi => by simp at hi
  | E' :: es, _, 0, E, ⟨c, r, e, h1, h2⟩, hi => by
    simp only [List.getElem?_cons_zero, Option.some.injEq] at hi
    subst hi
    refine ⟨c, h1, fun j hj => ?_⟩
    rw [e, Nat.zero_mul, Nat.zero_add, List.getElem?_append_left (by rw [h1.len]; exact hj)]
  | E' :: es, _, i + 1, E, ⟨c, r, e, h1, h2⟩, hi => by
    obtain ⟨c', h3, h4⟩ := h2.at_ (by simpa using hi)
    refine ⟨c', h3, fun j hj => ?_⟩
    rw [e, List.getElem?_append_right (by rw [h1.len]; omega), h1.len, show (i + 1) * 16 + j - 16 = i * 16 + j by omega]
    exact h4 j hj
/-- an entry by its number -/
def kindOf (q : Nat) : Int := if q = 0 then 1 else if q = 1 then 1 else if q = 2 then 2 else if q = 3 then 7 else if q = 4 then 8 else 3
def someE (n : Nat) : EntS :=
  { kind := kindOf (n / 26 % 6), t := 1 + ((n % 5 : Nat) : Int), u := ((n % 3 : Nat) : Int), h := 0, p := 0, nx := 0, a0 := ((n / 7 % 4 : Nat) : Int), a1 := ((n / 29 % 4 : Nat) : Int), b0 := ((n / 11 % 4 : Nat) : Int), b1 := ((n / 41 % 4 : Nat) : Int)
    NL := if n % 9 = 0 then [] else rowL (ltL (n % 26)) [115] []
    mv := [⟨((n / 7 % 4 : Nat) : Int), ((n / 29 % 4 : Nat) : Int), ((n / 11 % 4 : Nat) : Int), ((n / 41 % 4 : Nat) : Int)⟩] }
/-- entries in a row of the call's own -/
def GivesE (w : World) (es : List EntS) (e : Ending) (w' : World) : Prop := ∃ A c vs, e = .returned (.slice A es.length c) ∧ w'.ownsRow w.heap.size 35 16 (.slice A es.length c) es.length vs ∧ EntsAre w' es vs ∧ Ext w w'
def nv (ns : List Nat) : List Value := ns.map (fun (x : Nat) => Value.int .u16 (x : Int))
set_option maxRecDepth 100000 in
set_option maxHeartbeats 8000000 in
theorem some_any (A : Option Addr) (c n : Nat) (ns : List Nat) (w : World) (hr : Reads w w.heap.size 1 A n (nv ns)) (hn : n = ns.length) (hz : ∀ x ∈ ns, x ≤ 65535) (hl : n ≤ 100) :
    Calls Try.prog 14 #[.slice A n c] w (GivesE w (ns.map someE)) := by
  obtain ⟨i31, z31, hi31, hz31, hzs31, hs31, hb31⟩ := info_parts2 Try.info35'
  have HR := hide hr
  have HN := hide hn
  have HZ := hide hz
  clear hr hn hz
  go_enter Try.func14, Try.ntmps14
  go_wp2_with (fail)
  go_loopw [3, 4, 5, 6, 7, 8] (fun s3 s4 _ _ _ _ wr => (∃ i : Nat, i ≤ n ∧ s4 = .int .i64 i ∧ Hid (∃ vs, wr.ownsRow w.heap.size 35 16 s3 i vs ∧ EntsAre wr ((ns.take i).map someE) vs ∧ Ext w wr))) (fun _ s4 _ _ _ _ _ => (n - intOf s4).toNat)
  case atStart => exact ⟨0, by omega, rfl, [], World.ownsRow_nil _ _ _ _, rfl, Ext.refl _⟩
  case round =>
    obtain ⟨i, hi, rfl, hs0⟩ := hrel
    obtain ⟨vs, ho, hv, hx⟩ := hs0.out
    obtain ⟨A3, c3, hv3, _⟩ := own_form ho
    subst hv3
    have HO := hide ho
    have HV := hide hv
    have X := hide hx
    clear hs0 ho hv hx
    by_cases hlt : i < n
    · obtain ⟨bk, off, hAe, hbw, hcell⟩ := HR.out.plain (by omega) (by omega)
      subst hAe
      obtain ⟨x, hx⟩ : ∃ x, ns[i]? = some x := ⟨_, List.getElem?_eq_getElem (by rw [← HN.out]; exact hlt)⟩
      have hx1 : x ≤ 65535 := HZ.out x (List.mem_of_getElem? hx)
      have gx := (X.out.cell (p := ⟨bk, off + i, none⟩) hbw).trans (hcell i (.int .u16 (x : Int)) (by simp [nv, hx]))
      obtain ⟨m, hm⟩ : ∃ m : Nat, x % 26 = m := ⟨_, rfl⟩
      have em : (x : Int) % 26 = (m : Int) := by omega
      have hm1 : m < 26 := by omega
      have HX := hide hx
      have HM := hide hm
      clear hcell hx hm
      have c0 := conv_lt (Blk.new wr 5 #[.int .u8 (97 + (m : Int))]) hm1
      have w0 : IntKind.u8.wrap (97 + (m : Int)) = 97 + (m : Int) := by simp [IntKind.wrap, IntKind.signed, IntKind.bits]; omega
      have hrow := hide (row_any (wr.alloc (.cells #[.int .u8 (97 + (m : Int))] 5)) (ltL m) [115] [] (by simp [ltL]) (by simp) (by simp))
      go_upto_region 7 with (go_at_call 18; refine hrow.out.mono ?_; rintro e w1 ⟨A1, c1, rfl, ho1, hx1⟩; have X1 := hide ((Ext.new wr _).trans hx1); have N1 := hide (own_base ho1 (Nat.zero_le _)); clear ho1 hx1)
      clear c0 w0 gx hrow em
      obtain ⟨NR, hNR⟩ : ∃ NR, NR = rowL (ltL m) [115] [] := ⟨_, rfl⟩
      rw [← hNR] at N1 ⊢
      have HNR := hide hNR
      obtain ⟨q, hq⟩ : ∃ q : Nat, x / 26 % 6 = q := ⟨_, rfl⟩
      obtain ⟨t5, ht5⟩ : ∃ q : Nat, x % 5 = q := ⟨_, rfl⟩
      obtain ⟨u3, hu3⟩ : ∃ q : Nat, x % 3 = q := ⟨_, rfl⟩
      obtain ⟨p7, hp7⟩ : ∃ q : Nat, x / 7 % 4 = q := ⟨_, rfl⟩
      obtain ⟨p29, hp29⟩ : ∃ q : Nat, x / 29 % 4 = q := ⟨_, rfl⟩
      obtain ⟨p11, hp11⟩ : ∃ q : Nat, x / 11 % 4 = q := ⟨_, rfl⟩
      obtain ⟨p41, hp41⟩ : ∃ q : Nat, x / 41 % 4 = q := ⟨_, rfl⟩
      obtain ⟨r9, hr9⟩ : ∃ q : Nat, x % 9 = q := ⟨_, rfl⟩
      have eq_ : (x : Int) / 26 % 6 = (q : Int) := by omega
      have et : (x : Int) % 5 = (t5 : Int) := by omega
      have eu : (x : Int) % 3 = (u3 : Int) := by omega
      have e7 : (x : Int) / 7 % 4 = (p7 : Int) := by omega
      have e29 : (x : Int) / 29 % 4 = (p29 : Int) := by omega
      have e11 : (x : Int) / 11 % 4 = (p11 : Int) := by omega
      have e41 : (x : Int) / 41 % 4 = (p41 : Int) := by omega
      have e9 : (x : Int) % 9 = (r9 : Int) := by omega
      have hq6 : q < 6 := by omega
      have kq : (#[.int .i64 1, .int .i64 1, .int .i64 2, .int .i64 7, .int .i64 8, .int .i64 3] : Array Value)[q]? = some (.int .i64 (kindOf q)) := by
        rcases (show q = 0 ∨ q = 1 ∨ q = 2 ∨ q = 3 ∨ q = 4 ∨ q = 5 by omega) with rfl | rfl | rfl | rfl | rfl | rfl <;> rfl
      obtain ⟨kd, hkd⟩ : ∃ kd, kd = kindOf q := ⟨_, rfl⟩
      rw [← hkd] at kq
      have bl := (Blk.new w1 3 #[.int .i64 1, .int .i64 1, .int .i64 2, .int .i64 7, .int .i64 8, .int .i64 3]).cell q
      rw [kq] at bl
      have wt : IntKind.i64.wrap (1 + (t5 : Int)) = 1 + (t5 : Int) := by simp [IntKind.wrap, IntKind.signed, IntKind.bits]; omega
      have HE := hide (show someE x = { kind := kd, t := 1 + (t5 : Int), u := (u3 : Int), h := 0, p := 0, nx := 0, a0 := (p7 : Int), a1 := (p29 : Int), b0 := (p11 : Int), b1 := (p41 : Int), NL := if r9 = 0 then [] else NR, mv := [⟨(p7 : Int), (p29 : Int), (p11 : Int), (p41 : Int)⟩] } by
        rw [someE, hq, ht5, hu3, hp7, hp29, hp11, hp41, hr9, HM.out, ← hNR, hkd])
      clear hq ht5 hu3 hp7 hp29 hp11 hp41 hr9 hkd kq hNR
      go_upto_region 8 with (fail)
      obtain ⟨w2, hw2⟩ : ∃ w2, w2 = w1.alloc (.cells #[.int .i64 1, .int .i64 1, .int .i64 2, .int .i64 7, .int .i64 8, .int .i64 3] 3) := ⟨_, rfl⟩
      have X2 := hide (show Ext w1 w2 by rw [hw2]; exact Ext.new w1 _)
      have sz : w2.heap.size = w1.heap.size + 1 := by rw [hw2]; simp
      rw [← hw2, ← sz]
      obtain ⟨w3, hw3⟩ : ∃ w3, w3 = w2.alloc (.cells #[.int .i64 kd, .int .i64 (1 + (t5 : Int)), .int .i64 (u3 : Int), .int .i64 0, .int .i64 0, .int .i64 0, .int .i64 (p7 : Int), .int .i64 (p29 : Int), .int .i64 (p11 : Int), .int .i64 (p41 : Int), .slice none 0 0, .slice A1 NR.length c1, .slice none 0 0, .slice none 0 0, .slice none 0 0, .slice none 0 0] 35) := ⟨_, rfl⟩
      have X3 := hide (show Ext w2 w3 by rw [hw3]; exact Ext.new w2 _)
      have B3 := hide (show Blk w3 w2.heap.size 35 #[.int .i64 kd, .int .i64 (1 + (t5 : Int)), .int .i64 (u3 : Int), .int .i64 0, .int .i64 0, .int .i64 0, .int .i64 (p7 : Int), .int .i64 (p29 : Int), .int .i64 (p11 : Int), .int .i64 (p41 : Int), .slice none 0 0, .slice A1 NR.length c1, .slice none 0 0, .slice none 0 0, .slice none 0 0, .slice none 0 0] by rw [hw3]; exact Blk.new w2 35 _)
      rw [← hw3]
      obtain ⟨eb, heb⟩ : ∃ eb, eb = w2.heap.size := ⟨_, rfl⟩
      have hge : wr.heap.size ≤ eb := by rw [heb]; exact (X1.out.trans X2.out).size
      have hge1 : w1.heap.size ≤ eb := by rw [heb]; exact X2.out.size
      rw [← heb] at B3 ⊢
      have X13 := hide (X2.out.trans X3.out)
      clear hw2 hw3 heb sz bl wt et eu e7 e29 e11 e41 eq_ X2 X3
      obtain ⟨NL, hNL⟩ : ∃ NL, NL = if r9 = 0 then [] else NR := ⟨_, rfl⟩
      rw [← hNL] at HE
      have HNL := hide hNL
      clear hNL
      go_upto_if 60 with (fail)
      go_cut [] (fun wx => ∃ AN cN, Blk wx eb 35 #[.int .i64 kd, .int .i64 (1 + (t5 : Int)), .int .i64 (u3 : Int), .int .i64 0, .int .i64 0, .int .i64 0, .int .i64 (p7 : Int), .int .i64 (p29 : Int), .int .i64 (p11 : Int), .int .i64 (p41 : Int), .slice none 0 0, .slice AN NL.length cN, .slice none 0 0, .slice none 0 0, .slice none 0 0, .slice none 0 0] ∧ wx.ownsRow 0 5 1 (.slice AN NL.length cN) NL.length (bv NL) ∧ Ext w1 wx)
      case first =>
        by_cases h9 : r9 = 0
        · have d9 : ((r9 : Int) == 0) = true := by simp; omega
          have e9' : NL = [] := by rw [HNL.out, if_pos h9]
          subst e9'
          have f11 := B3.out.frozen 11
          have y11 := B3.out.cell 11
          simp only [List.getElem?_toArray, List.getElem?_cons_succ, List.getElem?_cons_zero] at y11
          go_wp2_with (fail)
          go_meet
          case rel => exact ⟨none, 0, by simpa using B3.out.set_ 11 (.slice none 0 0), World.ownsRow_nil _ _ _ _, X13.out.set_ (p := ⟨eb, 11, none⟩) hge1 _⟩
        · have d9 : ((r9 : Int) == 0) = false := by simp; omega
          have e9' : NL = NR := by rw [HNL.out, if_neg h9]
          subst e9'
          go_wp2_with (fail)
          go_meet
          case rel => exact ⟨A1, c1, B3.out, X13.out.own N1.out, X13.out⟩
      case rest =>
        obtain ⟨AN, cN, hb, hn, hx⟩ := hcut
        have B4 := hide hb
        have N4 := hide hn
        have X4 := hide hx
        clear hb hn hx B3 N1 X13 e9
        obtain ⟨y0, y1, y2, y3, y4, y5, y6, y7, y8, y9, y10, y11, y12, y13, y14, y15⟩ := B4.out.cells16
        have f12 := B4.out.frozen 12
        have hel := B4.out.lt
        go_upto_region 11 with (fail)
        obtain ⟨w5, hw5⟩ : ∃ w5, w5 = (wc.setCell ⟨eb, 12, none⟩ (.slice (some ⟨wc.heap.size, 0, none⟩) 1 1)).alloc (.cells #[.int .i64 (p7 : Int), .int .i64 (p29 : Int), .int .i64 (p11 : Int), .int .i64 (p41 : Int)] 54) := ⟨_, rfl⟩
        have B5 := hide (show Blk w5 eb 35 #[.int .i64 kd, .int .i64 (1 + (t5 : Int)), .int .i64 (u3 : Int), .int .i64 0, .int .i64 0, .int .i64 0, .int .i64 (p7 : Int), .int .i64 (p29 : Int), .int .i64 (p11 : Int), .int .i64 (p41 : Int), .slice none 0 0, .slice AN NL.length cN, .slice (some ⟨wc.heap.size, 0, none⟩) 1 1, .slice none 0 0, .slice none 0 0, .slice none 0 0] by rw [hw5]; simpa using (B4.out.set_ 12 (.slice (some ⟨wc.heap.size, 0, none⟩) 1 1)).alloc (.cells #[.int .i64 (p7 : Int), .int .i64 (p29 : Int), .int .i64 (p11 : Int), .int .i64 (p41 : Int)] 54))
        have T5 : Touch wc w5 (fun a => a = eb) := by rw [hw5]; exact (Touch.setCell (F := fun a => a = eb) (p := ⟨eb, 12, none⟩) (Touch.refl wc _) (fun _ => rfl) _).trans (Touch.of_below (Ext.new _ _) _) (fun _ _ h => h)
        have X5 := hide (show Ext w1 w5 from Touch.ext X4.out T5 hge1)
        have BM := hide (show Blk w5 wc.heap.size 54 #[.int .i64 (p7 : Int), .int .i64 (p29 : Int), .int .i64 (p11 : Int), .int .i64 (p41 : Int)] by rw [hw5]; have := Blk.new (wc.setCell ⟨eb, 12, none⟩ (.slice (some ⟨wc.heap.size, 0, none⟩) 1 1)) 54 #[.int .i64 (p7 : Int), .int .i64 (p29 : Int), .int .i64 (p11 : Int), .int .i64 (p41 : Int)]; simpa using this)
        have N5 := hide (ownsRow_touch T5 N4.out (fun k hk hf => own_blk_ne N4.out B4.out (by decide) (by rw [hk, hf])))
        obtain ⟨mb, hmb⟩ : ∃ mb, mb = wc.heap.size := ⟨_, rfl⟩
        rw [← hw5, ← hmb]
        rw [← hmb] at B5 BM
        have hE : EntIs w5 (someE x) [.int .i64 kd, .int .i64 (1 + (t5 : Int)), .int .i64 (u3 : Int), .int .i64 0, .int .i64 0, .int .i64 0, .int .i64 (p7 : Int), .int .i64 (p29 : Int), .int .i64 (p11 : Int), .int .i64 (p41 : Int), .slice none 0 0, .slice AN NL.length cN, .slice (some ⟨mb, 0, none⟩) 1 1, .slice none 0 0, .slice none 0 0, .slice none 0 0] := by
          rw [HE.out]
          exact ⟨AN, cN, some ⟨mb, 0, none⟩, 1, rfl, N5.out, own_blkN BM.out (Nat.zero_le _) rfl (by simp)⟩
        have E5 := hide hE
        clear hw5 hmb T5 hE y0 y1 y2 y3 y4 y5 y6 y7 y8 y9 y10 y11 y12 y13 y14 y15 f12 hel B4 N4 X4 N5 BM HE
        have X0 := hide (show Ext wr w5 from X1.out.trans X5.out)
        have hhb : wr.heap.size ≤ w5.heap.size := X0.out.size
        have hwr : w.heap.size ≤ wr.heap.size := X.out.size
        have HT := hide (show ∀ (cs : Array Value) (v6 : Value) (w6 : World) (vs6 : List Value), w6.ownsRow w.heap.size 35 16 v6 (i + 1) vs6 → (w5.alloc (.cells cs 35)).grownBy w6 (Value.ownBlock (.slice A3 i c3)) → Touch w5 w6 (fun k => Value.ownBlock (.slice A3 i c3) = some k) from fun cs v6 w6 vs6 _ hg => (Touch.of_below (Ext.new w5 _) _).grown hg (fun k hk _ => hk))
        have HO5 := hide (X0.out.own HO.out)
        have HB := hide (show Below w.heap.size w w5 from X.out.trans X0.out)
        obtain ⟨y0, y1, y2, y3, y4, y5, y6, y7, y8, y9, y10, y11, y12, y13, y14, y15⟩ := B5.out.cells16
        go_wp2_with (at_builtin; refine wpList_append_any _ rfl (.tmp 69) (.tmp 71) _ rfl w.heap.size 35 i31 z31 16 224 Try.underlying25 hi31 hz31 hs31 hb31 hzs31 (by omega) (.slice A3 i c3) i vs rfl (Ext.own (Ext.new w5 _) HO5.out) _ (some ⟨w5.heap.size, 0, none⟩) 1 1 _ rfl (reads_blk (Blk.new w5 35 _) rfl) E5.out.one (by simp only [maxLen]; omega) (by omega) (by simp; omega) ?_; intro v6 w6 ho6 hg6 hat6; have T6 := hide (HT.out _ _ _ _ ho6 hg6); obtain ⟨A6, c6, hv6, _⟩ := own_form ho6; subst hv6; have O6 := hide ho6; clear ho6 hg6 hat6)
        have hF : ∀ k, Value.ownBlock (.slice A3 i c3) = some k → k < w5.heap.size → ∃ cs, Blk w5 k 35 cs := fun k hk _ => own_block HO5.out hk
        go_roundw
        case rel => exact ⟨i + 1, by omega, by go_num, _, O6.out, by
          have hk := (List.getElem?_eq_some_iff.1 HX.out).1
          have e : ns[i] = x := (List.getElem?_eq_some_iff.1 HX.out).2
          rw [List.take_succ_eq_append_getElem hk, List.map_append, e]
          exact (((HV.out.ext X0.out).touch T6.out hF).snoc (E5.out.touch T6.out hF)), Below.trans HB.out (T6.out.below (Below.size HB.out) (fun k hk => own_ge HO5.out hk))⟩
        case measure => simp [intOf]; omega
    · obtain rfl : i = n := by omega
      go_wp2_with (fail)
      go_ret
      have e : ns.take i = ns := List.take_of_length_le (by rw [← HN.out]; exact Nat.le_refl _)
      rw [e] at HV
      have el : (ns.map someE).length = i := by rw [List.length_map, ← HN.out]
      unfold GivesE
      rw [el]
      exact ⟨A3, c3, vs, rfl, HO.out, HV.out, X.out⟩
end Go.Proofs.Ytaijgnhkdbdfcaa
