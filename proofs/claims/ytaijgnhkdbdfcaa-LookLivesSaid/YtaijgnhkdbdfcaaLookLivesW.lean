/- LookLives: the walk. (Printed by mk_lives.py.) -/
import Derived.Test.YtaijgnhkdbdfcaaLawV
import Derived.Deep.QuietTactic
import Derived.BigQuiet
namespace Go.Proofs.Ytaijgnhkdbdfcaa.lookLives
open Go.ChangeShapes Go.WideShapes Go.ChangeAt Go.RowKit
set_option linter.unusedVariables false

def lcs (r : Nat → Int) : Array Value := ((List.range 10).map fun (k : Nat) => Value.int .i64 (r k)).toArray
def ccs (r : Nat → Bool) : Array Value := ((List.range 10).map fun (k : Nat) => Value.bool (r k)).toArray
theorem lcs_at (r : Nat → Int) (p : Nat) (hp : p < 10) : (lcs r)[p]? = some (.int .i64 (r p)) := by simp [lcs, hp]
theorem ccs_at (r : Nat → Bool) (p : Nat) (hp : p < 10) : (ccs r)[p]? = some (.bool (r p)) := by simp [ccs, hp]
theorem lcs_set (r : Nat → Int) (p : Nat) (v : Int) (hp : p < 10) : (lcs r).setIfInBounds p (.int .i64 v) = lcs (updN r p v) := by
  apply Array.ext_getElem?
  intro k
  by_cases hk : k < 10
  · rw [lcs_at _ k hk, Array.getElem?_setIfInBounds]
    have hs : (lcs r).size = 10 := by simp [lcs]
    by_cases hpk : p = k
    · subst hpk
      rw [if_pos rfl, if_pos (by omega)]
      exact congrArg some (by rw [updN, if_pos rfl])
    · rw [if_neg hpk, lcs_at _ k hk, updN, if_neg (Ne.symm hpk)]
  · rw [Array.getElem?_eq_none (by simp [lcs]; omega), Array.getElem?_eq_none (by simp [lcs]; omega)]
theorem ccs_set (r : Nat → Bool) (p : Nat) (v : Bool) (hp : p < 10) : (ccs r).setIfInBounds p (.bool v) = ccs (updB r p v) := by
  apply Array.ext_getElem?
  intro k
  by_cases hk : k < 10
  · rw [ccs_at _ k hk, Array.getElem?_setIfInBounds]
    have hs : (ccs r).size = 10 := by simp [ccs]
    by_cases hpk : p = k
    · subst hpk
      rw [if_pos rfl, if_pos (by omega)]
      exact congrArg some (by rw [updB, if_pos rfl])
    · rw [if_neg hpk, ccs_at _ k hk, updB, if_neg (Ne.symm hpk)]
  · rw [Array.getElem?_eq_none (by simp [ccs]; omega), Array.getElem?_eq_none (by simp [ccs]; omega)]
theorem EnsOwn.far2 {w w' : World} {base n c g g2 : Nat} {l : List En} {A : Option Addr} {t t2 : TypeId} {cs cs2 : Array Value} (h : EnsOwn w base l A n c) (ht : Touch w w' (fun k => k = g ∨ k = g2)) (hB : Blk w g t cs) (hB2 : Blk w g2 t2 cs2) (h1 : t ≠ 35 ∧ t ≠ 5 ∧ t ≠ 54 ∧ t ≠ 49 ∧ t ≠ 40 ∧ t ≠ 56) (h2 : t2 ≠ 35 ∧ t2 ≠ 5 ∧ t2 ≠ 54 ∧ t2 ≠ 49 ∧ t2 ≠ 40 ∧ t2 ≠ 56) : EnsOwn w' base l A n c := by
  have key : ∀ {b e m n : Nat} {v : Value} {xs : List Value}, w.ownsRow b e m v n xs → e ≠ t → e ≠ t2 → w'.ownsRow b e m v n xs := fun hr e1 e2 => ownsRow_touch ht hr fun k hk hf => by
    obtain ⟨cs', hB'⟩ := own_block hr hk
    rcases hf with rfl | rfl
    · exact Blk.ne_ hB' hB e1 rfl
    · exact Blk.ne_ hB' hB2 e2 rfl
  obtain ⟨h0, vs, h3, h4, h5⟩ := h
  refine ⟨h0, vs, key h3 h1.1.symm h2.1.symm, h4, fun k X hX => ?_⟩
  obtain ⟨AN, cN, AM, cM, EL, cEL, ED, cED, EO, cEO, hc, he⟩ := h5 k X hX
  obtain ⟨os, ho, hos⟩ := he.s.o
  exact ⟨AN, cN, AM, cM, EL, cEL, ED, cED, EO, cEO, hc, key he.n h1.2.1.symm h2.2.1.symm, key he.m h1.2.2.1.symm h2.2.2.1.symm, key he.s.l h1.2.2.2.1.symm h2.2.2.2.1.symm, key he.s.d h1.2.2.2.2.1.symm h2.2.2.2.2.1.symm, os, key ho h1.2.2.2.2.2.symm h2.2.2.2.2.2.symm, hos.keep fun _ _ _ hr => key hr h1.2.2.1.symm h2.2.2.1.symm⟩
/-- the ten numbers lie there -/
def At10 (w wr : World) (rb cb : Nat) (s : LvT) : Prop := Blk wr rb 46 (lcs s.la) ∧ Blk wr cb 47 (ccs s.co) ∧ Touch w wr (fun k => k = rb ∨ k = cb)
theorem At10.put {w wr : World} {rb cb p : Nat} {s : LvT} {v : Int} {b : Bool} (h : At10 w wr rb cb s) (hp : p < 10) (hne : rb ≠ cb) : At10 w ((wr.setCell ⟨rb, p, none⟩ (.int .i64 v)).setCell ⟨cb, p, none⟩ (.bool b)) rb cb ⟨updN s.la p v, updB s.co p b, s.op⟩ := by
  obtain ⟨h1, h2, h3⟩ := h
  have k1 := h1.set_ p (.int .i64 v)
  have k2 := h2.far (p := ⟨rb, p, none⟩) (Ne.symm hne) (.int .i64 v)
  rw [lcs_set _ _ _ hp] at k1
  have k3 := k1.far (p := ⟨cb, p, none⟩) hne (.bool b)
  have k4 := k2.set_ p (.bool b)
  rw [ccs_set _ _ _ hp] at k4
  exact ⟨k3, k4, h3.trans ((Touch.setCell (F := fun k => k = rb ∨ k = cb) (p := ⟨rb, p, none⟩) (Touch.refl wr _) (fun _ => .inl rfl) _).setCell (p := ⟨cb, p, none⟩) (fun _ => .inr rfl) _) (fun _ _ e => e)⟩
theorem live_none {la : Nat → Int} {k : Nat} (h : la k = 0) : (liveT la (List.range (k + 1))).length = (liveT la (List.range k)).length := by
  simp [liveT, List.range_succ, h]
theorem live_some {la : Nat → Int} {k : Nat} (h : ¬ la k = 0) : (liveT la (List.range (k + 1))).length = (liveT la (List.range k)).length + 1 := by
  simp [liveT, List.range_succ, h]
theorem live_at {la : Nat → Int} {k : Nat} (hk : k < 10) (h : ¬ la k = 0) : (liveT la (List.range 10))[(liveT la (List.range k)).length]? = some k := by
  have e : List.range 10 = List.range k ++ k :: List.range' (k + 1) (9 - k) := by
    rw [List.range_eq_range', List.range_eq_range', show (10 : Nat) = k + (9 - k + 1) by omega, ← List.range'_append_1, Nat.zero_add, List.range'_succ]
  unfold liveT
  rw [e, List.filter_append, List.filter_cons_of_pos (by simpa using h), List.getElem?_append_right (Nat.le_refl _), Nat.sub_self]
  rfl
theorem live_get {L : List Lv} {s : LvT} (h : L.map (fun y => (y.t, y.l, y.c)) = (liveT s.la (List.range 10)).map (fun (k : Nat) => ((k : Int), s.la k, s.co k))) {k : Nat} (hk : k < 10) (hne : ¬ s.la k = 0) :
    ∃ y, L[(liveT s.la (List.range k)).length]? = some y ∧ y.t = (k : Int) ∧ y.l = s.la k ∧ y.c = s.co k := by
  have h1 : (L.map (fun y => (y.t, y.l, y.c)))[(liveT s.la (List.range k)).length]? = some ((k : Int), s.la k, s.co k) := by
    rw [h, List.getElem?_map, live_at hk hne]
    rfl
  rw [List.getElem?_map] at h1
  cases hy : L[(liveT s.la (List.range k)).length]? with
  | none => rw [hy] at h1; cases h1
  | some y =>
    rw [hy] at h1
    injection h1 with h1
    injection h1 with a b
    injection b with b c
    exact ⟨y, rfl, a, b, c⟩
set_option maxRecDepth 1000000 in
set_option maxHeartbeats 80000000 in
theorem walk_short (A : Option Addr) (c n : Nat) (ns : List Nat) (w0 : World) (hr : Reads w0 w0.heap.size 1 A n (nv ns)) (hn : n = ns.length) (hz : ∀ x ∈ ns, x ≤ 65535) (hl : n ≤ 30) :
    Calls Try.prog 4 #[.slice A n c] w0 fun e w' => e = .returned (.bool true) ∧ Ext w0 w' := by
  have HR0 := hide hr
  have HN := hide hn
  have HZ := hide hz
  have dl : decide ((30 : Int) < (n : Int)) = false := decide_eq_false (by omega)
  clear hr hn hz
  go_enter Try.func4, Try.ntmps4
  go_upto_region 6 with (first | (go_at_call 8; refine (begun_any _).mono ?_; rintro e w ⟨rfl, hx0⟩; have X0 := hide hx0; have HR := hide (X0.out.read HR0.out); clear hx0) | (go_at_call 9; refine (acts_any A c n ns w HR.out HN.out HZ.out (by omega)).mono ?_; rintro e w1 ⟨A3, c3, rfl, ho1, hx1⟩; have O1 := hide ho1; have X1 := hide hx1; clear ho1 hx1))
  go_upto_region 8 with (fail)
  obtain ⟨w2, hw2⟩ : ∃ w2, w2 = (w1.alloc (.cells #[.int .i64 0, .int .i64 0, .int .i64 0, .int .i64 0, .int .i64 0, .int .i64 0, .int .i64 0, .int .i64 0, .int .i64 0, .int .i64 0] 46)).alloc (.cells #[.bool false, .bool false, .bool false, .bool false, .bool false, .bool false, .bool false, .bool false, .bool false, .bool false] 47) := ⟨_, rfl⟩
  obtain ⟨rb, hrb⟩ : ∃ rb, rb = w1.heap.size := ⟨_, rfl⟩
  obtain ⟨cb, hcb⟩ : ∃ cb, cb = rb + 1 := ⟨_, rfl⟩
  have X2 := hide (show Ext w1 w2 by rw [hw2]; exact (Ext.new w1 _).alloc _)
  have R2 := hide (show Blk w2 rb 46 (lcs (runT ns 0).la) by rw [hw2, hrb]; exact (Blk.new w1 46 _).alloc _)
  have C2 := hide (show Blk w2 cb 47 (ccs (runT ns 0).co) by rw [hw2, hcb, hrb]; exact blk_new1 w1 _ 47 _)
  have HRB := hide (show w0.heap.size ≤ rb by rw [hrb]; exact (X0.out.trans X1.out).size)
  have HNE := hide (show rb ≠ cb by omega)
  have HCB := hide (show rb ≤ cb by omega)
  rw [← hw2, ← hrb, ← hcb]
  clear hw2 hrb hcb
  have O2 := hide (O1.out.ext X2.out)
  have hne := HNE.out
  have hen := Ne.symm hne
  go_wp2_with (fail)
  go_loopw [6, 7] (fun s6 s7 wr => (∃ i : Nat, i ≤ n ∧ s7 = .int .i64 i ∧ s6 = .int .i64 ((runT ns i).op : Nat) ∧ Hid (At10 w2 wr rb cb (runT ns i) ∧ (runT ns i).op ≤ i))) (fun _ s7 _ => (n - intOf s7).toNat)
  case atStart => exact ⟨0, by omega, rfl, rfl, ⟨R2.out, C2.out, Touch.refl _ _⟩, Nat.le_refl _⟩
  case round =>
    obtain ⟨i, hi, rfl, rfl, hrel⟩ := hrel
    have HO := hide (EnsOwn.far2 O2.out hrel.out.1.2.2 R2.out C2.out (by decide) (by decide))
    by_cases hlt : i < n
    · obtain ⟨x, hx⟩ : ∃ x, ns[i]? = some x := ⟨_, List.getElem?_eq_getElem (by rw [← HN.out]; exact hlt)⟩
      obtain ⟨g, AN, cN, AM, cM, EL, cEL, ED, cED, EO, cEO, hA, hg, hc, he⟩ := HO.out.cells (X := actX i x) (by rw [actsN_at, hx]; simp)
      subst hA
      have q0 := hc 0 _ rfl
      have q1 := hc 1 _ rfl
      have dn : decide ((i : Int) < (n : Int)) = true := decide_eq_true (by omega)
      have HX := hide hx
      clear hc he hx
      obtain ⟨kd, hkd⟩ : ∃ kd, kd = actK x := ⟨_, rfl⟩
      obtain ⟨p, hp⟩ : ∃ p : Nat, p = 1 + x % 5 := ⟨_, rfl⟩
      have hp10 : p < 10 := by have := Nat.mod_lt x (show 0 < 5 by omega); omega
      replace q0 : wr.cell? ⟨g, i * 16, none⟩ = some (.int .i64 kd) := by rw [hkd]; exact q0
      have e15 : ((1 + x % 5 : Nat) : Int) = 1 + ((x % 5 : Nat) : Int) := by push_cast; rfl
      replace q1 : wr.cell? ⟨g, i * 16 + 1, none⟩ = some (.int .i64 (p : Int)) := by rw [hp, e15]; exact q1
      clear e15
      obtain ⟨s, hs⟩ : ∃ s, s = runT ns i := ⟨_, rfl⟩
      rw [← hs] at hrel ⊢
      have HST := hide (show runT ns (i + 1) = (if kd = 1 ∨ kd = 2 ∨ kd = 3 ∨ kd = 4 then ⟨updN s.la p ((i : Int) + 1), updB s.co p (s.co p || decide (kd = 3)), s.op⟩ else if kd = 5 then ⟨updN s.la p 0, updB s.co p false, s.op⟩ else if kd = 6 then ⟨s.la, s.co, s.op + 1⟩ else s : LvT) by
        rw [runT_next HX.out, ← hs, hkd, hp]
        rfl)
      obtain ⟨op, hop⟩ : ∃ op, op = s.op := ⟨_, rfl⟩
      obtain ⟨b, hb⟩ : ∃ b, b = s.co p := ⟨_, rfl⟩
      obtain ⟨v, hv⟩ : ∃ v, v = s.la p := ⟨_, rfl⟩
      have gl : wr.cell? ⟨rb, p, none⟩ = some (.int .i64 v) := by rw [hv]; exact (hrel.out.1.1.cell p).trans (lcs_at _ p hp10)
      have gb : wr.cell? ⟨cb, p, none⟩ = some (.bool b) := by rw [hb]; exact (hrel.out.1.2.1.cell p).trans (ccs_at _ p hp10)
      have fl := hrel.out.1.1.frozen p
      have fb := hrel.out.1.2.1.frozen p
      have hgr : g ≠ rb := by
        obtain ⟨h0, vs, h1, h2⟩ := HO.out
        obtain ⟨cs, hB⟩ := own_block h1 rfl
        exact Blk.ne_ hB hrel.out.1.1 (by decide)
      have hgc : g ≠ cb := by
        obtain ⟨h0, vs, h1, h2⟩ := HO.out
        obtain ⟨cs, hB⟩ := own_block h1 rfl
        exact Blk.ne_ hB hrel.out.1.2.1 (by decide)
      have hrg := Ne.symm hgr
      have hcg := Ne.symm hgc
      have hpi : (p : Int) < 10 := by omega
      have hopi : op ≤ i := by rw [hop]; exact hrel.out.2
      have HOP := hide hop
      have HBB := hide hb
      rw [← hop]
      clear hkd hp hs hop hb hv
      by_cases k1 : kd = 1
      · subst k1
        cases b with
        | true =>
          have HS := hide (show runT ns (i + 1) = ⟨updN s.la p ((i : Int) + 1), updB s.co p true, s.op⟩ by rw [HST.out, if_pos (by omega), ← HBB.out]; rfl)
          go_wp2_with (fail)
          go_roundw
          case rel => exact ⟨i + 1, by omega, by go_num, by rw [HS.out]; exact (by rw [HOP.out]), by rw [HS.out]; exact ⟨hrel.out.1.put hp10 hne, by have := hrel.out.2; simp only []; omega⟩⟩
          case measure => simp [intOf]; omega
        | false =>
          have HS := hide (show runT ns (i + 1) = ⟨updN s.la p ((i : Int) + 1), updB s.co p false, s.op⟩ by rw [HST.out, if_pos (by omega), ← HBB.out]; rfl)
          go_wp2_with (fail)
          go_roundw
          case rel => exact ⟨i + 1, by omega, by go_num, by rw [HS.out]; exact (by rw [HOP.out]), by rw [HS.out]; exact ⟨hrel.out.1.put hp10 hne, by have := hrel.out.2; simp only []; omega⟩⟩
          case measure => simp [intOf]; omega
      · skip
        by_cases k2 : kd = 2
        · subst k2
          cases b with
          | true =>
            have HS := hide (show runT ns (i + 1) = ⟨updN s.la p ((i : Int) + 1), updB s.co p true, s.op⟩ by rw [HST.out, if_pos (by omega), ← HBB.out]; rfl)
            go_wp2_with (fail)
            go_roundw
            case rel => exact ⟨i + 1, by omega, by go_num, by rw [HS.out]; exact (by rw [HOP.out]), by rw [HS.out]; exact ⟨hrel.out.1.put hp10 hne, by have := hrel.out.2; simp only []; omega⟩⟩
            case measure => simp [intOf]; omega
          | false =>
            have HS := hide (show runT ns (i + 1) = ⟨updN s.la p ((i : Int) + 1), updB s.co p false, s.op⟩ by rw [HST.out, if_pos (by omega), ← HBB.out]; rfl)
            go_wp2_with (fail)
            go_roundw
            case rel => exact ⟨i + 1, by omega, by go_num, by rw [HS.out]; exact (by rw [HOP.out]), by rw [HS.out]; exact ⟨hrel.out.1.put hp10 hne, by have := hrel.out.2; simp only []; omega⟩⟩
            case measure => simp [intOf]; omega
        · skip
          by_cases k3 : kd = 3
          · subst k3
            cases b with
            | true =>
              have HS := hide (show runT ns (i + 1) = ⟨updN s.la p ((i : Int) + 1), updB s.co p true, s.op⟩ by rw [HST.out, if_pos (by omega), ← HBB.out]; rfl)
              go_wp2_with (fail)
              go_roundw
              case rel => exact ⟨i + 1, by omega, by go_num, by rw [HS.out]; exact (by rw [HOP.out]), by rw [HS.out]; exact ⟨hrel.out.1.put hp10 hne, by have := hrel.out.2; simp only []; omega⟩⟩
              case measure => simp [intOf]; omega
            | false =>
              have HS := hide (show runT ns (i + 1) = ⟨updN s.la p ((i : Int) + 1), updB s.co p true, s.op⟩ by rw [HST.out, if_pos (by omega), ← HBB.out]; rfl)
              go_wp2_with (fail)
              go_roundw
              case rel => exact ⟨i + 1, by omega, by go_num, by rw [HS.out]; exact (by rw [HOP.out]), by rw [HS.out]; exact ⟨hrel.out.1.put hp10 hne, by have := hrel.out.2; simp only []; omega⟩⟩
              case measure => simp [intOf]; omega
          · skip
            by_cases k4 : kd = 4
            · subst k4
              cases b with
              | true =>
                have HS := hide (show runT ns (i + 1) = ⟨updN s.la p ((i : Int) + 1), updB s.co p true, s.op⟩ by rw [HST.out, if_pos (by omega), ← HBB.out]; rfl)
                go_wp2_with (fail)
                go_roundw
                case rel => exact ⟨i + 1, by omega, by go_num, by rw [HS.out]; exact (by rw [HOP.out]), by rw [HS.out]; exact ⟨hrel.out.1.put hp10 hne, by have := hrel.out.2; simp only []; omega⟩⟩
                case measure => simp [intOf]; omega
              | false =>
                have HS := hide (show runT ns (i + 1) = ⟨updN s.la p ((i : Int) + 1), updB s.co p false, s.op⟩ by rw [HST.out, if_pos (by omega), ← HBB.out]; rfl)
                go_wp2_with (fail)
                go_roundw
                case rel => exact ⟨i + 1, by omega, by go_num, by rw [HS.out]; exact (by rw [HOP.out]), by rw [HS.out]; exact ⟨hrel.out.1.put hp10 hne, by have := hrel.out.2; simp only []; omega⟩⟩
                case measure => simp [intOf]; omega
            · skip
              by_cases k5 : kd = 5
              · subst k5
                have HS := hide (show runT ns (i + 1) = ⟨updN s.la p 0, updB s.co p false, s.op⟩ by rw [HST.out]; rfl)
                go_wp2_with (fail)
                go_roundw
                case rel => exact ⟨i + 1, by omega, by go_num, by rw [HS.out]; exact (by rw [HOP.out]), by rw [HS.out]; exact ⟨hrel.out.1.put hp10 hne, by have := hrel.out.2; simp only []; omega⟩⟩
                case measure => simp [intOf]; omega
              · by_cases k6 : kd = 6
                · subst k6
                  have HS := hide (show runT ns (i + 1) = ⟨s.la, s.co, s.op + 1⟩ by rw [HST.out]; rfl)
                  go_wp2_with (fail)
                  go_roundw
                  case rel => exact ⟨i + 1, by omega, by go_num, by rw [HS.out]; exact (by rw [HOP.out]; go_num), by rw [HS.out]; exact ⟨hrel.out.1, by have := hrel.out.2; simp only []; omega⟩⟩
                  case measure => simp [intOf]; omega
                · have HS := hide (show runT ns (i + 1) = s by rw [HST.out, if_neg (by omega), if_neg k5, if_neg k6])
                  have d1 : (kd == 1) = false := by simpa using k1
                  have d2 : (kd == 2) = false := by simpa using k2
                  have d3 : (kd == 3) = false := by simpa using k3
                  have d4 : (kd == 4) = false := by simpa using k4
                  have d5 : (kd == 5) = false := by simpa using k5
                  have d6 : (kd == 6) = false := by simpa using k6
                  go_wp2_with (fail)
                  go_roundw
                  case rel => exact ⟨i + 1, by omega, by go_num, by rw [HS.out]; exact (by rw [HOP.out]), by rw [HS.out]; exact ⟨hrel.out.1, by have := hrel.out.2; omega⟩⟩
                  case measure => simp [intOf]; omega
    · obtain rfl : i = n := by omega
      have dn : decide ((i : Int) < (i : Int)) = false := decide_eq_false (by omega)
      have CA := hide (gives_lit (all_any wr A3 c3 i (actsN 0 ns) 0 HO.out.at_ (acts_bd ns 0) (by omega)))
      have RT := hide (run_T ns ns.length (Nat.le_refl _))
      rw [List.take_of_length_le (by rw [actsN_len]; exact Nat.le_refl _), ← HN.out] at RT
      obtain ⟨S, hS⟩ : ∃ S, S = seenN sn0 (actsN 0 ns) 1 := ⟨_, rfl⟩
      rw [← hS] at CA RT
      clear hS
      obtain ⟨T, hT⟩ : ∃ T, T = runT ns i := ⟨_, rfl⟩
      rw [← hT] at RT hrel ⊢
      clear hT
      have LL := hide (show S.L.map (fun y => (y.t, y.l, y.c)) = (liveT T.la (List.range 10)).map (fun (k : Nat) => ((k : Int), T.la k, T.co k)) by
        obtain ⟨⟨f, h1, h2⟩, _⟩ := RT.out
        exact live_list h1 h2)
      have hoo := RT.out.2
      have HA10 := hide hrel.out.1
      have hop30 := hrel.out.2
      have HTC := hide (show Ext w0 wr from Below.trans ((X0.out.trans X1.out).trans X2.out) (hrel.out.1.2.2.below (Ext.size ((X0.out.trans X1.out).trans X2.out)) (fun k hk => by have h1 := HRB.out; have h2 := HCB.out; rcases hk with e | e <;> omega)))
      obtain ⟨op, hop⟩ : ∃ op, op = T.op := ⟨_, rfl⟩
      rw [← hop] at hoo hop30 ⊢
      clear hop hrel RT
      go_upto_region 25 with (go_at_call 10; refine CA.out.mono ?_; rintro e w3 ⟨A5, c5, A6, c6, A7, c7, ml, md, mo, mu, mh, rfl, hs3, hx3, hl, hd, ho, hu, hh⟩; have S3 := hide hs3.l; have X3 := hide hx3; have ML := hide hl; have MO := hide ho; clear hs3 hx3 hl hd ho hu hh)
      obtain ⟨w4, hw4⟩ : ∃ w4, w4 = w3.alloc (.cells #[.slice A5 ml c5, .slice A6 md c6, .slice A7 mo c7, .int .i64 mu, .int .i64 mh] 37) := ⟨_, rfl⟩
      obtain ⟨s9, hs9⟩ : ∃ s9, s9 = w3.heap.size := ⟨_, rfl⟩
      have X4 := hide (show Ext w3 w4 by rw [hw4]; exact Ext.new w3 _)
      have B4 := hide (show Blk w4 s9 37 #[.slice A5 ml c5, .slice A6 md c6, .slice A7 mo c7, .int .i64 mu, .int .i64 mh] by rw [hw4, hs9]; exact Blk.new w3 37 _)
      rw [← hw4, ← hs9]
      clear hw4 hs9
      have S4 := hide (X4.out.own S3.out)
      have R4 := hide ((X3.out.trans X4.out).blk HA10.out.1)
      have C4 := hide ((X3.out.trans X4.out).blk HA10.out.2.1)
      have XF := hide (HTC.out.trans (X3.out.trans X4.out))
      have MLL := hide (show ml = (liveT T.la (List.range 10)).length by
        have := congrArg List.length LL.out
        simpa [← ML.out] using this)
      have hml : ml ≤ 10 := by
        rw [MLL.out]
        have := List.length_filter_le (fun k => decide (T.la k ≠ 0)) (List.range 10)
        simpa [liveT] using this
      have dmo : decide ((mo : Int) ≤ (op : Int)) = true := decide_eq_true (by have := MO.out; omega)
      have dmn : decide (mo ≤ op) = true := decide_eq_true (by have := MO.out; omega)
      go_wp2_with (fail)
      go_loopw [10, 11] (fun s10 s11 wr => (∃ k : Nat, k ≤ 10 ∧ s11 = .int .i64 k ∧ s10 = .int .i64 ((liveT T.la (List.range k)).length : Nat) ∧ Hid (Ext w4 wr))) (fun _ s11 _ => (10 - intOf s11).toNat)
      case atStart => exact ⟨0, by omega, rfl, rfl, Ext.refl _⟩
      case round =>
        obtain ⟨k, hk, rfl, rfl, hX⟩ := hrel
        by_cases hk10 : k < 10
        · have gr : wr.cell? ⟨rb, k, none⟩ = some (.int .i64 (T.la k)) := ((hX.out.blk R4.out).cell k).trans (lcs_at _ k hk10)
          have gb : wr.cell? ⟨cb, k, none⟩ = some (.bool (T.co k)) := ((hX.out.blk C4.out).cell k).trans (ccs_at _ k hk10)
          have d10 : decide ((k : Int) < 10) = true := decide_eq_true (by omega)
          have hki : (k : Int) < 10 := by omega
          obtain ⟨v, hv⟩ : ∃ v, v = T.la k := ⟨_, rfl⟩
          obtain ⟨b, hb⟩ : ∃ b, b = T.co k := ⟨_, rfl⟩
          have HV := hide hv
          have HB := hide hb
          rw [← hv] at gr
          rw [← hb] at gb
          clear hv hb
          by_cases hv0 : v = 0
          · subst hv0
            have d0 : ((0 : Int) == 0) = true := rfl
            have HC := hide (live_none (la := T.la) (k := k) HV.out.symm)
            go_wp2_with (fail)
            go_roundw
            case rel => exact ⟨k + 1, by omega, by go_num, by rw [HC.out], hX.out⟩
            case measure => simp [intOf]; omega
          · have d0 : (v == 0) = false := by simpa using hv0
            have hv1 : ¬ T.la k = 0 := by rw [← HV.out]; exact hv0
            have HC := hide (live_some (la := T.la) (k := k) hv1)
            obtain ⟨y, hy, yt, yl, yc⟩ := live_get LL.out hk10 hv1
            obtain ⟨q, hq⟩ : ∃ q, q = (liveT T.la (List.range k)).length := ⟨_, rfl⟩
            rw [← hq] at hy HC ⊢
            clear hq
            have hqm : q < ml := by rw [ML.out]; exact (List.getElem?_eq_some_iff.1 hy).1
            obtain ⟨gd, rfl⟩ := own_some S4.out (by rw [← ML.out]; omega)
            have OD := hide (hX.out.own S4.out)
            have g1 : wr.cell? ⟨s9, 0, none⟩ = some (.slice (some ⟨gd, 0, none⟩) ml c5) := ((hX.out.blk B4.out).cell 0).trans rfl
            have gt : wr.cell? ⟨gd, q * 4, none⟩ = some (.int .i64 (k : Int)) := by rw [OD.out.cellAt _ (by rw [← ML.out]; omega), ← yt]; exact (lvs_at hy).1
            have gv : wr.cell? ⟨gd, q * 4 + 1, none⟩ = some (.int .i64 v) := by rw [OD.out.cellAt _ (by rw [← ML.out]; omega), HV.out, ← yl]; exact (lvs_at hy).2.1
            have gc : wr.cell? ⟨gd, q * 4 + 3, none⟩ = some (.bool b) := by rw [OD.out.cellAt _ (by rw [← ML.out]; omega), HB.out, ← yc]; exact (lvs_at hy).2.2.2
            have dq : decide ((ml : Int) ≤ (q : Int)) = false := decide_eq_false (by omega)
            have dqn : decide (ml ≤ q) = false := decide_eq_false (by omega)
            have dk : ((k : Int) != (k : Int)) = false := by simp
            have dv : (v != v) = false := by simp
            have db : (b != b) = false := by simp
            have hqi : (q : Int) < (ml : Int) := by omega
            clear hv0 hv1 hy yt yl yc
            go_wp2_with (fail)
            go_quiet (fail)
            go_wp2_with (fail)
            go_roundw
            case rel => exact ⟨k + 1, by omega, by go_num, by rw [HC.out]; go_num, (hX.out).drewN _⟩
            case measure => simp [intOf]; omega
        · obtain rfl : k = 10 := by omega
          have d10 : decide (((10 : Nat) : Int) < 10) = false := rfl
          rw [← MLL.out]
          have g1 : wr.cell? ⟨s9, 0, none⟩ = some (.slice A5 ml c5) := ((hX.out.blk B4.out).cell 0).trans rfl
          have g2 : wr.cell? ⟨s9, 2, none⟩ = some (.slice A7 mo c7) := ((hX.out.blk B4.out).cell 2).trans rfl
          have dml : ((ml : Int) == (ml : Int)) = true := by simp
          go_wp2_with (fail)
          go_ret
          exact ⟨rfl, XF.out.trans hX.out⟩
set_option maxRecDepth 1000000 in
theorem walk_long (A : Option Addr) (n c : Nat) (w : World) (h1 : (30 : Int) < n) : Calls Try.prog 4 #[.slice A n c] w fun e w' => e = .returned (.bool true) ∧ Ext w w' := by
  go_enter Try.func4, Try.ntmps4
  go_wp2_with (go_at_call 8; refine (begun_any _).mono ?_; rintro e w1 ⟨rfl, b1⟩)
  go_ret
  exact ⟨rfl, b1⟩
end Go.Proofs.Ytaijgnhkdbdfcaa.lookLives
