/- LookEnds: the walk. (Printed by mk_ends.py.) -/
import Derived.Test.YtaijgnhkdbdfcaaEnt
namespace Go.Proofs.Ytaijgnhkdbdfcaa.lookEnds
open Go.ChangeShapes Go.WideShapes Go.ChangeAt Go.RowKit
set_option linter.unusedVariables false

def nb (ns : List Nat) : List Value := ns.map (fun (x : Nat) => Value.int .u8 (x : Int))
/-- an entry by its number -/
def actE (x : Nat) : En := ⟨{ kind := 1 + ((x / 5 % 4 : Nat) : Int), t := 1 + ((x % 5 : Nat) : Int), u := 0, h := 0, p := 0, nx := 0, a0 := 0, a1 := 0, b0 := 0, b1 := 0, NL := [], mv := [] }, [], [], []⟩
/-- an end -/
def endE (t : Int) : En := ⟨{ kind := 5, t := t, u := 0, h := 0, p := 0, nx := 0, a0 := 0, a1 := 0, b0 := 0, b1 := 0, NL := [], mv := [] }, [], [], []⟩
def endsL (k : Nat) : List En := (List.range k).map (fun (j : Nat) => endE ((j : Int) + 1))
theorem endsL_succ (k : Nat) : endsL (k + 1) = endsL k ++ [endE ((k : Int) + 1)] := by simp [endsL, List.range_succ]
theorem endsL_len (k : Nat) : (endsL k).length = k := by simp [endsL]
/-- those who live are between two numbers -/
def Inv (lo : Int) (s : Sn) : Prop := ∃ f, Rep s.L f ∧ ∀ u x, f u = some x → lo ≤ u ∧ u ≤ 5
theorem Inv.act {s : Sn} (h : Inv 1 s) (x : Nat) (lsn : Int) : Inv 1 (onN s (actE x) lsn) := by
  obtain ⟨f, hr, hf⟩ := h
  have h4 : x / 5 % 4 < 4 := Nat.mod_lt _ (by omega)
  have h5 : x % 5 < 5 := Nat.mod_lt _ (by omega)
  refine ⟨_, hr.on (actE x) lsn (by simp only [actE]; omega), fun u y hu => ?_⟩
  unfold onL at hu
  rw [if_pos (by simp only [actE]; omega)] at hu
  by_cases hut : u = (actE x).E.t
  · subst hut
    simp only [actE]
    omega
  · rw [upd_ne f _ hut] at hu
    exact hf u y hu
theorem Inv.acts (ns : List Nat) : ∀ (s : Sn) (lsn : Int), Inv 1 s → Inv 1 (seenN s (ns.map actE) lsn) := by
  induction ns with
  | nil => intro s lsn h; exact h
  | cons x ns ih => intro s lsn h; exact ih _ _ (h.act x lsn)
theorem Inv.end_ {s : Sn} {t : Int} (h : Inv t s) (lsn : Int) : Inv (t + 1) (onN s (endE t) lsn) := by
  obtain ⟨f, hr, hf⟩ := h
  refine ⟨_, hr.on (endE t) lsn (by simp [endE]), fun u y hu => ?_⟩
  unfold onL at hu
  rw [if_neg (by simp [endE]), if_pos (show (endE t).E.kind = 5 from rfl)] at hu
  by_cases hut : u = t
  · subst hut
    have : upd f u none u = some y := hu
    rw [upd_same] at this
    cases this
  · have h2 : upd f t none u = some y := hu
    rw [upd_ne f _ hut] at h2
    have := hf u y h2
    omega
theorem inv_at (ns : List Nat) (lsn : Int) : ∀ k : Nat, Inv ((k : Int) + 1) (seenN sn0 (ns.map actE ++ endsL k) lsn)
  | 0 => by
    have := Inv.acts ns sn0 lsn ⟨_, Rep.nil, fun u x h => by cases h⟩
    simpa [endsL] using this
  | k + 1 => by
    rw [endsL_succ, ← List.append_assoc, seenN_snoc]
    have := (inv_at ns lsn k).end_ (lsn + ((ns.map actE ++ endsL k).length : Int))
    have e : ((k + 1 : Nat) : Int) + 1 = (k : Int) + 1 + 1 := by push_cast; rfl
    rw [e]
    exact this
theorem Inv.lo {s : Sn} {lo : Int} (h : Inv lo s) : ∀ x ∈ s.L, lo ≤ x.t ∧ x.t ≤ 5 := by
  obtain ⟨f, hr, hf⟩ := h
  intro x hx
  exact hf x.t x ((hr.2.1 x).1 hx)
theorem bd_of {l : List En} (h : ∀ X ∈ l, X.E.mv = [] ∧ X.L = [] ∧ X.D = [] ∧ X.O = []) (m : Nat) : ∀ k X, l[k]? = some X → BdX (m + k) X := fun k X hx => by
  obtain ⟨h1, h2, h3, h4⟩ := h X (List.mem_of_getElem? hx)
  exact ⟨by rw [h1]; simp, by rw [h2]; simp, by rw [h3]; simp, by rw [h4]; simp, by rw [h4]; simp⟩
theorem ends_bd (ns : List Nat) (k m : Nat) : ∀ j X, (ns.map actE ++ endsL k)[j]? = some X → BdX (m + j) X := bd_of (fun X hX => by
  rcases List.mem_append.1 hX with hX | hX
  · obtain ⟨x, _, rfl⟩ := List.mem_map.1 hX
    exact ⟨rfl, rfl, rfl, rfl⟩
  · obtain ⟨x, _, rfl⟩ := List.mem_map.1 hX
    exact ⟨rfl, rfl, rfl, rfl⟩) m
theorem bd_len {l : List En} {lsn : Int} {m : Nat} (hX : ∀ k X, l[k]? = some X → BdX (m + k) X) : Bd (m + l.length) (seenN sn0 l lsn) := by
  have := Bd.run (lsn := lsn) hX l.length (Nat.le_refl _)
  rwa [List.take_length] at this
set_option maxRecDepth 1000000 in
set_option maxHeartbeats 40000000 in
theorem walk_short (A : Option Addr) (c n : Nat) (ns : List Nat) (w0 : World) (hr : Reads w0 w0.heap.size 1 A n (nb ns)) (hn : n = ns.length) (hz : ∀ x ∈ ns, x ≤ 255) (hl : n ≤ 20) :
    Calls Try.prog 7 #[.slice A n c] w0 fun e w' => e = .returned (.bool true) ∧ Ext w0 w' := by
  have HR0 := hide hr
  have HN := hide hn
  have HZ := hide hz
  have dl : decide ((20 : Int) < (n : Int)) = false := decide_eq_false (by omega)
  clear hr hn hz
  go_enter Try.func7, Try.ntmps7
  go_wp2_with (go_at_call 8; refine (begun_any _).mono ?_; rintro e w ⟨rfl, hx0⟩; have X0 := hide hx0; clear hx0)
  have HR := hide (X0.out.read HR0.out)
  go_loopw [3, 4] (fun s3 s4 wr => (∃ i : Nat, i ≤ n ∧ s4 = .int .i64 i ∧ Hid (∃ A3 c3, s3 = .slice A3 i c3 ∧ EnsOwn wr w.heap.size ((ns.take i).map actE) A3 i c3 ∧ Ext w wr))) (fun _ s4 _ => (n - intOf s4).toNat)
  case atStart => exact ⟨0, by omega, rfl, none, 0, rfl, EnsOwn.nil _ _, Ext.refl _⟩
  case round =>
    obtain ⟨i, hi, rfl, hs0⟩ := hrel
    obtain ⟨A3, c3, rfl, ho, hx⟩ := hs0.out
    have HO := hide ho
    have X := hide hx
    clear hs0 ho hx
    by_cases hlt : i < n
    · have dn : decide ((i : Int) < (n : Int)) = true := decide_eq_true (by omega)
      obtain ⟨bk, off, hAe, hbw, hcell⟩ := HR.out.plain (by omega) (by omega)
      subst hAe
      obtain ⟨x, hx⟩ : ∃ x, ns[i]? = some x := ⟨_, List.getElem?_eq_getElem (by rw [← HN.out]; exact hlt)⟩
      have hx1 : x ≤ 255 := HZ.out x (List.mem_of_getElem? hx)
      have gx := (X.out.cell (p := ⟨bk, off + i, none⟩) hbw).trans (hcell i (.int .u8 (x : Int)) (by simp [nb, hx]))
      have HX := hide hx
      clear hcell hx
      obtain ⟨q, hq⟩ : ∃ q : Nat, x / 5 % 4 = q := ⟨_, rfl⟩
      obtain ⟨r, hr⟩ : ∃ r : Nat, x % 5 = r := ⟨_, rfl⟩
      have eq_ : (x : Int) / 5 % 4 = (q : Int) := by omega
      have er : (x : Int) % 5 = (r : Int) := by omega
      have hq4 : q < 4 := by omega
      have HA := hide (show actE x = ⟨{ kind := 1 + (q : Int), t := 1 + (r : Int), u := 0, h := 0, p := 0, nx := 0, a0 := 0, a1 := 0, b0 := 0, b1 := 0, NL := [], mv := [] }, [], [], []⟩ by rw [actE, hq, hr])
      have wt : IntKind.i64.wrap (1 + (r : Int)) = 1 + (r : Int) := by simp [IntKind.wrap, IntKind.signed, IntKind.bits]; omega
      have kq : (#[.int .i64 1, .int .i64 2, .int .i64 3, .int .i64 4] : Array Value)[q]? = some (.int .i64 (1 + (q : Int))) := by
        rcases (show q = 0 ∨ q = 1 ∨ q = 2 ∨ q = 3 by omega) with rfl | rfl | rfl | rfl <;> rfl
      have bl := (Blk.new wr 3 #[.int .i64 1, .int .i64 2, .int .i64 3, .int .i64 4]).cell q
      rw [kq] at bl
      have gx1 := ((Ext.new wr (.cells #[.int .i64 1, .int .i64 2, .int .i64 3, .int .i64 4] 3)).cell (World.block_lt_of_cell? _ _ gx)).trans gx
      clear hq hr kq
      go_upto_region 10 with (fail)
      obtain ⟨w2, hw2⟩ : ∃ w2, w2 = wr.alloc (.cells #[.int .i64 1, .int .i64 2, .int .i64 3, .int .i64 4] 3) := ⟨_, rfl⟩
      have X2 := hide (show Ext wr w2 by rw [hw2]; exact Ext.new wr _)
      have sz : w2.heap.size = wr.heap.size + 1 := by rw [hw2]; simp
      rw [← hw2]
      have gx2 := (X2.out.cell (World.block_lt_of_cell? _ _ gx)).trans gx
      clear hw2 bl gx gx1 sz
      have X3 := hide (Ext.new w2 (.cells #[.int .i64 (1 + (q : Int)), .int .i64 (1 + (r : Int)), .int .i64 0, .int .i64 0, .int .i64 0, .int .i64 0, .int .i64 0, .int .i64 0, .int .i64 0, .int .i64 0, .slice none 0 0, .slice none 0 0, .slice none 0 0, .slice none 0 0, .slice none 0 0, .slice none 0 0] 35))
      have V3 := hide (Blk.new w2 35 #[.int .i64 (1 + (q : Int)), .int .i64 (1 + (r : Int)), .int .i64 0, .int .i64 0, .int .i64 0, .int .i64 0, .int .i64 0, .int .i64 0, .int .i64 0, .int .i64 0, .slice none 0 0, .slice none 0 0, .slice none 0 0, .slice none 0 0, .slice none 0 0, .slice none 0 0])
      have O3 := hide (HO.out.ext (X2.out.trans X3.out))
      have HB3 := hide (show w.heap.size ≤ (w2.alloc (.cells #[.int .i64 (1 + (q : Int)), .int .i64 (1 + (r : Int)), .int .i64 0, .int .i64 0, .int .i64 0, .int .i64 0, .int .i64 0, .int .i64 0, .int .i64 0, .int .i64 0, .slice none 0 0, .slice none 0 0, .slice none 0 0, .slice none 0 0, .slice none 0 0, .slice none 0 0] 35)).heap.size from (X.out.trans (X2.out.trans X3.out)).size)
      have HE3 := hide (show EnIs (w2.alloc (.cells #[.int .i64 (1 + (q : Int)), .int .i64 (1 + (r : Int)), .int .i64 0, .int .i64 0, .int .i64 0, .int .i64 0, .int .i64 0, .int .i64 0, .int .i64 0, .int .i64 0, .slice none 0 0, .slice none 0 0, .slice none 0 0, .slice none 0 0, .slice none 0 0, .slice none 0 0] 35)) (actE x) [.int .i64 (1 + (q : Int)), .int .i64 (1 + (r : Int)), .int .i64 0, .int .i64 0, .int .i64 0, .int .i64 0, .int .i64 0, .int .i64 0, .int .i64 0, .int .i64 0, .slice none 0 0, .slice none 0 0, .slice none 0 0, .slice none 0 0, .slice none 0 0, .slice none 0 0] by rw [HA.out]; exact ⟨none, 0, none, 0, none, 0, none, 0, none, 0, rfl, enAt_nil _ _ rfl rfl⟩)
      go_wp2_with (at_builtin; refine wpList_append_ens _ rfl (.tmp 29) (.tmp 39) rfl w.heap.size ((ns.take i).map actE) A3 i c3 rfl w2.heap.size rfl (actE x) [.int .i64 (1 + (q : Int)), .int .i64 (1 + (r : Int)), .int .i64 0, .int .i64 0, .int .i64 0, .int .i64 0, .int .i64 0, .int .i64 0, .int .i64 0, .int .i64 0, .slice none 0 0, .slice none 0 0, .slice none 0 0, .slice none 0 0, .slice none 0 0, .slice none 0 0] O3.out V3.out HE3.out (by omega) HB3.out ?_; intro A4 c4 w4 ho4 _ hx4 _; have O4 := hide ho4; have X4 := hide (hx4 (Nat.le_refl _) (X.out.trans (X2.out.trans X3.out))); clear ho4 hx4)
      go_roundw
      case rel => exact ⟨i + 1, by omega, by go_num, A4, c4, rfl, by
        have hk := (List.getElem?_eq_some_iff.1 HX.out).1
        have e : ns[i] = x := (List.getElem?_eq_some_iff.1 HX.out).2
        rw [List.take_succ_eq_append_getElem hk, List.map_append, e]
        exact O4.out, X4.out⟩
      case measure => simp [intOf]; omega
    · obtain rfl : i = n := by omega
      have dn : decide ((i : Int) < (i : Int)) = false := decide_eq_false (by omega)
      have et : ns.take i = ns := List.take_of_length_le (by rw [← HN.out]; exact Nat.le_refl _)
      rw [et] at HO
      clear et
      go_wp2_with (fail)
      go_loopw [3, 6] (fun s3 s6 wr => (∃ t : Nat, t ≤ 5 ∧ s6 = .int .i64 ((t : Int) + 1) ∧ Hid (∃ A3 c3, s3 = .slice A3 (i + t) c3 ∧ EnsOwn wr w.heap.size (ns.map actE ++ endsL t) A3 (i + t) c3 ∧ Ext w wr))) (fun _ s6 _ => (6 - intOf s6).toNat)
      case atStart => exact ⟨0, by omega, by simp, A3, c3, rfl, by simpa [endsL] using HO.out, X.out⟩
      case round =>
        clear HO X
        obtain ⟨t, ht, rfl, hs0⟩ := hrel
        obtain ⟨A3, c3, rfl, ho, hx⟩ := hs0.out
        have HO := hide ho
        have X := hide hx
        have CA := hide (gives_lit (all_any _ A3 c3 (i + t) (ns.map actE ++ endsL t) 0 ho.at_ (ends_bd ns t 0) (by omega)))
        have INV := hide (inv_at ns 1 t).lo
        clear hs0 ho hx
        obtain ⟨S, hS⟩ : ∃ S, S = seenN sn0 (ns.map actE ++ endsL t) 1 := ⟨_, rfl⟩
        rw [← hS] at CA INV
        have HML := hide (show S.L.length ≤ 25 by rw [hS]; have := (bd_len (lsn := 1) (ends_bd ns t 0)).l; have h2 := HO.out.1; omega)
        clear hS
        by_cases hlt : t < 5
        · have d5 : decide ((t : Int) + 1 ≤ 5) = true := decide_eq_true (by omega)
          go_upto_region 15 with (go_at_call 10; refine CA.out.mono ?_; rintro e w3 ⟨A5, c5, A6, c6, A7, c7, ml, md, mo, mu, mh, rfl, hs3, hx3, hl, hd, ho, hu, hh⟩; have S3 := hide hs3.l; have X3 := hide hx3; have ML := hide hl; clear hs3 hx3 hl hd ho hu hh)
          obtain ⟨w4, hw4⟩ : ∃ w4, w4 = w3.alloc (.cells #[.slice A5 ml c5, .slice A6 md c6, .slice A7 mo c7, .int .i64 mu, .int .i64 mh] 37) := ⟨_, rfl⟩
          obtain ⟨s7, hs7⟩ : ∃ s7, s7 = w3.heap.size := ⟨_, rfl⟩
          have X4 := hide (show Ext w3 w4 by rw [hw4]; exact Ext.new w3 _)
          have B4 := hide (show Blk w4 s7 37 #[.slice A5 ml c5, .slice A6 md c6, .slice A7 mo c7, .int .i64 mu, .int .i64 mh] by rw [hw4, hs7]; exact Blk.new w3 37 _)
          rw [← hw4, ← hs7]
          clear hw4 hs7
          have g0 : w4.cell? ⟨s7, 0, none⟩ = some (.slice A5 ml c5) := (B4.out.cell 0).trans rfl
          have S4 := hide (X4.out.own S3.out)
          have X14 := hide (X.out.trans (X3.out.trans X4.out))
          have HO4 := hide (HO.out.ext (X3.out.trans X4.out))
          have hml : ml ≤ 1000 := by rw [ML.out]; have := HML.out; omega
          clear CA HO
          go_wp2_with (fail)
          go_loopw [8] (fun s8 wr => (∃ k : Nat, k ≤ ml ∧ s8 = .int .i64 k ∧ w4 = wr)) (fun s8 _ => (ml - intOf s8).toNat)
          case atStart => exact ⟨0, by omega, rfl, rfl⟩
          case round =>
            obtain ⟨k, hk, rfl, rfl⟩ := hrel
            by_cases hkl : k < ml
            · obtain ⟨x, hx⟩ : ∃ x, S.L[k]? = some x := ⟨_, List.getElem?_eq_getElem (by rw [← ML.out]; exact hkl)⟩
              have hxt := (INV.out x (List.mem_of_getElem? hx)).1
              obtain ⟨g, rfl⟩ := own_some S4.out (by rw [← ML.out]; omega)
              have gx : w4.cell? ⟨g, k * 4, none⟩ = some (.int .i64 x.t) := by rw [S4.out.cellAt _ (by rw [← ML.out]; omega)]; exact (lvs_at hx).1
              have dn : decide ((k : Int) < (ml : Int)) = true := decide_eq_true (by omega)
              have dx : decide (x.t < (t : Int) + 1) = false := decide_eq_false (by omega)
              clear hx hxt
              go_wp2_with (fail)
              go_roundw
              case rel => exact ⟨k + 1, by omega, by go_num, by trivial⟩
              case measure => simp [intOf]; omega
            · obtain rfl : k = ml := by omega
              have dn : decide ((k : Int) < (k : Int)) = false := decide_eq_false (by omega)
              have X5 := hide (Ext.new w4 (.cells #[.int .i64 5, .int .i64 ((t : Int) + 1), .int .i64 0, .int .i64 0, .int .i64 0, .int .i64 0, .int .i64 0, .int .i64 0, .int .i64 0, .int .i64 0, .slice none 0 0, .slice none 0 0, .slice none 0 0, .slice none 0 0, .slice none 0 0, .slice none 0 0] 35))
              have V5 := hide (Blk.new w4 35 #[.int .i64 5, .int .i64 ((t : Int) + 1), .int .i64 0, .int .i64 0, .int .i64 0, .int .i64 0, .int .i64 0, .int .i64 0, .int .i64 0, .int .i64 0, .slice none 0 0, .slice none 0 0, .slice none 0 0, .slice none 0 0, .slice none 0 0, .slice none 0 0])
              have O5 := hide (HO4.out.ext X5.out)
              have HB5 := hide (show w.heap.size ≤ (w4.alloc (.cells #[.int .i64 5, .int .i64 ((t : Int) + 1), .int .i64 0, .int .i64 0, .int .i64 0, .int .i64 0, .int .i64 0, .int .i64 0, .int .i64 0, .int .i64 0, .slice none 0 0, .slice none 0 0, .slice none 0 0, .slice none 0 0, .slice none 0 0, .slice none 0 0] 35)).heap.size from (X14.out.trans X5.out).size)
              have HE5 := hide (show EnIs (w4.alloc (.cells #[.int .i64 5, .int .i64 ((t : Int) + 1), .int .i64 0, .int .i64 0, .int .i64 0, .int .i64 0, .int .i64 0, .int .i64 0, .int .i64 0, .int .i64 0, .slice none 0 0, .slice none 0 0, .slice none 0 0, .slice none 0 0, .slice none 0 0, .slice none 0 0] 35)) (endE ((t : Int) + 1)) [.int .i64 5, .int .i64 ((t : Int) + 1), .int .i64 0, .int .i64 0, .int .i64 0, .int .i64 0, .int .i64 0, .int .i64 0, .int .i64 0, .int .i64 0, .slice none 0 0, .slice none 0 0, .slice none 0 0, .slice none 0 0, .slice none 0 0, .slice none 0 0] from ⟨none, 0, none, 0, none, 0, none, 0, none, 0, rfl, enAt_nil _ _ rfl rfl⟩)
              go_wp2_with (at_builtin; refine wpList_append_ens _ rfl (.tmp 62) (.tmp 65) rfl w.heap.size (ns.map actE ++ endsL t) A3 (i + t) c3 rfl w4.heap.size rfl (endE ((t : Int) + 1)) [.int .i64 5, .int .i64 ((t : Int) + 1), .int .i64 0, .int .i64 0, .int .i64 0, .int .i64 0, .int .i64 0, .int .i64 0, .int .i64 0, .int .i64 0, .slice none 0 0, .slice none 0 0, .slice none 0 0, .slice none 0 0, .slice none 0 0, .slice none 0 0] O5.out V5.out HE5.out (by omega) HB5.out ?_; intro A4 c4 w6 ho4 _ hx4 _; have O6 := hide ho4; have X6 := hide (hx4 (Nat.le_refl _) (X14.out.trans X5.out)); clear ho4 hx4)
              go_roundw
              case rel => exact ⟨t + 1, by omega, by push_cast; rfl, A4, c4, rfl, by rw [endsL_succ, ← List.append_assoc]; exact O6.out, X6.out⟩
              case measure => simp [intOf]; omega
        · obtain rfl : t = 5 := by omega
          have d5 : decide (((5 : Nat) : Int) + 1 ≤ 5) = false := rfl
          have L0 := hide (show S.L.length = 0 by
            cases hL : S.L with
            | nil => rfl
            | cons x L =>
              have h1 := INV.out x (by rw [hL]; exact List.mem_cons_self)
              omega)
          have field0 : ∀ (A5 A6 A7 : Option Addr) (c5 c6 c7 md mo : Nat) (mu mh : Int) (w : World), (Instr.field 37 (.agg #[.slice A5 0 c5, .slice A6 md c6, .slice A7 mo c7, .int .i64 mu, .int .i64 mh]) 0).run Try.prog w = .ok (.slice A5 0 c5) w := fun _ _ _ _ _ _ _ _ _ _ _ => by kernel_rfl
          go_wp2_with (go_at_call 10; refine CA.out.mono ?_; rintro e w3 ⟨A5, c5, A6, c6, A7, c7, ml, md, mo, mu, mh, rfl, hs3, hx3, hl, hd, ho, hu, hh⟩; obtain rfl : ml = 0 := hl.trans L0.out; have X3 := hide hx3; clear hs3 hx3 hl hd ho hu hh)
          go_ret
          exact ⟨rfl, X0.out.trans (X.out.trans X3.out)⟩
set_option maxRecDepth 1000000 in
theorem walk_long (A : Option Addr) (n c : Nat) (w : World) (h1 : (20 : Int) < n) : Calls Try.prog 7 #[.slice A n c] w fun e w' => e = .returned (.bool true) ∧ Ext w w' := by
  go_enter Try.func7, Try.ntmps7
  go_wp2_with (go_at_call 8; refine (begun_any _).mono ?_; rintro e w1 ⟨rfl, b1⟩)
  go_ret
  exact ⟨rfl, b1⟩
end Go.Proofs.Ytaijgnhkdbdfcaa.lookEnds
