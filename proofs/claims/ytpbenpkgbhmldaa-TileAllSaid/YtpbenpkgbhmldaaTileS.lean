/- Tile: contracts: Sync, Arm. -/
import Derived.Test.YtpbenpkgbhmldaaTileW
namespace Go.Proofs.Ytpbenpkgbhmldaa
open Go.ChangeShapes Go.WideShapes Go.ChangeAt Go.RowKit Go.Maps
set_option linter.unusedVariables false

theorem sync_dead (Y Z : Nat → Prop) (w : World) (g N : Nat) (T : List (List UInt8)) (U : Int → Option (List UInt8)) (pl : Option (Int × List UInt8)) (h : Disk Y Z w g N true T U pl) :
    Calls Try.prog 14 #[.pointer (some ⟨g, 0, none⟩)] w fun e w' => e = .returned (.int .i64 2) ∧ w = w' := by
  obtain ⟨vt, m, p, ts, f, h⟩ := h
  have c2 := h.blk.cell 2
  simp at c2
  clear h
  go_enter Try.func14, Try.ntmps14
  go_wp2
  go_ret
  exact ⟨rfl, rfl⟩
theorem sync_nil (w : World) : Calls Try.prog 14 #[.pointer none] w fun e w' => e = .returned (.int .i64 1) ∧ w = w' := by
  go_enter Try.func14, Try.ntmps14
  go_wp2
  go_ret
  exact ⟨rfl, rfl⟩
/-- what a Sync leaves -/
def Synced (Y Z : Nat → Prop) (w : World) (g : Nat) (T : List (List UInt8)) (U : Int → Option (List UInt8)) (pl : Option (Int × List UInt8)) (e : Ending) (w' : World) : Prop :=
  Turn Y w w' ∧ ((e = .returned (.int .i64 0) ∧ (∀ M, pl ≠ some (0, M)) ∧ Disk Y Z w' g 0 false T (fun _ => none) (dec pl)) ∨
    (e = .returned (.int .i64 2) ∧ ∃ M, pl = some (0, M) ∧ Disk Y Z w' g 0 true (crT M U T) (fun _ => none) none))
set_option maxRecDepth 100000 in
set_option maxHeartbeats 4000000 in
theorem sync_in (Y Z : Nat → Prop) (w : World) (g N : Nat) (T : List (List UInt8)) (U : Int → Option (List UInt8)) (pl : Option (Int × List UInt8)) (h : Disk Y Z w g N false T U pl) (hT : T.length ≤ 2000) (hN : N ≤ 1000000) (hp : Pok pl) :
    Calls Try.prog 14 #[.pointer (some ⟨g, 0, none⟩)] w (Synced Y Z w g T U pl) := by
  have HD := hide h
  have HP := hide hp
  have HT2 := hide hT
  obtain ⟨vt, m, p, ts, f, h⟩ := h
  have c2 := h.blk.cell 2
  simp at c2
  clear h hp hT
  rcases pl with _ | ⟨a, M⟩
  · have c1 : ∃ m, w.cell? ⟨g, 1, none⟩ = some (.map (some m)) ∧ ∃ w2, (∀ ty, (Builtin.clear_ #[62] ty #[.map (some m)]).run Try.prog w = .ok (.tuple #[]) w2) ∧ Disk Y Z w2 g 0 false T (fun _ => none) none ∧ Turn Y w w2 := by
      obtain ⟨vt, m, p, ts, f, h⟩ := HD.out
      obtain ⟨w2, hrun, hw2, ht2⟩ := h.was.clear_
      have h2 := h.none_ hw2 ht2
      have c1 := h.blk.cell 1
      simp at c1
      exact ⟨m, c1, w2, hrun, ⟨vt, m, p, ts, _, h2.1⟩, h2.2⟩
    obtain ⟨m', c1, w2, hrun, h2, t2⟩ := c1
    have hrun0 := hrun 0
    have H2 := hide h2
    clear hrun h2
    go_enter Try.func14, Try.ntmps14
    go_wp2_with (go_at_call 31; refine (cut_none Y Z _ g N false _ _ HD.out).mono ?_; rintro e w7 ⟨rfl, rfl⟩)
    go_ret
    exact ⟨t2, .inl ⟨rfl, fun M => by simp, H2.out⟩⟩
  · by_cases ha : a = 0
    · subst ha
      go_enter Try.func14, Try.ntmps14
      go_wp2_with (fail)
      refine (cut_yes Y Z _ g N false _ _ M HD.out).mono ?_
      rintro e w7 ⟨rfl, h7, t7⟩
      obtain ⟨pb, Am, nm, cm, cs, y3, y1, hM⟩ := h7.mask
      have H7 := hide h7
      have HM7 := hide hM
      clear h7 hM
      go_wp2_with (go_at_call 15; refine (crash_any Y Z w7 g N false _ _ _ Am cm nm M H7.out (by omega) HT2.out HM7.out.1 HM7.out.2 (by rw [← HM7.out.1]; exact HP.out.2.2)).mono ?_; rintro e w8 ⟨rfl, h8, t8⟩)
      go_ret
      exact ⟨t7.trans t8, .inr ⟨rfl, M, rfl, h8⟩⟩
    · go_enter Try.func14, Try.ntmps14
      go_wp2_with (fail)
      refine (cut_no Y Z _ g N false _ _ a M HD.out (by have := HP.out.1; omega) HP.out.2.1).mono ?_
      rintro e w7 ⟨rfl, h7, t7⟩
      have HA := hide ha
      obtain ⟨vt, m, p, ts, f, h7⟩ := h7
      obtain ⟨w2, hrun, hw2, ht2⟩ := h7.was.clear_
      obtain ⟨d2, t2⟩ := h7.none_ hw2 ht2
      have H2 := hide (show Disk Y Z w2 g 0 false T (fun _ => none) (some (a - 1, M)) from ⟨vt, m, p, ts, _, d2⟩)
      have c1 := h7.blk.cell 1
      simp at c1
      have hrun0 := hrun 0
      clear ha h7 hrun hw2 ht2 d2
      go_wp2_with (fail)
      go_ret
      exact ⟨t7.trans t2, .inl ⟨rfl, fun M' e => by injection e with e; injection e with e1 e2; exact HA.out e1, H2.out⟩⟩
/-- no plan -/
theorem Dk.unplan {Y Z : Nat → Prop} {w : World} {g m n N : Nat} {vt : Value} {p : Option Addr} {dead : Bool} {ts : List Value} {T : List (List UInt8)} {f : Int → Option Value} {U : Int → Option (List UInt8)} {pl : Option (Int × List UInt8)}
    (h : Dk Y Z w g vt m p dead n N ts T f U pl) : Dk Y Z (w.setCell ⟨g, 3, none⟩ (.pointer none)) g vt m none dead n N ts T f U none ∧ Turn Y w (w.setCell ⟨g, 3, none⟩ (.pointer none)) :=
  h.cell_ dead (show Pl w Y Z none none from rfl) (by have := h.blk.set_ 3 (.pointer none); simpa using this) (Touch.setCell (F := fun k => k = g) (p := ⟨g, 3, none⟩) (Touch.refl w _) (fun _ => rfl) _)
/-- a new plan -/
theorem Dk.newplan {Y Z : Nat → Prop} {w : World} {g m n N pb : Nat} {vt u : Value} {p : Option Addr} {dead : Bool} {ts : List Value} {T : List (List UInt8)} {f : Int → Option Value} {U : Int → Option (List UInt8)} {pl : Option (Int × List UInt8)} {a : Int} {M : List UInt8}
    (h : Dk Y Z w g vt m p dead n N ts T f U pl) (hb : Blk w pb 71 #[.int .i64 a, u]) (hu : Tl w Z u M) (hy : Y pb) : Dk Y Z (w.setCell ⟨g, 3, none⟩ (.pointer (some ⟨pb, 0, none⟩))) g vt m (some ⟨pb, 0, none⟩) dead n N ts T f U (some (a, M)) ∧ Turn Y w (w.setCell ⟨g, 3, none⟩ (.pointer (some ⟨pb, 0, none⟩))) :=
  h.cell_ dead (show Pl w Y Z (some ⟨pb, 0, none⟩) (some (a, M)) from ⟨pb, u, rfl, hy, hb, hu⟩) (by have := h.blk.set_ 3 (.pointer (some ⟨pb, 0, none⟩)); simpa using this) (Touch.setCell (F := fun k => k = g) (p := ⟨g, 3, none⟩) (Touch.refl w _) (fun _ => rfl) _)
/-- the plan that an Arm leaves -/
def armed (a : Int) (M : List UInt8) : Option (Int × List UInt8) := if a < 0 then none else some (a, M)
theorem arm_any (Y Z : Nat → Prop) (w : World) (g N : Nat) (dead : Bool) (T : List (List UInt8)) (U : Int → Option (List UInt8)) (pl : Option (Int × List UInt8)) (a : Int) (M : List UInt8) (A : Option Addr) (c n : Nat) (h : Disk Y Z w g N dead T U pl) (hl : M.length = n) (hn : n ≤ 1048576) (hA : A = none → c = 0)
    (hr : ∀ w', Turn Y w w' → Reads w' w'.heap.size 1 A n (bv M)) (hZ : ∀ k, w.heap.size ≤ k → Z k) (hY : ∀ k, w.heap.size ≤ k → Y k) :
    Calls Try.prog 20 #[.pointer (some ⟨g, 0, none⟩), .int .i64 a, .slice A n c] w fun e w' => e = .returned (.tuple #[]) ∧ Disk Y Z w' g N dead T U (armed a M) ∧ Turn Y w w' := by
  obtain ⟨vt, m, p, ts, f, h⟩ := h
  have c3 := h.blk.cell 3
  simp at c3
  have f3 := h.blk.frozen 3
  obtain ⟨d1, t1⟩ := h.unplan
  have H1 := hide d1
  have T1 := hide t1
  have HR := hide hr
  have HA := hide hA
  have HL := hide hl
  have HZ := hide hZ
  have HY := hide hY
  clear h d1 t1 hr hA hl hZ hY
  by_cases ha : a < 0
  · have HA2 := hide (show armed a M = none by unfold armed; rw [if_pos ha])
    go_enter Try.func20, Try.ntmps20
    go_wp2_with (fail)
    go_end0
    exact ⟨rfl, by rw [HA2.out]; exact ⟨vt, m, none, ts, f, H1.out⟩, T1.out⟩
  · have HA2 := hide (show armed a M = some (a, M) by unfold armed; rw [if_neg ha])
    have ha0 : 0 ≤ a := by omega
    clear ha
    have k3 := H1.out.blk.cell 3
    simp at k3
    have hgl := H1.out.blk.lt
    go_enter Try.func20, Try.ntmps20
    go_wp2_with (go_at_call 30; refine (clone_any A c n M _ HL.out HA.out (HR.out _ T1.out) hn).mono ?_; rintro e w6 ⟨A6, c6, rfl, ho, he⟩; have E6 := hide he; have HO := hide ho; have z3 := (E6.out.blk H1.out.blk).cell 3; simp at z3; have zf := (E6.out.blk H1.out.blk).frozen 3; have hgl6 := (E6.out.blk H1.out.blk).lt; clear ho he)
    go_end0
    have hs : w.heap.size ≤ (w.setCell ⟨g, 3, none⟩ (.pointer none)).heap.size := by simp [World.setCell]
    have hE := E6.out.alloc (.cells #[.int .i64 a, .slice A6 n c6] 71)
    have hu : Tl (w6.alloc (.cells #[.int .i64 a, .slice A6 n c6] 71)) Z (.slice A6 n c6) M := ⟨by rw [HL.out]; exact (World.ownsRow.mono HO.out (Nat.zero_le _)).alloc _, fun k hk => HZ.out k (Nat.le_trans hs (HO.out.lt k hk).1)⟩
    have hr := (H1.out.ext hE).newplan (Blk.new w6 71 #[.int .i64 a, .slice A6 n c6]) hu (HY.out _ (Nat.le_trans hs E6.out.size))
    rw [World.setCell_alloc_past _ _ _ _ hgl6] at hr
    exact ⟨rfl, by rw [HA2.out]; exact ⟨vt, m, _, ts, f, hr.1⟩, (T1.out.trans (Turn.of_ext hE)).trans hr.2⟩
end Go.Proofs.Ytpbenpkgbhmldaa
