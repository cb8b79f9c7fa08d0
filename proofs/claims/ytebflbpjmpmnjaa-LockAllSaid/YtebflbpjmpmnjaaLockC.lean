/- Lock: the statements' own functions: name, numbers; Ask whatever comes out. -/
import Derived.Test.YtebflbpjmpmnjaaLockApartW
import Derived.Deep.RegionHeld3
import Derived.BigQuiet
import Derived.Deep.QuietTactic
namespace Go.Proofs.Ytebflbpjmpmnjaa
open Go.ChangeShapes Go.WideShapes Go.ChangeAt Go.RowKit Go.Maps
set_option linter.unusedVariables false

theorem wf_big {x : Int} (h0 : 0 ≤ x) (h1 : x ≤ 1000000) : Wf x := by
  unfold Wf
  simp [Lit.wf, IntKind.min, IntKind.max, IntKind.signed, IntKind.bits]
  omega
/-- the k-th name -/
def nm (k : Nat) : ByteArray := ⟨[UInt8.ofNat (97 + k)].toArray⟩
theorem nm_size (k : Nat) : Sz (nm k) := by unfold Sz nm; simp [ByteArray.size, maxLen]
theorem name_any (n k : Nat) (w : World) (hn : n < 256) (hk : n % 5 = k) :
    Calls Try.prog 15 #[.int .u8 n] w fun e w' => e = .returned (.string (nm k)) ∧ Ext w w' := by
  have hk5 : k < 5 := by omega
  have e1 : (n : Int) % 5 = (k : Int) := by omega
  have e2 : (k : Int) < 5 := by omega
  have e3 : (0 : Int) ≤ (k : Int) := by omega
  have hb : bv [UInt8.ofNat (97 + k)] = [.int .u8 (97 + (k : Int))] := by
    simp only [bv, List.map_cons, List.map_nil, UInt8.toNat_ofNat']
    congr 2
    omega
  have hr := reads_blk (m := 1) (Blk.new w 5 #[.int .u8 (97 + (k : Int))]) rfl
  have s1 : (convert 46 9 (.slice (some ⟨w.heap.size, 0, none⟩) 1 1)).run Try.prog (w.alloc (.cells #[.int .u8 (97 + (k : Int))] 5)) = .ok (.string (nm k)) (w.alloc (.cells #[.int .u8 (97 + (k : Int))] 5)) :=
    run_string_of_reads (l := [UInt8.ofNat (97 + k)]) 46 9 5 1 Try.underlying46 Try.underlying5 Try.underlying9 (by rw [hb]; exact hr)
  clear hr hb hk hk5
  go_enter Try.func15, Try.ntmps15
  go_wp2
  go_ret
  exact ⟨rfl, Ext.new _ _⟩
theorem Has.grow {W w : World} {g N c N' c' : Nat} {F : ByteArray → Int → Int} (h : Has W w g N c F) (hN : N ≤ N') (hc : c ≤ c') : Has W w g N' c' F := by
  obtain ⟨m, f, h1, h2⟩ := h.more hc
  exact ⟨m, f, { h1 with out := by obtain ⟨D, h, r⟩ := h1.out; exact ⟨D, h.mono hN, r⟩ }, h2⟩
theorem Has.set_ {W w : World} {g N c h k : Nat} {F : ByteArray → Int → Int} {t : TypeId} {cs : Array Value} {u : Value} (h0 : Has W w g N c F) (hb : Blk w h t cs) (hne : t ≠ 51) (hlo : W.heap.size ≤ h) : Has W (w.setCell ⟨h, k, none⟩ u) g N c F := by
  obtain ⟨m, f, h1, h2⟩ := h0
  have ht : Touch w (w.setCell ⟨h, k, none⟩ u) (fun x => x = h) := Touch.setCell (F := fun x => x = h) (p := ⟨h, k, none⟩) (Touch.refl w _) (fun _ => rfl) u
  refine ⟨m, f, { h1 with blk := ht.blk h1.blk (fun e => ?_), out := h1.out.touch ht (fun e => ?_), yes := fun x b hx => ?_ }, h2.set_ hlo u⟩
  · subst e
    exact Blk.ne_ hb h1.blk hne rfl
  · obtain ⟨D, h', _⟩ := h1.out
    exact map_ne hb h' e.symm
  · have hz := h1.yes x b hx
    refine ⟨hz.1.touch ht (fun e => ?_), hz.2⟩
    obtain ⟨D, h', _⟩ := hz.1
    exact map_ne hb h' e.symm
/-- an ask, whatever it answers -/
theorem ask_any (W w : World) (g N c : Nat) (F : ByteArray → Int → Int) (s : ByteArray) (who md : Int) (h : Has W w g N c F) (hw : Wf who) (hs : Sz s) (h0 : 0 < md) (h1 : md ≤ 4) (hc : c ≤ 1000) (hN : N ≤ 1000) :
    Calls Try.prog 10 #[.pointer (some ⟨g, 0, none⟩), .int .i64 who, .string s, .int .i64 md] w fun e w' => ∃ v F', e = .returned v ∧ Has W w' g (N + 1) (c + 1) F' := by
  refine (has_ask W w g N c F s who md h hw hs h0 h1 hc hN).mono ?_
  rintro e w' ⟨L, hL, _, hC, ⟨hne, v, he, _, hh, _⟩ | ⟨_, he, hh⟩⟩
  · exact ⟨_, F, he, hh.grow (Nat.le_succ _) (Nat.le_succ _)⟩
  · exact ⟨_, _, he, hh⟩
/-- at how many names one holds something -/
def Cn (F : ByteArray → Int → Int) (who : Int) (n : Nat) : Prop := ∃ L, RisesS L ∧ (∀ l, l ∈ L ↔ F (bt l) who ≠ 0) ∧ L.length = n
theorem Cn.same {F F' : ByteArray → Int → Int} {who : Int} {n m : Nat} (h : Cn F who n) (h' : Cn F' who m) (e : ∀ s, F s who = F' s who) : n = m := by
  obtain ⟨L, h1, h2, h3⟩ := h
  obtain ⟨M, k1, k2, k3⟩ := h'
  rw [← h3, ← k3, risesS_same h1 k1 (fun l => by rw [h2, k2, e])]
theorem Cn.none_ {F : ByteArray → Int → Int} {who : Int} {n : Nat} (h : Cn F who n) (e : ∀ s, F s who = 0) : n = 0 := by
  obtain ⟨L, h1, h2, h3⟩ := h
  have : L = [] := nodup_nil (fun l hl => (h2 l).1 hl (e _))
  rw [← h3, this]
  rfl
/-- Locks, told by how many -/
theorem locks_cnt (W w : World) (g N c : Nat) (F : ByteArray → Int → Int) (who : Int) (h : Has W w g N c F) (hw : Wf who) (hN : N ≤ 1048576) :
    Calls Try.prog 18 #[.pointer (some ⟨g, 0, none⟩), .int .i64 who] w fun e w' => ∃ A n cc, e = .returned (.slice A n cc) ∧ Cn F who n ∧ Ext w w' := by
  refine (has_locks W w g N c F who h hw hN).mono ?_
  rintro e w' ⟨v, L, rfl, h1, h2, h3, h4, h5⟩
  obtain ⟨A, cc, rfl, _⟩ := own_form h4
  exact ⟨A, _, cc, rfl, ⟨L, h1, h2, rfl⟩, h5⟩
end Go.Proofs.Ytebflbpjmpmnjaa
