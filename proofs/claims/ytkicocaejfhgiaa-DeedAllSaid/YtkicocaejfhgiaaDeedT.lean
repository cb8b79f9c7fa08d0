/- Deed: the reference's stack in memory, and contracts of its methods. -/
import Derived.Test.YtkicocaejfhgiaaDeedR
namespace Go.Proofs.Ytkicocaejfhgiaa
open Go.ChangeShapes Go.WideShapes Go.ChangeAt Go.RowKit
set_option linter.unusedVariables false

structure Ref (w : World) (base g : Nat) (v : Value) (l : List Int) (t : Nat → Int) (b : Nat → Bool) : Prop where
  blk : Blk w g 31 #[v, .int .i64 (t 0), .int .i64 (t 1), .int .i64 (t 2), .int .i64 (t 3), .bool (b 0), .bool (b 1), .bool (b 2), .bool (b 3)]
  own : w.ownsRow base 3 1 v l.length (iv l)
  hb : base ≤ g
  lo : ∀ i, 0 ≤ t i
  hi : ∀ i, b i = true → t i ≤ l.length
def RLeaves (w : World) (base g : Nat) (v : Value) (l : List Int) (t : Nat → Int) (b : Nat → Bool) (w' : World) : Prop :=
  ∃ v', Ref w' base g v' l t b ∧ Touch w w' (fun k => k = g) ∧ (v'.ownBlock = v.ownBlock ∨ ∀ k, v'.ownBlock = some k → w.heap.size ≤ k)
def setB (b : Nat → Bool) (n : Nat) (x : Bool) : Nat → Bool := fun i => if i = n then x else b i
theorem Ref.form {w : World} {base g : Nat} {v : Value} {l : List Int} {t : Nat → Int} {b : Nat → Bool} (h : Ref w base g v l t b) : ∃ A c, v = .slice A l.length c ∧ l.length ≤ c ∧ c ≤ maxLen ∧ (A = none → c = 0) := by
  rcases h.own.2 with ⟨rfl, h0⟩ | ⟨b, c, cur, rfl, _, _, h1, h2, _⟩
  · rw [h0]
    exact ⟨none, 0, rfl, Nat.le_refl _, Nat.zero_le _, fun _ => rfl⟩
  · exact ⟨_, c, rfl, h1, h2, (fun h => by cases h)⟩
theorem ref_t {w : World} {g : Nat} {v : Value} {t : Nat → Int} {b : Nat → Bool} {n : Nat} (h : Blk w g 31 #[v, .int .i64 (t 0), .int .i64 (t 1), .int .i64 (t 2), .int .i64 (t 3), .bool (b 0), .bool (b 1), .bool (b 2), .bool (b 3)]) (hn : n < 4) : w.cell? ⟨g, 1 + n, none⟩ = some (.int .i64 (t n)) := by
  rw [h.cell]
  have h4 : n = 0 ∨ n = 1 ∨ n = 2 ∨ n = 3 := by omega
  rcases h4 with rfl | rfl | rfl | rfl <;> rfl
theorem ref_b {w : World} {g : Nat} {v : Value} {t : Nat → Int} {b : Nat → Bool} {n : Nat} (h : Blk w g 31 #[v, .int .i64 (t 0), .int .i64 (t 1), .int .i64 (t 2), .int .i64 (t 3), .bool (b 0), .bool (b 1), .bool (b 2), .bool (b 3)]) (hn : n < 4) : w.cell? ⟨g, 5 + n, none⟩ = some (.bool (b n)) := by
  rw [h.cell]
  have h4 : n = 0 ∨ n = 1 ∨ n = 2 ∨ n = 3 := by omega
  rcases h4 with rfl | rfl | rfl | rfl <;> rfl
theorem ref_set {base g : Nat} {v : Value} {l : List Int} {t t' : Nat → Int} {b b' : Nat → Bool} {w w1 : World} (hs : Ref w base g v l t b) (ht : Touch w w1 (fun k => k = g))
    (hblk : Blk w1 g 31 #[v, .int .i64 (t' 0), .int .i64 (t' 1), .int .i64 (t' 2), .int .i64 (t' 3), .bool (b' 0), .bool (b' 1), .bool (b' 2), .bool (b' 3)]) (hlo : ∀ i, 0 ≤ t' i) (hhi : ∀ i, b' i = true → t' i ≤ l.length) : RLeaves w base g v l t' b' w1 :=
  ⟨v, ⟨hblk, ownsRow_touch ht hs.own (fun k hk e => own_blk_ne hs.own hs.blk (by decide) (by rw [hk, e])), hs.hb, hlo, hhi⟩, ht, .inl rfl⟩

theorem rsave_no (g : Nat) (n : Int) (w : World) (hn : ¬ (0 ≤ n ∧ n < 4)) :
    Calls Try.prog 9 #[.pointer (some ⟨g, 0, none⟩), .int .i64 n] w fun e w' => e = .returned (.bool false) ∧ w = w' := by
  by_cases h0 : n < 0
  · clear hn
    go_enter Try.func9, Try.ntmps9
    go_wp2
    go_ret
    exact ⟨rfl, rfl⟩
  · have h1 : 4 ≤ n := by omega
    clear hn
    go_enter Try.func9, Try.ntmps9
    go_wp2
    go_ret
    exact ⟨rfl, rfl⟩
set_option maxHeartbeats 1000000 in
theorem rsave_yes (base g : Nat) (v : Value) (l : List Int) (t : Nat → Int) (b : Nat → Bool) (n : Nat) (w : World) (hs : Ref w base g v l t b) (hn : n < 4) :
    Calls Try.prog 9 #[.pointer (some ⟨g, 0, none⟩), .int .i64 n] w fun e w' => e = .returned (.bool true) ∧ RLeaves w base g v l (setAt t n l.length) (setB b n true) w' := by
  obtain ⟨A, c, hv, _⟩ := hs.form
  subst hv
  have c0 := hs.blk.cell 0
  have ff := hs.blk.frozen
  have hlt := hs.blk.lt
  simp at c0
  have d1 := ref_t hs.blk hn
  have d2 := ref_b hs.blk hn
  have HS := hide hs
  have Hlo : Hid (∀ i, 0 ≤ setAt t n l.length i) := fun i => by unfold setAt; split <;> first | omega | exact hs.lo i
  have Hhi : Hid (∀ i, setB b n true i = true → setAt t n l.length i ≤ l.length) := fun i hi => by unfold setAt; split <;> first | omega | (apply hs.hi; simpa [setB, *] using hi)
  clear hs
  have h4 : n = 0 ∨ n = 1 ∨ n = 2 ∨ n = 3 := by omega
  rcases h4 with rfl | rfl | rfl | rfl
  · have HB := hide (((HS.out.blk.set_ 1 (.int .i64 l.length)).set_ 5 (.bool true)).drew)
    have HB' := hide (((HS.out.blk.set_ 5 (.bool true)).set_ 1 (.int .i64 l.length)).drew)
    go_enter Try.func9, Try.ntmps9
    go_wp2
    go_region
    all_goals go_wp2
    all_goals go_ret
    all_goals first
      | exact ⟨rfl, ref_set HS.out (Touch.setCell (F := fun k => k = g) (p := ⟨g, 5, none⟩) (Touch.setCell (F := fun k => k = g) (p := ⟨g, 1, none⟩) (Touch.refl _ _) (fun _ => rfl) _) (fun _ => rfl) _).drew (by have := HB.out; simpa [setAt, setB] using this) Hlo.out Hhi.out⟩
      | exact ⟨rfl, ref_set HS.out (Touch.setCell (F := fun k => k = g) (p := ⟨g, 1, none⟩) (Touch.setCell (F := fun k => k = g) (p := ⟨g, 5, none⟩) (Touch.refl _ _) (fun _ => rfl) _) (fun _ => rfl) _).drew (by have := HB'.out; simpa [setAt, setB] using this) Hlo.out Hhi.out⟩
  · have HB := hide (((HS.out.blk.set_ 2 (.int .i64 l.length)).set_ 6 (.bool true)).drew)
    have HB' := hide (((HS.out.blk.set_ 6 (.bool true)).set_ 2 (.int .i64 l.length)).drew)
    go_enter Try.func9, Try.ntmps9
    go_wp2
    go_region
    all_goals go_wp2
    all_goals go_ret
    all_goals first
      | exact ⟨rfl, ref_set HS.out (Touch.setCell (F := fun k => k = g) (p := ⟨g, 6, none⟩) (Touch.setCell (F := fun k => k = g) (p := ⟨g, 2, none⟩) (Touch.refl _ _) (fun _ => rfl) _) (fun _ => rfl) _).drew (by have := HB.out; simpa [setAt, setB] using this) Hlo.out Hhi.out⟩
      | exact ⟨rfl, ref_set HS.out (Touch.setCell (F := fun k => k = g) (p := ⟨g, 2, none⟩) (Touch.setCell (F := fun k => k = g) (p := ⟨g, 6, none⟩) (Touch.refl _ _) (fun _ => rfl) _) (fun _ => rfl) _).drew (by have := HB'.out; simpa [setAt, setB] using this) Hlo.out Hhi.out⟩
  · have HB := hide (((HS.out.blk.set_ 3 (.int .i64 l.length)).set_ 7 (.bool true)).drew)
    have HB' := hide (((HS.out.blk.set_ 7 (.bool true)).set_ 3 (.int .i64 l.length)).drew)
    go_enter Try.func9, Try.ntmps9
    go_wp2
    go_region
    all_goals go_wp2
    all_goals go_ret
    all_goals first
      | exact ⟨rfl, ref_set HS.out (Touch.setCell (F := fun k => k = g) (p := ⟨g, 7, none⟩) (Touch.setCell (F := fun k => k = g) (p := ⟨g, 3, none⟩) (Touch.refl _ _) (fun _ => rfl) _) (fun _ => rfl) _).drew (by have := HB.out; simpa [setAt, setB] using this) Hlo.out Hhi.out⟩
      | exact ⟨rfl, ref_set HS.out (Touch.setCell (F := fun k => k = g) (p := ⟨g, 3, none⟩) (Touch.setCell (F := fun k => k = g) (p := ⟨g, 7, none⟩) (Touch.refl _ _) (fun _ => rfl) _) (fun _ => rfl) _).drew (by have := HB'.out; simpa [setAt, setB] using this) Hlo.out Hhi.out⟩
  · have HB := hide (((HS.out.blk.set_ 4 (.int .i64 l.length)).set_ 8 (.bool true)).drew)
    have HB' := hide (((HS.out.blk.set_ 8 (.bool true)).set_ 4 (.int .i64 l.length)).drew)
    go_enter Try.func9, Try.ntmps9
    go_wp2
    go_region
    all_goals go_wp2
    all_goals go_ret
    all_goals first
      | exact ⟨rfl, ref_set HS.out (Touch.setCell (F := fun k => k = g) (p := ⟨g, 8, none⟩) (Touch.setCell (F := fun k => k = g) (p := ⟨g, 4, none⟩) (Touch.refl _ _) (fun _ => rfl) _) (fun _ => rfl) _).drew (by have := HB.out; simpa [setAt, setB] using this) Hlo.out Hhi.out⟩
      | exact ⟨rfl, ref_set HS.out (Touch.setCell (F := fun k => k = g) (p := ⟨g, 4, none⟩) (Touch.setCell (F := fun k => k = g) (p := ⟨g, 8, none⟩) (Touch.refl _ _) (fun _ => rfl) _) (fun _ => rfl) _).drew (by have := HB'.out; simpa [setAt, setB] using this) Hlo.out Hhi.out⟩
end Go.Proofs.Ytkicocaejfhgiaa
