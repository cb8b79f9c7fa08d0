/- Deed: the reference's Push and All. -/
import Derived.Test.YtkicocaejfhgiaaDeedT
namespace Go.Proofs.Ytkicocaejfhgiaa
open Go.ChangeShapes Go.WideShapes Go.ChangeAt Go.RowKit
set_option linter.unusedVariables false

theorem ownsRow_base {w : World} {b b' e size n : Nat} {v : Value} {xs : List Value} (h : w.ownsRow b' e size v n xs) (hb : b ≤ b') : w.ownsRow b e size v n xs := by
  refine ⟨h.1, ?_⟩
  rcases h.2 with h0 | ⟨g, cap, cur, hv, hg, r⟩
  · exact .inl h0
  · exact .inr ⟨g, cap, cur, hv, by omega, r⟩
theorem touch_empty {w w1 : World} {g : Nat} {b : Nat} (h : (w.alloc (.cells #[] 3)).grownBy w1 (some b)) (hb : w.heap.size ≤ b) : Touch w w1 (fun k => k = g) :=
  ((Touch.refl w (fun k => k = g)).alloc _).grown h (fun k hk hlt => by injection hk with hk; omega)
theorem rleaves_push {base g : Nat} {v v1 v2 : Value} {l : List Int} {t : Nat → Int} {b : Nat → Bool} {x : Int} {w w1 w2 : World} (hs : Ref w base g v l t b) (hbase : base ≤ w.heap.size)
    (h1 : w1.ownsRow w.heap.size 3 1 v1 l.length (iv l)) (hg1 : (w.alloc (.cells #[] 3)).grownBy w1 (Value.slice (some ⟨w.heap.size, 0, none⟩) 0 0).ownBlock)
    (h2 : w2.ownsRow w.heap.size 3 1 v2 (l.length + 1) (iv l ++ [.int .i64 x])) (hg2 : (w1.alloc (.cells #[.int .i64 x] 3)).grownBy w2 v1.ownBlock) : RLeaves w base g v (l ++ [x]) t b (w2.setCell ⟨g, 0, none⟩ v2) := by
  have hlt := hs.blk.lt
  have t1 : Touch w w1 (fun k => k = g) := ((Touch.refl w (fun k => k = g)).alloc _).grown hg1 (fun k hk hlt => by simp [Value.ownBlock] at hk; omega)
  have t2 : Touch w w2 (fun k => k = g) := (t1.alloc _).grown hg2 (fun k hk hlt => by have := (h1.lt k hk).1; omega)
  have k1 : Blk w1 g 31 _ := (hs.blk.alloc (.cells #[] 3)).grown hg1 (by simp [Value.ownBlock]; omega)
  have k2 := (k1.alloc (.cells #[.int .i64 x] 3)).grown hg2 (fun e => by have := (h1.lt g e.symm).1; omega)
  refine ⟨v2, ⟨by simpa using k2.set_ 0 v2, ?_, hs.hb, hs.lo, fun i hi => ?_⟩, Touch.setCell (F := fun k => k = g) (p := ⟨g, 0, none⟩) t2 (fun _ => rfl) v2, .inr fun k hk => (h2.lt k hk).1⟩
  · have := ownsRow_touch (w1 := w2.setCell ⟨g, 0, none⟩ v2) (F := fun k => k = g) (Touch.setCell (F := fun k => k = g) (p := ⟨g, 0, none⟩) (Touch.refl w2 _) (fun _ => rfl) v2) h2 (fun k hk e => by have := (h2.lt k hk).1; omega)
    simpa [iv] using ownsRow_base this hbase
  · have := hs.hi i hi
    simp
    omega
set_option maxHeartbeats 1000000 in
theorem rpush_any (base g : Nat) (v : Value) (l : List Int) (t : Nat → Int) (b : Nat → Bool) (x : Int) (w : World) (hs : Ref w base g v l t b) (hl : l.length ≤ 1048576) (hbase : base ≤ w.heap.size) :
    Calls Try.prog 14 #[.pointer (some ⟨g, 0, none⟩), .int .i64 x] w fun e w' => e = .returned (.tuple #[]) ∧ RLeaves w base g v (l ++ [x]) t b w' := by
  obtain ⟨i0, hi0, hz0, hz1, hz2⟩ := info_parts Try.info3'
  obtain ⟨A, c, hv, hlc, hcm, hAn⟩ := hs.form
  subst hv
  have c0 := hs.blk.cell 0
  simp at c0
  have hlt := hs.blk.lt
  have HS := hide hs
  have hr : Hid (Reads (w.alloc (.cells #[] 3)) w.heap.size 1 A l.length (iv l)) := (Reads.of_own hs.own).alloc (Nat.le_refl _) _
  have hown : Hid ((w.alloc (.cells #[] 3)).ownsRow w.heap.size 3 1 (.slice (some ⟨w.heap.size, 0, none⟩) 0 0) 0 []) := World.ownsRow_made w #[] 0 (Nat.le_refl _) (Nat.zero_le _) rfl
  have hnews : ∀ w1 : World, Hid (Reads (w1.alloc (.cells #[.int .i64 x] 3)) (w1.heap.size + 1) 1 (some ⟨w1.heap.size, 0, none⟩) 1 [.int .i64 x]) := fun w1 => by
    refine ⟨rfl, fun _ => ⟨_, rfl, by simp, fun j u hu => ?_⟩⟩
    match j, hu with
    | 0, hu => simp at hu; subst hu; simp [Addr.add]
  clear hs
  go_enter Try.func14, Try.ntmps14
  go_wp2_with (first
    | (at_builtin; refine wpList_append_any _ rfl (.tmp 5) (.tmp 9) _ rfl w.heap.size 3 i0 _ 1 8 Try.underlying27 hi0 hz0 hz1 hz2 rfl (by omega) (.slice (some ⟨w.heap.size, 0, none⟩) 0 0) 0 [] rfl hown.out w.heap.size A l.length c (iv l) rfl hr.out (iv_one l) (by simp only [maxLen]; omega) (by omega) (by simp) ?_; intro v1 w1 hown1 hg1 hat1; rw [Nat.zero_add, List.nil_append] at hown1; have H1 := hide hown1; have G1 := hide hg1; have z1 : w.heap.size + 1 ≤ w1.heap.size := (by have := hg1.size; simpa using this); clear hown1 hg1 hat1)
    | (at_builtin; refine wpList_append_any _ rfl (.tmp 10) (.tmp 12) _ rfl w.heap.size 3 i0 _ 1 8 Try.underlying27 hi0 hz0 hz1 hz2 rfl (by omega) v1 l.length (iv l) rfl (H1.out.alloc _) (w1.heap.size + 1) _ 1 1 [.int .i64 x] rfl (hnews w1).out (by simp [Value.oneCell']) (by simp only [maxLen]; omega) (by omega) (by simp; omega) ?_; intro v2 w2 hown2 hg2 hat2; have L := hide (rleaves_push HS.out hbase H1.out G1.out hown2 hg2); have k2 := (((HS.out.blk.alloc (.cells #[] 3)).grown G1.out (by simp [Value.ownBlock]; omega)).alloc (.cells #[.int .i64 x] 3)).grown hg2 (fun e => by have := (H1.out.lt g e.symm).1; omega); have c1 := k2.cell 0; have f1 := k2.frozen 0; simp at c1; obtain ⟨A1, c9, hv⟩ := own_form hown2; rw [hv]; rw [hv] at L; clear hown2 hg2 hat2 hv c0 k2))
  go_end0
  exact ⟨rfl, L.out⟩
theorem rall_any (base g : Nat) (v : Value) (l : List Int) (t : Nat → Int) (b : Nat → Bool) (w : World) (hs : Ref w base g v l t b) (hl : l.length ≤ 1048576) :
    Calls Try.prog 16 #[.pointer (some ⟨g, 0, none⟩)] w (GivesInts w l.reverse) := by
  obtain ⟨A, c, hv, _⟩ := hs.form
  subst hv
  have hr : Hid (Reads w w.heap.size 1 A l.length (iv l)) := Reads.of_own hs.own
  have c0 := hs.blk.cell 0
  simp at c0
  clear hs
  go_enter Try.func16, Try.ntmps16
  go_wp2_with (go_at_call 20; refine (down_any A c l w hr.out hl).mono ?_; rintro e w1 ⟨u, rfl, hu, hb⟩)
  go_ret
  exact ⟨_, rfl, hu, hb⟩
end Go.Proofs.Ytkicocaejfhgiaa
