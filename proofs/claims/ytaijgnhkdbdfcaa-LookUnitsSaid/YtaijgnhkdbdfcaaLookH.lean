/- Look: bytes of noughts behind others; a text laid out; whether a row may be; a row's cell. -/
import Derived.Test.YtaijgnhkdbdfcaaLookA
import Derived.Lib.AppendStr
namespace Go.Proofs.Ytaijgnhkdbdfcaa
open Go.ChangeShapes Go.WideShapes Go.ChangeAt Go.RowKit
set_option linter.unusedVariables false

/-- a text of so many noughts -/
def zeroStr (k : Nat) : ByteArray := ⟨(List.replicate k (0 : UInt8)).toArray⟩
theorem zeroStr_size (k : Nat) : (zeroStr k).size = k := by
  simp [zeroStr, ByteArray.size]
theorem strCells_zero (k : Nat) : Lib.strCells (zeroStr k) = bv (List.replicate k 0) := by
  simp [Lib.strCells, zeroStr, bv]
theorem strCells_zero' (k : Nat) : (Lib.strCells (zeroStr k)).toArray = Builtin.zeroCells (Value.int .u8 0).cells k := by
  rw [strCells_zero]
  simp only [bv, List.map_replicate]
  apply Array.ext
  · have hz1 : (Value.int IntKind.u8 0).cells.size = 1 := rfl
    simp [size_zeroCells, hz1]
  · intro i h1 h2
    simp [Builtin.zeroCells, Value.cells, Nat.mod_one]
/-- appending noughts is appending a text of noughts -/
theorem run_append_zeros_string {P : Program} (w : World) (t tn tu ty e : TypeId) (i : TypeInfo) (kn kq : IntKind) (ht : P.underlying t = some (.slice e)) (htn : P.underlying tn = some (.int kn)) (hu : P.underlying tu = some .string) (hi : P.info? e = some i) (hz : i.zero = some (.int .u8 0))
    (hsize : i.size = 1) (hby : i.bytes = 1) (A : Option Addr) (n c k : Nat) (h63 : n + k ≤ maxLen) (hbytes : n + k ≤ 140737488355328) (hc : c ≤ maxLen) :
    (Builtin.append_ #[t, tn] ty #[.slice A n c, .int kq k]).run P w = (Builtin.append_ #[t, tu] ty #[.slice A n c, .string (zeroStr k)]).run P w := by
  have hw : IntKind.i64.wrap (k : Int) = k := by rw [IntKind.wrap_i64]; simp only [maxLen] at h63; omega
  have hneg : ¬ ((k : Int) < 0) := by omega
  have h48 : ¬ (281474976710656 < (k : Int)) := by omega
  have h63' : ¬ (9223372036854775807 < ((n : Int) + (k : Int))) := by simp only [maxLen] at h63; omega
  have hf := fun w => Lib.run_firstCells_string (P := P) w 1 (zeroStr k)
  rw [zeroStr_size] at hf
  have e1 := strCells_zero' k
  have h6n : ¬ (9223372036854775807 < (n : Int)) := by simp only [maxLen] at h63; omega
  have hw0 : IntKind.i64.wrap 0 = 0 := by decide
  by_cases hk : k = 0
  · subst hk
    have e2 : Lib.strCells (zeroStr 0) = [] := rfl
    rw [e2] at hf
    by_cases hroom : n ≤ c
    · simp [Builtin.append_, run_underlying ht, run_underlying htn, run_underlying hu, sizeOf, typeInfo, zeroValue, hi, hz, hsize, hby, asInt, asIntOf, hw0, Builtin.lenOf, zeroStr_size, hroom, hf]
    · have h48' : ¬ (281474976710656 < Builtin.nextslicecap n c) := by
        have := growslice_fits (need := n) (old := c) (bytes := 1) (by omega) (by omega)
        omega
      simp [Builtin.append_, run_underlying ht, run_underlying htn, run_underlying hu, sizeOf, typeInfo, zeroValue, hi, hz, hsize, hby, asInt, asIntOf, hw0, h48', h6n, Builtin.lenOf, zeroStr_size, hroom, hf]
  · by_cases hroom : n + k ≤ c
    · simp [Builtin.append_, run_underlying ht, run_underlying htn, run_underlying hu, sizeOf, typeInfo, zeroValue, hi, hz, hsize, hby, asInt, asIntOf, hw, hneg, h48, hk, Builtin.lenOf, zeroStr_size, hroom, hf, e1]
    · have h48' : ¬ (281474976710656 < Builtin.nextslicecap (n + k) c) := by
        have := growslice_fits (need := n + k) (old := c) (bytes := 1) (by omega) (by omega)
        omega
      simp [Builtin.append_, run_underlying ht, run_underlying htn, run_underlying hu, sizeOf, typeInfo, zeroValue, hi, hz, hsize, hby, asInt, asIntOf, hw, hneg, h48, h48', h63', hk, Builtin.lenOf, zeroStr_size, hroom, hf, e1]
section
variable {P : Program} {w : World}
theorem strCells_list (s : List UInt8) : Lib.strCells ⟨s.toArray⟩ = bv s := by simp [Lib.strCells, bv]
theorem str_size (s : List UInt8) : (⟨s.toArray⟩ : ByteArray).size = s.length := by simp [ByteArray.size]
theorem wpList_append_zeros {ops : Array Oper} {rest : List Oper} {o : Oper} {a : Act} {Q : Exit → Act → World → Prop} (hgd : o.guard = none) (sl x : Operand) (t tn tu : TypeId)
    (ho : o.op = .call { callee := .builtin .append, args := #[sl, x], argTypes := #[t, tn] })
    (base : Nat) (e : TypeId) (i : TypeInfo) (kn kq : IntKind) (ht : P.underlying t = some (.slice e)) (htn : P.underlying tn = some (.int kn)) (hu : P.underlying tu = some .string) (hi : P.info? e = some i) (hz : i.zero = some (.int .u8 0))
    (hsize : i.size = 1) (hby : i.bytes = 1)
    (v : Value) (n : Nat) (xs : List Value) (hs : a.eval sl = v) (hown : w.ownsRow base e 1 v n xs) (k : Nat) (hx : a.eval x = .int kq k)
    (h63 : n + k ≤ maxLen) (hbytes : n + k ≤ 140737488355328) (hbase : base ≤ w.heap.size)
    (h : ∀ v' w', w'.ownsRow base e 1 v' (n + k) (xs ++ bv (List.replicate k 0)) → w.grownBy w' v.ownBlock → wpList P ops Q rest (a.put o.dst v') w') : wpList P ops Q (o :: rest) a w := by
  refine wpList_plain hgd fun K hK => ?_
  obtain ⟨A, c, rfl, _, _, hc, _⟩ := own_form hown
  obtain ⟨v', w', hr, h2, h3, h4⟩ := Lib.run_append_own_string (P := P) w base t tu o.type e i ht hu hi hz hsize hby _ n xs hown (zeroStr k) (by rw [zeroStr_size]; exact h63) (by rw [zeroStr_size]; exact hbytes) hbase
  rw [zeroStr_size, strCells_zero] at h2
  rw [← run_append_zeros_string w t tn tu o.type e i kn kq ht htn hu hi hz hsize hby A n c k h63 hbytes hc] at hr
  unfold Oper.wp execOp
  simp only [ho, resolve, invoke, builtin, Sem.run_bind, Sem.run_pure, Result.andThen_ok, List.map_toArray, List.map_cons, List.map_nil, hs, hx, hr]
  exact hK _ _ (h v' w' h2 h3)
theorem wpList_append_str {ops : Array Oper} {rest : List Oper} {o : Oper} {a : Act} {Q : Exit → Act → World → Prop} (hgd : o.guard = none) (sl x : Operand) (t tu : TypeId)
    (ho : o.op = .call { callee := .builtin .append, args := #[sl, x], argTypes := #[t, tu] })
    (base : Nat) (e : TypeId) (i : TypeInfo) (ht : P.underlying t = some (.slice e)) (hu : P.underlying tu = some .string) (hi : P.info? e = some i) (hz : i.zero = some (.int .u8 0))
    (hsize : i.size = 1) (hby : i.bytes = 1)
    (v : Value) (n : Nat) (xs : List Value) (hs : a.eval sl = v) (hown : w.ownsRow base e 1 v n xs) (l : List UInt8) (hx : a.eval x = .string ⟨l.toArray⟩)
    (h63 : n + l.length ≤ maxLen) (hbytes : n + l.length ≤ 140737488355328) (hbase : base ≤ w.heap.size)
    (h : ∀ v' w', w'.ownsRow base e 1 v' (n + l.length) (xs ++ bv l) → w.grownBy w' v.ownBlock → wpList P ops Q rest (a.put o.dst v') w') : wpList P ops Q (o :: rest) a w :=
  Lib.wpList_append_own_string w hgd sl x t tu ho base e i ht hu hi hz hsize hby v n xs hs hown _ hx (by rw [str_size]; exact h63) (by rw [str_size]; exact hbytes) hbase fun v' w' h2 h3 _ => by
    rw [str_size, strCells_list] at h2
    exact h v' w' h2 h3
end
/-- bytes in new memory -/
def GivesB (w : World) (L : List UInt8) (e : Ending) (w' : World) : Prop := ∃ A c, e = .returned (.slice A L.length c) ∧ w'.ownsRow w.heap.size 5 1 (.slice A L.length c) L.length (bv L) ∧ Ext w w'
/-- a text laid out in so many bytes, its length ahead -/
def padL (s : List UInt8) (n : Nat) : List UInt8 := UInt8.ofNat s.length :: (s ++ List.replicate (n - s.length) 0)
theorem padL_len {s : List UInt8} {n : Nat} (h : s.length ≤ n) : (padL s n).length = n + 1 := by simp [padL]; omega
set_option maxRecDepth 100000 in
set_option maxHeartbeats 4000000 in
theorem pad_any (w : World) (s : List UInt8) (n : Nat) (hs : s.length ≤ n) (hn : n ≤ 200) :
    Calls Try.prog 33 #[.string ⟨s.toArray⟩, .int .i64 n] w (GivesB w (padL s n)) := by
  obtain ⟨N, hN⟩ : ∃ N, N = s.length := ⟨_, rfl⟩
  have HN := hide hN
  have es : (⟨s.toArray⟩ : ByteArray).size = N := by rw [str_size, hN]
  have hw8 : IntKind.u8.wrap (N : Int) = N := by simp [IntKind.wrap, IntKind.signed, IntKind.bits]; omega
  have hw64 : IntKind.i64.wrap ((n : Int) - N) = ((n - N : Nat) : Int) := by simp [IntKind.wrap, IntKind.signed, IntKind.bits]; omega
  have HB := hide (show N ≤ n ∧ n ≤ 200 by omega)
  obtain ⟨i0, hi0, hz0, hz1, hz2⟩ := info_parts Try.info5'
  clear hs hn hN
  have H0 := hide (own_blk (n := 1) (Blk.new w 5 #[.int .u8 N]) (Nat.le_refl _) rfl (by omega))
  go_enter Try.func33, Try.ntmps33
  go_wp2_with (first
    | (at_builtin; refine wpList_append_str rfl (.tmp 8) (.tmp 9) 29 9 rfl w.heap.size 5 i0 Try.underlying29 Try.underlying9 hi0 hz0 hz1 hz2 _ 1 [.int .u8 N] rfl H0.out s rfl (by simp only [maxLen]; have := HB.out; have := HN.out; omega) (by have := HB.out; have := HN.out; omega) (by simp) ?_; intro v1 w1 ho1 hg1; rw [← HN.out] at ho1; have E1 := hide (Ext.grown (Ext.new w _) hg1 (fun z hz => (H0.out.lt z hz).1)); obtain ⟨A1, c1, hv1, _⟩ := own_form ho1; subst hv1; have O1 := hide ho1; clear ho1 hg1)
    | (at_builtin; refine wpList_append_zeros rfl (.tmp 10) (.tmp 14) 29 3 9 rfl w.heap.size 5 i0 .i64 .i64 Try.underlying29 Try.underlying3 Try.underlying9 hi0 hz0 hz1 hz2 _ (1 + N) _ rfl O1.out (n - N) rfl (by simp only [maxLen]; have := HB.out; omega) (by have := HB.out; omega) (by have := E1.out.size; exact this) ?_; intro v2 w2 ho2 hg2; have E2 := hide (Ext.grown E1.out hg2 (fun z hz => (O1.out.lt z hz).1)); obtain ⟨A2, c2, hv2, _⟩ := own_form ho2; subst hv2; have O2 := hide ho2; clear ho2 hg2))
  go_ret
  have el : (padL s n).length = 1 + N + (n - N) := by rw [padL_len (by have := HB.out; have := HN.out; omega)]; have := HB.out; omega
  unfold GivesB
  rw [el]
  refine ⟨A2, c2, rfl, ?_, E2.out⟩
  have ec : bv (padL s n) = [Value.int .u8 N] ++ bv s ++ bv (List.replicate (n - N) 0) := by
    simp only [padL, bv, List.map_cons, List.map_append, ← HN.out, UInt8.toNat_ofNat', List.cons_append, List.nil_append]
    rw [Nat.mod_eq_of_lt (by have := HB.out; omega)]
  rw [ec]
  exact O2.out
end Go.Proofs.Ytaijgnhkdbdfcaa
