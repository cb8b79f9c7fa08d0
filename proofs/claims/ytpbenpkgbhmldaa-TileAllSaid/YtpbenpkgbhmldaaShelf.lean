/-
  DERIVED: THE SHELF's CONTRACTS AT THIS DUMP, IN PLAIN WORDS (tools/lay-plain.mjs out of 'YtpbenpkgbhmldaaShelf.lean', which tools/lay-shelf.mjs wrote): THE SAME DECLARATIONS UNDER THE SAME NAMES: 'import', 'namespace', 'open', 'def', 'theorem' AND NOTHING ELSE: no command of the shelf's: FOR A HAND-IN. Each laying: the table of numbers ('.._ren') and one theorem, a field a fact of the dump's own or the kernel's comparison; each contract: ONE APPLICATION.
-/
import Derived.Shelf.SlIterI.Nil
import Derived.Shelf.SortM.Plain
import Derived.Shelf.SortM.SortNone
import Derived.Ground.GgzProg
import Derived.Ground.SlgmProg
import Derived.Shelf.SlGeneric
import Derived.Test.YtpbenpkgbhmldaaProg
namespace Go.Proofs
open Go.Shelf
def Try.keysA_ren : Go.Shelf.Ren := ⟨fun | 7 => 34 | 10 => 43 | n => n, fun | 23 => 62 | 26 => 3 | 3 => 22 | 28 => 75 | 0 => 0 | 27 => 74 | 33 => 50 | 4 => 4 | n => n, fun | n => n⟩
theorem Try.keysA : Go.Proofs.SlLaysZI.n7 Try.prog Try.keysA_ren := {
  mixed := by kernel_rfl
  f7 := ⟨Try.f34.name, by decide, Try.func34.trans (congrArg some (by kernel_rfl))⟩
  f10 := ⟨Try.f43.name, by decide, Try.func43.trans (congrArg some (by kernel_rfl))⟩
  t0 := Try.underlying0
  a0 := Try.isAgg0
  z0 := Try.sizeOf0
  v0 := Try.zeroValue0
  t4 := Try.underlying4
  a4 := Try.isAgg4
  z4 := Try.sizeOf4
  v4 := Try.zeroValue4
  t23 := Try.underlying62
  a23 := Try.isAgg62
  z23 := Try.sizeOf62
  v23 := Try.zeroValue62
  t26 := Try.underlying3
  a26 := Try.isAgg3
  z26 := Try.sizeOf3
  v26 := Try.zeroValue3
  t27 := Try.underlying74
  a27 := Try.isAgg74
  z27 := Try.sizeOf74
  v27 := Try.zeroValue74
  t28 := Try.underlying75
  a28 := Try.isAgg75
  z28 := Try.sizeOf75
  v28 := Try.zeroValue75
  t33 := Try.underlying50
  a33 := Try.isAgg50
  z33 := Try.sizeOf50
  v33 := Try.zeroValue50 }
def Try.sortedA_ren : Go.Shelf.Ren := ⟨fun | 6 => 33 | 8 => 41 | 9 => 42 | 11 => 45 | 13 => 47 | 12 => 46 | 23 => 57 | 24 => 58 | 14 => 48 | 15 => 49 | 16 => 50 | 17 => 51 | 18 => 52 | 19 => 53 | 20 => 54 | 21 => 55 | 22 => 56 | 25 => 59 | 26 => 60 | 27 => 61 | 28 => 62 | 29 => 63 | 30 => 64 | 31 => 65 | n => n, fun | 26 => 3 | 28 => 75 | 24 => 41 | 0 => 0 | 3 => 3 | 37 => 34 | 48 => 39 | 50 => 96 | 4 => 4 | 40 => 87 | 39 => 86 | 45 => 92 | 5 => 5 | 9 => 9 | 51 => 97 | 55 => 101 | 57 => 103 | 58 => 104 | 33 => 50 | n => n, fun | n => n⟩
theorem Try.sortedA : Go.Proofs.SlLaysZI.n6 Try.prog Try.sortedA_ren := {
  mixed := by kernel_rfl
  f6 := ⟨Try.f33.name, by decide, Try.func33.trans (congrArg some (by kernel_rfl))⟩
  f8 := ⟨Try.f41.name, by decide, Try.func41.trans (congrArg some (by kernel_rfl))⟩
  f11 := ⟨Try.f45.name, by decide, Try.func45.trans (congrArg some (by kernel_rfl))⟩
  t0 := Try.underlying0
  a0 := Try.isAgg0
  z0 := Try.sizeOf0
  v0 := Try.zeroValue0
  t24 := Try.underlying41
  a24 := Try.isAgg41
  z24 := Try.sizeOf41
  v24 := Try.zeroValue41
  t26 := Try.underlying3
  a26 := Try.isAgg3
  z26 := Try.sizeOf3
  v26 := Try.zeroValue3
  t28 := Try.underlying75
  a28 := Try.isAgg75
  z28 := Try.sizeOf75
  v28 := Try.zeroValue75
  i26 := by kernel_rfl }
def Try.sortA_ren : Go.Shelf.Ren := ⟨fun | 5 => 42 | 8 => 47 | 7 => 46 | 19 => 57 | 20 => 58 | 10 => 48 | 11 => 49 | 12 => 50 | 13 => 51 | 14 => 52 | 15 => 53 | 16 => 54 | 17 => 55 | 18 => 56 | 30 => 59 | 31 => 60 | 32 => 61 | 33 => 62 | 34 => 63 | 35 => 64 | 40 => 65 | n => n, fun | 23 => 41 | 25 => 3 | 3 => 3 | 32 => 34 | 22 => 41 | 0 => 0 | 44 => 39 | 46 => 96 | 4 => 4 | 36 => 87 | 35 => 86 | 41 => 92 | 5 => 5 | 9 => 9 | 53 => 97 | 57 => 101 | 63 => 103 | 64 => 104 | n => n, fun | n => n⟩
theorem Try.sortA : Go.Proofs.SlLaysM.n5 Try.prog Try.sortA_ren := {
  mixed := by kernel_rfl
  f5 := ⟨Try.f42.name, by decide, Try.func42.trans (congrArg some (by kernel_rfl))⟩
  f7 := ⟨Try.f46.name, by decide, Try.func46.trans (congrArg some (by kernel_rfl))⟩
  f8 := Try.func47.trans (congrArg some (by kernel_rfl))
  f10 := ⟨Try.f48.name, by decide, Try.func48.trans (congrArg some (by kernel_rfl))⟩
  f11 := ⟨Try.f49.name, by decide, Try.func49.trans (congrArg some (by kernel_rfl))⟩
  f12 := ⟨Try.f50.name, by decide, Try.func50.trans (congrArg some (by kernel_rfl))⟩
  f13 := ⟨Try.f51.name, by decide, Try.func51.trans (congrArg some (by kernel_rfl))⟩
  f14 := ⟨Try.f52.name, by decide, Try.func52.trans (congrArg some (by kernel_rfl))⟩
  f15 := ⟨Try.f53.name, by decide, Try.func53.trans (congrArg some (by kernel_rfl))⟩
  f16 := ⟨Try.f54.name, by decide, Try.func54.trans (congrArg some (by kernel_rfl))⟩
  f17 := ⟨Try.f55.name, by decide, Try.func55.trans (congrArg some (by kernel_rfl))⟩
  f18 := ⟨Try.f56.name, by decide, Try.func56.trans (congrArg some (by kernel_rfl))⟩
  f19 := Try.func57.trans (congrArg some (by kernel_rfl))
  f20 := Try.func58.trans (congrArg some (by kernel_rfl))
  f30 := ⟨Try.f59.name, by decide, Try.func59.trans (congrArg some (by kernel_rfl))⟩
  f31 := Try.func60.trans (congrArg some (by kernel_rfl))
  f32 := Try.func61.trans (congrArg some (by kernel_rfl))
  f33 := ⟨Try.f62.name, by decide, Try.func62.trans (congrArg some (by kernel_rfl))⟩
  f34 := ⟨Try.f63.name, by decide, Try.func63.trans (congrArg some (by kernel_rfl))⟩
  f35 := ⟨Try.f64.name, by decide, Try.func64.trans (congrArg some (by kernel_rfl))⟩
  f40 := ⟨Try.f65.name, by decide, Try.func65.trans (congrArg some (by kernel_rfl))⟩
  t0 := Try.underlying0
  a0 := Try.isAgg0
  z0 := Try.sizeOf0
  v0 := Try.zeroValue0
  t3 := Try.underlying3
  a3 := Try.isAgg3
  z3 := Try.sizeOf3
  v3 := Try.zeroValue3
  t4 := Try.underlying4
  a4 := Try.isAgg4
  z4 := Try.sizeOf4
  v4 := Try.zeroValue4
  t5 := Try.underlying5
  a5 := Try.isAgg5
  z5 := Try.sizeOf5
  v5 := Try.zeroValue5
  t9 := Try.underlying9
  a9 := Try.isAgg9
  z9 := Try.sizeOf9
  v9 := Try.zeroValue9
  t22 := Try.underlying41
  a22 := Try.isAgg41
  z22 := Try.sizeOf41
  v22 := Try.zeroValue41
  t23 := Try.underlying41
  a23 := Try.isAgg41
  z23 := Try.sizeOf41
  v23 := Try.zeroValue41
  t25 := Try.underlying3
  a25 := Try.isAgg3
  z25 := Try.sizeOf3
  v25 := Try.zeroValue3
  t32 := Try.underlying34
  a32 := Try.isAgg34
  z32 := Try.sizeOf34
  v32 := Try.zeroValue34
  t35 := Try.underlying86
  a35 := Try.isAgg86
  z35 := Try.sizeOf86
  v35 := Try.zeroValue86
  t36 := Try.underlying87
  a36 := Try.isAgg87
  z36 := Try.sizeOf87
  v36 := Try.zeroValue87
  t41 := Try.underlying92
  a41 := Try.isAgg92
  z41 := Try.sizeOf92
  v41 := Try.zeroValue92
  t44 := Try.underlying39
  a44 := Try.isAgg39
  z44 := Try.sizeOf39
  v44 := Try.zeroValue39
  t46 := Try.underlying96
  a46 := Try.isAgg96
  z46 := Try.sizeOf96
  v46 := Try.zeroValue96
  t53 := Try.underlying97
  a53 := Try.isAgg97
  z53 := Try.sizeOf97
  v53 := Try.zeroValue97
  t57 := Try.underlying101
  a57 := Try.isAgg101
  z57 := Try.sizeOf101
  v57 := Try.zeroValue101
  t63 := Try.underlying103
  a63 := Try.isAgg103
  z63 := Try.sizeOf103
  v63 := Try.zeroValue103
  t64 := Try.underlying104
  a64 := Try.isAgg104
  z64 := Try.sizeOf104
  v64 := Try.zeroValue104 }
end Go.Proofs
