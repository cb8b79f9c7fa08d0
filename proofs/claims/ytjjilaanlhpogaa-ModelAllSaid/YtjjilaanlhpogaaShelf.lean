/-
  DERIVED: THE SHELF's CONTRACTS AT THIS DUMP, IN PLAIN WORDS (tools/lay-plain.mjs out of 'YtjjilaanlhpogaaShelf.lean', which tools/lay-shelf.mjs wrote): THE SAME DECLARATIONS UNDER THE SAME NAMES: 'import', 'namespace', 'open', 'def', 'theorem' AND NOTHING ELSE: no command of the shelf's: FOR A HAND-IN. Each laying: the table of numbers ('.._ren') and one theorem, a field a fact of the dump's own or the kernel's comparison; each contract: ONE APPLICATION.
-/
import Derived.Shelf.SlIter.Nil
import Derived.Shelf.SortM.Plain
import Derived.Shelf.SortM.SortNone
import Derived.Shelf.SlMaps.Clone
import Derived.Ground.GgzProg
import Derived.Ground.SlgmProg
import Derived.Ground.SlmcProg
import Derived.Shelf.SlGeneric
import Derived.Test.YtjjilaanlhpogaaProg
namespace Go.Proofs
open Go.Shelf
def Try.keysA_ren : Go.Shelf.Ren := ⟨fun | 7 => 27 | 10 => 31 | n => n, fun | 23 => 50 | 26 => 9 | 3 => 31 | 28 => 64 | 0 => 0 | 27 => 63 | 33 => 67 | 4 => 4 | n => n, fun | n => n⟩
theorem Try.keysA : Go.Proofs.SlLaysZ.n7 Try.prog Try.keysA_ren := {
  mixed := by kernel_rfl
  f7 := ⟨Try.f27.name, by decide, Try.func27.trans (congrArg some (by kernel_rfl))⟩
  f10 := ⟨Try.f31.name, by decide, Try.func31.trans (congrArg some (by kernel_rfl))⟩
  t0 := Try.underlying0
  a0 := Try.isAgg0
  z0 := Try.sizeOf0
  v0 := Try.zeroValue0
  t4 := Try.underlying4
  a4 := Try.isAgg4
  z4 := Try.sizeOf4
  v4 := Try.zeroValue4
  t23 := Try.underlying50
  a23 := Try.isAgg50
  z23 := Try.sizeOf50
  v23 := Try.zeroValue50
  t26 := Try.underlying9
  a26 := Try.isAgg9
  z26 := Try.sizeOf9
  v26 := Try.zeroValue9
  t27 := Try.underlying63
  a27 := Try.isAgg63
  z27 := Try.sizeOf63
  v27 := Try.zeroValue63
  t28 := Try.underlying64
  a28 := Try.isAgg64
  z28 := Try.sizeOf64
  v28 := Try.zeroValue64
  t33 := Try.underlying67
  a33 := Try.isAgg67
  z33 := Try.sizeOf67
  v33 := Try.zeroValue67 }
def Try.sortedA_ren : Go.Shelf.Ren := ⟨fun | 6 => 26 | 8 => 29 | 9 => 30 | 11 => 32 | 13 => 34 | 12 => 33 | 23 => 44 | 24 => 45 | 14 => 35 | 15 => 36 | 16 => 37 | 17 => 38 | 18 => 39 | 19 => 40 | 20 => 41 | 21 => 42 | 22 => 43 | 25 => 46 | 26 => 47 | 27 => 48 | 28 => 49 | 29 => 50 | 30 => 51 | 31 => 52 | n => n, fun | 26 => 9 | 28 => 64 | 24 => 61 | 0 => 0 | 3 => 3 | 37 => 71 | 48 => 81 | 50 => 83 | 4 => 4 | 40 => 74 | 39 => 73 | 45 => 58 | 5 => 5 | 9 => 9 | 51 => 84 | 55 => 88 | 57 => 90 | 58 => 91 | 33 => 67 | n => n, fun | n => n⟩
theorem Try.sortedA : Go.Proofs.SlLaysZ.n6 Try.prog Try.sortedA_ren := {
  mixed := by kernel_rfl
  f6 := ⟨Try.f26.name, by decide, Try.func26.trans (congrArg some (by kernel_rfl))⟩
  f8 := ⟨Try.f29.name, by decide, Try.func29.trans (congrArg some (by kernel_rfl))⟩
  f11 := ⟨Try.f32.name, by decide, Try.func32.trans (congrArg some (by kernel_rfl))⟩
  t0 := Try.underlying0
  a0 := Try.isAgg0
  z0 := Try.sizeOf0
  v0 := Try.zeroValue0
  t24 := Try.underlying61
  a24 := Try.isAgg61
  z24 := Try.sizeOf61
  v24 := Try.zeroValue61
  t26 := Try.underlying9
  a26 := Try.isAgg9
  z26 := Try.sizeOf9
  v26 := Try.zeroValue9
  t28 := Try.underlying64
  a28 := Try.isAgg64
  z28 := Try.sizeOf64
  v28 := Try.zeroValue64
  i26 := by kernel_rfl }
def Try.sortA_ren : Go.Shelf.Ren := ⟨fun | 6 => 30 | 8 => 34 | 9 => 33 | 19 => 44 | 20 => 45 | 21 => 35 | 22 => 36 | 23 => 37 | 24 => 38 | 25 => 39 | 26 => 40 | 27 => 41 | 28 => 42 | 29 => 43 | 36 => 46 | 31 => 47 | 32 => 48 | 37 => 49 | 38 => 50 | 39 => 51 | 41 => 52 | n => n, fun | 27 => 61 | 29 => 9 | 3 => 3 | 32 => 71 | 26 => 61 | 0 => 0 | 44 => 81 | 46 => 83 | 4 => 4 | 36 => 74 | 35 => 73 | 41 => 58 | 5 => 5 | 9 => 9 | 53 => 84 | 57 => 88 | 63 => 90 | 64 => 91 | n => n, fun | n => n⟩
theorem Try.sortA : Go.Proofs.SlLaysM.n6 Try.prog Try.sortA_ren := {
  mixed := by kernel_rfl
  f6 := ⟨Try.f30.name, by decide, Try.func30.trans (congrArg some (by kernel_rfl))⟩
  f8 := Try.func34.trans (congrArg some (by kernel_rfl))
  f9 := ⟨Try.f33.name, by decide, Try.func33.trans (congrArg some (by kernel_rfl))⟩
  f19 := Try.func44.trans (congrArg some (by kernel_rfl))
  f20 := Try.func45.trans (congrArg some (by kernel_rfl))
  f21 := ⟨Try.f35.name, by decide, Try.func35.trans (congrArg some (by kernel_rfl))⟩
  f22 := ⟨Try.f36.name, by decide, Try.func36.trans (congrArg some (by kernel_rfl))⟩
  f23 := ⟨Try.f37.name, by decide, Try.func37.trans (congrArg some (by kernel_rfl))⟩
  f24 := ⟨Try.f38.name, by decide, Try.func38.trans (congrArg some (by kernel_rfl))⟩
  f25 := ⟨Try.f39.name, by decide, Try.func39.trans (congrArg some (by kernel_rfl))⟩
  f26 := ⟨Try.f40.name, by decide, Try.func40.trans (congrArg some (by kernel_rfl))⟩
  f27 := ⟨Try.f41.name, by decide, Try.func41.trans (congrArg some (by kernel_rfl))⟩
  f28 := ⟨Try.f42.name, by decide, Try.func42.trans (congrArg some (by kernel_rfl))⟩
  f29 := ⟨Try.f43.name, by decide, Try.func43.trans (congrArg some (by kernel_rfl))⟩
  f31 := Try.func47.trans (congrArg some (by kernel_rfl))
  f32 := Try.func48.trans (congrArg some (by kernel_rfl))
  f36 := ⟨Try.f46.name, by decide, Try.func46.trans (congrArg some (by kernel_rfl))⟩
  f37 := ⟨Try.f49.name, by decide, Try.func49.trans (congrArg some (by kernel_rfl))⟩
  f38 := ⟨Try.f50.name, by decide, Try.func50.trans (congrArg some (by kernel_rfl))⟩
  f39 := ⟨Try.f51.name, by decide, Try.func51.trans (congrArg some (by kernel_rfl))⟩
  f41 := ⟨Try.f52.name, by decide, Try.func52.trans (congrArg some (by kernel_rfl))⟩
  t0 := Try.underlying0
  a0 := Try.isAgg0
  z0 := Try.sizeOf0
  v0 := Try.zeroValue0
  t3 := Try.underlying3
  a3 := Try.isAgg3
  z3 := Try.sizeOf3
  v3 := Try.zeroValue3
  t4 := Try.underlying4
  a4 := Try.isAgg4
  z4 := Try.sizeOf4
  v4 := Try.zeroValue4
  t5 := Try.underlying5
  a5 := Try.isAgg5
  z5 := Try.sizeOf5
  v5 := Try.zeroValue5
  t9 := Try.underlying9
  a9 := Try.isAgg9
  z9 := Try.sizeOf9
  v9 := Try.zeroValue9
  t26 := Try.underlying61
  a26 := Try.isAgg61
  z26 := Try.sizeOf61
  v26 := Try.zeroValue61
  t27 := Try.underlying61
  a27 := Try.isAgg61
  z27 := Try.sizeOf61
  v27 := Try.zeroValue61
  t29 := Try.underlying9
  a29 := Try.isAgg9
  z29 := Try.sizeOf9
  v29 := Try.zeroValue9
  t32 := Try.underlying71
  a32 := Try.isAgg71
  z32 := Try.sizeOf71
  v32 := Try.zeroValue71
  t35 := Try.underlying73
  a35 := Try.isAgg73
  z35 := Try.sizeOf73
  v35 := Try.zeroValue73
  t36 := Try.underlying74
  a36 := Try.isAgg74
  z36 := Try.sizeOf74
  v36 := Try.zeroValue74
  t41 := Try.underlying58
  a41 := Try.isAgg58
  z41 := Try.sizeOf58
  v41 := Try.zeroValue58
  t44 := Try.underlying81
  a44 := Try.isAgg81
  z44 := Try.sizeOf81
  v44 := Try.zeroValue81
  t46 := Try.underlying83
  a46 := Try.isAgg83
  z46 := Try.sizeOf83
  v46 := Try.zeroValue83
  t53 := Try.underlying84
  a53 := Try.isAgg84
  z53 := Try.sizeOf84
  v53 := Try.zeroValue84
  t57 := Try.underlying88
  a57 := Try.isAgg88
  z57 := Try.sizeOf88
  v57 := Try.zeroValue88
  t63 := Try.underlying90
  a63 := Try.isAgg90
  z63 := Try.sizeOf90
  v63 := Try.zeroValue90
  t64 := Try.underlying91
  a64 := Try.isAgg91
  z64 := Try.sizeOf91
  v64 := Try.zeroValue91 }
def Try.cloneA_ren : Go.Shelf.Ren := ⟨fun | 5 => 15 | 7 => 24 | n => n, fun | 23 => 50 | 25 => 9 | 3 => 31 | 4 => 4 | 20 => 20 | n => n, fun | n => n⟩
theorem Try.cloneA : Go.Proofs.SlLaysW.n5 Try.prog Try.cloneA_ren := {
  mixed := by kernel_rfl
  f5 := ⟨Try.f15.name, by decide, Try.func15.trans (congrArg some (by kernel_rfl))⟩
  f7 := Try.func24.trans (congrArg some (by kernel_rfl))
  t4 := Try.underlying4
  a4 := Try.isAgg4
  z4 := Try.sizeOf4
  v4 := Try.zeroValue4
  t20 := Try.underlying20
  a20 := Try.isAgg20
  z20 := Try.sizeOf20
  v20 := Try.zeroValue20
  t23 := Try.underlying50
  a23 := Try.isAgg50
  z23 := Try.sizeOf50
  v23 := Try.zeroValue50 }
end Go.Proofs
