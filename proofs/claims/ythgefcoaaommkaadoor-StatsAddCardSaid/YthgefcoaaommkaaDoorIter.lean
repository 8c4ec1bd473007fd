/-
  DERIVED: THE SHELF's CONTRACTS AT THIS DUMP, IN PLAIN WORDS (tools/lay-plain.mjs out of 'TrydIter.lean', which tools/lay-shelf.mjs wrote): THE SAME DECLARATIONS UNDER THE SAME NAMES: 'import', 'namespace', 'open', 'def', 'theorem' AND NOTHING ELSE: no command of the shelf's: FOR A HAND-IN. Each laying: the table of numbers ('.._ren') and one theorem, a field a fact of the dump's own or the kernel's comparison; each contract: ONE APPLICATION.
-/
import Derived.Shelf.SlGeneric
import Derived.Shelf.SlIterI.Nil
import Derived.Shelf.SortM.Plain
import Derived.Shelf.SortM.SortNone
import Derived.Ground.GgzProg
import Derived.Ground.SlgmProg
import Derived.Test.YthgefcoaaommkaaDoorProg
namespace Go.Proofs
open Go.Shelf
def Tryd.keysD_ren : Go.Shelf.Ren := ⟨fun | 7 => 25 | 10 => 38 | n => n, fun | 23 => 54 | 26 => 3 | 3 => 29 | 28 => 63 | 0 => 0 | 27 => 62 | 33 => 80 | 4 => 4 | n => n, fun | n => n⟩
theorem Tryd.keysD : Go.Proofs.SlLaysZI.n7 Tryd.prog Tryd.keysD_ren := {
  mixed := by kernel_rfl
  f7 := ⟨Tryd.f25.name, by decide, Tryd.func25.trans (congrArg some (by kernel_rfl))⟩
  f10 := ⟨Tryd.f38.name, by decide, Tryd.func38.trans (congrArg some (by kernel_rfl))⟩
  t0 := Tryd.underlying0
  a0 := Tryd.isAgg0
  z0 := Tryd.sizeOf0
  v0 := Tryd.zeroValue0
  t4 := Tryd.underlying4
  a4 := Tryd.isAgg4
  z4 := Tryd.sizeOf4
  v4 := Tryd.zeroValue4
  t23 := Tryd.underlying54
  a23 := Tryd.isAgg54
  z23 := Tryd.sizeOf54
  v23 := Tryd.zeroValue54
  t26 := Tryd.underlying3
  a26 := Tryd.isAgg3
  z26 := Tryd.sizeOf3
  v26 := Tryd.zeroValue3
  t27 := Tryd.underlying62
  a27 := Tryd.isAgg62
  z27 := Tryd.sizeOf62
  v27 := Tryd.zeroValue62
  t28 := Tryd.underlying63
  a28 := Tryd.isAgg63
  z28 := Tryd.sizeOf63
  v28 := Tryd.zeroValue63
  t33 := Tryd.underlying80
  a33 := Tryd.isAgg80
  z33 := Tryd.sizeOf80
  v33 := Tryd.zeroValue80 }
def Tryd.sortedD_ren : Go.Shelf.Ren := ⟨fun | 6 => 24 | 8 => 36 | 9 => 37 | 11 => 48 | 13 => 30 | 12 => 49 | 23 => 40 | 24 => 41 | 14 => 57 | 15 => 58 | 16 => 59 | 17 => 60 | 18 => 61 | 19 => 62 | 20 => 63 | 21 => 64 | 22 => 65 | 25 => 72 | 26 => 73 | 27 => 74 | 28 => 75 | 29 => 76 | 30 => 77 | 31 => 85 | n => n, fun | 26 => 3 | 28 => 63 | 24 => 40 | 0 => 0 | 3 => 3 | 37 => 71 | 48 => 83 | 50 => 85 | 4 => 4 | 40 => 107 | 39 => 106 | 45 => 112 | 5 => 5 | 9 => 9 | 51 => 117 | 55 => 121 | 57 => 129 | 58 => 73 | 33 => 80 | n => n, fun | n => n⟩
theorem Tryd.sortedD : Go.Proofs.SlLaysZI.n6 Tryd.prog Tryd.sortedD_ren := {
  mixed := by kernel_rfl
  f6 := ⟨Tryd.f24.name, by decide, Tryd.func24.trans (congrArg some (by kernel_rfl))⟩
  f8 := ⟨Tryd.f36.name, by decide, Tryd.func36.trans (congrArg some (by kernel_rfl))⟩
  f11 := ⟨Tryd.f48.name, by decide, Tryd.func48.trans (congrArg some (by kernel_rfl))⟩
  t0 := Tryd.underlying0
  a0 := Tryd.isAgg0
  z0 := Tryd.sizeOf0
  v0 := Tryd.zeroValue0
  t24 := Tryd.underlying40
  a24 := Tryd.isAgg40
  z24 := Tryd.sizeOf40
  v24 := Tryd.zeroValue40
  t26 := Tryd.underlying3
  a26 := Tryd.isAgg3
  z26 := Tryd.sizeOf3
  v26 := Tryd.zeroValue3
  t28 := Tryd.underlying63
  a28 := Tryd.isAgg63
  z28 := Tryd.sizeOf63
  v28 := Tryd.zeroValue63
  i26 := by kernel_rfl }
def Tryd.sortD_ren : Go.Shelf.Ren := ⟨fun | 5 => 37 | 8 => 30 | 7 => 49 | 19 => 40 | 20 => 41 | 10 => 57 | 11 => 58 | 12 => 59 | 13 => 60 | 14 => 61 | 15 => 62 | 16 => 63 | 17 => 64 | 18 => 65 | 30 => 72 | 31 => 73 | 32 => 74 | 33 => 75 | 34 => 76 | 35 => 77 | 40 => 85 | n => n, fun | 23 => 40 | 25 => 3 | 3 => 3 | 32 => 71 | 22 => 40 | 0 => 0 | 44 => 83 | 46 => 85 | 4 => 4 | 36 => 107 | 35 => 106 | 41 => 112 | 5 => 5 | 9 => 9 | 53 => 117 | 57 => 121 | 63 => 129 | 64 => 73 | n => n, fun | n => n⟩
theorem Tryd.sortD : Go.Proofs.SlLaysM.n5 Tryd.prog Tryd.sortD_ren := {
  mixed := by kernel_rfl
  f5 := ⟨Tryd.f37.name, by decide, Tryd.func37.trans (congrArg some (by kernel_rfl))⟩
  f7 := ⟨Tryd.f49.name, by decide, Tryd.func49.trans (congrArg some (by kernel_rfl))⟩
  f8 := Tryd.func30.trans (congrArg some (by kernel_rfl))
  f10 := ⟨Tryd.f57.name, by decide, Tryd.func57.trans (congrArg some (by kernel_rfl))⟩
  f11 := ⟨Tryd.f58.name, by decide, Tryd.func58.trans (congrArg some (by kernel_rfl))⟩
  f12 := ⟨Tryd.f59.name, by decide, Tryd.func59.trans (congrArg some (by kernel_rfl))⟩
  f13 := ⟨Tryd.f60.name, by decide, Tryd.func60.trans (congrArg some (by kernel_rfl))⟩
  f14 := ⟨Tryd.f61.name, by decide, Tryd.func61.trans (congrArg some (by kernel_rfl))⟩
  f15 := ⟨Tryd.f62.name, by decide, Tryd.func62.trans (congrArg some (by kernel_rfl))⟩
  f16 := ⟨Tryd.f63.name, by decide, Tryd.func63.trans (congrArg some (by kernel_rfl))⟩
  f17 := ⟨Tryd.f64.name, by decide, Tryd.func64.trans (congrArg some (by kernel_rfl))⟩
  f18 := ⟨Tryd.f65.name, by decide, Tryd.func65.trans (congrArg some (by kernel_rfl))⟩
  f19 := Tryd.func40.trans (congrArg some (by kernel_rfl))
  f20 := Tryd.func41.trans (congrArg some (by kernel_rfl))
  f30 := ⟨Tryd.f72.name, by decide, Tryd.func72.trans (congrArg some (by kernel_rfl))⟩
  f31 := Tryd.func73.trans (congrArg some (by kernel_rfl))
  f32 := Tryd.func74.trans (congrArg some (by kernel_rfl))
  f33 := ⟨Tryd.f75.name, by decide, Tryd.func75.trans (congrArg some (by kernel_rfl))⟩
  f34 := ⟨Tryd.f76.name, by decide, Tryd.func76.trans (congrArg some (by kernel_rfl))⟩
  f35 := ⟨Tryd.f77.name, by decide, Tryd.func77.trans (congrArg some (by kernel_rfl))⟩
  f40 := ⟨Tryd.f85.name, by decide, Tryd.func85.trans (congrArg some (by kernel_rfl))⟩
  t0 := Tryd.underlying0
  a0 := Tryd.isAgg0
  z0 := Tryd.sizeOf0
  v0 := Tryd.zeroValue0
  t3 := Tryd.underlying3
  a3 := Tryd.isAgg3
  z3 := Tryd.sizeOf3
  v3 := Tryd.zeroValue3
  t4 := Tryd.underlying4
  a4 := Tryd.isAgg4
  z4 := Tryd.sizeOf4
  v4 := Tryd.zeroValue4
  t5 := Tryd.underlying5
  a5 := Tryd.isAgg5
  z5 := Tryd.sizeOf5
  v5 := Tryd.zeroValue5
  t9 := Tryd.underlying9
  a9 := Tryd.isAgg9
  z9 := Tryd.sizeOf9
  v9 := Tryd.zeroValue9
  t22 := Tryd.underlying40
  a22 := Tryd.isAgg40
  z22 := Tryd.sizeOf40
  v22 := Tryd.zeroValue40
  t23 := Tryd.underlying40
  a23 := Tryd.isAgg40
  z23 := Tryd.sizeOf40
  v23 := Tryd.zeroValue40
  t25 := Tryd.underlying3
  a25 := Tryd.isAgg3
  z25 := Tryd.sizeOf3
  v25 := Tryd.zeroValue3
  t32 := Tryd.underlying71
  a32 := Tryd.isAgg71
  z32 := Tryd.sizeOf71
  v32 := Tryd.zeroValue71
  t35 := Tryd.underlying106
  a35 := Tryd.isAgg106
  z35 := Tryd.sizeOf106
  v35 := Tryd.zeroValue106
  t36 := Tryd.underlying107
  a36 := Tryd.isAgg107
  z36 := Tryd.sizeOf107
  v36 := Tryd.zeroValue107
  t41 := Tryd.underlying112
  a41 := Tryd.isAgg112
  z41 := Tryd.sizeOf112
  v41 := Tryd.zeroValue112
  t44 := Tryd.underlying83
  a44 := Tryd.isAgg83
  z44 := Tryd.sizeOf83
  v44 := Tryd.zeroValue83
  t46 := Tryd.underlying85
  a46 := Tryd.isAgg85
  z46 := Tryd.sizeOf85
  v46 := Tryd.zeroValue85
  t53 := Tryd.underlying117
  a53 := Tryd.isAgg117
  z53 := Tryd.sizeOf117
  v53 := Tryd.zeroValue117
  t57 := Tryd.underlying121
  a57 := Tryd.isAgg121
  z57 := Tryd.sizeOf121
  v57 := Tryd.zeroValue121
  t63 := Tryd.underlying129
  a63 := Tryd.isAgg129
  z63 := Tryd.sizeOf129
  v63 := Tryd.zeroValue129
  t64 := Tryd.underlying73
  a64 := Tryd.isAgg73
  z64 := Tryd.sizeOf73
  v64 := Tryd.zeroValue73 }
end Go.Proofs
