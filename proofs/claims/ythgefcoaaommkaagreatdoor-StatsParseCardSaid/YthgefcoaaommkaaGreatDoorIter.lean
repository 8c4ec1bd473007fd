/-
  DERIVED: THE SHELF's CONTRACTS AT THIS DUMP, IN PLAIN WORDS (tools/lay-plain.mjs out of 'TryzIter.lean', which tools/lay-shelf.mjs wrote): THE SAME DECLARATIONS UNDER THE SAME NAMES: 'import', 'namespace', 'open', 'def', 'theorem' AND NOTHING ELSE: no command of the shelf's: FOR A HAND-IN. Each laying: the table of numbers ('.._ren') and one theorem, a field a fact of the dump's own or the kernel's comparison; each contract: ONE APPLICATION.
-/
import Derived.Shelf.SlGeneric
import Derived.Shelf.SlIterI.Nil
import Derived.Shelf.SortM.Plain
import Derived.Shelf.SortM.SortNone
import Derived.Ground.GgzProg
import Derived.Ground.SlgmProg
import Derived.Test.YthgefcoaaommkaaGreatDoorProg
namespace Go.Proofs
open Go.Shelf
def Tryz.keysD_ren : Go.Shelf.Ren := ⟨fun | 7 => 50 | 10 => 88 | n => n, fun | 23 => 69 | 26 => 3 | 3 => 34 | 28 => 102 | 0 => 0 | 27 => 101 | 33 => 141 | 4 => 4 | n => n, fun | n => n⟩
theorem Tryz.keysD : Go.Proofs.SlLaysZI.n7 Tryz.prog Tryz.keysD_ren := {
  mixed := by kernel_rfl
  f7 := ⟨Tryz.f50.name, by decide, Tryz.func50.trans (congrArg some (by kernel_rfl))⟩
  f10 := ⟨Tryz.f88.name, by decide, Tryz.func88.trans (congrArg some (by kernel_rfl))⟩
  t0 := Tryz.underlying0
  a0 := Tryz.isAgg0
  z0 := Tryz.sizeOf0
  v0 := Tryz.zeroValue0
  t4 := Tryz.underlying4
  a4 := Tryz.isAgg4
  z4 := Tryz.sizeOf4
  v4 := Tryz.zeroValue4
  t23 := Tryz.underlying69
  a23 := Tryz.isAgg69
  z23 := Tryz.sizeOf69
  v23 := Tryz.zeroValue69
  t26 := Tryz.underlying3
  a26 := Tryz.isAgg3
  z26 := Tryz.sizeOf3
  v26 := Tryz.zeroValue3
  t27 := Tryz.underlying101
  a27 := Tryz.isAgg101
  z27 := Tryz.sizeOf101
  v27 := Tryz.zeroValue101
  t28 := Tryz.underlying102
  a28 := Tryz.isAgg102
  z28 := Tryz.sizeOf102
  v28 := Tryz.zeroValue102
  t33 := Tryz.underlying141
  a33 := Tryz.isAgg141
  z33 := Tryz.sizeOf141
  v33 := Tryz.zeroValue141 }
def Tryz.sortedD_ren : Go.Shelf.Ren := ⟨fun | 6 => 49 | 8 => 86 | 9 => 87 | 11 => 116 | 13 => 68 | 12 => 117 | 23 => 93 | 24 => 94 | 14 => 141 | 15 => 142 | 16 => 143 | 17 => 144 | 18 => 145 | 19 => 146 | 20 => 147 | 21 => 148 | 22 => 149 | 25 => 169 | 26 => 136 | 27 => 137 | 28 => 170 | 29 => 171 | 30 => 82 | 31 => 189 | n => n, fun | 26 => 3 | 28 => 102 | 24 => 38 | 0 => 0 | 3 => 3 | 37 => 119 | 48 => 150 | 50 => 152 | 4 => 4 | 40 => 161 | 39 => 160 | 45 => 131 | 5 => 5 | 9 => 9 | 51 => 181 | 55 => 185 | 57 => 205 | 58 => 135 | 33 => 141 | n => n, fun | n => n⟩
theorem Tryz.sortedD : Go.Proofs.SlLaysZI.n6 Tryz.prog Tryz.sortedD_ren := {
  mixed := by kernel_rfl
  f6 := ⟨Tryz.f49.name, by decide, Tryz.func49.trans (congrArg some (by kernel_rfl))⟩
  f8 := ⟨Tryz.f86.name, by decide, Tryz.func86.trans (congrArg some (by kernel_rfl))⟩
  f11 := ⟨Tryz.f116.name, by decide, Tryz.func116.trans (congrArg some (by kernel_rfl))⟩
  t0 := Tryz.underlying0
  a0 := Tryz.isAgg0
  z0 := Tryz.sizeOf0
  v0 := Tryz.zeroValue0
  t24 := Tryz.underlying38
  a24 := Tryz.isAgg38
  z24 := Tryz.sizeOf38
  v24 := Tryz.zeroValue38
  t26 := Tryz.underlying3
  a26 := Tryz.isAgg3
  z26 := Tryz.sizeOf3
  v26 := Tryz.zeroValue3
  t28 := Tryz.underlying102
  a28 := Tryz.isAgg102
  z28 := Tryz.sizeOf102
  v28 := Tryz.zeroValue102
  i26 := by kernel_rfl }
def Tryz.sortD_ren : Go.Shelf.Ren := ⟨fun | 5 => 87 | 8 => 68 | 7 => 117 | 19 => 93 | 20 => 94 | 10 => 141 | 11 => 142 | 12 => 143 | 13 => 144 | 14 => 145 | 15 => 146 | 16 => 147 | 17 => 148 | 18 => 149 | 30 => 169 | 31 => 136 | 32 => 137 | 33 => 170 | 34 => 171 | 35 => 82 | 40 => 189 | n => n, fun | 23 => 38 | 25 => 3 | 3 => 3 | 32 => 119 | 22 => 38 | 0 => 0 | 44 => 150 | 46 => 152 | 4 => 4 | 36 => 161 | 35 => 160 | 41 => 131 | 5 => 5 | 9 => 9 | 53 => 181 | 57 => 185 | 63 => 205 | 64 => 135 | n => n, fun | n => n⟩
theorem Tryz.sortD : Go.Proofs.SlLaysM.n5 Tryz.prog Tryz.sortD_ren := {
  mixed := by kernel_rfl
  f5 := ⟨Tryz.f87.name, by decide, Tryz.func87.trans (congrArg some (by kernel_rfl))⟩
  f7 := ⟨Tryz.f117.name, by decide, Tryz.func117.trans (congrArg some (by kernel_rfl))⟩
  f8 := Tryz.func68.trans (congrArg some (by kernel_rfl))
  f10 := ⟨Tryz.f141.name, by decide, Tryz.func141.trans (congrArg some (by kernel_rfl))⟩
  f11 := ⟨Tryz.f142.name, by decide, Tryz.func142.trans (congrArg some (by kernel_rfl))⟩
  f12 := ⟨Tryz.f143.name, by decide, Tryz.func143.trans (congrArg some (by kernel_rfl))⟩
  f13 := ⟨Tryz.f144.name, by decide, Tryz.func144.trans (congrArg some (by kernel_rfl))⟩
  f14 := ⟨Tryz.f145.name, by decide, Tryz.func145.trans (congrArg some (by kernel_rfl))⟩
  f15 := ⟨Tryz.f146.name, by decide, Tryz.func146.trans (congrArg some (by kernel_rfl))⟩
  f16 := ⟨Tryz.f147.name, by decide, Tryz.func147.trans (congrArg some (by kernel_rfl))⟩
  f17 := ⟨Tryz.f148.name, by decide, Tryz.func148.trans (congrArg some (by kernel_rfl))⟩
  f18 := ⟨Tryz.f149.name, by decide, Tryz.func149.trans (congrArg some (by kernel_rfl))⟩
  f19 := Tryz.func93.trans (congrArg some (by kernel_rfl))
  f20 := Tryz.func94.trans (congrArg some (by kernel_rfl))
  f30 := ⟨Tryz.f169.name, by decide, Tryz.func169.trans (congrArg some (by kernel_rfl))⟩
  f31 := Tryz.func136.trans (congrArg some (by kernel_rfl))
  f32 := Tryz.func137.trans (congrArg some (by kernel_rfl))
  f33 := ⟨Tryz.f170.name, by decide, Tryz.func170.trans (congrArg some (by kernel_rfl))⟩
  f34 := ⟨Tryz.f171.name, by decide, Tryz.func171.trans (congrArg some (by kernel_rfl))⟩
  f35 := ⟨Tryz.f82.name, by decide, Tryz.func82.trans (congrArg some (by kernel_rfl))⟩
  f40 := ⟨Tryz.f189.name, by decide, Tryz.func189.trans (congrArg some (by kernel_rfl))⟩
  t0 := Tryz.underlying0
  a0 := Tryz.isAgg0
  z0 := Tryz.sizeOf0
  v0 := Tryz.zeroValue0
  t3 := Tryz.underlying3
  a3 := Tryz.isAgg3
  z3 := Tryz.sizeOf3
  v3 := Tryz.zeroValue3
  t4 := Tryz.underlying4
  a4 := Tryz.isAgg4
  z4 := Tryz.sizeOf4
  v4 := Tryz.zeroValue4
  t5 := Tryz.underlying5
  a5 := Tryz.isAgg5
  z5 := Tryz.sizeOf5
  v5 := Tryz.zeroValue5
  t9 := Tryz.underlying9
  a9 := Tryz.isAgg9
  z9 := Tryz.sizeOf9
  v9 := Tryz.zeroValue9
  t22 := Tryz.underlying38
  a22 := Tryz.isAgg38
  z22 := Tryz.sizeOf38
  v22 := Tryz.zeroValue38
  t23 := Tryz.underlying38
  a23 := Tryz.isAgg38
  z23 := Tryz.sizeOf38
  v23 := Tryz.zeroValue38
  t25 := Tryz.underlying3
  a25 := Tryz.isAgg3
  z25 := Tryz.sizeOf3
  v25 := Tryz.zeroValue3
  t32 := Tryz.underlying119
  a32 := Tryz.isAgg119
  z32 := Tryz.sizeOf119
  v32 := Tryz.zeroValue119
  t35 := Tryz.underlying160
  a35 := Tryz.isAgg160
  z35 := Tryz.sizeOf160
  v35 := Tryz.zeroValue160
  t36 := Tryz.underlying161
  a36 := Tryz.isAgg161
  z36 := Tryz.sizeOf161
  v36 := Tryz.zeroValue161
  t41 := Tryz.underlying131
  a41 := Tryz.isAgg131
  z41 := Tryz.sizeOf131
  v41 := Tryz.zeroValue131
  t44 := Tryz.underlying150
  a44 := Tryz.isAgg150
  z44 := Tryz.sizeOf150
  v44 := Tryz.zeroValue150
  t46 := Tryz.underlying152
  a46 := Tryz.isAgg152
  z46 := Tryz.sizeOf152
  v46 := Tryz.zeroValue152
  t53 := Tryz.underlying181
  a53 := Tryz.isAgg181
  z53 := Tryz.sizeOf181
  v53 := Tryz.zeroValue181
  t57 := Tryz.underlying185
  a57 := Tryz.isAgg185
  z57 := Tryz.sizeOf185
  v57 := Tryz.zeroValue185
  t63 := Tryz.underlying205
  a63 := Tryz.isAgg205
  z63 := Tryz.sizeOf205
  v63 := Tryz.zeroValue205
  t64 := Tryz.underlying135
  a64 := Tryz.isAgg135
  z64 := Tryz.sizeOf135
  v64 := Tryz.zeroValue135 }
end Go.Proofs
