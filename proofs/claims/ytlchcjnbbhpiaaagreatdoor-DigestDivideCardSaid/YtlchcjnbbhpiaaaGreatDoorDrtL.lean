/-
  DERIVED: THE SHELF's CONTRACTS AT THIS DUMP, IN PLAIN WORDS (tools/lay-plain.mjs out of 'TryzDrtL.lean', which tools/lay-shelf.mjs wrote): THE SAME DECLARATIONS UNDER THE SAME NAMES: 'import', 'namespace', 'open', 'def', 'theorem' AND NOTHING ELSE: no command of the shelf's: FOR A HAND-IN. Each laying: the table of numbers ('.._ren') and one theorem, a field a fact of the dump's own or the kernel's comparison; each contract: ONE APPLICATION.
-/
import Derived.Shelf.SlGeneric
import Derived.Shelf.SlSortCmp.WholeK
import Derived.Shelf.SlSortCmp.NoneTotal
import Derived.Ground.SlsfProg
import Derived.Test.YtlchcjnbbhpiaaaGreatDoorProg
namespace Go.Proofs
open Go.Shelf
def Tryz.srtDgD_ren : Go.Shelf.Ren := ⟨fun | 6 => 79 | 15 => 115 | 14 => 114 | 28 => 149 | 29 => 150 | 20 => 141 | 21 => 142 | 22 => 143 | 23 => 144 | 24 => 145 | 25 => 146 | 26 => 147 | 27 => 148 | 46 => 189 | 47 => 190 | 48 => 191 | 49 => 192 | 50 => 193 | 57 => 218 | n => n, fun | 22 => 83 | 24 => 32 | 25 => 135 | 3 => 3 | 39 => 161 | 0 => 0 | 53 => 194 | 55 => 196 | 4 => 4 | 46 => 188 | 45 => 187 | 50 => 143 | 5 => 5 | 9 => 9 | 66 => 225 | 70 => 229 | 76 => 251 | 77 => 213 | n => n, fun | n => n⟩
theorem Tryz.srtDgD : Go.Proofs.SlLaysF0.n6 Tryz.prog Tryz.srtDgD_ren := {
 mixed := by kernel_rfl
 f6 := ⟨Tryz.f79.name, by decide, Tryz.func79.trans (congrArg some (by kernel_rfl))⟩
 f14 := ⟨Tryz.f114.name, by decide, Tryz.func114.trans (congrArg some (by kernel_rfl))⟩
 f15 := Tryz.func115.trans (congrArg some (by kernel_rfl))
 f20 := ⟨Tryz.f141.name, by decide, Tryz.func141.trans (congrArg some (by kernel_rfl))⟩
 f21 := ⟨Tryz.f142.name, by decide, Tryz.func142.trans (congrArg some (by kernel_rfl))⟩
 f22 := ⟨Tryz.f143.name, by decide, Tryz.func143.trans (congrArg some (by kernel_rfl))⟩
 f23 := ⟨Tryz.f144.name, by decide, Tryz.func144.trans (congrArg some (by kernel_rfl))⟩
 f24 := ⟨Tryz.f145.name, by decide, Tryz.func145.trans (congrArg some (by kernel_rfl))⟩
 f25 := ⟨Tryz.f146.name, by decide, Tryz.func146.trans (congrArg some (by kernel_rfl))⟩
 f26 := ⟨Tryz.f147.name, by decide, Tryz.func147.trans (congrArg some (by kernel_rfl))⟩
 f27 := ⟨Tryz.f148.name, by decide, Tryz.func148.trans (congrArg some (by kernel_rfl))⟩
 f28 := Tryz.func149.trans (congrArg some (by kernel_rfl))
 f29 := Tryz.func150.trans (congrArg some (by kernel_rfl))
 f46 := ⟨Tryz.f189.name, by decide, Tryz.func189.trans (congrArg some (by kernel_rfl))⟩
 f47 := Tryz.func190.trans (congrArg some (by kernel_rfl))
 f48 := Tryz.func191.trans (congrArg some (by kernel_rfl))
 f49 := ⟨Tryz.f192.name, by decide, Tryz.func192.trans (congrArg some (by kernel_rfl))⟩
 f50 := ⟨Tryz.f193.name, by decide, Tryz.func193.trans (congrArg some (by kernel_rfl))⟩
 f57 := ⟨Tryz.f218.name, by decide, Tryz.func218.trans (congrArg some (by kernel_rfl))⟩
 t0 := Tryz.underlying0
 a0 := Tryz.isAgg0
 z0 := Tryz.sizeOf0
 v0 := Tryz.zeroValue0
 t3 := Tryz.underlying3
 a3 := Tryz.isAgg3
 z3 := Tryz.sizeOf3
 v3 := Tryz.zeroValue3
 t4 := Tryz.underlying4
 a4 := Tryz.isAgg4
 z4 := Tryz.sizeOf4
 v4 := Tryz.zeroValue4
 t5 := Tryz.underlying5
 a5 := Tryz.isAgg5
 z5 := Tryz.sizeOf5
 v5 := Tryz.zeroValue5
 t9 := Tryz.underlying9
 a9 := Tryz.isAgg9
 z9 := Tryz.sizeOf9
 v9 := Tryz.zeroValue9
 t22 := Tryz.underlying83
 a22 := Tryz.isAgg83
 z22 := Tryz.sizeOf83
 v22 := Tryz.zeroValue83
 t25 := Tryz.underlying135
 a25 := Tryz.isAgg135
 z25 := Tryz.sizeOf135
 v25 := Tryz.zeroValue135
 t39 := Tryz.underlying161
 a39 := Tryz.isAgg161
 z39 := Tryz.sizeOf161
 v39 := Tryz.zeroValue161
 t45 := Tryz.underlying187
 a45 := Tryz.isAgg187
 z45 := Tryz.sizeOf187
 v45 := Tryz.zeroValue187
 t46 := Tryz.underlying188
 a46 := Tryz.isAgg188
 z46 := Tryz.sizeOf188
 v46 := Tryz.zeroValue188
 t50 := Tryz.underlying143
 a50 := Tryz.isAgg143
 z50 := Tryz.sizeOf143
 v50 := Tryz.zeroValue143
 t53 := Tryz.underlying194
 a53 := Tryz.isAgg194
 z53 := Tryz.sizeOf194
 v53 := Tryz.zeroValue194
 t55 := Tryz.underlying196
 a55 := Tryz.isAgg196
 z55 := Tryz.sizeOf196
 v55 := Tryz.zeroValue196
 t66 := Tryz.underlying225
 a66 := Tryz.isAgg225
 z66 := Tryz.sizeOf225
 v66 := Tryz.zeroValue225
 t70 := Tryz.underlying229
 a70 := Tryz.isAgg229
 z70 := Tryz.sizeOf229
 v70 := Tryz.zeroValue229
 t76 := Tryz.underlying251
 a76 := Tryz.isAgg251
 z76 := Tryz.sizeOf251
 v76 := Tryz.zeroValue251
 t77 := Tryz.underlying213
 a77 := Tryz.isAgg213
 z77 := Tryz.sizeOf213
 v77 := Tryz.zeroValue213 }
end Go.Proofs
