/-
  DERIVED: THE SHELF's CONTRACTS AT THIS DUMP, IN PLAIN WORDS (tools/lay-plain.mjs out of 'TrydIterx.lean', which tools/lay-shelf.mjs wrote): THE SAME DECLARATIONS UNDER THE SAME NAMES: 'import', 'namespace', 'open', 'def', 'theorem' AND NOTHING ELSE: no command of the shelf's: FOR A HAND-IN. Each laying: the table of numbers ('.._ren') and one theorem, a field a fact of the dump's own or the kernel's comparison; each contract: ONE APPLICATION.
-/
import Derived.Shelf.SlIter.Collect
import Derived.Ground.GgzProg
import Derived.Test.YtcagooijkecmoaaDoorProg
namespace Go.Proofs
open Go.Shelf
def Tryd.keys51_ren : Go.Shelf.Ren := ⟨fun | 7 => 51 | 10 => 68 | n => n, fun | 23 => 41 | 26 => 9 | 3 => 3 | 28 => 66 | 0 => 0 | 27 => 65 | 33 => 53 | 4 => 4 | n => n, fun | n => n⟩
theorem Tryd.keys51 : Go.Proofs.SlLaysZ.n7 Tryd.prog Tryd.keys51_ren := {
  mixed := by kernel_rfl
  f7 := ⟨Tryd.f51.name, by decide, Tryd.func51.trans (congrArg some (by kernel_rfl))⟩
  f10 := ⟨Tryd.f68.name, by decide, Tryd.func68.trans (congrArg some (by kernel_rfl))⟩
  t0 := Tryd.underlying0
  a0 := Tryd.isAgg0
  z0 := Tryd.sizeOf0
  v0 := Tryd.zeroValue0
  t4 := Tryd.underlying4
  a4 := Tryd.isAgg4
  z4 := Tryd.sizeOf4
  v4 := Tryd.zeroValue4
  t23 := Tryd.underlying41
  a23 := Tryd.isAgg41
  z23 := Tryd.sizeOf41
  v23 := Tryd.zeroValue41
  t26 := Tryd.underlying9
  a26 := Tryd.isAgg9
  z26 := Tryd.sizeOf9
  v26 := Tryd.zeroValue9
  t27 := Tryd.underlying65
  a27 := Tryd.isAgg65
  z27 := Tryd.sizeOf65
  v27 := Tryd.zeroValue65
  t28 := Tryd.underlying66
  a28 := Tryd.isAgg66
  z28 := Tryd.sizeOf66
  v28 := Tryd.zeroValue66
  t33 := Tryd.underlying53
  a33 := Tryd.isAgg53
  z33 := Tryd.sizeOf53
  v33 := Tryd.zeroValue53 }
def Tryd.collect67_ren : Go.Shelf.Ren := ⟨fun | 8 => 67 | 11 => 99 | n => n, fun | 26 => 9 | 28 => 66 | 24 => 24 | 0 => 0 | 33 => 53 | 4 => 4 | n => n, fun | n => n⟩
theorem Tryd.collect67 : Go.Proofs.SlLaysZ.n8 Tryd.prog Tryd.collect67_ren := {
  mixed := by kernel_rfl
  f8 := ⟨Tryd.f67.name, by decide, Tryd.func67.trans (congrArg some (by kernel_rfl))⟩
  f11 := ⟨Tryd.f99.name, by decide, Tryd.func99.trans (congrArg some (by kernel_rfl))⟩
  t0 := Tryd.underlying0
  a0 := Tryd.isAgg0
  z0 := Tryd.sizeOf0
  v0 := Tryd.zeroValue0
  t24 := Tryd.underlying24
  a24 := Tryd.isAgg24
  z24 := Tryd.sizeOf24
  v24 := Tryd.zeroValue24
  t26 := Tryd.underlying9
  a26 := Tryd.isAgg9
  z26 := Tryd.sizeOf9
  v26 := Tryd.zeroValue9
  t28 := Tryd.underlying66
  a28 := Tryd.isAgg66
  z28 := Tryd.sizeOf66
  v28 := Tryd.zeroValue66
  i26 := by kernel_rfl }
end Go.Proofs
