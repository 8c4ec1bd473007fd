/-
  DERIVED: THE SHELF's CONTRACTS AT THIS DUMP, IN PLAIN WORDS (tools/lay-plain.mjs out of 'TryzClnL.lean', which tools/lay-shelf.mjs wrote): THE SAME DECLARATIONS UNDER THE SAME NAMES: 'import', 'namespace', 'open', 'def', 'theorem' AND NOTHING ELSE: no command of the shelf's: FOR A HAND-IN. Each laying: the table of numbers ('.._ren') and one theorem, a field a fact of the dump's own or the kernel's comparison; each contract: ONE APPLICATION.
-/
import Derived.Shelf.SlGeneric
import Derived.Shelf.SlMaps.Clone
import Derived.Ground.SlmcProg
import Derived.Test.YthgefcoaaommkaaGreatDoorProg
namespace Go.Proofs
open Go.Shelf
def Tryz.clnDayD_ren : Go.Shelf.Ren := ⟨fun | 5 => 62 | 7 => 91 | n => n, fun | 23 => 69 | 25 => 3 | 3 => 34 | 4 => 4 | 20 => 20 | n => n, fun | n => n⟩
theorem Tryz.clnDayD : Go.Proofs.SlLaysW.n5 Tryz.prog Tryz.clnDayD_ren := {
  mixed := by kernel_rfl
  f5 := ⟨Tryz.f62.name, by decide, Tryz.func62.trans (congrArg some (by kernel_rfl))⟩
  f7 := Tryz.func91.trans (congrArg some (by kernel_rfl))
  t4 := Tryz.underlying4
  a4 := Tryz.isAgg4
  z4 := Tryz.sizeOf4
  v4 := Tryz.zeroValue4
  t20 := Tryz.underlying20
  a20 := Tryz.isAgg20
  z20 := Tryz.sizeOf20
  v20 := Tryz.zeroValue20
  t23 := Tryz.underlying69
  a23 := Tryz.isAgg69
  z23 := Tryz.sizeOf69
  v23 := Tryz.zeroValue69 }
def Tryz.clnNameD_ren : Go.Shelf.Ren := ⟨fun | 5 => 63 | 7 => 91 | n => n, fun | 23 => 70 | 25 => 74 | 3 => 34 | 4 => 4 | 20 => 20 | n => n, fun | n => n⟩
theorem Tryz.clnNameD : Go.Proofs.SlLaysW.n5 Tryz.prog Tryz.clnNameD_ren := {
  mixed := by kernel_rfl
  f5 := ⟨Tryz.f63.name, by decide, Tryz.func63.trans (congrArg some (by kernel_rfl))⟩
  f7 := Tryz.func91.trans (congrArg some (by kernel_rfl))
  t4 := Tryz.underlying4
  a4 := Tryz.isAgg4
  z4 := Tryz.sizeOf4
  v4 := Tryz.zeroValue4
  t20 := Tryz.underlying20
  a20 := Tryz.isAgg20
  z20 := Tryz.sizeOf20
  v20 := Tryz.zeroValue20
  t23 := Tryz.underlying70
  a23 := Tryz.isAgg70
  z23 := Tryz.sizeOf70
  v23 := Tryz.zeroValue70 }
end Go.Proofs
