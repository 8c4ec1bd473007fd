/- Contracts of days, ToCivil and FromCivil of the reference of package date.
   Contracts of FormatZone and FormatDay of the reference of package date.
   Contracts: the reference's plain, sized, within, Valid, find, Item.
   Contracts: the reference's Item, find.
   Contracts: the reference's decimal, head, date, Digits, Print.
   Contracts: the reference's date, Digits, Print. -/
import Derived.Test.YtlchcjnbbhpiaaaGreatDoorZf
import Derived.Test.YtlchcjnbbhpiaaaGreatDoorZo
import Derived.Test.YtlchcjnbbhpiaaaGreatDoorZb
import Derived.Test.YtlchcjnbbhpiaaaGreatDoorZz
namespace Go.Proofs.YtlchcjnbbhpiaaaGreatDoor.Dt
open Go.Dt
open Go.RowKit
open Cal
open Go.RowKit
open Cal
end Go.Proofs.YtlchcjnbbhpiaaaGreatDoor.Dt
namespace Go.Proofs.YtlchcjnbbhpiaaaGreatDoor
open Go.RowKit Go.Shelf Go.Dg Go.Maps
section
variable {P : Program} {ops : Array Oper} {C : World → Prop} {Q : Act → Prop} {a : Act} {o : Oper}
end
theorem idL_at {x : It} {j : Nat} {v : Value} (h : (idL x.ky)[j]? = some v) : (itL x)[3 + j]? = some v := by
 have hl : j < 32 := by
  have := (List.getElem?_eq_some_iff.1 h).1
  rwa [idL_length] at this
 have e : (itL x)[3 + j]? = (idL x.ky)[j]? := by
  have : j = 0 ∨ j = 1 ∨ j = 2 ∨ j = 3 ∨ j = 4 ∨ j = 5 ∨ j = 6 ∨ j = 7 ∨ j = 8 ∨ j = 9 ∨ j = 10 ∨ j = 11 ∨ j = 12 ∨ j = 13 ∨ j = 14 ∨ j = 15 ∨ j = 16 ∨ j = 17 ∨ j = 18 ∨ j = 19 ∨ j = 20 ∨ j = 21 ∨ j = 22 ∨ j = 23 ∨ j = 24 ∨ j = 25 ∨ j = 26 ∨ j = 27 ∨ j = 28 ∨ j = 29 ∨ j = 30 ∨ j = 31 := by omega
  rcases this with rfl | rfl | rfl | rfl | rfl | rfl | rfl | rfl | rfl | rfl | rfl | rfl | rfl | rfl | rfl | rfl | rfl | rfl | rfl | rfl | rfl | rfl | rfl | rfl | rfl | rfl | rfl | rfl | rfl | rfl | rfl | rfl <;> rfl
 rw [e]
 exact h
theorem range_ky {w : World} {b p : Nat} {x : It} (h : w.rangeAt b p (itL x)) : w.rangeAt b (p + 3) (idL x.ky) := fun j v hj => by
 rw [Nat.add_assoc]
 exact h (3 + j) v (idL_at hj)
end Go.Proofs.YtlchcjnbbhpiaaaGreatDoor
