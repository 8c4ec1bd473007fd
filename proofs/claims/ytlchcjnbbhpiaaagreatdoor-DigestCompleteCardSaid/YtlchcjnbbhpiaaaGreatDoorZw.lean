/- Contract: the laws' back: a digest as one of the reference's type.
   Contract: the reference's Same where both digests are equal. -/
import Derived.Test.YtlchcjnbbhpiaaaGreatDoorZv
namespace Go.Proofs.YtlchcjnbbhpiaaaGreatDoor
open Go.RowKit Go.Shelf Go.Dg Go.Maps
section
variable {ops : Array Oper} {rest : List Oper} {o : Oper} {a : Act} {w : World} {Q : Exit → Act → World → Prop}
end
section
variable {P : Program} {ops : Array Oper} {C : World → Prop} {Q : Act → Prop} {a : Act} {o : Oper}
end
end Go.Proofs.YtlchcjnbbhpiaaaGreatDoor
