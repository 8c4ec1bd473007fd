/- Contract: the reference's Join. -/
import Derived.Test.YtlchcjnbbhpiaaaGreatDoorDyX
import Derived.Test.YtlchcjnbbhpiaaaGreatDoorYac
import Derived.Test.YtlchcjnbbhpiaaaGreatDoorYae
namespace Go.Dg
end Go.Dg
namespace Go.Proofs.YtlchcjnbbhpiaaaGreatDoor
open Go.RowKit Go.Shelf Go.Dg Go.Maps
end Go.Proofs.YtlchcjnbbhpiaaaGreatDoor
