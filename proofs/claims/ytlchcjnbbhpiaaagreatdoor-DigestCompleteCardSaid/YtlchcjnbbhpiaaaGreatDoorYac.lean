/- Contracts: the reference's Check, Bundle. -/
import Derived.Test.YtlchcjnbbhpiaaaGreatDoorYab
namespace Go.Proofs.YtlchcjnbbhpiaaaGreatDoor
open Go.RowKit Go.Shelf Go.Dg Go.Maps
end Go.Proofs.YtlchcjnbbhpiaaaGreatDoor
