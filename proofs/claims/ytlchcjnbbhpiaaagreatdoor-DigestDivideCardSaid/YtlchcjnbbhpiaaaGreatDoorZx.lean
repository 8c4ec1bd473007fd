/- The walk of the statement DigestRoundTrip. -/
import Derived.Test.YtlchcjnbbhpiaaaGreatDoorZn
import Derived.Test.YtlchcjnbbhpiaaaGreatDoorZw
namespace Go.Proofs.YtlchcjnbbhpiaaaGreatDoor
open Go.RowKit Go.Shelf Go.Dg Go.Maps
end Go.Proofs.YtlchcjnbbhpiaaaGreatDoor
