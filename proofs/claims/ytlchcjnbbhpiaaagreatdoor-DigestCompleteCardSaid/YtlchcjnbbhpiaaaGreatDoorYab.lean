/- Contract: the reference's lines of the contents.
   Contract: the reference's text of a digest. -/
import Derived.Test.YtlchcjnbbhpiaaaGreatDoorYaa
import Derived.Test.YtlchcjnbbhpiaaaGreatDoorZv
namespace Go.Dg
end Go.Dg
namespace Go.Proofs.YtlchcjnbbhpiaaaGreatDoor
open Go.RowKit Go.Shelf Go.Dg Go.Maps
end Go.Proofs.YtlchcjnbbhpiaaaGreatDoor
namespace Go.Dg
open Go.Lib
end Go.Dg
namespace Go.Proofs.YtlchcjnbbhpiaaaGreatDoor
open Go.RowKit Go.Shelf Go.Dg Go.Maps
end Go.Proofs.YtlchcjnbbhpiaaaGreatDoor
