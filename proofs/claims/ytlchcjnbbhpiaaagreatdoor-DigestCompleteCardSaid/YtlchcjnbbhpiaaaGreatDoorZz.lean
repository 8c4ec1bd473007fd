/- Contract: Restore.
   Contracts: the reference's has, restored, protected, Protect.
   Contracts: the reference's Protect and Restore. -/
import Derived.Test.YtlchcjnbbhpiaaaGreatDoorZj
import Derived.Test.YtlchcjnbbhpiaaaGreatDoorZy
namespace Go.Proofs.YtlchcjnbbhpiaaaGreatDoor
open Go.RowKit Go.Shelf Go.Dg
end Go.Proofs.YtlchcjnbbhpiaaaGreatDoor
namespace Go.Dg
end Go.Dg
namespace Go.Proofs.YtlchcjnbbhpiaaaGreatDoor
open Go.RowKit Go.Shelf Go.Dg
end Go.Proofs.YtlchcjnbbhpiaaaGreatDoor
