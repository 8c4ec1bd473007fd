/- The walk of the statement DigestRoundTrip. -/
import Derived.Test.YtlchcjnbbhpiaaaGreatDoorZn
import Derived.Test.YtlchcjnbbhpiaaaGreatDoorZw
namespace Go.Proofs.YtlchcjnbbhpiaaaGreatDoor
open Go.RowKit Go.Shelf Go.Dg Go.Maps

theorem dgIn_small {w : World} {d : Dg} {A : Option Addr} {c : Nat} (hr : RdI w A d.its) (hc : d.its.length ≤ c) (ht : Tab w) (h1 : ∀ x ∈ d.its, okS x) (h2 : d.ti.length ≤ 200) (h3 : d.its.length ≤ 12) : DgIn w d A c :=
  ⟨hr, hc, ht, by omega, by omega, fun x hx => by
    obtain ⟨a, b, e⟩ := h1 x hx
    exact ⟨by omega, by omega, by omega⟩⟩
end Go.Proofs.YtlchcjnbbhpiaaaGreatDoor
