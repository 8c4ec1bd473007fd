/- A law's frame, of no program: what was laid before a call that only lays new blocks reads behind it as it read before. -/
import Derived.Below
import Derived.ReadAgain
import Derived.ChangeOld
import Derived.ChangeShapes
import Derived.OpenShut
namespace Go.Keep
open Go.RowKit Go.ChangeShapes

section
variable {H : Type} {enc : TypeId × Value → H} {P : Program} {W W' : World}
theorem trodAll_carry (hb : Below W.heap.size W W') {base : Nat} {sp : Nat → Bool} {held : Bool} : ∀ {ts : List TypeId} {vs : List Value} {ds : List (DataW H)} {ps : List MemPlace},
    DataW.TrodAll enc P W base sp held ts vs ds ps → DataW.TrodAll enc P W' base sp held ts vs ds ps
  | [], [], [], _, h => h
  | _ :: _, _ :: _, _ :: _, _, ⟨p, q, ⟨n, h1⟩, h2, e⟩ => ⟨p, q, ⟨n, DataW.trod_carry n _ _ _ h1 (fun x hx => hb.same (DataW.trod_lt n _ _ _ h1 x hx))⟩, trodAll_carry hb h2, e⟩
/-- The arguments behind the call. -/
theorem args_keep (hl : laidOutB P = true) (hm : mapsRowed P = true)
    (hz : ((List.range P.types.size).all fun t => match P.underlying t with | some (.slice e) => decide (0 < P.cellsOf e) | _ => true) = true)
    {ts : List TypeId} {vs : List Value} {ds : List (DataW H)} {p : List MemPlace} (hts : (ts.all fun t => decide (t < P.types.size)) = true)
    (h : DataW.TrodAll enc P W 0 (fun _ => true) true ts vs ds p) (hb : Below W.heap.size W W') :
    DataW.TrodAll enc P W' 0 (fun b => decide (b < W.heap.size)) true ts vs ds p :=
  trodAll_carry hb (DataW.TrodAll.respare (kids_rows hl hm) (slices_full_of P hz) (fun t ht => by simpa using List.all_eq_true.1 hts t ht) h (fun x hx => by simpa using h.lt x hx))
end
end Go.Keep
