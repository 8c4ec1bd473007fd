/- A slice of digests among the arguments laid open. -/
import Derived.Test.YtlchcjnbbhpiaaaGreatDoorDyW
import Derived.Test.YtlchcjnbbhpiaaaGreatDoorZt
namespace Go.Proofs.YtlchcjnbbhpiaaaGreatDoor
open Go.ChangeShapes Go.WideShapes Go.ChangeAt Go.RowKit Go.Dg Go.Maps Go.Deep
section
variable {H : Type} {enc : TypeId × Value → H} {W : World}
set_option maxRecDepth 100000 in
theorem dg_at {base : Nat} {sp : Nat → Bool} {held : Bool} (fuel : Nat) (cs : List Value) (x : DataW H × List MemPlace) (h : DataW.trod enc Tryz.prog W base sp held fuel 24 cs = some x) :
  ∃ m : DgX, cs = dgxL m ∧ RdI W m.2.1 m.1.its ∧ m.1.its.length ≤ m.2.2 ∧ m.2.2 ≤ maxLen ∧ m.1.ti.length ≤ maxLen ∧ ∀ x ∈ m.1.its, LenI x := by
 obtain ⟨m, A, c, e, r4, h4, m4, l0, q4⟩ := open_dg Tryz.underlying24 (by kernel_rfl) rfl rfl rfl rfl rfl (by kernel_rfl) (by kernel_rfl) (by kernel_rfl) (by kernel_rfl) (by kernel_rfl) Tryz.underlying9 Tryz.underlying3 Tryz.underlying3 Tryz.underlying3 Tryz.underlying22 (by kernel_rfl) (fun fuel cs x h => it_at fuel cs x h) h
 exact ⟨⟨m, A, c⟩, e, r4, h4, m4, l0, q4⟩
set_option maxRecDepth 100000 in
/-- A slice of digests among the arguments. -/
theorem dgsarg_at {r : Reach} {b0 base : Nat} {sp : Nat → Bool} {held : Bool} {v : Value} {d : DataW H} {p : List MemPlace} (hv : Value.okWide Tryz.prog W r b0 82 v) (h : DataW.Trod enc Tryz.prog W base sp held 82 v d p) :
  ∃ (A : Option Addr) (c : Nat) (xs : List DgX), v = .slice A xs.length c ∧ RdG W A xs ∧ xs.length ≤ c ∧ c ≤ maxLen ∧ ∀ x ∈ xs, x.2.2 ≤ maxLen ∧ x.1.ti.length ≤ maxLen ∧ ∀ y ∈ x.1.its, LenI y := by
 obtain ⟨a0, len, cap, rfl⟩ := okWide_slice Tryz.underlying82 hv
 obtain ⟨fuel, hf⟩ := h
 have ce : Tryz.prog.cellsOf 24 = 5 := by kernel_rfl
 rcases open_slice Tryz.underlying82 hf with ⟨hcs, _⟩ | ⟨a, len', cap', m, n, D, Pl, hcs, _, hl, hm, hmm, _, hi⟩
 ·cases hcs
  exact ⟨none, 0, [], rfl, RdG.nil, by simp, by simp [maxLen], by simp⟩
 ·cases hcs
  have hlm : len ≤ m := by rw [hmm]; split <;> omega
  have each : ∀ i, i < len → ∃ q : DgX, (∀ j u, (dgxL q)[j]? = some u → W.cell? (a.add (i * 5 + j)) = some u) ∧ OkX W q ∧ q.2.2 ≤ maxLen ∧ q.1.ti.length ≤ maxLen ∧ ∀ y ∈ q.1.its, LenI y := fun i hil => by
   obtain ⟨cs', h1, h2⟩ := hi i (by omega)
   rw [ce] at h1
   obtain ⟨_, hlen, hcell⟩ := World.cells?_some h1
   obtain ⟨q, ecs, hr, hc, h3, h4, h5⟩ := dg_at _ _ _ h2
   refine ⟨q, fun j u hj => ?_, ⟨hr, hc⟩, h3, h4, h5⟩
   have e3 : dgxL q = cs' := ecs.symm
   rw [e3] at hj
   obtain ⟨hjl, hje⟩ := List.getElem?_eq_some_iff.1 hj
   have e0 := hcell j (by omega)
   rw [Go.Deep.add_add] at e0
   rw [e0, List.getElem?_eq_getElem hjl, hje]
  haveI : Inhabited DgX := ⟨⟨⟨[], 0, 0, 0, []⟩, none, 0⟩⟩
  obtain ⟨q, hq⟩ := choose_lt each
  refine ⟨some a, cap, (List.range len).map q, by simp, ⟨?_, fun x hx => ?_⟩, by simpa using hl, hm, fun x hx => ?_⟩
  ·intro hpos
   have h0 : 0 < len := by simpa using hpos
   obtain ⟨b, o, s⟩ := a
   have hc0 := (hq 0 h0).1 0 (enS (q 0).1.ti) rfl
   have hs : s = none := by
    rw [show (⟨b, o, s⟩ : Addr).add (0 * 5 + 0) = ⟨b, o, s⟩ by cases s <;> rfl] at hc0
    exact slot_none hc0
   subst hs
   refine ⟨b, o, rfl, ?_, fun j x hj t u hu => ?_⟩
   ·rw [addr_addN] at hc0
    exact World.block_lt_of_cell? W _ hc0
   ·obtain ⟨hjl, hje⟩ := List.getElem?_eq_some_iff.1 hj
    have hjl' : j < len := by simpa using hjl
    simp at hje
    rw [← hje] at hu
    have := (hq j hjl').1 t u hu
    rw [addr_addN] at this
    rw [Nat.add_assoc]; exact this
  ·obtain ⟨j, hj, rfl⟩ := List.mem_map.1 hx
   exact (hq j (by simpa using hj)).2.1
  ·obtain ⟨j, hj, rfl⟩ := List.mem_map.1 hx
   exact (hq j (by simpa using hj)).2.2
end
end Go.Proofs.YtlchcjnbbhpiaaaGreatDoor
