/- An argument of the statements of this chapter laid open: a slice of articles' numbers. -/
import Derived.Test.YtcpennlojjlpaaaGreatDoorNyO
import Derived.Test.YtcpennlojjlpaaaGreatDoorZi
import Derived.Deep.Slices
import Derived.Deep.Fields
import Derived.ChangeSame
import Derived.OpenShut
namespace Go.Proofs.YtcpennlojjlpaaaGreatDoor
open Go.ChangeShapes Go.WideShapes Go.ChangeAt Go.RowKit Go.Nr Go.Deep Go.Joins

section
variable {H : Type} {enc : TypeId × Value → H} {P : Program} {W : World}
/-- The cells of an array of bytes. -/
theorem open_bytes {t e : TypeId} {n : Nat} {base : Nat} {sp : Nat → Bool} {held : Bool} {fuel : Nat} {cs : List Value} {x : DataW H × List MemPlace} (ht : P.underlying t = some (.array n e)) (he : P.underlying e = some (.int .u8)) (ce : P.cellsOf e = 1) (ct : P.cellsOf t = n)
    (h : DataW.trod enc P W base sp held fuel t cs = some x) : ∃ bs : List UInt8, bs.length = n ∧ cs = bs.map enB := by
  obtain ⟨xs, k, _, _, hl, hxl, hf⟩ := DataW.trod_array ht h
  have each : ∀ i, i < n → ∃ b : UInt8, cs[i]? = some (enB b) := fun i hi => by
    have h1 := hf i hi
    rw [List.getElem?_eq_getElem (by omega)] at h1
    obtain ⟨z, e1, _, wz⟩ := DataW.trod_int he h1
    rw [ce, Nat.mul_one, List.drop_eq_getElem_cons (by omega), List.take_succ_cons, List.take_zero] at e1
    injection e1 with e1
    have em : IntKind.u8.min = 0 := by decide
    have eM : IntKind.u8.max = 255 := by decide
    simp [Lit.wf, em, eM] at wz
    refine ⟨UInt8.ofNat z.toNat, ?_⟩
    rw [List.getElem?_eq_getElem (by omega), e1]
    have : (UInt8.ofNat z.toNat).toNat = z.toNat := by rw [UInt8.toNat_ofNat']; omega
    unfold enB
    rw [this, Int.toNat_of_nonneg (by omega)]
  obtain ⟨q, hq⟩ := choose_lt each
  refine ⟨(List.range n).map q, by simp, ?_⟩
  apply List.ext_getElem?
  intro i
  by_cases hi : i < n
  · rw [hq i hi]; simp [hi]
  · rw [List.getElem?_eq_none (by omega), List.getElem?_eq_none (by simp; omega)]
/-- A slice of articles' numbers among the arguments. -/
theorem open_ns {r : Reach} {b0 base : Nat} {sp : Nat → Bool} {held : Bool} {t e : TypeId} {f0 f1 : Field} {tb : TypeId} {v : Value} {d : DataW H} {p : List MemPlace} (ht : P.underlying t = some (.slice e)) (he : P.underlying e = some (.struct #[f0, f1]))
    (ce : P.cellsOf e = 33) (o0 : f0.offset = 0) (o1 : f1.offset = 32) (c0 : P.cellsOf f0.type = 32) (c1 : P.cellsOf f1.type = 1) (u0 : P.underlying f0.type = some (.array 32 tb)) (ub : P.underlying tb = some (.int .u8)) (cb : P.cellsOf tb = 1) (u1 : P.underlying f1.type = some (.int .i64))
    (hv : Value.okWide P W r b0 t v) (h : DataW.Trod enc P W base sp held t v d p) :
    ∃ (A : Option Addr) (c : Nat) (l : List N), v = .slice A l.length c ∧ RdN W A l ∧ l.length ≤ c ∧ c ≤ maxLen ∧ OkN l := by
  obtain ⟨a0, len, cap, rfl⟩ := okWide_slice ht hv
  obtain ⟨fuel, hf⟩ := h
  rcases open_slice ht hf with ⟨hcs, _⟩ | ⟨a, len', cap', m, n, D, Pl, hcs, _, hl, hm, hmm, _, hi⟩
  · cases hcs
    exact ⟨none, 0, [], rfl, fun h => absurd h (by simp), by simp, by simp [maxLen], fun x hx => by simp at hx⟩
  · cases hcs
    have hlm : len ≤ m := by rw [hmm]; split <;> omega
    have each : ∀ i, i < len → ∃ q : N, q.1.length = 32 ∧ ∀ j u, (cellsN q)[j]? = some u → W.cell? (a.add (i * 33 + j)) = some u := fun i hil => by
      obtain ⟨cs', h1, h2⟩ := hi i (by omega)
      rw [ce] at h1
      obtain ⟨_, hlen, hcell⟩ := World.cells?_some h1
      obtain ⟨y0, y1, k, _, _, g0, g1⟩ := trod_struct2 he h2
      rw [o0, c0, List.drop_zero] at g0
      rw [o1, c1] at g1
      obtain ⟨bs, hbl, hb⟩ := open_bytes u0 ub cb c0 g0
      obtain ⟨y, z1, _⟩ := DataW.trod_int u1 g1
      have ecs : cs' = cellsN (bs, y) := by
        rw [← List.take_append_drop 32 cs', hb]
        have : cs'.drop 32 = (cs'.drop 32).take 1 := by rw [List.take_of_length_le (by simp; omega)]
        rw [this, z1]; rfl
      refine ⟨(bs, y), hbl, fun j u hj => ?_⟩
      rw [← ecs] at hj
      obtain ⟨hjl, hje⟩ := List.getElem?_eq_some_iff.1 hj
      have e0 := hcell j (by omega)
      rw [Go.Deep.add_add] at e0
      rw [e0, List.getElem?_eq_getElem hjl, hje]
    obtain ⟨q, hq⟩ := choose_lt each
    refine ⟨some a, cap, (List.range len).map q, by simp, ?_, by simpa using hl, hm, fun x hx => ?_⟩
    · intro hpos
      have h0 : 0 < len := by simpa using hpos
      obtain ⟨b, o, s⟩ := a
      have hs : s = none := by
        have hl33 := cellsN_length (hq 0 h0).1
        have := (hq 0 h0).2 0 _ (List.getElem?_eq_getElem (by omega))
        rw [show (⟨b, o, s⟩ : Addr).add (0 * 33 + 0) = ⟨b, o, s⟩ by cases s <;> rfl] at this
        exact slot_none this
      subst hs
      refine ⟨b, o, rfl, ?_, fun j x hj t u hu => ?_⟩
      · have hl33 := cellsN_length (hq 0 h0).1
        have := (hq 0 h0).2 0 _ (List.getElem?_eq_getElem (by omega))
        rw [addr_addN] at this
        exact World.block_lt_of_cell? W _ this
      · obtain ⟨hjl, hje⟩ := List.getElem?_eq_some_iff.1 hj
        have hjl' : j < len := by simpa using hjl
        simp at hje
        rw [← hje] at hu
        have := (hq j hjl').2 t u hu
        rw [addr_addN] at this
        rw [Nat.add_assoc]; exact this
    · obtain ⟨j, hj, rfl⟩ := List.mem_map.1 hx
      exact (hq j (by simpa using hj)).1
end
end Go.Proofs.YtcpennlojjlpaaaGreatDoor
