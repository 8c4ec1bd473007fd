/- The elements of a list in a turned order: plain laws. -/
import Derived.Test.YtcagooijkecmoaaDoorGnName
namespace Go.Proofs.YtcagooijkecmoaaDoor
open Go.Gn

def turnAt (n t i : Nat) : Nat := (n - 1 - i + t) % n
def turned (l : List (List UInt8)) (t : Nat) : List (List UInt8) := (List.range l.length).map fun i => l.getD (turnAt l.length t i) []
theorem turnAt_lt {n t i : Nat} (h : i < n) : turnAt n t i < n := Nat.mod_lt _ (by omega)
theorem turnAt_int {n t i : Nat} (h : i < n) : ((n : Int) - 1 - (i : Int) + (t : Int)) % (n : Int) = (turnAt n t i : Int) := by
  unfold turnAt
  have e : (n : Int) - 1 - (i : Int) + (t : Int) = ((n - 1 - i + t : Nat) : Int) := by omega
  rw [e]; rfl
theorem turnAt_on {n t j : Nat} (h : j < n) : ∃ i, i < n ∧ turnAt n t i = j := by
  have hn : 0 < n := by omega
  have hq := Nat.div_add_mod (n - 1 + t + n - j) n
  have hi : (n - 1 + t + n - j) % n < n := Nat.mod_lt _ hn
  refine ⟨(n - 1 + t + n - j) % n, hi, ?_⟩
  generalize (n - 1 + t + n - j) % n = i at *
  generalize (n - 1 + t + n - j) / n = q at *
  cases q with
  | zero => simp at hq; omega
  | succ q =>
    rw [Nat.mul_succ] at hq
    unfold turnAt
    have e : n - 1 - i + t = n * q + j := by omega
    rw [e, Nat.mul_add_mod, Nat.mod_eq_of_lt h]
theorem turned_length (l : List (List UInt8)) (t : Nat) : (turned l t).length = l.length := by simp [turned]
theorem mem_turned (l : List (List UInt8)) (t : Nat) (x : List UInt8) : x ∈ turned l t ↔ x ∈ l := by
  unfold turned
  simp only [List.mem_map, List.mem_range]
  constructor
  · rintro ⟨i, hi, rfl⟩
    have := turnAt_lt (t := t) hi
    rw [List.getD_eq_getElem?_getD, List.getElem?_eq_getElem this]
    simp
  · intro hx
    obtain ⟨j, hj, e⟩ := List.mem_iff_getElem.1 hx
    obtain ⟨i, hi, e2⟩ := turnAt_on (t := t) hj
    exact ⟨i, hi, by rw [e2, List.getD_eq_getElem?_getD, List.getElem?_eq_getElem hj]; exact e⟩
theorem turned_snoc (l : List (List UInt8)) (t k : Nat) (x : List UInt8) (hk : k < l.length) (hx : l[turnAt l.length t k]? = some x) : (turned l t).take (k + 1) = (turned l t).take k ++ [x] := by
  rw [List.take_add_one]
  congr 1
  unfold turned
  rw [List.getElem?_map, List.getElem?_range hk]
  simp [hx]
end Go.Proofs.YtcagooijkecmoaaDoor
