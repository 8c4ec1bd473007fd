/- Marks that are moved there and back: what the moves of the statement come to. Of no program's text. -/
import Derived.Test.YtcpennlojjlpaaaGreatDoorNyU
namespace Go.Nr
open Go.Proofs.YtcpennlojjlpaaaGreatDoor Go.Gn

def allL (n : Nat) : List Int := (List.range n).map fun i : Nat => (i : Int) + 1
theorem allL_succ (n : Nat) : allL (n + 1) = allL n ++ [(n : Int) + 1] := by unfold allL; rw [List.range_succ]; simp
theorem allL_length (n : Nat) : (allL n).length = n := by simp [allL]
theorem mem_allL (n : Nat) (m : Int) : m ∈ allL n ↔ 1 ≤ m ∧ m ≤ n := by
  unfold allL
  rw [List.mem_map]
  constructor
  · rintro ⟨i, hi, rfl⟩; have := List.mem_range.1 hi; omega
  · intro h; exact ⟨(m - 1).toNat, List.mem_range.2 (by omega), by omega⟩
theorem hereL_length (n : Nat) : (hereL n).length = n := by simp [hereL]
theorem thereL_length (g : Int) (ks : List Nat) : (thereL g ks).length = ks.length := by simp [thereL]
theorem idn_length (k : Nat) : (idn k).length = 32 := by simp [idn]
theorem hereL_okN (n : Nat) : OkN (hereL n) := fun x hx => by
  obtain ⟨i, _, rfl⟩ := List.mem_map.1 hx
  exact idn_length i
theorem thereL_okN (g : Int) (ks : List Nat) : OkN (thereL g ks) := fun x hx => by
  obtain ⟨i, _, rfl⟩ := List.mem_map.1 hx
  exact idn_length _
theorem hereL_num {n : Nat} (hn : n ≤ 40) : (hereL n).all okN = true := by
  rw [List.all_eq_true]
  intro x hx
  obtain ⟨i, hi, rfl⟩ := List.mem_map.1 hx
  have := List.mem_range.1 hi
  unfold okN num
  rw [Bool.and_eq_true, decide_eq_true_eq, decide_eq_true_eq, M_eq]
  simp only
  omega
theorem thereL_num {g : Int} {ks : List Nat} (h1 : 1 ≤ g) (h2 : g ≤ 256) (hn : ks.length ≤ 40) : (thereL g ks).all okN = true := by
  rw [List.all_eq_true]
  intro x hx
  obtain ⟨i, hi, rfl⟩ := List.mem_map.1 hx
  have := List.mem_range.1 hi
  have e1 : 0 ≤ (i : Int) * g := Int.mul_nonneg (by omega) (by omega)
  have e2 : (i : Int) * g ≤ 40 * 256 := Int.mul_le_mul (by omega) h2 (by omega) (by omega)
  unfold okN num
  rw [Bool.and_eq_true, decide_eq_true_eq, decide_eq_true_eq, M_eq]
  simp only
  omega
theorem allL_num {n : Nat} (hn : n ≤ 40) : (pts (allL n)).all okB = true := by
  rw [List.all_eq_true]
  intro r hr
  obtain ⟨m, hm, rfl⟩ := List.mem_map.1 hr
  have := (mem_allL n m).1 hm
  rw [okB_iff]
  refine ⟨?_, ?_, ?_⟩ <;> (try rw [M_eq]) <;> simp only <;> omega
/-- All that the walk of the statement asks of its plain side. -/
theorem there_and_back {S : List Rg} {n : Nat} (hn : n ≤ 40) {ks : List Nat} (hp : Perm n ks) {g : Int} (h1 : 1 ≤ g) (h2 : g ≤ 256) :
    fromE (pts (allL n)) = 0 ∧ moveE (hereL n) (thereL g ks) = 0 ∧ moveE (thereL g ks) (hereL n) = 0 ∧
    Okset (moveS S (hereL n) (thereL g ks)) ∧ (moveS S (hereL n) (thereL g ks)).length ≤ 1000 ∧ Okset (fromS (pts (allL n))) ∧ (fromS (pts (allL n))).length ≤ 1000 ∧
    moveS (moveS S (hereL n) (thereL g ks)) (thereL g ks) (hereL n) = andS S (fromS (pts (allL n))) ∧
    count (moveS S (hereL n) (thereL g ks)) = count (andS S (fromS (pts (allL n)))) := by
  have a1 := allL_num hn
  have a2 := hereL_num hn
  have a3 := thereL_num h1 h2 (by rw [hp.len]; exact hn) (ks := ks)
  have e1 : moveS S (hereL n) (thereL g ks) = moved S (hereL n) (thereL g ks) := by unfold moveS; rw [a2, a3]; rfl
  have e2 : fromS (pts (allL n)) = norm (pts (allL n)) := by unfold fromS; rw [if_pos a1]
  have hT : Okset (moveS S (hereL n) (thereL g ks)) := by
    rw [e1, ← (moved_from (S := S) (here := hereL n) a3).2]
    exact fromS_ok _
  have hA := fromS_ok (pts (allL n))
  have hhas : ∀ m, has (andS S (fromS (pts (allL n)))) m = (has S m && decide (1 ≤ m ∧ m ≤ n)) := fun m => by
    rw [(andS_spec _ _).2, e2, norm_has (pts_ok _), has_pts]
    simp only [mem_allL]
  refine ⟨by unfold fromE; rw [if_pos a1], by unfold moveE; rw [a2, a3]; rfl, by unfold moveE; rw [a2, a3]; rfl, hT, moveS_length _ _ _ (by rw [thereL_length, hp.len]; omega), hA, ?_, ?_, ?_⟩
  · rw [e2]
    have h3 := norm_length (pts (allL n))
    rw [pts_length, allL_length] at h3
    omega
  · have e3 : moveS (moveS S (hereL n) (thereL g ks)) (thereL g ks) (hereL n) = moved (moved S (hereL n) (thereL g ks)) (thereL g ks) (hereL n) := by rw [e1]; unfold moveS; rw [a2, a3]; rfl
    rw [e3]
    refine has_uniq (norm_spec (pts_ok _)).1 (andS_spec _ _).1 fun m => ?_
    rw [hhas, there_back h1 (by omega) hp]
  · rw [e1]
    exact there_count h1 (by omega) hp (andS_spec _ _).1 hhas
/-- One more article has its place. -/
theorem Perm.step {n : Nat} {ks : List Nat} {k : Nat} (hn : ks.Nodup) (hlt : ∀ x ∈ ks, x < n) (hk : k < n) (hf : k ∉ ks) : (ks ++ [k]).Nodup ∧ ∀ x ∈ ks ++ [k], x < n := by
  refine ⟨List.nodup_append.2 ⟨hn, by simp, fun a ha b hb => by simp at hb; subst hb; intro e; subst e; exact hf ha⟩, fun x hx => ?_⟩
  rcases List.mem_append.1 hx with h | h
  · exact hlt x h
  · simp at h; omega
def usedL (n : Nat) (ks : List Nat) : List Bool := (List.range n).map fun j => decide (j ∈ ks)
theorem usedL_length (n : Nat) (ks : List Nat) : (usedL n ks).length = n := by simp [usedL]
theorem usedL_get {n : Nat} (ks : List Nat) {j : Nat} (h : j < n) : (usedL n ks)[j]? = some (decide (j ∈ ks)) := by simp [usedL, h]
theorem usedL_nil (n : Nat) : usedL n [] = List.replicate n false := by
  apply List.ext_getElem?
  intro i
  by_cases h : i < n
  · rw [usedL_get [] h]; simp [h]
  · rw [List.getElem?_eq_none (by simp [usedL]; omega), List.getElem?_eq_none (by simp; omega)]
theorem usedL_set (n : Nat) (ks : List Nat) (k : Nat) : (usedL n ks).set k true = usedL n (ks ++ [k]) := by
  apply List.ext_getElem?
  intro i
  by_cases h : i < n
  · rw [usedL_get _ h, List.getElem?_set]
    by_cases e : k = i
    · subst e; rw [if_pos rfl, if_pos (by rw [usedL_length]; exact h)]; simp
    · rw [if_neg e, usedL_get _ h]
      have e' : ¬ i = k := fun h => e h.symm
      simp [e']
  · rw [List.getElem?_eq_none (by simp [usedL]; omega), List.getElem?_eq_none (by rw [usedL_length]; omega)]
/-- How far the probing is from a free place. -/
theorem probe_step {n u k : Nat} (hu : u < n) (hk : k < n) (hne : u ≠ k) : (u + n - (k + 1) % n) % n < (u + n - k) % n := by
  by_cases h1 : k + 1 = n
  · have e1 : (k + 1) % n = 0 := by rw [h1, Nat.mod_self]
    rw [e1, Nat.sub_zero, Nat.add_mod_right, Nat.mod_eq_of_lt hu]
    have e2 : u + n - k = u + 1 := by omega
    rw [e2, Nat.mod_eq_of_lt (by omega)]
    omega
  · rw [Nat.mod_eq_of_lt (show k + 1 < n by omega)]
    by_cases h2 : k < u
    · have e1 : u + n - (k + 1) = (u - (k + 1)) + n := by omega
      have e2 : u + n - k = (u - k) + n := by omega
      rw [e1, e2, Nat.add_mod_right, Nat.add_mod_right, Nat.mod_eq_of_lt (by omega), Nat.mod_eq_of_lt (by omega)]
      omega
    · rw [Nat.mod_eq_of_lt (by omega), Nat.mod_eq_of_lt (by omega)]
      omega
end Go.Nr
