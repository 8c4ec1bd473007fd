/- The hierarchies of names and how often each comes: plain laws. -/
import Derived.Test.YtcagooijkecmoaaDoorGnCountP
import Derived.Test.YtcagooijkecmoaaDoorGnTally
namespace Go.Proofs.YtcagooijkecmoaaDoor
open Go.Gn

theorem hiers_nodup (a : List UInt8) : (hiers a).Nodup := by
  unfold hiers
  rw [List.nodup_iff_pairwise_ne, List.pairwise_map]
  have hp : (List.range (parts 46 a).length).Pairwise (· < ·) := List.pairwise_lt_range
  refine List.Pairwise.imp_of_mem ?_ hp
  intro i j hi hj hij e
  simp only [List.mem_range] at hi hj
  have := congrArg (fun s => (parts 46 s).length) e
  simp only [parts_take (a := a) (i + 1) (by omega), parts_take (a := a) (j + 1) (by omega), List.length_take] at this
  omega
theorem count_mem {l : List (List UInt8)} (hn : l.Nodup) {x : List UInt8} (h : x ∈ l) : l.count x = 1 := by
  induction l with
  | nil => simp at h
  | cons a r ih =>
    have hn' := List.nodup_cons.1 hn
    rw [List.count_cons]
    by_cases e : a = x
    · subst e
      rw [List.count_eq_zero_of_not_mem hn'.1]; simp
    · have hx : x ∈ r := by
        simp at h
        rcases h with h | h
        · exact absurd h.symm e
        · exact h
      rw [ih hn'.2 hx]; simp [e]
theorem count_flat (ns : List (List UInt8)) (hc : ∀ x ∈ ns, check x = 0) (z : List UInt8) : (ns.flatMap hiers).count z = countN ns z := by
  induction ns with
  | nil => rfl
  | cons a r ih =>
    have ih' := ih fun x hx => hc x (by simp [hx])
    have ha := hc a (by simp)
    rw [List.flatMap_cons, List.count_append, ih']
    unfold countN
    rw [List.filter_cons]
    have hm := mem_hiers (h := z) ha
    by_cases hw : within a z = true
    · rw [if_pos hw, count_mem (hiers_nodup a) (hm.2 hw)]
      simp; omega
    · rw [if_neg hw, List.count_eq_zero_of_not_mem (fun h => hw (hm.1 h))]
      simp
theorem tally_perm {H : Type} {D : DataW H} {L M : List (List UInt8)} (h : Tally D L) (hp : L.Perm M) : Tally D M :=
  ⟨h.isMap, fun x => by rw [h.at_ x, hp.count_eq], fun x => by rw [h.has_ x, hp.mem_iff]⟩
theorem hiers_drop (a : List UInt8) (j : Nat) (h1 : 0 < j) (h2 : j ≤ (parts 46 a).length) : (hiers a).drop (j - 1) = text 46 ((parts 46 a).take j) :: (hiers a).drop j := by
  have hl : j - 1 < (hiers a).length := by rw [hiers_length]; omega
  rw [List.drop_eq_getElem_cons hl]
  have e := hiers_at a (j - 1) (by omega)
  rw [List.getElem?_eq_getElem hl] at e
  rw [show j - 1 + 1 = j by omega] at e ⊢
  rw [Option.some.inj e]
theorem perm_step {M L X : List (List UInt8)} {h : List UInt8} (hp : M.Perm (L ++ X)) : (M ++ [h]).Perm (L ++ h :: X) :=
  (List.perm_append_singleton h M).trans ((List.Perm.cons h hp).trans (List.perm_middle).symm)
theorem take_drop_last (l : List (List UInt8)) (j : Nat) : (l.take j).dropLast = l.take (min j l.length - 1) := by
  rw [List.dropLast_eq_take, List.take_take, List.length_take]
  congr 1
  omega
end Go.Proofs.YtcagooijkecmoaaDoor
