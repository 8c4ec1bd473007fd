/- Contracts: the sum of two counts, the day of an event, new statistics. -/
import Derived.Test.YthgefcoaaommkaaDoorStA
import Derived.Outline
namespace Go.Proofs.YthgefcoaaommkaaDoor
open Go.RowKit Go.Gn Go.Sr Go.Maps

/-- A count that may be added to another one. -/
def okC (c : C) : Prop := -1000000000000000000 ≤ c.1 ∧ c.1 ≤ 1000000000000000000 ∧ -1000000000000000000 ≤ c.2 ∧ c.2 ≤ 1000000000000000000
set_option maxHeartbeats 1000000 in
theorem plus_any (a b : C) (w : World) (ha : okC a) (hb : okC b) : Calls Tryd.prog 23 #[cV a, cV b] w fun e w' => e = .returned (cV (plus a b)) ∧ Below w.heap.size w w' := by
  obtain ⟨a1, a2⟩ := a
  obtain ⟨b1, b2⟩ := b
  obtain ⟨h1, h2, h3, h4⟩ := ha
  obtain ⟨k1, k2, k3, k4⟩ := hb
  simp only at h1 h2 h3 h4 k1 k2 k3 k4
  unfold cV plus
  simp only
  go_enter Tryd.func23, Tryd.ntmps23
  go_wp2_with fail
  refine bodyPost_ret (v := .agg #[i64 (a1 + b1), i64 (a2 + b2)]) (by simp [results, Tryd.results23, go_sem]) rfl ⟨rfl, ?_⟩
  exact ((below_new _ _).tr (below_new _ _)).tr (below_new _ _)
set_option maxHeartbeats 1000000 in
theorem day_any (m : EvM) (w : World) (h : 0 ≤ m.e.minute) (h2 : m.e.minute ≤ 1000000000000) : Calls Tryd.prog 21 #[evA m] w fun e w' => e = .returned (i64 (dayE m.e)) ∧ Below w.heap.size w w' := by
  unfold evA evL
  go_enter Tryd.func21, Tryd.ntmps21
  go_wp2_with fail
  go_ret
  exact ⟨rfl, below_new _ _⟩
set_option maxHeartbeats 1000000 in
theorem new_any (w : World) : Calls Tryd.prog 16 #[] w fun e w' => ∃ p bd bn, e = .returned (.pointer (some ⟨p, 0, none⟩)) ∧ StM w' p bd bn [] [] (List.replicate 18 0) ∧ Below w.heap.size w w' ∧ w.heap.size ≤ p ∧ w.heap.size ≤ bd ∧ w.heap.size ≤ bn := by
  have hmm := @run_makeMap Tryd.prog
  go_enter Tryd.func16, Tryd.ntmps16
  go_wp2_with fail
  go_ret
  refine ⟨w.heap.size + 1 + 1, w.heap.size, w.heap.size + 1, rfl, ?_, ((below_new _ _).tr (below_new _ _)).tr (below_new _ _), by omega, by omega, by omega⟩
  have m1 := (MapA.made dayK w).below (below_new _ (.map #[] 0))
  have m2 := MapA.made nameK (w.alloc (.map #[] 0))
  have e1 : (w.alloc (.map #[] 0)).heap.size = w.heap.size + 1 := by simp
  rw [e1] at m2
  refine ⟨?_, m1.below (below_new _ _), m2.below (below_new _ _), by omega, by simp⟩
  have := blk_new ((w.alloc (.map #[] 0)).alloc (.map #[] 0)) (.cells (Value.map (some w.heap.size) :: Value.map (some (w.heap.size + 1)) :: (List.replicate 18 (0 : Int)).map i64).toArray 57)
  simpa using this
end Go.Proofs.YthgefcoaaommkaaDoor
