/- Contract: the model's order of entries. -/
import Derived.Test.YthgefcoaaommkaaGreatDoorZi
import Derived.Sort.Walk0
namespace Go.Proofs.YthgefcoaaommkaaGreatDoor
open Go.RowKit Go.Gn Go.Sr Go.Maps Go.Sort

theorem ecmp_one {x y : Ent1} (h : x.2.1 ≠ y.2.1) : decide (ecmp x y < 0) = decide (x.2.1 > y.2.1) := by
  unfold ecmp or2 icmp
  rw [Bool.eq_iff_iff, decide_eq_true_eq, decide_eq_true_eq]
  split <;> split at * <;> (try split at *) <;> (try split) <;> omega
theorem ecmp_two {x y : Ent1} (h : x.2.1 = y.2.1) (h2 : x.2.2 ≠ y.2.2) : decide (ecmp x y < 0) = decide (x.2.2 > y.2.2) := by
  unfold ecmp
  rw [h, show icmp y.2.1 y.2.1 = 0 by unfold icmp; simp]
  unfold or2 icmp
  rw [Bool.eq_iff_iff, decide_eq_true_eq, decide_eq_true_eq]
  simp only [ne_eq, not_true_eq_false, if_false]
  split <;> split at * <;> (try split at *) <;> (try split) <;> omega
theorem ecmp_three {x y : Ent1} (h : x.2.1 = y.2.1) (h2 : x.2.2 = y.2.2) : ecmp x y = scmp x.1 y.1 := by
  unfold ecmp
  rw [h, h2, show icmp y.2.1 y.2.1 = 0 by unfold icmp; simp, show icmp y.2.2 y.2.2 = 0 by unfold icmp; simp]
  simp [or2]
set_option maxRecDepth 100000 in
set_option maxHeartbeats 2000000 in
theorem more_any (x y : Ent1) (w : World) : Calls Tryz.prog 40 #[.agg #[enS x.1, i64 x.2.1, i64 x.2.2], .agg #[enS y.1, i64 y.2.1, i64 y.2.2]] w fun e w' => e = .returned (.bool (decide (ecmp x y < 0))) ∧ Below w.heap.size w w' := by
  have V1 := Lib.hid (ecmp_one (x := x) (y := y))
  have V2 := Lib.hid (ecmp_two (x := x) (y := y))
  have V3 := Lib.hid (ecmp_three (x := x) (y := y))
  obtain ⟨x1, x2, x3⟩ := x
  obtain ⟨y1, y2, y3⟩ := y
  simp only at V1 V2 V3 ⊢
  generalize ecmp (x1, x2, x3) (y1, y2, y3) = ec at *
  have b2 := (below_new w (.cells #[enS x1, i64 x2, i64 x3] 36)).tr (below_new _ (.cells #[enS y1, i64 y2, i64 y3] 36))
  have B2 := Lib.hid b2
  clear b2
  by_cases h1 : x2 = y2
  · subst h1
    have hb1 : (x2 != x2) = false := by simp
    by_cases h2 : x3 = y3
    · subst h2
      have hb2 : (x3 != x3) = false := by simp
      have VV : Hid (ec = scmp x1 y1) := Lib.hid (V3.out rfl rfl)
      clear V1 V2 V3
      go_enter Tryz.func40, Tryz.ntmps40
      go_wp2_with fail
      go_ret
      refine ⟨?_, B2.out⟩
      rw [VV.out]
      simp [bytesLess_eq, scmp_lt]
    · have hb2 : (x3 != y3) = true := by simpa using h2
      have VV : Hid (decide (ec < 0) = decide (x3 > y3)) := Lib.hid (V2.out rfl h2)
      clear V1 V2 V3
      go_enter Tryz.func40, Tryz.ntmps40
      go_wp2_with fail
      go_ret
      exact ⟨by rw [VV.out]; rfl, B2.out⟩
  · have hb1 : (x2 != y2) = true := by simpa using h1
    have VV : Hid (decide (ec < 0) = decide (x2 > y2)) := Lib.hid (V1.out h1)
    clear V1 V2 V3
    go_enter Tryz.func40, Tryz.ntmps40
    go_wp2_with fail
    go_ret
    exact ⟨by rw [VV.out]; rfl, B2.out⟩
end Go.Proofs.YthgefcoaaommkaaGreatDoor
