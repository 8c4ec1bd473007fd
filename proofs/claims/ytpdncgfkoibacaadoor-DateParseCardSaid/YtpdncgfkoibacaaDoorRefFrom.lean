/- Contracts of FromCivil of the reference of package date. -/
import Derived.Test.YtpdncgfkoibacaaDoorRefCiv
namespace Go.Proofs.YtpdncgfkoibacaaDoor
open Go.RowKit
open Cal

set_option maxHeartbeats 2000000 in
theorem refFromCivil_date (y m d h n : Int) (w : World) (y1 : 2000 ≤ y) (y2 : y ≤ 2199) (m1 : 1 ≤ m) (m2 : m ≤ 12) (hr : d < 1 ∨ md y m < d ∨ h < 0 ∨ 23 < h ∨ n < 0 ∨ 59 < n) :
    Calls Tryd.prog 17 #[.agg #[.int .i64 y, .int .i64 m, .int .i64 d, .int .i64 h, .int .i64 n]] w fun e w' => e = .returned (.tuple #[.int .i64 0, .int .i64 13]) ∧ Below w.heap.size w w' := by
    obtain ⟨W, hW⟩ : ∃ W, W = w.alloc (.cells #[.int .i64 y, .int .i64 m, .int .i64 d, .int .i64 h, .int .i64 n] 28) := ⟨_, rfl⟩
    have hB : Below w.heap.size w W := by rw [hW]; exact (Below.refl _ _).alloc (Nat.le_refl _) _
    have blk : W.heap[w.heap.size]? = some (.cells #[.int .i64 y, .int .i64 m, .int .i64 d, .int .i64 h, .int .i64 n] 28 (0, 0)) := by rw [hW]; exact blk_new _ _
    have hS : ∀ t : Cls (fun x => Below W.heap.size W x), t.val.heap[w.heap.size]? = some (.cells #[.int .i64 y, .int .i64 m, .int .i64 d, .int .i64 h, .int .i64 n] 28 (0, 0)) := fun t => blk_below t.ok blk
    have c0 : ∀ t : Cls (fun x => Below W.heap.size W x), t.val.cell? ⟨w.heap.size, 0, none⟩ = some (.int .i64 y) := fun t => blk_cell (hS t) 0
    have c1 : ∀ t : Cls (fun x => Below W.heap.size W x), t.val.cell? ⟨w.heap.size, 1, none⟩ = some (.int .i64 m) := fun t => blk_cell (hS t) 1
    have c2 : ∀ t : Cls (fun x => Below W.heap.size W x), t.val.cell? ⟨w.heap.size, 2, none⟩ = some (.int .i64 d) := fun t => blk_cell (hS t) 2
    have c3 : ∀ t : Cls (fun x => Below W.heap.size W x), t.val.cell? ⟨w.heap.size, 3, none⟩ = some (.int .i64 h) := fun t => blk_cell (hS t) 3
    have c4 : ∀ t : Cls (fun x => Below W.heap.size W x), t.val.cell? ⟨w.heap.size, 4, none⟩ = some (.int .i64 n) := fun t => blk_cell (hS t) 4
    have HW := Lib.hid hW; clear hW
    clear hS blk
    haveI : Nonempty (Cls (fun x => Below W.heap.size W x)) := ⟨⟨W, Below.refl _ _⟩⟩
    have cs : (decide (d < 1) = true) ∨ (1 ≤ d ∧ decide (d < 1) = false ∧ decide (md y m < d) = true) ∨ (1 ≤ d ∧ decide (d < 1) = false ∧ decide (md y m < d) = false ∧ decide (h < 0) = true) ∨ (1 ≤ d ∧ decide (d < 1) = false ∧ decide (md y m < d) = false ∧ decide (h < 0) = false ∧ decide (23 < h) = true) ∨ (1 ≤ d ∧ decide (d < 1) = false ∧ decide (md y m < d) = false ∧ decide (h < 0) = false ∧ decide (23 < h) = false ∧ decide (n < 0) = true) ∨ (1 ≤ d ∧ decide (d < 1) = false ∧ decide (md y m < d) = false ∧ decide (h < 0) = false ∧ decide (23 < h) = false ∧ decide (n < 0) = false ∧ decide (59 < n) = true) := by
      simp only [decide_eq_true_eq, decide_eq_false_iff_not]; omega
    clear hr
    rcases cs with a | ⟨a, b, b'⟩ | ⟨a, b, c, c'⟩ | ⟨a, b, c, f, f'⟩ | ⟨a, b, c, f, g, g'⟩ | ⟨a, b, c, f, g, k, k'⟩
    all_goals
      go_enter Tryd.func17, Tryd.ntmps17
      go_wp2
      rw [← HW.out]
      refine wp_region_class (fun x => Below W.heap.size W x) (by kernel_rfl) (by kernel_rfl) (Below.drew (Below.refl _ _)) ?_
      repeat go_big_quiet_step ((go_at_call 37; exact Calls.class_below (refDays_any _ _ _ (by omega) (by omega) (by omega) (by omega))))
      refine wpQuiet_nil ?_
      rintro w2 ⟨⟨_, b2⟩, rfl⟩
      go_wp2
      go_ret2
      exact ⟨rfl, hB.trans (b2.mono hB.size)⟩

set_option maxHeartbeats 2000000 in
theorem refFromCivil_yes (y m d h n : Int) (w : World) (y1 : 2000 ≤ y) (y2 : y ≤ 2199) (m1 : 1 ≤ m) (m2 : m ≤ 12) (d1 : 1 ≤ d) (d2 : d ≤ md y m) (h1 : 0 ≤ h) (h2 : h ≤ 23) (n1 : 0 ≤ n) (n2 : n ≤ 59) :
    Calls Tryd.prog 17 #[.agg #[.int .i64 y, .int .i64 m, .int .i64 d, .int .i64 h, .int .i64 n]] w fun e w' => e = .returned (.tuple #[.int .i64 (dayNum y m d * 1440 + h * 60 + n), .int .i64 0]) ∧ Below w.heap.size w w' := by
    have mb := md_bd y m
    have B1 := Lib.hid dby_2000
    obtain ⟨W, hW⟩ : ∃ W, W = w.alloc (.cells #[.int .i64 y, .int .i64 m, .int .i64 d, .int .i64 h, .int .i64 n] 28) := ⟨_, rfl⟩
    have hB : Below w.heap.size w W := by rw [hW]; exact (Below.refl _ _).alloc (Nat.le_refl _) _
    have blk : W.heap[w.heap.size]? = some (.cells #[.int .i64 y, .int .i64 m, .int .i64 d, .int .i64 h, .int .i64 n] 28 (0, 0)) := by rw [hW]; exact blk_new _ _
    have hS : ∀ t : Cls (fun x => Below W.heap.size W x), t.val.heap[w.heap.size]? = some (.cells #[.int .i64 y, .int .i64 m, .int .i64 d, .int .i64 h, .int .i64 n] 28 (0, 0)) := fun t => blk_below t.ok blk
    have c0 : ∀ t : Cls (fun x => Below W.heap.size W x), t.val.cell? ⟨w.heap.size, 0, none⟩ = some (.int .i64 y) := fun t => blk_cell (hS t) 0
    have c1 : ∀ t : Cls (fun x => Below W.heap.size W x), t.val.cell? ⟨w.heap.size, 1, none⟩ = some (.int .i64 m) := fun t => blk_cell (hS t) 1
    have c2 : ∀ t : Cls (fun x => Below W.heap.size W x), t.val.cell? ⟨w.heap.size, 2, none⟩ = some (.int .i64 d) := fun t => blk_cell (hS t) 2
    have c3 : ∀ t : Cls (fun x => Below W.heap.size W x), t.val.cell? ⟨w.heap.size, 3, none⟩ = some (.int .i64 h) := fun t => blk_cell (hS t) 3
    have c4 : ∀ t : Cls (fun x => Below W.heap.size W x), t.val.cell? ⟨w.heap.size, 4, none⟩ = some (.int .i64 n) := fun t => blk_cell (hS t) 4
    have HW := Lib.hid hW; clear hW
    have BL := Lib.hid blk; clear blk hS
    haveI : Nonempty (Cls (fun x => Below W.heap.size W x)) := ⟨⟨W, Below.refl _ _⟩⟩
    have q1 : decide (d < 1) = false := by simp; omega
    have q2 : decide (md y m < d) = false := by simp; omega
    have q3 : decide (h < 0) = false := by simp; omega
    have q4 : decide (23 < h) = false := by simp; omega
    have q5 : decide (n < 0) = false := by simp; omega
    have q6 : decide (59 < n) = false := by simp; omega
    go_enter Tryd.func17, Tryd.ntmps17
    go_wp2
    rw [← HW.out]
    refine wp_region_class (fun x => Below W.heap.size W x) (by kernel_rfl) (by kernel_rfl) (Below.drew (Below.refl _ _)) ?_
    repeat go_big_quiet_step ((go_at_call 37; exact Calls.class_below (refDays_any _ _ _ (by omega) (by omega) (by omega) (by omega))))
    refine wpQuiet_nil ?_
    rintro w2 ⟨⟨_, b2⟩, rfl⟩
    have BL2 := Lib.hid (blk_below b2 BL.out)
    have hB2 := hB.trans (b2.mono hB.size)
    clear c0 c1 c2 c3 c4 this
    clear HW BL b2 hB
    clear W
    have c0 : w2.cell? ⟨w.heap.size, 0, none⟩ = some (.int .i64 y) := blk_cell BL2.out 0
    have c1 : w2.cell? ⟨w.heap.size, 1, none⟩ = some (.int .i64 m) := blk_cell BL2.out 1
    have c2 : w2.cell? ⟨w.heap.size, 2, none⟩ = some (.int .i64 d) := blk_cell BL2.out 2

    go_wp2
    go_loop [4, 5] (fun s t => ∃ z : Int, 2000 ≤ z ∧ z ≤ y ∧ t = .int .i64 z ∧ s = .int .i64 (d - 1 + dby z)) (fun _ t => (y - intOf t).toNat)
    case atStart => exact ⟨2000, by omega, by omega, rfl, by rw [B1.out]; simp⟩
    case round =>
      obtain ⟨z, hz1, hz2, rfl, rfl⟩ := hrel
      have hs := dby_succ z
      have hm := dby_mono hz1
      rw [B1.out] at hm
      have hm2 := dby_mono (show z ≤ 2200 by omega)
      rw [dby_2200] at hm2
      by_cases hc : z < y
      · rcases yd_eq z with ⟨a, b, _⟩ | ⟨a, b, _⟩
        all_goals
          have hle : (lp z == 1) = true ∨ (lp z == 1) = false := by cases (lp z == 1) <;> simp
          rcases hle with hle | hle
          all_goals first | (exfalso; simp [b] at hle; done) | skip
          rw [a] at hs
          have HS := Lib.hid hs; clear hs a b
          go_wp2_with (go_at_call 36; refine (leap_any _ _ (by omega) (by omega)).mono ?_; rintro e w' ⟨rfl, rfl⟩)
          go_round
          case rel => exact ⟨z + 1, by omega, by omega, rfl, by rw [HS.out]; go_num⟩
          case measure => simp [intOf]; omega
      · obtain rfl : z = y := by omega
        have yb := yd_bd z
        clear hs hc
        go_wp2
        go_loopw [4, 6] (fun s t wr => ∃ k : Int, 1 ≤ k ∧ k ≤ m ∧ t = .int .i64 k ∧ s = .int .i64 (d - 1 + dby z + cum z k) ∧ Below w.heap.size w wr ∧ Hid (wr.heap[w.heap.size]? = some (.cells #[.int .i64 z, .int .i64 m, .int .i64 d, .int .i64 h, .int .i64 n] 28 (0, 0)))) (fun _ t _ => (m - intOf t).toNat)
        case atStart => exact ⟨1, by omega, by omega, rfl, by rw [cum_one]; simp, hB2, BL2⟩
        case round =>
          obtain ⟨k, hk1, hk2, rfl, rfl, hB, BL⟩ := hrel
          clear c0 c1 c2 BL2 hB2
          have cs := cum_succ z k hk1 (by omega)
          have kb := md_bd z k
          have cb := cum_bd z k (by omega)
          have c0 : wr.cell? ⟨w.heap.size, 0, none⟩ = some (.int .i64 z) := blk_cell BL.out 0
          have c1 : wr.cell? ⟨w.heap.size, 1, none⟩ = some (.int .i64 m) := blk_cell BL.out 1
          have c3 : wr.cell? ⟨w.heap.size, 3, none⟩ = some (.int .i64 h) := blk_cell BL.out 3
          have c4 : wr.cell? ⟨w.heap.size, 4, none⟩ = some (.int .i64 n) := blk_cell BL.out 4
          by_cases hc2 : k < m
          · have CS := Lib.hid cs; clear cs
            go_wp2_with fail
            refine (refDays_any _ _ _ (by omega) (by omega) (by omega) (by omega)).mono ?_
            rintro e w3 ⟨rfl, b3⟩
            go_wp2_with fail
            go_roundw
            case rel => exact ⟨k + 1, by omega, by omega, rfl, by rw [CS.out]; go_num, hB.trans (b3.mono hB.size), blk_below b3 BL.out⟩
            case measure => simp [intOf]; omega
          · obtain rfl : k = m := by omega
            clear cs hc2
            go_wp2
            go_ret2
            refine ⟨?_, hB⟩
            have e : d - 1 + dby z + cum z k = dayNum z k d := by unfold dayNum; omega
            rw [e]; rfl
end Go.Proofs.YtpdncgfkoibacaaDoor
