/- The walk of DateFromCivil: for every civil date the law returns true. -/
import Derived.Test.YtpdncgfkoibacaaDoorParseAny
import Derived.Test.YtpdncgfkoibacaaDoorRefFrom
namespace Go.Proofs.YtpdncgfkoibacaaDoor
open Go.RowKit
open Cal

set_option maxRecDepth 100000 in
set_option maxHeartbeats 2000000 in
theorem dateFromCivil_case (y m d h n x c : Int) (w : World) (ht : Tab w)
    (h1 : ∀ w : World, Calls Tryd.prog 16 #[.agg #[.int .i64 y, .int .i64 m, .int .i64 d, .int .i64 h, .int .i64 n]] w fun e w' => e = .returned (.tuple #[.int .i64 x, .int .i64 c]) ∧ Below w.heap.size w w')
    (h2 : ∀ w : World, Calls Tryd.prog 17 #[.agg #[.int .i64 y, .int .i64 m, .int .i64 d, .int .i64 h, .int .i64 n]] w fun e w' => e = .returned (.tuple #[.int .i64 x, .int .i64 c]) ∧ Below w.heap.size w w') :
    Calls Tryd.prog 4 #[.agg #[.int .i64 y, .int .i64 m, .int .i64 d, .int .i64 h, .int .i64 n]] w fun e w' => e = .returned (.bool true) ∧ Below w.heap.size w w' := by
  have H1 := Lib.hid h1; clear h1
  have H2 := Lib.hid h2; clear h2
  have hB0 : Below w.heap.size w (w.alloc (.cells #[.int .i64 y, .int .i64 m, .int .i64 d, .int .i64 h, .int .i64 n] 28)) := (Below.refl _ _).alloc (Nat.le_refl _) _
  have HT := Lib.hid (ht.below hB0); clear ht
  have ex : (x == x) = true := by simp
  have ec : (c == c) = true := by simp
  go_enter Tryd.func4, Tryd.ntmps4
  go_wp2_with fail
  refine (known_any _ HT.out).mono ?_; rintro e w1 ⟨rfl, b1⟩
  have K1 := blk_below b1 (blk_new w _)
  have k0 : w1.cell? ⟨w.heap.size, 0, none⟩ = some (.int .i64 y) := blk_cell K1 0
  have k1 : w1.cell? ⟨w.heap.size, 1, none⟩ = some (.int .i64 m) := blk_cell K1 1
  have k2 : w1.cell? ⟨w.heap.size, 2, none⟩ = some (.int .i64 d) := blk_cell K1 2
  have k3 : w1.cell? ⟨w.heap.size, 3, none⟩ = some (.int .i64 h) := blk_cell K1 3
  have k4 : w1.cell? ⟨w.heap.size, 4, none⟩ = some (.int .i64 n) := blk_cell K1 4
  have hB1 := hB0.trans (b1.mono hB0.size)
  clear b1
  go_wp2_with fail
  refine (H1.out _).mono ?_; rintro e w2 ⟨rfl, b2⟩
  have K2 := blk_below b2 K1
  have hB2 := hB1.trans (b2.mono hB1.size)
  clear k0 k1 k2 k3 k4 K1
  have k0 : w2.cell? ⟨w.heap.size, 0, none⟩ = some (.int .i64 y) := blk_cell K2 0
  have k1 : w2.cell? ⟨w.heap.size, 1, none⟩ = some (.int .i64 m) := blk_cell K2 1
  have k2 : w2.cell? ⟨w.heap.size, 2, none⟩ = some (.int .i64 d) := blk_cell K2 2
  have k3 : w2.cell? ⟨w.heap.size, 3, none⟩ = some (.int .i64 h) := blk_cell K2 3
  have k4 : w2.cell? ⟨w.heap.size, 4, none⟩ = some (.int .i64 n) := blk_cell K2 4
  clear b2
  go_wp2_with fail
  refine (H2.out _).mono ?_; rintro e w3 ⟨rfl, b3⟩
  have hB3 := hB2.trans (b3.mono hB2.size)
  clear b3
  go_wp2_with fail
  go_ret
  exact ⟨rfl, hB3⟩

theorem dateFromCivil_walk (y m d h n : Int) (w : World) (ht : Tab w) :
    Calls Tryd.prog 4 #[.agg #[.int .i64 y, .int .i64 m, .int .i64 d, .int .i64 h, .int .i64 n]] w fun e w' => e = .returned (.bool true) ∧ Below w.heap.size w w' := by
  by_cases hr : y < 2000 ∨ 2199 < y ∨ m < 1 ∨ 12 < m
  · exact dateFromCivil_case y m d h n 0 2 w ht (fun w => fromCivil_range _ _ _ _ _ w hr) (fun w => refFromCivil_range _ _ _ _ _ w hr)
  · by_cases hd : d < 1 ∨ md y m < d ∨ h < 0 ∨ 23 < h ∨ n < 0 ∨ 59 < n
    · exact dateFromCivil_case y m d h n 0 13 w ht (fun w => fromCivil_date _ _ _ _ _ w (by omega) (by omega) (by omega) (by omega) hd) (fun w => refFromCivil_date _ _ _ _ _ w (by omega) (by omega) (by omega) (by omega) hd)
    · exact dateFromCivil_case y m d h n _ 0 w ht (fun w => fromCivil_yes _ _ _ _ _ w (by omega) (by omega) (by omega) (by omega) (by omega) (by omega) (by omega) (by omega) (by omega) (by omega)) (fun w => refFromCivil_yes _ _ _ _ _ w (by omega) (by omega) (by omega) (by omega) (by omega) (by omega) (by omega) (by omega) (by omega) (by omega))
end Go.Proofs.YtpdncgfkoibacaaDoor
