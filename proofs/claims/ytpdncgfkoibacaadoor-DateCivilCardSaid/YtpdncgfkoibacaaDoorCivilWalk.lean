/- The walk of DateCivil: for every number the law returns true. -/
import Derived.Test.YtpdncgfkoibacaaDoorParseAny
import Derived.Test.YtpdncgfkoibacaaDoorRefFrom
namespace Go.Proofs.YtpdncgfkoibacaaDoor
open Go.RowKit
open Cal

set_option maxRecDepth 100000 in
set_option maxHeartbeats 2000000 in
theorem dateCivil_no (a : Int) (w : World) (ht : Tab w) (hv : vld a = false) : Calls Tryd.prog 3 #[.int .i64 a] w fun e w' => e = .returned (.bool true) ∧ Below w.heap.size w w' := by
  have HT := Lib.hid ht; clear ht
  go_enter Tryd.func3, Tryd.ntmps3
  go_wp2_with fail
  refine (known_any w HT.out).mono ?_; rintro e w1 ⟨rfl, b1⟩
  go_wp2_with fail
  refine (toCivil_no a w1 hv).mono ?_; rintro e w2 ⟨rfl, b2⟩
  go_wp2_with fail
  refine (refToCivil_no a _ hv).mono ?_; rintro e w3 ⟨rfl, b3⟩
  have K3 := blk_below b3 (blk_new w2 _)
  have hB2 := b1.trans (b2.mono b1.size)
  have hB3 := (hB2.alloc hB2.size _).trans (b3.mono (by have := hB2.size; simp; omega))
  have k0 : w3.cell? ⟨w2.heap.size, 0, none⟩ = some (.int .i64 0) := blk_cell K3 0
  have k1 : w3.cell? ⟨w2.heap.size, 1, none⟩ = some (.int .i64 0) := blk_cell K3 1
  have k2 : w3.cell? ⟨w2.heap.size, 2, none⟩ = some (.int .i64 0) := blk_cell K3 2
  have k3 : w3.cell? ⟨w2.heap.size, 3, none⟩ = some (.int .i64 0) := blk_cell K3 3
  have k4 : w3.cell? ⟨w2.heap.size, 4, none⟩ = some (.int .i64 0) := blk_cell K3 4
  have hz := blk_lt K3
  clear K3 b3
  go_wp2_with fail
  refine (valid_any _ _).mono ?_; rintro e w4 ⟨rfl, rfl⟩
  go_wp2_with fail
  go_ret
  exact ⟨rfl, hB3.alloc hB3.size _⟩

set_option maxRecDepth 100000 in
set_option maxHeartbeats 2000000 in
theorem dateCivil_yes (a : Int) (w : World) (ht : Tab w) (hv : vld a = true) : Calls Tryd.prog 3 #[.int .i64 a] w fun e w' => e = .returned (.bool true) ∧ Below w.heap.size w w' := by
  have HT := Lib.hid ht; clear ht
  obtain ⟨h0, h1⟩ := vld_true hv
  have aY := civY_spec (a / 1440) (by omega) (by omega)
  have aM := civM_spec (a / 1440) (by omega) (by omega)
  have aD := civD_spec (a / 1440) (by omega) (by omega)
  have y1 := aY.1; have y2 := aY.2.1; have q1 := aM.1; have q2 := aM.2.1; have d1 := aD.1; have d2 := aD.2.1
  clear aY aM aD
  have hn := dayNum_civ (a / 1440) (by omega) (by omega)
  have heq : (dayNum (civY (a / 1440)) (civM (a / 1440)) (civD (a / 1440)) * 1440 + a % 1440 / 60 * 60 + a % 60 == a) = true := by rw [hn]; simp; omega
  clear hn
  have HE := Lib.hid heq; clear heq
  go_enter Tryd.func3, Tryd.ntmps3
  go_wp2_with fail
  refine (known_any w HT.out).mono ?_; rintro e w1 ⟨rfl, b1⟩
  go_wp2_with fail
  refine (toCivil_yes a w1 h0 h1).mono ?_; rintro e w2 ⟨rfl, b2⟩
  go_wp2_with fail
  refine (refToCivil_yes a _ h0 h1).mono ?_; rintro e w3 ⟨rfl, b3⟩
  have K3 := blk_below b3 (blk_new w2 _)
  have hB2 := b1.trans (b2.mono b1.size)
  have hB3 := (hB2.alloc hB2.size _).trans (b3.mono (by have := hB2.size; simp; omega))
  have k0 : w3.cell? ⟨w2.heap.size, 0, none⟩ = some (.int .i64 (civY (a / 1440))) := blk_cell K3 0
  have k1 : w3.cell? ⟨w2.heap.size, 1, none⟩ = some (.int .i64 (civM (a / 1440))) := blk_cell K3 1
  have k2 : w3.cell? ⟨w2.heap.size, 2, none⟩ = some (.int .i64 (civD (a / 1440))) := blk_cell K3 2
  have k3 : w3.cell? ⟨w2.heap.size, 3, none⟩ = some (.int .i64 (a % 1440 / 60)) := blk_cell K3 3
  have k4 : w3.cell? ⟨w2.heap.size, 4, none⟩ = some (.int .i64 (a % 60)) := blk_cell K3 4
  have hz := blk_lt K3
  clear K3 b3
  go_wp2_with fail
  refine (valid_any _ _).mono ?_; rintro e w4 ⟨rfl, rfl⟩
  go_wp2_with fail
  refine (fromCivil_yes _ _ _ _ _ _ y1 y2 q1 q2 d1 d2 (by omega) (by omega) (by omega) (by omega)).mono ?_; rintro e w5 ⟨rfl, b5⟩
  have he := HE.out
  have hB4 := hB3.alloc hB3.size (.cells #[.int .i64 (civY (a / 1440)), .int .i64 (civM (a / 1440)), .int .i64 (civD (a / 1440)), .int .i64 (a % 1440 / 60), .int .i64 (a % 60)] 28)
  go_wp2_with fail
  go_ret
  exact ⟨rfl, hB4.trans (b5.mono hB4.size)⟩

theorem dateCivil_walk (a : Int) (_wa : (Lit.int .i64 a).wf = true) (w : World) (ht : Tab w) : Calls Tryd.prog 3 #[.int .i64 a] w fun e w' => e = .returned (.bool true) ∧ Below w.heap.size w w' := by
  cases hv : vld a with
  | true => exact dateCivil_yes a w ht hv
  | false => exact dateCivil_no a w ht hv
end Go.Proofs.YtpdncgfkoibacaaDoor
