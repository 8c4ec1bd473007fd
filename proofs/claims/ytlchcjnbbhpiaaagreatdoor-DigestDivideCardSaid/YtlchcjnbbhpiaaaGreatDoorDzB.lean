/- The Joins of no digest. -/
import Derived.Test.YtlchcjnbbhpiaaaGreatDoorDyX
import Derived.Test.YtlchcjnbbhpiaaaGreatDoorDyZ
namespace Go.Proofs.YtlchcjnbbhpiaaaGreatDoor
open Go.RowKit Go.Shelf Go.Dg Go.Maps
set_option maxRecDepth 100000 in
set_option maxHeartbeats 4000000 in
theorem join_nil (A : Option Addr) (c : Nat) (w : World) :
  Calls Tryz.prog 38 #[.slice A 0 c] w fun e w' => (∃ A' c', e = .returned (.tuple #[dgA (joinF []).1 A' c', i64 (joinF []).2]) ∧ RdI w' A' (joinF []).1.its ∧ (joinF []).1.its.length ≤ c') ∧ Below w.heap.size w w' := by
 go_enter Tryz.func38, Tryz.ntmps38
 go_upto_region 2 with fail
 have bn := below_new w (.cells #[enS [], i64 0, i64 0, i64 0, .slice none 0 0] 32)
 have HRS := Lib.hid (blk_new w (.cells #[enS [], i64 0, i64 0, i64 0, .slice none 0 0] 32))
 have HBL := Lib.hid bn
 clear bn
 generalize w.alloc (.cells #[enS [], i64 0, i64 0, i64 0, .slice none 0 0] 32) = w1 at *
 go_wp2_with (refine wpList_store_mid rfl 32 _ _ rfl w.heap.size 0 #[enS [], i64 0, i64 0, i64 0, .slice none 0 0] rfl rfl (there_at HRS.out (Nat.le_refl 5)) (by kernel_rfl) (one_dg [] 0 0 0 none 0 0) ?_)
 have ZS := dg_store HRS.out (enS []) (i64 0) (i64 0) (i64 0) (.slice none 0 0)
 have hb2 : But w.heap.size w1 (w1.setCells w.heap.size 0 dg0L) := but_setCells _ _ _
 have hload := run_loadVar_mid (P := Tryz.prog) _ w.heap.size 0 32 dg0L _ (range_blk (cs := dg0L) ZS) Tryz.underlying32 rfl (by kernel_rfl)
 have hbl := hb2.tail HBL.out (Nat.le_refl _)
 exact bodyPost_ret (v := .tuple #[dg0, i64 1]) (results_cell2 (a := 2) (i := 3) rfl rfl hload rfl) rfl ⟨⟨none, 0, rfl, RdI.nil, Nat.le_refl _⟩, hbl⟩
end Go.Proofs.YtlchcjnbbhpiaaaGreatDoor
