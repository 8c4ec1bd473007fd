/- Contract: the sizes of statistics. -/
import Derived.Test.YthgefcoaaommkaaDoorStO
namespace Go.Proofs.YthgefcoaaommkaaDoor
open Go.RowKit Go.Gn Go.Sr Go.Maps

theorem StM.rz {w : World} {p bd bn : Nat} {ds : List (Int × C)} {ns : List (Ky × C)} {zs : List Int} (h : StM w p bd bn ds ns zs) : w.rangeAt p 2 (zs.map i64) := fun j v hv => by
  have := range_blk h.blk (j + 2) v (by rw [List.getElem?_cons_succ, List.getElem?_cons_succ]; exact hv)
  rw [Nat.zero_add] at this
  rw [Nat.add_comm 2 j]; exact this
set_option maxRecDepth 100000 in
set_option maxHeartbeats 2000000 in
theorem sizes_any (p bd bn : Nat) (ds : List (Int × C)) (ns : List (Ky × C)) (zs : List Int) (w : World) (h : StM w p bd bn ds ns zs) :
    Calls Tryd.prog 14 #[.pointer (some ⟨p, 0, none⟩)] w fun e w' => e = .returned (.agg (zs.map i64).toArray) ∧ Below w.heap.size w w' := by
  have hl : (zs.map i64).length = 18 := by rw [List.length_map, h.zl]
  have hpl := h.lp
  have hso : (Tryd.prog.info? 43).map (·.size) = some 18 := by kernel_rfl
  obtain ⟨vs, hvs⟩ : ∃ q, zs.map i64 = q := ⟨_, rfl⟩
  have hrz := h.rz
  rw [hvs] at hl hrz ⊢
  have hone : vs.toArray.all (·.oneCell') = true := by
    rw [← hvs]; simp [Value.oneCell']
  have HRZ := Lib.hid hrz
  have HS := Lib.hid hso
  clear h hrz hvs hso
  go_enter Tryd.func14, Tryd.ntmps14
  go_wp2_with (first | refine wpList_load_mid rfl 43 _ rfl p 2 rfl vs _ (range_below HRZ.out (below_new _ _)) Tryd.underlying43 rfl (by rw [hl]; exact HS.out) ?_ | refine wpList_store_new rfl 43 _ _ rfl _ vs.toArray rfl rfl (by simp [hl, HS.out]) (by simp [hl]) hone ?_)
  have hld := run_loadVar_mid (P := Tryd.prog) (w.alloc (.cells vs.toArray 43)) w.heap.size 0 43 vs _ (range_blk (blk_new _ _)) Tryd.underlying43 rfl (by rw [hl]; exact HS.out)
  refine bodyPost_ret (v := .agg vs.toArray) ?_ rfl ⟨rfl, below_new _ _⟩
  simp only [Act.put, List.setIfInBounds_toArray, List.set_cons_succ, List.set_cons_zero]
  simp [results, Tryd.results14, asAddr, hld]
end Go.Proofs.YthgefcoaaommkaaDoor
