/- Contract: two lists of numbers, compared. -/
import Derived.Test.YthgefcoaaommkaaDoorStU
import Derived.Test.YthgefcoaaommkaaDoorFlow
namespace Go.Proofs.YthgefcoaaommkaaDoor
open Go.RowKit

set_option maxRecDepth 100000 in
set_option maxHeartbeats 1000000 in
/-- Two lists of numbers, compared element by element. -/
theorem numbers_any (A B : Option Addr) (c d : Nat) (xs ys : List Int) (w : World) (hA : RdC w A (xs.map i64)) (hB : RdC w B (ys.map i64)) (_hc : xs.length ≤ c) (hd : ys.length ≤ d) (_hcm : c ≤ maxLen) (_hdm : d ≤ maxLen) (hl : xs.length ≤ 100000) (he : xs = ys) :
    Calls Tryd.prog 11 #[.slice A xs.length c, .slice B ys.length d] w fun e w' => e = .returned (.bool true) ∧ Below w.heap.size w w' := by
  subst he
  have HA := Lib.hid hA
  have HB := Lib.hid hB
  clear hA hB
  go_enter Tryd.func11, Tryd.ntmps11
  go_wp2_with fail
  go_loopg [5] xs.length (fun gg iv wr => ∃ k : Nat, k ≤ xs.length ∧ xs.length - k ≤ gg ∧ iv = i64 k ∧ Hid (Below w.heap.size w wr))
  case atStart => exact ⟨0, by omega, by omega, rfl, Lib.hid (Below.refl _ _)⟩
  case round =>
    obtain ⟨k, hk, hgk, rfl, HW⟩ := hrel
    by_cases hlt : k < xs.length
    · obtain ⟨x, hx⟩ : ∃ x, xs[k]? = some x := ⟨_, List.getElem?_eq_getElem hlt⟩
      obtain ⟨b1, o1, rfl, c1⟩ := RdC.cell (RdC.below HA.out HW.out) (j := k) (v := i64 x) (by rw [List.getElem?_map, hx]; rfl)
      obtain ⟨b2, o2, rfl, c2⟩ := RdC.cell (RdC.below HB.out HW.out) (j := k) (v := i64 x) (by rw [List.getElem?_map, hx]; rfl)
      clear hx
      have hne : (x != x) = false := by simp
      go_wp2_with fail
      refine Flow.wp_region_segs Flow.Later Flow.Later.refl Flow.Later.trans [] [0, 1, 2, 3, 4, 5, 6, 7, 8] (by kernel_rfl) (by kernel_rfl) ?_
      have HW1 := Lib.hid (HW.out.tr (Below.refl _ _).drew)
      have c1 : (World.drew wr).cell? ⟨b1, o1 + k, none⟩ = some (i64 x) := c1
      have c2 : (World.drew wr).cell? ⟨b2, o2 + k, none⟩ = some (i64 x) := c2
      clear HW
      generalize World.drew wr = v0 at *
      have qc1 : ∀ t : Flow.Cls (Flow.Later v0), t.val.cell? ⟨b1, o1 + k, none⟩ = some (i64 x) := fun t => Flow.cls_cell c1 t
      have qc2 : ∀ t : Flow.Cls (Flow.Later v0), t.val.cell? ⟨b2, o2 + k, none⟩ = some (i64 x) := fun t => Flow.cls_cell c2 t
      haveI nonE := Flow.cls_nonempty v0
      rw [Flow.wpSegs_nil]
      simp only [Flow.pick, List.getElem?_toArray, List.getElem?_cons_succ, List.getElem?_cons_zero]
      repeat go_big_quiet_step (fail)
      refine wpQuiet_nil ?_
      clear nonE qc1 qc2 c1 c2
      go_wp2_with fail
      go_roundg (xs.length - (k + 1))
      case measure => omega
      case rel => exact ⟨k + 1, by omega, by omega, by go_num, HW1⟩
    · obtain rfl : k = xs.length := by omega
      go_wp2_with fail
      go_ret
      exact ⟨rfl, HW.out⟩
end Go.Proofs.YthgefcoaaommkaaDoor
