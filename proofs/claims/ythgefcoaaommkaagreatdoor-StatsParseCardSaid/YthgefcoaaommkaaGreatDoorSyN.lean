/- Contract: the program's order of lines. -/
import Derived.Test.YthgefcoaaommkaaGreatDoorSyB
import Derived.Test.YthgefcoaaommkaaGreatDoorZi
namespace Go.Proofs.YthgefcoaaommkaaGreatDoor
open Go.RowKit Go.Gn Go.Sr Go.Maps Go.Nr

set_option maxRecDepth 100000 in
set_option maxHeartbeats 8000000 in
theorem follows_any (x q : Rw) (day : Int) (w : World) : Calls Tryz.prog 71 #[rwV x, rwV q, i64 day] w fun e w' => e = .returned (.bool (follows x q day)) ∧ Below w.heap.size w w' := by
  obtain ⟨x1, x2, x3, x4, x5⟩ := x
  obtain ⟨y1, y2, y3, y4, y5⟩ := q
  have HFO := Lib.hid (show follows ⟨x1, x2, x3, x4, x5⟩ ⟨y1, y2, y3, y4, y5⟩ day = if x1 = 0 then decide (y1 < 0) || (decide (y1 ≠ 4) && decide (day < x3)) else if x1 = 4 then decide (y1 ≠ 4) || decide (y3 < x3) else !(decide (y1 < 0) || decide (y1 = 4)) && decide (0 < or2 (icmp x1 y1) (scmp x2 y2)) from rfl)
  obtain ⟨F0, hF0⟩ : ∃ z, follows ⟨x1, x2, x3, x4, x5⟩ ⟨y1, y2, y3, y4, y5⟩ day = z := ⟨_, rfl⟩
  rw [hF0] at HFO ⊢
  clear hF0
  show Calls Tryz.prog 71 #[.agg #[i64 x1, enS x2, i64 x3, i64 x4, i64 x5], .agg #[i64 y1, enS y2, i64 y3, i64 y4, i64 y5], i64 day] w _
  obtain ⟨w0, hw0⟩ : ∃ u : World, u = (w.alloc (.cells #[i64 x1, enS x2, i64 x3, i64 x4, i64 x5] 121)).alloc (.cells #[i64 y1, enS y2, i64 y3, i64 y4, i64 y5] 121) := ⟨_, rfl⟩
  have KA : Hid (w0.heap[w.heap.size]? = some (.cells #[i64 x1, enS x2, i64 x3, i64 x4, i64 x5] 121 (0, 0))) := Lib.hid (by (show _ = _); rw [hw0]; exact blk_below (below_new _ _) (blk_new _ _))
  have KB : Hid (w0.heap[w.heap.size + 1]? = some (.cells #[i64 y1, enS y2, i64 y3, i64 y4, i64 y5] 121 (0, 0))) := Lib.hid (by (show _ = _); rw [hw0]; have := blk_new (w.alloc (.cells #[i64 x1, enS x2, i64 x3, i64 x4, i64 x5] 121)) (.cells #[i64 y1, enS y2, i64 y3, i64 y4, i64 y5] 121); simpa using this)
  have G0 : Hid (Grw w w0) := Lib.hid (by (show Grw _ _); rw [hw0]; exact Grw.trans _ _ _ (Grw.alloc _ _) (Grw.alloc _ _))
  have B0 : Hid (Below w.heap.size w ((w.alloc (.cells #[i64 x1, enS x2, i64 x3, i64 x4, i64 x5] 121)).alloc (.cells #[i64 y1, enS y2, i64 y3, i64 y4, i64 y5] 121))) := Lib.hid ((below_new _ _).tr (below_new _ _))
  by_cases s0 : x1 = 0
  · subst s0
    rw [if_pos rfl] at HFO
    by_cases d1 : y1 < 0
    · have e1 : decide (y1 < 0) = true := decide_eq_true d1
      have V : Hid (F0 = true) := Lib.hid (by rw [HFO.out, e1, Bool.true_or])
      clear HFO d1 KA KB G0 hw0
      go_enter Tryz.func71, Tryz.ntmps71
      go_wp2_with fail
      go_ret
      exact ⟨by rw [V.out]; rfl, B0.out⟩
    have e1 : decide (y1 < 0) = false := decide_eq_false d1
    by_cases d2 : y1 = 4
    · have e2 : (y1 != 4) = false := by simp [d2]
      have V : Hid (F0 = false) := Lib.hid (by rw [HFO.out, e1, decide_eq_false (by simp [d2])]; rfl)
      clear HFO d1 d2 KA KB G0 hw0
      go_enter Tryz.func71, Tryz.ntmps71
      go_wp2_with fail
      go_ret
      exact ⟨by rw [V.out]; rfl, B0.out⟩
    have e2 : (y1 != 4) = true := by simp [d2]
    have V : Hid (F0 = decide (day < x3)) := Lib.hid (by rw [HFO.out, e1, decide_eq_true d2]; simp)
    clear HFO d1 d2 KA KB G0 hw0
    go_enter Tryz.func71, Tryz.ntmps71
    go_wp2_with fail
    go_ret
    exact ⟨by rw [V.out]; rfl, B0.out⟩
  have b0 : (x1 == 0) = false := by simp [s0]
  rw [if_neg s0] at HFO
  by_cases s4 : x1 = 4
  · subst s4
    rw [if_pos rfl] at HFO
    by_cases d2 : y1 = 4
    · have e2 : (y1 != 4) = false := by simp [d2]
      have V : Hid (F0 = decide (y3 < x3)) := Lib.hid (by rw [HFO.out, decide_eq_false (by simp [d2])]; rfl)
      clear HFO d2 KA KB G0 hw0 s0
      go_enter Tryz.func71, Tryz.ntmps71
      go_wp2_with fail
      go_ret
      exact ⟨by rw [V.out]; rfl, B0.out⟩
    have e2 : (y1 != 4) = true := by simp [d2]
    have V : Hid (F0 = true) := Lib.hid (by rw [HFO.out, decide_eq_true d2, Bool.true_or])
    clear HFO d2 KA KB G0 hw0 s0
    go_enter Tryz.func71, Tryz.ntmps71
    go_wp2_with fail
    go_ret
    exact ⟨by rw [V.out]; rfl, B0.out⟩
  have b4 : (x1 == 4) = false := by simp [s4]
  rw [if_neg s4] at HFO
  clear s0 s4
  by_cases d1 : y1 < 0
  · have e1 : decide (y1 < 0) = true := decide_eq_true d1
    have V : Hid (F0 = false) := Lib.hid (by rw [HFO.out, e1]; simp)
    clear HFO d1 KA KB G0 hw0
    go_enter Tryz.func71, Tryz.ntmps71
    go_wp2_with fail
    go_ret
    exact ⟨by rw [V.out]; rfl, B0.out⟩
  have e1 : decide (y1 < 0) = false := decide_eq_false d1
  by_cases d2 : y1 = 4
  · have e2 : (y1 == 4) = true := by simp [d2]
    have V : Hid (F0 = false) := Lib.hid (by rw [HFO.out, decide_eq_true d2]; simp)
    clear HFO d1 d2 KA KB G0 hw0
    go_enter Tryz.func71, Tryz.ntmps71
    go_wp2_with fail
    go_ret
    exact ⟨by rw [V.out]; rfl, B0.out⟩
  have e2 : (y1 == 4) = false := by simp [d2]
  have V : Hid (F0 = decide (0 < or2 (icmp x1 y1) (scmp x2 y2))) := Lib.hid (by rw [HFO.out, e1, decide_eq_false d2]; simp)
  clear HFO d1 d2 B0
  go_enter Tryz.func71, Tryz.ntmps71
  go_wp2_with fail
  rw [← hw0]
  clear hw0
  refine Flow.wp_region_segs Grw Grw.refl Grw.trans [([0, 1, 2, 3, 5, 6, 7, 8], 4), ([], 9), ([], 10), ([], 11)] [12, 13] (by kernel_rfl) (by kernel_rfl) ?_
  have G1 := Lib.hid (Grw.trans _ _ _ G0.out (Grw.drew w0)); clear G0
  have KA1 := Lib.hid (blk_below (Grw.drew w0).below KA.out); clear KA
  have KB1 := Lib.hid (blk_below (Grw.drew w0).below KB.out); clear KB
  generalize World.drew _ = w1 at *
  have a0 := blk_cell KA1.out 0
  have qa0 : ∀ t : Flow.Cls (Grw w1), t.val.cell? _ = some (i64 x1) := fun t => grw_cell a0 t
  have c0 := blk_cell KB1.out 0
  have qc0 : ∀ t : Flow.Cls (Grw w1), t.val.cell? _ = some (i64 y1) := fun t => grw_cell c0 t
  have a1 := blk_cell KA1.out 1
  have qa1 : ∀ t : Flow.Cls (Grw w1), t.val.cell? _ = some (enS x2) := fun t => grw_cell a1 t
  have c1 := blk_cell KB1.out 1
  have qc1 : ∀ t : Flow.Cls (Grw w1), t.val.cell? _ = some (enS y2) := fun t => grw_cell c1 t
  haveI nonE := cls_grw w1
  rw [Flow.wpSegs_cons]
  simp only [Flow.pick, List.getElem?_toArray, List.getElem?_cons_succ, List.getElem?_cons_zero]
  repeat go_big_quiet_step (fail)
  refine wpQuiet_nil ?_
  clear nonE a0 qa0 c0 qc0 a1 qa1 c1 qc1 KA1 KB1
  rw [Flow.callAt_eq]
  simp only [List.getElem?_toArray, List.getElem?_cons_succ, List.getElem?_cons_zero]
  rw [if_pos (by rfl)]
  refine Flow.wp_behind (fun K hK => ?_)
  go_wp2_with fail
  refine (intCompare x1 y1 _).mono ?_; rintro e w9 ⟨rfl, hw9⟩
  have hw9 := hw9.symm
  subst hw9
  refine hK.out _ _ ⟨Grw.refl _, ?_⟩
  clear hK K
  try simp only [Act.put, List.setIfInBounds_toArray, List.set_cons_succ, List.set_cons_zero]
  haveI nonE := cls_grw w1
  rw [Flow.wpSegs_cons]
  simp only [Flow.pick]
  refine wpQuiet_nil ?_
  clear nonE
  rw [Flow.callAt_eq]
  simp only [List.getElem?_toArray, List.getElem?_cons_succ, List.getElem?_cons_zero]
  rw [if_pos (by rfl)]
  refine Flow.wp_behind (fun K hK => ?_)
  go_wp2_with fail
  refine (strCompare x2 y2 _).mono ?_; rintro e w9 ⟨rfl, hw9⟩
  have hw9 := hw9.symm
  subst hw9
  refine hK.out _ _ ⟨Grw.refl _, ?_⟩
  clear hK K
  try simp only [Act.put, List.setIfInBounds_toArray, List.set_cons_succ, List.set_cons_zero]
  haveI nonE := cls_grw w1
  rw [Flow.wpSegs_cons]
  simp only [Flow.pick]
  refine wpQuiet_nil ?_
  clear nonE
  rw [Flow.callAt_eq]
  simp only [List.getElem?_toArray, List.getElem?_cons_succ, List.getElem?_cons_zero]
  rw [if_pos (by rfl)]
  refine Flow.wp_behind (fun K hK => ?_)
  go_wp2_with fail
  refine hK.out _ _ ⟨Grw.alloc _ _, ?_⟩
  clear hK K
  try simp only [Act.put, List.setIfInBounds_toArray, List.set_cons_succ, List.set_cons_zero]
  have HO := Lib.hid (cmpOr_any (some ⟨w1.heap.size, 0, none⟩) 2 [icmp x1 y1, scmp x2 y2] (w1.alloc (.cells #[i64 (icmp x1 y1), i64 (scmp x2 y2)] 3)) (one_ints w1 [icmp x1 y1, scmp x2 y2]) (by simp))
  have G2 := Lib.hid (Grw.trans _ _ _ G1.out (Grw.alloc w1 (.cells #[i64 (icmp x1 y1), i64 (scmp x2 y2)] 3))); clear G1
  generalize w1.alloc _ = w2 at *
  haveI nonE := cls_grw w2
  rw [Flow.wpSegs_cons]
  simp only [Flow.pick]
  refine wpQuiet_nil ?_
  clear nonE
  rw [Flow.callAt_eq]
  simp only [List.getElem?_toArray, List.getElem?_cons_succ, List.getElem?_cons_zero]
  rw [if_pos (by rfl)]
  refine Flow.wp_behind (fun K hK => ?_)
  go_wp2_with fail
  refine HO.out.mono ?_; rintro e w9 ⟨rfl, hw9⟩
  have hw9 := hw9.symm
  subst hw9
  refine hK.out _ _ ⟨Grw.refl _, ?_⟩
  clear hK K
  try simp only [Act.put, List.setIfInBounds_toArray, List.set_cons_succ, List.set_cons_zero]
  haveI nonE := cls_grw w2
  rw [Flow.wpSegs_nil]
  simp only [Flow.pick, List.getElem?_toArray, List.getElem?_cons_succ, List.getElem?_cons_zero]
  repeat go_big_quiet_step (fail)
  refine wpQuiet_nil ?_
  clear nonE
  go_wp2_with fail
  go_ret
  exact ⟨by rw [V.out, ← or_two]; rfl, G2.out.below⟩
  end Go.Proofs.YthgefcoaaommkaaGreatDoor
