/- The walk of the statement StatsOf. -/
import Derived.Test.YthgefcoaaommkaaDoorStS
namespace Go.Proofs.YthgefcoaaommkaaDoor
open Go.RowKit Go.Gn Go.Sr Go.Maps

theorem wantOf_nil (kind a b : Int) (ms : List EvM) : wantOf kind [] a b ms = (0, 0) := by unfold wantOf; rw [if_pos (.inl rfl)]
theorem wantOf_kind {kind : Int} (h : ¬ (1 ≤ kind ∧ kind ≤ 3)) (name : List UInt8) (a b : Int) (ms : List EvM) : wantOf kind name a b ms = (0, 0) := by unfold wantOf; rw [if_pos (.inr h)]
theorem wantOf_of {kind : Int} (h : 1 ≤ kind ∧ kind ≤ 3) {name : List UInt8} (hn : name ≠ []) (a b : Int) (ms : List EvM) : wantOf kind name a b ms = ofM kind name a b ms := by unfold wantOf; rw [if_neg (by rintro (h2 | h2); exact hn h2; exact h2 h)]
set_option maxRecDepth 100000 in
set_option maxHeartbeats 16000000 in
theorem statsOf_walk (A : Option Addr) (c : Nat) (ms : List EvM) (kind : Int) (name : List UInt8) (_hname : name.length ≤ maxLen) (x y : Int) (w : World) (h : RdE w A ms) (hlc : ms.length ≤ c) (hc : c ≤ maxLen) (hL : ∀ m ∈ ms, LenM m) (hE : Env w) :
    Calls Tryd.prog 3 #[.slice A ms.length c, i64 kind, enS name, i64 x, i64 y] w fun e w' => e = .returned (.bool true) ∧ Below w.heap.size w w' := by
  have HK := Lib.hid (fun W (hb : Below w.heap.size w W) => known_any W (hE.below hb))
  have HF := Lib.hid (fun W (hb : Below w.heap.size w W) => few_any A c ms W (h.below hb) hL hlc hc)
  have HBd := Lib.hid (fun W (hb : Below w.heap.size w W) hF hlen => build_any A c ms W (h.below hb) hlc hc hF hlen (hE.below hb))
  clear h hE hL
  go_enter Tryd.func3, Tryd.ntmps3
  go_wp2_with fail
  refine (HK.out _ (Below.refl _ _)).mono ?_; rintro e w1 ⟨rfl, b1⟩
  have B1 := Lib.hid b1; clear b1
  go_wp2_with fail
  refine (HF.out _ B1.out).mono ?_; rintro e w2 ⟨r, rfl, rfl, hr⟩
  cases r
  case false =>
    clear hr
    go_wp2_with fail
    refine (HK.out _ B1.out).mono ?_; rintro e w3 ⟨rfl, b3⟩
    have B3 := Lib.hid (B1.out.tr b3); clear b3
    go_wp2_with fail
    go_ret
    exact ⟨rfl, B3.out⟩
  obtain ⟨hF, hlen⟩ := hr rfl
  have HFew := Lib.hid hF
  clear hF hr
  by_cases h200 : 200 < name.length
  case pos =>
    go_wp2_with fail
    refine (HK.out _ B1.out).mono ?_; rintro e w3 ⟨rfl, b3⟩
    have B3 := Lib.hid (B1.out.tr b3); clear b3
    go_wp2_with fail
    go_ret
    exact ⟨rfl, B3.out⟩
  go_wp2_with fail
  refine (HBd.out _ B1.out HFew.out (by omega)).mono ?_; rintro e w3 ⟨p, bd, bn, A2, c2, rfl, hst, hrd, hlc2, hc2, b3, _, _⟩
  have hok := okS_len ms
  have HW := Lib.hid (of_eq (okS_good (ms := ms)) (fun e he => by obtain ⟨m, hm, rfl⟩ := List.mem_map.1 he; exact (hrd.good m hm).au) kind name x y)
  have hbn := namesL_bnd _ (okS_good (ms := ms))
  have hln := namesL_len _ (okS_good (ms := ms))
  rw [List.length_map] at hln
  have HNS := Lib.hid (bndL.small hbn (by rw [List.length_map]; omega))
  have HMO := Lib.hid (mOf_any A2 c2 (okS ms) kind name x y w3 hrd (fun m hm => okS_good m.e (List.mem_map.2 ⟨m, hm, rfl⟩)) hlc2 hc2 (by omega))
  have B3 := Lib.hid (B1.out.tr b3)
  have ST := Lib.hid hst
  clear hst hrd b3 hbn
  go_wp2_with fail
  refine (HMO.out).mono ?_; rintro e w4 ⟨rfl, b4⟩
  have B4 := Lib.hid (B3.out.tr b4)
  have ST4 := Lib.hid (StM.below ST.out b4)
  clear ST b4 HMO
  have HNN := Lib.hid hln
  dsimp only [cV]
  by_cases hn : name = []
  · subst hn
    rw [wantOf_nil] at HW
    have hz : ([] : List UInt8).isEmpty = true := rfl
    go_wp2_with fail
    have HC := Lib.hid (blk_new w4 (.cells #[i64 0, i64 0] 29))
    have BN := Lib.hid (below_new w4 (.cells #[i64 0, i64 0] 29))
    refine Flow.wp_region_segs Flow.Later Flow.Later.refl Flow.Later.trans [([0, 1, 2, 3, 4, 6], 5)] [7, 8] (by kernel_rfl) (by kernel_rfl) ?_
    have S0 := Lib.hid ((StM.below ST4.out BN.out).below (Below.refl _ _).drew)
    have C0 := Lib.hid (blk_below (Below.refl _ _).drew HC.out)
    have W0 := Lib.hid (B4.out.tr (BN.out.tr (Below.refl _ _).drew))
    clear HC BN ST4 B4
    generalize World.drew (w4.alloc (.cells #[i64 0, i64 0] 29)) = v0 at *
    have qc0 : ∀ t : Flow.Cls (Flow.Later v0), t.val.cell? ⟨w4.heap.size, 0, none⟩ = some (i64 0) := fun t => Flow.cls_cell (blk_cell C0.out 0) t
    have qc1 : ∀ t : Flow.Cls (Flow.Later v0), t.val.cell? ⟨w4.heap.size, 1, none⟩ = some (i64 0) := fun t => Flow.cls_cell (blk_cell C0.out 1) t
    haveI nonE := Flow.cls_nonempty v0
    rw [Flow.wpSegs_cons]
    simp only [Flow.pick, List.getElem?_toArray, List.getElem?_cons_succ, List.getElem?_cons_zero]
    repeat go_big_quiet_step (fail)
    refine wpQuiet_nil ?_
    clear nonE qc0 qc1
    rw [Flow.callAt_eq]
    simp only [List.getElem?_toArray, List.getElem?_cons_succ, List.getElem?_cons_zero]
    rw [if_pos (by rfl)]
    refine Flow.wp_behind (fun K hK => ?_)
    go_wp2_with fail
    refine (of_any p bd bn _ _ _ kind [] x y v0 S0.out HNS.out (by omega)).mono ?_; rintro e v1 ⟨rfl, b⟩
    refine hK.out _ _ ⟨b, ?_⟩
    clear hK K
    have W1 := Lib.hid (W0.out.tr b)
    clear b S0 W0 C0
    rw [HW.out]
    dsimp only [cV]
    haveI nonE := Flow.cls_nonempty v1
    rw [Flow.wpSegs_nil]
    simp only [Flow.pick, List.getElem?_toArray, List.getElem?_cons_succ, List.getElem?_cons_zero]
    repeat go_big_quiet_step (fail)
    refine wpQuiet_nil ?_
    clear nonE
    go_wp2_with fail
    go_ret
    exact ⟨by simp, W1.out⟩
  have hz : name.isEmpty = false := by cases name with | nil => exact absurd rfl hn | cons _ _ => rfl
  by_cases hk1 : kind < 1
  · rw [wantOf_kind (by omega)] at HW
    clear hn
    go_wp2_with fail
    have HC := Lib.hid (blk_new w4 (.cells #[i64 0, i64 0] 29))
    have BN := Lib.hid (below_new w4 (.cells #[i64 0, i64 0] 29))
    refine Flow.wp_region_segs Flow.Later Flow.Later.refl Flow.Later.trans [([0, 1, 2, 3, 4, 6], 5)] [7, 8] (by kernel_rfl) (by kernel_rfl) ?_
    have S0 := Lib.hid ((StM.below ST4.out BN.out).below (Below.refl _ _).drew)
    have C0 := Lib.hid (blk_below (Below.refl _ _).drew HC.out)
    have W0 := Lib.hid (B4.out.tr (BN.out.tr (Below.refl _ _).drew))
    clear HC BN ST4 B4
    generalize World.drew (w4.alloc (.cells #[i64 0, i64 0] 29)) = v0 at *
    have qc0 : ∀ t : Flow.Cls (Flow.Later v0), t.val.cell? ⟨w4.heap.size, 0, none⟩ = some (i64 0) := fun t => Flow.cls_cell (blk_cell C0.out 0) t
    have qc1 : ∀ t : Flow.Cls (Flow.Later v0), t.val.cell? ⟨w4.heap.size, 1, none⟩ = some (i64 0) := fun t => Flow.cls_cell (blk_cell C0.out 1) t
    haveI nonE := Flow.cls_nonempty v0
    rw [Flow.wpSegs_cons]
    simp only [Flow.pick, List.getElem?_toArray, List.getElem?_cons_succ, List.getElem?_cons_zero]
    repeat go_big_quiet_step (fail)
    refine wpQuiet_nil ?_
    clear nonE qc0 qc1
    rw [Flow.callAt_eq]
    simp only [List.getElem?_toArray, List.getElem?_cons_succ, List.getElem?_cons_zero]
    rw [if_pos (by rfl)]
    refine Flow.wp_behind (fun K hK => ?_)
    go_wp2_with fail
    refine (of_any p bd bn _ _ _ kind name x y v0 S0.out HNS.out (by omega)).mono ?_; rintro e v1 ⟨rfl, b⟩
    refine hK.out _ _ ⟨b, ?_⟩
    clear hK K
    have W1 := Lib.hid (W0.out.tr b)
    clear b S0 W0 C0
    rw [HW.out]
    dsimp only [cV]
    haveI nonE := Flow.cls_nonempty v1
    rw [Flow.wpSegs_nil]
    simp only [Flow.pick, List.getElem?_toArray, List.getElem?_cons_succ, List.getElem?_cons_zero]
    repeat go_big_quiet_step (fail)
    refine wpQuiet_nil ?_
    clear nonE
    go_wp2_with fail
    go_ret
    exact ⟨by simp, W1.out⟩
  by_cases hk3 : 3 < kind
  · rw [wantOf_kind (by omega)] at HW
    clear hn
    go_wp2_with fail
    have HC := Lib.hid (blk_new w4 (.cells #[i64 0, i64 0] 29))
    have BN := Lib.hid (below_new w4 (.cells #[i64 0, i64 0] 29))
    refine Flow.wp_region_segs Flow.Later Flow.Later.refl Flow.Later.trans [([0, 1, 2, 3, 4, 6], 5)] [7, 8] (by kernel_rfl) (by kernel_rfl) ?_
    have S0 := Lib.hid ((StM.below ST4.out BN.out).below (Below.refl _ _).drew)
    have C0 := Lib.hid (blk_below (Below.refl _ _).drew HC.out)
    have W0 := Lib.hid (B4.out.tr (BN.out.tr (Below.refl _ _).drew))
    clear HC BN ST4 B4
    generalize World.drew (w4.alloc (.cells #[i64 0, i64 0] 29)) = v0 at *
    have qc0 : ∀ t : Flow.Cls (Flow.Later v0), t.val.cell? ⟨w4.heap.size, 0, none⟩ = some (i64 0) := fun t => Flow.cls_cell (blk_cell C0.out 0) t
    have qc1 : ∀ t : Flow.Cls (Flow.Later v0), t.val.cell? ⟨w4.heap.size, 1, none⟩ = some (i64 0) := fun t => Flow.cls_cell (blk_cell C0.out 1) t
    haveI nonE := Flow.cls_nonempty v0
    rw [Flow.wpSegs_cons]
    simp only [Flow.pick, List.getElem?_toArray, List.getElem?_cons_succ, List.getElem?_cons_zero]
    repeat go_big_quiet_step (fail)
    refine wpQuiet_nil ?_
    clear nonE qc0 qc1
    rw [Flow.callAt_eq]
    simp only [List.getElem?_toArray, List.getElem?_cons_succ, List.getElem?_cons_zero]
    rw [if_pos (by rfl)]
    refine Flow.wp_behind (fun K hK => ?_)
    go_wp2_with fail
    refine (of_any p bd bn _ _ _ kind name x y v0 S0.out HNS.out (by omega)).mono ?_; rintro e v1 ⟨rfl, b⟩
    refine hK.out _ _ ⟨b, ?_⟩
    clear hK K
    have W1 := Lib.hid (W0.out.tr b)
    clear b S0 W0 C0
    rw [HW.out]
    dsimp only [cV]
    haveI nonE := Flow.cls_nonempty v1
    rw [Flow.wpSegs_nil]
    simp only [Flow.pick, List.getElem?_toArray, List.getElem?_cons_succ, List.getElem?_cons_zero]
    repeat go_big_quiet_step (fail)
    refine wpQuiet_nil ?_
    clear nonE
    go_wp2_with fail
    go_ret
    exact ⟨by simp, W1.out⟩
  rw [wantOf_of (by omega) hn] at HW
  clear hn
  generalize ofM kind name x y (okS ms) = q at *
  obtain ⟨q1, q2⟩ := q
  dsimp only at HW ⊢
  go_wp2_with fail
  have HC := Lib.hid (blk_new w4 (.cells #[i64 q1, i64 q2] 29))
  have BN := Lib.hid (below_new w4 (.cells #[i64 q1, i64 q2] 29))
  refine Flow.wp_region_segs Flow.Later Flow.Later.refl Flow.Later.trans [([0, 1, 2, 3, 4, 6], 5)] [7, 8] (by kernel_rfl) (by kernel_rfl) ?_
  have S0 := Lib.hid ((StM.below ST4.out BN.out).below (Below.refl _ _).drew)
  have C0 := Lib.hid (blk_below (Below.refl _ _).drew HC.out)
  have W0 := Lib.hid (B4.out.tr (BN.out.tr (Below.refl _ _).drew))
  clear HC BN ST4 B4
  generalize World.drew (w4.alloc (.cells #[i64 q1, i64 q2] 29)) = v0 at *
  have qc0 : ∀ t : Flow.Cls (Flow.Later v0), t.val.cell? ⟨w4.heap.size, 0, none⟩ = some (i64 q1) := fun t => Flow.cls_cell (blk_cell C0.out 0) t
  have qc1 : ∀ t : Flow.Cls (Flow.Later v0), t.val.cell? ⟨w4.heap.size, 1, none⟩ = some (i64 q2) := fun t => Flow.cls_cell (blk_cell C0.out 1) t
  haveI nonE := Flow.cls_nonempty v0
  rw [Flow.wpSegs_cons]
  simp only [Flow.pick, List.getElem?_toArray, List.getElem?_cons_succ, List.getElem?_cons_zero]
  repeat go_big_quiet_step (fail)
  refine wpQuiet_nil ?_
  clear nonE qc0 qc1
  rw [Flow.callAt_eq]
  simp only [List.getElem?_toArray, List.getElem?_cons_succ, List.getElem?_cons_zero]
  rw [if_pos (by rfl)]
  refine Flow.wp_behind (fun K hK => ?_)
  go_wp2_with fail
  refine (of_any p bd bn _ _ _ kind name x y v0 S0.out HNS.out (by omega)).mono ?_; rintro e v1 ⟨rfl, b⟩
  refine hK.out _ _ ⟨b, ?_⟩
  clear hK K
  have W1 := Lib.hid (W0.out.tr b)
  clear b S0 W0 C0
  rw [HW.out]
  dsimp only [cV]
  haveI nonE := Flow.cls_nonempty v1
  rw [Flow.wpSegs_nil]
  simp only [Flow.pick, List.getElem?_toArray, List.getElem?_cons_succ, List.getElem?_cons_zero]
  repeat go_big_quiet_step (fail)
  refine wpQuiet_nil ?_
  clear nonE
  go_wp2_with fail
  go_ret
  exact ⟨by simp, W1.out⟩
end Go.Proofs.YthgefcoaaommkaaDoor
