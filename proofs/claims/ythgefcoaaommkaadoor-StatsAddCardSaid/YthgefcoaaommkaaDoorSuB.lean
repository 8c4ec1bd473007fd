/- The walk of the statement StatsAdd. -/
import Derived.Test.YthgefcoaaommkaaDoorSuA
import Derived.Test.YthgefcoaaommkaaDoorStR
import Derived.Test.YthgefcoaaommkaaDoorStX
import Derived.Test.YthgefcoaaommkaaDoorStY
import Derived.Test.YthgefcoaaommkaaDoorSuC
import Derived.Test.YthgefcoaaommkaaDoorFork
import Derived.Deep.DeepCutAuto
namespace Go.Proofs.YthgefcoaaommkaaDoor
open Go.RowKit Go.Gn Go.Sr Go.Maps

set_option maxRecDepth 100000 in
set_option maxHeartbeats 16000000 in
theorem statsAdd_walk (A : Option Addr) (c : Nat) (ms : List EvM) (m : EvM) (w : World) (h : RdE w A ms) (hlc : ms.length ≤ c) (hc : c ≤ maxLen) (hL : ∀ m ∈ ms, LenM m) (hgm : GoodM w m) (hLm : LenM m) (hE : Env w) :
    Calls Tryd.prog 4 #[.slice A ms.length c, evA m] w fun e w' => e = .returned (.bool true) ∧ Below w.heap.size w w' := by
  have HE := Lib.hid hE
  have HK := Lib.hid (fun W (hb : Below w.heap.size w W) => known_any W (hE.below hb))
  have HF := Lib.hid (fun W (hb : Below w.heap.size w W) => few_any A c ms W (h.below hb) hL hlc hc)
  have HRA := Lib.hid h
  have HGM := Lib.hid hgm
  have HLM := Lib.hid hLm
  have HGA0 : Hid (∀ q ∈ ms ++ [m], GoodM w q) := Lib.hid fun q hq => by
    rcases List.mem_append.1 hq with hq | hq
    · exact h.good q hq
    · rw [List.mem_singleton.1 hq]; exact hgm
  obtain ⟨i0, hi, hz0, hz1, hz2⟩ := ev_info
  clear h hE hL hgm hLm
  obtain ⟨w0, hw0⟩ : ∃ u : World, u = w.alloc (.cells (evL m).toArray 37) := ⟨_, rfl⟩
  have HBX0 := Lib.hid (show w0.rangeAt w.heap.size 0 (evL m) by rw [hw0]; exact range_blk (blk_new _ _))
  have B0 := Lib.hid (show Below w.heap.size w w0 by rw [hw0]; exact below_new _ _)
  go_enter Tryd.func4, Tryd.ntmps4
  unfold evA evL
  unfold evL at hw0
  go_wp2_with fail
  rw [← hw0]
  clear hw0
  refine (HK.out _ B0.out).mono ?_; rintro e w1 ⟨rfl, b1⟩
  have B1 := Lib.hid (B0.out.tr b1)
  have HBX1 := Lib.hid (range_below HBX0.out b1)
  clear b1 HBX0 B0
  go_wp2_with fail
  refine (HF.out _ B1.out).mono ?_; rintro e w1 ⟨r, rfl, rfl, hr⟩
  cases r
  case false =>
    clear hr
    go_wp2_with fail
    refine (HK.out _ B1.out).mono ?_; rintro e w9 ⟨rfl, b9⟩
    have B9 := Lib.hid (B1.out.tr b9); clear b9
    go_wp2_with fail
    go_ret
    exact ⟨rfl, B9.out⟩
  obtain ⟨hF, hlen⟩ := hr rfl
  have HFW1 := Lib.hid hF
  clear hF hr HF
  go_wp2_with (first | refine wpList_load_mid_g (by rfl) 37 _ rfl w.heap.size 0 rfl (evL m) _ HBX1.out Tryd.underlying37 rfl (by rw [evL_length]; exact ev_size) ?_ | refine wpList_buildEv_g (by rfl) _ rfl m rfl ?_)
  have BN := Lib.hid (below_new w1 (.cells (evL m).toArray 37))
  have HF2 := Lib.hid (few_any (some ⟨w1.heap.size, 0, none⟩) 1 [m] _ (RdE.one w1 m (HGM.out.below B1.out)) (fun q hq => by rw [List.mem_singleton.1 hq]; exact HLM.out) (Nat.le_refl _) (by simp [maxLen]))
  have B2 := Lib.hid (B1.out.tr BN.out)
  have HBX2 := Lib.hid (range_below HBX1.out BN.out)
  obtain ⟨M, hM⟩ : ∃ u : World, w1.alloc (.cells (evL m).toArray 37) = u := ⟨_, rfl⟩
  rw [hM] at HF2 B2 HBX2 ⊢
  have hz1x : w1.heap.size < M.heap.size := by rw [← hM]; simp
  clear hM BN
  refine HF2.out.mono ?_; rintro e M ⟨r, rfl, rfl, hr⟩
  cases r
  case false =>
    clear hr
    go_wp2_with fail
    refine (HK.out _ B2.out).mono ?_; rintro e w9 ⟨rfl, b9⟩
    have B9 := Lib.hid (B2.out.tr b9); clear b9
    go_wp2_with fail
    go_ret
    exact ⟨rfl, B9.out⟩
  obtain ⟨hF, -⟩ := hr rfl
  have HFW := Lib.hid (show ∀ q ∈ ms ++ [m], FewM q from fun q hq => (List.mem_append.1 hq).elim (HFW1.out q) (hF q))
  clear hF hr HFW1 HF2
  have HBM := B2
  have HBX0 := HBX2
  have HR := Lib.hid (RdE.rdC (HRA.out.below B2.out))
  have HGA := Lib.hid (show ∀ q ∈ ms ++ [m], GoodM M q from fun q hq => (HGA0.out q hq).below B2.out)
  clear B1 B2 HBX1 HBX2 HRA HGM HGA0
  go_upto_region 3 with fail
  go_cut [5, 6, 7] (fun v5 v6 v7 wx => ∃ p bd bn A2 c2, v5 = .pointer (some ⟨p, 0, none⟩) ∧ v6 = .slice A2 (okS (ms ++ [m])).length c2 ∧ v7 = .bool true ∧ Hid (StE wx p bd bn (okS (ms ++ [m]))) ∧ Hid (RdE wx A2 (okS (ms ++ [m]))) ∧ (okS (ms ++ [m])).length ≤ c2 ∧ c2 ≤ maxLen ∧ Hid (Below w.heap.size w wx))
  case first =>
    refine Flow.wp_region_sched (fun u v => Below M.heap.size u v) (fun _ => Below.refl _ _) (fun _ _ _ h k => h.trans k) (.fork [1, 3] 0 4 (.fork [] 2 4 (.step [] 4 (.step [] 5 (.step [] 6 (.done [7, 8, 9, 10, 11, 12, 13])))) (.step [] 2 (.step [] 5 (.step [] 6 (.done [7, 8, 9, 10, 11, 12, 13]))))) (.step [] 0 (.step [] 2 (.step [] 5 (.step [] 6 (.done [7, 8, 9, 10, 11, 12, 13])))))) (by kernel_rfl) (by kernel_rfl) ?_
    have cD : Below M.heap.size M (World.drew M) := Below.drew (Below.refl _ _)
    generalize hwd : World.drew _ = wd at *
    clear hwd
    haveI nonE := cls_ne (N := M.heap.size) wd
    have HBX : ∀ t : Flow.Cls (Below M.heap.size wd), t.val.rangeAt w.heap.size 0 (evL m) := fun t => range_below HBX0.out (cD.trans t.2)
    rw [Flow.wpSched_fork]
    simp only [Flow.pick, List.getElem?_toArray, List.getElem?_cons_succ, List.getElem?_cons_zero]
    repeat (first | (refine BigFrame.wpQuiet_want rfl (fun K hK => quiet_load_mid 37 _ rfl w.heap.size 0 rfl (evL m) _ (fun _ hC => by obtain ⟨t, rfl⟩ := hC; exact HBX t) Tryd.underlying37 rfl (by rw [evL_length]; exact ev_size) (hK _ ?_)); clear hK K; simp only [Act.put, List.setIfInBounds_toArray, List.set_cons_succ, List.set_cons_zero]) | go_big_quiet_step (fail))
    refine wpQuiet_nil ?_
    clear nonE
    clear HBX
    refine ⟨?_, ?_⟩
    · rw [Flow.callAt_eq]
      simp only [List.getElem?_toArray, List.getElem?_cons_zero]
      rw [if_pos (by rfl)]
      refine Flow.wp_behind (fun K hK => ?_)
      go_wp2_with fail
      have b1 : Below M.heap.size wd (wd.alloc (.cells #[] 37)) := (Below.refl _ _).alloc cD.size _
      refine hK.out _ _ ⟨b1, ?_⟩
      clear hK K
      have O1 := Lib.hid (own2_empty wd M.heap.size 20 37 cD.size)
      have z1 : wd.heap.size < (wd.alloc (.cells #[] 37)).heap.size := by simp
      have c1 := cD.trans b1; clear b1
      generalize hw1 : wd.alloc (.cells #[] 37) = x1 at *
      clear hw1
      haveI nonE := cls_ne (N := M.heap.size) x1
      rw [Flow.wpSched_fork]
      simp only [Flow.pick]
      refine wpQuiet_nil ?_
      clear nonE
      refine ⟨?_, ?_⟩
      · rw [Flow.callAt_eq]
        simp only [List.getElem?_toArray, List.getElem?_cons_succ, List.getElem?_cons_zero]
        rw [if_pos (by rfl)]
        refine Flow.wp_behind (fun K hK => ?_)
        refine wp_appK Tryd.underlying22 hi hz0 hz1 hz2 rfl (by decide) _ _ rfl M.heap.size _ (0) ([]) O1.out _ (ms.length) _ (ms.flatMap evL) (flatE_length ms) (RdC.below HR.out c1) (one_flatE ms) rfl rfl (by omega) (by decide) c1.size ?_
        intro v2 x2 hown2 b2 hg2
        refine hK.out _ _ ⟨b2, ?_⟩
        clear hK K
        simp only [Act.put, List.setIfInBounds_toArray, List.set_cons_succ, List.set_cons_zero]
        have O2 := Lib.hid hown2; clear hown2
        have c2 := c1.trans b2; clear b2 hg2
        haveI nonE := cls_ne (N := M.heap.size) x2
        rw [Flow.wpSched_step]
        simp only [Flow.pick]
        refine wpQuiet_nil ?_
        clear nonE
        rw [Flow.callAt_eq]
        simp only [List.getElem?_toArray, List.getElem?_cons_succ, List.getElem?_cons_zero]
        rw [if_pos (by rfl)]
        refine Flow.wp_behind (fun K hK => ?_)
        refine wp_buildEv _ rfl m rfl ?_
        have b3 : Below M.heap.size x2 (x2.alloc (.cells (evL m).toArray 37)) := (Below.refl _ _).alloc c2.size _
        refine hK.out _ _ ⟨b3, ?_⟩
        clear hK K
        simp only [Act.put, List.setIfInBounds_toArray, List.set_cons_succ, List.set_cons_zero]
        have X3 := Lib.hid (rdC_new x2 (evL m) 37)
        have z3 : x2.heap.size < (x2.alloc (.cells (evL m).toArray 37)).heap.size := by simp
        have O3 := Lib.hid (own_below O2.out (below_new x2 (.cells (evL m).toArray 37)))
        have c3 := c2.trans b3; clear b3
        generalize hw3 : x2.alloc (.cells (evL m).toArray 37) = x3 at *
        clear hw3
        haveI nonE := cls_ne (N := M.heap.size) x3
        rw [Flow.wpSched_step]
        simp only [Flow.pick]
        refine wpQuiet_nil ?_
        clear nonE
        rw [Flow.callAt_eq]
        simp only [List.getElem?_toArray, List.getElem?_cons_succ, List.getElem?_cons_zero]
        rw [if_pos (by rfl)]
        refine Flow.wp_behind (fun K hK => ?_)
        refine wp_appK Tryd.underlying22 hi hz0 hz1 hz2 rfl (by decide) _ _ rfl M.heap.size _ (0 + ms.length) (([]) ++ ms.flatMap evL) O3.out _ (1) _ (evL m) (evL_length m) (X3.out) (one_evL m) rfl rfl (by omega) (by decide) c3.size ?_
        intro v4 x4 hown4 b4 hg4
        refine hK.out _ _ ⟨b4, ?_⟩
        clear hK K
        simp only [Act.put, List.setIfInBounds_toArray, List.set_cons_succ, List.set_cons_zero]
        have O4 := Lib.hid hown4; clear hown4
        have c4 := c3.trans b4; clear b4 hg4
        haveI nonE := cls_ne (N := M.heap.size) x4
        rw [Flow.wpSched_step]
        simp only [Flow.pick]
        refine wpQuiet_nil ?_
        clear nonE
        obtain ⟨A9, c9, rfl⟩ := own2_slice O4.out
        have hO : x4.ownsRow M.heap.size 37 20 (.slice A9 (ms ++ [m]).length c9) (ms ++ [m]).length ((ms ++ [m]).flatMap evL) := by
          have h := O4.out
          have e1 : (ms ++ [m]).length = 0 + ms.length + 1 := by simp
          have e2 : (ms ++ [m]).flatMap evL = (([] ++ ms.flatMap evL) ++ evL m) := by simp
          rw [e1, e2]; exact h
        have hRd : RdE x4 A9 (ms ++ [m]) := RdE.of_own hO fun q hq => (HGA.out q hq).below c4
        have hle := own2_le hO
        have hca := own2_cap hO
        have BX := HBM.out.trans (c4.mono HBM.out.size)
        have hE2 := HE.out.below BX
        have hb0 := build_any A9 c9 (ms ++ [m]) x4 hRd hle hca HFW.out (by simp; omega) hE2
        rw [show (ms ++ [m]).length = ms.length + 1 by simp] at hb0
        have HBD := Lib.hid hb0
        clear hO hRd hE2 hb0
        rw [Flow.callAt_eq]
        simp only [List.getElem?_toArray, List.getElem?_cons_succ, List.getElem?_cons_zero]
        rw [if_pos (by rfl)]
        refine Flow.wp_behind (fun K hK => ?_)
        rw [show 0 + ms.length + 1 = (ms ++ [m]).length by simp]
        go_wp2_with fail
        refine HBD.out.mono ?_; rintro e y9 ⟨p, bd, bn, A2, c2, rfl, hst, hrd, hlc2, hc2, b9, _, _⟩
        refine hK.out _ _ ⟨b9.mono c4.size, ?_⟩
        clear hK K
        have ST := Lib.hid hst
        have RD := Lib.hid hrd
        have BY := Lib.hid (BX.trans (b9.mono BX.size))
        clear hst hrd b9 HBD BX
        haveI nonE := cls_ne (N := M.heap.size) y9
        rw [Flow.wpSched_done]
        simp only [Flow.pick, List.getElem?_toArray, List.getElem?_cons_succ, List.getElem?_cons_zero]
        repeat go_big_quiet_step (fail)
        refine wpQuiet_nil ?_
        clear nonE
        go_wp2_with fail
        go_meet
        exact ⟨p, bd, bn, A2, c2, rfl, rfl, rfl, ST, RD, hlc2, hc2, BY⟩
      · rw [Flow.callAt_eq]
        simp only [List.getElem?_toArray, List.getElem?_cons_succ, List.getElem?_cons_zero]
        rw [if_pos (by rfl)]
        refine Flow.wp_behind (fun K hK => ?_)
        refine wp_buildEv _ rfl m rfl ?_
        have b2 : Below M.heap.size x1 (x1.alloc (.cells (evL m).toArray 37)) := (Below.refl _ _).alloc c1.size _
        refine hK.out _ _ ⟨b2, ?_⟩
        clear hK K
        simp only [Act.put, List.setIfInBounds_toArray, List.set_cons_succ, List.set_cons_zero]
        have X2 := Lib.hid (rdC_new x1 (evL m) 37)
        have z2 : x1.heap.size < (x1.alloc (.cells (evL m).toArray 37)).heap.size := by simp
        have O2 := Lib.hid (own_below O1.out (below_new x1 (.cells (evL m).toArray 37)))
        have c2 := c1.trans b2; clear b2
        generalize hw2 : x1.alloc (.cells (evL m).toArray 37) = x2 at *
        clear hw2
        haveI nonE := cls_ne (N := M.heap.size) x2
        rw [Flow.wpSched_step]
        simp only [Flow.pick]
        refine wpQuiet_nil ?_
        clear nonE
        rw [Flow.callAt_eq]
        simp only [List.getElem?_toArray, List.getElem?_cons_succ, List.getElem?_cons_zero]
        rw [if_pos (by rfl)]
        refine Flow.wp_behind (fun K hK => ?_)
        refine wp_appK Tryd.underlying22 hi hz0 hz1 hz2 rfl (by decide) _ _ rfl M.heap.size _ (0) ([]) O2.out _ (ms.length) _ (ms.flatMap evL) (flatE_length ms) (RdC.below HR.out c2) (one_flatE ms) rfl rfl (by omega) (by decide) c2.size ?_
        intro v3 x3 hown3 b3 hg3
        refine hK.out _ _ ⟨b3, ?_⟩
        clear hK K
        simp only [Act.put, List.setIfInBounds_toArray, List.set_cons_succ, List.set_cons_zero]
        have O3 := Lib.hid hown3; clear hown3
        have X3 := Lib.hid (RdC.grown0 X2.out hg3 (by simp [Value.ownBlock]; omega))
        have c3 := c2.trans b3; clear b3 hg3
        haveI nonE := cls_ne (N := M.heap.size) x3
        rw [Flow.wpSched_step]
        simp only [Flow.pick]
        refine wpQuiet_nil ?_
        clear nonE
        rw [Flow.callAt_eq]
        simp only [List.getElem?_toArray, List.getElem?_cons_succ, List.getElem?_cons_zero]
        rw [if_pos (by rfl)]
        refine Flow.wp_behind (fun K hK => ?_)
        refine wp_appK Tryd.underlying22 hi hz0 hz1 hz2 rfl (by decide) _ _ rfl M.heap.size _ (0 + ms.length) (([]) ++ ms.flatMap evL) O3.out _ (1) _ (evL m) (evL_length m) (X3.out) (one_evL m) rfl rfl (by omega) (by decide) c3.size ?_
        intro v4 x4 hown4 b4 hg4
        refine hK.out _ _ ⟨b4, ?_⟩
        clear hK K
        simp only [Act.put, List.setIfInBounds_toArray, List.set_cons_succ, List.set_cons_zero]
        have O4 := Lib.hid hown4; clear hown4
        have c4 := c3.trans b4; clear b4 hg4
        haveI nonE := cls_ne (N := M.heap.size) x4
        rw [Flow.wpSched_step]
        simp only [Flow.pick]
        refine wpQuiet_nil ?_
        clear nonE
        obtain ⟨A9, c9, rfl⟩ := own2_slice O4.out
        have hO : x4.ownsRow M.heap.size 37 20 (.slice A9 (ms ++ [m]).length c9) (ms ++ [m]).length ((ms ++ [m]).flatMap evL) := by
          have h := O4.out
          have e1 : (ms ++ [m]).length = 0 + ms.length + 1 := by simp
          have e2 : (ms ++ [m]).flatMap evL = (([] ++ ms.flatMap evL) ++ evL m) := by simp
          rw [e1, e2]; exact h
        have hRd : RdE x4 A9 (ms ++ [m]) := RdE.of_own hO fun q hq => (HGA.out q hq).below c4
        have hle := own2_le hO
        have hca := own2_cap hO
        have BX := HBM.out.trans (c4.mono HBM.out.size)
        have hE2 := HE.out.below BX
        have hb0 := build_any A9 c9 (ms ++ [m]) x4 hRd hle hca HFW.out (by simp; omega) hE2
        rw [show (ms ++ [m]).length = ms.length + 1 by simp] at hb0
        have HBD := Lib.hid hb0
        clear hO hRd hE2 hb0
        rw [Flow.callAt_eq]
        simp only [List.getElem?_toArray, List.getElem?_cons_succ, List.getElem?_cons_zero]
        rw [if_pos (by rfl)]
        refine Flow.wp_behind (fun K hK => ?_)
        rw [show 0 + ms.length + 1 = (ms ++ [m]).length by simp]
        go_wp2_with fail
        refine HBD.out.mono ?_; rintro e y9 ⟨p, bd, bn, A2, c2, rfl, hst, hrd, hlc2, hc2, b9, _, _⟩
        refine hK.out _ _ ⟨b9.mono c4.size, ?_⟩
        clear hK K
        have ST := Lib.hid hst
        have RD := Lib.hid hrd
        have BY := Lib.hid (BX.trans (b9.mono BX.size))
        clear hst hrd b9 HBD BX
        haveI nonE := cls_ne (N := M.heap.size) y9
        rw [Flow.wpSched_done]
        simp only [Flow.pick, List.getElem?_toArray, List.getElem?_cons_succ, List.getElem?_cons_zero]
        repeat go_big_quiet_step (fail)
        refine wpQuiet_nil ?_
        clear nonE
        go_wp2_with fail
        go_meet
        exact ⟨p, bd, bn, A2, c2, rfl, rfl, rfl, ST, RD, hlc2, hc2, BY⟩
    · rw [Flow.callAt_eq]
      simp only [List.getElem?_toArray, List.getElem?_cons_succ, List.getElem?_cons_zero]
      rw [if_pos (by rfl)]
      refine Flow.wp_behind (fun K hK => ?_)
      refine wp_buildEv _ rfl m rfl ?_
      have b1 : Below M.heap.size wd (wd.alloc (.cells (evL m).toArray 37)) := (Below.refl _ _).alloc cD.size _
      refine hK.out _ _ ⟨b1, ?_⟩
      clear hK K
      simp only [Act.put, List.setIfInBounds_toArray, List.set_cons_succ, List.set_cons_zero]
      have X1 := Lib.hid (rdC_new wd (evL m) 37)
      have z1 : wd.heap.size < (wd.alloc (.cells (evL m).toArray 37)).heap.size := by simp
      have c1 := cD.trans b1; clear b1
      generalize hw1 : wd.alloc (.cells (evL m).toArray 37) = x1 at *
      clear hw1
      haveI nonE := cls_ne (N := M.heap.size) x1
      rw [Flow.wpSched_step]
      simp only [Flow.pick]
      refine wpQuiet_nil ?_
      clear nonE
      rw [Flow.callAt_eq]
      simp only [List.getElem?_toArray, List.getElem?_cons_zero]
      rw [if_pos (by rfl)]
      refine Flow.wp_behind (fun K hK => ?_)
      go_wp2_with fail
      have b2 : Below M.heap.size x1 (x1.alloc (.cells #[] 37)) := (Below.refl _ _).alloc c1.size _
      refine hK.out _ _ ⟨b2, ?_⟩
      clear hK K
      have O2 := Lib.hid (own2_empty x1 M.heap.size 20 37 c1.size)
      have z2 : x1.heap.size < (x1.alloc (.cells #[] 37)).heap.size := by simp
      have X2 := Lib.hid (RdC.below X1.out (below_new x1 (.cells #[] 37)))
      have c2 := c1.trans b2; clear b2
      generalize hw2 : x1.alloc (.cells #[] 37) = x2 at *
      clear hw2
      haveI nonE := cls_ne (N := M.heap.size) x2
      rw [Flow.wpSched_step]
      simp only [Flow.pick]
      refine wpQuiet_nil ?_
      clear nonE
      rw [Flow.callAt_eq]
      simp only [List.getElem?_toArray, List.getElem?_cons_succ, List.getElem?_cons_zero]
      rw [if_pos (by rfl)]
      refine Flow.wp_behind (fun K hK => ?_)
      refine wp_appK Tryd.underlying22 hi hz0 hz1 hz2 rfl (by decide) _ _ rfl M.heap.size _ (0) ([]) O2.out _ (ms.length) _ (ms.flatMap evL) (flatE_length ms) (RdC.below HR.out c2) (one_flatE ms) rfl rfl (by omega) (by decide) c2.size ?_
      intro v3 x3 hown3 b3 hg3
      refine hK.out _ _ ⟨b3, ?_⟩
      clear hK K
      simp only [Act.put, List.setIfInBounds_toArray, List.set_cons_succ, List.set_cons_zero]
      have O3 := Lib.hid hown3; clear hown3
      have X3 := Lib.hid (RdC.grown0 X2.out hg3 (by simp [Value.ownBlock]; omega))
      have c3 := c2.trans b3; clear b3 hg3
      haveI nonE := cls_ne (N := M.heap.size) x3
      rw [Flow.wpSched_step]
      simp only [Flow.pick]
      refine wpQuiet_nil ?_
      clear nonE
      rw [Flow.callAt_eq]
      simp only [List.getElem?_toArray, List.getElem?_cons_succ, List.getElem?_cons_zero]
      rw [if_pos (by rfl)]
      refine Flow.wp_behind (fun K hK => ?_)
      refine wp_appK Tryd.underlying22 hi hz0 hz1 hz2 rfl (by decide) _ _ rfl M.heap.size _ (0 + ms.length) (([]) ++ ms.flatMap evL) O3.out _ (1) _ (evL m) (evL_length m) (X3.out) (one_evL m) rfl rfl (by omega) (by decide) c3.size ?_
      intro v4 x4 hown4 b4 hg4
      refine hK.out _ _ ⟨b4, ?_⟩
      clear hK K
      simp only [Act.put, List.setIfInBounds_toArray, List.set_cons_succ, List.set_cons_zero]
      have O4 := Lib.hid hown4; clear hown4
      have c4 := c3.trans b4; clear b4 hg4
      haveI nonE := cls_ne (N := M.heap.size) x4
      rw [Flow.wpSched_step]
      simp only [Flow.pick]
      refine wpQuiet_nil ?_
      clear nonE
      obtain ⟨A9, c9, rfl⟩ := own2_slice O4.out
      have hO : x4.ownsRow M.heap.size 37 20 (.slice A9 (ms ++ [m]).length c9) (ms ++ [m]).length ((ms ++ [m]).flatMap evL) := by
        have h := O4.out
        have e1 : (ms ++ [m]).length = 0 + ms.length + 1 := by simp
        have e2 : (ms ++ [m]).flatMap evL = (([] ++ ms.flatMap evL) ++ evL m) := by simp
        rw [e1, e2]; exact h
      have hRd : RdE x4 A9 (ms ++ [m]) := RdE.of_own hO fun q hq => (HGA.out q hq).below c4
      have hle := own2_le hO
      have hca := own2_cap hO
      have BX := HBM.out.trans (c4.mono HBM.out.size)
      have hE2 := HE.out.below BX
      have hb0 := build_any A9 c9 (ms ++ [m]) x4 hRd hle hca HFW.out (by simp; omega) hE2
      rw [show (ms ++ [m]).length = ms.length + 1 by simp] at hb0
      have HBD := Lib.hid hb0
      clear hO hRd hE2 hb0
      rw [Flow.callAt_eq]
      simp only [List.getElem?_toArray, List.getElem?_cons_succ, List.getElem?_cons_zero]
      rw [if_pos (by rfl)]
      refine Flow.wp_behind (fun K hK => ?_)
      rw [show 0 + ms.length + 1 = (ms ++ [m]).length by simp]
      go_wp2_with fail
      refine HBD.out.mono ?_; rintro e y9 ⟨p, bd, bn, A2, c2, rfl, hst, hrd, hlc2, hc2, b9, _, _⟩
      refine hK.out _ _ ⟨b9.mono c4.size, ?_⟩
      clear hK K
      have ST := Lib.hid hst
      have RD := Lib.hid hrd
      have BY := Lib.hid (BX.trans (b9.mono BX.size))
      clear hst hrd b9 HBD BX
      haveI nonE := cls_ne (N := M.heap.size) y9
      rw [Flow.wpSched_done]
      simp only [Flow.pick, List.getElem?_toArray, List.getElem?_cons_succ, List.getElem?_cons_zero]
      repeat go_big_quiet_step (fail)
      refine wpQuiet_nil ?_
      clear nonE
      go_wp2_with fail
      go_meet
      exact ⟨p, bd, bn, A2, c2, rfl, rfl, rfl, ST, RD, hlc2, hc2, BY⟩
  obtain ⟨p, bd, bn, A2, c2, rfl, rfl, rfl, ST, RD, hlc2, hc2, BY⟩ := hcut
  have hgl := okS_good (ms := ms ++ [m])
  have hll := okS_len (ms ++ [m])
  rw [List.length_append, List.length_singleton] at hll
  apply_assumption
  exact Flow.wp_of_rest (n := 3) (f := Tryd.f4) rfl (addTail p bd bn A2 c2 _ w _ ST.out RD.out hlc2 hc2 BY.out hgl (by omega))
end Go.Proofs.YthgefcoaaommkaaDoor
