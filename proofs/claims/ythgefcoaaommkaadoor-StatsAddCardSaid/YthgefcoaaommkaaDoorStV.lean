/- Contract: the model's list of days. -/
import Derived.Test.YthgefcoaaommkaaDoorStU
import Derived.Test.YthgefcoaaommkaaDoorFork
import Derived.Deep.DeepCutAuto
namespace Go.Sr
open Go.Proofs.YthgefcoaaommkaaDoor Go.Gn
theorem ins_len {α : Type} [DecidableEq α] (c : α → α → Int) (s : α) (l : List α) : (ins c s l).length ≤ l.length + 1 := by
  induction l with
  | nil => simp [ins]
  | cons x r ih => unfold ins; split <;> (try split) <;> simp <;> omega
theorem daysM_len (l : List Ev) : (daysM l).length ≤ l.length := snoc_ind (p := fun l => (daysM l).length ≤ l.length) (by simp [daysM, insAll]) (fun l e ih => by
  rw [daysM_snoc, List.length_append]
  have := ins_len icmp (dayE e) (daysM l)
  simp; omega) l
end Go.Sr
namespace Go.Proofs.YthgefcoaaommkaaDoor
open Go.RowKit Go.Gn Go.Sr Go.Maps

theorem int_info : ∃ i, Tryd.prog.info? 3 = some i ∧ i.zero = some (i64 0) ∧ i.size = 1 ∧ i.bytes = 8 := by
  have h : ((Tryd.prog.info? 3).map fun i => (i.zero, i.size, i.bytes)) = some (some (i64 0), 1, 8) := by kernel_rfl
  cases hi : Tryd.prog.info? 3 with
  | none => rw [hi] at h; cases h
  | some i =>
    rw [hi] at h
    simp only [Option.map_some, Option.some.injEq, Prod.mk.injEq] at h
    exact ⟨i, rfl, h.1, h.2.1, h.2.2⟩
set_option maxRecDepth 100000 in
set_option maxHeartbeats 8000000 in
theorem mDays_any (A : Option Addr) (c : Nat) (ms : List EvM) (w : World) (h : RdE w A ms) (hg : ∀ m ∈ ms, GoodE m.e) (_hlc : ms.length ≤ c) (_hc : c ≤ maxLen) (hlen : ms.length ≤ 1000) :
    Calls Tryd.prog 13 #[.slice A ms.length c] w fun e w' => ∃ v, e = .returned v ∧ w'.ownsRow w.heap.size 3 1 v (daysM (ms.map (·.e))).length ((daysM (ms.map (·.e))).map i64) ∧ Below w.heap.size w w' := by
  have H := Lib.hid h
  have HG := Lib.hid hg
  obtain ⟨i0, hi, hz0, hz1, hz2⟩ := int_info
  clear h hg
  go_enter Tryd.func13, Tryd.ntmps13
  go_wp2_with fail
  go_loopg [3, 4, 5, 6, 7, 8] ms.length (fun gg ov iv _ _ _ _ wr => ∃ k : Nat, k ≤ ms.length ∧ ms.length - k ≤ gg ∧ iv = i64 k ∧ Hid (wr.ownsRow w.heap.size 3 1 ov (daysM ((ms.take k).map (·.e))).length ((daysM ((ms.take k).map (·.e))).map i64)) ∧ Hid (Below w.heap.size w wr))
  case atStart => exact ⟨0, by omega, by omega, rfl, Lib.hid (own2_nil _ _ _ _), Lib.hid (Below.refl _ _)⟩
  case round =>
    obtain ⟨k, hk, hgk, rfl, HO, HB⟩ := hrel
    by_cases hlt : k < ms.length
    · obtain ⟨b, o, m, hA, hbl, hmk, hcell, hgm⟩ := H.out.at_ hlt
      subst hA
      have hge := HG.out m (List.mem_of_getElem? hmk)
      have HC := Lib.hid (range_below hcell HB.out)
      have HNX : Hid (daysM ((ms.take (k + 1)).map (·.e)) = ins icmp (dayE m.e) (daysM ((ms.take k).map (·.e)))) := Lib.hid (by
        (show _ = _)
        rw [take_snoc hmk, List.map_append, List.map_singleton, daysM_snoc])
      have hxl := daysM_len ((ms.take k).map (·.e))
      have HI := Lib.hid (daysM_inc ((ms.take k).map (·.e)))
      rw [List.length_map, List.length_take] at hxl
      generalize daysM ((ms.take k).map (·.e)) = xs at *
      obtain ⟨A2, c2, rfl⟩ := own2_slice HO.out
      have hc2 := own2_le HO.out
      have hcm := own2_cap HO.out
      unfold maxLen at hcm
      have HR := Lib.hid (RdC.of_own HO.out)
      obtain ⟨d, hd⟩ : ∃ d, dayE m.e = d := ⟨_, rfl⟩
      have hday := day_any m wr hge.minute.1 (by have := hge.minute.2; omega)
      rw [hd] at hday HNX
      clear hcell hgm hmk hge hd
      have HDY := Lib.hid hday
      clear hday
      go_wp2_with (first | refine wpList_load_mid rfl 37 _ rfl b (o + k * 20) rfl (evL m) _ HC.out Tryd.underlying37 rfl (by rw [evL_length]; exact ev_size) ?_)
      refine HDY.out.mono ?_; rintro e wr2 ⟨rfl, b2⟩
      have HB2 := Lib.hid (HB.out.tr b2)
      have HO2 := Lib.hid (own_below HO.out b2)
      have HR2 := Lib.hid (RdC.below HR.out b2)
      clear b2 HDY HC HR HO HB
      go_wp2_with fail
      obtain ⟨at_, hat⟩ : ∃ q, insAt icmp d xs = q := ⟨_, rfl⟩
      have hatl : at_ ≤ xs.length := by rw [← hat]; exact insAt_le icmp d xs
      have HAT := Lib.hid (fun (j : Nat) (x : Int) (hx : xs[j]? = some x) => (show x < d ↔ j < at_ by rw [← icmp_lt, ← hat]; exact lt_insAt icmp_lin d HI.out hx))
      have HAT0 : Hid (insAt icmp d xs = at_) := hat
      clear hat
      go_loopg [6, 7, 8] xs.length (fun gg av kv jv wr3 => ∃ j : Nat, j ≤ xs.length ∧ xs.length - j ≤ gg ∧ jv = i64 j ∧ av = i64 (min j at_ : Nat) ∧ kv = .bool (decide (d ∈ xs.take j)) ∧ wr3 = wr2)
      case atStart => exact ⟨0, by omega, by omega, rfl, by simp, by simp, rfl⟩
      case round =>
        obtain ⟨j, hj, hgj, rfl, rfl, rfl, rfl⟩ := hrel
        by_cases hjl : j < xs.length
        · obtain ⟨x, hx⟩ : ∃ x, xs[j]? = some x := ⟨_, List.getElem?_eq_getElem hjl⟩
          have HX := Lib.hid hx
          obtain ⟨b3, o3, rfl, hcx⟩ := RdC.cell HR2.out (j := j) (v := i64 x) (by rw [List.getElem?_map, hx]; rfl)
          have hlt2 := HAT.out j x hx
          have hmem : (d ∈ xs.take (j + 1)) ↔ (d ∈ xs.take j ∨ x = d) := by rw [take_snoc hx]; simp [eq_comm]
          have HM := Lib.hid hmem
          clear hx hmem
          by_cases hk1 : d ∈ xs.take j
          · have hd1 : decide (d ∈ xs.take j) = true := decide_eq_true hk1
            have HK1 := Lib.hid hk1
            clear hk1
            rw [hd1]
            by_cases hlx : x < d
            · have hja := hlt2.1 hlx
              clear hlt2 hd1
              go_wp2_with fail
              go_roundg (xs.length - (j + 1))
              case measure => omega
              case rel => exact ⟨j + 1, by omega, by omega, by go_num, by rw [show min (j + 1) at_ = j + 1 by omega]; go_num, by rw [decide_eq_true (HM.out.2 (.inl HK1.out))], rfl⟩
            · have hja : ¬ j < at_ := fun h => hlx (hlt2.2 h)
              have hmn : min (j + 1) at_ = min j at_ := by omega
              clear hlt2 hd1
              go_wp2_with fail
              go_roundg (xs.length - (j + 1))
              case measure => omega
              case rel => exact ⟨j + 1, by omega, by omega, by go_num, by rw [hmn], by rw [decide_eq_true (HM.out.2 (.inl HK1.out))], rfl⟩
          · have hd1 : decide (d ∈ xs.take j) = false := decide_eq_false hk1
            have HK1 := Lib.hid hk1
            clear hk1
            rw [hd1]
            have hfin : Hid (decide (d ∈ xs.take (j + 1)) = decide (x = d)) := Lib.hid (by (show _ = _); exact decide_eq_decide.2 ⟨fun h => (HM.out.1 h).resolve_left HK1.out, fun h => HM.out.2 (.inr h)⟩)
            by_cases hlx : x < d
            · have hja := hlt2.1 hlx
              have hne : (x == d) = false := by simp; omega
              have hne2 : ¬ x = d := by omega
              clear hlt2 hd1
              go_wp2_with fail
              go_roundg (xs.length - (j + 1))
              case measure => omega
              case rel => exact ⟨j + 1, by omega, by omega, by go_num, by rw [show min (j + 1) at_ = j + 1 by omega]; go_num, by rw [hfin.out, decide_eq_false hne2], rfl⟩
            · have hja : ¬ j < at_ := fun h => hlx (hlt2.2 h)
              have hmn : min (j + 1) at_ = min j at_ := by omega
              clear hlt2 hd1
              by_cases hxd : x = d
              · have he : (x == d) = true := by simp [hxd]
                have hed := Lib.hid hxd
                clear hxd
                go_wp2_with fail
                go_roundg (xs.length - (j + 1))
                case measure => omega
                case rel => exact ⟨j + 1, by omega, by omega, by go_num, by rw [hmn], by rw [hfin.out, decide_eq_true hed.out], rfl⟩
              · have he : (x == d) = false := by simp [hxd]
                have hed := Lib.hid hxd
                clear hxd
                go_wp2_with fail
                go_roundg (xs.length - (j + 1))
                case measure => omega
                case rel => exact ⟨j + 1, by omega, by omega, by go_num, by rw [hmn], by rw [hfin.out, decide_eq_false hed.out], rfl⟩
        · obtain rfl : j = xs.length := by omega
          have hmn : min xs.length at_ = at_ := by omega
          rw [List.take_length, hmn]
          clear hmn HAT
          by_cases hin : d ∈ xs
          · have hd1 : decide (d ∈ xs) = true := decide_eq_true hin
            have HINS : Hid (ins icmp d xs = xs) := Lib.hid (by (show _ = _); rw [ins_mem_at icmp_lin d HI.out, if_pos hin])
            rw [hd1]
            clear hd1 hin
            go_wp2_with fail
            go_roundg (ms.length - (k + 1))
            case measure => omega
            case rel => exact ⟨k + 1, by omega, by omega, by go_num, by rw [HNX.out, HINS.out]; exact HO2, HB2⟩
          · have hd1 : decide (d ∈ xs) = false := decide_eq_false hin
            have HINS : Hid (ins icmp d xs = xs.take at_ ++ d :: xs.drop at_) := Lib.hid (by (show _ = _); rw [ins_mem_at icmp_lin d HI.out, if_neg hin, HAT0.out])
            rw [hd1]
            clear hd1 hin
            go_upto_region 13 with fail
            have hXS : (xs.map i64).length = xs.length * 1 := by simp
            have h1XS := one_map_i64 xs
            have h1ONE : ∀ u ∈ [i64 d], u.oneCell' = true := fun u hu => by rw [List.mem_singleton.1 hu]; rfl
            have HR := Lib.hid HR2.out
            have hq : at_ ≤ xs.length := hatl
            have hnc := hc2
            have hTK := Lib.hid (show ((xs.map i64).take (at_ * 1)).length = at_ * 1 by rw [List.length_take, hXS, Nat.min_eq_left (Nat.mul_le_mul_right _ hq)])
            have hDK := Lib.hid (show ((xs.map i64).drop (at_ * 1)).length = (xs.length - at_) * 1 by rw [List.length_drop, hXS, Nat.sub_mul])
            have hT1 := Lib.hid (show ∀ u ∈ (xs.map i64).take (at_ * 1), u.oneCell' = true from fun u hu => h1XS u (List.mem_of_mem_take hu))
            have hD1 := Lib.hid (show ∀ u ∈ (xs.map i64).drop (at_ * 1), u.oneCell' = true from fun u hu => h1XS u (List.mem_of_mem_drop hu))
            refine Flow.wp_region_sched (fun u v => Below wr.heap.size u v) (fun _ => Below.refl _ _) (fun _ _ _ h k => h.trans k) (.fork [1, 2, 3, 5, 8, 9, 10] 0 6 (.fork [] 4 6 (.step [] 6 (.step [] 7 (.step [] 11 (.done [12])))) (.step [] 4 (.step [] 7 (.step [] 11 (.done [12]))))) (.step [] 0 (.step [] 4 (.step [] 7 (.step [] 11 (.done [12])))))) (by kernel_rfl) (by kernel_rfl) ?_
            have cD : Below wr.heap.size wr (World.drew wr) := Below.drew (Below.refl _ _)
            generalize hwd : World.drew _ = wd at *
            clear hwd
            haveI nonE := cls_ne (N := wr.heap.size) wd
            rw [Flow.wpSched_fork]
            simp only [Flow.pick, List.getElem?_toArray, List.getElem?_cons_succ, List.getElem?_cons_zero]
            repeat (first | (refine BigFrame.wpQuiet_want rfl (fun K hK => quiet_sliceTo Tryd.underlying40 hi _ _ rfl A2 xs.length c2 at_ rfl rfl (by omega) (hK _ ?_)); clear hK K; simp only [Act.put, List.setIfInBounds_toArray, List.set_cons_succ, List.set_cons_zero]) | (refine BigFrame.wpQuiet_want rfl (fun K hK => quiet_sliceFrom Tryd.underlying40 hi hz1 _ _ rfl A2 xs.length c2 at_ rfl rfl hq (hK _ ?_)); clear hK K; simp only [Act.put, List.setIfInBounds_toArray, List.set_cons_succ, List.set_cons_zero]) | go_big_quiet_step (fail))
            refine wpQuiet_nil ?_
            clear nonE
            refine ⟨?_, ?_⟩
            · rw [Flow.callAt_eq]
              simp only [List.getElem?_toArray, List.getElem?_cons_zero]
              rw [if_pos (by rfl)]
              refine Flow.wp_behind (fun K hK => ?_)
              go_wp2_with fail
              have b1 : Below wr.heap.size wd (wd.alloc (.cells #[] 3)) := (Below.refl _ _).alloc cD.size _
              refine hK.out _ _ ⟨b1, ?_⟩
              clear hK K
              have O1 := Lib.hid (own2_empty wd wr.heap.size 1 3 cD.size)
              have z1 : wd.heap.size < (wd.alloc (.cells #[] 3)).heap.size := by simp
              have c1 := cD.trans b1; clear b1
              generalize hw1 : wd.alloc (.cells #[] 3) = x1 at *
              clear hw1
              haveI nonE := cls_ne (N := wr.heap.size) x1
              rw [Flow.wpSched_fork]
              simp only [Flow.pick]
              refine wpQuiet_nil ?_
              clear nonE
              refine ⟨?_, ?_⟩
              · rw [Flow.callAt_eq]
                simp only [List.getElem?_toArray, List.getElem?_cons_succ, List.getElem?_cons_zero]
                rw [if_pos (by rfl)]
                refine Flow.wp_behind (fun K hK => ?_)
                refine wp_appK Tryd.underlying40 hi hz0 hz1 hz2 rfl (by decide) _ _ rfl wr.heap.size _ (0) ([]) O1.out _ (at_) _ ((xs.map i64).take (at_ * 1)) hTK.out (RdC.below (RdC.toA HR.out _ _) c1) hT1.out rfl rfl (by omega) (by decide) c1.size ?_
                intro v2 x2 hown2 b2 hg2
                refine hK.out _ _ ⟨b2, ?_⟩
                clear hK K
                simp only [Act.put, List.setIfInBounds_toArray, List.set_cons_succ, List.set_cons_zero]
                have O2 := Lib.hid hown2; clear hown2
                have c2 := c1.trans b2; clear b2 hg2
                haveI nonE := cls_ne (N := wr.heap.size) x2
                rw [Flow.wpSched_step]
                simp only [Flow.pick]
                refine wpQuiet_nil ?_
                clear nonE
                rw [Flow.callAt_eq]
                simp only [List.getElem?_toArray, List.getElem?_cons_succ, List.getElem?_cons_zero]
                rw [if_pos (by rfl)]
                refine Flow.wp_behind (fun K hK => ?_)
                go_wp2_with fail
                have b3 : Below wr.heap.size x2 (x2.alloc (.cells #[i64 d] 3)) := (Below.refl _ _).alloc c2.size _
                refine hK.out _ _ ⟨b3, ?_⟩
                clear hK K
                have X3 := Lib.hid (rdC_new x2 ([i64 d]) 3)
                have z3 : x2.heap.size < (x2.alloc (.cells #[i64 d] 3)).heap.size := by simp
                have O3 := Lib.hid (own_below O2.out (below_new x2 (.cells #[i64 d] 3)))
                have c3 := c2.trans b3; clear b3
                generalize hw3 : x2.alloc (.cells #[i64 d] 3) = x3 at *
                clear hw3
                haveI nonE := cls_ne (N := wr.heap.size) x3
                rw [Flow.wpSched_step]
                simp only [Flow.pick]
                refine wpQuiet_nil ?_
                clear nonE
                rw [Flow.callAt_eq]
                simp only [List.getElem?_toArray, List.getElem?_cons_succ, List.getElem?_cons_zero]
                rw [if_pos (by rfl)]
                refine Flow.wp_behind (fun K hK => ?_)
                refine wp_appK Tryd.underlying40 hi hz0 hz1 hz2 rfl (by decide) _ _ rfl wr.heap.size _ (0 + at_) ([] ++ (xs.map i64).take (at_ * 1)) O3.out _ (1) _ ([i64 d]) rfl (X3.out) h1ONE rfl rfl (by omega) (by decide) c3.size ?_
                intro v4 x4 hown4 b4 hg4
                refine hK.out _ _ ⟨b4, ?_⟩
                clear hK K
                simp only [Act.put, List.setIfInBounds_toArray, List.set_cons_succ, List.set_cons_zero]
                have O4 := Lib.hid hown4; clear hown4
                have c4 := c3.trans b4; clear b4 hg4
                haveI nonE := cls_ne (N := wr.heap.size) x4
                rw [Flow.wpSched_step]
                simp only [Flow.pick]
                refine wpQuiet_nil ?_
                clear nonE
                rw [Flow.callAt_eq]
                simp only [List.getElem?_toArray, List.getElem?_cons_succ, List.getElem?_cons_zero]
                rw [if_pos (by rfl)]
                refine Flow.wp_behind (fun K hK => ?_)
                refine wp_appK Tryd.underlying40 hi hz0 hz1 hz2 rfl (by decide) _ _ rfl wr.heap.size _ (0 + at_ + 1) (([] ++ (xs.map i64).take (at_ * 1)) ++ [i64 d]) O4.out _ ((xs.length - at_)) _ ((xs.map i64).drop (at_ * 1)) hDK.out (RdC.below (RdC.fromA HR.out hXS _ _ hq hnc) c4) hD1.out rfl rfl (by omega) (by decide) c4.size ?_
                intro v5 x5 hown5 b5 hg5
                refine hK.out _ _ ⟨b5, ?_⟩
                clear hK K
                simp only [Act.put, List.setIfInBounds_toArray, List.set_cons_succ, List.set_cons_zero]
                have O5 := Lib.hid hown5; clear hown5
                have c5 := c4.trans b5; clear b5 hg5
                haveI nonE := cls_ne (N := wr.heap.size) x5
                rw [Flow.wpSched_done]
                simp only [Flow.pick, List.getElem?_toArray, List.getElem?_cons_succ, List.getElem?_cons_zero]
                repeat go_big_quiet_step (fail)
                refine wpQuiet_nil ?_
                clear nonE
                have hfin : Hid (x5.ownsRow w.heap.size 3 1 v5 (ins icmp d xs).length ((ins icmp d xs).map i64)) := Lib.hid (by
                  (show x5.ownsRow w.heap.size 3 1 v5 (ins icmp d xs).length ((ins icmp d xs).map i64))
                  have h := own_base O5.out HB2.out.size
                  have e1 : (ins icmp d xs).length = at_ + 1 + (xs.length - at_) := by rw [HINS.out]; simp; omega
                  have e2 : (ins icmp d xs).map i64 = (([] ++ (xs.map i64).take (at_ * 1)) ++ [i64 d]) ++ (xs.map i64).drop (at_ * 1) := by rw [HINS.out]; simp
                  rw [e1, e2]
                  simpa using h)
                have HBX := Lib.hid (HB2.out.trans (c5.mono HB2.out.size))
                go_wp2_with fail
                go_roundg (ms.length - (k + 1))
                case measure => omega
                case rel => exact ⟨k + 1, by omega, by omega, by go_num, by rw [HNX.out]; exact hfin, HBX⟩
              · rw [Flow.callAt_eq]
                simp only [List.getElem?_toArray, List.getElem?_cons_succ, List.getElem?_cons_zero]
                rw [if_pos (by rfl)]
                refine Flow.wp_behind (fun K hK => ?_)
                go_wp2_with fail
                have b2 : Below wr.heap.size x1 (x1.alloc (.cells #[i64 d] 3)) := (Below.refl _ _).alloc c1.size _
                refine hK.out _ _ ⟨b2, ?_⟩
                clear hK K
                have X2 := Lib.hid (rdC_new x1 ([i64 d]) 3)
                have z2 : x1.heap.size < (x1.alloc (.cells #[i64 d] 3)).heap.size := by simp
                have O2 := Lib.hid (own_below O1.out (below_new x1 (.cells #[i64 d] 3)))
                have c2 := c1.trans b2; clear b2
                generalize hw2 : x1.alloc (.cells #[i64 d] 3) = x2 at *
                clear hw2
                haveI nonE := cls_ne (N := wr.heap.size) x2
                rw [Flow.wpSched_step]
                simp only [Flow.pick]
                refine wpQuiet_nil ?_
                clear nonE
                rw [Flow.callAt_eq]
                simp only [List.getElem?_toArray, List.getElem?_cons_succ, List.getElem?_cons_zero]
                rw [if_pos (by rfl)]
                refine Flow.wp_behind (fun K hK => ?_)
                refine wp_appK Tryd.underlying40 hi hz0 hz1 hz2 rfl (by decide) _ _ rfl wr.heap.size _ (0) ([]) O2.out _ (at_) _ ((xs.map i64).take (at_ * 1)) hTK.out (RdC.below (RdC.toA HR.out _ _) c2) hT1.out rfl rfl (by omega) (by decide) c2.size ?_
                intro v3 x3 hown3 b3 hg3
                refine hK.out _ _ ⟨b3, ?_⟩
                clear hK K
                simp only [Act.put, List.setIfInBounds_toArray, List.set_cons_succ, List.set_cons_zero]
                have O3 := Lib.hid hown3; clear hown3
                have X3 := Lib.hid (RdC.grown0 X2.out hg3 (by simp [Value.ownBlock]; omega))
                have c3 := c2.trans b3; clear b3 hg3
                haveI nonE := cls_ne (N := wr.heap.size) x3
                rw [Flow.wpSched_step]
                simp only [Flow.pick]
                refine wpQuiet_nil ?_
                clear nonE
                rw [Flow.callAt_eq]
                simp only [List.getElem?_toArray, List.getElem?_cons_succ, List.getElem?_cons_zero]
                rw [if_pos (by rfl)]
                refine Flow.wp_behind (fun K hK => ?_)
                refine wp_appK Tryd.underlying40 hi hz0 hz1 hz2 rfl (by decide) _ _ rfl wr.heap.size _ (0 + at_) ([] ++ (xs.map i64).take (at_ * 1)) O3.out _ (1) _ ([i64 d]) rfl (X3.out) h1ONE rfl rfl (by omega) (by decide) c3.size ?_
                intro v4 x4 hown4 b4 hg4
                refine hK.out _ _ ⟨b4, ?_⟩
                clear hK K
                simp only [Act.put, List.setIfInBounds_toArray, List.set_cons_succ, List.set_cons_zero]
                have O4 := Lib.hid hown4; clear hown4
                have c4 := c3.trans b4; clear b4 hg4
                haveI nonE := cls_ne (N := wr.heap.size) x4
                rw [Flow.wpSched_step]
                simp only [Flow.pick]
                refine wpQuiet_nil ?_
                clear nonE
                rw [Flow.callAt_eq]
                simp only [List.getElem?_toArray, List.getElem?_cons_succ, List.getElem?_cons_zero]
                rw [if_pos (by rfl)]
                refine Flow.wp_behind (fun K hK => ?_)
                refine wp_appK Tryd.underlying40 hi hz0 hz1 hz2 rfl (by decide) _ _ rfl wr.heap.size _ (0 + at_ + 1) (([] ++ (xs.map i64).take (at_ * 1)) ++ [i64 d]) O4.out _ ((xs.length - at_)) _ ((xs.map i64).drop (at_ * 1)) hDK.out (RdC.below (RdC.fromA HR.out hXS _ _ hq hnc) c4) hD1.out rfl rfl (by omega) (by decide) c4.size ?_
                intro v5 x5 hown5 b5 hg5
                refine hK.out _ _ ⟨b5, ?_⟩
                clear hK K
                simp only [Act.put, List.setIfInBounds_toArray, List.set_cons_succ, List.set_cons_zero]
                have O5 := Lib.hid hown5; clear hown5
                have c5 := c4.trans b5; clear b5 hg5
                haveI nonE := cls_ne (N := wr.heap.size) x5
                rw [Flow.wpSched_done]
                simp only [Flow.pick, List.getElem?_toArray, List.getElem?_cons_succ, List.getElem?_cons_zero]
                repeat go_big_quiet_step (fail)
                refine wpQuiet_nil ?_
                clear nonE
                have hfin : Hid (x5.ownsRow w.heap.size 3 1 v5 (ins icmp d xs).length ((ins icmp d xs).map i64)) := Lib.hid (by
                  (show x5.ownsRow w.heap.size 3 1 v5 (ins icmp d xs).length ((ins icmp d xs).map i64))
                  have h := own_base O5.out HB2.out.size
                  have e1 : (ins icmp d xs).length = at_ + 1 + (xs.length - at_) := by rw [HINS.out]; simp; omega
                  have e2 : (ins icmp d xs).map i64 = (([] ++ (xs.map i64).take (at_ * 1)) ++ [i64 d]) ++ (xs.map i64).drop (at_ * 1) := by rw [HINS.out]; simp
                  rw [e1, e2]
                  simpa using h)
                have HBX := Lib.hid (HB2.out.trans (c5.mono HB2.out.size))
                go_wp2_with fail
                go_roundg (ms.length - (k + 1))
                case measure => omega
                case rel => exact ⟨k + 1, by omega, by omega, by go_num, by rw [HNX.out]; exact hfin, HBX⟩
            · rw [Flow.callAt_eq]
              simp only [List.getElem?_toArray, List.getElem?_cons_succ, List.getElem?_cons_zero]
              rw [if_pos (by rfl)]
              refine Flow.wp_behind (fun K hK => ?_)
              go_wp2_with fail
              have b1 : Below wr.heap.size wd (wd.alloc (.cells #[i64 d] 3)) := (Below.refl _ _).alloc cD.size _
              refine hK.out _ _ ⟨b1, ?_⟩
              clear hK K
              have X1 := Lib.hid (rdC_new wd ([i64 d]) 3)
              have z1 : wd.heap.size < (wd.alloc (.cells #[i64 d] 3)).heap.size := by simp
              have c1 := cD.trans b1; clear b1
              generalize hw1 : wd.alloc (.cells #[i64 d] 3) = x1 at *
              clear hw1
              haveI nonE := cls_ne (N := wr.heap.size) x1
              rw [Flow.wpSched_step]
              simp only [Flow.pick]
              refine wpQuiet_nil ?_
              clear nonE
              rw [Flow.callAt_eq]
              simp only [List.getElem?_toArray, List.getElem?_cons_zero]
              rw [if_pos (by rfl)]
              refine Flow.wp_behind (fun K hK => ?_)
              go_wp2_with fail
              have b2 : Below wr.heap.size x1 (x1.alloc (.cells #[] 3)) := (Below.refl _ _).alloc c1.size _
              refine hK.out _ _ ⟨b2, ?_⟩
              clear hK K
              have O2 := Lib.hid (own2_empty x1 wr.heap.size 1 3 c1.size)
              have z2 : x1.heap.size < (x1.alloc (.cells #[] 3)).heap.size := by simp
              have X2 := Lib.hid (RdC.below X1.out (below_new x1 (.cells #[] 3)))
              have c2 := c1.trans b2; clear b2
              generalize hw2 : x1.alloc (.cells #[] 3) = x2 at *
              clear hw2
              haveI nonE := cls_ne (N := wr.heap.size) x2
              rw [Flow.wpSched_step]
              simp only [Flow.pick]
              refine wpQuiet_nil ?_
              clear nonE
              rw [Flow.callAt_eq]
              simp only [List.getElem?_toArray, List.getElem?_cons_succ, List.getElem?_cons_zero]
              rw [if_pos (by rfl)]
              refine Flow.wp_behind (fun K hK => ?_)
              refine wp_appK Tryd.underlying40 hi hz0 hz1 hz2 rfl (by decide) _ _ rfl wr.heap.size _ (0) ([]) O2.out _ (at_) _ ((xs.map i64).take (at_ * 1)) hTK.out (RdC.below (RdC.toA HR.out _ _) c2) hT1.out rfl rfl (by omega) (by decide) c2.size ?_
              intro v3 x3 hown3 b3 hg3
              refine hK.out _ _ ⟨b3, ?_⟩
              clear hK K
              simp only [Act.put, List.setIfInBounds_toArray, List.set_cons_succ, List.set_cons_zero]
              have O3 := Lib.hid hown3; clear hown3
              have X3 := Lib.hid (RdC.grown0 X2.out hg3 (by simp [Value.ownBlock]; omega))
              have c3 := c2.trans b3; clear b3 hg3
              haveI nonE := cls_ne (N := wr.heap.size) x3
              rw [Flow.wpSched_step]
              simp only [Flow.pick]
              refine wpQuiet_nil ?_
              clear nonE
              rw [Flow.callAt_eq]
              simp only [List.getElem?_toArray, List.getElem?_cons_succ, List.getElem?_cons_zero]
              rw [if_pos (by rfl)]
              refine Flow.wp_behind (fun K hK => ?_)
              refine wp_appK Tryd.underlying40 hi hz0 hz1 hz2 rfl (by decide) _ _ rfl wr.heap.size _ (0 + at_) ([] ++ (xs.map i64).take (at_ * 1)) O3.out _ (1) _ ([i64 d]) rfl (X3.out) h1ONE rfl rfl (by omega) (by decide) c3.size ?_
              intro v4 x4 hown4 b4 hg4
              refine hK.out _ _ ⟨b4, ?_⟩
              clear hK K
              simp only [Act.put, List.setIfInBounds_toArray, List.set_cons_succ, List.set_cons_zero]
              have O4 := Lib.hid hown4; clear hown4
              have c4 := c3.trans b4; clear b4 hg4
              haveI nonE := cls_ne (N := wr.heap.size) x4
              rw [Flow.wpSched_step]
              simp only [Flow.pick]
              refine wpQuiet_nil ?_
              clear nonE
              rw [Flow.callAt_eq]
              simp only [List.getElem?_toArray, List.getElem?_cons_succ, List.getElem?_cons_zero]
              rw [if_pos (by rfl)]
              refine Flow.wp_behind (fun K hK => ?_)
              refine wp_appK Tryd.underlying40 hi hz0 hz1 hz2 rfl (by decide) _ _ rfl wr.heap.size _ (0 + at_ + 1) (([] ++ (xs.map i64).take (at_ * 1)) ++ [i64 d]) O4.out _ ((xs.length - at_)) _ ((xs.map i64).drop (at_ * 1)) hDK.out (RdC.below (RdC.fromA HR.out hXS _ _ hq hnc) c4) hD1.out rfl rfl (by omega) (by decide) c4.size ?_
              intro v5 x5 hown5 b5 hg5
              refine hK.out _ _ ⟨b5, ?_⟩
              clear hK K
              simp only [Act.put, List.setIfInBounds_toArray, List.set_cons_succ, List.set_cons_zero]
              have O5 := Lib.hid hown5; clear hown5
              have c5 := c4.trans b5; clear b5 hg5
              haveI nonE := cls_ne (N := wr.heap.size) x5
              rw [Flow.wpSched_done]
              simp only [Flow.pick, List.getElem?_toArray, List.getElem?_cons_succ, List.getElem?_cons_zero]
              repeat go_big_quiet_step (fail)
              refine wpQuiet_nil ?_
              clear nonE
              have hfin : Hid (x5.ownsRow w.heap.size 3 1 v5 (ins icmp d xs).length ((ins icmp d xs).map i64)) := Lib.hid (by
                (show x5.ownsRow w.heap.size 3 1 v5 (ins icmp d xs).length ((ins icmp d xs).map i64))
                have h := own_base O5.out HB2.out.size
                have e1 : (ins icmp d xs).length = at_ + 1 + (xs.length - at_) := by rw [HINS.out]; simp; omega
                have e2 : (ins icmp d xs).map i64 = (([] ++ (xs.map i64).take (at_ * 1)) ++ [i64 d]) ++ (xs.map i64).drop (at_ * 1) := by rw [HINS.out]; simp
                rw [e1, e2]
                simpa using h)
              have HBX := Lib.hid (HB2.out.trans (c5.mono HB2.out.size))
              go_wp2_with fail
              go_roundg (ms.length - (k + 1))
              case measure => omega
              case rel => exact ⟨k + 1, by omega, by omega, by go_num, by rw [HNX.out]; exact hfin, HBX⟩
    · obtain rfl : k = ms.length := by omega
      rw [List.take_length] at HO
      go_wp2_with fail
      go_ret
      exact ⟨_, rfl, HO.out, HB.out⟩
end Go.Proofs.YthgefcoaaommkaaDoor
