/- Contract: the model's list of days.
   Contract: the model's insert: a name into a sorted list.
   Contract: the model's names of a kind from a day to a day, in order.
   Contracts: the model's number and line.
   Contract: the model's sizes.
   The model's text: what its loops have written so far.
   What StatsAdd's walk leans on: events in a row of the call's own, an array's element, the model's numbers as those of the statistics. -/
import Derived.Test.YthgefcoaaommkaaGreatDoorZe
import Derived.Test.YthgefcoaaommkaaGreatDoorZa
import Derived.Deep.DeepCutAuto
import Derived.Sort.Walk0
import Derived.Test.YthgefcoaaommkaaGreatDoorZc
import Derived.Test.YthgefcoaaommkaaGreatDoorZd
namespace Go.Sr
open Go.Proofs.YthgefcoaaommkaaGreatDoor Go.Gn
theorem ins_len {α : Type} [DecidableEq α] (c : α → α → Int) (s : α) (l : List α) : (ins c s l).length ≤ l.length + 1 := by
  induction l with
  | nil => simp [ins]
  | cons x r ih => unfold ins; split <;> (try split) <;> simp <;> omega
theorem daysM_len (l : List Ev) : (daysM l).length ≤ l.length := snoc_ind (p := fun l => (daysM l).length ≤ l.length) (by simp [daysM, insAll]) (fun l e ih => by
  rw [daysM_snoc, List.length_append]
  have := ins_len icmp (dayE e) (daysM l)
  simp; omega) l
end Go.Sr
namespace Go.Proofs.YthgefcoaaommkaaGreatDoor
open Go.RowKit Go.Gn Go.Sr Go.Maps

theorem int_info : ∃ i, Tryz.prog.info? 3 = some i ∧ i.zero = some (i64 0) ∧ i.size = 1 ∧ i.bytes = 8 := by
  have h : ((Tryz.prog.info? 3).map fun i => (i.zero, i.size, i.bytes)) = some (some (i64 0), 1, 8) := by kernel_rfl
  cases hi : Tryz.prog.info? 3 with
  | none => rw [hi] at h; cases h
  | some i =>
    rw [hi] at h
    simp only [Option.map_some, Option.some.injEq, Prod.mk.injEq] at h
    exact ⟨i, rfl, h.1, h.2.1, h.2.2⟩
set_option maxRecDepth 100000 in
set_option maxHeartbeats 8000000 in
theorem mDays_any (A : Option Addr) (c : Nat) (ms : List EvM) (w : World) (h : RdE w A ms) (hg : ∀ m ∈ ms, GoodE m.e) (_hlc : ms.length ≤ c) (_hc : c ≤ maxLen) (hlen : ms.length ≤ 1000) :
    Calls Tryz.prog 14 #[.slice A ms.length c] w fun e w' => ∃ v, e = .returned v ∧ w'.ownsRow w.heap.size 3 1 v (daysM (ms.map (·.e))).length ((daysM (ms.map (·.e))).map i64) ∧ Below w.heap.size w w' := by
  have H := Lib.hid h
  have HG := Lib.hid hg
  obtain ⟨i0, hi, hz0, hz1, hz2⟩ := int_info
  clear h hg
  go_enter Tryz.func14, Tryz.ntmps14
  go_wp2_with fail
  go_loopg [3, 4, 5, 6, 7, 8] ms.length (fun gg ov iv _ _ _ _ wr => ∃ k : Nat, k ≤ ms.length ∧ ms.length - k ≤ gg ∧ iv = i64 k ∧ Hid (wr.ownsRow w.heap.size 3 1 ov (daysM ((ms.take k).map (·.e))).length ((daysM ((ms.take k).map (·.e))).map i64)) ∧ Hid (Below w.heap.size w wr))
  case atStart => exact ⟨0, by omega, by omega, rfl, Lib.hid (own2_nil _ _ _ _), Lib.hid (Below.refl _ _)⟩
  case round =>
    obtain ⟨k, hk, hgk, rfl, HO, HB⟩ := hrel
    by_cases hlt : k < ms.length
    · obtain ⟨b, o, m, hA, hbl, hmk, hcell, hgm⟩ := H.out.at_ hlt
      subst hA
      have hge := HG.out m (List.mem_of_getElem? hmk)
      have HC := Lib.hid (range_below hcell HB.out)
      have HNX : Hid (daysM ((ms.take (k + 1)).map (·.e)) = ins icmp (dayE m.e) (daysM ((ms.take k).map (·.e)))) := Lib.hid (by
        (show _ = _)
        rw [take_snoc hmk, List.map_append, List.map_singleton, daysM_snoc])
      have hxl := daysM_len ((ms.take k).map (·.e))
      have HI := Lib.hid (daysM_inc ((ms.take k).map (·.e)))
      rw [List.length_map, List.length_take] at hxl
      generalize daysM ((ms.take k).map (·.e)) = xs at *
      obtain ⟨A2, c2, rfl⟩ := own2_slice HO.out
      have hc2 := own2_le HO.out
      have hcm := own2_cap HO.out
      unfold maxLen at hcm
      have HR := Lib.hid (RdC.of_own HO.out)
      obtain ⟨d, hd⟩ : ∃ d, dayE m.e = d := ⟨_, rfl⟩
      have hday := day_any m wr hge.minute.1 (by have := hge.minute.2; omega)
      rw [hd] at hday HNX
      clear hcell hgm hmk hge hd
      have HDY := Lib.hid hday
      clear hday
      go_wp2_with (first | refine wpList_load_mid rfl 51 _ rfl b (o + k * 20) rfl (evL m) _ HC.out Tryz.underlying51 rfl (by rw [evL_length]; exact ev_size) ?_)
      refine HDY.out.mono ?_; rintro e wr2 ⟨rfl, b2⟩
      have HB2 := Lib.hid (HB.out.tr b2)
      have HO2 := Lib.hid (own_below HO.out b2)
      have HR2 := Lib.hid (RdC.below HR.out b2)
      clear b2 HDY HC HR HO HB
      go_wp2_with fail
      obtain ⟨at_, hat⟩ : ∃ q, insAt icmp d xs = q := ⟨_, rfl⟩
      have hatl : at_ ≤ xs.length := by rw [← hat]; exact insAt_le icmp d xs
      have HAT := Lib.hid (fun (j : Nat) (x : Int) (hx : xs[j]? = some x) => (show x < d ↔ j < at_ by rw [← icmp_lt, ← hat]; exact lt_insAt icmp_lin d HI.out hx))
      have HAT0 : Hid (insAt icmp d xs = at_) := hat
      clear hat
      go_loopg [6, 7, 8] xs.length (fun gg av kv jv wr3 => ∃ j : Nat, j ≤ xs.length ∧ xs.length - j ≤ gg ∧ jv = i64 j ∧ av = i64 (min j at_ : Nat) ∧ kv = .bool (decide (d ∈ xs.take j)) ∧ wr3 = wr2)
      case atStart => exact ⟨0, by omega, by omega, rfl, by simp, by simp, rfl⟩
      case round =>
        obtain ⟨j, hj, hgj, rfl, rfl, rfl, rfl⟩ := hrel
        by_cases hjl : j < xs.length
        · obtain ⟨x, hx⟩ : ∃ x, xs[j]? = some x := ⟨_, List.getElem?_eq_getElem hjl⟩
          have HX := Lib.hid hx
          obtain ⟨b3, o3, rfl, hcx⟩ := RdC.cell HR2.out (j := j) (v := i64 x) (by rw [List.getElem?_map, hx]; rfl)
          have hlt2 := HAT.out j x hx
          have hmem : (d ∈ xs.take (j + 1)) ↔ (d ∈ xs.take j ∨ x = d) := by rw [take_snoc hx]; simp [eq_comm]
          have HM := Lib.hid hmem
          clear hx hmem
          by_cases hk1 : d ∈ xs.take j
          · have hd1 : decide (d ∈ xs.take j) = true := decide_eq_true hk1
            have HK1 := Lib.hid hk1
            clear hk1
            rw [hd1]
            by_cases hlx : x < d
            · have hja := hlt2.1 hlx
              clear hlt2 hd1
              go_wp2_with fail
              go_roundg (xs.length - (j + 1))
              case measure => omega
              case rel => exact ⟨j + 1, by omega, by omega, by go_num, by rw [show min (j + 1) at_ = j + 1 by omega]; go_num, by rw [decide_eq_true (HM.out.2 (.inl HK1.out))], rfl⟩
            · have hja : ¬ j < at_ := fun h => hlx (hlt2.2 h)
              have hmn : min (j + 1) at_ = min j at_ := by omega
              clear hlt2 hd1
              go_wp2_with fail
              go_roundg (xs.length - (j + 1))
              case measure => omega
              case rel => exact ⟨j + 1, by omega, by omega, by go_num, by rw [hmn], by rw [decide_eq_true (HM.out.2 (.inl HK1.out))], rfl⟩
          · have hd1 : decide (d ∈ xs.take j) = false := decide_eq_false hk1
            have HK1 := Lib.hid hk1
            clear hk1
            rw [hd1]
            have hfin : Hid (decide (d ∈ xs.take (j + 1)) = decide (x = d)) := Lib.hid (by (show _ = _); exact decide_eq_decide.2 ⟨fun h => (HM.out.1 h).resolve_left HK1.out, fun h => HM.out.2 (.inr h)⟩)
            by_cases hlx : x < d
            · have hja := hlt2.1 hlx
              have hne : (x == d) = false := by simp; omega
              have hne2 : ¬ x = d := by omega
              clear hlt2 hd1
              go_wp2_with fail
              go_roundg (xs.length - (j + 1))
              case measure => omega
              case rel => exact ⟨j + 1, by omega, by omega, by go_num, by rw [show min (j + 1) at_ = j + 1 by omega]; go_num, by rw [hfin.out, decide_eq_false hne2], rfl⟩
            · have hja : ¬ j < at_ := fun h => hlx (hlt2.2 h)
              have hmn : min (j + 1) at_ = min j at_ := by omega
              clear hlt2 hd1
              by_cases hxd : x = d
              · have he : (x == d) = true := by simp [hxd]
                have hed := Lib.hid hxd
                clear hxd
                go_wp2_with fail
                go_roundg (xs.length - (j + 1))
                case measure => omega
                case rel => exact ⟨j + 1, by omega, by omega, by go_num, by rw [hmn], by rw [hfin.out, decide_eq_true hed.out], rfl⟩
              · have he : (x == d) = false := by simp [hxd]
                have hed := Lib.hid hxd
                clear hxd
                go_wp2_with fail
                go_roundg (xs.length - (j + 1))
                case measure => omega
                case rel => exact ⟨j + 1, by omega, by omega, by go_num, by rw [hmn], by rw [hfin.out, decide_eq_false hed.out], rfl⟩
        · obtain rfl : j = xs.length := by omega
          have hmn : min xs.length at_ = at_ := by omega
          rw [List.take_length, hmn]
          clear hmn HAT
          by_cases hin : d ∈ xs
          · have hd1 : decide (d ∈ xs) = true := decide_eq_true hin
            have HINS : Hid (ins icmp d xs = xs) := Lib.hid (by (show _ = _); rw [ins_mem_at icmp_lin d HI.out, if_pos hin])
            rw [hd1]
            clear hd1 hin
            go_wp2_with fail
            go_roundg (ms.length - (k + 1))
            case measure => omega
            case rel => exact ⟨k + 1, by omega, by omega, by go_num, by rw [HNX.out, HINS.out]; exact HO2, HB2⟩
          · have hd1 : decide (d ∈ xs) = false := decide_eq_false hin
            have HINS : Hid (ins icmp d xs = xs.take at_ ++ d :: xs.drop at_) := Lib.hid (by (show _ = _); rw [ins_mem_at icmp_lin d HI.out, if_neg hin, HAT0.out])
            rw [hd1]
            clear hd1 hin
            go_upto_region 13 with fail
            have hXS : (xs.map i64).length = xs.length * 1 := by simp
            have h1XS := one_map_i64 xs
            have h1ONE : ∀ u ∈ [i64 d], u.oneCell' = true := fun u hu => by rw [List.mem_singleton.1 hu]; rfl
            have HR := Lib.hid HR2.out
            have hq : at_ ≤ xs.length := hatl
            have hnc := hc2
            have hTK := Lib.hid (show ((xs.map i64).take (at_ * 1)).length = at_ * 1 by rw [List.length_take, hXS, Nat.min_eq_left (Nat.mul_le_mul_right _ hq)])
            have hDK := Lib.hid (show ((xs.map i64).drop (at_ * 1)).length = (xs.length - at_) * 1 by rw [List.length_drop, hXS, Nat.sub_mul])
            have hT1 := Lib.hid (show ∀ u ∈ (xs.map i64).take (at_ * 1), u.oneCell' = true from fun u hu => h1XS u (List.mem_of_mem_take hu))
            have hD1 := Lib.hid (show ∀ u ∈ (xs.map i64).drop (at_ * 1), u.oneCell' = true from fun u hu => h1XS u (List.mem_of_mem_drop hu))
            refine Flow.wp_region_sched (fun u v => Below wr.heap.size u v) (fun _ => Below.refl _ _) (fun _ _ _ h k => h.trans k) (.fork [1, 2, 3, 5, 8, 9, 10] 0 6 (.fork [] 4 6 (.step [] 6 (.step [] 7 (.step [] 11 (.done [12])))) (.step [] 4 (.step [] 7 (.step [] 11 (.done [12]))))) (.step [] 0 (.step [] 4 (.step [] 7 (.step [] 11 (.done [12])))))) (by kernel_rfl) (by kernel_rfl) ?_
            have cD : Below wr.heap.size wr (World.drew wr) := Below.drew (Below.refl _ _)
            generalize hwd : World.drew _ = wd at *
            clear hwd
            haveI nonE := cls_ne (N := wr.heap.size) wd
            rw [Flow.wpSched_fork]
            simp only [Flow.pick, List.getElem?_toArray, List.getElem?_cons_succ, List.getElem?_cons_zero]
            repeat (first | (refine BigFrame.wpQuiet_want rfl (fun K hK => quiet_sliceTo Tryz.underlying38 hi _ _ rfl A2 xs.length c2 at_ rfl rfl (by omega) (hK _ ?_)); clear hK K; simp only [Act.put, List.setIfInBounds_toArray, List.set_cons_succ, List.set_cons_zero]) | (refine BigFrame.wpQuiet_want rfl (fun K hK => quiet_sliceFrom Tryz.underlying38 hi hz1 _ _ rfl A2 xs.length c2 at_ rfl rfl hq (hK _ ?_)); clear hK K; simp only [Act.put, List.setIfInBounds_toArray, List.set_cons_succ, List.set_cons_zero]) | go_big_quiet_step (fail))
            refine wpQuiet_nil ?_
            clear nonE
            refine ⟨?_, ?_⟩
            · rw [Flow.callAt_eq]
              simp only [List.getElem?_toArray, List.getElem?_cons_zero]
              rw [if_pos (by rfl)]
              refine Flow.wp_behind (fun K hK => ?_)
              go_wp2_with fail
              have b1 : Below wr.heap.size wd (wd.alloc (.cells #[] 3)) := (Below.refl _ _).alloc cD.size _
              refine hK.out _ _ ⟨b1, ?_⟩
              clear hK K
              have O1 := Lib.hid (own2_empty wd wr.heap.size 1 3 cD.size)
              have z1 : wd.heap.size < (wd.alloc (.cells #[] 3)).heap.size := by simp
              have c1 := cD.trans b1; clear b1
              generalize hw1 : wd.alloc (.cells #[] 3) = x1 at *
              clear hw1
              haveI nonE := cls_ne (N := wr.heap.size) x1
              rw [Flow.wpSched_fork]
              simp only [Flow.pick]
              refine wpQuiet_nil ?_
              clear nonE
              refine ⟨?_, ?_⟩
              · rw [Flow.callAt_eq]
                simp only [List.getElem?_toArray, List.getElem?_cons_succ, List.getElem?_cons_zero]
                rw [if_pos (by rfl)]
                refine Flow.wp_behind (fun K hK => ?_)
                refine wp_appK Tryz.underlying38 hi hz0 hz1 hz2 rfl (by decide) _ _ rfl wr.heap.size _ (0) ([]) O1.out _ (at_) _ ((xs.map i64).take (at_ * 1)) hTK.out (RdC.below (RdC.toA HR.out _ _) c1) hT1.out rfl rfl (by omega) (by decide) c1.size ?_
                intro v2 x2 hown2 b2 hg2
                refine hK.out _ _ ⟨b2, ?_⟩
                clear hK K
                simp only [Act.put, List.setIfInBounds_toArray, List.set_cons_succ, List.set_cons_zero]
                have O2 := Lib.hid hown2; clear hown2
                have c2 := c1.trans b2; clear b2 hg2
                haveI nonE := cls_ne (N := wr.heap.size) x2
                rw [Flow.wpSched_step]
                simp only [Flow.pick]
                refine wpQuiet_nil ?_
                clear nonE
                rw [Flow.callAt_eq]
                simp only [List.getElem?_toArray, List.getElem?_cons_succ, List.getElem?_cons_zero]
                rw [if_pos (by rfl)]
                refine Flow.wp_behind (fun K hK => ?_)
                go_wp2_with fail
                have b3 : Below wr.heap.size x2 (x2.alloc (.cells #[i64 d] 3)) := (Below.refl _ _).alloc c2.size _
                refine hK.out _ _ ⟨b3, ?_⟩
                clear hK K
                have X3 := Lib.hid (rdC_new x2 ([i64 d]) 3)
                have z3 : x2.heap.size < (x2.alloc (.cells #[i64 d] 3)).heap.size := by simp
                have O3 := Lib.hid (own_below O2.out (below_new x2 (.cells #[i64 d] 3)))
                have c3 := c2.trans b3; clear b3
                generalize hw3 : x2.alloc (.cells #[i64 d] 3) = x3 at *
                clear hw3
                haveI nonE := cls_ne (N := wr.heap.size) x3
                rw [Flow.wpSched_step]
                simp only [Flow.pick]
                refine wpQuiet_nil ?_
                clear nonE
                rw [Flow.callAt_eq]
                simp only [List.getElem?_toArray, List.getElem?_cons_succ, List.getElem?_cons_zero]
                rw [if_pos (by rfl)]
                refine Flow.wp_behind (fun K hK => ?_)
                refine wp_appK Tryz.underlying38 hi hz0 hz1 hz2 rfl (by decide) _ _ rfl wr.heap.size _ (0 + at_) ([] ++ (xs.map i64).take (at_ * 1)) O3.out _ (1) _ ([i64 d]) rfl (X3.out) h1ONE rfl rfl (by omega) (by decide) c3.size ?_
                intro v4 x4 hown4 b4 hg4
                refine hK.out _ _ ⟨b4, ?_⟩
                clear hK K
                simp only [Act.put, List.setIfInBounds_toArray, List.set_cons_succ, List.set_cons_zero]
                have O4 := Lib.hid hown4; clear hown4
                have c4 := c3.trans b4; clear b4 hg4
                haveI nonE := cls_ne (N := wr.heap.size) x4
                rw [Flow.wpSched_step]
                simp only [Flow.pick]
                refine wpQuiet_nil ?_
                clear nonE
                rw [Flow.callAt_eq]
                simp only [List.getElem?_toArray, List.getElem?_cons_succ, List.getElem?_cons_zero]
                rw [if_pos (by rfl)]
                refine Flow.wp_behind (fun K hK => ?_)
                refine wp_appK Tryz.underlying38 hi hz0 hz1 hz2 rfl (by decide) _ _ rfl wr.heap.size _ (0 + at_ + 1) (([] ++ (xs.map i64).take (at_ * 1)) ++ [i64 d]) O4.out _ ((xs.length - at_)) _ ((xs.map i64).drop (at_ * 1)) hDK.out (RdC.below (RdC.fromA HR.out hXS _ _ hq hnc) c4) hD1.out rfl rfl (by omega) (by decide) c4.size ?_
                intro v5 x5 hown5 b5 hg5
                refine hK.out _ _ ⟨b5, ?_⟩
                clear hK K
                simp only [Act.put, List.setIfInBounds_toArray, List.set_cons_succ, List.set_cons_zero]
                have O5 := Lib.hid hown5; clear hown5
                have c5 := c4.trans b5; clear b5 hg5
                haveI nonE := cls_ne (N := wr.heap.size) x5
                rw [Flow.wpSched_done]
                simp only [Flow.pick, List.getElem?_toArray, List.getElem?_cons_succ, List.getElem?_cons_zero]
                repeat go_big_quiet_step (fail)
                refine wpQuiet_nil ?_
                clear nonE
                have hfin : Hid (x5.ownsRow w.heap.size 3 1 v5 (ins icmp d xs).length ((ins icmp d xs).map i64)) := Lib.hid (by
                  (show x5.ownsRow w.heap.size 3 1 v5 (ins icmp d xs).length ((ins icmp d xs).map i64))
                  have h := own_base O5.out HB2.out.size
                  have e1 : (ins icmp d xs).length = at_ + 1 + (xs.length - at_) := by rw [HINS.out]; simp; omega
                  have e2 : (ins icmp d xs).map i64 = (([] ++ (xs.map i64).take (at_ * 1)) ++ [i64 d]) ++ (xs.map i64).drop (at_ * 1) := by rw [HINS.out]; simp
                  rw [e1, e2]
                  simpa using h)
                have HBX := Lib.hid (HB2.out.trans (c5.mono HB2.out.size))
                go_wp2_with fail
                go_roundg (ms.length - (k + 1))
                case measure => omega
                case rel => exact ⟨k + 1, by omega, by omega, by go_num, by rw [HNX.out]; exact hfin, HBX⟩
              · rw [Flow.callAt_eq]
                simp only [List.getElem?_toArray, List.getElem?_cons_succ, List.getElem?_cons_zero]
                rw [if_pos (by rfl)]
                refine Flow.wp_behind (fun K hK => ?_)
                go_wp2_with fail
                have b2 : Below wr.heap.size x1 (x1.alloc (.cells #[i64 d] 3)) := (Below.refl _ _).alloc c1.size _
                refine hK.out _ _ ⟨b2, ?_⟩
                clear hK K
                have X2 := Lib.hid (rdC_new x1 ([i64 d]) 3)
                have z2 : x1.heap.size < (x1.alloc (.cells #[i64 d] 3)).heap.size := by simp
                have O2 := Lib.hid (own_below O1.out (below_new x1 (.cells #[i64 d] 3)))
                have c2 := c1.trans b2; clear b2
                generalize hw2 : x1.alloc (.cells #[i64 d] 3) = x2 at *
                clear hw2
                haveI nonE := cls_ne (N := wr.heap.size) x2
                rw [Flow.wpSched_step]
                simp only [Flow.pick]
                refine wpQuiet_nil ?_
                clear nonE
                rw [Flow.callAt_eq]
                simp only [List.getElem?_toArray, List.getElem?_cons_succ, List.getElem?_cons_zero]
                rw [if_pos (by rfl)]
                refine Flow.wp_behind (fun K hK => ?_)
                refine wp_appK Tryz.underlying38 hi hz0 hz1 hz2 rfl (by decide) _ _ rfl wr.heap.size _ (0) ([]) O2.out _ (at_) _ ((xs.map i64).take (at_ * 1)) hTK.out (RdC.below (RdC.toA HR.out _ _) c2) hT1.out rfl rfl (by omega) (by decide) c2.size ?_
                intro v3 x3 hown3 b3 hg3
                refine hK.out _ _ ⟨b3, ?_⟩
                clear hK K
                simp only [Act.put, List.setIfInBounds_toArray, List.set_cons_succ, List.set_cons_zero]
                have O3 := Lib.hid hown3; clear hown3
                have X3 := Lib.hid (RdC.grown0 X2.out hg3 (by simp [Value.ownBlock]; omega))
                have c3 := c2.trans b3; clear b3 hg3
                haveI nonE := cls_ne (N := wr.heap.size) x3
                rw [Flow.wpSched_step]
                simp only [Flow.pick]
                refine wpQuiet_nil ?_
                clear nonE
                rw [Flow.callAt_eq]
                simp only [List.getElem?_toArray, List.getElem?_cons_succ, List.getElem?_cons_zero]
                rw [if_pos (by rfl)]
                refine Flow.wp_behind (fun K hK => ?_)
                refine wp_appK Tryz.underlying38 hi hz0 hz1 hz2 rfl (by decide) _ _ rfl wr.heap.size _ (0 + at_) ([] ++ (xs.map i64).take (at_ * 1)) O3.out _ (1) _ ([i64 d]) rfl (X3.out) h1ONE rfl rfl (by omega) (by decide) c3.size ?_
                intro v4 x4 hown4 b4 hg4
                refine hK.out _ _ ⟨b4, ?_⟩
                clear hK K
                simp only [Act.put, List.setIfInBounds_toArray, List.set_cons_succ, List.set_cons_zero]
                have O4 := Lib.hid hown4; clear hown4
                have c4 := c3.trans b4; clear b4 hg4
                haveI nonE := cls_ne (N := wr.heap.size) x4
                rw [Flow.wpSched_step]
                simp only [Flow.pick]
                refine wpQuiet_nil ?_
                clear nonE
                rw [Flow.callAt_eq]
                simp only [List.getElem?_toArray, List.getElem?_cons_succ, List.getElem?_cons_zero]
                rw [if_pos (by rfl)]
                refine Flow.wp_behind (fun K hK => ?_)
                refine wp_appK Tryz.underlying38 hi hz0 hz1 hz2 rfl (by decide) _ _ rfl wr.heap.size _ (0 + at_ + 1) (([] ++ (xs.map i64).take (at_ * 1)) ++ [i64 d]) O4.out _ ((xs.length - at_)) _ ((xs.map i64).drop (at_ * 1)) hDK.out (RdC.below (RdC.fromA HR.out hXS _ _ hq hnc) c4) hD1.out rfl rfl (by omega) (by decide) c4.size ?_
                intro v5 x5 hown5 b5 hg5
                refine hK.out _ _ ⟨b5, ?_⟩
                clear hK K
                simp only [Act.put, List.setIfInBounds_toArray, List.set_cons_succ, List.set_cons_zero]
                have O5 := Lib.hid hown5; clear hown5
                have c5 := c4.trans b5; clear b5 hg5
                haveI nonE := cls_ne (N := wr.heap.size) x5
                rw [Flow.wpSched_done]
                simp only [Flow.pick, List.getElem?_toArray, List.getElem?_cons_succ, List.getElem?_cons_zero]
                repeat go_big_quiet_step (fail)
                refine wpQuiet_nil ?_
                clear nonE
                have hfin : Hid (x5.ownsRow w.heap.size 3 1 v5 (ins icmp d xs).length ((ins icmp d xs).map i64)) := Lib.hid (by
                  (show x5.ownsRow w.heap.size 3 1 v5 (ins icmp d xs).length ((ins icmp d xs).map i64))
                  have h := own_base O5.out HB2.out.size
                  have e1 : (ins icmp d xs).length = at_ + 1 + (xs.length - at_) := by rw [HINS.out]; simp; omega
                  have e2 : (ins icmp d xs).map i64 = (([] ++ (xs.map i64).take (at_ * 1)) ++ [i64 d]) ++ (xs.map i64).drop (at_ * 1) := by rw [HINS.out]; simp
                  rw [e1, e2]
                  simpa using h)
                have HBX := Lib.hid (HB2.out.trans (c5.mono HB2.out.size))
                go_wp2_with fail
                go_roundg (ms.length - (k + 1))
                case measure => omega
                case rel => exact ⟨k + 1, by omega, by omega, by go_num, by rw [HNX.out]; exact hfin, HBX⟩
            · rw [Flow.callAt_eq]
              simp only [List.getElem?_toArray, List.getElem?_cons_succ, List.getElem?_cons_zero]
              rw [if_pos (by rfl)]
              refine Flow.wp_behind (fun K hK => ?_)
              go_wp2_with fail
              have b1 : Below wr.heap.size wd (wd.alloc (.cells #[i64 d] 3)) := (Below.refl _ _).alloc cD.size _
              refine hK.out _ _ ⟨b1, ?_⟩
              clear hK K
              have X1 := Lib.hid (rdC_new wd ([i64 d]) 3)
              have z1 : wd.heap.size < (wd.alloc (.cells #[i64 d] 3)).heap.size := by simp
              have c1 := cD.trans b1; clear b1
              generalize hw1 : wd.alloc (.cells #[i64 d] 3) = x1 at *
              clear hw1
              haveI nonE := cls_ne (N := wr.heap.size) x1
              rw [Flow.wpSched_step]
              simp only [Flow.pick]
              refine wpQuiet_nil ?_
              clear nonE
              rw [Flow.callAt_eq]
              simp only [List.getElem?_toArray, List.getElem?_cons_zero]
              rw [if_pos (by rfl)]
              refine Flow.wp_behind (fun K hK => ?_)
              go_wp2_with fail
              have b2 : Below wr.heap.size x1 (x1.alloc (.cells #[] 3)) := (Below.refl _ _).alloc c1.size _
              refine hK.out _ _ ⟨b2, ?_⟩
              clear hK K
              have O2 := Lib.hid (own2_empty x1 wr.heap.size 1 3 c1.size)
              have z2 : x1.heap.size < (x1.alloc (.cells #[] 3)).heap.size := by simp
              have X2 := Lib.hid (RdC.below X1.out (below_new x1 (.cells #[] 3)))
              have c2 := c1.trans b2; clear b2
              generalize hw2 : x1.alloc (.cells #[] 3) = x2 at *
              clear hw2
              haveI nonE := cls_ne (N := wr.heap.size) x2
              rw [Flow.wpSched_step]
              simp only [Flow.pick]
              refine wpQuiet_nil ?_
              clear nonE
              rw [Flow.callAt_eq]
              simp only [List.getElem?_toArray, List.getElem?_cons_succ, List.getElem?_cons_zero]
              rw [if_pos (by rfl)]
              refine Flow.wp_behind (fun K hK => ?_)
              refine wp_appK Tryz.underlying38 hi hz0 hz1 hz2 rfl (by decide) _ _ rfl wr.heap.size _ (0) ([]) O2.out _ (at_) _ ((xs.map i64).take (at_ * 1)) hTK.out (RdC.below (RdC.toA HR.out _ _) c2) hT1.out rfl rfl (by omega) (by decide) c2.size ?_
              intro v3 x3 hown3 b3 hg3
              refine hK.out _ _ ⟨b3, ?_⟩
              clear hK K
              simp only [Act.put, List.setIfInBounds_toArray, List.set_cons_succ, List.set_cons_zero]
              have O3 := Lib.hid hown3; clear hown3
              have X3 := Lib.hid (RdC.grown0 X2.out hg3 (by simp [Value.ownBlock]; omega))
              have c3 := c2.trans b3; clear b3 hg3
              haveI nonE := cls_ne (N := wr.heap.size) x3
              rw [Flow.wpSched_step]
              simp only [Flow.pick]
              refine wpQuiet_nil ?_
              clear nonE
              rw [Flow.callAt_eq]
              simp only [List.getElem?_toArray, List.getElem?_cons_succ, List.getElem?_cons_zero]
              rw [if_pos (by rfl)]
              refine Flow.wp_behind (fun K hK => ?_)
              refine wp_appK Tryz.underlying38 hi hz0 hz1 hz2 rfl (by decide) _ _ rfl wr.heap.size _ (0 + at_) ([] ++ (xs.map i64).take (at_ * 1)) O3.out _ (1) _ ([i64 d]) rfl (X3.out) h1ONE rfl rfl (by omega) (by decide) c3.size ?_
              intro v4 x4 hown4 b4 hg4
              refine hK.out _ _ ⟨b4, ?_⟩
              clear hK K
              simp only [Act.put, List.setIfInBounds_toArray, List.set_cons_succ, List.set_cons_zero]
              have O4 := Lib.hid hown4; clear hown4
              have c4 := c3.trans b4; clear b4 hg4
              haveI nonE := cls_ne (N := wr.heap.size) x4
              rw [Flow.wpSched_step]
              simp only [Flow.pick]
              refine wpQuiet_nil ?_
              clear nonE
              rw [Flow.callAt_eq]
              simp only [List.getElem?_toArray, List.getElem?_cons_succ, List.getElem?_cons_zero]
              rw [if_pos (by rfl)]
              refine Flow.wp_behind (fun K hK => ?_)
              refine wp_appK Tryz.underlying38 hi hz0 hz1 hz2 rfl (by decide) _ _ rfl wr.heap.size _ (0 + at_ + 1) (([] ++ (xs.map i64).take (at_ * 1)) ++ [i64 d]) O4.out _ ((xs.length - at_)) _ ((xs.map i64).drop (at_ * 1)) hDK.out (RdC.below (RdC.fromA HR.out hXS _ _ hq hnc) c4) hD1.out rfl rfl (by omega) (by decide) c4.size ?_
              intro v5 x5 hown5 b5 hg5
              refine hK.out _ _ ⟨b5, ?_⟩
              clear hK K
              simp only [Act.put, List.setIfInBounds_toArray, List.set_cons_succ, List.set_cons_zero]
              have O5 := Lib.hid hown5; clear hown5
              have c5 := c4.trans b5; clear b5 hg5
              haveI nonE := cls_ne (N := wr.heap.size) x5
              rw [Flow.wpSched_done]
              simp only [Flow.pick, List.getElem?_toArray, List.getElem?_cons_succ, List.getElem?_cons_zero]
              repeat go_big_quiet_step (fail)
              refine wpQuiet_nil ?_
              clear nonE
              have hfin : Hid (x5.ownsRow w.heap.size 3 1 v5 (ins icmp d xs).length ((ins icmp d xs).map i64)) := Lib.hid (by
                (show x5.ownsRow w.heap.size 3 1 v5 (ins icmp d xs).length ((ins icmp d xs).map i64))
                have h := own_base O5.out HB2.out.size
                have e1 : (ins icmp d xs).length = at_ + 1 + (xs.length - at_) := by rw [HINS.out]; simp; omega
                have e2 : (ins icmp d xs).map i64 = (([] ++ (xs.map i64).take (at_ * 1)) ++ [i64 d]) ++ (xs.map i64).drop (at_ * 1) := by rw [HINS.out]; simp
                rw [e1, e2]
                simpa using h)
              have HBX := Lib.hid (HB2.out.trans (c5.mono HB2.out.size))
              go_wp2_with fail
              go_roundg (ms.length - (k + 1))
              case measure => omega
              case rel => exact ⟨k + 1, by omega, by omega, by go_num, by rw [HNX.out]; exact hfin, HBX⟩
    · obtain rfl : k = ms.length := by omega
      rw [List.take_length] at HO
      go_wp2_with fail
      go_ret
      exact ⟨_, rfl, HO.out, HB.out⟩
end Go.Proofs.YthgefcoaaommkaaGreatDoor

namespace Go.Proofs.YthgefcoaaommkaaGreatDoor
open Go.RowKit Go.Gn Go.Sr Go.Maps

theorem str_info9 : ∃ i, Tryz.prog.info? 9 = some i ∧ i.zero = some (.string ByteArray.empty) ∧ i.size = 1 ∧ i.bytes = 16 := by
  have h : ((Tryz.prog.info? 9).map fun i => (i.zero, i.size, i.bytes)) = some (some (.string ByteArray.empty), 1, 16) := by kernel_rfl
  cases hi : Tryz.prog.info? 9 with
  | none => rw [hi] at h; cases h
  | some i =>
    rw [hi] at h
    simp only [Option.map_some, Option.some.injEq, Prod.mk.injEq] at h
    exact ⟨i, rfl, h.1, h.2.1, h.2.2⟩
theorem one_map_enS (l : List (List UInt8)) : ∀ u ∈ l.map enS, u.oneCell' = true := fun u hu => by
  obtain ⟨x, _, rfl⟩ := List.mem_map.1 hu
  rfl
set_option maxRecDepth 100000 in
set_option maxHeartbeats 8000000 in
theorem mIns_any (base : Nat) (A : Option Addr) (c : Nat) (xs : List (List UInt8)) (s : List UInt8) (w : World) (hown : w.ownsRow base 9 1 (.slice A xs.length c) xs.length (xs.map enS)) (hbase : base ≤ w.heap.size) (hinc : Inc scmp xs) (hlen : xs.length ≤ 100000) :
    Calls Tryz.prog 42 #[.slice A xs.length c, enS s] w fun e w' => ∃ v, e = .returned v ∧ w'.ownsRow base 9 1 v (ins scmp s xs).length ((ins scmp s xs).map enS) ∧ Below w.heap.size w w' := by
  have HO := Lib.hid hown
  have HR := Lib.hid (RdC.of_own hown)
  have hc2 := own2_le hown
  have hcm := own2_cap hown
  unfold maxLen at hcm
  obtain ⟨i0, hi, hz0, hz1, hz2⟩ := str_info9
  obtain ⟨at_, hat⟩ : ∃ q, insAt scmp s xs = q := ⟨_, rfl⟩
  have hatl : at_ ≤ xs.length := by rw [← hat]; exact insAt_le scmp s xs
  have HAT := Lib.hid (fun (j : Nat) (x : List UInt8) (hx : xs[j]? = some x) => (show scmp x s < 0 ↔ j < at_ by rw [← hat]; exact lt_insAt scmp_lin s hinc hx))
  have HINS0 := Lib.hid (show ins scmp s xs = if xs[at_]? = some s then xs else xs.take at_ ++ s :: xs.drop at_ by rw [← hat]; exact ins_at scmp s xs)
  clear hat hown hinc
  go_enter Tryz.func42, Tryz.ntmps42
  go_wp2_with fail
  go_loopg [5] xs.length (fun gg iv wr => ∃ j : Nat, j ≤ at_ ∧ xs.length - j ≤ gg ∧ iv = i64 j ∧ wr = w)
  case atStart => exact ⟨0, by omega, by omega, rfl, rfl⟩
  case round =>
    obtain ⟨j, hj, hgj, rfl, rfl⟩ := hrel
    by_cases hlt : j < at_
    · have hjl : j < xs.length := by omega
      obtain ⟨x, hx⟩ : ∃ x, xs[j]? = some x := ⟨_, List.getElem?_eq_getElem hjl⟩
      obtain ⟨b3, o3, rfl, hcx⟩ := RdC.cell HR.out (j := j) (v := enS x) (by rw [List.getElem?_map, hx]; rfl)
      have hlt2 : Op.bytesLess x s = true := by rw [bytesLess_eq]; exact decide_eq_true ((scmp_lt x s).1 ((HAT.out j x hx).2 hlt))
      clear hx
      go_wp2_with fail
      go_roundg (xs.length - (j + 1))
      case measure => omega
      case rel => exact ⟨j + 1, by omega, by omega, by go_num, rfl⟩
    · have hja : j = at_ := by omega
      subst hja
      by_cases hjl : j < xs.length
      · obtain ⟨x, hx⟩ : ∃ x, xs[j]? = some x := ⟨_, List.getElem?_eq_getElem hjl⟩
        obtain ⟨b3, o3, rfl, hcx⟩ := RdC.cell HR.out (j := j) (v := enS x) (by rw [List.getElem?_map, hx]; rfl)
        have hlt2 : Op.bytesLess x s = false := by rw [bytesLess_eq]; exact decide_eq_false fun h => by have := (HAT.out j x hx).1 ((scmp_lt x s).2 h); omega
        by_cases hxs : x = s
        · have hne : (x == s) = true := by simpa using hxs
          have HINS : Hid (ins scmp s xs = xs) := Lib.hid (by (show ins scmp s xs = xs); rw [HINS0.out, if_pos (by rw [hx, hxs])])
          clear hx hxs
          go_wp2_with fail
          go_ret
          exact ⟨_, rfl, by rw [HINS.out]; exact HO.out, Below.refl _ _⟩
        · have hne : (x == s) = false := by simpa using hxs
          have HINS : Hid (ins scmp s xs = xs.take j ++ s :: xs.drop j) := Lib.hid (by (show ins scmp s xs = xs.take j ++ s :: xs.drop j); rw [HINS0.out, if_neg (by rw [hx]; simpa using hxs)])
          clear hx hxs
          have hXS : (xs.map enS).length = xs.length * 1 := by simp
          have h1XS := one_map_enS xs
          have h1ONE : ∀ u ∈ [enS s], u.oneCell' = true := fun u hu => by rw [List.mem_singleton.1 hu]; rfl
          have hq := hatl
          have hnc := hc2
          go_wp2_with fail
          have hTK := Lib.hid (show ((xs.map enS).take (j * 1)).length = j * 1 by rw [List.length_take, hXS, Nat.min_eq_left (Nat.mul_le_mul_right _ hq)])
          have hDK := Lib.hid (show ((xs.map enS).drop (j * 1)).length = (xs.length - j) * 1 by rw [List.length_drop, hXS, Nat.sub_mul])
          have hT1 := Lib.hid (show ∀ u ∈ (xs.map enS).take (j * 1), u.oneCell' = true from fun u hu => h1XS u (List.mem_of_mem_take hu))
          have hD1 := Lib.hid (show ∀ u ∈ (xs.map enS).drop (j * 1), u.oneCell' = true from fun u hu => h1XS u (List.mem_of_mem_drop hu))
          refine Flow.wp_region_sched (fun u v => Below wr.heap.size u v) (fun _ => Below.refl _ _) (fun _ _ _ h k => h.trans k) (.fork [1, 2, 3, 5, 8, 9, 10] 0 6 (.fork [] 4 6 (.step [] 6 (.step [] 7 (.step [] 11 (.done [12])))) (.step [] 4 (.step [] 7 (.step [] 11 (.done [12]))))) (.step [] 0 (.step [] 4 (.step [] 7 (.step [] 11 (.done [12])))))) (by kernel_rfl) (by kernel_rfl) ?_
          have cD : Below wr.heap.size wr (World.drew wr) := Below.drew (Below.refl _ _)
          generalize hwd : World.drew _ = wd at *
          clear hwd
          haveI nonE := cls_ne (N := wr.heap.size) wd
          rw [Flow.wpSched_fork]
          simp only [Flow.pick, List.getElem?_toArray, List.getElem?_cons_succ, List.getElem?_cons_zero]
          repeat (first | (refine BigFrame.wpQuiet_want rfl (fun K hK => quiet_sliceTo Tryz.underlying40 hi _ _ rfl (some ⟨b3, o3, none⟩) xs.length c j rfl rfl (by omega) (hK _ ?_)); clear hK K; simp only [Act.put, List.setIfInBounds_toArray, List.set_cons_succ, List.set_cons_zero]) | (refine BigFrame.wpQuiet_want rfl (fun K hK => quiet_sliceFrom Tryz.underlying40 hi hz1 _ _ rfl (some ⟨b3, o3, none⟩) xs.length c j rfl rfl hq (hK _ ?_)); clear hK K; simp only [Act.put, List.setIfInBounds_toArray, List.set_cons_succ, List.set_cons_zero]) | go_big_quiet_step (fail))
          refine wpQuiet_nil ?_
          clear nonE
          refine ⟨?_, ?_⟩
          · rw [Flow.callAt_eq]
            simp only [List.getElem?_toArray, List.getElem?_cons_zero]
            rw [if_pos (by rfl)]
            refine Flow.wp_behind (fun K hK => ?_)
            go_wp2_with fail
            have b1 : Below wr.heap.size wd (wd.alloc (.cells #[] 9)) := (Below.refl _ _).alloc cD.size _
            refine hK.out _ _ ⟨b1, ?_⟩
            clear hK K
            have O1 := Lib.hid (own2_empty wd wr.heap.size 1 9 cD.size)
            have z1 : wd.heap.size < (wd.alloc (.cells #[] 9)).heap.size := by simp
            have c1 := cD.trans b1; clear b1
            generalize hw1 : wd.alloc (.cells #[] 9) = x1 at *
            clear hw1
            haveI nonE := cls_ne (N := wr.heap.size) x1
            rw [Flow.wpSched_fork]
            simp only [Flow.pick]
            refine wpQuiet_nil ?_
            clear nonE
            refine ⟨?_, ?_⟩
            · rw [Flow.callAt_eq]
              simp only [List.getElem?_toArray, List.getElem?_cons_succ, List.getElem?_cons_zero]
              rw [if_pos (by rfl)]
              refine Flow.wp_behind (fun K hK => ?_)
              refine wp_appK Tryz.underlying40 hi hz0 hz1 hz2 rfl (by decide) _ _ rfl wr.heap.size _ (0) ([]) O1.out _ (j) _ ((xs.map enS).take (j * 1)) hTK.out (RdC.below (RdC.toA HR.out _ _) c1) hT1.out rfl rfl (by omega) (by decide) c1.size ?_
              intro v2 x2 hown2 b2 hg2
              refine hK.out _ _ ⟨b2, ?_⟩
              clear hK K
              simp only [Act.put, List.setIfInBounds_toArray, List.set_cons_succ, List.set_cons_zero]
              have O2 := Lib.hid hown2; clear hown2
              have c2 := c1.trans b2; clear b2 hg2
              haveI nonE := cls_ne (N := wr.heap.size) x2
              rw [Flow.wpSched_step]
              simp only [Flow.pick]
              refine wpQuiet_nil ?_
              clear nonE
              rw [Flow.callAt_eq]
              simp only [List.getElem?_toArray, List.getElem?_cons_succ, List.getElem?_cons_zero]
              rw [if_pos (by rfl)]
              refine Flow.wp_behind (fun K hK => ?_)
              go_wp2_with fail
              have b3 : Below wr.heap.size x2 (x2.alloc (.cells #[enS s] 9)) := (Below.refl _ _).alloc c2.size _
              refine hK.out _ _ ⟨b3, ?_⟩
              clear hK K
              have X3 := Lib.hid (rdC_new x2 ([enS s]) 9)
              have z3 : x2.heap.size < (x2.alloc (.cells #[enS s] 9)).heap.size := by simp
              have O3 := Lib.hid (own_below O2.out (below_new x2 (.cells #[enS s] 9)))
              have c3 := c2.trans b3; clear b3
              generalize hw3 : x2.alloc (.cells #[enS s] 9) = x3 at *
              clear hw3
              haveI nonE := cls_ne (N := wr.heap.size) x3
              rw [Flow.wpSched_step]
              simp only [Flow.pick]
              refine wpQuiet_nil ?_
              clear nonE
              rw [Flow.callAt_eq]
              simp only [List.getElem?_toArray, List.getElem?_cons_succ, List.getElem?_cons_zero]
              rw [if_pos (by rfl)]
              refine Flow.wp_behind (fun K hK => ?_)
              refine wp_appK Tryz.underlying40 hi hz0 hz1 hz2 rfl (by decide) _ _ rfl wr.heap.size _ (0 + j) ([] ++ (xs.map enS).take (j * 1)) O3.out _ (1) _ ([enS s]) rfl (X3.out) h1ONE rfl rfl (by omega) (by decide) c3.size ?_
              intro v4 x4 hown4 b4 hg4
              refine hK.out _ _ ⟨b4, ?_⟩
              clear hK K
              simp only [Act.put, List.setIfInBounds_toArray, List.set_cons_succ, List.set_cons_zero]
              have O4 := Lib.hid hown4; clear hown4
              have c4 := c3.trans b4; clear b4 hg4
              haveI nonE := cls_ne (N := wr.heap.size) x4
              rw [Flow.wpSched_step]
              simp only [Flow.pick]
              refine wpQuiet_nil ?_
              clear nonE
              rw [Flow.callAt_eq]
              simp only [List.getElem?_toArray, List.getElem?_cons_succ, List.getElem?_cons_zero]
              rw [if_pos (by rfl)]
              refine Flow.wp_behind (fun K hK => ?_)
              refine wp_appK Tryz.underlying40 hi hz0 hz1 hz2 rfl (by decide) _ _ rfl wr.heap.size _ (0 + j + 1) (([] ++ (xs.map enS).take (j * 1)) ++ [enS s]) O4.out _ ((xs.length - j)) _ ((xs.map enS).drop (j * 1)) hDK.out (RdC.below (RdC.fromA HR.out hXS _ _ hq hnc) c4) hD1.out rfl rfl (by omega) (by decide) c4.size ?_
              intro v5 x5 hown5 b5 hg5
              refine hK.out _ _ ⟨b5, ?_⟩
              clear hK K
              simp only [Act.put, List.setIfInBounds_toArray, List.set_cons_succ, List.set_cons_zero]
              have O5 := Lib.hid hown5; clear hown5
              have c5 := c4.trans b5; clear b5 hg5
              haveI nonE := cls_ne (N := wr.heap.size) x5
              rw [Flow.wpSched_done]
              simp only [Flow.pick, List.getElem?_toArray, List.getElem?_cons_succ, List.getElem?_cons_zero]
              repeat go_big_quiet_step (fail)
              refine wpQuiet_nil ?_
              clear nonE
              have hfin : Hid (x5.ownsRow base 9 1 v5 (ins scmp s xs).length ((ins scmp s xs).map enS)) := Lib.hid (by
                (show x5.ownsRow base 9 1 v5 (ins scmp s xs).length ((ins scmp s xs).map enS))
                have h := own_base O5.out hbase
                have e1 : (ins scmp s xs).length = j + 1 + (xs.length - j) := by rw [HINS.out]; simp; omega
                have e2 : (ins scmp s xs).map enS = (([] ++ (xs.map enS).take (j * 1)) ++ [enS s]) ++ (xs.map enS).drop (j * 1) := by rw [HINS.out]; simp
                rw [e1, e2]
                simpa using h)
              have HBX := Lib.hid c5
              go_wp2_with fail
              go_ret
              exact ⟨_, rfl, hfin.out, HBX.out⟩
            · rw [Flow.callAt_eq]
              simp only [List.getElem?_toArray, List.getElem?_cons_succ, List.getElem?_cons_zero]
              rw [if_pos (by rfl)]
              refine Flow.wp_behind (fun K hK => ?_)
              go_wp2_with fail
              have b2 : Below wr.heap.size x1 (x1.alloc (.cells #[enS s] 9)) := (Below.refl _ _).alloc c1.size _
              refine hK.out _ _ ⟨b2, ?_⟩
              clear hK K
              have X2 := Lib.hid (rdC_new x1 ([enS s]) 9)
              have z2 : x1.heap.size < (x1.alloc (.cells #[enS s] 9)).heap.size := by simp
              have O2 := Lib.hid (own_below O1.out (below_new x1 (.cells #[enS s] 9)))
              have c2 := c1.trans b2; clear b2
              generalize hw2 : x1.alloc (.cells #[enS s] 9) = x2 at *
              clear hw2
              haveI nonE := cls_ne (N := wr.heap.size) x2
              rw [Flow.wpSched_step]
              simp only [Flow.pick]
              refine wpQuiet_nil ?_
              clear nonE
              rw [Flow.callAt_eq]
              simp only [List.getElem?_toArray, List.getElem?_cons_succ, List.getElem?_cons_zero]
              rw [if_pos (by rfl)]
              refine Flow.wp_behind (fun K hK => ?_)
              refine wp_appK Tryz.underlying40 hi hz0 hz1 hz2 rfl (by decide) _ _ rfl wr.heap.size _ (0) ([]) O2.out _ (j) _ ((xs.map enS).take (j * 1)) hTK.out (RdC.below (RdC.toA HR.out _ _) c2) hT1.out rfl rfl (by omega) (by decide) c2.size ?_
              intro v3 x3 hown3 b3 hg3
              refine hK.out _ _ ⟨b3, ?_⟩
              clear hK K
              simp only [Act.put, List.setIfInBounds_toArray, List.set_cons_succ, List.set_cons_zero]
              have O3 := Lib.hid hown3; clear hown3
              have X3 := Lib.hid (RdC.grown0 X2.out hg3 (by simp [Value.ownBlock]; omega))
              have c3 := c2.trans b3; clear b3 hg3
              haveI nonE := cls_ne (N := wr.heap.size) x3
              rw [Flow.wpSched_step]
              simp only [Flow.pick]
              refine wpQuiet_nil ?_
              clear nonE
              rw [Flow.callAt_eq]
              simp only [List.getElem?_toArray, List.getElem?_cons_succ, List.getElem?_cons_zero]
              rw [if_pos (by rfl)]
              refine Flow.wp_behind (fun K hK => ?_)
              refine wp_appK Tryz.underlying40 hi hz0 hz1 hz2 rfl (by decide) _ _ rfl wr.heap.size _ (0 + j) ([] ++ (xs.map enS).take (j * 1)) O3.out _ (1) _ ([enS s]) rfl (X3.out) h1ONE rfl rfl (by omega) (by decide) c3.size ?_
              intro v4 x4 hown4 b4 hg4
              refine hK.out _ _ ⟨b4, ?_⟩
              clear hK K
              simp only [Act.put, List.setIfInBounds_toArray, List.set_cons_succ, List.set_cons_zero]
              have O4 := Lib.hid hown4; clear hown4
              have c4 := c3.trans b4; clear b4 hg4
              haveI nonE := cls_ne (N := wr.heap.size) x4
              rw [Flow.wpSched_step]
              simp only [Flow.pick]
              refine wpQuiet_nil ?_
              clear nonE
              rw [Flow.callAt_eq]
              simp only [List.getElem?_toArray, List.getElem?_cons_succ, List.getElem?_cons_zero]
              rw [if_pos (by rfl)]
              refine Flow.wp_behind (fun K hK => ?_)
              refine wp_appK Tryz.underlying40 hi hz0 hz1 hz2 rfl (by decide) _ _ rfl wr.heap.size _ (0 + j + 1) (([] ++ (xs.map enS).take (j * 1)) ++ [enS s]) O4.out _ ((xs.length - j)) _ ((xs.map enS).drop (j * 1)) hDK.out (RdC.below (RdC.fromA HR.out hXS _ _ hq hnc) c4) hD1.out rfl rfl (by omega) (by decide) c4.size ?_
              intro v5 x5 hown5 b5 hg5
              refine hK.out _ _ ⟨b5, ?_⟩
              clear hK K
              simp only [Act.put, List.setIfInBounds_toArray, List.set_cons_succ, List.set_cons_zero]
              have O5 := Lib.hid hown5; clear hown5
              have c5 := c4.trans b5; clear b5 hg5
              haveI nonE := cls_ne (N := wr.heap.size) x5
              rw [Flow.wpSched_done]
              simp only [Flow.pick, List.getElem?_toArray, List.getElem?_cons_succ, List.getElem?_cons_zero]
              repeat go_big_quiet_step (fail)
              refine wpQuiet_nil ?_
              clear nonE
              have hfin : Hid (x5.ownsRow base 9 1 v5 (ins scmp s xs).length ((ins scmp s xs).map enS)) := Lib.hid (by
                (show x5.ownsRow base 9 1 v5 (ins scmp s xs).length ((ins scmp s xs).map enS))
                have h := own_base O5.out hbase
                have e1 : (ins scmp s xs).length = j + 1 + (xs.length - j) := by rw [HINS.out]; simp; omega
                have e2 : (ins scmp s xs).map enS = (([] ++ (xs.map enS).take (j * 1)) ++ [enS s]) ++ (xs.map enS).drop (j * 1) := by rw [HINS.out]; simp
                rw [e1, e2]
                simpa using h)
              have HBX := Lib.hid c5
              go_wp2_with fail
              go_ret
              exact ⟨_, rfl, hfin.out, HBX.out⟩
          · rw [Flow.callAt_eq]
            simp only [List.getElem?_toArray, List.getElem?_cons_succ, List.getElem?_cons_zero]
            rw [if_pos (by rfl)]
            refine Flow.wp_behind (fun K hK => ?_)
            go_wp2_with fail
            have b1 : Below wr.heap.size wd (wd.alloc (.cells #[enS s] 9)) := (Below.refl _ _).alloc cD.size _
            refine hK.out _ _ ⟨b1, ?_⟩
            clear hK K
            have X1 := Lib.hid (rdC_new wd ([enS s]) 9)
            have z1 : wd.heap.size < (wd.alloc (.cells #[enS s] 9)).heap.size := by simp
            have c1 := cD.trans b1; clear b1
            generalize hw1 : wd.alloc (.cells #[enS s] 9) = x1 at *
            clear hw1
            haveI nonE := cls_ne (N := wr.heap.size) x1
            rw [Flow.wpSched_step]
            simp only [Flow.pick]
            refine wpQuiet_nil ?_
            clear nonE
            rw [Flow.callAt_eq]
            simp only [List.getElem?_toArray, List.getElem?_cons_zero]
            rw [if_pos (by rfl)]
            refine Flow.wp_behind (fun K hK => ?_)
            go_wp2_with fail
            have b2 : Below wr.heap.size x1 (x1.alloc (.cells #[] 9)) := (Below.refl _ _).alloc c1.size _
            refine hK.out _ _ ⟨b2, ?_⟩
            clear hK K
            have O2 := Lib.hid (own2_empty x1 wr.heap.size 1 9 c1.size)
            have z2 : x1.heap.size < (x1.alloc (.cells #[] 9)).heap.size := by simp
            have X2 := Lib.hid (RdC.below X1.out (below_new x1 (.cells #[] 9)))
            have c2 := c1.trans b2; clear b2
            generalize hw2 : x1.alloc (.cells #[] 9) = x2 at *
            clear hw2
            haveI nonE := cls_ne (N := wr.heap.size) x2
            rw [Flow.wpSched_step]
            simp only [Flow.pick]
            refine wpQuiet_nil ?_
            clear nonE
            rw [Flow.callAt_eq]
            simp only [List.getElem?_toArray, List.getElem?_cons_succ, List.getElem?_cons_zero]
            rw [if_pos (by rfl)]
            refine Flow.wp_behind (fun K hK => ?_)
            refine wp_appK Tryz.underlying40 hi hz0 hz1 hz2 rfl (by decide) _ _ rfl wr.heap.size _ (0) ([]) O2.out _ (j) _ ((xs.map enS).take (j * 1)) hTK.out (RdC.below (RdC.toA HR.out _ _) c2) hT1.out rfl rfl (by omega) (by decide) c2.size ?_
            intro v3 x3 hown3 b3 hg3
            refine hK.out _ _ ⟨b3, ?_⟩
            clear hK K
            simp only [Act.put, List.setIfInBounds_toArray, List.set_cons_succ, List.set_cons_zero]
            have O3 := Lib.hid hown3; clear hown3
            have X3 := Lib.hid (RdC.grown0 X2.out hg3 (by simp [Value.ownBlock]; omega))
            have c3 := c2.trans b3; clear b3 hg3
            haveI nonE := cls_ne (N := wr.heap.size) x3
            rw [Flow.wpSched_step]
            simp only [Flow.pick]
            refine wpQuiet_nil ?_
            clear nonE
            rw [Flow.callAt_eq]
            simp only [List.getElem?_toArray, List.getElem?_cons_succ, List.getElem?_cons_zero]
            rw [if_pos (by rfl)]
            refine Flow.wp_behind (fun K hK => ?_)
            refine wp_appK Tryz.underlying40 hi hz0 hz1 hz2 rfl (by decide) _ _ rfl wr.heap.size _ (0 + j) ([] ++ (xs.map enS).take (j * 1)) O3.out _ (1) _ ([enS s]) rfl (X3.out) h1ONE rfl rfl (by omega) (by decide) c3.size ?_
            intro v4 x4 hown4 b4 hg4
            refine hK.out _ _ ⟨b4, ?_⟩
            clear hK K
            simp only [Act.put, List.setIfInBounds_toArray, List.set_cons_succ, List.set_cons_zero]
            have O4 := Lib.hid hown4; clear hown4
            have c4 := c3.trans b4; clear b4 hg4
            haveI nonE := cls_ne (N := wr.heap.size) x4
            rw [Flow.wpSched_step]
            simp only [Flow.pick]
            refine wpQuiet_nil ?_
            clear nonE
            rw [Flow.callAt_eq]
            simp only [List.getElem?_toArray, List.getElem?_cons_succ, List.getElem?_cons_zero]
            rw [if_pos (by rfl)]
            refine Flow.wp_behind (fun K hK => ?_)
            refine wp_appK Tryz.underlying40 hi hz0 hz1 hz2 rfl (by decide) _ _ rfl wr.heap.size _ (0 + j + 1) (([] ++ (xs.map enS).take (j * 1)) ++ [enS s]) O4.out _ ((xs.length - j)) _ ((xs.map enS).drop (j * 1)) hDK.out (RdC.below (RdC.fromA HR.out hXS _ _ hq hnc) c4) hD1.out rfl rfl (by omega) (by decide) c4.size ?_
            intro v5 x5 hown5 b5 hg5
            refine hK.out _ _ ⟨b5, ?_⟩
            clear hK K
            simp only [Act.put, List.setIfInBounds_toArray, List.set_cons_succ, List.set_cons_zero]
            have O5 := Lib.hid hown5; clear hown5
            have c5 := c4.trans b5; clear b5 hg5
            haveI nonE := cls_ne (N := wr.heap.size) x5
            rw [Flow.wpSched_done]
            simp only [Flow.pick, List.getElem?_toArray, List.getElem?_cons_succ, List.getElem?_cons_zero]
            repeat go_big_quiet_step (fail)
            refine wpQuiet_nil ?_
            clear nonE
            have hfin : Hid (x5.ownsRow base 9 1 v5 (ins scmp s xs).length ((ins scmp s xs).map enS)) := Lib.hid (by
              (show x5.ownsRow base 9 1 v5 (ins scmp s xs).length ((ins scmp s xs).map enS))
              have h := own_base O5.out hbase
              have e1 : (ins scmp s xs).length = j + 1 + (xs.length - j) := by rw [HINS.out]; simp; omega
              have e2 : (ins scmp s xs).map enS = (([] ++ (xs.map enS).take (j * 1)) ++ [enS s]) ++ (xs.map enS).drop (j * 1) := by rw [HINS.out]; simp
              rw [e1, e2]
              simpa using h)
            have HBX := Lib.hid c5
            go_wp2_with fail
            go_ret
            exact ⟨_, rfl, hfin.out, HBX.out⟩
      · have HINS : Hid (ins scmp s xs = xs.take j ++ s :: xs.drop j) := Lib.hid (by (show ins scmp s xs = xs.take j ++ s :: xs.drop j); rw [HINS0.out, if_neg (by rw [List.getElem?_eq_none (by omega)]; simp)])
        have hXS : (xs.map enS).length = xs.length * 1 := by simp
        have h1XS := one_map_enS xs
        have h1ONE : ∀ u ∈ [enS s], u.oneCell' = true := fun u hu => by rw [List.mem_singleton.1 hu]; rfl
        have hq := hatl
        have hnc := hc2
        go_wp2_with fail
        have hTK := Lib.hid (show ((xs.map enS).take (j * 1)).length = j * 1 by rw [List.length_take, hXS, Nat.min_eq_left (Nat.mul_le_mul_right _ hq)])
        have hDK := Lib.hid (show ((xs.map enS).drop (j * 1)).length = (xs.length - j) * 1 by rw [List.length_drop, hXS, Nat.sub_mul])
        have hT1 := Lib.hid (show ∀ u ∈ (xs.map enS).take (j * 1), u.oneCell' = true from fun u hu => h1XS u (List.mem_of_mem_take hu))
        have hD1 := Lib.hid (show ∀ u ∈ (xs.map enS).drop (j * 1), u.oneCell' = true from fun u hu => h1XS u (List.mem_of_mem_drop hu))
        refine Flow.wp_region_sched (fun u v => Below wr.heap.size u v) (fun _ => Below.refl _ _) (fun _ _ _ h k => h.trans k) (.fork [1, 2, 3, 5, 8, 9, 10] 0 6 (.fork [] 4 6 (.step [] 6 (.step [] 7 (.step [] 11 (.done [12])))) (.step [] 4 (.step [] 7 (.step [] 11 (.done [12]))))) (.step [] 0 (.step [] 4 (.step [] 7 (.step [] 11 (.done [12])))))) (by kernel_rfl) (by kernel_rfl) ?_
        have cD : Below wr.heap.size wr (World.drew wr) := Below.drew (Below.refl _ _)
        generalize hwd : World.drew _ = wd at *
        clear hwd
        haveI nonE := cls_ne (N := wr.heap.size) wd
        rw [Flow.wpSched_fork]
        simp only [Flow.pick, List.getElem?_toArray, List.getElem?_cons_succ, List.getElem?_cons_zero]
        repeat (first | (refine BigFrame.wpQuiet_want rfl (fun K hK => quiet_sliceTo Tryz.underlying40 hi _ _ rfl A xs.length c j rfl rfl (by omega) (hK _ ?_)); clear hK K; simp only [Act.put, List.setIfInBounds_toArray, List.set_cons_succ, List.set_cons_zero]) | (refine BigFrame.wpQuiet_want rfl (fun K hK => quiet_sliceFrom Tryz.underlying40 hi hz1 _ _ rfl A xs.length c j rfl rfl hq (hK _ ?_)); clear hK K; simp only [Act.put, List.setIfInBounds_toArray, List.set_cons_succ, List.set_cons_zero]) | go_big_quiet_step (fail))
        refine wpQuiet_nil ?_
        clear nonE
        refine ⟨?_, ?_⟩
        · rw [Flow.callAt_eq]
          simp only [List.getElem?_toArray, List.getElem?_cons_zero]
          rw [if_pos (by rfl)]
          refine Flow.wp_behind (fun K hK => ?_)
          go_wp2_with fail
          have b1 : Below wr.heap.size wd (wd.alloc (.cells #[] 9)) := (Below.refl _ _).alloc cD.size _
          refine hK.out _ _ ⟨b1, ?_⟩
          clear hK K
          have O1 := Lib.hid (own2_empty wd wr.heap.size 1 9 cD.size)
          have z1 : wd.heap.size < (wd.alloc (.cells #[] 9)).heap.size := by simp
          have c1 := cD.trans b1; clear b1
          generalize hw1 : wd.alloc (.cells #[] 9) = x1 at *
          clear hw1
          haveI nonE := cls_ne (N := wr.heap.size) x1
          rw [Flow.wpSched_fork]
          simp only [Flow.pick]
          refine wpQuiet_nil ?_
          clear nonE
          refine ⟨?_, ?_⟩
          · rw [Flow.callAt_eq]
            simp only [List.getElem?_toArray, List.getElem?_cons_succ, List.getElem?_cons_zero]
            rw [if_pos (by rfl)]
            refine Flow.wp_behind (fun K hK => ?_)
            refine wp_appK Tryz.underlying40 hi hz0 hz1 hz2 rfl (by decide) _ _ rfl wr.heap.size _ (0) ([]) O1.out _ (j) _ ((xs.map enS).take (j * 1)) hTK.out (RdC.below (RdC.toA HR.out _ _) c1) hT1.out rfl rfl (by omega) (by decide) c1.size ?_
            intro v2 x2 hown2 b2 hg2
            refine hK.out _ _ ⟨b2, ?_⟩
            clear hK K
            simp only [Act.put, List.setIfInBounds_toArray, List.set_cons_succ, List.set_cons_zero]
            have O2 := Lib.hid hown2; clear hown2
            have c2 := c1.trans b2; clear b2 hg2
            haveI nonE := cls_ne (N := wr.heap.size) x2
            rw [Flow.wpSched_step]
            simp only [Flow.pick]
            refine wpQuiet_nil ?_
            clear nonE
            rw [Flow.callAt_eq]
            simp only [List.getElem?_toArray, List.getElem?_cons_succ, List.getElem?_cons_zero]
            rw [if_pos (by rfl)]
            refine Flow.wp_behind (fun K hK => ?_)
            go_wp2_with fail
            have b3 : Below wr.heap.size x2 (x2.alloc (.cells #[enS s] 9)) := (Below.refl _ _).alloc c2.size _
            refine hK.out _ _ ⟨b3, ?_⟩
            clear hK K
            have X3 := Lib.hid (rdC_new x2 ([enS s]) 9)
            have z3 : x2.heap.size < (x2.alloc (.cells #[enS s] 9)).heap.size := by simp
            have O3 := Lib.hid (own_below O2.out (below_new x2 (.cells #[enS s] 9)))
            have c3 := c2.trans b3; clear b3
            generalize hw3 : x2.alloc (.cells #[enS s] 9) = x3 at *
            clear hw3
            haveI nonE := cls_ne (N := wr.heap.size) x3
            rw [Flow.wpSched_step]
            simp only [Flow.pick]
            refine wpQuiet_nil ?_
            clear nonE
            rw [Flow.callAt_eq]
            simp only [List.getElem?_toArray, List.getElem?_cons_succ, List.getElem?_cons_zero]
            rw [if_pos (by rfl)]
            refine Flow.wp_behind (fun K hK => ?_)
            refine wp_appK Tryz.underlying40 hi hz0 hz1 hz2 rfl (by decide) _ _ rfl wr.heap.size _ (0 + j) ([] ++ (xs.map enS).take (j * 1)) O3.out _ (1) _ ([enS s]) rfl (X3.out) h1ONE rfl rfl (by omega) (by decide) c3.size ?_
            intro v4 x4 hown4 b4 hg4
            refine hK.out _ _ ⟨b4, ?_⟩
            clear hK K
            simp only [Act.put, List.setIfInBounds_toArray, List.set_cons_succ, List.set_cons_zero]
            have O4 := Lib.hid hown4; clear hown4
            have c4 := c3.trans b4; clear b4 hg4
            haveI nonE := cls_ne (N := wr.heap.size) x4
            rw [Flow.wpSched_step]
            simp only [Flow.pick]
            refine wpQuiet_nil ?_
            clear nonE
            rw [Flow.callAt_eq]
            simp only [List.getElem?_toArray, List.getElem?_cons_succ, List.getElem?_cons_zero]
            rw [if_pos (by rfl)]
            refine Flow.wp_behind (fun K hK => ?_)
            refine wp_appK Tryz.underlying40 hi hz0 hz1 hz2 rfl (by decide) _ _ rfl wr.heap.size _ (0 + j + 1) (([] ++ (xs.map enS).take (j * 1)) ++ [enS s]) O4.out _ ((xs.length - j)) _ ((xs.map enS).drop (j * 1)) hDK.out (RdC.below (RdC.fromA HR.out hXS _ _ hq hnc) c4) hD1.out rfl rfl (by omega) (by decide) c4.size ?_
            intro v5 x5 hown5 b5 hg5
            refine hK.out _ _ ⟨b5, ?_⟩
            clear hK K
            simp only [Act.put, List.setIfInBounds_toArray, List.set_cons_succ, List.set_cons_zero]
            have O5 := Lib.hid hown5; clear hown5
            have c5 := c4.trans b5; clear b5 hg5
            haveI nonE := cls_ne (N := wr.heap.size) x5
            rw [Flow.wpSched_done]
            simp only [Flow.pick, List.getElem?_toArray, List.getElem?_cons_succ, List.getElem?_cons_zero]
            repeat go_big_quiet_step (fail)
            refine wpQuiet_nil ?_
            clear nonE
            have hfin : Hid (x5.ownsRow base 9 1 v5 (ins scmp s xs).length ((ins scmp s xs).map enS)) := Lib.hid (by
              (show x5.ownsRow base 9 1 v5 (ins scmp s xs).length ((ins scmp s xs).map enS))
              have h := own_base O5.out hbase
              have e1 : (ins scmp s xs).length = j + 1 + (xs.length - j) := by rw [HINS.out]; simp; omega
              have e2 : (ins scmp s xs).map enS = (([] ++ (xs.map enS).take (j * 1)) ++ [enS s]) ++ (xs.map enS).drop (j * 1) := by rw [HINS.out]; simp
              rw [e1, e2]
              simpa using h)
            have HBX := Lib.hid c5
            go_wp2_with fail
            go_ret
            exact ⟨_, rfl, hfin.out, HBX.out⟩
          · rw [Flow.callAt_eq]
            simp only [List.getElem?_toArray, List.getElem?_cons_succ, List.getElem?_cons_zero]
            rw [if_pos (by rfl)]
            refine Flow.wp_behind (fun K hK => ?_)
            go_wp2_with fail
            have b2 : Below wr.heap.size x1 (x1.alloc (.cells #[enS s] 9)) := (Below.refl _ _).alloc c1.size _
            refine hK.out _ _ ⟨b2, ?_⟩
            clear hK K
            have X2 := Lib.hid (rdC_new x1 ([enS s]) 9)
            have z2 : x1.heap.size < (x1.alloc (.cells #[enS s] 9)).heap.size := by simp
            have O2 := Lib.hid (own_below O1.out (below_new x1 (.cells #[enS s] 9)))
            have c2 := c1.trans b2; clear b2
            generalize hw2 : x1.alloc (.cells #[enS s] 9) = x2 at *
            clear hw2
            haveI nonE := cls_ne (N := wr.heap.size) x2
            rw [Flow.wpSched_step]
            simp only [Flow.pick]
            refine wpQuiet_nil ?_
            clear nonE
            rw [Flow.callAt_eq]
            simp only [List.getElem?_toArray, List.getElem?_cons_succ, List.getElem?_cons_zero]
            rw [if_pos (by rfl)]
            refine Flow.wp_behind (fun K hK => ?_)
            refine wp_appK Tryz.underlying40 hi hz0 hz1 hz2 rfl (by decide) _ _ rfl wr.heap.size _ (0) ([]) O2.out _ (j) _ ((xs.map enS).take (j * 1)) hTK.out (RdC.below (RdC.toA HR.out _ _) c2) hT1.out rfl rfl (by omega) (by decide) c2.size ?_
            intro v3 x3 hown3 b3 hg3
            refine hK.out _ _ ⟨b3, ?_⟩
            clear hK K
            simp only [Act.put, List.setIfInBounds_toArray, List.set_cons_succ, List.set_cons_zero]
            have O3 := Lib.hid hown3; clear hown3
            have X3 := Lib.hid (RdC.grown0 X2.out hg3 (by simp [Value.ownBlock]; omega))
            have c3 := c2.trans b3; clear b3 hg3
            haveI nonE := cls_ne (N := wr.heap.size) x3
            rw [Flow.wpSched_step]
            simp only [Flow.pick]
            refine wpQuiet_nil ?_
            clear nonE
            rw [Flow.callAt_eq]
            simp only [List.getElem?_toArray, List.getElem?_cons_succ, List.getElem?_cons_zero]
            rw [if_pos (by rfl)]
            refine Flow.wp_behind (fun K hK => ?_)
            refine wp_appK Tryz.underlying40 hi hz0 hz1 hz2 rfl (by decide) _ _ rfl wr.heap.size _ (0 + j) ([] ++ (xs.map enS).take (j * 1)) O3.out _ (1) _ ([enS s]) rfl (X3.out) h1ONE rfl rfl (by omega) (by decide) c3.size ?_
            intro v4 x4 hown4 b4 hg4
            refine hK.out _ _ ⟨b4, ?_⟩
            clear hK K
            simp only [Act.put, List.setIfInBounds_toArray, List.set_cons_succ, List.set_cons_zero]
            have O4 := Lib.hid hown4; clear hown4
            have c4 := c3.trans b4; clear b4 hg4
            haveI nonE := cls_ne (N := wr.heap.size) x4
            rw [Flow.wpSched_step]
            simp only [Flow.pick]
            refine wpQuiet_nil ?_
            clear nonE
            rw [Flow.callAt_eq]
            simp only [List.getElem?_toArray, List.getElem?_cons_succ, List.getElem?_cons_zero]
            rw [if_pos (by rfl)]
            refine Flow.wp_behind (fun K hK => ?_)
            refine wp_appK Tryz.underlying40 hi hz0 hz1 hz2 rfl (by decide) _ _ rfl wr.heap.size _ (0 + j + 1) (([] ++ (xs.map enS).take (j * 1)) ++ [enS s]) O4.out _ ((xs.length - j)) _ ((xs.map enS).drop (j * 1)) hDK.out (RdC.below (RdC.fromA HR.out hXS _ _ hq hnc) c4) hD1.out rfl rfl (by omega) (by decide) c4.size ?_
            intro v5 x5 hown5 b5 hg5
            refine hK.out _ _ ⟨b5, ?_⟩
            clear hK K
            simp only [Act.put, List.setIfInBounds_toArray, List.set_cons_succ, List.set_cons_zero]
            have O5 := Lib.hid hown5; clear hown5
            have c5 := c4.trans b5; clear b5 hg5
            haveI nonE := cls_ne (N := wr.heap.size) x5
            rw [Flow.wpSched_done]
            simp only [Flow.pick, List.getElem?_toArray, List.getElem?_cons_succ, List.getElem?_cons_zero]
            repeat go_big_quiet_step (fail)
            refine wpQuiet_nil ?_
            clear nonE
            have hfin : Hid (x5.ownsRow base 9 1 v5 (ins scmp s xs).length ((ins scmp s xs).map enS)) := Lib.hid (by
              (show x5.ownsRow base 9 1 v5 (ins scmp s xs).length ((ins scmp s xs).map enS))
              have h := own_base O5.out hbase
              have e1 : (ins scmp s xs).length = j + 1 + (xs.length - j) := by rw [HINS.out]; simp; omega
              have e2 : (ins scmp s xs).map enS = (([] ++ (xs.map enS).take (j * 1)) ++ [enS s]) ++ (xs.map enS).drop (j * 1) := by rw [HINS.out]; simp
              rw [e1, e2]
              simpa using h)
            have HBX := Lib.hid c5
            go_wp2_with fail
            go_ret
            exact ⟨_, rfl, hfin.out, HBX.out⟩
        · rw [Flow.callAt_eq]
          simp only [List.getElem?_toArray, List.getElem?_cons_succ, List.getElem?_cons_zero]
          rw [if_pos (by rfl)]
          refine Flow.wp_behind (fun K hK => ?_)
          go_wp2_with fail
          have b1 : Below wr.heap.size wd (wd.alloc (.cells #[enS s] 9)) := (Below.refl _ _).alloc cD.size _
          refine hK.out _ _ ⟨b1, ?_⟩
          clear hK K
          have X1 := Lib.hid (rdC_new wd ([enS s]) 9)
          have z1 : wd.heap.size < (wd.alloc (.cells #[enS s] 9)).heap.size := by simp
          have c1 := cD.trans b1; clear b1
          generalize hw1 : wd.alloc (.cells #[enS s] 9) = x1 at *
          clear hw1
          haveI nonE := cls_ne (N := wr.heap.size) x1
          rw [Flow.wpSched_step]
          simp only [Flow.pick]
          refine wpQuiet_nil ?_
          clear nonE
          rw [Flow.callAt_eq]
          simp only [List.getElem?_toArray, List.getElem?_cons_zero]
          rw [if_pos (by rfl)]
          refine Flow.wp_behind (fun K hK => ?_)
          go_wp2_with fail
          have b2 : Below wr.heap.size x1 (x1.alloc (.cells #[] 9)) := (Below.refl _ _).alloc c1.size _
          refine hK.out _ _ ⟨b2, ?_⟩
          clear hK K
          have O2 := Lib.hid (own2_empty x1 wr.heap.size 1 9 c1.size)
          have z2 : x1.heap.size < (x1.alloc (.cells #[] 9)).heap.size := by simp
          have X2 := Lib.hid (RdC.below X1.out (below_new x1 (.cells #[] 9)))
          have c2 := c1.trans b2; clear b2
          generalize hw2 : x1.alloc (.cells #[] 9) = x2 at *
          clear hw2
          haveI nonE := cls_ne (N := wr.heap.size) x2
          rw [Flow.wpSched_step]
          simp only [Flow.pick]
          refine wpQuiet_nil ?_
          clear nonE
          rw [Flow.callAt_eq]
          simp only [List.getElem?_toArray, List.getElem?_cons_succ, List.getElem?_cons_zero]
          rw [if_pos (by rfl)]
          refine Flow.wp_behind (fun K hK => ?_)
          refine wp_appK Tryz.underlying40 hi hz0 hz1 hz2 rfl (by decide) _ _ rfl wr.heap.size _ (0) ([]) O2.out _ (j) _ ((xs.map enS).take (j * 1)) hTK.out (RdC.below (RdC.toA HR.out _ _) c2) hT1.out rfl rfl (by omega) (by decide) c2.size ?_
          intro v3 x3 hown3 b3 hg3
          refine hK.out _ _ ⟨b3, ?_⟩
          clear hK K
          simp only [Act.put, List.setIfInBounds_toArray, List.set_cons_succ, List.set_cons_zero]
          have O3 := Lib.hid hown3; clear hown3
          have X3 := Lib.hid (RdC.grown0 X2.out hg3 (by simp [Value.ownBlock]; omega))
          have c3 := c2.trans b3; clear b3 hg3
          haveI nonE := cls_ne (N := wr.heap.size) x3
          rw [Flow.wpSched_step]
          simp only [Flow.pick]
          refine wpQuiet_nil ?_
          clear nonE
          rw [Flow.callAt_eq]
          simp only [List.getElem?_toArray, List.getElem?_cons_succ, List.getElem?_cons_zero]
          rw [if_pos (by rfl)]
          refine Flow.wp_behind (fun K hK => ?_)
          refine wp_appK Tryz.underlying40 hi hz0 hz1 hz2 rfl (by decide) _ _ rfl wr.heap.size _ (0 + j) ([] ++ (xs.map enS).take (j * 1)) O3.out _ (1) _ ([enS s]) rfl (X3.out) h1ONE rfl rfl (by omega) (by decide) c3.size ?_
          intro v4 x4 hown4 b4 hg4
          refine hK.out _ _ ⟨b4, ?_⟩
          clear hK K
          simp only [Act.put, List.setIfInBounds_toArray, List.set_cons_succ, List.set_cons_zero]
          have O4 := Lib.hid hown4; clear hown4
          have c4 := c3.trans b4; clear b4 hg4
          haveI nonE := cls_ne (N := wr.heap.size) x4
          rw [Flow.wpSched_step]
          simp only [Flow.pick]
          refine wpQuiet_nil ?_
          clear nonE
          rw [Flow.callAt_eq]
          simp only [List.getElem?_toArray, List.getElem?_cons_succ, List.getElem?_cons_zero]
          rw [if_pos (by rfl)]
          refine Flow.wp_behind (fun K hK => ?_)
          refine wp_appK Tryz.underlying40 hi hz0 hz1 hz2 rfl (by decide) _ _ rfl wr.heap.size _ (0 + j + 1) (([] ++ (xs.map enS).take (j * 1)) ++ [enS s]) O4.out _ ((xs.length - j)) _ ((xs.map enS).drop (j * 1)) hDK.out (RdC.below (RdC.fromA HR.out hXS _ _ hq hnc) c4) hD1.out rfl rfl (by omega) (by decide) c4.size ?_
          intro v5 x5 hown5 b5 hg5
          refine hK.out _ _ ⟨b5, ?_⟩
          clear hK K
          simp only [Act.put, List.setIfInBounds_toArray, List.set_cons_succ, List.set_cons_zero]
          have O5 := Lib.hid hown5; clear hown5
          have c5 := c4.trans b5; clear b5 hg5
          haveI nonE := cls_ne (N := wr.heap.size) x5
          rw [Flow.wpSched_done]
          simp only [Flow.pick, List.getElem?_toArray, List.getElem?_cons_succ, List.getElem?_cons_zero]
          repeat go_big_quiet_step (fail)
          refine wpQuiet_nil ?_
          clear nonE
          have hfin : Hid (x5.ownsRow base 9 1 v5 (ins scmp s xs).length ((ins scmp s xs).map enS)) := Lib.hid (by
            (show x5.ownsRow base 9 1 v5 (ins scmp s xs).length ((ins scmp s xs).map enS))
            have h := own_base O5.out hbase
            have e1 : (ins scmp s xs).length = j + 1 + (xs.length - j) := by rw [HINS.out]; simp; omega
            have e2 : (ins scmp s xs).map enS = (([] ++ (xs.map enS).take (j * 1)) ++ [enS s]) ++ (xs.map enS).drop (j * 1) := by rw [HINS.out]; simp
            rw [e1, e2]
            simpa using h)
          have HBX := Lib.hid c5
          go_wp2_with fail
          go_ret
          exact ⟨_, rfl, hfin.out, HBX.out⟩
end Go.Proofs.YthgefcoaaommkaaGreatDoor

namespace Go.Proofs.YthgefcoaaommkaaGreatDoor
open Go.RowKit Go.Gn Go.Sr Go.Maps

def auL (a : List UInt8) : List Value := [auB a 0, auB a 1, auB a 2, auB a 3, auB a 4, auB a 5, auB a 6, auB a 7, auB a 8, auB a 9, auB a 10, auB a 11, auB a 12, auB a 13, auB a 14, auB a 15]
theorem auL_length (a : List UInt8) : (auL a).length = 16 := rfl
theorem au_size : (Tryz.prog.info? 49).map (·.size) = some 16 := by kernel_rfl
theorem range_au {w : World} {b o : Nat} {m : EvM} (h : w.rangeAt b o (evL m)) : w.rangeAt b (o + 1) (auL m.e.author) := fun j v hv => by
  have hj : j < 16 := (List.getElem?_eq_some_iff.1 hv).1
  rw [show o + 1 + j = o + (j + 1) by omega]
  refine h (j + 1) v ?_
  show (i64 m.e.minute :: (auL m.e.author ++ [.slice m.ga m.e.groups.length m.gc, .slice m.sa m.e.sites.length m.sc, i64 m.e.bytes]))[j + 1]? = some v
  rw [List.getElem?_cons_succ, List.getElem?_append_left (by rw [auL_length]; exact hj)]
  exact hv
theorem namesK_len {l : List Ev} (kind a b : Int) (h : ∀ e ∈ l, GoodE e) : (namesK l kind a b).length ≤ 50 * l.length := by
  refine snoc_ind (p := fun l => (∀ e ∈ l, GoodE e) → (namesK l kind a b).length ≤ 50 * l.length) (by simp [namesK]) (fun l e ih h => ?_) l h
  rw [namesK_snoc, List.length_append, List.length_append, List.length_singleton]
  have h1 := ih fun x hx => h x (by simp [hx])
  have he := h e (by simp)
  have h2 : (ofKind e kind).length ≤ 50 := by
    have := he.ng
    have := he.ns
    unfold ofKind
    split
    · simp
    · split <;> omega
  split
  · omega
  · simp only [List.length_nil]; omega
theorem namesK_succ {ms : List EvM} {k : Nat} {m : EvM} (h : ms[k]? = some m) (kind a b : Int) : namesK ((ms.take (k + 1)).map (·.e)) kind a b = namesK ((ms.take k).map (·.e)) kind a b ++ if (decide (a ≤ dayE m.e) && decide (dayE m.e ≤ b)) = true then ofKind m.e kind else [] := by
  rw [take_snoc h, List.map_append, List.map_singleton, namesK_snoc]
/-- A name put into a row of names. -/
theorem insAll_take {K L : List (List UInt8)} {j : Nat} {x : List UInt8} (h : L[j]? = some x) : insAll scmp (K ++ L.take (j + 1)) = ins scmp x (insAll scmp (K ++ L.take j)) := by
  rw [take_snoc h, ← List.append_assoc, insAll_snoc]
def OwnN (base : Nat) (w : World) (v : Value) (N : List (List UInt8)) : Prop := w.ownsRow base 9 1 v N.length (N.map enS)
set_option maxRecDepth 100000 in
set_option maxHeartbeats 8000000 in
theorem mAll_any (A : Option Addr) (c : Nat) (ms : List EvM) (kind x y : Int) (w : World) (h : RdE w A ms) (hg : ∀ m ∈ ms, GoodE m.e) (_hlc : ms.length ≤ c) (_hc : c ≤ maxLen) (hlen : ms.length ≤ 1000) :
    Calls Tryz.prog 15 #[.slice A ms.length c, i64 kind, i64 x, i64 y] w fun e w' => ∃ v, e = .returned v ∧ w'.ownsRow w.heap.size 9 1 v (namesM (ms.map (·.e)) kind x y).length ((namesM (ms.map (·.e)) kind x y).map enS) ∧ Below w.heap.size w w' := by
  have H := Lib.hid h
  have HG := Lib.hid hg
  clear h hg
  go_enter Tryz.func15, Tryz.ntmps15
  go_wp2_with fail
  go_loopg [9, 10] ms.length (fun gg ov iv wr => ∃ k : Nat, k ≤ ms.length ∧ ms.length - k ≤ gg ∧ iv = .int .i64 k ∧ Hid (OwnN w.heap.size wr ov (insAll scmp (namesK ((ms.take k).map (·.e)) kind x y))) ∧ Hid (Below w.heap.size w wr))
  case atStart => exact ⟨0, by omega, by omega, rfl, Lib.hid (own2_nil _ _ _ _), Lib.hid (Below.refl _ _)⟩
  case round =>
    obtain ⟨k, hk, hgk, rfl, O0, S⟩ := hrel
    have hnl := namesK_len (l := (ms.take k).map (·.e)) kind x y fun e he => by
      obtain ⟨m, hm, rfl⟩ := List.mem_map.1 he
      exact HG.out m (List.mem_of_mem_take hm)
    rw [List.length_map, List.length_take] at hnl
    obtain ⟨K0, hK0⟩ : ∃ q, namesK ((ms.take k).map (·.e)) kind x y = q := ⟨_, rfl⟩
    rw [hK0] at hnl O0
    have hnl : K0.length ≤ 50000 := by omega
    by_cases hlt : k < ms.length
    · obtain ⟨b, o, m, hA, hbl, hmk, hcell, hgm⟩ := H.out.at_ hlt
      subst hA
      have HE := Lib.hid (HG.out m (List.mem_of_getElem? hmk))
      have hsn := namesK_succ hmk kind x y
      rw [hK0] at hsn
      have HSN := Lib.hid hsn
      have HC0 := Lib.hid hcell
      have HG0 := Lib.hid hgm
      have HC := Lib.hid (range_below hcell S.out)
      have hd0 : 0 ≤ m.e.minute := HE.out.minute.1
      have hd1 : m.e.minute ≤ 1000000000000 := by have := HE.out.minute.2; omega
      have hday := fun W => day_any m W hd0 hd1
      obtain ⟨d, hd⟩ : ∃ q, dayE m.e = q := ⟨_, rfl⟩
      rw [hd] at HSN
      simp only [hd] at hday
      have HD := Lib.hid hday
      clear hmk hcell hgm hsn hday hd hd0 hd1 hK0
      by_cases ha : x ≤ d
      case neg =>
        have had : decide (x ≤ d) = false := decide_eq_false ha
        have hlx : decide (d < x) = true := decide_eq_true (by omega)
        go_wp2_with (first | refine wpList_load_mid rfl 51 _ rfl b (o + k * 20) rfl (evL m) _ HC.out Tryz.underlying51 rfl (by rw [evL_length]; exact ev_size) ?_)
        refine (HD.out _).mono ?_; rintro e w2 ⟨rfl, b2⟩
        have S2 := Lib.hid (S.out.tr b2)
        have O2 := Lib.hid (own_below O0.out b2)
        have HC2 := Lib.hid (range_below HC0.out S2.out)
        clear b2 S HC O0
        have HSK : Hid (namesK ((ms.take (k + 1)).map (·.e)) kind x y = K0) := Lib.hid (by rw [HSN.out, had, Bool.false_and, if_neg Bool.false_ne_true, List.append_nil])
        clear HSN HD
        go_wp2_with fail
        go_roundg (ms.length - (k + 1))
        case measure => omega
        case rel => exact ⟨k + 1, by omega, by omega, by go_num, by rw [HSK.out]; exact O2, S2⟩
      have had : decide (x ≤ d) = true := decide_eq_true ha
      have hlx : decide (d < x) = false := decide_eq_false (by omega)
      go_wp2_with (first | refine wpList_load_mid rfl 51 _ rfl b (o + k * 20) rfl (evL m) _ HC.out Tryz.underlying51 rfl (by rw [evL_length]; exact ev_size) ?_)
      refine (HD.out _).mono ?_; rintro e w2 ⟨rfl, b2⟩
      have S2 := Lib.hid (S.out.tr b2)
      have O2 := Lib.hid (own_below O0.out b2)
      have HC2 := Lib.hid (range_below HC0.out S2.out)
      clear b2 S HC O0
      by_cases hb : d ≤ y
      case neg =>
        have hbd : decide (d ≤ y) = false := decide_eq_false hb
        have hly : decide (y < d) = true := decide_eq_true (by omega)
        go_wp2_with (first | refine wpList_load_mid_g (by rfl) 51 _ rfl b (o + k * 20) rfl (evL m) _ HC2.out Tryz.underlying51 rfl (by rw [evL_length]; exact ev_size) ?_)
        refine (HD.out _).mono ?_; rintro e w3 ⟨rfl, b3⟩
        have S3 := Lib.hid (S2.out.tr b3)
        have O3 := Lib.hid (own_below O2.out b3)
        have HC3 := Lib.hid (range_below HC0.out S3.out)
        clear b3 S2 HC2 O2
        have HSK : Hid (namesK ((ms.take (k + 1)).map (·.e)) kind x y = K0) := Lib.hid (by rw [HSN.out, hbd, Bool.and_false, if_neg Bool.false_ne_true, List.append_nil])
        clear HSN HD
        go_wp2_with fail
        go_roundg (ms.length - (k + 1))
        case measure => omega
        case rel => exact ⟨k + 1, by omega, by omega, by go_num, by rw [HSK.out]; exact O3, S3⟩
      have hbd : decide (d ≤ y) = true := decide_eq_true hb
      have hly : decide (y < d) = false := decide_eq_false (by omega)
      go_wp2_with (first | refine wpList_load_mid_g (by rfl) 51 _ rfl b (o + k * 20) rfl (evL m) _ HC2.out Tryz.underlying51 rfl (by rw [evL_length]; exact ev_size) ?_)
      refine (HD.out _).mono ?_; rintro e w3 ⟨rfl, b3⟩
      have S3 := Lib.hid (S2.out.tr b3)
      have O3 := Lib.hid (own_below O2.out b3)
      have HC3 := Lib.hid (range_below HC0.out S3.out)
      clear b3 S2 HC2 O2
      rw [had, hbd, Bool.and_true, if_pos rfl] at HSN
      have KL : Hid (ofKind m.e kind = if kind = 3 then [hexT m.e.author] else if kind = 2 then m.e.sites else m.e.groups) := Lib.hid rfl
      have hng : m.e.groups.length ≤ 20 := HE.out.ng.2
      have hns : m.e.sites.length ≤ 50 := HE.out.ns
      clear HD HC3 ha hb had hbd
      by_cases hk3 : kind = 3
      · subst hk3
        have KLX : Hid (ofKind m.e 3 = [hexT m.e.author]) := Lib.hid KL.out
        have HAU := Lib.hid (range_au (range_below HC0.out S3.out))
        have k17 := ev_cell (range_below HC0.out S3.out) 17 rfl
        have hau : m.e.author.length = 16 := HG0.out.au
        have HRA := Lib.hid (fun W => refAuthor_any m.e.author W hau)
        go_wp2_with (first | refine wpList_load_mid rfl 49 _ rfl b (o + k * 20 + 1) rfl (auL m.e.author) _ HAU.out Tryz.underlying49 rfl (by rw [auL_length]; exact au_size) ?_)
        refine (HRA.out _).mono ?_; rintro e w4 ⟨rfl, b4⟩
        have S4 := Lib.hid ((S3.out.tr b4).tr (below_new w4 (.cells #[enS (hexT m.e.author)] 9)))
        have O4 := Lib.hid (own_below (own_below O3.out b4) (below_new w4 (.cells #[enS (hexT m.e.author)] 9)))
        have R4 : Hid (Rd (w4.alloc (.cells #[enS (hexT m.e.author)] 9)) (some ⟨w4.heap.size, 0, none⟩) [hexT m.e.author]) := Lib.hid (Rd.new w4 [hexT m.e.author] 9)
        clear b4 S3 O3 HRA HAU k17
        obtain ⟨L, hL⟩ : ∃ q, [hexT m.e.author] = q := ⟨_, rfl⟩
        rw [hL] at R4 KLX
        have hL1 : L.length = 1 := by rw [← hL]; rfl
        have ew : (Value.slice (some ⟨w4.heap.size, 0, none⟩) 1 1) = .slice (some ⟨w4.heap.size, 0, none⟩) L.length 1 := by rw [hL1]
        clear hL
        go_wp2_with fail
        generalize w4.alloc (.cells #[enS (hexT m.e.author)] 9) = wv at *
        go_loopg [9, 12] L.length (fun gg ov iv wr => ∃ j : Nat, j ≤ L.length ∧ L.length - j ≤ gg ∧ iv = .int .i64 j ∧ Hid (OwnN w.heap.size wr ov (insAll scmp (K0 ++ L.take j))) ∧ Hid (Below wv.heap.size wv wr))
        case atStart => exact ⟨0, by omega, by omega, rfl, by rw [List.take_zero, List.append_nil]; exact O4, Lib.hid (Below.refl _ _)⟩
        case round =>
          obtain ⟨j, hj, hgj, rfl, OJ, SJ⟩ := hrel
          have hnj : (insAll scmp (K0 ++ L.take j)).length ≤ 100000 := by
            have := insAll_length scmp (K0 ++ L.take j)
            rw [List.length_append, List.length_take] at this
            omega
          have HIJ := Lib.hid (insAll_inc scmp_lin (K0 ++ L.take j))
          by_cases hlj : j < L.length
          · obtain ⟨b4, o4, t, hA4, hbl4, htk, hcell4⟩ := (R4.out.below SJ.out).at_ hlj
            try subst hA4
            try cases hA4
            try rw [Nat.zero_add] at hcell4
            have HNX := Lib.hid (insAll_take (K := K0) htk)
            obtain ⟨A5, c5, hov⟩ := own2_slice OJ.out
            subst hov
            have hcl5 := own2_cap OJ.out
            unfold maxLen at hcl5
            have hsz : w.heap.size ≤ _ := Nat.le_trans S4.out.size SJ.out.size
            have HI := Lib.hid (mIns_any w.heap.size A5 c5 (insAll scmp (K0 ++ L.take j)) t _ OJ.out hsz HIJ.out hnj)
            clear htk hsz OJ
            generalize insAll scmp (K0 ++ L.take j) = N0 at *
            go_wp2_with fail
            refine HI.out.mono ?_; rintro e w9 ⟨v9, rfl, own9, b9⟩
            have O9 := Lib.hid own9
            have S9 := Lib.hid (SJ.out.tr b9)
            clear own9 b9 SJ HI
            go_wp2_with fail
            go_roundg (L.length - (j + 1))
            case measure => omega
            case rel => exact ⟨j + 1, by omega, by omega, by go_num, by rw [HNX.out]; exact O9, S9⟩
          · obtain rfl : j = L.length := by omega
            have OF : Hid (OwnN w.heap.size _ _ (insAll scmp (namesK ((ms.take (k + 1)).map (·.e)) 3 x y))) := Lib.hid (by rw [HSN.out, KLX.out]; have := OJ.out; rwa [List.take_length] at this)
            have SF := Lib.hid (S4.out.trans (SJ.out.mono S4.out.size))
            clear OJ SJ HIJ
            go_wp2_with fail
            go_roundg (ms.length - (k + 1))
            case measure => omega
            case rel => exact ⟨k + 1, by omega, by omega, by go_num, OF, SF⟩
      by_cases hk2 : kind = 2
      · subst hk2
        have KLX : Hid (ofKind m.e 2 = m.e.sites) := Lib.hid KL.out
        have R4 := Lib.hid (HG0.out.rs.below S3.out)
        have k17 := ev_cell (range_below HC0.out S3.out) 17 rfl
        have k18 := ev_cell (range_below HC0.out S3.out) 18 rfl
        have hsc : m.e.sites.length ≤ m.sc := HG0.out.sc
        have hsm : m.sc ≤ maxLen := HG0.out.sl
        unfold maxLen at hsm
        go_wp2_with fail
        clear k17 k18
        obtain ⟨AG, hAG⟩ : ∃ q, m.sa = q := ⟨_, rfl⟩
        rw [hAG] at R4 ⊢
        go_loopg [9, 12] m.e.sites.length (fun gg ov iv wr => ∃ j : Nat, j ≤ m.e.sites.length ∧ m.e.sites.length - j ≤ gg ∧ iv = .int .i64 j ∧ Hid (OwnN w.heap.size wr ov (insAll scmp (K0 ++ m.e.sites.take j))) ∧ Hid (Below w3.heap.size w3 wr))
        case atStart => exact ⟨0, by omega, by omega, rfl, by rw [List.take_zero, List.append_nil]; exact O3, Lib.hid (Below.refl _ _)⟩
        case round =>
          obtain ⟨j, hj, hgj, rfl, OJ, SJ⟩ := hrel
          have hnj : (insAll scmp (K0 ++ m.e.sites.take j)).length ≤ 100000 := by
            have := insAll_length scmp (K0 ++ m.e.sites.take j)
            rw [List.length_append, List.length_take] at this
            omega
          have HIJ := Lib.hid (insAll_inc scmp_lin (K0 ++ m.e.sites.take j))
          by_cases hlj : j < m.e.sites.length
          · obtain ⟨b4, o4, t, hA4, hbl4, htk, hcell4⟩ := (R4.out.below SJ.out).at_ hlj
            try subst hA4
            try cases hA4
            try rw [Nat.zero_add] at hcell4
            have HNX := Lib.hid (insAll_take (K := K0) htk)
            obtain ⟨A5, c5, hov⟩ := own2_slice OJ.out
            subst hov
            have hcl5 := own2_cap OJ.out
            unfold maxLen at hcl5
            have hsz : w.heap.size ≤ _ := Nat.le_trans S3.out.size SJ.out.size
            have HI := Lib.hid (mIns_any w.heap.size A5 c5 (insAll scmp (K0 ++ m.e.sites.take j)) t _ OJ.out hsz HIJ.out hnj)
            clear htk hsz OJ
            generalize insAll scmp (K0 ++ m.e.sites.take j) = N0 at *
            go_wp2_with fail
            refine HI.out.mono ?_; rintro e w9 ⟨v9, rfl, own9, b9⟩
            have O9 := Lib.hid own9
            have S9 := Lib.hid (SJ.out.tr b9)
            clear own9 b9 SJ HI
            go_wp2_with fail
            go_roundg (m.e.sites.length - (j + 1))
            case measure => omega
            case rel => exact ⟨j + 1, by omega, by omega, by go_num, by rw [HNX.out]; exact O9, S9⟩
          · obtain rfl : j = m.e.sites.length := by omega
            have OF : Hid (OwnN w.heap.size _ _ (insAll scmp (namesK ((ms.take (k + 1)).map (·.e)) 2 x y))) := Lib.hid (by rw [HSN.out, KLX.out]; have := OJ.out; rwa [List.take_length] at this)
            have SF := Lib.hid (S3.out.trans (SJ.out.mono S3.out.size))
            clear OJ SJ HIJ
            go_wp2_with fail
            go_roundg (ms.length - (k + 1))
            case measure => omega
            case rel => exact ⟨k + 1, by omega, by omega, by go_num, OF, SF⟩
      · have KLX : Hid (ofKind m.e kind = m.e.groups) := Lib.hid (by (show ofKind m.e kind = m.e.groups); rw [KL.out, if_neg hk3, if_neg hk2])
        have R4 := Lib.hid (HG0.out.rg.below S3.out)
        have hb2 : (kind == 2) = false := by simpa using hk2
        have hb3 : (kind == 3) = false := by simpa using hk3
        have k17 := ev_cell (range_below HC0.out S3.out) 17 rfl
        have hsc : m.e.groups.length ≤ m.gc := HG0.out.gc
        have hsm : m.gc ≤ maxLen := HG0.out.gl
        unfold maxLen at hsm
        go_wp2_with fail
        clear k17
        obtain ⟨AG, hAG⟩ : ∃ q, m.ga = q := ⟨_, rfl⟩
        rw [hAG] at R4 ⊢
        go_loopg [9, 12] m.e.groups.length (fun gg ov iv wr => ∃ j : Nat, j ≤ m.e.groups.length ∧ m.e.groups.length - j ≤ gg ∧ iv = .int .i64 j ∧ Hid (OwnN w.heap.size wr ov (insAll scmp (K0 ++ m.e.groups.take j))) ∧ Hid (Below w3.heap.size w3 wr))
        case atStart => exact ⟨0, by omega, by omega, rfl, by rw [List.take_zero, List.append_nil]; exact O3, Lib.hid (Below.refl _ _)⟩
        case round =>
          obtain ⟨j, hj, hgj, rfl, OJ, SJ⟩ := hrel
          have hnj : (insAll scmp (K0 ++ m.e.groups.take j)).length ≤ 100000 := by
            have := insAll_length scmp (K0 ++ m.e.groups.take j)
            rw [List.length_append, List.length_take] at this
            omega
          have HIJ := Lib.hid (insAll_inc scmp_lin (K0 ++ m.e.groups.take j))
          by_cases hlj : j < m.e.groups.length
          · obtain ⟨b4, o4, t, hA4, hbl4, htk, hcell4⟩ := (R4.out.below SJ.out).at_ hlj
            try subst hA4
            try cases hA4
            try rw [Nat.zero_add] at hcell4
            have HNX := Lib.hid (insAll_take (K := K0) htk)
            obtain ⟨A5, c5, hov⟩ := own2_slice OJ.out
            subst hov
            have hcl5 := own2_cap OJ.out
            unfold maxLen at hcl5
            have hsz : w.heap.size ≤ _ := Nat.le_trans S3.out.size SJ.out.size
            have HI := Lib.hid (mIns_any w.heap.size A5 c5 (insAll scmp (K0 ++ m.e.groups.take j)) t _ OJ.out hsz HIJ.out hnj)
            clear htk hsz OJ
            generalize insAll scmp (K0 ++ m.e.groups.take j) = N0 at *
            go_wp2_with fail
            refine HI.out.mono ?_; rintro e w9 ⟨v9, rfl, own9, b9⟩
            have O9 := Lib.hid own9
            have S9 := Lib.hid (SJ.out.tr b9)
            clear own9 b9 SJ HI
            go_wp2_with fail
            go_roundg (m.e.groups.length - (j + 1))
            case measure => omega
            case rel => exact ⟨j + 1, by omega, by omega, by go_num, by rw [HNX.out]; exact O9, S9⟩
          · obtain rfl : j = m.e.groups.length := by omega
            have OF : Hid (OwnN w.heap.size _ _ (insAll scmp (namesK ((ms.take (k + 1)).map (·.e)) kind x y))) := Lib.hid (by rw [HSN.out, KLX.out]; have := OJ.out; rwa [List.take_length] at this)
            have SF := Lib.hid (S3.out.trans (SJ.out.mono S3.out.size))
            clear OJ SJ HIJ
            go_wp2_with fail
            go_roundg (ms.length - (k + 1))
            case measure => omega
            case rel => exact ⟨k + 1, by omega, by omega, by go_num, OF, SF⟩
    · obtain rfl : k = ms.length := by omega
      have OF : Hid (OwnN w.heap.size _ _ (namesM (ms.map (·.e)) kind x y)) := Lib.hid (by have := O0.out; rw [← hK0, List.take_length] at this; exact this)
      clear O0
      go_wp2_with fail
      go_ret
      exact ⟨_, rfl, OF.out, S.out⟩
end Go.Proofs.YthgefcoaaommkaaGreatDoor

namespace Go.Proofs.YthgefcoaaommkaaGreatDoor
open Go.RowKit Go.Gn Go.Sr Go.Maps Go.Nr

theorem bcatT (a b : List UInt8) : (⟨a.toArray⟩ : ByteArray) ++ ⟨b.toArray⟩ = ⟨(a ++ b).toArray⟩ := by
  apply ByteArray.ext; simp
theorem run_catT (a b : List UInt8) (h : a.length + b.length ≤ 1000000000) (u : World) : (Op.stringOp .add ⟨a.toArray⟩ ⟨b.toArray⟩).run Tryz.prog u = .ok (enS (a ++ b)) u := by
  have e : IntKind.i64.max = 9223372036854775807 := by decide
  have hs : ¬ (((⟨a.toArray⟩ : ByteArray).size + (⟨b.toArray⟩ : ByteArray).size : Nat) : Int) > IntKind.i64.max := by
    rw [e]
    show ¬ ((a.toArray.size + b.toArray.size : Nat) : Int) > _
    simp; omega
  unfold Op.stringOp
  simp only
  rw [if_neg hs, bcatT]
  rfl
theorem conv_oneT (w : World) (c : Int) (h0 : 0 ≤ c) (h1 : c ≤ 255) :
    (convert 90 9 (.slice (some ⟨w.heap.size, 0, none⟩) 1 1)).run Tryz.prog (w.alloc (.cells #[.int .u8 c] 5)) = .ok (.string ⟨#[UInt8.ofNat c.toNat]⟩) (w.alloc (.cells #[.int .u8 c] 5)) := by
  have h := run_convert_bytes_back (P := Tryz.prog) (w.alloc (.cells #[.int .u8 c] 5)) 90 9 5 ⟨w.heap.size, 0, none⟩ 1 [UInt8.ofNat c.toNat] Tryz.underlying90 Tryz.underlying5 Tryz.underlying9 (by
    intro j hj
    have hj0 : j = 0 := by simpa using hj
    subst hj0
    have hb : (UInt8.ofNat c.toNat).toNat = c.toNat := by simp; omega
    simp [Addr.add, hb]; omega)
  simpa using h
theorem decDigits_tenT {m d : Nat} (hm : 0 < m) (hd : d < 10) : Lib.decDigits (10 * m + d) = Lib.decDigits m ++ Lib.decDigits d := by
  rw [Lib.decDigits, dif_neg (by omega), show (10 * m + d) / 10 = m by omega, show (10 * m + d) % 10 = d by omega, Lib.decDigits_one hd]

set_option maxRecDepth 100000 in
set_option maxHeartbeats 2000000 in
theorem num_any (k : Nat) : ∀ (n : Nat) (w : World), n < 10 ^ k → k ≤ 18 → Calls Tryz.prog 57 #[i64 n] w fun e w' => e = .returned (enS (Lib.decDigits n)) ∧ Below w.heap.size w w' := by
  have small : ∀ (n : Nat) (w : World), n < 10 → Calls Tryz.prog 57 #[i64 n] w fun e w' => e = .returned (enS (Lib.decDigits n)) ∧ Below w.heap.size w w' := by
    intro n w h10
    have hcv := conv_oneT w (48 + (n : Int)) (by omega) (by omega)
    have hwr : IntKind.u8.wrap (48 + (n : Int)) = 48 + (n : Int) := by simp [IntKind.wrap, IntKind.bits, IntKind.signed]; omega
    have BN := Lib.hid (below_new w (.cells #[.int .u8 (48 + (n : Int))] 5))
    have e1 : (48 + (n : Int)).toNat = 48 + n := by omega
    rw [e1] at hcv
    rw [Lib.decDigits_one h10]
    clear e1
    generalize UInt8.ofNat (48 + n) = d at *
    go_enter Tryz.func57, Tryz.ntmps57
    go_wp2_with fail
    go_ret
    exact ⟨rfl, BN.out⟩
  induction k with
  | zero =>
    intro n w h _
    obtain rfl : n = 0 := by simp at h; omega
    exact small 0 w (by omega)
  | succ k ih =>
    intro n w h hk
    by_cases h10 : n < 10
    · exact small n w h10
    · obtain ⟨m, d, hmd, hd⟩ : ∃ m d, n = 10 * m + d ∧ d < 10 := ⟨n / 10, n % 10, by omega, by omega⟩
      have hm : 0 < m := by omega
      have V : Hid (Lib.decDigits n = Lib.decDigits m ++ Lib.decDigits d) := by (show Lib.decDigits n = _); rw [hmd]; exact decDigits_tenT hm hd
      have h18 : n ≤ 1000000000000000000 := by
        have := Nat.pow_le_pow_right (show 0 < 10 by omega) hk
        have e : 10 ^ 18 = 1000000000000000000 := by decide
        omega
      have hmk : m < 10 ^ k := by rw [Nat.pow_succ] at h; omega
      have IH := Lib.hid (fun W => ih m W hmk (by omega))
      have SM := Lib.hid (fun W => small d W hd)
      have hlen := digits_len m 18 (Nat.lt_of_lt_of_le hmk (Nat.pow_le_pow_right (by omega) (by omega))) (by omega)
      have hlen2 := digits_len d 18 (Nat.lt_of_lt_of_le hd (by decide)) (by omega)
      have hq : (n : Int) / 10 = (m : Int) := by omega
      have hr : (n : Int) % 10 = (d : Int) := by omega
      have hc := run_catT (Lib.decDigits m) (Lib.decDigits d) (by omega)
      clear ih hmd h hlen hlen2 hmk small
      generalize Lib.decDigits m = dm at *
      generalize Lib.decDigits d = dd at *
      go_enter Tryz.func57, Tryz.ntmps57
      go_wp2_with fail
      refine (IH.out _).mono ?_; rintro e w1 ⟨rfl, b1⟩
      go_wp2_with fail
      refine (SM.out _).mono ?_; rintro e w2 ⟨rfl, b2⟩
      have B2 := Lib.hid (b1.tr b2)
      clear b1 b2
      go_wp2_with fail
      go_ret
      rw [V.out]
      exact ⟨rfl, B2.out⟩
theorem num_at (n : Int) (w : World) (h0 : 0 ≤ n) (h1 : n ≤ 1000000000000000) : Calls Tryz.prog 57 #[i64 n] w fun e w' => e = .returned (enS (dg n)) ∧ Below w.heap.size w w' := by
  obtain ⟨m, rfl⟩ : ∃ m : Nat, n = m := ⟨n.toNat, by omega⟩
  exact num_any 16 m w (by omega) (by omega)
theorem dg_len {n : Int} (h0 : 0 ≤ n) (h1 : n ≤ 1000000000000000) : (dg n).length ≤ 16 := digits_len _ 16 (by omega) (by omega)
set_option maxRecDepth 100000 in
set_option maxHeartbeats 2000000 in
theorem line_any (s : List UInt8) (c : C) (w : World) (hs : s.length ≤ 100000) (h0 : 0 ≤ c.1) (h1 : c.1 ≤ 1000000000000000) (h2 : 0 ≤ c.2) (h3 : c.2 ≤ 1000000000000000) : Calls Tryz.prog 56 #[enS s, cV c] w fun e w' => e = .returned (enS (lineC s c)) ∧ Below w.heap.size w w' := by
  obtain ⟨a, b⟩ := c
  simp only at h0 h1 h2 h3
  have NA := Lib.hid (fun W => num_at a W h0 h1)
  have NB := Lib.hid (fun W => num_at b W h2 h3)
  have la := dg_len h0 h1
  have lb := dg_len h2 h3
  have V : Hid (lineC s (a, b) = s ++ [32] ++ dg a ++ [32] ++ dg b ++ [10]) := by (show lineC s (a, b) = _); unfold lineC; simp
  have k1 := run_catT s [32] (by simp; omega)
  have k2 := run_catT (s ++ [32]) (dg a) (by simp; omega)
  have k3 := run_catT (s ++ [32] ++ dg a) [32] (by simp; omega)
  have k4 := run_catT (s ++ [32] ++ dg a ++ [32]) (dg b) (by simp; omega)
  have k5 := run_catT (s ++ [32] ++ dg a ++ [32] ++ dg b) [10] (by simp; omega)
  have BN := Lib.hid (below_new w (.cells #[i64 a, i64 b] 34))
  have HC := Lib.hid (blk_new w (.cells #[i64 a, i64 b] 34))
  clear la lb
  rw [V.out]
  generalize dg a = da at *
  generalize dg b = db at *
  generalize s ++ [32] = t1 at *
  generalize t1 ++ da = t2 at *
  generalize t2 ++ [32] = t3 at *
  generalize t3 ++ db = t4 at *
  generalize t4 ++ [10] = t5 at *
  obtain ⟨w0, hw0⟩ : ∃ u : World, w.alloc (.cells #[i64 a, i64 b] 34) = u := ⟨_, rfl⟩
  rw [hw0] at BN HC
  dsimp only [cV]
  go_enter Tryz.func56, Tryz.ntmps56
  go_wp2_with fail
  clear hw0
  refine Flow.wp_region_segs Flow.Later Flow.Later.refl Flow.Later.trans [([0, 1, 2, 3, 7, 8], 4), ([5, 6], 9)] [10, 11, 12] (by kernel_rfl) (by kernel_rfl) ?_
  have b' : Below w0.heap.size w0 (World.drew w0) := (Below.refl _ _).drew
  have C1 := Lib.hid (blk_below b' HC.out); clear HC
  have B1 := Lib.hid (BN.out.tr b'); clear BN
  clear b'
  generalize World.drew _ = w1 at *
  have cC0 := blk_cell C1.out 0
  have qC0 : ∀ t : Flow.Cls (Flow.Later w1), t.val.cell? _ = some (i64 a) := fun t => Flow.cls_cell cC0 t
  have cC1 := blk_cell C1.out 1
  have qC1 : ∀ t : Flow.Cls (Flow.Later w1), t.val.cell? _ = some (i64 b) := fun t => Flow.cls_cell cC1 t
  haveI nonE := Flow.cls_nonempty w1
  rw [Flow.wpSegs_cons]
  simp only [Flow.pick, List.getElem?_toArray, List.getElem?_cons_succ, List.getElem?_cons_zero]
  repeat go_big_quiet_step (fail)
  refine wpQuiet_nil ?_
  clear nonE qC0 cC0 qC1 cC1
  rw [Flow.callAt_eq]
  simp only [List.getElem?_toArray, List.getElem?_cons_succ, List.getElem?_cons_zero]
  rw [if_pos (by rfl)]
  refine Flow.wp_behind (fun K0 hK => ?_)
  go_wp2_with fail
  refine (NA.out _).mono ?_; rintro e w2 ⟨rfl, b⟩
  have b' : Below w1.heap.size w1 w2 := Below.tr (by first | exact Below.refl _ _ | exact below_new _ _) b
  clear b
  refine hK.out _ _ ⟨b', ?_⟩
  clear hK K0
  have C2 := Lib.hid (blk_below b' C1.out); clear C1
  have B2 := Lib.hid (B1.out.tr b'); clear B1
  clear b'
  haveI nonE := Flow.cls_nonempty w2
  rw [Flow.wpSegs_cons]
  simp only [Flow.pick, List.getElem?_toArray, List.getElem?_cons_succ, List.getElem?_cons_zero]
  repeat go_big_quiet_step (fail)
  refine wpQuiet_nil ?_
  clear nonE 
  rw [Flow.callAt_eq]
  simp only [List.getElem?_toArray, List.getElem?_cons_succ, List.getElem?_cons_zero]
  rw [if_pos (by rfl)]
  refine Flow.wp_behind (fun K0 hK => ?_)
  go_wp2_with fail
  refine (NB.out _).mono ?_; rintro e w3 ⟨rfl, b⟩
  have b' : Below w2.heap.size w2 w3 := Below.tr (by first | exact Below.refl _ _ | exact below_new _ _) b
  clear b
  refine hK.out _ _ ⟨b', ?_⟩
  clear hK K0
  have C3 := Lib.hid (blk_below b' C2.out); clear C2
  have B3 := Lib.hid (B2.out.tr b'); clear B2
  clear b'
  haveI nonE := Flow.cls_nonempty w3
  rw [Flow.wpSegs_nil]
  simp only [Flow.pick, List.getElem?_toArray, List.getElem?_cons_succ, List.getElem?_cons_zero]
  repeat go_big_quiet_step (fail)
  refine wpQuiet_nil ?_
  clear nonE 
  go_wp2_with fail
  go_ret
  exact ⟨rfl, B3.out⟩
end Go.Proofs.YthgefcoaaommkaaGreatDoor

namespace Go.Proofs.YthgefcoaaommkaaGreatDoor
open Go.RowKit Go.Gn Go.Sr Go.Maps

theorem below_setCells {N b : Nat} (hb : N ≤ b) : ∀ (vs : List Value) (o : Nat) (w : World), Below N w (w.setCells b o vs)
  | [], _, w => Below.refl N w
  | v :: r, o, w => ((Below.refl N w).setCell (p := ⟨b, o, none⟩) hb v).trans (below_setCells hb r (o + 1) _)
theorem there_blk {w : World} {b : Nat} {cs : Array Value} {t : TypeId} (h : w.heap[b]? = some (.cells cs t (0, 0))) : w.there b 0 cs.size := fun j hj => by
  rw [Nat.zero_add]
  exact ⟨by rw [blk_cell h, Array.getElem?_eq_getElem hj]; rfl, blk_free h j⟩
abbrev zer18 : Array Value := #[i64 0, i64 0, i64 0, i64 0, i64 0, i64 0, i64 0, i64 0, i64 0, i64 0, i64 0, i64 0, i64 0, i64 0, i64 0, i64 0, i64 0, i64 0]
theorem sizesL_nil : (sizesL []).map i64 = zer18.toList := rfl
set_option maxRecDepth 100000 in
set_option maxHeartbeats 4000000 in
theorem mSizes_any (A : Option Addr) (c : Nat) (ms : List EvM) (w : World) (h : RdE w A ms) (hg : ∀ m ∈ ms, GoodE m.e) (_hlc : ms.length ≤ c) (_hc : c ≤ maxLen) (hlen : ms.length ≤ 1000) :
    Calls Tryz.prog 58 #[.slice A ms.length c] w fun e w' => e = .returned (.agg ((sizesL (ms.map (·.e))).map i64).toArray) ∧ Below w.heap.size w w' := by
  have H := Lib.hid h
  have HG := Lib.hid hg
  have hso : (Tryz.prog.info? 63).map (·.size) = some 18 := by kernel_rfl
  have HSO := Lib.hid hso
  clear h hg hso
  obtain ⟨w0, hw0⟩ : ∃ u : World, u = ((w.alloc (.cells zer18 63)).alloc (.cells zer18 63)) := ⟨_, rfl⟩
  have K0 : w0.heap[w.heap.size]? = some (.cells zer18 63 (0, 0)) := by rw [hw0]; exact blk_below (below_new _ _) (blk_new _ _)
  have K1 : w0.heap[w.heap.size + 1]? = some (.cells zer18 63 (0, 0)) := by rw [hw0]; have := blk_new (w.alloc (.cells zer18 63)) (.cells zer18 63); simpa using this
  have B0 : Below w.heap.size w w0 := by rw [hw0]; exact (below_new _ _).tr (below_new _ _)
  have HB0 := Lib.hid B0
  have HK0 := Lib.hid K0
  have HK1 := Lib.hid K1
  clear B0 K0 K1
  go_enter Tryz.func58, Tryz.ntmps58
  go_wp2_with fail
  rw [← hw0]
  clear hw0
  go_loopg [4, 5] ms.length (fun gg iv _ wr => ∃ k : Nat, k ≤ ms.length ∧ ms.length - k ≤ gg ∧ iv = i64 k ∧ Hid (wr.heap[w.heap.size]? = some (.cells zer18 63 (0, 0))) ∧ Hid (wr.heap[w.heap.size + 1]? = some (.cells ((sizesL ((ms.take k).map (·.e))).map i64).toArray 63 (0, 0))) ∧ Hid (Below w.heap.size w wr))
  case atStart => exact ⟨0, by omega, by omega, rfl, HK0, HK1, HB0⟩
  case round =>
    obtain ⟨k, hk, hgk, rfl, F0, F1, HB⟩ := hrel
    by_cases hlt : k < ms.length
    · obtain ⟨b, o, m, hA, hbl, hmk, hcell, hgm⟩ := H.out.at_ hlt
      subst hA
      have hge := HG.out m (List.mem_of_getElem? hmk)
      have c19 := ev_cell (range_below hcell HB.out) 19 rfl
      have HNX : Hid (sizesL ((ms.take (k + 1)).map (·.e)) = upAt (sizesL ((ms.take k).map (·.e))) (blen m.e.bytes)) := Lib.hid (by (show _ = _); rw [take_snoc hmk, List.map_append, List.map_singleton, sizesL_snoc])
      have hzl := sizesL_length ((ms.take k).map (·.e))
      have hzb := sizesL_bnd ((ms.take k).map (·.e)) (fun e he => by obtain ⟨q, hq, rfl⟩ := List.mem_map.1 he; exact HG.out q (List.mem_of_mem_take hq))
      rw [List.length_map, List.length_take] at hzb
      generalize sizesL ((ms.take k).map (·.e)) = zs at *
      have hb17 := blen_le hge.bytes.1 hge.bytes.2
      have hby := hge.bytes
      have HSH := Lib.hid (shr_pos (n := m.e.bytes))
      have hb0 : m.e.bytes = 0 → blen m.e.bytes = 0 := fun e => by rw [e]; rfl
      generalize m.e.bytes = by_ at *
      generalize blen by_ = bl at *
      clear hcell hgm hmk hge
      go_wp2_with fail
      go_loopg [5] bl (fun gg kv wr2 => ∃ j : Nat, j ≤ bl ∧ bl - j ≤ gg ∧ kv = i64 j ∧ wr2 = wr)
      case atStart => exact ⟨0, by omega, by omega, rfl, rfl⟩
      case round =>
        obtain ⟨j, hj, hgj, rfl, rfl⟩ := hrel
        have hiff : 0 < by_ / 2 ^ j ↔ j < bl := by
          by_cases h0 : by_ = 0
          · rw [h0, hb0 h0]; simp
          · exact HSH.out (by omega) j
        by_cases hjb : 0 < by_ / 2 ^ j
        · have hjl := hiff.1 hjb
          clear hiff
          go_wp2_with fail
          go_roundg (bl - (j + 1))
          case measure => omega
          case rel => exact ⟨j + 1, by omega, by omega, by go_num, rfl⟩
        · have hjl : bl = j := by have : ¬ j < bl := fun h => hjb (hiff.2 h); omega
          clear hiff
          subst hjl
          have hcz : wr.cell? ⟨w.heap.size + 1, bl, none⟩ = some (i64 (zs.getD bl 0)) := by
            rw [blk_cell F1.out, List.getElem?_toArray, List.getElem?_map, List.getElem?_eq_getElem (by omega), List.getD_eq_getElem?_getD, List.getElem?_eq_getElem (by omega)]; rfl
          have hfz : wr.frozen? ⟨w.heap.size + 1, bl, none⟩ = false := blk_free F1.out bl
          have hzk := hzb bl
          have HUP : Hid (upAt zs bl = zs.set bl (zs.getD bl 0 + 1)) := rfl
          generalize zs.getD bl 0 = z at *
          go_wp2_with fail
          have F0' := Lib.hid ((blk_set_ne (b := w.heap.size) (c := w.heap.size + 1) bl (i64 (z + 1)) (by simp)).trans F0.out)
          have F1' : Hid ((wr.setCell ⟨w.heap.size + 1, bl, none⟩ (i64 (z + 1))).heap[w.heap.size + 1]? = some (.cells ((upAt zs bl).map i64).toArray 63 (0, 0))) := Lib.hid (by
            rw [blk_set F1.out, HUP.out]
            congr 2
            simp [List.map_set])
          have HB' := Lib.hid (HB.out.trans ((Below.refl w.heap.size wr).setCell (p := ⟨w.heap.size + 1, bl, none⟩) (by simp) (i64 (z + 1))))
          go_roundg (ms.length - (k + 1))
          case measure => omega
          case rel => exact ⟨k + 1, by omega, by omega, by go_num, F0', by rw [HNX.out]; exact F1', HB'⟩
    · obtain rfl : k = ms.length := by omega
      rw [List.take_length] at F1
      have hl : ((sizesL (ms.map (·.e))).map i64).length = 18 := by rw [List.length_map, sizesL_length]
      have hone : ((sizesL (ms.map (·.e))).map i64).toArray.all (·.oneCell') = true := all_oneCell_toArray (one_map_i64 _)
      obtain ⟨vs, hvs⟩ : ∃ q, (sizesL (ms.map (·.e))).map i64 = q := ⟨_, rfl⟩
      rw [hvs] at hl hone F1
      have HVS := Lib.hid hvs
      clear hvs
      have HRG := Lib.hid (range_blk F1.out)
      have hvz : vs.toArray.size = 18 := by simpa using hl
      have HTH : Hid (wr.there w.heap.size 0 vs.toArray.size) := Lib.hid (by (show wr.there w.heap.size 0 vs.toArray.size); rw [hvz]; exact there_blk F0.out)
      have HONE := Lib.hid hone
      clear hone
      go_wp2_with (first | refine wpList_load_mid rfl 63 _ rfl (w.heap.size + 1) 0 rfl vs _ HRG.out Tryz.underlying63 rfl (by rw [hl]; exact HSO.out) ?_ | refine wpList_store_mid rfl 63 _ _ rfl w.heap.size 0 vs.toArray rfl rfl HTH.out (by rw [List.size_toArray, hl]; exact HSO.out) HONE.out ?_)
      have hth : wr.there w.heap.size 0 vs.length := by rw [hl, ← hvz]; exact HTH.out
      have hld := run_loadVar_mid (P := Tryz.prog) (wr.setCells w.heap.size 0 vs) w.heap.size 0 63 vs _ (World.rangeAt_setCells_same _ _ _ _ hth) Tryz.underlying63 rfl (by rw [hl]; exact HSO.out)
      refine bodyPost_ret (v := .agg vs.toArray) ?_ rfl ⟨by rw [HVS.out], HB.out.trans (below_setCells (Nat.le_refl _) _ _ _)⟩
      simp only [Act.put, List.setIfInBounds_toArray, List.set_cons_succ, List.set_cons_zero]
      simp [results, Tryz.results58, asAddr, hld]
end Go.Proofs.YthgefcoaaommkaaGreatDoor

namespace Go.Proofs.YthgefcoaaommkaaGreatDoor
open Go.RowKit Go.Gn Go.Sr Go.Maps

theorem ofM_day (ms : List EvM) (d : Int) : ofM 0 [] d d ms = sumE ((ms.map (·.e)).filter fun e => decide (dayE e = d)) := by
  unfold ofM
  rw [List.filter_congr fun e _ => ?_]
  unfold pickE
  rw [Bool.eq_iff_iff]
  simp only [Bool.and_eq_true, Bool.or_eq_true, decide_eq_true_eq, decide_true, true_or, and_true]
  omega
theorem ofM_name (ms : List EvM) (k : Int) (n : List UInt8) (d : Int) (hn : n ≠ []) : ofM k n d d ms = cntM (ms.map (·.e)) k n d d := by
  unfold ofM cntM
  rw [List.filter_congr fun e _ => ?_]
  unfold pickE
  rw [decide_eq_false hn, Bool.false_or, Bool.and_comm, Bool.and_assoc]
theorem hexT_len (a : List UInt8) : (hexT a).length = 2 * a.length := by
  unfold hexT
  induction a with
  | nil => rfl
  | cons x r ih => rw [List.flatMap_cons, List.length_append, ih]; simp; omega
/-- A name of the model is not empty and has at most 80 bytes. -/
theorem namesM_each {ms : List EvM} (hg : ∀ m ∈ ms, GoodE m.e) (ha : ∀ m ∈ ms, m.e.author.length = 16) {k d : Int} (hk : 1 ≤ k ∧ k ≤ 3) {n : List UInt8} (h : n ∈ namesM (ms.map (·.e)) k d d) : n ≠ [] ∧ n.length ≤ 80 := by
  obtain ⟨e, he, _, hn⟩ := (mem_namesM ..).1 h
  obtain ⟨m, hm, rfl⟩ := List.mem_map.1 he
  refine ⟨fun e => ?_, ?_⟩
  · subst e
    have h1 := hasE_nil (k := k) (hg m hm) (ha m hm)
    unfold hasE at h1
    rw [decide_eq_true hk, decide_eq_true hn] at h1
    cases h1
  · unfold ofKind at hn
    split at hn
    · rw [List.mem_singleton.1 hn, hexT_len, ha m hm]; omega
    · split at hn
      · have := siteE_zero ((hg m hm).sites n hn); omega
      · exact check_len ((hg m hm).groups n hn)
theorem flat_len {α : Type} (f : α → List UInt8) (B : Nat) : ∀ (l : List α), (∀ x ∈ l, (f x).length ≤ B) → (l.flatMap f).length ≤ B * l.length
  | [], _ => by simp
  | a :: l, h => by
    rw [List.flatMap_cons, List.length_append, List.length_cons, Nat.mul_add]
    have := h a (by simp)
    have := flat_len f B l fun x hx => h x (by simp [hx])
    omega
theorem flat_take {α : Type} (f : α → List UInt8) {l : List α} {k : Nat} {x : α} (h : l[k]? = some x) : (l.take (k + 1)).flatMap f = (l.take k).flatMap f ++ f x := by
  rw [take_snoc h, List.flatMap_append]; simp
/-- The kinds written when the next one is k. -/
def kindsU (f : Int → List UInt8) (k : Int) : List UInt8 := ([1, 2, 3].take (k.toNat - 1)).flatMap f
theorem kindsU_one (f : Int → List UInt8) : kindsU f 1 = [] := rfl
theorem kindsU_succ (f : Int → List UInt8) {k : Int} (h : 1 ≤ k ∧ k ≤ 3) : kindsU f (k + 1) = kindsU f k ++ f k := by
  rcases (by omega : k = 1 ∨ k = 2 ∨ k = 3) with rfl | rfl | rfl <;> simp [kindsU]
theorem kindsU_end (f : Int → List UInt8) : kindsU f 4 = [1, 2, 3].flatMap f := rfl
def sizesU (zs : List Int) (k : Nat) : List UInt8 := (List.range k).flatMap fun j => sizeLn j (zs.getD j 0)
theorem sizesU_succ (zs : List Int) (k : Nat) : sizesU zs (k + 1) = sizesU zs k ++ sizeLn k (zs.getD k 0) := by
  unfold sizesU
  rw [List.range_succ, List.flatMap_append]; simp
theorem lineC_len {s : List UInt8} {c : C} (h0 : 0 ≤ c.1) (h1 : c.1 ≤ 1000000000000000) (h2 : 0 ≤ c.2) (h3 : c.2 ≤ 1000000000000000) : (lineC s c).length ≤ s.length + 35 := by
  unfold lineC
  have := dg_len h0 h1
  have := dg_len h2 h3
  simp only [List.length_append, List.length_cons, List.length_nil]
  omega
theorem lineN_cat (k : Int) (n : List UInt8) (c : C) : lineN k n c = lineC (wordT k ++ [32] ++ n) c := by unfold lineN; simp
end Go.Proofs.YthgefcoaaommkaaGreatDoor

namespace Go.Proofs.YthgefcoaaommkaaGreatDoor
open Go.RowKit Go.Gn Go.Sr Go.Maps

theorem flatE_inv : ∀ {l : List EvM} {j : Nat} {u : Value} (_ : (l.flatMap evL)[j]? = some u), ∃ m, l[j / 20]? = some m ∧ (evL m)[j % 20]? = some u
  | [], _, _, h => by simp at h
  | y :: r, j, u, h => by
    have hy := evL_length y
    have h' : (evL y ++ r.flatMap evL)[j]? = some u := h
    by_cases hj : j < 20
    · rw [List.getElem?_append_left (by omega)] at h'
      exact ⟨y, by rw [Nat.div_eq_of_lt hj]; rfl, by rw [Nat.mod_eq_of_lt hj]; exact h'⟩
    · rw [List.getElem?_append_right (by omega), hy] at h'
      obtain ⟨m, h1, h2⟩ := flatE_inv h'
      refine ⟨m, ?_, ?_⟩
      · rw [show j / 20 = (j - 20) / 20 + 1 by omega, List.getElem?_cons_succ]; exact h1
      · rw [show j % 20 = (j - 20) % 20 by omega]; exact h2
theorem RdE.rdC {w : World} {A : Option Addr} {ms : List EvM} (h : RdE w A ms) : RdC w A (ms.flatMap evL) := fun hl => by
  rw [flatE_length] at hl
  obtain ⟨b, o, e, _, hc⟩ := h.rd (by omega)
  refine ⟨b, o, e, fun j u hj => ?_⟩
  obtain ⟨m, h1, h2⟩ := flatE_inv hj
  have := hc _ _ h1 _ _ h2
  rwa [show o + j / 20 * 20 + j % 20 = o + j by omega] at this
theorem RdE.one (w : World) (m : EvM) (h : GoodM w m) : RdE (w.alloc (.cells (evL m).toArray 51)) (some ⟨w.heap.size, 0, none⟩) [m] := by
  refine ⟨fun _ => ⟨w.heap.size, 0, rfl, by simp, fun j x hj => ?_⟩, fun x hx => ?_⟩
  · cases j with
    | zero =>
      obtain rfl : m = x := by simpa using hj
      exact range_blk (blk_new _ _)
    | succ j => simp at hj
  · obtain rfl := List.mem_singleton.1 hx
    exact h.below (below_new _ _)
theorem wpList_buildEv_g {ops : Array Oper} {rest : List Oper} {op : Oper} {a : Act} {w : World} {Q : Exit → Act → World → Prop} (hw : Region.wanted op (yielded ops a.tmps) = true) (x : Operand) (ho : op.op = .buildSlice 22 1 #[(0, x)]) (m : EvM) (hx : a.eval x = evA m)
    (h : wpList Tryz.prog ops Q rest (a.put op.dst (.slice (some ⟨w.heap.size, 0, none⟩) 1 1)) (w.alloc (.cells (evL m).toArray 51))) : wpList Tryz.prog ops Q (op :: rest) a w :=
  wpList_step fun K hK => by
    rw [if_pos hw]
    have e : (#[(0, x)] : Array (Nat × Operand)).map (fun (q : Nat × Operand) => (q.1, a.eval q.2)) = #[(0, evA m)] := by simp [hx]
    unfold Oper.wp execOp
    simp only [ho, Sem.run_bind, Sem.run_pure, e, run_buildEv, Result.andThen_ok]
    exact hK _ _ h
theorem wp_buildEv {op : Oper} {a : Act} {w : World} {K : Act → World → Prop} {Q : Exit → Act → World → Prop} (x : Operand) (ho : op.op = .buildSlice 22 1 #[(0, x)]) (m : EvM) (hx : a.eval x = evA m)
    (h : K (a.put op.dst (.slice (some ⟨w.heap.size, 0, none⟩) 1 1)) (w.alloc (.cells (evL m).toArray 51))) : op.wp Tryz.prog a w K Q := by
  have e : (#[(0, x)] : Array (Nat × Operand)).map (fun (q : Nat × Operand) => (q.1, a.eval q.2)) = #[(0, evA m)] := by simp [hx]
  unfold Oper.wp execOp
  simp only [ho, Sem.run_bind, Sem.run_pure, e, run_buildEv, Result.andThen_ok]
  exact h
/-- An element of an array of numbers that is a value. -/
theorem run_index18 (cs : Array Value) (_hc : cs.size = 18) (k : Nat) (hk : k < 18) (v : Value) (hv : cs[k]? = some v) (w : World) : (Instr.index 63 (.agg cs) (.int .i64 k)).run Tryz.prog w = .ok v w := by
  have hag : ∀ u : World, (isAgg 3).run Tryz.prog u = .ok false u := fun u => by kernel_rfl
  have hso : ∀ u : World, (sizeOf 3).run Tryz.prog u = .ok 1 u := fun u => by kernel_rfl
  unfold Instr.index part
  simp [run_underlying Tryz.underlying63, asIntOf, hag, hso, hv, hk]
theorem wpList_index18 {ops : Array Oper} {rest : List Oper} {op : Oper} {a : Act} {w : World} {Q : Exit → Act → World → Prop} (hgd : op.guard = none) (x y : Operand) (ho : op.op = .index 63 x y) (cs : Array Value) (hc : cs.size = 18) (k : Nat) (hk : k < 18) (v : Value) (hv : cs[k]? = some v) (hx : a.eval x = .agg cs) (hy : a.eval y = .int .i64 k)
    (h : wpList Tryz.prog ops Q rest (a.put op.dst v) w) : wpList Tryz.prog ops Q (op :: rest) a w :=
  wpList_plain hgd fun _ hK => by
    unfold Oper.wp execOp
    simp only [ho, hx, hy, Sem.run_bind, Sem.run_pure, run_index18 cs hc k hk v hv, Result.andThen_ok]
    exact hK _ _ h
theorem list18 : ∀ {l : List Int}, l.length = 18 → ∃ a0 a1 a2 a3 a4 a5 a6 a7 a8 a9 a10 a11 a12 a13 a14 a15 a16 a17, l = [a0, a1, a2, a3, a4, a5, a6, a7, a8, a9, a10, a11, a12, a13, a14, a15, a16, a17]
  | [a0, a1, a2, a3, a4, a5, a6, a7, a8, a9, a10, a11, a12, a13, a14, a15, a16, a17], _ => ⟨a0, a1, a2, a3, a4, a5, a6, a7, a8, a9, a10, a11, a12, a13, a14, a15, a16, a17, rfl⟩
/-- An empty name counts all. -/
theorem ofM_all {ms : List EvM} (hg : ∀ m ∈ ms, GoodE m.e) : ofM 0 [] 0 80000 ms = sumE (ms.map (·.e)) := by
  unfold ofM
  rw [List.filter_eq_self.2]
  intro e he
  obtain ⟨m, hm, rfl⟩ := List.mem_map.1 he
  have h := (hg m hm).minute
  unfold pickE dayE
  rw [decide_eq_true (by omega), decide_eq_true (by omega)]
  simp
theorem sorted_days {l : List Ev} {ss : List Int} (h : ss.Perm ((daysL l).map (·.1))) : ss.mergeSort (fun x y => decide (x ≤ y)) = daysM l := by
  have hp := (List.mergeSort_perm ss (fun x y => decide (x ≤ y))).trans h
  unfold daysM
  refine sorted_insAll icmp_lin ?_ (hp.nodup_iff.2 (daysL_two l)) fun x => ?_
  · have tr : ∀ a b c : Int, decide (a ≤ b) = true → decide (b ≤ c) = true → decide (a ≤ c) = true := fun a b c h1 h2 => by simp only [decide_eq_true_eq] at *; omega
    have tot : ∀ a b : Int, (decide (a ≤ b) || decide (b ≤ a)) = true := fun a b => by simp only [Bool.or_eq_true, decide_eq_true_eq]; omega
    refine (List.pairwise_mergeSort tr tot ss).imp fun {a b} hab => ?_
    have hab := of_decide_eq_true hab
    unfold icmp
    split <;> (try split) <;> omega
  · rw [hp.mem_iff, keys_daysL, mem_daysM, List.mem_map]
theorem take_sum {l : List Int} {k : Nat} {x : Int} (h : l[k]? = some x) : (l.take (k + 1)).foldl (· + ·) 0 = (l.take k).foldl (· + ·) 0 + x := by
  rw [take_snoc h, List.foldl_append]; rfl
end Go.Proofs.YthgefcoaaommkaaGreatDoor
