/- The rest of StatsAdd behind its call of build: totals, days and sizes agree, and the sizes add up. -/
import Derived.Test.YthgefcoaaommkaaDoorSuA
import Derived.Test.YthgefcoaaommkaaDoorStR
import Derived.Test.YthgefcoaaommkaaDoorStX
import Derived.Test.YthgefcoaaommkaaDoorStY
import Derived.Test.YthgefcoaaommkaaDoorSuN
import Derived.Test.YthgefcoaaommkaaDoorArrI
import Derived.Test.YthgefcoaaommkaaDoorRest
import Derived.Deep.DeepCutAuto
namespace Go.Proofs.YthgefcoaaommkaaDoor
open Go.RowKit Go.Gn Go.Sr Go.Maps

set_option maxRecDepth 100000 in
set_option maxHeartbeats 16000000 in
theorem addTail {v0 v1 v2 v3 v4 v8 v9 v10 v11 v12 v13 v14 v15 v16 v17 v18 v19 v20 v21 v22 v23 v24 v25 v26 v27 v28 v29 v30 v31 v32 v33 v34 v35 v36 v37 v38 v39 v40 v41 v42 v43 v44 v45 v46 v47 v48 v49 v50 v51 v52 v53 v54 v55 v56 v57 v58 v59 v60 v61 v62 v63 v64 v65 v66 v67 v68 v69 v70 v71 v72 v73 : Value} (p bd bn : Nat) (A2 : Option Addr) (c2 : Nat) (l : List EvM) (w wx : World) (hst : StE wx p bd bn l) (hrd : RdE wx A2 l) (hlc2 : l.length ≤ c2) (hc2 : c2 ≤ maxLen) (hby : Below w.heap.size w wx) (hgl : ∀ e ∈ l.map (·.e), GoodE e) (hll : l.length ≤ 100) :
    Code.wp Tryd.prog (Flow.rest 3 Tryd.f4) (bodyPost Tryd.prog Tryd.f4 fun e w' => e = .returned (.bool true) ∧ Below w.heap.size w w') ⟨#[v0, v1, v2, v3, v4, .pointer (some ⟨p, 0, none⟩), .slice A2 l.length c2, .bool true, v8, v9, v10, v11, v12, v13, v14, v15, v16, v17, v18, v19, v20, v21, v22, v23, v24, v25, v26, v27, v28, v29, v30, v31, v32, v33, v34, v35, v36, v37, v38, v39, v40, v41, v42, v43, v44, v45, v46, v47, v48, v49, v50, v51, v52, v53, v54, v55, v56, v57, v58, v59, v60, v61, v62, v63, v64, v65, v66, v67, v68, v69, v70, v71, v72, v73], []⟩ wx := by
  refine Flow.wp_rest rfl ?_
  have ST := Lib.hid hst
  have RD := Lib.hid hrd
  have BY := Lib.hid hby
  have HGL := Lib.hid (show ∀ m ∈ l, GoodE m.e from fun m hm => hgl _ (List.mem_map.2 ⟨m, hm, rfl⟩))
  have hbd := daysL_bnd _ hgl
  have hdl := daysL_len (l.map (·.e))
  rw [List.length_map] at hdl
  have HDS := Lib.hid (bndL.small hbd (by rw [List.length_map]; omega))
  have hdm : (daysM (l.map (·.e))).length ≤ 100000 := by
    have := insAll_length icmp ((l.map (·.e)).map dayE)
    rw [List.length_map, List.length_map] at this
    unfold daysM
    omega
  have hsum := sum_sizes (l := l.map (·.e)) fun e he => ⟨(hgl e he).bytes.1, (hgl e he).bytes.2⟩
  have htot : (sumE (l.map (·.e))).1 = (l.length : Int) := by rw [sumE_fst, List.length_map]
  rw [List.length_map] at hsum
  have hzb := sizesL_bnd _ hgl
  rw [List.length_map] at hzb
  have hzl := sizesL_length (l.map (·.e))
  clear hbd hgl hst hrd hby
  have hfd : ∀ (a b : Int) (u : World), (Instr.field 29 (.agg #[i64 a, i64 b]) 0).run Tryd.prog u = .ok (i64 a) u := fun _ _ _ => by kernel_rfl
  dsimp only
  go_wp2_with fail
  refine (total_any p bd bn _ _ _ wx ST.out HDS.out (by omega)).mono ?_; rintro e y1 ⟨rfl, b⟩
  have ST1 := Lib.hid (StM.below ST.out b)
  have RD1 := Lib.hid (RD.out.below b)
  have BY1 := Lib.hid (BY.out.tr b)
  clear b ST RD BY
  rw [total_days]
  obtain ⟨q, hq⟩ : ∃ q, sumE (l.map (·.e)) = q := ⟨_, rfl⟩
  have HQ := Lib.hid hq
  rw [hq] at htot ⊢
  clear hq
  obtain ⟨q1, q2⟩ := q
  dsimp only [cV] at htot ⊢
  go_wp2_with fail
  refine (mOf_any A2 c2 l 0 [] 0 80000 y1 RD1.out HGL.out hlc2 hc2 (by omega)).mono ?_; rintro e y2 ⟨rfl, b⟩
  have ST2 := Lib.hid (StM.below ST1.out b)
  have RD2 := Lib.hid (RD1.out.below b)
  have BY2 := Lib.hid (BY1.out.tr b)
  clear b ST1 RD1 BY1
  rw [ofM_all HGL.out, HQ.out]
  dsimp only [cV]
  go_wp2_with fail
  refine (days_any p bd bn _ _ _ y2 ST2.out (by omega)).mono ?_; rintro e y3 ⟨v1, ss, rfl, hperm, ho1, b⟩
  have ST3 := Lib.hid (StM.below ST2.out b)
  have RD3 := Lib.hid (RD2.out.below b)
  have BY3 := Lib.hid (BY2.out.tr b)
  clear b ST2 RD2 BY2
  rw [sorted_days hperm, (show ss.length = (daysM (l.map (·.e))).length by rw [← sorted_days hperm, List.length_mergeSort])] at ho1
  obtain ⟨A3, c3, rfl⟩ := own2_slice ho1
  have hl3 := own2_le ho1
  have hm3 := own2_cap ho1
  have RA3 := Lib.hid (RdC.of_own ho1)
  clear ho1 hperm ss
  go_wp2_with fail
  refine (mDays_any A2 c2 l y3 RD3.out HGL.out hlc2 hc2 (by omega)).mono ?_; rintro e y4 ⟨v2, rfl, ho2, b⟩
  have ST4 := Lib.hid (StM.below ST3.out b)
  have RD4 := Lib.hid (RD3.out.below b)
  have RA4 := Lib.hid (RdC.below RA3.out b)
  have BY4 := Lib.hid (BY3.out.tr b)
  clear b ST3 RD3 BY3 RA3
  obtain ⟨A4, c4, rfl⟩ := own2_slice ho2
  have hl4 := own2_le ho2
  have hm4 := own2_cap ho2
  have RB4 := Lib.hid (RdC.of_own ho2)
  clear ho2
  go_wp2_with fail
  refine (numbers_any A3 A4 c3 c4 _ _ y4 RA4.out RB4.out hl3 hl4 hm3 hm4 hdm rfl).mono ?_; rintro e y5 ⟨rfl, b⟩
  have ST5 := Lib.hid (StM.below ST4.out b)
  have RD5 := Lib.hid (RD4.out.below b)
  have BY5 := Lib.hid (BY4.out.tr b)
  clear b ST4 RD4 BY4 RA4 RB4 hl3 hl4 hm3 hm4
  go_wp2_with fail
  refine (sizes_any p bd bn _ _ _ y5 ST5.out).mono ?_; rintro e y6 ⟨rfl, b⟩
  have ST6 := Lib.hid (StM.below ST5.out b)
  have RD6 := Lib.hid (RD5.out.below b)
  have BY6 := Lib.hid (BY5.out.tr b)
  clear b ST5 RD5 BY5
  obtain ⟨zs, hzs⟩ : ∃ zs, sizesL (l.map (·.e)) = zs := ⟨_, rfl⟩
  have HZS := Lib.hid hzs
  rw [hzs] at hsum hzb hzl ⊢
  clear hzs
  obtain ⟨Z, hZ⟩ : ∃ Z, (zs.map i64).toArray = Z := ⟨_, rfl⟩
  have HZ := Lib.hid hZ
  have HZ2 := Lib.hid hZ
  rw [hZ]
  clear hZ
  go_wp2_with fail
  refine (mSizes_any A2 c2 l y6 RD6.out HGL.out hlc2 hc2 (by omega)).mono ?_; rintro e y7 ⟨rfl, b⟩
  have ST7 := Lib.hid (StM.below ST6.out b)
  have BY7 := Lib.hid (BY6.out.tr b)
  clear b ST6 RD6 BY6
  rw [HZS.out, HZ.out]
  go_wp2_with (refine wpList_neqI_g (by rfl) 43 3 18 Tryd.underlying43 Tryd.underlying3 Tryd.sizeOf3 (by kernel_rfl) _ _ _ rfl zs zs (by rw [HZ.out]; rfl) (by rw [HZ.out]; rfl) hzl hzl ?_)
  refine (sizes_any p bd bn _ _ _ y7 ST7.out).mono ?_; rintro e y8 ⟨rfl, b⟩
  have ST8 := Lib.hid (StM.below ST7.out b)
  have BY8 := Lib.hid (BY7.out.tr b)
  clear b ST7 BY7
  rw [HZS.out, HZ.out]
  go_wp2_with fail
  go_loopg [8, 62] 18 (fun gg sv iv wr => ∃ (k : Nat) (s : Int), k ≤ 18 ∧ 18 - k ≤ gg ∧ sv = i64 s ∧ iv = i64 k ∧ 0 ≤ s ∧ s ≤ 100 * k ∧ Hid (s = (zs.take k).foldl (· + ·) 0) ∧ wr = y8)
  case atStart => exact ⟨0, 0, by omega, by omega, rfl, rfl, by omega, by omega, Lib.hid rfl, rfl⟩
  case round =>
    obtain ⟨k, s, hk, hgk, rfl, rfl, hs0, hs1, HS, rfl⟩ := hrel
    by_cases hlt : k < 18
    · obtain ⟨x, hx⟩ : ∃ x, zs[k]? = some x := ⟨_, List.getElem?_eq_getElem (by omega)⟩
      have hxb := hzb k
      rw [List.getD_eq_getElem?_getD, hx] at hxb
      simp only [Option.getD_some] at hxb
      have HS' : Hid (s + x = (zs.take (k + 1)).foldl (· + ·) 0) := Lib.hid (by (show _ = _); rw [take_sum hx, ← HS.out])
      have HZx : Hid (Z[k]? = some (i64 x)) := Lib.hid (by (show _ = _); rw [← HZ.out, List.getElem?_toArray, List.getElem?_map, hx]; rfl)
      have HZs : Hid (Z.size = 18) := Lib.hid (by (show _ = _); rw [← HZ.out]; simpa using hzl)
      clear hx HS
      go_wp2_with (refine wpList_index18 rfl _ _ rfl Z HZs.out k (by omega) (i64 x) HZx.out rfl rfl ?_)
      go_roundg (18 - (k + 1))
      case measure => omega
      case rel => exact ⟨k + 1, s + x, by omega, by omega, rfl, by go_num, by omega, by omega, HS', rfl⟩
    · obtain rfl : k = 18 := by omega
      have hsl : s = (l.length : Int) := by
        rw [HS.out, ← hsum, List.take_of_length_le (by omega)]
      subst hsl
      clear HS hsum
      go_wp2_with fail
      refine (total_any p bd bn _ _ _ _ ST8.out HDS.out (by omega)).mono ?_; rintro e y9 ⟨rfl, b⟩
      have BY9 := Lib.hid (BY8.out.tr b)
      clear b ST8 BY8
      rw [total_days, HQ.out]
      dsimp only [cV]
      go_wp2_with fail
      go_ret
      exact ⟨by simp, BY9.out⟩
end Go.Proofs.YthgefcoaaommkaaDoor
