/- Contract: the model's text. -/
import Derived.Test.YthgefcoaaommkaaGreatDoorZf
import Derived.Test.YthgefcoaaommkaaGreatDoorZa
import Derived.Deep.DeepCutAuto
namespace Go.Proofs.YthgefcoaaommkaaGreatDoor
open Go.RowKit Go.Gn Go.Sr Go.Maps

set_option maxRecDepth 100000 in
set_option maxHeartbeats 16000000 in
theorem mText_any (A : Option Addr) (c : Nat) (ms : List EvM) (before : Int) (w : World) (h : RdE w A ms) (hg : ∀ m ∈ ms, GoodE m.e) (hlc : ms.length ≤ c) (hc : c ≤ maxLen) (hlen : ms.length ≤ 40) :
    Calls Tryz.prog 18 #[.slice A ms.length c, i64 before] w fun e w' => e = .returned (enS (textM (ms.map (·.e)) before)) ∧ Below w.heap.size w w' := by
  have H := Lib.hid h
  have HG := Lib.hid hg
  have HA := Lib.hid (fun m hm => (h.good m hm).au)
  have HDY := Lib.hid (mDays_any A c ms w h hg hlc hc (by omega))
  have HSZ := Lib.hid (fun W (h : RdE W A ms) => mSizes_any A c ms W h hg hlc hc (by omega))
  have HOf := Lib.hid (fun W (h : RdE W A ms) k n x y => mOf_any A c ms k n x y W h hg hlc hc (by omega))
  have HAll := Lib.hid (fun W (h : RdE W A ms) k x y => mAll_any A c ms k x y W h hg hlc hc (by omega))
  have hdl : (daysM (ms.map (·.e))).length ≤ 40 := by
    have := insAll_length icmp ((ms.map (·.e)).map dayE)
    rw [List.length_map, List.length_map] at this
    unfold daysM
    omega
  have HBN := Lib.hid (ofM_bnd hg)
  have HN0 := Lib.hid (fun d (hd : d ∈ daysM (ms.map (·.e))) => (show 0 ≤ d ∧ d ≤ 1000000 by
    obtain ⟨e, he, rfl⟩ := (mem_daysM ..).1 hd
    obtain ⟨m, hm, rfl⟩ := List.mem_map.1 he
    have := (hg m hm).minute
    unfold dayE; omega))
  have hzb := sizesL_bnd (ms.map (·.e)) fun e he => by
    obtain ⟨m, hm, rfl⟩ := List.mem_map.1 he
    exact hg m hm
  rw [List.length_map] at hzb
  have hzl := sizesL_length (ms.map (·.e))
  have HKL := Lib.hid (fun k d => namesK_len (l := ms.map (·.e)) k d d fun e he => by
    obtain ⟨m, hm, rfl⟩ := List.mem_map.1 he
    exact hg m hm)
  have TM : Hid (textM (ms.map (·.e)) before = (daysM (ms.map (·.e))).flatMap (dayM (ms.map (·.e)) before) ++ sizesU (sizesL (ms.map (·.e))) 18) := Lib.hid (by (show textM _ _ = _); unfold textM sizesT sizesU; rw [hzl])
  clear h hg hlc hc
  go_enter Tryz.func18, Tryz.ntmps18
  go_wp2_with fail
  refine HDY.out.mono ?_; rintro e w1 ⟨v, rfl, hown, b1⟩
  obtain ⟨A1, c1, rfl⟩ := own2_slice hown
  have hl1 := own2_le hown
  have hm1 := own2_cap hown
  have R1 := Lib.hid (RdC.of_own hown)
  have B1 := Lib.hid b1
  clear hown b1 HDY
  obtain ⟨ds, hds⟩ : ∃ q, daysM (ms.map (·.e)) = q := ⟨_, rfl⟩
  rw [hds] at hdl hl1 R1 HN0 TM ⊢
  clear hds
  unfold maxLen at hm1
  have BN := Lib.hid (below_new w1 (.cells #[enS [], enS [103, 114, 111, 117, 112, 32], enS [115, 105, 116, 101, 32], enS [97, 117, 116, 104, 111, 114, 32]] 9))
  have BW := Lib.hid (blk_new w1 (.cells #[enS [], enS [103, 114, 111, 117, 112, 32], enS [115, 105, 116, 101, 32], enS [97, 117, 116, 104, 111, 114, 32]] 9))
  go_wp2_with fail
  have WD : Hid (∀ k : Nat, 1 ≤ k → k ≤ 3 → (w1.alloc (.cells #[enS [], enS [103, 114, 111, 117, 112, 32], enS [115, 105, 116, 101, 32], enS [97, 117, 116, 104, 111, 114, 32]] 9)).cell? ⟨w1.heap.size, k, none⟩ = some (enS (wordT (k : Int) ++ [32]))) := Lib.hid fun k h1 h3 => by
    rcases (by omega : k = 1 ∨ k = 2 ∨ k = 3) with rfl | rfl | rfl
    · exact blk_cell BW.out 1
    · exact blk_cell BW.out 2
    · exact blk_cell BW.out 3
  have RE0 := Lib.hid ((H.out.below B1.out).below BN.out)
  have R0 := Lib.hid (RdC.below R1.out BN.out)
  have B0 := Lib.hid (B1.out.tr BN.out)
  clear B1 BN BW R1 H
  obtain ⟨bw, hbw⟩ : ∃ b, w1.heap.size = b := ⟨_, rfl⟩
  simp only [hbw] at WD ⊢
  clear hbw
  generalize w1.alloc (.cells #[enS [], enS [103, 114, 111, 117, 112, 32], enS [115, 105, 116, 101, 32], enS [97, 117, 116, 104, 111, 114, 32]] 9) = w0 at *
  go_loopg [5, 8] ds.length (fun gg sv iv wr => ∃ (i : Nat) (s : List UInt8), i ≤ ds.length ∧ ds.length - i ≤ gg ∧ iv = .int .i64 i ∧ sv = enS s ∧ s.length ≤ 1000000 * i ∧ Hid (s = (ds.take i).flatMap (dayM (ms.map (·.e)) before)) ∧ Hid (Below w0.heap.size w0 wr))
  case atStart => exact ⟨0, [], by omega, by omega, rfl, rfl, by simp, Lib.hid rfl, Lib.hid (Below.refl _ _)⟩
  case round =>
    obtain ⟨i, s0, hi, hgi, rfl, rfl, hs0, HS0, S⟩ := hrel
    by_cases hlt : i < ds.length
    · obtain ⟨d, hd⟩ : ∃ d, ds[i]? = some d := ⟨_, List.getElem?_eq_getElem hlt⟩
      have hdb := HN0.out d (List.mem_of_getElem? hd)
      have FT := Lib.hid (flat_take (dayM (ms.map (·.e)) before) hd)
      obtain ⟨b, od, hA1, cd⟩ := RdC.cell (RdC.below R0.out S.out) (j := i) (v := i64 d) (by rw [List.getElem?_map, hd]; rfl)
      subst hA1
      have CD0 := Lib.hid cd
      have RE := Lib.hid (RE0.out.below S.out)
      clear cd hd
      have hof := fun W (h : RdE W A ms) => HOf.out W h 0 [] d d
      have hbn := HBN.out 0 [] d d
      rw [ofM_day] at hof hbn
      have HDM : Hid (dayM (ms.map (·.e)) before d = lineN 0 (dg d) (sumE ((ms.map (·.e)).filter fun e => decide (dayE e = d))) ++ if before ≤ d then kindsU (kindM (ms.map (·.e)) d) 4 else []) := Lib.hid rfl
      obtain ⟨cc, hcc⟩ : ∃ q, sumE ((ms.map (·.e)).filter fun e => decide (dayE e = d)) = q := ⟨_, rfl⟩
      rw [hcc] at hof hbn HDM
      have HOF := Lib.hid hof
      have HNU := Lib.hid (fun W => num_at d W hdb.1 (by omega))
      have hdn := dg_len hdb.1 (by omega)
      have HLI := Lib.hid (fun W => line_any ([100, 97, 121, 32] ++ dg d) cc W (by simp; omega) hbn.1 (by omega) hbn.2.2.1 (by omega))
      have hd24 : ([100, 97, 121, 32] ++ dg d).length ≤ 20 := by simp; omega
      have hll := lineC_len (s := [100, 97, 121, 32] ++ dg d) (c := cc) hbn.1 (by omega) hbn.2.2.1 (by omega)
      have k1 := run_catT [100, 97, 121, 32] (dg d) (by simp; omega)
      have k2 := run_catT s0 (lineC ([100, 97, 121, 32] ++ dg d) cc) (by omega)
      have hln : lineN 0 (dg d) cc = lineC ([100, 97, 121, 32] ++ dg d) cc := by unfold lineN wordT; simp
      rw [hln] at HDM
      clear hof hbn hcc hln
      generalize dg d = dd at *
      generalize lineC ([100, 97, 121, 32] ++ dd) cc = ln at *
      generalize [100, 97, 121, 32] ++ dd = dt at *
      obtain ⟨s1, hs1⟩ : ∃ q, s0 ++ ln = q := ⟨_, rfl⟩
      have hs1l : s1.length ≤ 1000000 * i + 500 := by rw [← hs1, List.length_append]; omega
      have HS1 := Lib.hid hs1
      rw [hs1] at k2
      clear hs1
      go_wp2_with fail
      refine Flow.wp_region_segs Flow.Later Flow.Later.refl Flow.Later.trans [([0, 1, 2, 3, 4, 7, 8, 9, 10, 11, 12, 13, 14, 15], 5), ([6], 16), ([], 17)] [18, 19] (by kernel_rfl) (by kernel_rfl) ?_
      have b' : Below wr.heap.size wr (World.drew wr) := (Below.refl _ _).drew
      have RE1 := Lib.hid (RE.out.below b'); clear RE
      have B1 := Lib.hid b'
      clear b'
      generalize World.drew _ = w1 at *
      have cd0 := Below.cellv (B1.out.tr (by first | exact Below.refl _ _ | exact below_new _ _)) CD0.out
      have qd0 : ∀ t : Flow.Cls (Flow.Later w1), t.val.cell? _ = some (i64 d) := fun t => Flow.cls_cell cd0 t
      haveI nonE := Flow.cls_nonempty w1
      rw [Flow.wpSegs_cons]
      simp only [Flow.pick, List.getElem?_toArray, List.getElem?_cons_succ, List.getElem?_cons_zero]
      repeat go_big_quiet_step (fail)
      refine wpQuiet_nil ?_
      clear nonE qd0 cd0
      rw [Flow.callAt_eq]
      simp only [List.getElem?_toArray, List.getElem?_cons_succ, List.getElem?_cons_zero]
      rw [if_pos (by rfl)]
      refine Flow.wp_behind (fun K0 hK => ?_)
      go_wp2_with fail
      refine (HNU.out _).mono ?_; rintro e w2 ⟨rfl, b⟩
      have b' : Below w1.heap.size w1 w2 := Below.tr (by first | exact Below.refl _ _ | exact below_new _ _) b
      clear b
      refine hK.out _ _ ⟨b', ?_⟩
      clear hK K0
      have RE2 := Lib.hid (RE1.out.below b'); clear RE1
      have B2 := Lib.hid (B1.out.tr b'); clear B1
      clear b'
      haveI nonE := Flow.cls_nonempty w2
      rw [Flow.wpSegs_cons]
      simp only [Flow.pick, List.getElem?_toArray, List.getElem?_cons_succ, List.getElem?_cons_zero]
      repeat go_big_quiet_step (fail)
      refine wpQuiet_nil ?_
      clear nonE 
      rw [Flow.callAt_eq]
      simp only [List.getElem?_toArray, List.getElem?_cons_succ, List.getElem?_cons_zero]
      rw [if_pos (by rfl)]
      refine Flow.wp_behind (fun K0 hK => ?_)
      go_wp2_with fail
      refine (HOF.out _ (RE2.out.below (by first | exact Below.refl _ _ | exact below_new _ _))).mono ?_; rintro e w3 ⟨rfl, b⟩
      have b' : Below w2.heap.size w2 w3 := Below.tr (by first | exact Below.refl _ _ | exact below_new _ _) b
      clear b
      refine hK.out _ _ ⟨b', ?_⟩
      clear hK K0
      have RE3 := Lib.hid (RE2.out.below b'); clear RE2
      have B3 := Lib.hid (B2.out.tr b'); clear B2
      clear b'
      haveI nonE := Flow.cls_nonempty w3
      rw [Flow.wpSegs_cons]
      simp only [Flow.pick]
      refine wpQuiet_nil ?_
      clear nonE 
      rw [Flow.callAt_eq]
      simp only [List.getElem?_toArray, List.getElem?_cons_succ, List.getElem?_cons_zero]
      rw [if_pos (by rfl)]
      refine Flow.wp_behind (fun K0 hK => ?_)
      go_wp2_with fail
      refine (HLI.out _).mono ?_; rintro e w4 ⟨rfl, b⟩
      have b' : Below w3.heap.size w3 w4 := Below.tr (by first | exact Below.refl _ _ | exact below_new _ _) b
      clear b
      refine hK.out _ _ ⟨b', ?_⟩
      clear hK K0
      have RE4 := Lib.hid (RE3.out.below b'); clear RE3
      have B4 := Lib.hid (B3.out.tr b'); clear B3
      clear b'
      haveI nonE := Flow.cls_nonempty w4
      rw [Flow.wpSegs_nil]
      simp only [Flow.pick, List.getElem?_toArray, List.getElem?_cons_succ, List.getElem?_cons_zero]
      repeat go_big_quiet_step (fail)
      refine wpQuiet_nil ?_
      clear nonE 
      have CD1 := Lib.hid (Below.cellv B4.out CD0.out)
      have S1 := Lib.hid (S.out.tr B4.out)
      have RE1 := Lib.hid RE4.out
      clear B4 RE4 CD0 k1 k2 HNU HOF HLI hdn hll
      go_wp2_with fail
      go_loopg [5, 9] 4 (fun gg sv kv wq => ∃ (q : Nat) (s : List UInt8), 1 ≤ q ∧ q ≤ 4 ∧ 4 - q ≤ gg ∧ (before ≤ d ∨ q = 1) ∧ kv = .int .i64 q ∧ sv = enS s ∧ s.length ≤ 1000000 * i + 500 + 300000 * (q - 1) ∧ Hid (s = s1 ++ kindsU (kindM (ms.map (·.e)) d) q) ∧ Hid (Below w4.heap.size w4 wq))
      case atStart => exact ⟨1, s1, by omega, by omega, by omega, .inr rfl, rfl, rfl, by omega, Lib.hid (by (show s1 = _ ++ kindsU _ 1); rw [kindsU_one, List.append_nil]), Lib.hid (Below.refl _ _)⟩
      case round =>
        obtain ⟨q, s2, hq1, hq4, hgq, hbq, rfl, rfl, hs2, HS2, S2⟩ := hrel
        have cd := Below.cellv S2.out CD1.out
        by_cases hq3 : q ≤ 3
        case neg =>
          obtain rfl : q = 4 := by omega
          have hbd : before ≤ d := by omega
          have FIN : Hid (s2 = (ds.take (i + 1)).flatMap (dayM (ms.map (·.e)) before)) := Lib.hid (by (show s2 = _); rw [FT.out, HDM.out, if_pos hbd, HS2.out, ← HS1.out, HS0.out, List.append_assoc]; rfl)
          clear HS2 HDM FT hbd hbq
          go_wp2_with fail
          clear cd
          go_roundg (ds.length - (i + 1))
          case measure => omega
          case rel => exact ⟨i + 1, s2, by omega, by omega, by go_num, rfl, by omega, FIN, Lib.hid (S1.out.tr S2.out)⟩
        have hk3 : decide ((q : Int) ≤ 3) = true := decide_eq_true (by omega)
        by_cases hbd : before ≤ d
        case neg =>
          obtain rfl : q = 1 := by omega
          have hbf : decide (before ≤ d) = false := decide_eq_false hbd
          have FIN : Hid (s2 = (ds.take (i + 1)).flatMap (dayM (ms.map (·.e)) before)) := Lib.hid (by (show s2 = _); rw [FT.out, HDM.out, if_neg hbd, HS2.out, ← HS1.out, HS0.out]; simp [kindsU_one])
          clear HS2 HDM FT hbq
          go_wp2_with fail
          clear cd
          go_roundg (ds.length - (i + 1))
          case measure => omega
          case rel => exact ⟨i + 1, s2, by omega, by omega, by go_num, rfl, by omega, FIN, Lib.hid (S1.out.tr S2.out)⟩
        have hbt : decide (before ≤ d) = true := decide_eq_true hbd
        have HAL := Lib.hid (fun W (h : RdE W A ms) => HAll.out W h q d d)
        have RE2 := Lib.hid (RE1.out.below S2.out)
        go_wp2_with fail
        refine Flow.wp_region_segs Flow.Later Flow.Later.refl Flow.Later.trans [([0, 1, 2, 3, 4, 5, 6, 7, 8, 9], 10)] [11] (by kernel_rfl) (by kernel_rfl) ?_
        have b' : Below wr.heap.size wr (World.drew wr) := (Below.refl _ _).drew
        have RE1 := Lib.hid (RE2.out.below b'); clear RE2
        have B1 := Lib.hid b'
        clear b'
        generalize World.drew _ = w1 at *
        have cd0 := Below.cellv (B1.out.tr (by first | exact Below.refl _ _ | exact below_new _ _)) cd
        have qd0 : ∀ t : Flow.Cls (Flow.Later w1), t.val.cell? _ = some (i64 d) := fun t => Flow.cls_cell cd0 t
        haveI nonE := Flow.cls_nonempty w1
        rw [Flow.wpSegs_cons]
        simp only [Flow.pick, List.getElem?_toArray, List.getElem?_cons_succ, List.getElem?_cons_zero]
        repeat go_big_quiet_step (fail)
        refine wpQuiet_nil ?_
        clear nonE qd0 cd0
        rw [Flow.callAt_eq]
        simp only [List.getElem?_toArray, List.getElem?_cons_succ, List.getElem?_cons_zero]
        rw [if_pos (by rfl)]
        refine Flow.wp_behind (fun K0 hK => ?_)
        go_wp2_with fail
        refine (HAL.out _ (RE1.out.below (by first | exact Below.refl _ _ | exact below_new _ _))).mono ?_; rintro e w2 ⟨v3, rfl, hown, b⟩
        have b' : Below w1.heap.size w1 w2 := Below.tr (by first | exact Below.refl _ _ | exact below_new _ _) b
        clear b
        refine hK.out _ _ ⟨b', ?_⟩
        clear hK K0
        have RE2 := Lib.hid (RE1.out.below b'); clear RE1
        have B2 := Lib.hid (B1.out.tr b'); clear B1
        clear b'
        obtain ⟨A3, c3, rfl⟩ := own2_slice hown
        have hl3 := own2_le hown
        have hm3 := own2_cap hown
        have R3 := Lib.hid (RdC.of_own hown)
        clear hown
        haveI nonE := Flow.cls_nonempty w2
        rw [Flow.wpSegs_nil]
        simp only [Flow.pick, List.getElem?_toArray, List.getElem?_cons_succ, List.getElem?_cons_zero]
        repeat go_big_quiet_step (fail)
        refine wpQuiet_nil ?_
        clear nonE 
        have CD2 := Lib.hid (Below.cellv (S2.out.tr B2.out) CD1.out)
        have S3 := Lib.hid (S2.out.tr B2.out)
        have RE3 := Lib.hid RE2.out
        clear B2 RE2 cd HAL S2
        unfold maxLen at hm3
        have hnn := HKL.out q d
        have hnl : (namesM (ms.map (·.e)) q d d).length ≤ 2000 := by
          have := insAll_length scmp (namesK (ms.map (·.e)) q d d)
          rw [List.length_map] at hnn
          unfold namesM
          omega
        have KE : Hid (kindM (ms.map (·.e)) d q = (namesM (ms.map (·.e)) q d d).flatMap fun n => lineN q n (cntM (ms.map (·.e)) q n d d)) := Lib.hid rfl
        have NE := Lib.hid (fun n (h : n ∈ namesM (ms.map (·.e)) q d d) => namesM_each HG.out HA.out (k := (q : Int)) (by omega) h)
        obtain ⟨ns, hns⟩ : ∃ z, namesM (ms.map (·.e)) q d d = z := ⟨_, rfl⟩
        rw [hns] at hnl KE NE R3 hl3 ⊢
        clear hns hnn
        go_wp2_with fail
        go_loopg [5, 11] ns.length (fun gg sv kv wz => ∃ (j : Nat) (s : List UInt8), j ≤ ns.length ∧ ns.length - j ≤ gg ∧ kv = .int .i64 j ∧ sv = enS s ∧ s.length ≤ 1000000 * i + 500 + 300000 * (q - 1) + 140 * j ∧ Hid (s = s2 ++ (ns.take j).flatMap fun n => lineN q n (cntM (ms.map (·.e)) q n d d)) ∧ Hid (Below w2.heap.size w2 wz))
        case atStart => exact ⟨0, s2, by omega, by omega, rfl, rfl, by omega, Lib.hid (by (show s2 = s2 ++ _); simp), Lib.hid (Below.refl _ _)⟩
        case round =>
          obtain ⟨j, s3, hj, hgj, rfl, rfl, hs3, HS3, S4⟩ := hrel
          by_cases hlj : j < ns.length
          · obtain ⟨n, hn⟩ : ∃ n, ns[j]? = some n := ⟨_, List.getElem?_eq_getElem hlj⟩
            obtain ⟨b3, o3, hA3, cn⟩ := RdC.cell (RdC.below R3.out S4.out) (j := j) (v := enS n) (by rw [List.getElem?_map, hn]; rfl)
            subst hA3
            obtain ⟨hne, hnl80⟩ := NE.out n (List.mem_of_getElem? hn)
            have FT2 := Lib.hid (flat_take (fun n => lineN q n (cntM (ms.map (·.e)) q n d d)) hn)
            have cd := Below.cellv S4.out CD2.out
            have cw := Below.cellv ((S1.out.tr S3.out).tr S4.out) (WD.out q hq1 hq3)
            clear hn
            have RE4 := Lib.hid (RE3.out.below S4.out)
            have hof := fun W (h : RdE W A ms) => HOf.out W h q n d d
            have hbn := HBN.out q n d d
            rw [ofM_name _ _ _ _ hne] at hof hbn
            obtain ⟨cc, hcc⟩ : ∃ z, cntM (ms.map (·.e)) q n d d = z := ⟨_, rfl⟩
            rw [hcc] at hof hbn
            have HOF := Lib.hid hof
            have hwl : (wordT (q : Int)).length ≤ 6 := by unfold wordT; split <;> (try split) <;> (try split) <;> (try split) <;> simp
            have hwl2 : (wordT (q : Int) ++ [32]).length ≤ 7 := by simp; omega
            have FT3 : Hid ((ns.take (j + 1)).flatMap (fun n => lineN q n (cntM (ms.map (·.e)) q n d d)) = (ns.take j).flatMap (fun n => lineN q n (cntM (ms.map (·.e)) q n d d)) ++ lineC (wordT (q : Int) ++ [32] ++ n) cc) := Lib.hid (by (show _ = _); rw [FT2.out, ← hcc, ← lineN_cat])
            clear hof FT2 hcc hwl
            generalize wordT (q : Int) ++ [32] = wd at *
            have HLI := Lib.hid (fun W => line_any (wd ++ n) cc W (by simp; omega) hbn.1 (by omega) hbn.2.2.1 (by omega))
            have hll := lineC_len (s := wd ++ n) (c := cc) hbn.1 (by omega) hbn.2.2.1 (by omega)
            have k1 := run_catT wd n (by omega)
            rw [List.length_append] at hll
            have k2 := run_catT s3 (lineC (wd ++ n) cc) (by omega)
            clear hbn
            generalize lineC (wd ++ n) cc = ln at *
            generalize wd ++ n = dt at *
            obtain ⟨s4, hs4⟩ : ∃ z, s3 ++ ln = z := ⟨_, rfl⟩
            have hs4l : s4.length ≤ 1000000 * i + 500 + 300000 * (q - 1) + 140 * (j + 1) := by rw [← hs4, List.length_append]; omega
            have HS4 := Lib.hid hs4
            rw [hs4] at k2
            have cwT : True := trivial
            clear hs4 hwl2
            go_wp2_with fail
            refine Flow.wp_region_segs Flow.Later Flow.Later.refl Flow.Later.trans [([0, 1, 2, 3, 4, 5, 6, 7, 8, 9, 10, 11, 12, 13, 14, 15, 16, 17, 18, 19, 20, 21, 22, 23], 24), ([], 25)] [26, 27] (by kernel_rfl) (by kernel_rfl) ?_
            have b' : Below wr.heap.size wr (World.drew wr) := (Below.refl _ _).drew
            have RE1 := Lib.hid (RE4.out.below b'); clear RE4
            have B1 := Lib.hid b'
            clear b'
            generalize World.drew _ = w1 at *
            have cd0 := Below.cellv (B1.out.tr (by first | exact Below.refl _ _ | exact below_new _ _)) cd
            have qd0 : ∀ t : Flow.Cls (Flow.Later w1), t.val.cell? _ = some (i64 d) := fun t => Flow.cls_cell cd0 t
            have cn0 := Below.cellv (B1.out.tr (by first | exact Below.refl _ _ | exact below_new _ _)) cn
            have qn0 : ∀ t : Flow.Cls (Flow.Later w1), t.val.cell? _ = some (enS n) := fun t => Flow.cls_cell cn0 t
            have cv0 := Below.cellv (B1.out.tr (by first | exact Below.refl _ _ | exact below_new _ _)) cw
            have qv0 : ∀ t : Flow.Cls (Flow.Later w1), t.val.cell? _ = some (enS wd) := fun t => Flow.cls_cell cv0 t
            haveI nonE := Flow.cls_nonempty w1
            rw [Flow.wpSegs_cons]
            simp only [Flow.pick, List.getElem?_toArray, List.getElem?_cons_succ, List.getElem?_cons_zero]
            repeat go_big_quiet_step (fail)
            refine wpQuiet_nil ?_
            clear nonE qd0 cd0 qn0 cn0 qv0 cv0
            rw [Flow.callAt_eq]
            simp only [List.getElem?_toArray, List.getElem?_cons_succ, List.getElem?_cons_zero]
            rw [if_pos (by rfl)]
            refine Flow.wp_behind (fun K0 hK => ?_)
            go_wp2_with fail
            refine (HOF.out _ (RE1.out.below (by first | exact Below.refl _ _ | exact below_new _ _))).mono ?_; rintro e w2 ⟨rfl, b⟩
            have b' : Below w1.heap.size w1 w2 := Below.tr (by first | exact Below.refl _ _ | exact below_new _ _) b
            clear b
            refine hK.out _ _ ⟨b', ?_⟩
            clear hK K0
            have RE2 := Lib.hid (RE1.out.below b'); clear RE1
            have B2 := Lib.hid (B1.out.tr b'); clear B1
            clear b'
            haveI nonE := Flow.cls_nonempty w2
            rw [Flow.wpSegs_cons]
            simp only [Flow.pick]
            refine wpQuiet_nil ?_
            clear nonE 
            rw [Flow.callAt_eq]
            simp only [List.getElem?_toArray, List.getElem?_cons_succ, List.getElem?_cons_zero]
            rw [if_pos (by rfl)]
            refine Flow.wp_behind (fun K0 hK => ?_)
            go_wp2_with fail
            refine (HLI.out _).mono ?_; rintro e w3 ⟨rfl, b⟩
            have b' : Below w2.heap.size w2 w3 := Below.tr (by first | exact Below.refl _ _ | exact below_new _ _) b
            clear b
            refine hK.out _ _ ⟨b', ?_⟩
            clear hK K0
            have RE3 := Lib.hid (RE2.out.below b'); clear RE2
            have B3 := Lib.hid (B2.out.tr b'); clear B2
            clear b'
            haveI nonE := Flow.cls_nonempty w3
            rw [Flow.wpSegs_nil]
            simp only [Flow.pick, List.getElem?_toArray, List.getElem?_cons_succ, List.getElem?_cons_zero]
            repeat go_big_quiet_step (fail)
            refine wpQuiet_nil ?_
            clear nonE 
            have S5 := Lib.hid (S4.out.tr B3.out)
            clear B3 RE3 cd cn cw k1 k2 HOF HLI hll cwT
            have FIN : Hid (s4 = s2 ++ (ns.take (j + 1)).flatMap fun n => lineN q n (cntM (ms.map (·.e)) q n d d)) := Lib.hid (by (show s4 = _); rw [FT3.out, ← HS4.out, HS3.out, List.append_assoc])
            clear FT3 HS4 HS3
            go_wp2_with fail
            go_roundg (ns.length - (j + 1))
            case measure => omega
            case rel => exact ⟨j + 1, s4, by omega, by omega, by go_num, rfl, by omega, FIN, S5⟩
          · obtain rfl : j = ns.length := by omega
            have FIN : Hid (s3 = s1 ++ kindsU (kindM (ms.map (·.e)) d) ((q + 1 : Nat) : Int)) := Lib.hid (by (show s3 = _); rw [show ((q + 1 : Nat) : Int) = (q : Int) + 1 by omega, kindsU_succ _ (by omega), KE.out, HS3.out, HS2.out, List.take_length, List.append_assoc])
            clear HS3 KE
            have S6 := Lib.hid (S3.out.tr S4.out)
            go_wp2_with fail
            go_roundg (4 - (q + 1))
            case measure => omega
            case rel => exact ⟨q + 1, s3, by omega, by omega, by omega, .inl hbd, by go_num, rfl, by omega, FIN, S6⟩
    · obtain rfl : i = ds.length := by omega
      rw [List.take_length] at HS0
      have REx := Lib.hid (RE0.out.below S.out)
      have Bx := Lib.hid (B0.out.tr S.out)
      clear S RE0 R0 B0 HN0 WD HOf HAll HKL HBN
      go_wp2_with fail
      refine (HSZ.out _ REx.out).mono ?_; rintro e w2 ⟨rfl, b2⟩
      have B2 := Lib.hid (Bx.out.tr b2)
      clear b2 REx Bx HSZ
      obtain ⟨zs, hzs⟩ : ∃ z, sizesL (ms.map (·.e)) = z := ⟨_, rfl⟩
      rw [hzs] at hzb hzl TM ⊢
      clear hzs
      obtain ⟨Z, hZ⟩ : ∃ Z, (zs.map i64).toArray = Z := ⟨_, rfl⟩
      have HZ := Lib.hid hZ
      rw [hZ]
      clear hZ
      have HZs : Hid (Z.size = 18) := Lib.hid (by (show _ = _); rw [← HZ.out]; simpa using hzl)
      have HZ1 : Hid (Z.all (·.oneCell') = true) := Lib.hid (by (show _ = _); rw [← HZ.out]; exact all_oneCell_toArray (one_map_i64 _))
      go_wp2_with (refine wpList_store_new rfl 63 _ _ rfl _ Z rfl rfl (by rw [HZs.out]; kernel_rfl) (by rw [HZs.out]; rfl) HZ1.out ?_)
      have BN := Lib.hid (below_new w2 (.cells Z 63))
      have BW := Lib.hid (blk_new w2 (.cells Z 63))
      have B3 := Lib.hid (B2.out.tr BN.out)
      have CZ : Hid (∀ k : Nat, k < 18 → (w2.alloc (.cells Z 63)).cell? ⟨w2.heap.size, k, none⟩ = some (i64 (zs.getD k 0))) := Lib.hid fun k hk => by
        rw [blk_cell BW.out k, ← HZ.out, List.getElem?_toArray, List.getElem?_map, List.getElem?_eq_getElem (by omega), List.getD_eq_getElem?_getD, List.getElem?_eq_getElem (by omega)]; rfl
      clear BN BW B2 HZ HZs HZ1
      obtain ⟨bz, hbz⟩ : ∃ b, w2.heap.size = b := ⟨_, rfl⟩
      simp only [hbz] at CZ ⊢
      clear hbz
      generalize w2.alloc (.cells Z 63) = w3 at *
      have HNU := Lib.hid (fun W n (h0 : 0 ≤ n) (h1 : n ≤ 1000000000000000) => num_at n W h0 h1)
      go_loopg [5, 13] 18 (fun gg sv kv wz => ∃ (k : Nat) (s : List UInt8), k ≤ 18 ∧ 18 - k ≤ gg ∧ kv = .int .i64 k ∧ sv = enS s ∧ s.length ≤ 40000000 + 1000 * k ∧ Hid (s = s0 ++ sizesU zs k) ∧ Hid (Below w3.heap.size w3 wz))
      case atStart => exact ⟨0, s0, by omega, by omega, rfl, rfl, by omega, Lib.hid (by (show s0 = _); simp [sizesU]), Lib.hid (Below.refl _ _)⟩
      case round =>
        obtain ⟨k, s, hk, hgk, rfl, rfl, hsl, HS, S⟩ := hrel
        by_cases hlt : k < 18
        · have cz := Below.cellv S.out (CZ.out k hlt)
          have hzk := hzb k
          have FSz := Lib.hid (sizesU_succ zs k)
          have HLN : Hid (sizeLn k (zs.getD k 0) = if zs.getD k 0 = 0 then [] else [115, 105, 122, 101, 32] ++ dg k ++ [32] ++ dg (zs.getD k 0) ++ [10]) := Lib.hid (by (show _ = _); unfold sizeLn wordT; simp)
          rw [show sizeLn k (zs.getD k 0) = _ from HLN.out] at FSz
          clear HLN
          generalize zs.getD k 0 = x at *
          by_cases hx : 0 < x
          · have hxt : decide (0 < x) = true := decide_eq_true hx
            have HN1 := Lib.hid (fun W => num_at (k : Int) W (by omega) (by omega))
            have HN2 := Lib.hid (fun W => num_at x W (by omega) (by omega))
            have l1 := dg_len (n := (k : Int)) (by omega) (by omega)
            have l2 := dg_len (n := x) (by omega) (by omega)
            have FS2 : Hid (s0 ++ sizesU zs (k + 1) = s ++ [115, 105, 122, 101, 32] ++ dg k ++ [32] ++ dg x ++ [10]) := Lib.hid (by (show _ = _); rw [FSz.out, if_neg (by omega), HS.out]; simp only [List.append_assoc])
            clear FSz HS
            generalize dg (k : Int) = dk at *
            generalize dg x = dx at *
            have k1 := run_catT s [115, 105, 122, 101, 32] (by simp; omega)
            obtain ⟨t1, ht1⟩ : ∃ t, s ++ [115, 105, 122, 101, 32] = t := ⟨_, rfl⟩
            have m1 : t1.length = s.length + 5 := by rw [← ht1]; simp
            rw [ht1] at k1 FS2; clear ht1
            have k2 := run_catT t1 dk (by omega)
            obtain ⟨t2, ht2⟩ : ∃ t, t1 ++ dk = t := ⟨_, rfl⟩
            have m2 : t2.length = t1.length + dk.length := by rw [← ht2]; simp
            rw [ht2] at k2 FS2; clear ht2
            have k3 := run_catT t2 [32] (by simp; omega)
            obtain ⟨t3, ht3⟩ : ∃ t, t2 ++ [32] = t := ⟨_, rfl⟩
            have m3 : t3.length = t2.length + 1 := by rw [← ht3]; simp
            rw [ht3] at k3 FS2; clear ht3
            have k4 := run_catT t3 dx (by omega)
            obtain ⟨t4, ht4⟩ : ∃ t, t3 ++ dx = t := ⟨_, rfl⟩
            have m4 : t4.length = t3.length + dx.length := by rw [← ht4]; simp
            rw [ht4] at k4 FS2; clear ht4
            have k5 := run_catT t4 [10] (by simp; omega)
            obtain ⟨t5, ht5⟩ : ∃ t, t4 ++ [10] = t := ⟨_, rfl⟩
            have m5 : t5.length = t4.length + 1 := by rw [← ht5]; simp
            rw [ht5] at k5 FS2; clear ht5
            have CZk := Lib.hid cz
            clear cz
            have cz := CZk.out
            go_wp2_with fail
            clear cz
            refine Flow.wp_region_segs Flow.Later Flow.Later.refl Flow.Later.trans [([0, 1, 2, 6, 7, 8], 3), ([4, 5], 9)] [10, 11, 12] (by kernel_rfl) (by kernel_rfl) ?_
            have b' : Below wr.heap.size wr (World.drew wr) := (Below.refl _ _).drew
            have B1 := Lib.hid b'
            clear b'
            generalize World.drew _ = w1 at *
            have cz0 := Below.cellv (B1.out.tr (by first | exact Below.refl _ _ | exact below_new _ _)) CZk.out
            have qz0 : ∀ t : Flow.Cls (Flow.Later w1), t.val.cell? _ = some (i64 x) := fun t => Flow.cls_cell cz0 t
            haveI nonE := Flow.cls_nonempty w1
            rw [Flow.wpSegs_cons]
            simp only [Flow.pick, List.getElem?_toArray, List.getElem?_cons_succ, List.getElem?_cons_zero]
            repeat go_big_quiet_step (fail)
            refine wpQuiet_nil ?_
            clear nonE qz0 cz0
            rw [Flow.callAt_eq]
            simp only [List.getElem?_toArray, List.getElem?_cons_succ, List.getElem?_cons_zero]
            rw [if_pos (by rfl)]
            refine Flow.wp_behind (fun K0 hK => ?_)
            go_wp2_with fail
            refine (HN1.out _).mono ?_; rintro e w2 ⟨rfl, b⟩
            have b' : Below w1.heap.size w1 w2 := Below.tr (by first | exact Below.refl _ _ | exact below_new _ _) b
            clear b
            refine hK.out _ _ ⟨b', ?_⟩
            clear hK K0
            have B2 := Lib.hid (B1.out.tr b'); clear B1
            clear b'
            haveI nonE := Flow.cls_nonempty w2
            rw [Flow.wpSegs_cons]
            simp only [Flow.pick, List.getElem?_toArray, List.getElem?_cons_succ, List.getElem?_cons_zero]
            repeat go_big_quiet_step (fail)
            refine wpQuiet_nil ?_
            clear nonE 
            rw [Flow.callAt_eq]
            simp only [List.getElem?_toArray, List.getElem?_cons_succ, List.getElem?_cons_zero]
            rw [if_pos (by rfl)]
            refine Flow.wp_behind (fun K0 hK => ?_)
            go_wp2_with fail
            refine (HN2.out _).mono ?_; rintro e w3 ⟨rfl, b⟩
            have b' : Below w2.heap.size w2 w3 := Below.tr (by first | exact Below.refl _ _ | exact below_new _ _) b
            clear b
            refine hK.out _ _ ⟨b', ?_⟩
            clear hK K0
            have B3 := Lib.hid (B2.out.tr b'); clear B2
            clear b'
            haveI nonE := Flow.cls_nonempty w3
            rw [Flow.wpSegs_nil]
            simp only [Flow.pick, List.getElem?_toArray, List.getElem?_cons_succ, List.getElem?_cons_zero]
            repeat go_big_quiet_step (fail)
            refine wpQuiet_nil ?_
            clear nonE 
            have S5 := Lib.hid (S.out.tr B3.out)
            clear B3 k1 k2 k3 k4 k5 HN1 HN2 CZk
            go_wp2_with fail
            go_roundg (18 - (k + 1))
            case measure => omega
            case rel => exact ⟨k + 1, t5, by omega, by omega, by go_num, rfl, by omega, Lib.hid FS2.out.symm, S5⟩
          · obtain rfl : x = 0 := by omega
            have hxt : decide (0 < (0 : Int)) = false := rfl
            have HS' : Hid (s = s0 ++ sizesU zs (k + 1)) := Lib.hid (by (show _ = _); rw [FSz.out, if_pos rfl, List.append_nil]; exact HS.out)
            clear FSz HS
            go_wp2_with fail
            clear cz
            go_roundg (18 - (k + 1))
            case measure => omega
            case rel => exact ⟨k + 1, s, by omega, by omega, by go_num, rfl, by omega, HS', S⟩
        · obtain rfl : k = 18 := by omega
          go_wp2_with fail
          go_ret
          exact ⟨by rw [TM.out, ← HS0.out, ← HS.out]; rfl, B3.out.tr S.out⟩
end Go.Proofs.YthgefcoaaommkaaGreatDoor
