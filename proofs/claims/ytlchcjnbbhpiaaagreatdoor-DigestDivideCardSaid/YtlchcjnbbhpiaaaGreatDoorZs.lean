/- The walk of write: the items and the end. -/
import Derived.Test.YtlchcjnbbhpiaaaGreatDoorZg
namespace Go.Proofs.YtlchcjnbbhpiaaaGreatDoor
open Go.RowKit Go.Shelf Go.Dg Go.Rg
attribute [local go_sem] Oper.semAt_some
theorem vld_min {m : Int} (h : minB m = true) : Dt.vld m = true := by
 unfold minB at h
 simp only [Bool.and_eq_true, decide_eq_true_eq] at h
 unfold Dt.vld
 simp [h.1, h.2]
structure DgOk (d : Dg) : Prop where
 n : d.its.length ≤ 100000
 ti : d.ti.length ≤ 1000000000
 vo : 0 ≤ d.vo ∧ d.vo ≤ 1000000000
 ie : 0 ≤ d.ie ∧ d.ie ≤ 1000000000
 da : minB d.da = true
 it : ∀ x ∈ d.its, minB x.dt = true ∧ x.ky.length = 32 ∧ x.su.length ≤ 10000 ∧ x.bo.length ≤ 1000000000
set_option maxRecDepth 100000 in
set_option maxHeartbeats 16000000 in
theorem write_tail (F s M : Nat) (T : List UInt8 → World → Prop) (ti : List UInt8) (vo ie da : Int) (its : List It) (A : Option Addr) (c b2 : Nat) (w0 w : World) (t : List UInt8) (L0 : List (List UInt8)) (hSk : Sink F s w0.heap.size M T)
  (hL : tLs ⟨ti, vo, ie, da, its⟩ = L0 ++ its.flatMap itLs ++ [wEnd ++ headT ⟨ti, vo, ie, da, its⟩]) (hT : T (t ++ unl L0) w) (hb : Below w0.heap.size w0 w) (hr : RdI w0 A its) (_hc : its.length ≤ c) (ht : Tab w0) (hok : DgOk ⟨ti, vo, ie, da, its⟩)
  (hM : t.length + (textD ⟨ti, vo, ie, da, its⟩).length ≤ M)
  (hD : w.heap[b2]? = some (.cells #[enS ti, i64 vo, i64 ie, i64 da, .slice A its.length c] 32 (0, 0))) (hO : w.heap[b2 + 1]? = some (.cells #[.func (.func F) #[] #[.pointer (some ⟨s, 0, none⟩)]] 138 (0, 0))) (hs : s < b2)
  (v0 v1 v4 v5 v6 v7 v8 v9 v10 v11 v12 v13 v14 v15 v16 v17 v18 v19 v20 v21 v22 v23 v24 v25 v26 v27 v28 v29 v30 v31 v32 v33 v34 v35 v36 v37 v38 v39 v40 v41 v42 v43 v44 v45 v46 v47 v48 v49 v50 v51 v52 v53 v54 v55 v56 v57 v58 v59 v60 v61 v62 v63 v64 v65 v66 v67 v68 v69 v70 v71 v72 v73 v74 v75 v76 v77 v78 v79 v80 v81 v82 v83 v84 v85 : Value) :
  (Flow.rest 5 Tryz.f83).wp Tryz.prog (bodyPostM Fence.wide 10 Tryz.prog Tryz.f83 fun e w' => e = .returned (.tuple #[]) ∧ T (t ++ textD ⟨ti, vo, ie, da, its⟩) w' ∧ Below w0.heap.size w0 w') ⟨#[v0, v1, .pointer (some ⟨b2, 0, none⟩), .pointer (some ⟨b2 + 1, 0, none⟩), v4, v5, v6, v7, v8, v9, v10, v11, v12, v13, v14, v15, v16, v17, v18, v19, v20, v21, v22, v23, v24, v25, v26, v27, v28, v29, v30, v31, v32, v33, v34, v35, v36, v37, v38, v39, v40, v41, v42, v43, v44, v45, v46, v47, v48, v49, v50, v51, v52, v53, v54, v55, v56, v57, v58, v59, v60, v61, v62, v63, v64, v65, v66, v67, v68, v69, v70, v71, v72, v73, v74, v75, v76, v77, v78, v79, v80, v81, v82, v83, v84, v85], []⟩ w := by
 have SK := Lib.hid hSk
 have HL := Lib.hid hL
 have HTT := Lib.hid hT
 have HB := Lib.hid hb
 have HR := Lib.hid hr
 have HTA := Lib.hid ht
 have HOK := Lib.hid hok
 have HM := Lib.hid hM
 have HD := Lib.hid hD
 have HO := Lib.hid hO
 have hn := hok.n
 have hent := hSk.ent
 simp only at hn
 obtain ⟨hNs, -⟩ := hSk.lt _ _ hT
 have hbw : b2 + 1 < w.heap.size := blk_lt hO
 have hd4 := blk_cell hD 4
 clear hSk hL hT hb hr ht hok hM hD hO
 have I0 : Hid (St T w0.heap.size s w [] (t ++ unl (L0 ++ (its.take 0).flatMap itLs)) w) := Lib.hid ⟨by simpa using HTT.out, SkB.refl _ _ _, by simp, by simp⟩
 clear HTT
 refine Flow.wp_rest rfl ?_
 go_wp2_with fail
 refine wp_loop_ghost_k (fun gg a' w' => ∃ (k : Nat) (Ds : List Nat) (u9 u10 u11 u12 u44 u45 u46 u47 u48 u49 u50 u51 u52 u53 u54 u55 u56 u57 u58 u59 u60 u61 u62 u63 u64 u65 u66 u67 u68 u69 u70 u71 u72 u73 u74 u75 u76 u77 u78 u79 u80 : Value), (k ≤ its.length ∧ its.length - k ≤ gg ∧ Hid (St T w0.heap.size s w Ds (t ++ unl (L0 ++ (its.take k).flatMap itLs)) w')) ∧ a' = ⟨#[v0, v1, .pointer (some ⟨b2, 0, none⟩), .pointer (some ⟨b2 + 1, 0, none⟩), v4, v5, v6, v7, v8, u9, u10, u11, u12, v13, v14, v15, v16, v17, v18, v19, v20, v21, v22, v23, v24, v25, v26, v27, v28, v29, v30, v31, v32, v33, v34, v35, v36, v37, v38, v39, .pointer (some ⟨b2, 4, none⟩), .slice A its.length c, .int .i64 its.length, i64 k, u44, u45, u46, u47, u48, u49, u50, u51, u52, u53, u54, u55, u56, u57, u58, u59, u60, u61, u62, u63, u64, u65, u66, u67, u68, u69, u70, u71, u72, u73, u74, u75, u76, u77, u78, u79, u80, v81, v82, v83, v84, v85], Ds.map mk⟩) its.length ⟨0, [], _, _, _, _, _, _, _, _, _, _, _, _, _, _, _, _, _, _, _, _, _, _, _, _, _, _, _, _, _, _, _, _, _, _, _, _, _, _, _, _, _, ⟨Nat.zero_le _, by omega, I0⟩, rfl⟩ ?_
 rintro gk _ wr ⟨k, Ds, u9, u10, u11, u12, u44, u45, u46, u47, u48, u49, u50, u51, u52, u53, u54, u55, u56, u57, u58, u59, u60, u61, u62, u63, u64, u65, u66, u67, u68, u69, u70, u71, u72, u73, u74, u75, u76, u77, u78, u79, u80, ⟨hk, hgg, IW⟩, rfl⟩ J K hJ hK
 clear I0
 by_cases hlt : k < its.length
 ·obtain ⟨b, o, x, rfl, hbl, hx, hrg, h32⟩ := (HR.out.below (HB.out.trans IW.out.k.below)).at_ hlt
  have HRG := Lib.hid hrg
  have HSZ := Lib.hid it_size
  obtain ⟨hdt, hky, hsu, hbo⟩ := HOK.out.it x (List.mem_of_getElem? hx)
  have HDT := Lib.hid (vld_min hdt)
  have HX := Lib.hid hx
  have HKY := Lib.hid hky
  have BI := Lib.hid (blk_new wr (.cells (itL x).toArray 59))
  have bi := below_new wr (.cells (itL x).toArray 59)
  have hNw := HB.out.size
  have hsw : s < w.heap.size := by omega
  have hww := IW.out.size
  have S1 := Lib.hid (IW.out.below SK.out hNw hsw bi)
  obtain ⟨c0, c1, c2, c35⟩ := it_cells BI.out
  have hib : s < wr.heap.size := by omega
  have h36 := HRG.out
  clear hrg hdt hky hx bi IW
  go_wp2_with (first | refine wpList_load_mid rfl 59 _ rfl b (o + k * 36) rfl (itL x) _ HRG.out Tryz.underlying59 rfl (by rw [itL_length]; exact HSZ.out) ?_ | refine wpList_store_new rfl 59 _ _ rfl _ (itL x).toArray rfl rfl (by simp [itL_length, HSZ.out]) (by simp [itL_length]) (all_oneCell_toArray (one_itL x)) ?_)
  clear c0 c1 c2 c35
  refine (Dt.format_yes x.dt _ HDT.out (HTA.out.below (HB.out.trans S1.out.k.below))).mono ?_; rintro e w2 ⟨rfl, b2'⟩
  have S2 := Lib.hid (S1.out.below SK.out hNw hsw b2')
  have I2 := Lib.hid (blk_below b2' BI.out)
  obtain ⟨ib, hib2⟩ : ∃ n, wr.heap.size = n := ⟨_, rfl⟩
  simp only [hib2] at hib I2 ⊢
  clear b2' S1 BI HRG hib2
  go_wp2_with fail
  refine Flow.wp_region_segs (SkB w0.heap.size s) (SkB.refl _ _) (fun _ _ _ h k => h.trans k) [([0, 1, 2, 3, 4, 5, 6, 7], 8), ([], 9), ([], 10)] [] (by kernel_rfl) (by kernel_rfl) ?_
  have b' : Below w2.heap.size w2 (World.drew w2) := (Below.refl _ _).drew
  have S3 := Lib.hid (S2.out.below SK.out hNw hsw b')
  have I3 := Lib.hid (blk_below b' I2.out)
  clear b' S2 I2
  generalize World.drew w2 = w3 at *
  have O3 := Lib.hid (S3.out.blk HO.out (by omega) (by decide))
  have K0 : ∀ (g : Nat) (cs : Array Value) (ty : TypeId) (fr : Nat × Nat), w3.heap[g]? = some (.cells cs ty fr) → g ≠ s → ty ≠ 5 → ∀ t : Flow.Cls (SkB w0.heap.size s w3), t.val.heap[g]? = some (.cells cs ty fr) := fun g cs ty fr hg h1 h2 t => t.2.blk hg h1 h2
  have z0 := fun t => blk_cell (K0 _ _ _ _ O3.out (by omega) (by decide) t) 0
  have z1 := fun t => (it_cells (K0 _ _ _ _ I3.out (by omega) (by decide) t)).1
  have z2 := fun t => (it_cells (K0 _ _ _ _ I3.out (by omega) (by decide) t)).2.2.1
  haveI nonE : Nonempty (Flow.Cls (SkB w0.heap.size s w3)) := ⟨⟨w3, SkB.refl _ _ _⟩⟩
  rw [Flow.wpSegs_cons]
  simp only [Flow.pick, List.getElem?_toArray, List.getElem?_cons_succ, List.getElem?_cons_zero]
  iterate 7 go_big_quiet_step (fail)
  refine BigFrame.wpQuiet_want rfl (fun K hK => quiet_load_mid 57 _ rfl ib 3 rfl (idL x.ky) _ (fun _ he => by obtain ⟨t, rfl⟩ := he; exact it_ky (K0 _ _ _ _ I3.out (by omega) (by decide) t)) Tryz.underlying57 rfl (by rw [idL_length]; kernel_rfl) (hK _ ?_))
  clear hK K
  simp only [Act.put, List.setIfInBounds_toArray, List.set_cons_succ, List.set_cons_zero]
  refine wpQuiet_nil ?_
  clear nonE z0 z1 z2 K0
  rw [Flow.callAt_eq]
  simp only [List.getElem?_toArray, List.getElem?_cons_succ, List.getElem?_cons_zero]
  rw [if_pos (by rfl)]
  refine Flow.wp_behind (fun K hK => ?_)
  go_wp2_with fail
  refine (print_any x.ky _ HKY.out).mono ?_; rintro e w4 ⟨rfl, b4⟩
  refine hK.out _ _ ⟨SkB.of_below b4 (by have := S3.out.size; omega), ?_⟩
  clear hK K
  have S4 := Lib.hid (S3.out.below SK.out hNw hsw b4)
  have I4 := Lib.hid (blk_below b4 I3.out)
  clear b4 S3 I3 O3
  rw [Flow.wpSegs_cons]
  simp only [Flow.pick]
  refine wpQuiet_nil ?_
  rw [Flow.callAt_eq]
  simp only [List.getElem?_toArray, List.getElem?_cons_succ, List.getElem?_cons_zero]
  rw [if_pos (by rfl)]
  refine Flow.wp_behind (fun K hK => ?_)
  go_wp2_with fail
  refine hK.out _ _ ⟨SkB.of_below (below_new _ _) (by have := S4.out.size; omega), ?_⟩
  clear hK K
  generalize hw5 : w4.alloc _ = w5
  have PB := Lib.hid (hw5 ▸ parts_new (w := w4) [[70, 114, 111, 109, 58, 32], x.fr, [10, 68, 97, 116, 101, 58, 32], fm x.dt, [10, 83, 117, 98, 106, 101, 99, 116, 58, 32], x.su, [10, 77, 101, 115, 115, 97, 103, 101, 45, 73, 68, 58, 32], prId x.ky, [10, 10]] rfl)
  have b5 : Below w4.heap.size w4 w5 := hw5 ▸ below_new _ _
  have S5 := Lib.hid (S4.out.below SK.out hNw hsw b5)
  have I5 := Lib.hid (blk_below b5 I4.out)
  clear b5 S4 I4 hw5
  rw [Flow.wpSegs_cons]
  simp only [Flow.pick]
  refine wpQuiet_nil ?_
  rw [Flow.callAt_eq]
  simp only [List.getElem?_toArray, List.getElem?_cons_succ, List.getElem?_cons_zero]
  rw [if_pos (by rfl)]
  refine Flow.wp_behind (fun K hK => ?_)
  go_wp2_with fail
  have HLx := Lib.hid (HL.out.trans (by rw [flatMap_at itLs HX.out, itLs_eq]))
  refine (SK.out.call w5 _ w4.heap.size [[70, 114, 111, 109, 58, 32], x.fr, [10, 68, 97, 116, 101, 58, 32], fm x.dt, [10, 83, 117, 98, 106, 101, 99, 116, 58, 32], x.su, [10, 77, 101, 115, 115, 97, 103, 101, 45, 73, 68, 58, 32], prId x.ky, [10, 10]] S5.out.t PB.out (by simp) (by simp) (len_more HM.out (R := prL (pcs x.bo) ++ [sepT] ++ (its.drop (k + 1)).flatMap itLs ++ [wEnd ++ headT ⟨ti, vo, ie, da, its⟩]) (by rw [HLx.out]; simp) (hdL_flat x))).mono ?_; rintro e w6 ⟨rfl, t6, k6⟩
  rw [more_eq (hdL_flat x)] at t6
  refine hK.out _ _ ⟨k6, ?_⟩
  clear hK K
  have S6 := Lib.hid (S5.out.call hsw t6 k6)
  have I6 := Lib.hid (k6.blk I5.out (by omega) (by decide))
  clear t6 k6 S5 I5 PB
  rw [Flow.wpSegs_nil]
  simp only [Flow.pick]
  refine wpQuiet_nil ?_
  have c35 := (it_cells I6.out).2.2.2
  go_wp2_with fail
  clear c35 I6
  have hbo : x.bo.length ≤ 1000000000 := hbo
  refine (splitSeq_any x.bo w6).mono ?_; rintro e w7 ⟨rfl, rfl⟩
  have b7 := below_new w6 (.cells #[enS x.bo] 9)
  have b8 := below_new (w6.alloc (.cells #[enS x.bo] 9)) (.cells #[.string ⟨#[10]⟩] 9)
  have b9 := below_new ((w6.alloc (.cells #[enS x.bo] 9)).alloc (.cells #[.string ⟨#[10]⟩] 9)) (.cells #[.int .i64 0] 3)
  have n7 := blk_new w6 (.cells #[enS x.bo] 9)
  have n8 := blk_new (w6.alloc (.cells #[enS x.bo] 9)) (.cells #[.string ⟨#[10]⟩] 9)
  have n9 := blk_new ((w6.alloc (.cells #[enS x.bo] 9)).alloc (.cells #[.string ⟨#[10]⟩] 9)) (.cells #[.int .i64 0] 3)
  rw [World.size_alloc] at n8
  rw [World.size_alloc, World.size_alloc] at n9
  have S9 := Lib.hid (S6.out.below SK.out hNw hsw ((b7.tr b8).tr b9))
  have Q9 : Hid (SqD w6.heap.size _ x.bo) := Lib.hid ⟨blk_below (b8.tr b9) n7, blk_below b9 n8, n9⟩
  have hs9 : (((w6.alloc (.cells #[enS x.bo] 9)).alloc (.cells #[.string ⟨#[10]⟩] 9)).alloc (.cells #[.int .i64 0] 3)).heap.size = w6.heap.size + 3 := by simp
  have hs6 := S6.out.size
  generalize ((w6.alloc (.cells #[enS x.bo] 9)).alloc (.cells #[.string ⟨#[10]⟩] 9)).alloc (.cells #[.int .i64 0] 3) = w9 at *
  clear b7 b8 b9 n7 n8 n9 S6
  generalize w6.heap.size = bs at *
  go_wp2_with fail
  obtain ⟨Lx, hLx⟩ : ∃ q, L0 ++ (its.take k).flatMap itLs ++ hdL x = q := ⟨_, rfl⟩
  have S9 : Hid (St T w0.heap.size s w Ds (t ++ unl (Lx ++ prL [])) w9) := Lib.hid (by rw [← hLx]; simpa [prL] using S9.out)
  have HLX := Lib.hid hLx
  have hRR : tLs ⟨ti, vo, ie, da, its⟩ = Lx ++ prL (pcs x.bo) ++ ([sepT] ++ (its.drop (k + 1)).flatMap itLs ++ [wEnd ++ headT ⟨ti, vo, ie, da, its⟩]) := by
   rw [← hLx, HL.out, flatMap_at itLs HX.out, itLs_eq]; simp
  have HRR := Lib.hid hRR
  clear hLx hRR
  refine (wpIn_wide (n := 10)).1 ?_
  generalize ha : Act.mk _ _ = a
  refine rangeAll (F := Fence.wide) (n := 10) rfl (by omega) (gf := 135) (lb := #[.pointer (some ⟨bs + 1, 0, none⟩), .pointer (some ⟨bs, 0, none⟩), .pointer (some ⟨bs + 2, 0, none⟩)]) (by rw [← ha]; rfl) trivial (enters_of Tryz.func135 (by kernel_rfl) rfl)
   (splitSeq1_all 9 (by omega) bs x.bo hbo w9 Q9.out) (fun i _ _ => rfl) rfl (fun h k => h.trans k)
   (fun A o hA i h1 h2 => Below.heap_alloc _ _ _ (by omega)) (fun A l r o' hl hr i h1 h2 => World.putObj_heap_other (by omega))
   (fun A B i hw hi hst => by obtain ⟨v, rfl⟩ := hst; exact blk_set_ne _ _ (by omega))
   (fun pre W => St T w0.heap.size s w Ds (t ++ unl (Lx ++ prL pre)) W ∧ SqT bs W)
   (fun pre A o hA hI => ⟨hI.1.below SK.out hNw hsw (below_new _ _), hI.2.keep (fun i h1 h2 => Below.heap_alloc _ _ _ (by omega))⟩)
   (fun pre A l r o' hl hr hI => ⟨hI.1.putL SK.out hr hNw (by omega) hsw o', hI.2.keep (fun i h1 h2 => World.putObj_heap_other (by omega))⟩)
   (fun pre A B hI hst => by
    obtain ⟨v, rfl⟩ := hst
    obtain ⟨⟨q, hq⟩, -, -⟩ := hI.2
    exact ⟨hI.1.setC SK.out hq hNw (by omega) hsw v, hI.2.set v⟩)
   ⟨S9.out, SqT.of Q9.out⟩
   (fun p => { tmps := (a.tmps.setIfInBounds 67 (enS p)).setIfInBounds 12 (enS p), defers := [] }) ?assign ?body ?done
  case assign =>
   intro l p W K hK
   subst ha
   simp only [List.setIfInBounds_toArray, List.set_cons_succ, List.set_cons_zero] at hK
   gi_wp2
   exact hK
  case body =>
   intro l pre p W hI hWs hd hl hx
   obtain ⟨h1, h2⟩ := hI
   have SI := Lib.hid h1
   have QI := Lib.hid h2
   have HDD := Lib.hid hd
   have HLL := Lib.hid hl
   obtain ⟨r, hr⟩ := hx
   have HLEN : Hid ((t ++ unl (Lx ++ prL pre) ++ dash p ++ (p ++ [10])).length ≤ M) := Lib.hid (by
    rw [piece_eq]
    exact len_pre HM.out (R := prL r ++ ([sepT] ++ (its.drop (k + 1)).flatMap itLs ++ [wEnd ++ headT ⟨ti, vo, ie, da, its⟩])) (by rw [HRR.out, hr]; simp [prL]))
   subst ha
   simp only [List.setIfInBounds_toArray, List.set_cons_succ, List.set_cons_zero]
   have ho := blk_cell (h1.blk HO.out (by omega) (by decide)) 0
   have hsW := h1.size
   clear h1 h2 hd hl hr
   gi_wp2_with fail
   refine ⟨trivial, ((callsIn_wide.2 (hasPre p [45] W)).inRound l).mono ?_⟩
   rintro e W2 ⟨rfl, rfl⟩
   rw [pre45]
   by_cases h45 : p.head? = some 45
   ·have DY := Lib.hid (dash_yes h45)
    rw [decide_eq_true h45]
    clear h45
    gi_wp2_with fail
    refine ⟨trivial, ((callsIn_wide.2 (sink_step SI.out SK.out hNw hsw [[45, 32]] _ rfl (by simp) (by simp) (by have := HLEN.out; rw [DY.out] at this; simp only [List.length_append, List.flatten_cons, List.flatten_nil, List.append_nil] at this ⊢; omega))).inRound l).mono ?_⟩
    rintro e W2 ⟨rfl, S2, k2, -⟩
    have SX : Hid (St T w0.heap.size s w Ds (t ++ unl (Lx ++ prL pre) ++ dash p) W2) := Lib.hid (by rw [DY.out]; simpa using S2)
    have K2 := Lib.hid k2
    have ho := blk_cell (S2.blk HO.out (by omega) (by decide)) 0
    clear k2 S2
    gi_wp2_with fail
    refine ⟨trivial, ((callsIn_wide.2 (sink_step SX.out SK.out hNw hsw [p, [10]] _ rfl (by simp) (by simp) (by have := HLEN.out; simp only [List.flatten_cons, List.flatten_nil, List.append_nil]; rw [List.length_append (bs := p ++ [10])] at this; exact this))).inRound l).mono ?_⟩
    rintro e W3 ⟨rfl, S3, k3, -⟩
    have S3 : Hid (St T w0.heap.size s w Ds (t ++ unl (Lx ++ prL (pre ++ [p]))) W3) := Lib.hid (by rw [← piece_eq]; simpa using S3)
    have KW : Hid (SkB w0.heap.size s W W3) := Lib.hid (K2.out.trans k3)
    clear k3
    gi_wp2_with fail
    obtain ⟨rr, hrr⟩ := HLL.out
    refine ⟨⟨(KW.out.obj HDD.out (by omega) (by intro c t fz e; cases e)).trans HDD.out.symm, (KW.out.obj hrr (by omega) (by intro c t fz e; cases e)).trans hrr.symm⟩, QI.out.sk (by omega) KW.out, S3.out, QI.out.keep (QI.out.sk (by omega) KW.out)⟩
   ·have DY := Lib.hid (dash_no h45)
    rw [decide_eq_false h45]
    clear h45
    have SX : Hid (St T w0.heap.size s w Ds (t ++ unl (Lx ++ prL pre) ++ dash p) W) := Lib.hid (by rw [DY.out, List.append_nil]; exact SI.out)
    gi_wp2_with fail
    refine ⟨trivial, ((callsIn_wide.2 (sink_step SX.out SK.out hNw hsw [p, [10]] _ rfl (by simp) (by simp) (by have := HLEN.out; simp only [List.flatten_cons, List.flatten_nil, List.append_nil]; rw [List.length_append (bs := p ++ [10])] at this; exact this))).inRound l).mono ?_⟩
    rintro e W3 ⟨rfl, S3, k3, -⟩
    have S3 : Hid (St T w0.heap.size s w Ds (t ++ unl (Lx ++ prL (pre ++ [p]))) W3) := Lib.hid (by rw [← piece_eq]; simpa using S3)
    have KW : Hid (SkB w0.heap.size s W W3) := Lib.hid k3
    clear k3
    gi_wp2_with fail
    obtain ⟨rr, hrr⟩ := HLL.out
    refine ⟨⟨(KW.out.obj HDD.out (by omega) (by intro c t fz e; cases e)).trans HDD.out.symm, (KW.out.obj hrr (by omega) (by intro c t fz e; cases e)).trans hrr.symm⟩, QI.out.sk (by omega) KW.out, S3.out, QI.out.keep (QI.out.sk (by omega) KW.out)⟩
  case done =>
   intro W hI hd
   have SW : Hid (St T w0.heap.size s w ((bs + 3) :: Ds) (t ++ unl (Lx ++ prL (pcs x.bo))) W) := Lib.hid (by rw [← hs9]; exact ⟨hI.1.t, hI.1.k, S9.out.m.more (Nat.le_refl _) hI.1.m (by omega) hd⟩)
   subst ha
   have ho := blk_cell (hI.1.blk HO.out (by omega) (by decide)) 0
   clear hI hd
   go_wp2_with fail
   refine (sink_step SW.out SK.out hNw hsw [sepT, [10]] _ rfl (by simp) (by simp) (len_more HM.out (R := (its.drop (k + 1)).flatMap itLs ++ [wEnd ++ headT ⟨ti, vo, ie, da, its⟩]) (by rw [HRR.out]; simp) sepL_flat)).mono ?_
   rintro e W3 ⟨rfl, S3, -, -⟩
   rw [more_eq sepL_flat] at S3
   have SN : Hid (St T w0.heap.size s w ((bs + 3) :: Ds) (t ++ unl (L0 ++ (its.take (k + 1)).flatMap itLs)) W3) := Lib.hid (by
    have e : L0 ++ (its.take (k + 1)).flatMap itLs = Lx ++ prL (pcs x.bo) ++ [sepT] := by
     rw [← HLX.out, flatMap_take itLs HX.out, itLs_eq]; simp
    rw [e]; exact S3)
   clear S3 ho SW
   go_wp2_with fail
   refine Handed.intro (its.length - (k + 1)) (by omega) (hJ _ _ _ ⟨k + 1, (bs + 3) :: Ds, _, _, _, _, _, _, _, _, _, _, _, _, _, _, _, _, _, _, _, _, _, _, _, _, _, _, _, _, _, _, _, _, _, _, _, _, _, _, _, _, _, ⟨by omega, Nat.le_refl _, SN⟩, rfl⟩)
 ·obtain rfl : k = its.length := by omega
  have IE : Hid (St T w0.heap.size s w Ds (t ++ unl (L0 ++ its.flatMap itLs)) wr) := Lib.hid (by have := IW.out; rw [List.take_length] at this; exact this)
  have hNw := HB.out.size
  have hsw : s < w.heap.size := by omega
  clear IW hK hJ
  go_wp2_with fail
  refine Flow.wp_region_segs (SkB w0.heap.size s) (SkB.refl _ _) (fun _ _ _ h k => h.trans k) [([0, 1], 2), ([], 3), ([], 4)] [] (by kernel_rfl) (by kernel_rfl) ?_
  have b' : Below wr.heap.size wr (World.drew wr) := (Below.refl _ _).drew
  have S3 := Lib.hid (IE.out.below SK.out hNw hsw b')
  clear b' IE
  generalize World.drew wr = w3 at *
  have O3 := Lib.hid (S3.out.blk HO.out (by omega) (by decide))
  have D3 := Lib.hid (S3.out.blk HD.out (by omega) (by decide))
  have K0 : ∀ (g : Nat) (cs : Array Value) (ty : TypeId) (fr : Nat × Nat), w3.heap[g]? = some (.cells cs ty fr) → g ≠ s → ty ≠ 5 → ∀ t : Flow.Cls (SkB w0.heap.size s w3), t.val.heap[g]? = some (.cells cs ty fr) := fun g cs ty fr hg h1 h2 t => t.2.blk hg h1 h2
  have z0 := fun t => blk_cell (K0 _ _ _ _ O3.out (by omega) (by decide) t) 0
  haveI nonE : Nonempty (Flow.Cls (SkB w0.heap.size s w3)) := ⟨⟨w3, SkB.refl _ _ _⟩⟩
  rw [Flow.wpSegs_cons]
  simp only [Flow.pick, List.getElem?_toArray, List.getElem?_cons_succ, List.getElem?_cons_zero]
  go_big_quiet_step (fail)
  refine BigFrame.wpQuiet_want rfl (fun K hK => quiet_load_mid 32 _ rfl b2 0 rfl [enS ti, i64 vo, i64 ie, i64 da, .slice A its.length c] _ (fun _ he => by obtain ⟨t, rfl⟩ := he; exact range_blk (K0 _ _ _ _ D3.out (by omega) (by decide) t)) Tryz.underlying32 rfl (by kernel_rfl) (hK _ ?_))
  clear hK K
  simp only [Act.put, List.setIfInBounds_toArray, List.set_cons_succ, List.set_cons_zero]
  refine wpQuiet_nil ?_
  clear nonE z0 K0
  rw [Flow.callAt_eq]
  simp only [List.getElem?_toArray, List.getElem?_cons_succ, List.getElem?_cons_zero]
  rw [if_pos (by rfl)]
  refine Flow.wp_behind (fun K hK => ?_)
  go_wp2_with fail
  refine (head_any ⟨ti, vo, ie, da, its⟩ A c _ (HTA.out.below (HB.out.trans S3.out.k.below)) HOK.out.ti HOK.out.vo HOK.out.ie).mono ?_; rintro e w4 ⟨rfl, b4⟩
  refine hK.out _ _ ⟨SkB.of_below b4 (by have := S3.out.size; omega), ?_⟩
  clear hK K
  have S4 := Lib.hid (S3.out.below SK.out hNw hsw b4)
  clear b4 S3 D3 O3
  rw [Flow.wpSegs_cons]
  simp only [Flow.pick]
  refine wpQuiet_nil ?_
  rw [Flow.callAt_eq]
  simp only [List.getElem?_toArray, List.getElem?_cons_succ, List.getElem?_cons_zero]
  rw [if_pos (by rfl)]
  refine Flow.wp_behind (fun K hK => ?_)
  go_wp2_with fail
  refine hK.out _ _ ⟨SkB.of_below (below_new _ _) (by have := S4.out.size; omega), ?_⟩
  clear hK K
  have HSN := Lib.hid (fun cs (hcs : cs = (List.map enS [wEnd, headT ⟨ti, vo, ie, da, its⟩, [10]]).toArray) => sink_step S4.out SK.out hNw hsw [wEnd, headT ⟨ti, vo, ie, da, its⟩, [10]] cs hcs (by simp) (by simp) (len_more HM.out (R := []) (by rw [HL.out]; simp) (endL_flat _)))
  rw [Flow.wpSegs_cons]
  simp only [Flow.pick]
  refine wpQuiet_nil ?_
  rw [Flow.callAt_eq]
  simp only [List.getElem?_toArray, List.getElem?_cons_succ, List.getElem?_cons_zero]
  rw [if_pos (by rfl)]
  refine Flow.wp_behind (fun K hK => ?_)
  go_wp2_with fail
  refine (HSN.out _ rfl).mono ?_; rintro e w6 ⟨rfl, S6, -, k6⟩
  rw [more_eq (endL_flat _), ← HL.out] at S6
  refine hK.out _ _ ⟨k6, ?_⟩
  clear hK K
  have S6 : Hid (St T w0.heap.size s w Ds (t ++ textD ⟨ti, vo, ie, da, its⟩) w6) := Lib.hid S6
  clear k6 S4 HSN
  rw [Flow.wpSegs_nil]
  simp only [Flow.pick]
  refine wpQuiet_nil ?_
  go_wp2_with fail
  refine leave_marks (R := fun W => T (t ++ textD ⟨ti, vo, ie, da, its⟩) W ∧ Below w0.heap.size w0 W) (lo := w.heap.size) ?_ ?_ Ds w6 S6.out.m ⟨S6.out.t, HB.out.trans S6.out.k.below⟩
  ·intro W D ⟨h1, h2⟩ hd hlo
   exact ⟨SK.out.keep _ _ _ h1 (SkW.put hd (by intro c t fz e; cases e) (by omega) _), ⟨h2.os, h2.tape, h2.output, by have := h2.size; simpa [World.putObj] using this, fun k hk => (World.putObj_heap_other (by omega)).trans (h2.block k hk)⟩⟩
  ·intro W ⟨h1, h2⟩
   refine ⟨.tuple #[], ?_, rfl, h1, h2⟩
   simp [results, Tryz.results83, go_sem]
end Go.Proofs.YtlchcjnbbhpiaaaGreatDoor
