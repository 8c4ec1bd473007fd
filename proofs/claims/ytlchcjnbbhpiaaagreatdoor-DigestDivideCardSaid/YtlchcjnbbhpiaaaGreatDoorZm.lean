/- Contract: Burst. -/
import Derived.Test.YtlchcjnbbhpiaaaGreatDoorZk
import Derived.Test.YtlchcjnbbhpiaaaGreatDoorZa
namespace Go.Proofs.YtlchcjnbbhpiaaaGreatDoor
open Go.RowKit Go.Shelf Go.Dg Go.Maps
/-- What Burst returns. -/
def BuR (w' : World) (s : List UInt8) (v : Value) : Prop := match burstD s with
 | .inl d => ∃ A c, v = .tuple #[dgA d A c, i64 0, i64 0] ∧ RdI w' A d.its ∧ d.its.length ≤ c ∧ c ≤ maxLen
 | .inr q => v = .tuple #[dg0, i64 q.1, i64 q.2]
theorem BuR.err {w' : World} {s : List UInt8} {v : Value} {q : Int × Int} (h : burstD s = .inr q) (hv : v = .tuple #[dg0, i64 q.1, i64 q.2]) : BuR w' s v := by
 unfold BuR; rw [h]; exact hv
theorem BuR.yes {w' : World} {s : List UInt8} {v : Value} {d : Dg} (h : burstD s = .inl d) (A : Option Addr) (c : Nat) (hv : v = .tuple #[dgA d A c, i64 0, i64 0]) (hr : RdI w' A d.its) (hc : d.its.length ≤ c) (hm : c ≤ maxLen) : BuR w' s v := by
 unfold BuR; rw [h]; exact ⟨A, c, hv, hr, hc, hm⟩
set_option maxRecDepth 100000 in
set_option maxHeartbeats 8000000 in
theorem burst_any (s : List UInt8) (w : World) (hg : GlD w) (hl : s.length ≤ 1000000000) :
  Calls Tryz.prog 16 #[enS s] w fun e w' => (∃ v, e = .returned v ∧ BuR w' s v) ∧ Below w.heap.size w w' := by
 have hsz : (⟨s.toArray⟩ : ByteArray).size = s.length := by show s.toArray.size = _; simp
 have HG := Lib.hid hg
 clear hg
 go_enter Tryz.func16, Tryz.ntmps16
 by_cases h1 : 1048576 < s.length
 ·go_wp2_with fail
  have HR := range_blk (cs := [enS [], i64 0, i64 0, i64 0, .slice none 0 0]) (blk_new w (.cells #[enS [], i64 0, i64 0, i64 0, .slice none 0 0] 32))
  have hload := run_loadVar_mid (P := Tryz.prog) _ w.heap.size 0 32 [enS [], i64 0, i64 0, i64 0, .slice none 0 0] _ HR Tryz.underlying32 rfl (by kernel_rfl)
  exact bodyPost_ret (v := .tuple #[dg0, i64 0, i64 5]) (results_cell3 (a := 2) (i := 3) (j := 4) rfl rfl hload rfl rfl) rfl ⟨⟨_, rfl, BuR.err (q := (0, 5)) (if_pos h1) rfl⟩, below_new _ _⟩
 ·go_wp2_with fail
  generalize hw1 : World.alloc (World.alloc w _) _ = w1
  obtain ⟨lf, lt⟩ := lns_free s
  have X1 : Hid (BuX w w1 w.heap.size (w.heap.size + 1) (lns s).2 ⟨(lns s).1, 0, 0⟩ [] 0 0 0 (.slice none 0 0)) := Lib.hid ⟨⟨by
    have h := blk_new (w.alloc (.cells #[enS [], i64 0, i64 0, i64 0, .slice none 0 0] 32)) (.cells #[enS s, i64 0, i64 0] 96)
    rw [World.size_alloc] at h
    rw [← hw1, lns_eq]; exact h, lf, lt, by (show (unl (lns s).1 ++ (lns s).2).length ≤ _); rw [lns_eq]; exact hl, ⟨(show (0 : Int) ≤ 0 from Int.le_refl 0), by
    have h := congrArg List.length (lns_eq s)
    rw [List.length_append, unl_length_le] at h
    (show (0 : Int) + ((lns s).1.length : Int) + (if (0 : Int) = 0 then 1 else 0) ≤ _)
    rw [if_pos rfl]; omega⟩, HG.out, by omega, hw1 ▸ ((below_new _ _).tr (below_new _ _))⟩, hw1 ▸ blk_old _ (blk_new _ _), by omega⟩
  clear lf lt hw1
  have HN1 := Lib.hid (next_any _ _ _ w w1 X1.out.rd)
  refine HN1.out.mono ?_; rintro e w2 ⟨rfl, h1, h2⟩
  have hl1 := line_len X1.out.rd X1.out.rd.sm
  obtain ⟨A, hA⟩ : ∃ q, nextR ⟨(lns s).1, 0, 0⟩ = q := ⟨_, rfl⟩
  rw [hA] at h1 hl1 ⊢
  have HA := Lib.hid hA
  have X2 : Hid (BuX w w2 w.heap.size (w.heap.size + 1) (lns s).2 A.2 [] 0 0 0 (.slice none 0 0)) := Lib.hid (X1.out.but h1 h2)
  have B2 : Hid (Below w.heap.size w w2) := Lib.hid h1.bel
  clear h1 h2 hA HN1 X1
  have HH := Lib.hid (head_rd _ _ A.2 A.1 w w2 X2.out.rd hl1)
  go_wp2_with fail
  refine HH.out.mono ?_; rintro e w3 ⟨rfl, h1, h2⟩
  obtain ⟨B, hB⟩ : ∃ q, headR A.2 A.1 = q := ⟨_, rfl⟩
  rw [hB] at h1 ⊢
  have HB := Lib.hid hB
  have X3 : Hid (BuX w w3 w.heap.size (w.heap.size + 1) (lns s).2 B.2 [] 0 0 0 (.slice none 0 0)) := Lib.hid (X2.out.but h1 h2)
  clear h1 h2 hB HH X2 B2 hl1
  have c0 := blk_cell X3.out.dg 0
  have c1 := blk_cell X3.out.dg 1
  have c2 := blk_cell X3.out.dg 2
  have f0 := blk_free X3.out.dg 0
  have f1 := blk_free X3.out.dg 1
  have f2 := blk_free X3.out.dg 2
  have X4 := Lib.hid (((X3.out.set 0 (enS B.1.1) (ti' := B.1.1) rfl).set 1 (i64 B.1.2.1) (vo' := B.1.2.1) rfl).set 2 (i64 B.1.2.2) (ie' := B.1.2.2) rfl)
  clear X3
  have HD := Lib.hid (date_any _ _ B.2 w _ X4.out.rd (line_len X4.out.rd X4.out.rd.sm))
  go_wp2_with fail
  refine HD.out.mono ?_; rintro e w5 ⟨rfl, h1, h2⟩
  obtain ⟨C, hC⟩ : ∃ q, dateR B.2 = q := ⟨_, rfl⟩
  rw [hC] at h1 ⊢
  have HC := Lib.hid hC
  have X5 := Lib.hid (X4.out.but h1 h2)
  clear h1 h2 hC HD X4 c0 c1 c2 f0 f1 f2
  have c3 := blk_cell X5.out.dg 3
  have f3 := blk_free X5.out.dg 3
  have X6 := Lib.hid (X5.out.set 3 (i64 C.1) (da' := C.1) rfl)
  clear X5
  have HE := Lib.hid (exactly_any _ _ C.2 wTop w _ X6.out.rd)
  go_wp2_with fail
  refine HE.out.mono ?_; rintro e w7 ⟨rfl, h1, h2⟩
  have X7 := Lib.hid (X6.out.but h1 h2)
  clear h1 h2 HE X6 c3 f3
  have HCO := Lib.hid (contents_rd _ _ (exactR C.2 wTop) w _ X7.out.rd)
  go_wp2_with fail
  refine HCO.out.mono ?_; rintro e w8 ⟨⟨v8, rfl, o8⟩, h1, h2⟩
  obtain ⟨F, hF⟩ : ∃ q, consR (exactR C.2 wTop) = q := ⟨_, rfl⟩
  rw [hF] at h1 o8
  have HF := Lib.hid hF
  have X8 := Lib.hid (X7.out.but h1 h2)
  obtain ⟨A8, d8, rfl⟩ := own2_slice o8
  have O8 := Lib.hid o8
  have hs7 : w.heap.size + 1 < w7.heap.size := X7.out.rd.lt
  have hs8 : w7.heap.size ≤ w8.heap.size := h2.size
  clear h1 h2 hF HCO X7 o8
  have hmm := @run_makeMap Tryz.prog
  have X9 := Lib.hid (X8.out.below (below_new w8 (.map #[] 0)))
  have M9 := Lib.hid (setI_made w8)
  have HN9 := Lib.hid (next_any _ _ F.2 w _ X9.out.rd)
  go_wp2_with fail
  refine HN9.out.mono ?_; rintro e w10 ⟨rfl, h1, h2⟩
  have hl10 := line_len X9.out.rd X9.out.rd.sm
  obtain ⟨G, hG⟩ : ∃ q, nextR F.2 = q := ⟨_, rfl⟩
  rw [hG] at h1 hl10 ⊢
  have HG2 := Lib.hid hG
  have hsz9 : (w8.alloc (.map #[] 0)).heap.size = w8.heap.size + 1 := World.size_alloc _ _
  have hsz10 : w8.heap.size + 1 ≤ w10.heap.size := by rw [← hsz9]; exact h2.size
  have L10 : Hid (BuL w w10 w.heap.size (w.heap.size + 1) (lns s).2 G.2 B.1.1 B.1.2.1 B.1.2.2 C.1 none 0 [] [] w8.heap.size w7.heap.size w10.heap.size (.slice A8 F.1.length d8) F.1) := Lib.hid ⟨X9.out.but h1 h2, own2_nil _ _ _ _, M9.out.keep (h2.block w8.heap.size (by rw [hsz9]; omega) (by omega)), own_but (own_below O8.out (below_new _ _)) hs7 h2, fun g e => (O8.out.lt g e).2, hs7, hs8, by omega, Nat.le_refl _⟩
  clear h1 h2 hG HN9 X9 M9 hmm X8 O8 hsz9
  obtain ⟨T, hT⟩ : ∃ q, itemsF ((lns s).1.length + 1) G.2 G.1 [] = q := ⟨_, rfl⟩
  have HMU := mu_start (lns s).1
  rw [HA.out, HB.out, HC.out, HF.out, HG2.out] at HMU
  have V : Hid (burstD s = if T.1.e ≠ 0 then .inr (T.1.n, T.1.e) else if T.1.ls ≠ [] ∨ (lns s).2 ≠ [] then .inr (T.1.n + 1, 5) else if T.2.1 ≠ wEnd ++ headT ⟨B.1.1, B.1.2.1, B.1.2.2, C.1, T.2.2⟩ then .inr (T.1.n, 3) else if F.1 ≠ linesD T.2.2 then .inr (4, 21) else .inl ⟨B.1.1, B.1.2.1, B.1.2.2, C.1, T.2.2⟩) := Lib.hid (by
   (show _ = _)
   unfold burstD
   rw [if_neg h1]
   unfold burstL
   simp only [HA.out, HB.out, HC.out, HF.out, HG2.out, hT])
  have HBD : Hid (B.1.1.length ≤ 1000000000 ∧ (0 ≤ B.1.2.1 ∧ B.1.2.1 ≤ 1000000000) ∧ (0 ≤ B.1.2.2 ∧ B.1.2.2 ≤ 1000000000)) := Lib.hid (by rw [← HB.out]; exact head_bd _ _)
  have HFL : Hid (F.1.length ≤ 1000000000) := Lib.hid (by
   have h := cons_start s
   rw [HA.out, HB.out, HC.out, HF.out] at h
   exact Nat.le_trans h hl)
  have I0 := Lib.hid (And.intro L10.out (And.intro (ItsI.nil G.2) hT))
  clear L10 hT HA HB HC HF HG2
  go_wp2_with fail
  go_loopg [8, 9] (mu G.2) (fun gg lv _ wr => ∃ (its : List It) (r' : Go.Dg.Rd) (f : Nat) (last : List UInt8) (Ai : Option Addr) (ci : Nat), mu r' ≤ gg ∧ mu r' ≤ f ∧ lv = enS last ∧ last.length ≤ 1000000000 ∧ Hid (BuL w wr w.heap.size (w.heap.size + 1) (lns s).2 r' B.1.1 B.1.2.1 B.1.2.2 C.1 Ai ci its (its.map (·.ky)) w8.heap.size w7.heap.size w10.heap.size (.slice A8 F.1.length d8) F.1 ∧ ItsI r' its ∧ itemsF f r' last its = T))
  case atStart => exact ⟨[], G.2, _, G.1, none, 0, Nat.le_refl _, HMU, rfl, hl10, I0⟩
  case round =>
   obtain ⟨its, r', f, last, Ai, ci, hgg, hf, rfl, hll, II⟩ := hrel
   have ce := blk_cell II.out.1.bu.rd.blk 2
   have c4 := blk_cell II.out.1.bu.dg 4
   by_cases hm : more r' last its = true
   case pos =>
    have he := more_e hm
    have q1 : (r'.e == 0) = true := by simpa using he
    have HM := Lib.hid hm
    have HE := Lib.hid he
    by_cases hn : its = []
    case' pos =>
     have q2 : ((its.length : Int) == 0) = true := by simp [hn]
     clear hn hm he
     go_wp2_with fail
    case' neg =>
     have q2 : ((its.length : Int) == 0) = false := by simpa using hn
     have q3 : wEnd.isPrefixOf last = false := by
      unfold more at hm
      simp only [Bool.and_eq_true, Bool.or_eq_true, List.isEmpty_iff, Bool.not_eq_true'] at hm
      exact hm.2.resolve_left hn
     have HP := Lib.hid (hasPre last [69, 110, 100, 32, 111, 102, 32] wr)
     have q3 : List.isPrefixOf [69, 110, 100, 32, 111, 102, 32] last = false := q3
     clear hn hm he
     go_wp2_with fail
     refine HP.out.mono ?_; rintro e w11 ⟨rfl, rfl⟩
     rw [q3]
     clear HP
     go_wp2_with fail
    all_goals
     obtain ⟨_, _, hi3⟩ := II.out.2.1
     obtain ⟨hi4, hi5, hi6⟩ := hi3 HE.out
     have HIT := Lib.hid (item_rd (w.heap.size + 1) w8.heap.size (lns s).2 r' last (its.map (·.ky)) w wr II.out.1.bu.rd hll II.out.1.set hi5 (by rw [List.length_map]; omega))
     refine HIT.out.mono ?_; rintro e w11 ⟨rfl, h1, h2⟩
     have HIN := Lib.hid (ItsI.step (l := last) II.out.1.bu.rd.fr HE.out II.out.2.1)
     have hmr := mu_round r' last (its.map (·.ky)) HE.out
     obtain ⟨f', rfl⟩ : ∃ f', f = f' + 1 := ⟨f - 1, by omega⟩
     have HST := Lib.hid ((itemsF_step f' HM.out).symm.trans II.out.2.2)
     have hky := itemR_ky r' last (its.map (·.ky))
     obtain ⟨J, hJ⟩ : ∃ q, itemR r' last (its.map (·.ky)) = q := ⟨_, rfl⟩
     rw [hJ] at h1 HIN HST hmr hky ⊢
     have L11 := Lib.hid (II.out.1.but h1 h2)
     have bn := below_new w11 (.cells (itL J.1).toArray 59)
     have L12 := Lib.hid (L11.out.below bn)
     have BI := Lib.hid (blk_new w11 (.cells (itL J.1).toArray 59))
     have KI := Lib.hid (it_ky BI.out)
     have hsb : w8.heap.size < w11.heap.size := L11.out.set.2.lt
     have hkl : ((its.map (·.ky)).map idKey).length < maxLen := by rw [List.length_map, List.length_map]; unfold maxLen; omega
     have HSZ := Lib.hid it_size
     obtain ⟨i0, hi, hz0, hz1, hz2⟩ := info_parts it_info
     have HKS : Hid (∀ k ∈ its.map (·.ky) ++ [J.1.ky], k.length = 32) := Lib.hid fun k hk => (List.mem_append.1 hk).elim (L12.out.set.1 k) fun h => by rw [List.mem_singleton.1 h]; exact hky
     have HKY := Lib.hid hky
     have HMR := Lib.hid hmr
     clear h1 h2 hJ HIT L11 bn ce c4 hky hmr hi3 hi4 hi5 II q1 q2
     go_upto_region 12 with (refine wpList_store_new (w := w11) rfl 59 _ _ rfl _ (itL J.1).toArray rfl rfl (by simp [itL_length, HSZ.out]) (by simp [itL_length]) (all_oneCell_toArray (one_itL J.1)) ?_)
     go_upto_region 13 with (first | refine wpList_load_mid rfl 57 _ rfl w11.heap.size 3 rfl (idL J.1.ky) _ KI.out Tryz.underlying57 rfl (by rw [idL_length]; exact id_size) ?_ | (refine wpList_mapUpdate_b _ rfl _ _ _ 101 rfl 57 4 id_keyed Tryz.underlying101 Tryz.underlying4 w8.heap.size _ rfl L12.out.set.2 hkl _ _ rfl rfl (keyOf_idKey HKY.out) (idKey_lit HKY.out) ?_; intro w13 m13 g13))
     have L13 := Lib.hid (L12.out.mapd (ks' := its.map (·.ky) ++ [J.1.ky]) ⟨HKS.out, by rw [List.map_append]; exact m13⟩ g13)
     have I13 : Hid (w13.heap[w11.heap.size]? = some (.cells (itL J.1).toArray 59 (0, 0))) := Lib.hid ((g13.block w11.heap.size (by simp) (by intro e; injection e with e; omega)).trans BI.out)
     have R13 := Lib.hid (range_blk I13.out)
     have c4 := blk_cell L13.out.bu.dg 4
     clear L12 KI BI m13 g13 hkl
     go_upto_region 14 with (first | (refine wpList_load_mid rfl 59 _ rfl w11.heap.size 0 rfl (itL J.1) _ R13.out Tryz.underlying59 rfl (by rw [itL_length]; exact HSZ.out) ?_; refine wpList_one_it rfl _ rfl J.1 rfl ?_) | (at_builtin; refine wpList_appC Tryz.underlying30 hi hz0 hz1 hz2 rfl (by decide) _ rfl _ _ rfl w10.heap.size _ its.length _ (own_below L13.out.own (below_new _ _)) rfl _ 1 1 (itL J.1) (by rw [itL_length]) (RdC.new _ _ _) rfl (one_itL J.1) (by omega) (by decide) (Nat.le_trans L13.out.lt.2.2.2 (below_new _ _).size) ?_; intro v14 w14 o14 g14 b14; obtain ⟨A14, c14, rfl⟩ := own2_slice o14; have X14 := Lib.hid ((L13.out.bu.below (below_new _ _)).belowN b14 (show w.heap.size + 1 < w10.heap.size by omega)); have O14 := Lib.hid o14; have B14 := Lib.hid b14; clear o14 g14; revert b14))
     intro b14
     clear b14
     have c5 := blk_cell X14.out.dg 4
     have f5 := blk_free X14.out.dg 4
     go_upto_region 14 with fail
     go_wp2_with fail
     have en : (its ++ [J.1]).length = its.length + 1 := by simp
     have o15 : w14.ownsRow w10.heap.size 59 36 (.slice A14 (its ++ [J.1]).length c14) (its ++ [J.1]).length ((its ++ [J.1]).flatMap itL) := by
      rw [en, List.flatMap_append, List.flatMap_cons, List.flatMap_nil, List.append_nil]; exact O14.out
     have L15 := Lib.hid ((L13.out.below (below_new _ _)).app o15 B14.out)
     rw [← en]
     clear o15 O14 B14 X14 c5 f5 L13 I13 R13 c4
     have HNX := Lib.hid (next_any (w.heap.size + 1) (lns s).2 J.2 w _ L15.out.bu.rd)
     have hl16 := line_len L15.out.bu.rd L15.out.bu.rd.sm
     refine HNX.out.mono ?_; rintro e w16 ⟨rfl, h1, h2⟩
     have E5 : its.map (·.ky) ++ [J.1.ky] = (its ++ [J.1]).map (·.ky) := by simp
     have IN := Lib.hid (And.intro (L15.out.but h1 h2) (And.intro HIN.out HST.out))
     rw [E5] at IN
     clear h1 h2 HNX L15 HIN HST
     go_wp2_with fail
     go_roundg (mu (nextR J.2).2)
     case measure => have := HMR.out; omega
     case rel => exact ⟨its ++ [J.1], (nextR J.2).2, f', (nextR J.2).1, A14, c14, Nat.le_refl _, by have := HMR.out; omega, rfl, hl16, IN⟩
   case neg =>
    have hmf : more r' last its = false := by simpa using hm
    have hT := II.out.2.2.symm.trans (itemsF_stop hmf f)
    subst hT
    by_cases he : r'.e = 0
    case neg =>
     have q1 : (r'.e == 0) = false := by simpa using he
     have qn : (r'.e != 0) = true := by simpa using he
     have VE : Hid (burstD s = .inr (r'.n, r'.e)) := Lib.hid (V.out.trans (if_pos he))
     clear he hm hmf V
     go_wp2_with fail
     have b' := (Below.refl wr.heap.size wr).drew
     refine Flow.wp_region_segs (But w.heap.size) (But.refl _) (fun _ _ _ h k => h.trans k) [([0, 1, 2, 3, 4, 5, 6, 7, 8], 9)] [10, 11] (by kernel_rfl) (by kernel_rfl) ?_
     have LD := Lib.hid ((II.out.1.bu).below b')
     clear b'
     generalize World.drew _ = wd at *
     have hbd : w.heap.size + 1 ≠ w.heap.size := by omega
     have e1 := blk_cell LD.out.rd.blk 1
     have e2 := blk_cell LD.out.rd.blk 2
     have qe1 : ∀ t : Flow.Cls (But w.heap.size wd), t.val.cell? _ = some (i64 r'.n) := fun t => but_cls e1 hbd t
     have qe2 : ∀ t : Flow.Cls (But w.heap.size wd), t.val.cell? _ = some (i64 r'.e) := fun t => but_cls e2 hbd t
     haveI nonE : Nonempty (Flow.Cls (But w.heap.size wd)) := ⟨⟨wd, But.refl _ _⟩⟩
     rw [Flow.wpSegs_cons]
     simp only [Flow.pick, List.getElem?_toArray, List.getElem?_cons_succ, List.getElem?_cons_zero]
     repeat go_big_quiet_step (fail)
     refine wpQuiet_nil ?_
     clear nonE qe1 qe2 e1 e2
     rw [Flow.callAt_eq]
     simp only [List.getElem?_toArray, List.getElem?_cons_succ, List.getElem?_cons_zero]
     rw [if_pos (by rfl)]
     refine Flow.wp_behind (fun K0 hK => ?_)
     refine wp_store_mid0 32 _ _ rfl rfl w.heap.size 0 #[enS [], i64 0, i64 0, i64 0, .slice none 0 0] rfl rfl (there_at LD.out.dg (Nat.le_refl 5)) (by kernel_rfl) (one_dg _ _ _ _ _ _ _) ?_
     refine hK.out _ (wd.setCells w.heap.size 0 [enS [], i64 0, i64 0, i64 0, .slice none 0 0]) ⟨but_setCells _ _ _, ?_⟩
     clear hK K0
     have ZD := Lib.hid (dg_store LD.out.dg (enS []) (i64 0) (i64 0) (i64 0) (.slice none 0 0))
     have KD : Hid (Below w.heap.size w (wd.setCells w.heap.size 0 [enS [], i64 0, i64 0, i64 0, .slice none 0 0])) := Lib.hid ((but_setCells _ _ _).tail LD.out.rd.bel (Nat.le_refl _))
     generalize wd.setCells w.heap.size 0 [enS [], i64 0, i64 0, i64 0, .slice none 0 0] = wz at *
     haveI nonE : Nonempty (Flow.Cls (But w.heap.size wz)) := ⟨⟨wz, But.refl _ _⟩⟩
     rw [Flow.wpSegs_nil]
     simp only [Flow.pick, List.getElem?_toArray, List.getElem?_cons_succ, List.getElem?_cons_zero]
     repeat go_big_quiet_step (fail)
     refine wpQuiet_nil ?_
     clear nonE LD
     go_wp2_with fail
     have hload := run_loadVar_mid (P := Tryz.prog) _ w.heap.size 0 32 [enS [], i64 0, i64 0, i64 0, .slice none 0 0] _ (range_blk (cs := [enS [], i64 0, i64 0, i64 0, .slice none 0 0]) ZD.out) Tryz.underlying32 rfl (by kernel_rfl)
     exact bodyPost_ret (v := .tuple #[dg0, i64 (r'.n), i64 (r'.e)]) (results_cell3 (a := 2) (i := 3) (j := 4) rfl rfl hload rfl rfl) rfl ⟨⟨_, rfl, BuR.err VE.out rfl⟩, KD.out⟩
    case pos =>
     have hne : its ≠ [] := fun h => hm (by unfold more; simp [he, h])
     have q2 : ((its.length : Int) == 0) = false := by simpa using hne
     have q3 : List.isPrefixOf [69, 110, 100, 32, 111, 102, 32] last = true := by
      cases hq : List.isPrefixOf [69, 110, 100, 32, 111, 102, 32] last with
      | true => rfl
      | false => exact absurd (show more r' last its = true by unfold more; rw [show wEnd.isPrefixOf last = false from hq]; simp [he]) hm
     have HP := Lib.hid (hasPre last [69, 110, 100, 32, 111, 102, 32] wr)
     have q1 : (r'.e == 0) = true := by simpa using he
     have qn : (r'.e != 0) = false := by simpa using he
     have HE0 : Hid (¬ r'.e ≠ 0) := Lib.hid (by simpa using he)
     obtain ⟨_, hi2, hi3⟩ := II.out.2.1
     obtain ⟨hi4, _, hi6⟩ := hi3 he
     have HI2 := Lib.hid hi2
     have HI4 := Lib.hid hi4
     clear hne hm hmf he hi2 hi3 hi4
     have c0 := blk_cell II.out.1.bu.rd.blk 0
     go_wp2_with fail
     refine HP.out.mono ?_; rintro e w11 ⟨rfl, rfl⟩
     rw [q3]
     clear HP q3
     by_cases hr0 : r'.ls = [] ∧ (lns s).2 = []
     case neg =>
      have qr : (unl r'.ls ++ (lns s).2).isEmpty = false := by rw [rest_empty]; exact decide_eq_false hr0
      have VE : Hid (burstD s = .inr (r'.n + 1, 5)) := Lib.hid (V.out.trans ((if_neg HE0.out).trans (if_pos (by
       (show r'.ls ≠ [] ∨ (lns s).2 ≠ [])
       by_cases h : r'.ls = []
       ·exact .inr fun h2 => hr0 ⟨h, h2⟩
       ·exact .inl h))))
      have hn1 : r'.n + 1 ≤ 1000000001 := by have := II.out.1.bu.rd.nb.2; split at this <;> omega
      have hn0 := II.out.1.bu.rd.nb.1
      clear hr0 V
      go_wp2_with fail
      have b' := (Below.refl wr.heap.size wr).drew
      refine Flow.wp_region_segs (But w.heap.size) (But.refl _) (fun _ _ _ h k => h.trans k) [([0, 1, 2, 3, 4, 5], 6)] [7, 8] (by kernel_rfl) (by kernel_rfl) ?_
      have LD := Lib.hid ((II.out.1.bu).below b')
      clear b'
      generalize World.drew _ = wd at *
      have hbd : w.heap.size + 1 ≠ w.heap.size := by omega
      have e1 := blk_cell LD.out.rd.blk 1
      have e2 := blk_cell LD.out.rd.blk 2
      have qe1 : ∀ t : Flow.Cls (But w.heap.size wd), t.val.cell? _ = some (i64 r'.n) := fun t => but_cls e1 hbd t
      have qe2 : ∀ t : Flow.Cls (But w.heap.size wd), t.val.cell? _ = some (i64 r'.e) := fun t => but_cls e2 hbd t
      haveI nonE : Nonempty (Flow.Cls (But w.heap.size wd)) := ⟨⟨wd, But.refl _ _⟩⟩
      rw [Flow.wpSegs_cons]
      simp only [Flow.pick, List.getElem?_toArray, List.getElem?_cons_succ, List.getElem?_cons_zero]
      repeat go_big_quiet_step (fail)
      refine wpQuiet_nil ?_
      clear nonE qe1 qe2 e1 e2
      rw [Flow.callAt_eq]
      simp only [List.getElem?_toArray, List.getElem?_cons_succ, List.getElem?_cons_zero]
      rw [if_pos (by rfl)]
      refine Flow.wp_behind (fun K0 hK => ?_)
      refine wp_store_mid0 32 _ _ rfl rfl w.heap.size 0 #[enS [], i64 0, i64 0, i64 0, .slice none 0 0] rfl rfl (there_at LD.out.dg (Nat.le_refl 5)) (by kernel_rfl) (one_dg _ _ _ _ _ _ _) ?_
      refine hK.out _ (wd.setCells w.heap.size 0 [enS [], i64 0, i64 0, i64 0, .slice none 0 0]) ⟨but_setCells _ _ _, ?_⟩
      clear hK K0
      have ZD := Lib.hid (dg_store LD.out.dg (enS []) (i64 0) (i64 0) (i64 0) (.slice none 0 0))
      have KD : Hid (Below w.heap.size w (wd.setCells w.heap.size 0 [enS [], i64 0, i64 0, i64 0, .slice none 0 0])) := Lib.hid ((but_setCells _ _ _).tail LD.out.rd.bel (Nat.le_refl _))
      generalize wd.setCells w.heap.size 0 [enS [], i64 0, i64 0, i64 0, .slice none 0 0] = wz at *
      haveI nonE : Nonempty (Flow.Cls (But w.heap.size wz)) := ⟨⟨wz, But.refl _ _⟩⟩
      rw [Flow.wpSegs_nil]
      simp only [Flow.pick, List.getElem?_toArray, List.getElem?_cons_succ, List.getElem?_cons_zero]
      repeat go_big_quiet_step (fail)
      refine wpQuiet_nil ?_
      clear nonE LD
      go_wp2_with fail
      have hload := run_loadVar_mid (P := Tryz.prog) _ w.heap.size 0 32 [enS [], i64 0, i64 0, i64 0, .slice none 0 0] _ (range_blk (cs := [enS [], i64 0, i64 0, i64 0, .slice none 0 0]) ZD.out) Tryz.underlying32 rfl (by kernel_rfl)
      exact bodyPost_ret (v := .tuple #[dg0, i64 (r'.n + 1), i64 (5)]) (results_cell3 (a := 2) (i := 3) (j := 4) rfl rfl hload rfl rfl) rfl ⟨⟨_, rfl, BuR.err VE.out rfl⟩, KD.out⟩
     case pos =>
      have qr : (unl r'.ls ++ (lns s).2).isEmpty = true := by rw [rest_empty]; exact decide_eq_true hr0
      have HR0 : Hid (¬ (r'.ls ≠ [] ∨ (lns s).2 ≠ [])) := Lib.hid (by rw [hr0.1, hr0.2]; simp)
      have RD := Lib.hid (range_blk (cs := [enS B.1.1, i64 B.1.2.1, i64 B.1.2.2, i64 C.1, .slice Ai its.length ci]) II.out.1.bu.dg)
      have HH := Lib.hid (head_any ⟨B.1.1, B.1.2.1, B.1.2.2, C.1, its⟩ Ai ci wr II.out.1.bu.rd.gl.tab HBD.out.1 HBD.out.2.1 HBD.out.2.2)
      clear hr0
      go_wp2_with (refine wpList_load_mid rfl 32 _ rfl w.heap.size 0 rfl [enS B.1.1, i64 B.1.2.1, i64 B.1.2.2, i64 C.1, .slice Ai its.length ci] _ RD.out Tryz.underlying32 rfl (by kernel_rfl) ?_)
      refine HH.out.mono ?_; rintro e w20 ⟨rfl, b20⟩
      have L20 := Lib.hid (II.out.1.below b20)
      have HIT := Lib.hid II.out.2.1
      have hhl := head_len ⟨B.1.1, B.1.2.1, B.1.2.2, C.1, its⟩ HBD.out.1 HBD.out.2.1.2 HBD.out.2.2.2
      obtain ⟨hd, hhd⟩ : ∃ q, headT ⟨B.1.1, B.1.2.1, B.1.2.2, C.1, its⟩ = q := ⟨_, rfl⟩
      rw [hhd] at hhl ⊢
      have hhz : (⟨hd.toArray⟩ : ByteArray).size = hd.length := by show hd.toArray.size = _; simp
      have HD := Lib.hid hhd
      clear hhd b20 HH RD II ce c4 c0
      by_cases hh : last = wEnd ++ hd
      case neg =>
       have qh : (last == [69, 110, 100, 32, 111, 102, 32] ++ hd) = false := by
        cases hq : (last == [69, 110, 100, 32, 111, 102, 32] ++ hd) with
        | false => rfl
        | true => exact absurd (eq_of_beq hq) hh
       rw [← cat_toList] at qh
       have VE : Hid (burstD s = .inr (r'.n, 3)) := Lib.hid (V.out.trans ((if_neg HE0.out).trans ((if_neg HR0.out).trans (if_pos (by (show last ≠ wEnd ++ headT ⟨B.1.1, B.1.2.1, B.1.2.2, C.1, its⟩); rw [HD.out]; exact hh)))))
       clear hh V
       go_wp2_with fail
       have b' := (Below.refl w20.heap.size w20).drew
       refine Flow.wp_region_segs (But w.heap.size) (But.refl _) (fun _ _ _ h k => h.trans k) [([0, 1, 2, 3, 4], 5)] [6, 7] (by kernel_rfl) (by kernel_rfl) ?_
       have LD := Lib.hid ((L20.out.bu).below b')
       clear b'
       generalize World.drew _ = wd at *
       have hbd : w.heap.size + 1 ≠ w.heap.size := by omega
       have e1 := blk_cell LD.out.rd.blk 1
       have e2 := blk_cell LD.out.rd.blk 2
       have qe1 : ∀ t : Flow.Cls (But w.heap.size wd), t.val.cell? _ = some (i64 r'.n) := fun t => but_cls e1 hbd t
       have qe2 : ∀ t : Flow.Cls (But w.heap.size wd), t.val.cell? _ = some (i64 r'.e) := fun t => but_cls e2 hbd t
       haveI nonE : Nonempty (Flow.Cls (But w.heap.size wd)) := ⟨⟨wd, But.refl _ _⟩⟩
       rw [Flow.wpSegs_cons]
       simp only [Flow.pick, List.getElem?_toArray, List.getElem?_cons_succ, List.getElem?_cons_zero]
       repeat go_big_quiet_step (fail)
       refine wpQuiet_nil ?_
       clear nonE qe1 qe2 e1 e2
       rw [Flow.callAt_eq]
       simp only [List.getElem?_toArray, List.getElem?_cons_succ, List.getElem?_cons_zero]
       rw [if_pos (by rfl)]
       refine Flow.wp_behind (fun K0 hK => ?_)
       refine wp_store_mid0 32 _ _ rfl rfl w.heap.size 0 #[enS [], i64 0, i64 0, i64 0, .slice none 0 0] rfl rfl (there_at LD.out.dg (Nat.le_refl 5)) (by kernel_rfl) (one_dg _ _ _ _ _ _ _) ?_
       refine hK.out _ (wd.setCells w.heap.size 0 [enS [], i64 0, i64 0, i64 0, .slice none 0 0]) ⟨but_setCells _ _ _, ?_⟩
       clear hK K0
       have ZD := Lib.hid (dg_store LD.out.dg (enS []) (i64 0) (i64 0) (i64 0) (.slice none 0 0))
       have KD : Hid (Below w.heap.size w (wd.setCells w.heap.size 0 [enS [], i64 0, i64 0, i64 0, .slice none 0 0])) := Lib.hid ((but_setCells _ _ _).tail LD.out.rd.bel (Nat.le_refl _))
       generalize wd.setCells w.heap.size 0 [enS [], i64 0, i64 0, i64 0, .slice none 0 0] = wz at *
       haveI nonE : Nonempty (Flow.Cls (But w.heap.size wz)) := ⟨⟨wz, But.refl _ _⟩⟩
       rw [Flow.wpSegs_nil]
       simp only [Flow.pick, List.getElem?_toArray, List.getElem?_cons_succ, List.getElem?_cons_zero]
       repeat go_big_quiet_step (fail)
       refine wpQuiet_nil ?_
       clear nonE LD
       go_wp2_with fail
       have hload := run_loadVar_mid (P := Tryz.prog) _ w.heap.size 0 32 [enS [], i64 0, i64 0, i64 0, .slice none 0 0] _ (range_blk (cs := [enS [], i64 0, i64 0, i64 0, .slice none 0 0]) ZD.out) Tryz.underlying32 rfl (by kernel_rfl)
       exact bodyPost_ret (v := .tuple #[dg0, i64 (r'.n), i64 (3)]) (results_cell3 (a := 2) (i := 3) (j := 4) rfl rfl hload rfl rfl) rfl ⟨⟨_, rfl, BuR.err VE.out rfl⟩, KD.out⟩
      case pos =>
       have qh : (last == [69, 110, 100, 32, 111, 102, 32] ++ hd) = true := by rw [hh]; simp [wEnd]
       rw [← cat_toList] at qh
       have HH0 : Hid (¬ (last ≠ wEnd ++ headT ⟨B.1.1, B.1.2.1, B.1.2.2, C.1, its⟩)) := Lib.hid (by (show ¬ _); rw [HD.out]; simpa using hh)
       have RD := Lib.hid (range_blk (cs := [enS B.1.1, i64 B.1.2.1, i64 B.1.2.2, i64 C.1, .slice Ai its.length ci]) L20.out.bu.dg)
       have HCN := Lib.hid (contents_any ⟨B.1.1, B.1.2.1, B.1.2.2, C.1, its⟩ Ai ci w20 (RdI.of_own L20.out.own HI2.out) (own2_le L20.out.own) L20.out.bu.rd.gl.tab (by (show its.length ≤ _); omega) (fun x hx => by have := (chkI_len (HI4.out x hx)).2; omega))
       clear hh HD
       go_wp2_with (refine wpList_load_mid rfl 32 _ rfl w.heap.size 0 rfl [enS B.1.1, i64 B.1.2.1, i64 B.1.2.2, i64 C.1, .slice Ai its.length ci] _ RD.out Tryz.underlying32 rfl (by kernel_rfl) ?_)
       refine HCN.out.mono ?_; rintro e w22 ⟨⟨v22, rfl, o22⟩, b22⟩
       obtain ⟨A22, c22, rfl⟩ := own2_slice o22
       have L22 := Lib.hid (L20.out.below b22)
       have HEQ := Lib.hid (eqTexts_any (w := w22) (Rd.of_own L22.out.con).1 (Rd.of_own o22).1 (c := d8) (d := c22) rfl rfl HFL.out (by have := lines_len its; omega))
       clear b22 L20 HCN RD o22
       go_wp2_with fail
       refine HEQ.out.mono ?_; rintro e w23 ⟨rfl, b23⟩
       have L23 := Lib.hid (L22.out.below b23)
       clear b23 L22 HEQ
       have c23 := blk_cell L23.out.bu.dg 4
       by_cases hq : F.1 = linesD its
       case pos =>
        have VY : Hid (burstD s = .inl ⟨B.1.1, B.1.2.1, B.1.2.2, C.1, its⟩) := Lib.hid (V.out.trans ((if_neg HE0.out).trans ((if_neg HR0.out).trans ((if_neg HH0.out).trans (if_neg (by (show ¬ (F.1 ≠ linesD its)); simpa using hq))))))
        rw [decide_eq_true hq]
        clear hq V
        have RD := Lib.hid (range_blk (cs := [enS B.1.1, i64 B.1.2.1, i64 B.1.2.2, i64 C.1, .slice Ai its.length ci]) L23.out.bu.dg)
        go_wp2_with (first | refine wpList_load_mid rfl 32 _ rfl w.heap.size 0 rfl [enS B.1.1, i64 B.1.2.1, i64 B.1.2.2, i64 C.1, .slice Ai its.length ci] _ RD.out Tryz.underlying32 rfl (by kernel_rfl) ?_ | refine wpList_store_mid rfl 32 _ _ rfl w.heap.size 0 #[enS B.1.1, i64 B.1.2.1, i64 B.1.2.2, i64 C.1, .slice Ai its.length ci] rfl rfl (there_at L23.out.bu.dg (Nat.le_refl 5)) (by kernel_rfl) (one_dg _ _ _ _ _ _ _) ?_)
        have ZD := Lib.hid (dg_store L23.out.bu.dg (enS B.1.1) (i64 B.1.2.1) (i64 B.1.2.2) (i64 C.1) (.slice Ai its.length ci))
        have hk : But w.heap.size w23 (w23.setCells w.heap.size 0 [enS B.1.1, i64 B.1.2.1, i64 B.1.2.2, i64 C.1, .slice Ai its.length ci]) := but_setCells _ _ _
        have hown := own_but L23.out.own (show w.heap.size < w10.heap.size by omega) hk
        have hload := run_loadVar_mid (P := Tryz.prog) _ w.heap.size 0 32 [enS B.1.1, i64 B.1.2.1, i64 B.1.2.2, i64 C.1, .slice Ai its.length ci] _ (range_blk (cs := [enS B.1.1, i64 B.1.2.1, i64 B.1.2.2, i64 C.1, .slice Ai its.length ci]) ZD.out) Tryz.underlying32 rfl (by kernel_rfl)
        exact bodyPost_ret (v := .tuple #[dgA ⟨B.1.1, B.1.2.1, B.1.2.2, C.1, its⟩ Ai ci, i64 0, i64 0]) (results_cell3 (a := 2) (i := 3) (j := 4) rfl rfl hload rfl rfl) rfl ⟨⟨_, rfl, BuR.yes VY.out Ai ci rfl (RdI.of_own hown HI2.out) (own2_le hown) (own2_cap hown)⟩, hk.tail L23.out.bu.rd.bel (Nat.le_refl _)⟩
       case neg =>
        have VE : Hid (burstD s = .inr (4, 21)) := Lib.hid (V.out.trans ((if_neg HE0.out).trans ((if_neg HR0.out).trans ((if_neg HH0.out).trans (if_pos hq)))))
        rw [decide_eq_false hq]
        clear hq V
        go_wp2_with (refine wpList_store_mid rfl 32 _ _ rfl w.heap.size 0 #[enS [], i64 0, i64 0, i64 0, .slice none 0 0] rfl rfl (there_at L23.out.bu.dg (Nat.le_refl 5)) (by kernel_rfl) (one_dg _ _ _ _ _ _ _) ?_)
        have ZD := Lib.hid (dg_store L23.out.bu.dg (enS []) (i64 0) (i64 0) (i64 0) (.slice none 0 0))
        have hk : But w.heap.size w23 (w23.setCells w.heap.size 0 [enS [], i64 0, i64 0, i64 0, .slice none 0 0]) := but_setCells _ _ _
        have hload := run_loadVar_mid (P := Tryz.prog) _ w.heap.size 0 32 [enS [], i64 0, i64 0, i64 0, .slice none 0 0] _ (range_blk (cs := [enS [], i64 0, i64 0, i64 0, .slice none 0 0]) ZD.out) Tryz.underlying32 rfl (by kernel_rfl)
        exact bodyPost_ret (v := .tuple #[dg0, i64 4, i64 21]) (results_cell3 (a := 2) (i := 3) (j := 4) rfl rfl hload rfl rfl) rfl ⟨⟨_, rfl, BuR.err VE.out rfl⟩, hk.tail L23.out.bu.rd.bel (Nat.le_refl _)⟩
end Go.Proofs.YtlchcjnbbhpiaaaGreatDoor
