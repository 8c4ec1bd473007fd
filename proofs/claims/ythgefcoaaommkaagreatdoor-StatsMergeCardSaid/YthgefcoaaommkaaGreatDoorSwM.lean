/- The walk of the statement StatsMerge. -/
import Derived.Test.YthgefcoaaommkaaGreatDoorZj
import Derived.Test.YthgefcoaaommkaaGreatDoorZe
import Derived.Test.YthgefcoaaommkaaGreatDoorSuO
namespace Go.Proofs.YthgefcoaaommkaaGreatDoor
open Go.RowKit Go.Gn Go.Sr Go.Maps

theorem TextOk.same {ds ds' : List (Int × C)} {ns ns' : List (Ky × C)} {zs : List Int} (h : TextOk ds ns zs) (t1 : NoTwo ds) (t2 : NoTwo ds') (t3 : NoTwo ns) (t4 : NoTwo ns') (hd : ∀ x, getA ds' x = getA ds x) (hn : ∀ x, getA ns' x = getA ns x) : TextOk ds' ns' zs :=
  ⟨by rw [len_same t2 t1 hd]; exact h.dn, by rw [len_same t4 t3 hn]; exact h.nn, fun q hq => h.d q ((mem_ext t2 t1 hd q).1 hq), fun q hq => h.n q ((mem_ext t4 t3 hn q).1 hq), h.z, h.zl⟩
theorem sum_days_len (l : List Ev) : (sumC ((daysL l).map (·.2))).1 = (l.length : Int) := by rw [total_days, sumE_fst]

set_option maxRecDepth 100000 in
set_option maxHeartbeats 16000000 in
theorem statsMerge_walk (A : Option Addr) (c : Nat) (ms : List EvM) (A' : Option Addr) (c' : Nat) (ms' : List EvM) (w : World) (h : RdE w A ms) (hlc : ms.length ≤ c) (hc : c ≤ maxLen) (hL : ∀ m ∈ ms, LenM m) (h' : RdE w A' ms') (hlc' : ms'.length ≤ c') (hc' : c' ≤ maxLen) (hL' : ∀ m ∈ ms', LenM m) (hE : Env w) (hT : Tab w) :
    Calls Tryz.prog 6 #[.slice A ms.length c, .slice A' ms'.length c'] w fun e w' => e = .returned (.bool true) ∧ Below w.heap.size w w' := by
  have HT := Lib.hid hT
  have HK := Lib.hid (fun W (hb : Below w.heap.size w W) => known_any W (hE.below hb))
  have HF := Lib.hid (fun W (hb : Below w.heap.size w W) => few_any A c ms W (h.below hb) hL hlc hc)
  have HF' := Lib.hid (fun W (hb : Below w.heap.size w W) => few_any A' c' ms' W (h'.below hb) hL' hlc' hc')
  have HR := Lib.hid h
  have HR' := Lib.hid h'
  have HE := Lib.hid hE
  obtain ⟨i0, hi, hz0, hz1, hz2⟩ := ev_info
  clear h h' hE hL hL' hT
  go_enter Tryz.func6, Tryz.ntmps6
  go_wp2_with fail
  refine (HK.out _ (Below.refl _ _)).mono ?_; rintro e w1 ⟨rfl, b1⟩
  have B1 := Lib.hid b1; clear b1
  go_wp2_with fail
  refine (HF.out _ B1.out).mono ?_; rintro e w2 ⟨r, rfl, rfl, hr⟩
  cases r
  case false =>
    clear hr
    go_wp2_with fail
    refine (HK.out _ B1.out).mono ?_; rintro e w3 ⟨rfl, b3⟩
    have B3 := Lib.hid (B1.out.tr b3); clear b3
    go_wp2_with fail
    go_ret
    exact ⟨rfl, B3.out⟩
  obtain ⟨hF, hlen⟩ := hr rfl
  have HFew := Lib.hid hF
  clear hF hr HF
  go_wp2_with fail
  refine (HF'.out _ B1.out).mono ?_; rintro e w2 ⟨r, rfl, rfl, hr⟩
  cases r
  case false =>
    clear hr
    go_wp2_with fail
    refine (HK.out _ B1.out).mono ?_; rintro e w3 ⟨rfl, b3⟩
    have B3 := Lib.hid (B1.out.tr b3); clear b3
    go_wp2_with fail
    go_ret
    exact ⟨rfl, B3.out⟩
  obtain ⟨hF, hlen'⟩ := hr rfl
  have HFew' := Lib.hid hF
  clear hF hr HF' HK
  go_wp2_with fail
  refine (build_any A c ms _ (HR.out.below B1.out) hlc hc HFew.out (by omega) (HE.out.below B1.out)).mono ?_; rintro e w3 ⟨pa, da, na, Ax, cx, rfl, hst, hrx, hlx, hcx, b, _, _⟩
  have SA3 := Lib.hid hst
  have X3 := Lib.hid hrx
  have B3 := Lib.hid (B1.out.tr b)
  clear hst hrx b B1
  go_wp2_with fail
  refine (build_any A' c' ms' _ (HR'.out.below B3.out) hlc' hc' HFew'.out (by omega) (HE.out.below B3.out)).mono ?_; rintro e w4 ⟨pb, db, nb, Ay, cy, rfl, hst, hry, hly, hcy, b, _, _⟩
  have SA := Lib.hid (StM.below SA3.out b)
  have SB := Lib.hid hst
  have X := Lib.hid (X3.out.below b)
  have Y := Lib.hid hry
  have B4 := Lib.hid (B3.out.tr b)
  clear hst hry b B3 SA3 X3
  -- what the statistics hold
  have hxl := okS_len ms
  have hyl := okS_len ms'
  have hgx := okS_good (ms := ms)
  have hgy := okS_good (ms := ms')
  have HXF := Lib.hid (show ∀ m ∈ okS ms ++ okS ms', FewM m from fun m hm => (List.mem_append.1 hm).elim (fun h => HFew.out m (List.mem_filter.1 h).1) (fun h => HFew'.out m (List.mem_filter.1 h).1))
  have HXM := Lib.hid (show ∀ m ∈ okS ms ++ okS ms', GoodM w m from fun m hm => (List.mem_append.1 hm).elim (fun h => HR.out.good m (List.mem_filter.1 h).1) (fun h => HR'.out.good m (List.mem_filter.1 h).1))
  have HXC := Lib.hid (show ∀ m ∈ okS ms ++ okS ms', chkE m.e = 0 from fun m hm => (List.mem_append.1 hm).elim (fun h => of_decide_eq_true (List.mem_filter.1 h).2) (fun h => of_decide_eq_true (List.mem_filter.1 h).2))
  have hax : ∀ e ∈ (okS ms).map (·.e), e.author.length = 16 := fun e he => by
    obtain ⟨m, hm, rfl⟩ := List.mem_map.1 he
    exact (HR.out.good m (List.mem_filter.1 hm).1).au
  have hay : ∀ e ∈ (okS ms').map (·.e), e.author.length = 16 := fun e he => by
    obtain ⟨m, hm, rfl⟩ := List.mem_map.1 he
    exact (HR'.out.good m (List.mem_filter.1 hm).1).au
  clear HR HR' HFew HFew' hlc hc hlc' hc'
  generalize okS ms = lx at *
  generalize okS ms' = ly at *
  obtain ⟨x, hx⟩ : ∃ x, lx.map (·.e) = x := ⟨_, rfl⟩
  obtain ⟨y, hy⟩ : ∃ y, ly.map (·.e) = y := ⟨_, rfl⟩
  have HXe := Lib.hid hx
  have HYe := Lib.hid hy
  rw [hx] at hgx hax
  rw [hy] at hgy hay
  have hxn : x.length = lx.length := by rw [← hx, List.length_map]
  have hyn : y.length = ly.length := by rw [← hy, List.length_map]
  unfold StE at SB
  rw [hx] at SA
  rw [hy] at SB
  clear hx hy
  have hgg : ∀ e ∈ x ++ y, GoodE e := fun e he => (List.mem_append.1 he).elim (hgx e) (hgy e)
  have haa : ∀ e ∈ x ++ y, e.author.length = 16 := fun e he => (List.mem_append.1 he).elim (hax e) (hay e)
  have hapx : ∀ e ∈ x, Apart e := fun e he => (hgx e he).apart
  have hapy : ∀ e ∈ y, Apart e := fun e he => (hgy e he).apart
  have OKX := Lib.hid (textOk_of hgx hax (by omega))
  have OKY := Lib.hid (textOk_of hgy hay (by omega))
  have OKA := Lib.hid (textOk_of hgg haa (by rw [List.length_append]; omega))
  have TX := Lib.hid (text_model hgx)
  have TY := Lib.hid (text_model hgy)
  have TA := Lib.hid (text_model hgg)
  have dX := Lib.hid ((daysL_bnd x hgx).small (by omega))
  have dY := Lib.hid ((daysL_bnd y hgy).small (by omega))
  have nX := Lib.hid ((namesL_bnd x hgx).small (by omega))
  have nY := Lib.hid ((namesL_bnd y hgy).small (by omega))
  have ldx := daysL_len x
  have ldy := daysL_len y
  have lnx := namesL_len x hgx
  have lny := namesL_len y hgy
  have zX := Lib.hid (fun k => (show 0 ≤ (sizesL x).getD k 0 ∧ (sizesL x).getD k 0 ≤ 1000000000000 by have := sizesL_bnd x hgx k; omega))
  have zY := Lib.hid (fun k => (show 0 ≤ (sizesL y).getD k 0 ∧ (sizesL y).getD k 0 ≤ 1000000000000 by have := sizesL_bnd y hgy k; omega))
  have sX := sum_days_len x
  have sY := sum_days_len y
  have MD1 := Lib.hid (fun (L : List (Int × C)) (hL : L.Perm (daysL x)) d => merge_days x y hL d)
  have MN1 := Lib.hid (fun (L : List (Ky × C)) (hL : L.Perm (namesL x)) k => merge_names hapx hapy hL k)
  have hcm : (y ++ x).Perm (x ++ y) := List.perm_append_comm
  have MD2 := Lib.hid (fun (L : List (Int × C)) (hL : L.Perm (daysL y)) d => (merge_days y x hL d).trans (getA_days_perm hcm d))
  have MN2 := Lib.hid (fun (L : List (Ky × C)) (hL : L.Perm (namesL y)) k => (merge_names hapy hapx hL k).trans (getA_names_perm (fun e he => (hgg e (hcm.mem_iff.1 he)).apart) hcm k))
  have MZ1 : Hid (addZ (sizesL y) (sizesL x) = sizesL (x ++ y)) := Lib.hid (by (show _ = _); rw [addZ_comm, addZ_sizes])
  have MZ2 : Hid (addZ (sizesL x) (sizesL y) = sizesL (x ++ y)) := Lib.hid (addZ_sizes x y)
  have HGG := Lib.hid hgg
  clear hgx hgy hax hay hapx hapy haa hgg hcm
  go_wp2_with fail
  refine (clone_any pb db nb _ _ _ w4 SB.out).mono ?_; rintro e w5 ⟨pc, dc, nc, rfl, hst, b, g1, g2, g3⟩
  have SC5 := Lib.hid hst
  have C5 := Lib.hid b
  clear hst b
  have pcl := SC5.out.lp
  have dcl := SC5.out.ld
  have ncl := SC5.out.ln
  go_wp2_with fail
  refine (clone_any pa da na _ _ _ w5 (SA.out.below C5.out)).mono ?_; rintro e w6 ⟨pd, dd, nd, rfl, hst, b, k1, k2, k3⟩
  have SD6 := Lib.hid hst
  have SC6 := Lib.hid (SC5.out.below b)
  have C6 := Lib.hid (C5.out.tr b)
  clear hst b SC5 C5
  have hw6 := C6.out.size
  go_wp2_with fail
  refine (merge_any pc dc nc pa da na _ _ _ _ _ _ w6 SC6.out (SA.out.below C6.out) dY.out dX.out nY.out nX.out (by omega) (by omega) (by omega) (by omega) zY.out zX.out (by omega) (by omega) (by omega)).mono ?_; rintro e w7 ⟨rfl, L1, M1, hl1, hm1, hst, hb⟩
  rw [MZ1.out] at hst
  have SC7 := Lib.hid hst
  have SD7 := Lib.hid (SD6.out.but hb (by simp; omega) (by simp; omega) (by simp; omega))
  have C7 := Lib.hid (C6.out.trans (hb.toBelow (B := w4.heap.size) (by omega) (by simp; omega)))
  have GD1 := Lib.hid (MD1.out L1 hl1)
  have GN1 := Lib.hid (MN1.out M1 hm1)
  have hw7 := hb.size
  clear hst hb hl1 hm1 SC6 SD6 C6 MD1 MN1 MZ1
  have pdl := SD7.out.lp
  have ddl := SD7.out.ld
  have ndl := SD7.out.ln
  go_wp2_with fail
  refine (merge_any pd dd nd pb db nb _ _ _ _ _ _ w7 SD7.out (SB.out.below C7.out) dX.out dY.out nX.out nY.out (by omega) (by omega) (by omega) (by omega) zX.out zY.out (by omega) (by omega) (by omega)).mono ?_; rintro e w8 ⟨rfl, L2, M2, hl2, hm2, hst, hb⟩
  rw [MZ2.out] at hst
  have SD8 := Lib.hid hst
  have SC8 := Lib.hid (SC7.out.but hb (by simp; omega) (by simp; omega) (by simp; omega))
  have C8 := Lib.hid (C7.out.trans (hb.toBelow (B := w4.heap.size) (by omega) (by simp; omega)))
  have GD2 := Lib.hid (MD2.out L2 hl2)
  have GN2 := Lib.hid (MN2.out M2 hm2)
  have hw8 := hb.size
  clear hst hb hl2 hm2 SC7 SD7 C7 MD2 MN2 MZ2 dX dY nX nY zX zY
  go_wp2_with fail
  refine (new_any w8).mono ?_; rintro e w9 ⟨pe, de, ne, rfl, hst, b, j1, j2, j3⟩
  have SE9 := Lib.hid hst
  have SC9 := Lib.hid (SC8.out.below b)
  have SD9 := Lib.hid (SD8.out.below b)
  have C9 := Lib.hid (C8.out.tr b)
  have hw9 := b.size
  clear hst b SC8 SD8 C8
  have pel := SE9.out.lp
  have del_ := SE9.out.ld
  have nel := SE9.out.ln
  -- the whole list
  have hxr := (X.out.below C9.out).rdC
  have hyr := (Y.out.below C9.out).rdC
  have HXr := Lib.hid hxr
  have HYr := Lib.hid hyr
  clear hxr hyr
  have ho0 := own2_empty w9 w9.heap.size 20 51 (Nat.le_refl _)
  have HO0 := Lib.hid ho0
  clear ho0
  have BN := below_new w9 (.cells #[] 51)
  have hbn := BN.size
  have hw49 := C9.out.size
  have HBN := Lib.hid BN
  clear BN
  go_upto_block 0 with (first
    | (refine wpList_appC Tryz.underlying22 hi hz0 hz1 hz2 rfl (by decide) _ rfl _ _ rfl w9.heap.size _ 0 [] HO0.out rfl Ax lx.length cx (lx.flatMap evL) (flatE_length lx) (RdC.below HXr.out HBN.out) rfl (one_flatE lx) (by omega) (by decide) hbn ?_; intro v10 w10 hown10 hg10 b10)
    | (refine wpList_appC Tryz.underlying22 hi hz0 hz1 hz2 rfl (by decide) _ rfl _ _ rfl w9.heap.size _ (0 + lx.length) ([] ++ lx.flatMap evL) hown10 rfl Ay ly.length cy (ly.flatMap evL) (flatE_length ly) ((Y.out.below ((C9.out.tr HBN.out).trans (b10.mono hw49))).rdC) rfl (one_flatE ly) (by omega) (by decide) (Nat.le_trans hbn b10.size) ?_; intro v11 w11 hown11 hg11 b11))
  obtain ⟨A9, c9, rfl⟩ := own2_slice hown11
  have BW : Below w9.heap.size w9 w11 := (HBN.out.tr (Below.refl _ _)).trans (b10.trans b11)
  have O11 : Hid (w11.ownsRow w9.heap.size 51 20 (.slice A9 (lx ++ ly).length c9) (lx ++ ly).length ((lx ++ ly).flatMap evL)) := Lib.hid (by
    (show World.ownsRow _ _ _ _ _ _ _)
    have e1 : (lx ++ ly).length = 0 + lx.length + ly.length := by simp
    have e2 : (lx ++ ly).flatMap evL = ([] ++ lx.flatMap evL) ++ ly.flatMap evL := by simp
    rw [e1, e2]; exact hown11)
  have SE := Lib.hid (SE9.out.below BW)
  have SC := Lib.hid (SC9.out.below BW)
  have SD := Lib.hid (SD9.out.below BW)
  have C11 := Lib.hid (C9.out.tr BW)
  have hw11 := BW.size
  have hle9 := own2_le O11.out
  have hca9 := own2_cap O11.out
  have hsl : 0 + lx.length + ly.length = (lx ++ ly).length := by simp
  have hll : (lx ++ ly).length ≤ 40 := by rw [← hsl]; omega
  have hXY : Hid (x ++ y = (lx ++ ly).map (·.e)) := Lib.hid (by (show _ = _); rw [List.map_append, HXe.out, HYe.out])
  clear hown10 hg10 b10 hown11 hg11 b11 BW HBN HO0 SE9 SC9 SD9 C9 HXr HYr
  rw [hsl]
  generalize lx ++ ly = la at *
  have hw411 := C11.out.size
  have hw4 := B4.out.size
  go_cut [] (fun wx => Hid (StE wx pe de ne la) ∧ Hid (StM wx pc dc nc (mergeA (daysL y) L1) (mergeA (namesL y) M1) (sizesL (x ++ y))) ∧ Hid (StM wx pd dd nd (mergeA (daysL x) L2) (mergeA (namesL x) M2) (sizesL (x ++ y))) ∧ Hid (RdE wx A9 la) ∧ Hid (Below w4.heap.size w4 wx))
  case first =>
    go_wp2_with fail
    go_loopg [15] la.length (fun gg kv wr => ∃ k : Nat, k ≤ la.length ∧ la.length - k ≤ gg ∧ kv = i64 k ∧ Hid (StE wr pe de ne (la.take k)) ∧ Hid (StM wr pc dc nc (mergeA (daysL y) L1) (mergeA (namesL y) M1) (sizesL (x ++ y))) ∧ Hid (StM wr pd dd nd (mergeA (daysL x) L2) (mergeA (namesL x) M2) (sizesL (x ++ y))) ∧ Hid (wr.ownsRow w9.heap.size 51 20 (.slice A9 la.length c9) la.length (la.flatMap evL)) ∧ Hid (Below w4.heap.size w4 wr))
    case atStart => exact ⟨0, by omega, by omega, rfl, SE, SC, SD, O11, C11⟩
    case round =>
      obtain ⟨k, hk, hgk, rfl, E, Cc, Dd, O, CB⟩ := hrel
      clear SE SC SD O11 C11
      by_cases hlt : k < la.length
      · obtain ⟨m, hmk⟩ : ∃ m, la[k]? = some m := ⟨_, List.getElem?_eq_getElem hlt⟩
        have hmem := List.mem_of_getElem? hmk
        obtain ⟨b, o, hA, hrg⟩ := RdC.rng (RdC.of_own O.out) evL_length (by decide) hmk
        subst hA
        have hgm := HXM.out m hmem
        have hlow := hgm.low
        have BW := B4.out.trans (CB.out.mono hw4)
        have hgl : ∀ e ∈ (la.take k).map (·.e), GoodE e := fun e he => by
          obtain ⟨q, hq, rfl⟩ := List.mem_map.1 he
          exact HGG.out _ (by rw [hXY.out]; exact List.mem_map.2 ⟨q, List.mem_of_mem_take hq, rfl⟩)
        have htl : ((la.take k).map (·.e)).length = k := by rw [List.length_map, List.length_take]; omega
        have hz2 := sizesL_bnd _ hgl
        have hsd := sum_days_len ((la.take k).map (·.e))
        have hdl := daysL_len ((la.take k).map (·.e))
        have hnl := namesL_len _ hgl
        have hadd := add_yes pe de ne _ _ _ m wr 186122240 (hgm.below BW) (HXF.out m hmem) (HE.out.below BW) E.out (HXC.out m hmem) (by omega) (by omega) ((daysL_bnd _ hgl).mono (by omega)) ((namesL_bnd _ hgl).mono (by omega))
          ⟨fun hl q r e => by have := hlow.1 hl q r e; omega, fun hl q r e => by have := hlow.2 hl q r e; omega⟩ (fun j => by have := hz2 j; omega) (by omega) (by omega) (by omega)
        have HADD := Lib.hid hadd
        have HTS : Hid (StE wr pe de ne (la.take k) → True) := Lib.hid fun _ => trivial
        have HSN : Hid ((la.take (k + 1)).map (·.e) = (la.take k).map (·.e) ++ [m.e]) := Lib.hid (by (show _ = _); rw [take_snoc hmk, List.map_append, List.map_singleton])
        have HRG := Lib.hid hrg
        clear hadd hmk hrg hmem hgm hlow BW hgl htl hz2 hsd hdl hnl HTS
        go_wp2_with (refine wpList_load_mid rfl 51 _ rfl b (o + k * 20) rfl (evL m) _ HRG.out Tryz.underlying51 rfl (by rw [evL_length]; exact ev_size) ?_)
        refine HADD.out.mono ?_; rintro e w12 ⟨rfl, hst, hb⟩
        have E2 : Hid (StE w12 pe de ne (la.take (k + 1))) := Lib.hid (by
          (show StE _ _ _ _ _)
          unfold StE
          rw [HSN.out, daysL_snoc, namesL_snoc, sizesL_snoc]; exact hst)
        have C2 := Lib.hid (Cc.out.but hb (by simp; omega) (by simp; omega) (by simp; omega))
        have D2 := Lib.hid (Dd.out.but hb (by simp; omega) (by simp; omega) (by simp; omega))
        have O2 := Lib.hid (own_keep O.out fun q hq hbq => hb.block q hq (by have := (O.out.lt q hbq).1; simp; omega))
        have CB2 := Lib.hid (CB.out.trans (hb.toBelow (B := w4.heap.size) CB.out.size (by simp; omega)))
        clear hst hb E Cc Dd O CB HADD HSN HRG
        go_wp2_with fail
        go_roundg (la.length - (k + 1))
        case measure => omega
        case rel => exact ⟨k + 1, by omega, by omega, by go_num, E2, C2, D2, O2, CB2⟩
      · obtain rfl : k = la.length := by omega
        have E2 : Hid (StE wr pe de ne la) := Lib.hid (by have := E.out; rwa [List.take_length] at this)
        have BW := B4.out.trans (CB.out.mono hw4)
        have R2 := Lib.hid (RdE.of_own O.out fun m hm => (HXM.out m hm).below BW)
        clear BW E O
        go_wp2_with fail
        go_meet
        exact ⟨E2, Cc, Dd, R2, CB⟩
  clear SE SC SD O11 C11
  obtain ⟨E, Cc, Dd, Rl, CB⟩ := hcut
  have hE := E.out
  unfold StE at hE
  rw [← hXY.out] at hE
  have SE := Lib.hid hE
  clear hE E
  have OKC := Lib.hid (OKA.out.same (daysL_two _) (mergeA_two L1 (daysL_two y)) (namesL_two _) (mergeA_two M1 (namesL_two y)) GD1.out GN1.out)
  have TC : Hid (textP (mergeA (daysL y) L1) (mergeA (namesL y) M1) (sizesL (x ++ y)) = textM (x ++ y) 0) := Lib.hid (by (show _ = _); rw [textP_same _ GD1.out GN1.out, TA.out])
  have HGa := Lib.hid (show ∀ m ∈ la, GoodE m.e from fun m hm => HGG.out _ (by rw [hXY.out]; exact List.mem_map.2 ⟨m, hm, rfl⟩))
  have HGx := Lib.hid (show ∀ m ∈ lx, GoodE m.e from fun m hm => HGG.out _ (List.mem_append_left _ (by rw [← HXe.out]; exact List.mem_map.2 ⟨m, hm, rfl⟩)))
  have HGy := Lib.hid (show ∀ m ∈ ly, GoodE m.e from fun m hm => HGG.out _ (List.mem_append_right _ (by rw [← HYe.out]; exact List.mem_map.2 ⟨m, hm, rfl⟩)))
  have HTa := Lib.hid (fun W (h : RdE W A9 la) => mText_any A9 c9 la 0 W h HGa.out hle9 (by unfold maxLen; exact hca9) hll)
  have HTx := Lib.hid (fun W (h : RdE W Ax lx) => mText_any Ax cx lx 0 W h HGx.out hlx hcx (by omega))
  have HTy := Lib.hid (fun W (h : RdE W Ay ly) => mText_any Ay cy ly 0 W h HGy.out hly hcy (by omega))
  rw [← hXY.out] at HTa
  rw [HXe.out] at HTx
  rw [HYe.out] at HTy
  rw [← TX.out] at HTx
  rw [← TY.out] at HTy
  rw [← TC.out] at HTa
  obtain ⟨Tc, hTc⟩ : ∃ T, textP (mergeA (daysL y) L1) (mergeA (namesL y) M1) (sizesL (x ++ y)) = T := ⟨_, rfl⟩
  obtain ⟨Tx, hTx⟩ : ∃ T, textP (daysL x) (namesL x) (sizesL x) = T := ⟨_, rfl⟩
  obtain ⟨Ty, hTy⟩ : ∃ T, textP (daysL y) (namesL y) (sizesL y) = T := ⟨_, rfl⟩
  have PTc := Lib.hid (fun W (h : StM W pc dc nc (mergeA (daysL y) L1) (mergeA (namesL y) M1) (sizesL (x ++ y))) hT => OKC.out.any pc dc nc W h hT)
  have PTx := Lib.hid (fun W (h : StM W pa da na (daysL x) (namesL x) (sizesL x)) hT => OKX.out.any pa da na W h hT)
  have PTy := Lib.hid (fun W (h : StM W pb db nb (daysL y) (namesL y) (sizesL y)) hT => OKY.out.any pb db nb W h hT)
  rw [hTc] at HTa PTc
  rw [hTx] at HTx PTx
  rw [hTy] at HTy PTy
  clear hTc hTx hTy HGa HGx HGy OKC OKA OKX OKY TX TY TA TC
  have e1 : (Tc == Tc) = true := by simp
  have e2 : (Tx == Tx) = true := by simp
  have e3 : (Ty == Ty) = true := by simp
  go_wp2_with fail
  refine (equal_true pc dc nc pe de ne _ _ _ _ _ wc Cc.out SE.out GD1.out GN1.out).mono ?_; rintro e u1 ⟨rfl, b⟩
  have Cc1 := Lib.hid (Cc.out.below b)
  have Dd1 := Lib.hid (Dd.out.below b)
  have SE1 := Lib.hid (SE.out.below b)
  have Rl1 := Lib.hid (Rl.out.below b)
  have CB1 := Lib.hid (CB.out.tr b)
  clear b Cc Dd SE Rl CB
  go_wp2_with fail
  refine (equal_true pd dd nd pe de ne _ _ _ _ _ u1 Dd1.out SE1.out GD2.out GN2.out).mono ?_; rintro e u2 ⟨rfl, b⟩
  have Cc2 := Lib.hid (Cc1.out.below b)
  have Rl2 := Lib.hid (Rl1.out.below b)
  have CB2 := Lib.hid (CB1.out.tr b)
  clear b Cc1 Dd1 SE1 Rl1 CB1
  go_wp2_with fail
  refine (PTc.out u2 Cc2.out (HT.out.below (B4.out.trans (CB2.out.mono hw4)))).mono ?_; rintro e u3 ⟨rfl, b⟩
  have Rl3 := Lib.hid (Rl2.out.below b)
  have CB3 := Lib.hid (CB2.out.tr b)
  clear b Cc2 Rl2 CB2 PTc
  go_wp2_with fail
  refine (HTa.out u3 Rl3.out).mono ?_; rintro e u4 ⟨rfl, b⟩
  have CB4 := Lib.hid (CB3.out.tr b)
  clear b Rl3 CB3 HTa
  go_wp2_with fail
  refine (PTx.out u4 (SA.out.below CB4.out) (HT.out.below (B4.out.trans (CB4.out.mono hw4)))).mono ?_; rintro e u5 ⟨rfl, b⟩
  have CB5 := Lib.hid (CB4.out.tr b)
  clear b CB4 PTx
  go_wp2_with fail
  refine (HTx.out u5 (X.out.below CB5.out)).mono ?_; rintro e u6 ⟨rfl, b⟩
  have CB6 := Lib.hid (CB5.out.tr b)
  clear b CB5 HTx
  go_wp2_with fail
  refine (PTy.out u6 (SB.out.below CB6.out) (HT.out.below (B4.out.trans (CB6.out.mono hw4)))).mono ?_; rintro e u7 ⟨rfl, b⟩
  have CB7 := Lib.hid (CB6.out.tr b)
  clear b CB6 PTy
  go_wp2_with fail
  refine (HTy.out u7 (Y.out.below CB7.out)).mono ?_; rintro e u8 ⟨rfl, b⟩
  have CB8 := Lib.hid (B4.out.trans ((CB7.out.tr b).mono hw4))
  clear b CB7 HTy
  go_wp2_with fail
  go_ret
  exact ⟨by simp, CB8.out⟩
end Go.Proofs.YthgefcoaaommkaaGreatDoor
