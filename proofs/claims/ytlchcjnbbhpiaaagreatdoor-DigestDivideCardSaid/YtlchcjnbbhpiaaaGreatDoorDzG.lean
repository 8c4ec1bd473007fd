/- The walk of the statement DigestDivide. -/
import Derived.Test.YtlchcjnbbhpiaaaGreatDoorDzD
import Derived.Test.YtlchcjnbbhpiaaaGreatDoorDzF
namespace Go.Dg
theorem divF_err {d : Dg} {items bytes : Int} {l : List Dg} {z : Int} (h : divF d items bytes = (l, z)) (hz : z ≠ 0) : l = [] := by
 unfold divF at h
 split at h
 ·exact (Prod.mk.inj h).1.symm
 ·split at h
  ·exact (Prod.mk.inj h).1.symm
  ·split at h
   ·exact (Prod.mk.inj h).1.symm
   ·split at h
    ·exact (Prod.mk.inj h).1.symm
    ·exact absurd (Prod.mk.inj h).2.symm hz
theorem divF_len {d : Dg} {items bytes : Int} {l : List Dg} {z : Int} (h : divF d items bytes = (l, z)) : l.length ≤ d.its.length := by
 by_cases hz : z = 0
 ·subst hz
  unfold divF at h
  by_cases hc : chkD d ≠ 0
  ·rw [if_pos hc] at h; rw [← (Prod.mk.inj h).1]; exact Nat.zero_le _
  rw [if_neg hc] at h
  by_cases hr : (items < 1 ∨ 200 < items) ∨ (bytes < 1 ∨ 1048576 < bytes)
  ·rw [if_pos hr] at h; rw [← (Prod.mk.inj h).1]; exact Nat.zero_le _
  rw [if_neg hr] at h
  cases hd : divL d items.toNat bytes.toNat d.its.length 0 d.its with
  | none => rw [hd] at h; rw [← (Prod.mk.inj h).1]; exact Nat.zero_le _
  | some ps =>
   rw [hd] at h
   simp only at h
   by_cases ho : d.ie + ps.length - 1 > 1000000
   ·rw [if_pos ho] at h; rw [← (Prod.mk.inj h).1]; exact Nat.zero_le _
   rw [if_neg ho] at h
   rw [← (Prod.mk.inj h).1]
   exact (divL_parts _ _ _ _ _ _ _ (Nat.le_refl _) hd).2.2.1
 ·rw [divF_err h hz]; exact Nat.zero_le _
end Go.Dg
namespace Go.Proofs.YtlchcjnbbhpiaaaGreatDoor
open Go.RowKit Go.Shelf Go.Dg Go.Maps
theorem rfInS {w : World} {d : Dg} {A : Option Addr} {c : Nat} (hr : RdI w A d.its) (hc : d.its.length ≤ c) (h1 : ∀ x ∈ d.its, okS x) (h2 : d.ti.length ≤ 200) (h3 : d.its.length ≤ 12) : RfIn w d A c :=
 ⟨hr, hc, by omega, by omega, fun x hx => by
  obtain ⟨a, b, e⟩ := h1 x hx
  exact ⟨by omega, by omega, by omega⟩⟩
set_option maxRecDepth 100000 in
set_option maxHeartbeats 32000000 in
theorem digestDivide_walk (d : Dg) (A : Option Addr) (c : Nat) (items bytes : Int) (w : World) (hr : RdI w A d.its) (hc : d.its.length ≤ c) (hcm : c ≤ maxLen) (ht : d.ti.length ≤ maxLen) (hx : ∀ x ∈ d.its, LenI x) (hg : GlD w) :
  Calls Tryz.prog 11 #[dgA d A c, i64 items, i64 bytes] w fun e w' => e = .returned (.bool true) ∧ Below w.heap.size w w' := by
 have HK := Lib.hid (fun W (hb : Below w.heap.size w W) => known_any W (hg.below hb))
 have HG := Lib.hid hg
 have HS := Lib.hid (fun W (hb : Below w.heap.size w W) => small_any d A c W (hr.below hb) hc hcm ht hx)
 have HR := Lib.hid hr
 have HC := Lib.hid hc
 clear hg hr hcm ht hx hc
 go_enter Tryz.func11, Tryz.ntmps11
 go_upto_region 1 with fail
 have B1 := Lib.hid (below_new w (.cells #[enS d.ti, i64 d.vo, i64 d.ie, i64 d.da, .slice A d.its.length c] 24))
 have X1 := Lib.hid (blk_new w (.cells #[enS d.ti, i64 d.vo, i64 d.ie, i64 d.da, .slice A d.its.length c] 24))
 generalize w.alloc (.cells #[enS d.ti, i64 d.vo, i64 d.ie, i64 d.da, .slice A d.its.length c] 24) = w1 at *
 go_wp2_with fail
 refine (HK.out _ B1.out).mono ?_; rintro e w2 ⟨rfl, b2⟩
 have B2 := Lib.hid (B1.out.tr b2)
 have X2 := Lib.hid (blk_below b2 X1.out)
 have R2 := Lib.hid (range_blk (cs := [enS d.ti, i64 d.vo, i64 d.ie, i64 d.da, .slice A d.its.length c]) X2.out)
 clear b2 B1 X1
 go_wp2_with (refine wpList_ungd rfl ?_; refine wpList_load_mid rfl 24 _ rfl w.heap.size 0 rfl [enS d.ti, i64 d.vo, i64 d.ie, i64 d.da, .slice A d.its.length c] _ R2.out Tryz.underlying24 rfl (by kernel_rfl) ?_)
 refine (HS.out _ B2.out).mono ?_; rintro e w3 ⟨hres, b3⟩
 have B3 := Lib.hid (B2.out.tr b3)
 have X3 := Lib.hid (blk_below b3 X2.out)
 have R3 := Lib.hid (range_blk (cs := [enS d.ti, i64 d.vo, i64 d.ie, i64 d.da, .slice A d.its.length c]) X3.out)
 clear b3 B2 X2 R2 HS
 rcases hres with ⟨rfl, s1, s2, s3⟩ | rfl
 case inr =>
  go_wp2_with fail
  refine (HK.out _ B3.out).mono ?_; rintro e w4 ⟨rfl, b4⟩
  have B4 := Lib.hid (B3.out.tr b4); clear b4
  go_wp2_with fail
  go_ret
  exact ⟨rfl, B4.out⟩
 have HO := Lib.hid (fun W (hr : RdI W A d.its) => ownD_any d A c W hr HC.out (by omega))
 have HRF := Lib.hid (fun (W : World) (hr : RdI W A d.its) => rfInS hr HC.out s1 s2 s3)
 have HSM := Lib.hid (fun x (hx : x ∈ d.its) => (by obtain ⟨t1, t2, t3⟩ := s1 x hx; exact ⟨by omega, by omega, by omega⟩ : x.fr.length ≤ 1000000000 ∧ x.su.length ≤ 1000000000 ∧ x.bo.length ≤ 1000000000))
 have S2 := Lib.hid s2
 have S3 := Lib.hid s3
 clear s1 s2 s3 HK
 -- Divide of the program
 go_wp2_with (refine wpList_load_mid rfl 24 _ rfl w.heap.size 0 rfl [enS d.ti, i64 d.vo, i64 d.ie, i64 d.da, .slice A d.its.length c] _ R3.out Tryz.underlying24 rfl (by kernel_rfl) ?_)
 refine (HO.out _ (HR.out.below B3.out)).mono ?_; rintro e w4 ⟨⟨A4, c4, rfl, r4, l4⟩, b4⟩
 have B4 := Lib.hid (B3.out.tr b4)
 have X4 := Lib.hid (blk_below b4 X3.out)
 have HB := Lib.hid (divide_any d A4 c4 items bytes w4 r4 l4 (HG.out.below B4.out).tab (by have := S3.out; omega) (by have := S2.out; omega) HSM.out)
 clear b4 r4 l4 B3 X3 R3 HO
 go_wp2_with fail
 refine HB.out.mono ?_; rintro e w5 ⟨⟨A5, c5, l5, rfl, e5, r5, q5⟩, b5⟩
 have B5 := Lib.hid (B4.out.tr b5)
 have X5 := Lib.hid (blk_below b5 X4.out)
 have R5 := Lib.hid (range_blk (cs := [enS d.ti, i64 d.vo, i64 d.ie, i64 d.da, .slice A d.its.length c]) X5.out)
 have P5 := Lib.hid r5
 have Q5 := Lib.hid q5
 clear b5 B4 X4 HB r5 q5
 -- Divide of the reference
 go_wp2_with (refine wpList_load_mid rfl 24 _ rfl w.heap.size 0 rfl [enS d.ti, i64 d.vo, i64 d.ie, i64 d.da, .slice A d.its.length c] _ R5.out Tryz.underlying24 rfl (by kernel_rfl) ?_)
 refine (divR_any d A c items bytes w5 (HRF.out w5 (HR.out.below B5.out))).mono ?_; rintro e w6 ⟨⟨A6, c6, l6, rfl, e6, r6, q6⟩, b6⟩
 have B6 := Lib.hid (B5.out.tr b6)
 have X6 := Lib.hid (blk_below b6 X5.out)
 have P6 := Lib.hid (P5.out.below b6)
 have T6 := Lib.hid r6
 clear b6 B5 X5 R5 P5 HRF r6 q6
 have HER := Lib.hid (fun (l : List Dg) (z : Int) (h : divF d items bytes = (l, z)) (hz : z ≠ 0) => divF_err h hz)
 have HJN := Lib.hid (fun (l : List Dg) (h : divF d items bytes = (l, 0)) => divF_join h)
 have HLN := Lib.hid (fun (l : List Dg) (z : Int) (h : divF d items bytes = (l, z)) => divF_len h)
 obtain ⟨F, hF⟩ : ∃ q, divF d items bytes = q := ⟨_, rfl⟩
 rw [hF] at HER HJN HLN e5 e6 ⊢
 clear hF
 obtain ⟨PS, ec⟩ := F
 simp only at e5 e6 ⊢
 have HER := Lib.hid (fun hz => HER.out PS ec rfl hz)
 have HLN := Lib.hid (HLN.out PS ec rfl)
 have HJN : Hid (ec = 0 → _) := Lib.hid (fun (hz : ec = 0) => HJN.out PS (by rw [hz]))
 have hll : l6.length = l5.length := by have h := congrArg List.length (e6.trans e5.symm); rwa [List.length_map, List.length_map] at h
 have HLP : Hid (l5.length = PS.length) := Lib.hid (by (show _ = _); rw [← e5, List.length_map])
 have HE5 : Hid (∀ (k : Nat) (x : DgX), l5[k]? = some x → PS[k]? = some x.1) := Lib.hid fun k x hx => by rw [← e5, List.getElem?_map, hx]; rfl
 have HE6 : Hid (∀ (k : Nat) (x : DgX), l6[k]? = some x → PS[k]? = some x.1) := Lib.hid fun k x hx => by rw [← e6, List.getElem?_map, hx]; rfl
 have EM5 := Lib.hid e5
 have HL12 : Hid (l5.length ≤ 12) := Lib.hid (by have := HLN.out; have := HLP.out; have := S3.out; (show _ ≤ 12); omega)
 have HPK : Hid (∀ (k : Nat) (p : Dg), PS[k]? = some p → ec = 0 ∧ chkD p = 0 ∧ ((textD p).length : Int) ≤ bytes ∧ (p.its.length : Int) ≤ items ∧ p.ie = d.ie + k ∧ ∀ x ∈ p.its, x ∈ d.its) := Lib.hid fun k p hp => by
  by_cases hz : ec = 0
  ·exact ⟨hz, (HJN.out hz).1 k p hp⟩
  ·rw [HER.out hz] at hp; cases hp
 have HPL : Hid (∀ (k : Nat) (p : Dg), PS[k]? = some p → p.its.length ≤ 200) := Lib.hid fun k p hp => (chkD_zero (HPK.out k p hp).2.1).2.2.2.2.2.1
 rw [hll]
 have HLL := Lib.hid hll
 clear e5 e6 hll HER
 have hq1 : (ec != ec) = false := by simp
 have hq2 : ((l5.length : Int) != (l5.length : Int)) = false := by simp
 go_upto_block 0 with fail
 clear hq1 hq2
 go_cut [] (fun wx => Hid (Below w6.heap.size w6 wx))
 case first =>
  go_wp2_with fail
  go_loopg [11] l5.length (fun gg kv wr => ∃ k : Nat, k ≤ l5.length ∧ l5.length - k ≤ gg ∧ kv = i64 k ∧ Hid (Below w6.heap.size w6 wr))
  case atStart => exact ⟨0, Nat.zero_le _, by omega, rfl, Lib.hid (Below.refl _ _)⟩
  case round =>
   obtain ⟨k, hk, hgg, rfl, BW⟩ := hrel
   by_cases hlt : k < l5.length
   case neg =>
    obtain rfl : k = l5.length := by omega
    go_wp2_with fail
    go_meet
    exact BW
   obtain ⟨b5, o5, x5, rfl, hbl5, hx5, hrg5, hok5⟩ := P6.out.at_ hlt
   obtain ⟨b6, o6, x6, rfl, hbl6, hx6, hrg6, hok6⟩ := T6.out.at_ (show k < l6.length by rw [HLL.out]; exact hlt)
   have e5 := HE5.out k x5 hx5
   have e6 := HE6.out k x6 hx6
   obtain ⟨p, A7, c7⟩ := x5
   obtain ⟨p', A8, c8⟩ := x6
   obtain rfl : p = p' := Option.some.inj (e5.symm.trans e6)
   have hpl := HPL.out k p e5
   have HPP := Lib.hid hpl
   have HRA := Lib.hid hrg5
   have HRB := Lib.hid hrg6
   have HOA := Lib.hid hok5
   have HOB := Lib.hid hok6
   have hl6k : k < l6.length := by rw [HLL.out]; exact hlt
   clear hbl5 hbl6 hx5 hx6 hrg5 hrg6 hok5 hok6 e5 e6 hpl
   go_upto_region 10 with fail
   have bd := (Below.refl wr.heap.size wr).drew
   refine Flow.wp_region_segs Flow.Later Flow.Later.refl Flow.Later.trans [([0, 1, 2, 3, 5, 6, 7, 8], 4), ([], 9)] [10] (by kernel_rfl) (by kernel_rfl) ?_
   have B7 := Lib.hid (BW.out.tr bd)
   clear bd BW
   generalize World.drew _ = wd at *
   have qA : ∀ t : Flow.Cls (Flow.Later wd), t.val.rangeAt b5 (o5 + k * 5) [enS p.ti, i64 p.vo, i64 p.ie, i64 p.da, .slice A7 p.its.length c7] := fun t => range_below HRA.out (B7.out.tr t.ok)
   have qB : ∀ t : Flow.Cls (Flow.Later wd), t.val.rangeAt b6 (o6 + k * 5) [enS p.ti, i64 p.vo, i64 p.ie, i64 p.da, .slice A8 p.its.length c8] := fun t => range_below HRB.out (B7.out.tr t.ok)
   haveI nonE := Flow.cls_nonempty wd
   rw [Flow.wpSegs_cons]
   simp only [Flow.pick, List.getElem?_toArray, List.getElem?_cons_succ, List.getElem?_cons_zero]
   iterate 3 go_big_quiet_step (fail)
   refine BigFrame.wpQuiet_want rfl (fun K hK => quiet_load_mid 32 _ rfl b5 (o5 + k * 5) rfl [enS p.ti, i64 p.vo, i64 p.ie, i64 p.da, .slice A7 p.its.length c7] _ (fun _ he => by obtain ⟨t, rfl⟩ := he; exact qA t) Tryz.underlying32 rfl (by kernel_rfl) (hK _ ?_))
   clear hK K
   simp only [Act.put, List.setIfInBounds_toArray, List.set_cons_succ, List.set_cons_zero]
   iterate 3 go_big_quiet_step (fail)
   refine BigFrame.wpQuiet_want rfl (fun K hK => quiet_load_mid 24 _ rfl b6 (o6 + k * 5) rfl [enS p.ti, i64 p.vo, i64 p.ie, i64 p.da, .slice A8 p.its.length c8] _ (fun _ he => by obtain ⟨t, rfl⟩ := he; exact qB t) Tryz.underlying24 rfl (by kernel_rfl) (hK _ ?_))
   clear hK K
   simp only [Act.put, List.setIfInBounds_toArray, List.set_cons_succ, List.set_cons_zero]
   refine wpQuiet_nil ?_
   clear nonE qA qB
   rw [Flow.callAt_eq]
   simp only [List.getElem?_toArray, List.getElem?_cons_succ, List.getElem?_cons_zero]
   rw [if_pos (by rfl)]
   refine Flow.wp_behind (fun K0 hK => ?_)
   go_wp2_with fail
   refine (back_any p A7 c7 _ (HOA.out.rd.below B7.out) HOA.out.cap (by have := HPP.out; omega)).mono ?_; rintro e w9 ⟨⟨A9, c9, rfl, r9, l9⟩, b9⟩
   refine hK.out _ _ ⟨b9, ?_⟩
   clear hK K0
   have B9 := Lib.hid (B7.out.tr b9)
   have HSA := Lib.hid (same_any p A9 A8 c9 c8 w9 r9 (HOB.out.rd.below B9.out) l9 HOB.out.cap (by have := HPP.out; omega))
   clear b9 r9 l9 B7
   haveI nonE := Flow.cls_nonempty w9
   rw [Flow.wpSegs_cons]
   simp only [Flow.pick]
   refine wpQuiet_nil ?_
   clear nonE
   rw [Flow.callAt_eq]
   simp only [List.getElem?_toArray, List.getElem?_cons_succ, List.getElem?_cons_zero]
   rw [if_pos (by rfl)]
   refine Flow.wp_behind (fun K0 hK => ?_)
   go_wp2_with fail
   refine HSA.out.mono ?_; rintro e w10 ⟨rfl, b10⟩
   refine hK.out _ _ ⟨b10, ?_⟩
   clear hK K0
   have B10 := Lib.hid (B9.out.tr b10)
   clear b10 B9 HSA
   haveI nonE := Flow.cls_nonempty w10
   rw [Flow.wpSegs_nil]
   simp only [Flow.pick, List.getElem?_toArray, List.getElem?_cons_succ, List.getElem?_cons_zero]
   repeat go_big_quiet_step (fail)
   refine wpQuiet_nil ?_
   clear nonE
   have hwk : wrap64 ((k : Int) + 1) = (k : Int) + 1 := by have := HL12.out; unfold wrap64; omega
   go_wp2_with fail
   go_roundg (l5.length - (k + 1))
   case measure => omega
   case rel => exact ⟨k + 1, by omega, by omega, by simp; exact hwk, B10⟩
 have B7 := hcut
 generalize wc = w7 at *
 by_cases h0 : ec = 0
 case neg =>
  have hz : (ec != 0) = true := by simpa using h0
  clear h0
  go_wp2_with fail
  go_ret
  exact ⟨rfl, B6.out.tr B7.out⟩
 subst h0
 have HJF := Lib.hid (HJN.out rfl).2
 clear HJN HE6 T6 HLL
 have P7 := Lib.hid (P6.out.below B7.out)
 have X7 := Lib.hid (blk_below B7.out X6.out)
 have B7' := Lib.hid (B6.out.tr B7.out)
 clear P6 X6 B6 B7
 have HIN := Lib.hid (fun (k : Nat) (p : Dg) (hp : PS[k]? = some p) (W : World) (A' : Option Addr) (c' : Nat) (hr : RdI W A' p.its) (hc : p.its.length ≤ c') (ht : Tab W) => (⟨hr, hc, ht, by have := HPL.out k p hp; omega, by
  have h := (chkD_zero (HPK.out k p hp).2.1).1
  unfold titleB at h
  simp only [Bool.and_eq_true, decide_eq_true_eq] at h
  omega, fun x hx => HSM.out x ((HPK.out k p hp).2.2.2.2.2 x hx)⟩ : DgIn W p A' c'))
 have hq0 : ((0 : Int) != 0) = false := rfl
 go_upto_block 2 with fail
 go_cut [] (fun wx => Hid (Below w7.heap.size w7 wx))
 case first =>
  go_wp2_with fail
  go_loopg [12] l5.length (fun gg kv wr => ∃ k : Nat, k ≤ l5.length ∧ l5.length - k ≤ gg ∧ kv = i64 k ∧ Hid (Below w7.heap.size w7 wr))
  case atStart => exact ⟨0, Nat.zero_le _, by omega, rfl, Lib.hid (Below.refl _ _)⟩
  case round =>
   obtain ⟨k, hk, hgg, rfl, BW⟩ := hrel
   by_cases hlt : k < l5.length
   case neg =>
    obtain rfl : k = l5.length := by omega
    go_wp2_with fail
    go_meet
    exact BW
   obtain ⟨b5, o5, x5, rfl, hbl5, hx5, hrg5, hok5⟩ := P7.out.at_ hlt
   have e5 := HE5.out k x5 hx5
   obtain ⟨p, A7, c7⟩ := x5
   obtain ⟨-, hk1, hk2, hk3, hk4, -⟩ := HPK.out k p e5
   have HRA := Lib.hid hrg5
   have HOA := Lib.hid hok5
   have HBN := Lib.hid (fun W hr hc ht => HIN.out k p e5 W A7 c7 hr hc ht)
   have r5 : wr.rangeAt b5 (o5 + k * 5) [enS p.ti, i64 p.vo, i64 p.ie, i64 p.da, .slice A7 p.its.length c7] := range_below hrg5 BW.out
   have HK1 := Lib.hid hk1
   have HK2 := Lib.hid hk2
   have HK3 := Lib.hid hk3
   have HK4 := Lib.hid hk4
   clear hbl5 hx5 hrg5 hok5 e5 hk1 hk2 hk3 hk4
   go_wp2_with (refine wpList_load_mid rfl 32 _ rfl b5 (o5 + k * 5) rfl [enS p.ti, i64 p.vo, i64 p.ie, i64 p.da, .slice A7 p.its.length c7] _ r5 Tryz.underlying32 rfl (by kernel_rfl) ?_)
   clear r5
   refine (bundle_any p A7 c7 wr (HBN.out wr (HOA.out.rd.below BW.out) HOA.out.cap (HG.out.below (B7'.out.tr BW.out)).tab)).mono ?_; rintro e w8 ⟨rfl, b8⟩
   have B8 := Lib.hid (BW.out.tr b8)
   clear b8 BW HBN
   have hbd : bundD p = textD p := by unfold bundD; rw [if_pos HK1.out]
   rw [hbd, HK1.out]
   clear hbd
   obtain ⟨tx, htx⟩ : ∃ q, textD p = q := ⟨_, rfl⟩
   rw [htx] at HK2 ⊢
   clear htx
   go_upto_region 18 with fail
   have bd := (Below.refl w8.heap.size w8).drew
   refine Flow.wp_region_segs Flow.Later Flow.Later.refl Flow.Later.trans [] [0, 1, 2, 3, 4, 5, 6, 7, 8, 9, 10, 11, 12, 13, 14, 15, 16, 17, 18, 19, 20, 21, 22, 23, 24, 25, 26, 27, 28, 29] (by kernel_rfl) (by kernel_rfl) ?_
   have B9 := Lib.hid (B8.out.tr bd)
   clear bd B8
   generalize World.drew _ = wd at *
   have qA : ∀ t : Flow.Cls (Flow.Later wd), t.val.cell? ⟨b5, o5 + k * 5 + 4, none⟩ = some (.slice A7 p.its.length c7) := fun t => range_below HRA.out (B9.out.tr t.ok) 4 _ rfl
   have qB : ∀ t : Flow.Cls (Flow.Later wd), t.val.cell? ⟨b5, o5 + k * 5 + 2, none⟩ = some (i64 p.ie) := fun t => range_below HRA.out (B9.out.tr t.ok) 2 _ rfl
   have qC : ∀ t : Flow.Cls (Flow.Later wd), t.val.cell? ⟨w.heap.size, 2, none⟩ = some (i64 d.ie) := fun t => blk_cell (blk_below (B9.out.tr t.ok) X7.out) 2
   haveI nonE := Flow.cls_nonempty wd
   have hk2 : decide (bytes < (tx.length : Int)) = false := by rw [decide_eq_false_iff_not]; have := HK2.out; omega
   have hk3 : decide (items < (p.its.length : Int)) = false := by rw [decide_eq_false_iff_not]; have := HK3.out; omega
   have hwi : wrap64 (d.ie + (k : Int)) = p.ie := by
    have h := (chkD_zero HK1.out).2.2.1
    unfold ordB at h
    simp only [Bool.and_eq_true, decide_eq_true_eq] at h
    rw [HK4.out] at h ⊢
    unfold wrap64; omega
   have hpp : (p.ie != p.ie) = false := by simp
   rw [Flow.wpSegs_nil]
   simp only [Flow.pick, List.getElem?_toArray, List.getElem?_cons_succ, List.getElem?_cons_zero]
   repeat (first | go_big_quiet_step (fail) | simp only [hwi])
   refine wpQuiet_nil ?_
   clear nonE qA qB qC hk2 hk3 hwi
   have hwk : wrap64 ((k : Int) + 1) = (k : Int) + 1 := by have := HL12.out; unfold wrap64; omega
   go_wp2_with fail
   go_roundg (l5.length - (k + 1))
   case measure => omega
   case rel => exact ⟨k + 1, by omega, by omega, by simp; exact hwk, B9⟩
 generalize wc = w8 at *
 have P8 := Lib.hid (P7.out.below hcut.out)
 have X8 := Lib.hid (blk_below hcut.out X7.out)
 have B8 := Lib.hid (B7'.out.tr hcut.out)
 have HJ := Lib.hid (join_all A5 c5 l5 w8 P8.out Q5.out (by have := HL12.out; omega) (HG.out.below B8.out).tab (fun x hx => by
  obtain ⟨k, hk⟩ := List.mem_iff_getElem?.1 hx
  have e5 := HE5.out k x hk
  have h := (chkD_zero (HPK.out k x.1 e5).2.1).1
  have hl := HPL.out k x.1 e5
  unfold titleB at h
  simp only [Bool.and_eq_true, decide_eq_true_eq] at h
  exact ⟨by omega, by omega, fun z hz => HSM.out z ((HPK.out k x.1 e5).2.2.2.2.2 z hz)⟩))
 rw [EM5.out, HJF.out] at HJ
 simp only at HJ
 clear P7 X7 B7' hcut P8 HPK HPL HIN HE5 HJF EM5 HLP hq0
 go_wp2_with fail
 refine HJ.out.mono ?_; rintro e w9 ⟨⟨A9, c9, rfl, r9, l9⟩, b9⟩
 have bn := below_new w9 (.cells #[enS d.ti, i64 d.vo, i64 d.ie, i64 d.da, .slice A9 d.its.length c9] 32)
 have Y10 := Lib.hid (blk_new w9 (.cells #[enS d.ti, i64 d.vo, i64 d.ie, i64 d.da, .slice A9 d.its.length c9] 32))
 have X10 := Lib.hid (blk_below bn (blk_below b9 X8.out))
 have B10 := Lib.hid ((B8.out.tr b9).tr bn)
 have R10 := Lib.hid (r9.below bn)
 have C10 := Lib.hid l9
 clear b9 r9 l9 bn HJ X8 B8
 go_upto_region 21 with fail
 obtain ⟨nb, hnb⟩ : ∃ q, w9.heap.size = q := ⟨_, rfl⟩
 rw [hnb] at Y10 ⊢
 clear hnb
 generalize w9.alloc (.cells #[enS d.ti, i64 d.vo, i64 d.ie, i64 d.da, .slice A9 d.its.length c9] 32) = w10 at *
 have bd := (Below.refl w10.heap.size w10).drew
 refine Flow.wp_region_segs Flow.Later Flow.Later.refl Flow.Later.trans [([0, 1, 2, 3, 5], 4), ([], 6)] [7, 8] (by kernel_rfl) (by kernel_rfl) ?_
 have X11 := Lib.hid (blk_below bd X10.out)
 have Y11 := Lib.hid (blk_below bd Y10.out)
 have B11 := Lib.hid (B10.out.tr bd)
 have R11 := Lib.hid (R10.out.below bd)
 clear bd X10 Y10 B10 R10
 generalize World.drew _ = w11 at *
 have qY : ∀ t : Flow.Cls (Flow.Later w11), t.val.rangeAt nb 0 [enS d.ti, i64 d.vo, i64 d.ie, i64 d.da, .slice A9 d.its.length c9] := fun t => range_blk (cs := [enS d.ti, i64 d.vo, i64 d.ie, i64 d.da, .slice A9 d.its.length c9]) (blk_below t.ok Y11.out)
 have qX : ∀ t : Flow.Cls (Flow.Later w11), t.val.rangeAt w.heap.size 0 [enS d.ti, i64 d.vo, i64 d.ie, i64 d.da, .slice A d.its.length c] := fun t => range_blk (cs := [enS d.ti, i64 d.vo, i64 d.ie, i64 d.da, .slice A d.its.length c]) (blk_below t.ok X11.out)
 have hq0 : ((0 : Int) == 0) = true := rfl
 haveI nonE := Flow.cls_nonempty w11
 rw [Flow.wpSegs_cons]
 simp only [Flow.pick, List.getElem?_toArray, List.getElem?_cons_succ, List.getElem?_cons_zero]
 iterate 3 go_big_quiet_step (fail)
 refine BigFrame.wpQuiet_want rfl (fun K hK => quiet_load_mid 32 _ rfl nb 0 rfl [enS d.ti, i64 d.vo, i64 d.ie, i64 d.da, .slice A9 d.its.length c9] _ (fun _ he => by obtain ⟨t, rfl⟩ := he; exact qY t) Tryz.underlying32 rfl (by kernel_rfl) (hK _ ?_))
 clear hK K
 simp only [Act.put, List.setIfInBounds_toArray, List.set_cons_succ, List.set_cons_zero]
 refine BigFrame.wpQuiet_want rfl (fun K hK => quiet_load_mid 24 _ rfl w.heap.size 0 rfl [enS d.ti, i64 d.vo, i64 d.ie, i64 d.da, .slice A d.its.length c] _ (fun _ he => by obtain ⟨t, rfl⟩ := he; exact qX t) Tryz.underlying24 rfl (by kernel_rfl) (hK _ ?_))
 clear hK K
 simp only [Act.put, List.setIfInBounds_toArray, List.set_cons_succ, List.set_cons_zero]
 refine wpQuiet_nil ?_
 clear nonE qX qY
 rw [Flow.callAt_eq]
 simp only [List.getElem?_toArray, List.getElem?_cons_succ, List.getElem?_cons_zero]
 rw [if_pos (by rfl)]
 refine Flow.wp_behind (fun K0 hK => ?_)
 go_wp2_with fail
 refine (back_any d A9 c9 _ R11.out C10.out (by have := S3.out; omega)).mono ?_; rintro e w12 ⟨⟨A12, c12, rfl, r12, l12⟩, b12⟩
 refine hK.out _ _ ⟨b12, ?_⟩
 clear hK K0
 have B12 := Lib.hid (B11.out.tr b12)
 have HSA := Lib.hid (same_any d A12 A c12 c w12 r12 (HR.out.below B12.out) l12 HC.out (by have := S3.out; omega))
 clear b12 r12 l12 B11 X11 Y11 R11
 haveI nonE := Flow.cls_nonempty w12
 rw [Flow.wpSegs_cons]
 simp only [Flow.pick]
 refine wpQuiet_nil ?_
 clear nonE
 rw [Flow.callAt_eq]
 simp only [List.getElem?_toArray, List.getElem?_cons_succ, List.getElem?_cons_zero]
 rw [if_pos (by rfl)]
 refine Flow.wp_behind (fun K0 hK => ?_)
 go_wp2_with fail
 refine HSA.out.mono ?_; rintro e w13 ⟨rfl, b13⟩
 refine hK.out _ _ ⟨b13, ?_⟩
 clear hK K0
 have B13 := Lib.hid (B12.out.tr b13)
 clear b13 B12 HSA
 haveI nonE := Flow.cls_nonempty w13
 rw [Flow.wpSegs_nil]
 simp only [Flow.pick, List.getElem?_toArray, List.getElem?_cons_succ, List.getElem?_cons_zero]
 repeat go_big_quiet_step (fail)
 refine wpQuiet_nil ?_
 clear nonE
 go_wp2_with fail
 go_ret
 exact ⟨rfl, B13.out⟩
end Go.Proofs.YtlchcjnbbhpiaaaGreatDoor
