/- The walk of the statement DigestBundle. -/
import Derived.Test.YtlchcjnbbhpiaaaGreatDoorYac
import Derived.Test.YtlchcjnbbhpiaaaGreatDoorZx
namespace Go.Proofs.YtlchcjnbbhpiaaaGreatDoor
open Go.RowKit Go.Shelf Go.Dg Go.Maps

theorem rfIn_small {w : World} {d : Dg} {A : Option Addr} {c : Nat} (hr : RdI w A d.its) (hc : d.its.length ≤ c) (h1 : ∀ x ∈ d.its, okS x) (h2 : d.ti.length ≤ 200) (h3 : d.its.length ≤ 12) : RfIn w d A c :=
  ⟨hr, hc, by omega, by omega, fun x hx => by
    obtain ⟨a, b, e⟩ := h1 x hx
    exact ⟨by omega, by omega, by omega⟩⟩
set_option maxRecDepth 100000 in
set_option maxHeartbeats 8000000 in
theorem digestBundle_walk (d : Dg) (A : Option Addr) (c : Nat) (w : World) (hr : RdI w A d.its) (hc : d.its.length ≤ c) (hcm : c ≤ maxLen) (ht : d.ti.length ≤ maxLen) (hx : ∀ x ∈ d.its, LenI x) (hg : GlD w) :
    Calls Tryz.prog 5 #[dgA d A c] w fun e w' => e = .returned (.bool true) ∧ Below w.heap.size w w' := by
  have HK := Lib.hid (fun W (hb : Below w.heap.size w W) => known_any W (hg.below hb))
  have HG := Lib.hid hg
  have HS := Lib.hid (fun W (hb : Below w.heap.size w W) => small_any d A c W (hr.below hb) hc hcm ht hx)
  have HR := Lib.hid hr
  have HC := Lib.hid hc
  clear hg hr hcm ht hx hc
  go_enter Tryz.func5, Tryz.ntmps5
  go_upto_region 1 with fail
  have B1 := Lib.hid (below_new w (.cells #[enS d.ti, i64 d.vo, i64 d.ie, i64 d.da, .slice A d.its.length c] 24))
  have X1 := Lib.hid (blk_new w (.cells #[enS d.ti, i64 d.vo, i64 d.ie, i64 d.da, .slice A d.its.length c] 24))
  generalize w.alloc (.cells #[enS d.ti, i64 d.vo, i64 d.ie, i64 d.da, .slice A d.its.length c] 24) = w1 at *
  go_wp2_with fail
  refine (HK.out _ B1.out).mono ?_; rintro e w2 ⟨rfl, b2⟩
  have B2 := Lib.hid (B1.out.tr b2)
  have X2 := Lib.hid (blk_below b2 X1.out)
  have R2 := Lib.hid (range_blk (cs := [enS d.ti, i64 d.vo, i64 d.ie, i64 d.da, .slice A d.its.length c]) X2.out)
  clear b2 B1 X1
  go_wp2_with (refine wpList_ungd rfl ?_; refine wpList_load_mid rfl 24 _ rfl w.heap.size 0 rfl [enS d.ti, i64 d.vo, i64 d.ie, i64 d.da, .slice A d.its.length c] _ R2.out Tryz.underlying24 rfl (by kernel_rfl) ?_)
  refine (HS.out _ B2.out).mono ?_; rintro e w3 ⟨hres, b3⟩
  have B3 := Lib.hid (B2.out.tr b3)
  have X3 := Lib.hid (blk_below b3 X2.out)
  have R3 := Lib.hid (range_blk (cs := [enS d.ti, i64 d.vo, i64 d.ie, i64 d.da, .slice A d.its.length c]) X3.out)
  clear b3 B2 X2 R2 HS
  rcases hres with ⟨rfl, s1, s2, s3⟩ | rfl
  case inr =>
    go_wp2_with fail
    refine (HK.out _ B3.out).mono ?_; rintro e w4 ⟨rfl, b4⟩
    have B4 := Lib.hid (B3.out.tr b4); clear b4
    go_wp2_with fail
    go_ret
    exact ⟨rfl, B4.out⟩
  have HO := Lib.hid (fun W (hr : RdI W A d.its) => ownD_any d A c W hr HC.out (by omega))
  have HIN := Lib.hid (fun (W : World) (A2 : Option Addr) (c2 : Nat) (hr : RdI W A2 d.its) (hc : d.its.length ≤ c2) (ht : Tab W) => dgIn_small hr hc ht s1 s2 s3)
  have HRF := Lib.hid (fun (W : World) (hr : RdI W A d.its) => rfIn_small hr HC.out s1 s2 s3)
  have HSU := Lib.hid (fun x hx => (s1 x hx).2.1)
  have S3 := Lib.hid s3
  clear s1 s2 s3 HK
  -- Bundle of the program
  go_wp2_with (refine wpList_load_mid rfl 24 _ rfl w.heap.size 0 rfl [enS d.ti, i64 d.vo, i64 d.ie, i64 d.da, .slice A d.its.length c] _ R3.out Tryz.underlying24 rfl (by kernel_rfl) ?_)
  refine (HO.out _ (HR.out.below B3.out)).mono ?_; rintro e w4 ⟨⟨A4, c4, rfl, r4, l4⟩, b4⟩
  have B4 := Lib.hid (B3.out.tr b4)
  have X4 := Lib.hid (blk_below b4 X3.out)
  have HB := Lib.hid (bundle_any d A4 c4 w4 (HIN.out w4 A4 c4 r4 l4 (HG.out.below B4.out).tab))
  clear b4 r4 l4 B3 X3 R3
  go_wp2_with fail
  refine HB.out.mono ?_; rintro e w5 ⟨rfl, b5⟩
  have B5 := Lib.hid (B4.out.tr b5)
  have X5 := Lib.hid (blk_below b5 X4.out)
  have R5 := Lib.hid (range_blk (cs := [enS d.ti, i64 d.vo, i64 d.ie, i64 d.da, .slice A d.its.length c]) X5.out)
  clear b5 B4 X4 HB
  -- Bundle of the reference
  go_wp2_with (refine wpList_load_mid rfl 24 _ rfl w.heap.size 0 rfl [enS d.ti, i64 d.vo, i64 d.ie, i64 d.da, .slice A d.its.length c] _ R5.out Tryz.underlying24 rfl (by kernel_rfl) ?_)
  refine (bundle_ref d A c w5 (HRF.out w5 (HR.out.below B5.out))).mono ?_; rintro e w6 ⟨rfl, b6⟩
  have B6 := Lib.hid (B5.out.tr b6)
  have X6 := Lib.hid (blk_below b6 X5.out)
  have R6 := Lib.hid (range_blk (cs := [enS d.ti, i64 d.vo, i64 d.ie, i64 d.da, .slice A d.its.length c]) X6.out)
  clear b6 B5 X5 R5
  -- Contents
  go_wp2_with (refine wpList_load_mid rfl 24 _ rfl w.heap.size 0 rfl [enS d.ti, i64 d.vo, i64 d.ie, i64 d.da, .slice A d.its.length c] _ R6.out Tryz.underlying24 rfl (by kernel_rfl) ?_)
  refine (HO.out _ (HR.out.below B6.out)).mono ?_; rintro e w7 ⟨⟨A7, c7, rfl, r7, l7⟩, b7⟩
  have B7 := Lib.hid (B6.out.tr b7)
  have X7 := Lib.hid (blk_below b7 X6.out)
  have HB := Lib.hid (contents_pub d A7 c7 w7 (HIN.out w7 A7 c7 r7 l7 (HG.out.below B7.out).tab))
  clear b7 r7 l7 B6 X6 R6
  go_wp2_with fail
  refine HB.out.mono ?_; rintro e w8 ⟨⟨v8, rfl, ho8⟩, b8⟩
  have B8 := Lib.hid (B7.out.tr b8)
  have X8 := Lib.hid (blk_below b8 X7.out)
  have R8 := Lib.hid (range_blk (cs := [enS d.ti, i64 d.vo, i64 d.ie, i64 d.da, .slice A d.its.length c]) X8.out)
  obtain ⟨A8, c8, rfl⟩ := own2_slice ho8
  have OR8 := Lib.hid ((Rd.of_own ho8).1)
  have hc8 := (Rd.of_own ho8).2.2
  clear b8 B7 X7 HB ho8
  have CD := Lib.hid (show contD d = if chkD d = 0 then linesD d.its else [] from rfl)
  have hck : (i64 (chkD d)) = (i64 (chkD d)) := rfl
  clear hck
  obtain ⟨tx, htx⟩ : ∃ q, bundD d = q := ⟨_, rfl⟩
  obtain ⟨ec, hec⟩ : ∃ q, chkD d = q := ⟨_, rfl⟩
  obtain ⟨CL, hCL⟩ : ∃ q, contD d = q := ⟨_, rfl⟩
  have HEC := Lib.hid hec
  rw [hec, hCL] at CD
  rw [hCL] at OR8 hc8
  simp only [htx, hec, hCL]
  clear htx hec hCL
  have hq1 : (ec != ec) = false := by simp
  have hq2 : (ec == ec) = true := by simp
  have hq3 : (tx == tx) = true := by simp
  go_wp2_with (refine wpList_ungd rfl ?_; refine wpList_load_mid rfl 24 _ rfl w.heap.size 0 rfl [enS d.ti, i64 d.vo, i64 d.ie, i64 d.da, .slice A d.its.length c] _ R8.out Tryz.underlying24 rfl (by kernel_rfl) ?_)
  refine (HO.out _ (HR.out.below B8.out)).mono ?_; rintro e w9 ⟨⟨A9, c9, rfl, r9, l9⟩, b9⟩
  have B9 := Lib.hid (B8.out.tr b9)
  have X9 := Lib.hid (blk_below b9 X8.out)
  have OR9 := Lib.hid (OR8.out.below b9)
  have HC9 := Lib.hid ((HIN.out w9 A9 c9 r9 l9 (HG.out.below B9.out).tab).check)
  rw [HEC.out] at HC9
  clear b9 r9 l9 B8 X8 OR8 R8
  go_wp2_with fail
  refine HC9.out.mono ?_; rintro e w10 ⟨rfl, b10⟩
  have B10 := Lib.hid (B9.out.tr b10)
  have X10 := Lib.hid (blk_below b10 X9.out)
  have OR10 := Lib.hid (OR9.out.below b10)
  clear b10 B9 X9 OR9 HC9
  by_cases h0 : ec = 0
  case neg =>
    have hz1 : (ec != 0) = true := by simpa using h0
    have hz2 : (ec == 0) = false := by simpa using h0
    have hcl : CL = [] := by have := CD.out; rwa [if_neg h0] at this
    subst hcl
    clear h0 CD
    go_wp2_with fail
    go_ret
    exact ⟨rfl, B10.out⟩
  subst h0
  have hcl : CL = linesD d.its := by have := CD.out; rwa [if_pos rfl] at this
  have HLN := Lib.hid (fun u (hu : RdI u A d.its) => lines_ref d.its A c u hu HC.out (by have := S3.out; omega) (fun x hx => Nat.le_trans (HSU.out x hx) (by omega)))
  rw [← hcl] at HLN
  have hcn : CL.length ≤ 12 := by
    rw [hcl]; unfold linesD; rw [List.length_map]
    exact Nat.le_trans (subj_len d.its) S3.out
  clear hcl CD
  have c4 := blk_cell X10.out 4
  go_wp2_with fail
  refine (HLN.out _ (HR.out.below B10.out)).mono ?_; rintro e w11 ⟨⟨v11, rfl, ho⟩, b11⟩
  obtain ⟨A11, c11, rfl⟩ := own2_slice ho
  have OR11 := Lib.hid ((Rd.of_own ho).1)
  have hc11 := (Rd.of_own ho).2.2
  have OS11 := Lib.hid (OR10.out.below b11)
  have B11 := Lib.hid (B10.out.tr b11)
  clear ho b11 B10 OR10 X10 c4 HLN
  go_wp2_with fail
  go_loopg [10] CL.length (fun gg kv wr => ∃ k : Nat, k ≤ CL.length ∧ CL.length - k ≤ gg ∧ kv = i64 k ∧ Hid (Below w11.heap.size w11 wr))
  case atStart => exact ⟨0, Nat.zero_le _, by omega, rfl, Lib.hid (Below.refl _ _)⟩
  case round =>
    obtain ⟨k, hk, hgg, rfl, IW⟩ := hrel
    by_cases hlt : k < CL.length
    · obtain ⟨b, o, l, rfl, hbl, hx, hcell⟩ := (OR11.out.below IW.out).at_ hlt
      obtain ⟨b', o', l', rfl, hbl', hx', hcell'⟩ := (OS11.out.below IW.out).at_ hlt
      obtain rfl : l = l' := Option.some.inj (hx.symm.trans hx')
      have hll : (l == l) = true := by simp
      clear hx hx'
      go_upto_region 16 with fail
      have bd := (Below.refl wr.heap.size wr).drew
      refine Flow.wp_region_segs Flow.Later Flow.Later.refl Flow.Later.trans [] [0, 1, 2, 3, 4, 5, 6, 7, 8] (by kernel_rfl) (by kernel_rfl) ?_
      have I5 := Lib.hid (IW.out.tr bd)
      have ca := (bd.cell hbl).trans hcell
      have cb := (bd.cell hbl').trans hcell'
      clear bd IW hcell hcell'
      generalize World.drew _ = wd at *
      have qa := fun t : Flow.Cls (Flow.Later wd) => Flow.cls_cell ca t
      have qb := fun t : Flow.Cls (Flow.Later wd) => Flow.cls_cell cb t
      haveI nonE := Flow.cls_nonempty wd
      rw [Flow.wpSegs_nil]
      simp only [Flow.pick, List.getElem?_toArray, List.getElem?_cons_succ, List.getElem?_cons_zero]
      repeat go_big_quiet_step (fail)
      refine wpQuiet_nil ?_
      clear nonE qa qb ca cb
      go_wp2_with fail
      go_roundg (CL.length - (k + 1))
      case measure => omega
      case rel => exact ⟨k + 1, by omega, by omega, by simp, I5⟩
    · obtain rfl : k = CL.length := by omega
      have B12 := Lib.hid (B11.out.tr IW.out)
      go_wp2_with fail
      go_ret
      exact ⟨rfl, B12.out⟩
end Go.Proofs.YtlchcjnbbhpiaaaGreatDoor
