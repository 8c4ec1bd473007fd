/- The walk of the statement DigestRoundTrip. -/
import Derived.Test.YtlchcjnbbhpiaaaGreatDoorZn
import Derived.Test.YtlchcjnbbhpiaaaGreatDoorZw
namespace Go.Proofs.YtlchcjnbbhpiaaaGreatDoor
open Go.RowKit Go.Shelf Go.Dg Go.Maps

theorem dgIn_small {w : World} {d : Dg} {A : Option Addr} {c : Nat} (hr : RdI w A d.its) (hc : d.its.length ≤ c) (ht : Tab w) (h1 : ∀ x ∈ d.its, okS x) (h2 : d.ti.length ≤ 200) (h3 : d.its.length ≤ 12) : DgIn w d A c :=
  ⟨hr, hc, ht, by omega, by omega, fun x hx => by
    obtain ⟨a, b, e⟩ := h1 x hx
    exact ⟨by omega, by omega, by omega⟩⟩
set_option maxRecDepth 100000 in
set_option maxHeartbeats 8000000 in
theorem digestRoundTrip_walk (d : Dg) (A : Option Addr) (c : Nat) (w : World) (hr : RdI w A d.its) (hc : d.its.length ≤ c) (hcm : c ≤ maxLen) (ht : d.ti.length ≤ maxLen) (hx : ∀ x ∈ d.its, LenI x) (hg : GlD w) :
    Calls Tryz.prog 3 #[dgA d A c] w fun e w' => e = .returned (.bool true) ∧ Below w.heap.size w w' := by
  have HK := Lib.hid (fun W (hb : Below w.heap.size w W) => known_any W (hg.below hb))
  have HG := Lib.hid hg
  have HS := Lib.hid (fun W (hb : Below w.heap.size w W) => small_any d A c W (hr.below hb) hc hcm ht hx)
  have HR := Lib.hid hr
  have HC := Lib.hid hc
  clear hg hr hcm ht hx hc
  go_enter Tryz.func3, Tryz.ntmps3
  go_upto_region 1 with fail
  have B1 := Lib.hid (below_new w (.cells #[enS d.ti, i64 d.vo, i64 d.ie, i64 d.da, .slice A d.its.length c] 24))
  have X1 := Lib.hid (blk_new w (.cells #[enS d.ti, i64 d.vo, i64 d.ie, i64 d.da, .slice A d.its.length c] 24))
  generalize w.alloc (.cells #[enS d.ti, i64 d.vo, i64 d.ie, i64 d.da, .slice A d.its.length c] 24) = w1 at *
  go_wp2_with fail
  refine (HK.out _ B1.out).mono ?_; rintro e w2 ⟨rfl, b2⟩
  have B2 := Lib.hid (B1.out.tr b2)
  have X2 := Lib.hid (blk_below b2 X1.out)
  have R2 := Lib.hid (range_blk (cs := [enS d.ti, i64 d.vo, i64 d.ie, i64 d.da, .slice A d.its.length c]) X2.out)
  clear b2 B1 X1
  go_wp2_with (refine wpList_ungd rfl ?_; refine wpList_load_mid rfl 24 _ rfl w.heap.size 0 rfl [enS d.ti, i64 d.vo, i64 d.ie, i64 d.da, .slice A d.its.length c] _ R2.out Tryz.underlying24 rfl (by kernel_rfl) ?_)
  refine (HS.out _ B2.out).mono ?_; rintro e w3 ⟨hres, b3⟩
  have B3 := Lib.hid (B2.out.tr b3)
  have X3 := Lib.hid (blk_below b3 X2.out)
  have R3 := Lib.hid (range_blk (cs := [enS d.ti, i64 d.vo, i64 d.ie, i64 d.da, .slice A d.its.length c]) X3.out)
  clear b3 B2 X2 R2 HS
  rcases hres with ⟨rfl, s1, s2, s3⟩ | rfl
  case inr =>
    go_wp2_with fail
    refine (HK.out _ B3.out).mono ?_; rintro e w4 ⟨rfl, b4⟩
    have B4 := Lib.hid (B3.out.tr b4); clear b4
    go_wp2_with fail
    go_ret
    exact ⟨rfl, B4.out⟩
  have HO := Lib.hid (ownD_any d A c w3 (HR.out.below B3.out) HC.out (by omega))
  have HIN := Lib.hid (fun (W : World) (A2 : Option Addr) (c2 : Nat) (hr : RdI W A2 d.its) (hc : d.its.length ≤ c2) (ht : Tab W) => dgIn_small hr hc ht s1 s2 s3)
  have S3 := Lib.hid s3
  clear s1 s2 s3 HK
  go_wp2_with (refine wpList_load_mid rfl 24 _ rfl w.heap.size 0 rfl [enS d.ti, i64 d.vo, i64 d.ie, i64 d.da, .slice A d.its.length c] _ R3.out Tryz.underlying24 rfl (by kernel_rfl) ?_)
  refine HO.out.mono ?_; rintro e w4 ⟨⟨A4, c4, rfl, r4, l4⟩, b4⟩
  have B4 := Lib.hid (B3.out.tr b4)
  have X4 := Lib.hid (blk_below b4 X3.out)
  have HB := Lib.hid (bundle_any d A4 c4 w4 (HIN.out w4 A4 c4 r4 l4 (HG.out.below B4.out).tab))
  have HKY := Lib.hid r4.ky
  clear b4 r4 l4 HO HIN B3 X3 R3
  go_wp2_with fail
  refine HB.out.mono ?_; rintro e w5 ⟨rfl, b5⟩
  have B5 := Lib.hid (B4.out.tr b5)
  have X5 := Lib.hid (blk_below b5 X4.out)
  clear b5 B4 X4 HB
  by_cases h0 : chkD d = 0
  case neg =>
    have q1 : (chkD d != 0) = true := by simpa using h0
    have e1 : bundD d = [] := if_neg h0
    rw [e1]
    clear h0 e1
    go_wp2_with fail
    go_ret
    exact ⟨rfl, B5.out⟩
  have e1 : bundD d = textD d := if_pos h0
  have HBD := Lib.hid (burstD_text h0 HKY.out)
  have hlen := (chkD_zero h0).2.2.2.2.2.2.2
  rw [e1, h0]
  clear e1 h0
  obtain ⟨t, htt⟩ : ∃ q, textD d = q := ⟨_, rfl⟩
  rw [htt] at HBD hlen ⊢
  clear htt
  have HU := Lib.hid (burst_any t w5 (HG.out.below B5.out) (by omega))
  go_wp2_with fail
  refine HU.out.mono ?_; rintro e w6 ⟨⟨v, rfl, hv⟩, b6⟩
  unfold BuR at hv
  rw [HBD.out] at hv
  obtain ⟨A6, c6, rfl, r6, l6, -⟩ := hv
  have bn := below_new w6 (.cells #[enS d.ti, i64 d.vo, i64 d.ie, i64 d.da, .slice A6 d.its.length c6] 32)
  have X7 := Lib.hid (blk_below bn (blk_below b6 X5.out))
  have Y7 := Lib.hid (blk_new w6 (.cells #[enS d.ti, i64 d.vo, i64 d.ie, i64 d.da, .slice A6 d.its.length c6] 32))
  have B7 := Lib.hid ((B5.out.tr b6).tr bn)
  have R6 := Lib.hid (r6.below bn)
  have L6 := Lib.hid l6
  clear b6 r6 l6 bn HU HBD B5 X5
  go_upto_region 7 with fail
  obtain ⟨nb, hnb⟩ : ∃ q, w6.heap.size = q := ⟨_, rfl⟩
  rw [hnb] at Y7 ⊢
  clear hnb
  generalize w6.alloc (.cells #[enS d.ti, i64 d.vo, i64 d.ie, i64 d.da, .slice A6 d.its.length c6] 32) = w7 at *
  have bd := (Below.refl w7.heap.size w7).drew
  refine Flow.wp_region_segs Flow.Later Flow.Later.refl Flow.Later.trans [([0, 1, 2, 3, 4, 5, 6, 7, 9], 8), ([], 10)] [11, 12] (by kernel_rfl) (by kernel_rfl) ?_
  have X8 := Lib.hid (blk_below bd X7.out)
  have Y8 := Lib.hid (blk_below bd Y7.out)
  have B8 := Lib.hid (B7.out.tr bd)
  have R8 := Lib.hid (R6.out.below bd)
  clear bd X7 Y7 B7 R6
  generalize World.drew _ = w8 at *
  have qX : ∀ t : Flow.Cls (Flow.Later w8), t.val.rangeAt w.heap.size 0 [enS d.ti, i64 d.vo, i64 d.ie, i64 d.da, .slice A d.its.length c] := fun t => range_blk (cs := [enS d.ti, i64 d.vo, i64 d.ie, i64 d.da, .slice A d.its.length c]) (blk_below t.ok X8.out)
  have qY : ∀ t : Flow.Cls (Flow.Later w8), t.val.rangeAt nb 0 [enS d.ti, i64 d.vo, i64 d.ie, i64 d.da, .slice A6 d.its.length c6] := fun t => range_blk (cs := [enS d.ti, i64 d.vo, i64 d.ie, i64 d.da, .slice A6 d.its.length c6]) (blk_below t.ok Y8.out)
  haveI nonE := Flow.cls_nonempty w8
  rw [Flow.wpSegs_cons]
  simp only [Flow.pick, List.getElem?_toArray, List.getElem?_cons_succ, List.getElem?_cons_zero]
  iterate 7 go_big_quiet_step (fail)
  refine BigFrame.wpQuiet_want rfl (fun K hK => quiet_load_mid 32 _ rfl nb 0 rfl [enS d.ti, i64 d.vo, i64 d.ie, i64 d.da, .slice A6 d.its.length c6] _ (fun _ he => by obtain ⟨t, rfl⟩ := he; exact qY t) Tryz.underlying32 rfl (by kernel_rfl) (hK _ ?_))
  clear hK K
  simp only [Act.put, List.setIfInBounds_toArray, List.set_cons_succ, List.set_cons_zero]
  refine BigFrame.wpQuiet_want rfl (fun K hK => quiet_load_mid 24 _ rfl w.heap.size 0 rfl [enS d.ti, i64 d.vo, i64 d.ie, i64 d.da, .slice A d.its.length c] _ (fun _ he => by obtain ⟨t, rfl⟩ := he; exact qX t) Tryz.underlying24 rfl (by kernel_rfl) (hK _ ?_))
  clear hK K
  simp only [Act.put, List.setIfInBounds_toArray, List.set_cons_succ, List.set_cons_zero]
  refine wpQuiet_nil ?_
  clear nonE qX qY
  rw [Flow.callAt_eq]
  simp only [List.getElem?_toArray, List.getElem?_cons_succ, List.getElem?_cons_zero]
  rw [if_pos (by rfl)]
  refine Flow.wp_behind (fun K0 hK => ?_)
  go_wp2_with fail
  refine (back_any d A6 c6 _ R8.out L6.out (by have := S3.out; omega)).mono ?_; rintro e w9 ⟨⟨A9, c9, rfl, r9, l9⟩, b9⟩
  refine hK.out _ _ ⟨b9, ?_⟩
  clear hK K0
  have B9 := Lib.hid (B8.out.tr b9)
  have HSA := Lib.hid (same_any d A9 A c9 c w9 r9 (HR.out.below B9.out) l9 HC.out (by have := S3.out; omega))
  clear b9 r9 l9 B8 X8 Y8 R8
  haveI nonE := Flow.cls_nonempty w9
  rw [Flow.wpSegs_cons]
  simp only [Flow.pick]
  refine wpQuiet_nil ?_
  clear nonE
  rw [Flow.callAt_eq]
  simp only [List.getElem?_toArray, List.getElem?_cons_succ, List.getElem?_cons_zero]
  rw [if_pos (by rfl)]
  refine Flow.wp_behind (fun K0 hK => ?_)
  go_wp2_with fail
  refine HSA.out.mono ?_; rintro e w10 ⟨rfl, b10⟩
  refine hK.out _ _ ⟨b10, ?_⟩
  clear hK K0
  have B10 := Lib.hid (B9.out.tr b10)
  clear b10 B9 HSA
  haveI nonE := Flow.cls_nonempty w10
  rw [Flow.wpSegs_nil]
  simp only [Flow.pick, List.getElem?_toArray, List.getElem?_cons_succ, List.getElem?_cons_zero]
  repeat go_big_quiet_step (fail)
  refine wpQuiet_nil ?_
  clear nonE
  go_wp2_with fail
  go_ret
  exact ⟨rfl, B10.out⟩
end Go.Proofs.YtlchcjnbbhpiaaaGreatDoor
