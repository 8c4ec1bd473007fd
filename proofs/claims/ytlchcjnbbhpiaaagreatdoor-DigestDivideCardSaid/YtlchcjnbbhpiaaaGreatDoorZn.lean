/- Contract: known, the example by which the laws ask whether the package answers as specified.
   The walk of the statement DigestCanonical. -/
import Derived.Test.YtlchcjnbbhpiaaaGreatDoorZm
import Derived.Test.YtlchcjnbbhpiaaaGreatDoorZh
import Derived.Test.YtlchcjnbbhpiaaaGreatDoorZa
namespace Go.Proofs.YtlchcjnbbhpiaaaGreatDoor
open Go.RowKit Go.Shelf Go.Dg Go.Maps
theorem xD_in {w : World} {A : Option Addr} (ht : Tab w) (hr : RdI w A xD.its) : DgIn w xD A 1 :=
 ⟨hr, by decide, ht, by decide, by decide, fun x hx => by
  obtain rfl := List.mem_singleton.1 (show x ∈ [xI] from hx)
  decide⟩
set_option maxRecDepth 100000 in
set_option maxHeartbeats 4000000 in
theorem known_any (w : World) (hg : GlD w) : Calls Tryz.prog 12 #[] w fun e w' => e = .returned (.bool true) ∧ Below w.heap.size w w' := by
 have HG := Lib.hid hg
 clear hg
 go_enter Tryz.func12, Tryz.ntmps12
 go_wp2_with fail
 generalize hw1 : World.alloc (World.alloc w _) _ = w1
 have k1 : Below w.heap.size w w1 := hw1 ▸ ((below_new _ _).tr (below_new _ _))
 have hb0 : w1.heap[w.heap.size]? = some (.cells (itL xI).toArray 59 (0, 0)) := by
  rw [← hw1]; exact blk_old _ (blk_new w _)
 have hb1 : w1.heap[w.heap.size + 1]? = some (.cells [enS xD.ti, i64 xD.vo, i64 xD.ie, i64 xD.da, .slice (some ⟨w.heap.size, 0, none⟩) xD.its.length 1].toArray 32 (0, 0)) := by
  rw [← hw1]
  have h := blk_new (w.alloc (.cells (itL xI).toArray 59)) (.cells [enS xD.ti, i64 xD.vo, i64 xD.ie, i64 xD.da, .slice (some ⟨w.heap.size, 0, none⟩) xD.its.length 1].toArray 32)
  rw [World.size_alloc] at h
  exact h
 have R1 : RdI w1 (some ⟨w.heap.size, 0, none⟩) xD.its := ⟨fun _ => ⟨w.heap.size, 0, rfl, blk_lt hb0, fun j x hj => by
  have hj0 : j = 0 := by
   have := (List.getElem?_eq_some_iff.1 hj).1
   have e : xD.its.length = 1 := rfl
   omega
  subst hj0
  obtain rfl : xI = x := by simpa [xD] using hj
  exact range_blk hb0⟩, fun x hx => by
  obtain rfl := List.mem_singleton.1 (show x ∈ [xI] from hx)
  exact xK_len⟩
 have I1 : Hid (w1.heap[w.heap.size + 1]? = some (.cells [enS xD.ti, i64 xD.vo, i64 xD.ie, i64 xD.da, .slice (some ⟨w.heap.size, 0, none⟩) xD.its.length 1].toArray 32 (0, 0)) ∧ DgIn w1 xD (some ⟨w.heap.size, 0, none⟩) 1 ∧ GlD w1 ∧ Below w.heap.size w w1) := Lib.hid ⟨hb1, xD_in (HG.out.below k1).tab R1, HG.out.below k1, k1⟩
 clear hb0 hb1 R1 k1 hw1 HG
 have HP := Lib.hid (protect_any [120, 10, 45, 121] w1 (by decide))
 rw [x_prot] at HP
 refine HP.out.mono ?_; rintro e w2 ⟨rfl, b2⟩
 have I2 : Hid (w2.heap[w.heap.size + 1]? = some (.cells [enS xD.ti, i64 xD.vo, i64 xD.ie, i64 xD.da, .slice (some ⟨w.heap.size, 0, none⟩) xD.its.length 1].toArray 32 (0, 0)) ∧ DgIn w2 xD (some ⟨w.heap.size, 0, none⟩) 1 ∧ GlD w2 ∧ Below w.heap.size w w2) := Lib.hid ⟨blk_below b2 I1.out.1, I1.out.2.1.below b2, I1.out.2.2.1.below b2, I1.out.2.2.2.tr b2⟩
 clear b2 I1 HP
 have R2 := Lib.hid (range_blk I2.out.1)
 go_wp2_with (refine wpList_load_mid rfl 32 _ rfl (w.heap.size + 1) 0 rfl [enS xD.ti, i64 xD.vo, i64 xD.ie, i64 xD.da, .slice (some ⟨w.heap.size, 0, none⟩) xD.its.length 1] _ R2.out Tryz.underlying32 rfl (by kernel_rfl) ?_)
 have HB := Lib.hid (bundle_any xD _ _ w2 I2.out.2.1)
 have hbd : bundD xD = textD xD := if_pos xD_ok
 rw [hbd, xD_ok] at HB
 clear hbd R2
 refine HB.out.mono ?_; rintro e w3 ⟨rfl, b3⟩
 obtain ⟨t, ht⟩ : ∃ q, textD xD = q := ⟨_, rfl⟩
 have HT : Hid (burstD t = .inl xD ∧ t.length ≤ 1000000000) := Lib.hid ⟨by rw [← ht]; exact xD_burst, by rw [← ht]; have := xD_len; omega⟩
 rw [ht]
 have I3 : Hid (GlD w3 ∧ Below w.heap.size w w3) := Lib.hid ⟨I2.out.2.2.1.below b3, I2.out.2.2.2.tr b3⟩
 clear b3 I2 HB ht
 have HU := Lib.hid (burst_any t w3 I3.out.1 HT.out.2)
 go_wp2_with fail
 refine HU.out.mono ?_; rintro e w4 ⟨⟨v, rfl, hv⟩, b4⟩
 unfold BuR at hv
 rw [HT.out.1] at hv
 obtain ⟨A, c, rfl, rd, hc, -⟩ := hv
 obtain ⟨b, o, x, rfl, hlt, hx, hr, -⟩ := rd.at_ (k := 0) (by decide)
 obtain rfl : xI = x := by simpa [xD] using hx
 have I4 := Lib.hid (I3.out.2.tr b4)
 have c35 := Below.cellv (below_new w4 (.cells #[enS xD.ti, i64 xD.vo, i64 xD.ie, i64 xD.da, .slice (some ⟨b, o, none⟩) xD.its.length c] 32)) (show w4.cell? ⟨b, o + 35, none⟩ = some (enS [45, 120]) by have h := hr 35 _ rfl; rw [Nat.zero_mul, Nat.add_zero] at h; exact h)
 have hx1 : ((xD.its.length : Nat) : Int) = 1 := rfl
 have I5 := Lib.hid (I4.out.tr (below_new w4 (.cells #[enS xD.ti, i64 xD.vo, i64 xD.ie, i64 xD.da, .slice (some ⟨b, o, none⟩) xD.its.length c] 32)))
 clear HU HT I3 b4 rd hr hx hc I4
 go_wp2_with fail
 go_ret
 exact ⟨rfl, I5.out⟩
end Go.Proofs.YtlchcjnbbhpiaaaGreatDoor
