/- Contracts: the reference's Check, Bundle. -/
import Derived.Test.YtlchcjnbbhpiaaaGreatDoorYab
namespace Go.Proofs.YtlchcjnbbhpiaaaGreatDoor
open Go.RowKit Go.Shelf Go.Dg Go.Maps
set_option maxRecDepth 100000 in
set_option maxHeartbeats 16000000 in
theorem check_ref (d : Dg) (A : Option Addr) (c : Nat) (w : World) (hr : RdI w A d.its) (hc : d.its.length ≤ c) (hn : d.its.length ≤ 1000000000) (hti : d.ti.length ≤ 1000000000) (hx : ∀ x ∈ d.its, x.fr.length ≤ 1000000000 ∧ x.su.length ≤ 1000000000 ∧ x.bo.length ≤ 100000000) :
  Calls Tryz.prog 53 #[dgA d A c] w fun e w' => e = .returned (i64 (chkD d)) ∧ Below w.heap.size w w' := by
 have V := Lib.hid (show chkD d = if titleB d.ti = false then 12 else if ordB d.vo = false ∨ ordB d.ie = false then 2 else if minB d.da = false then 13 else if d.its = [] then 1 else if 200 < d.its.length then 9
  else if chkL [] d.its ≠ 0 then chkL [] d.its else if 1048576 < (textD d).length then 5 else 0 from rfl)
 obtain ⟨ti, vo, ie, da, its⟩ := d
 simp only at hc hn hti hx hr V
 have HR := Lib.hid hr
 have HX := Lib.hid hx
 have H1 := Lib.hid (fun u => sized_ref ti 1 100 u hti)
 rw [sized_title] at H1
 have H2 : Hid (∀ u, Calls Tryz.prog 67 #[i64 vo, i64 1, i64 1000000] u fun e w' => e = .returned (.bool (ordB vo)) ∧ u = w') := Lib.hid (fun u => within_ref vo 1 1000000 u)
 have H3 : Hid (∀ u, Calls Tryz.prog 67 #[i64 ie, i64 1, i64 1000000] u fun e w' => e = .returned (.bool (ordB ie)) ∧ u = w') := Lib.hid (fun u => within_ref ie 1 1000000 u)
 have H4 := Lib.hid (fun u => valid_ref da u)
 have BD := Lib.hid (blk_new w (.cells #[enS ti, i64 vo, i64 ie, i64 da, .slice A its.length c] 24))
 have B1 := Lib.hid (below_new w (.cells #[enS ti, i64 vo, i64 ie, i64 da, .slice A its.length c] 24))
 clear hr hx hti
 have c0 := blk_cell BD.out 0
 have c1 := blk_cell BD.out 1
 have c2 := blk_cell BD.out 2
 have c3 := blk_cell BD.out 3
 have c4 := blk_cell BD.out 4
 go_enter Tryz.func53, Tryz.ntmps53
 go_wp2_with fail
 refine (H1.out _).mono ?_; rintro e w1 ⟨rfl, rfl⟩
 cases q1 : titleB ti with
 | false =>
  have VB : Hid (chkD ⟨ti, vo, ie, da, its⟩ = 12) := Lib.hid (by (show _ = _); rw [V.out, q1]; rfl)
  clear q1 V
  go_wp2_with fail
  go_ret
  rw [VB.out]
  exact ⟨rfl, B1.out⟩
 | true =>
 rw [q1, if_neg (show ¬ true = false by decide)] at V
 have Q1 := Lib.hid q1
 clear q1
 go_wp2_with fail
 refine (H2.out _).mono ?_; rintro e w1 ⟨rfl, rfl⟩
 cases q1 : ordB vo with
 | false =>
  have VB : Hid (chkD ⟨ti, vo, ie, da, its⟩ = 2) := Lib.hid (by (show _ = _); rw [V.out, q1]; rfl)
  clear q1 V
  go_wp2_with fail
  go_ret
  rw [VB.out]
  exact ⟨rfl, B1.out⟩
 | true =>
 rw [q1] at V
 have Q2 := Lib.hid q1
 clear q1
 go_wp2_with fail
 refine (H3.out _).mono ?_; rintro e w1 ⟨rfl, rfl⟩
 cases q1 : ordB ie with
 | false =>
  have VB : Hid (chkD ⟨ti, vo, ie, da, its⟩ = 2) := Lib.hid (by (show _ = _); rw [V.out, q1]; rfl)
  clear q1 V
  go_wp2_with fail
  go_ret
  rw [VB.out]
  exact ⟨rfl, B1.out⟩
 | true =>
 rw [q1, if_neg (show ¬ (true = false ∨ true = false) by decide)] at V
 have Q3 := Lib.hid q1
 clear q1
 go_wp2_with fail
 refine (H4.out _).mono ?_; rintro e w1 ⟨rfl, rfl⟩
 cases q1 : minB da with
 | false =>
  have VB : Hid (chkD ⟨ti, vo, ie, da, its⟩ = 13) := Lib.hid (by (show _ = _); rw [V.out, q1]; rfl)
  clear q1 V
  go_wp2_with fail
  go_ret
  rw [VB.out]
  exact ⟨rfl, B1.out⟩
 | true =>
 rw [q1, if_neg (show ¬ true = false by decide)] at V
 have Q4 := Lib.hid q1
 clear q1
 by_cases hn0 : its.length = 0
 ·have VB : Hid (chkD ⟨ti, vo, ie, da, its⟩ = 1) := Lib.hid (by (show _ = _); rw [V.out, if_pos (List.eq_nil_of_length_eq_zero hn0)])
  clear V
  have B1' := B1.out
  rw [hn0] at B1'
  have B1' := Lib.hid B1'
  go_wp2_with fail
  go_ret
  rw [VB.out]
  exact ⟨rfl, B1'.out⟩
 have hne : ¬ its = [] := fun e => hn0 (by rw [e]; rfl)
 rw [if_neg hne] at V
 clear hne
 by_cases hn2 : 200 < its.length
 ·have VB : Hid (chkD ⟨ti, vo, ie, da, its⟩ = 9) := Lib.hid (by (show _ = _); rw [V.out, if_pos hn2])
  clear V
  go_wp2_with fail
  go_ret
  rw [VB.out]
  exact ⟨rfl, B1.out⟩
 rw [if_neg hn2] at V
 have I0 : Hid (Below w.heap.size w (w.alloc (.cells #[enS ti, i64 vo, i64 ie, i64 da, .slice A its.length c] 24)) ∧ (w.alloc (.cells #[enS ti, i64 vo, i64 ie, i64 da, .slice A its.length c] 24)).heap[w.heap.size]? = some (.cells #[enS ti, i64 vo, i64 ie, i64 da, .slice A its.length c] 24 (0, 0)) ∧ chkL [] (its.take 0) = 0) := Lib.hid ⟨B1.out, BD.out, rfl⟩
 go_wp2_with fail
 clear BD B1 c0 c1 c2 c3 c4 H1 H2 H3 H4
 generalize w.alloc (.cells #[enS ti, i64 vo, i64 ie, i64 da, .slice A its.length c] 24) = w1 at *
 have hz0 : ((its.length : Int) == 0) = false := by simp; exact fun e => hn0 (by rw [e]; rfl)
 rw [hz0]
 clear hz0
 go_loopg [3] its.length (fun gg kv wr => ∃ k : Nat, k ≤ its.length ∧ its.length - k ≤ gg ∧ kv = i64 k ∧ Hid (Below w.heap.size w wr ∧ wr.heap[w.heap.size]? = some (.cells #[enS ti, i64 vo, i64 ie, i64 da, .slice A its.length c] 24 (0, 0)) ∧ chkL [] (its.take k) = 0))
 case atStart => exact ⟨0, Nat.zero_le _, by omega, rfl, I0⟩
 case round =>
  obtain ⟨k, hk, hgg, rfl, IW⟩ := hrel
  clear I0
  have c4 := blk_cell IW.out.2.1 4
  by_cases hlt : k < its.length
  ·obtain ⟨b, o, x, rfl, hbl, hx, hrg, h32⟩ := (HR.out.below IW.out.1).at_ hlt
   obtain ⟨x1, x2, x3⟩ := HX.out x (List.mem_of_getElem? hx)
   have HRG := Lib.hid hrg
   have HXK := Lib.hid hx
   have HSZ := Lib.hid refit_size
   have HCK := Lib.hid (fun u => item_ref x u h32 x1 x2 (by omega))
   have EA := Lib.hid (chkL_at hx IW.out.2.2)
   have EN := Lib.hid (chkL_next hx IW.out.2.2)
   have FI := Lib.hid (fun u (hu : RdI u (some ⟨b, o, none⟩) its) => find_ref (its.take k) (some ⟨b, o, none⟩) c x.ky u (hu.take k) (by rw [List.length_take]; omega) (by rw [List.length_take]; omega) h32)
   rw [List.length_take, Nat.min_eq_left (by omega : k ≤ its.length)] at FI
   clear hrg hx x1 x2 x3 h32
   go_wp2_with (first | refine wpList_load_mid rfl 53 _ rfl b (o + k * 36) rfl (itL x) _ HRG.out Tryz.underlying53 rfl (by rw [itL_length]; exact HSZ.out) ?_)
   refine (HCK.out _).mono ?_; rintro e w2 ⟨rfl, b2⟩
   have I2 := Lib.hid (And.intro (IW.out.1.tr b2) (And.intro (blk_below b2 IW.out.2.1) IW.out.2.2))
   have HRG2 : Hid (w2.rangeAt b (o + k * 36 + 3) (idL x.ky)) := Lib.hid (range_ky (range_below HRG.out b2))
   have hbl2 : b < w2.heap.size := Nat.lt_of_lt_of_le hbl b2.size
   clear b2 IW HRG HCK c4 hbl
   by_cases he : chkI x = 0
   ·rw [he]
    have HE := Lib.hid he
    clear he
    go_upto_region 17 with fail
    have bd := (Below.refl w2.heap.size w2).drew
    refine Flow.wp_region_segs Flow.Later Flow.Later.refl Flow.Later.trans [([0, 1, 2, 3, 4, 5, 6, 7, 8, 9], 10)] [11] (by kernel_rfl) (by kernel_rfl) ?_
    have I5 := Lib.hid (And.intro (I2.out.1.tr bd) (And.intro (blk_below bd I2.out.2.1) I2.out.2.2))
    have R5 := Lib.hid (range_below HRG2.out bd)
    clear bd I2 HRG2
    generalize World.drew _ = w5 at *
    have c5 := blk_cell I5.out.2.1 4
    have q4 : ∀ t : Flow.Cls (Flow.Later w5), t.val.cell? ⟨w.heap.size, 4, none⟩ = some (.slice (some ⟨b, o, none⟩) its.length c) := fun t => Flow.cls_cell c5 t
    have qK : ∀ t : Flow.Cls (Flow.Later w5), t.val.rangeAt b (o + k * 36 + 3) (idL x.ky) := fun t => range_below R5.out t.ok
    haveI nonE := Flow.cls_nonempty w5
    rw [Flow.wpSegs_cons]
    simp only [Flow.pick, List.getElem?_toArray, List.getElem?_cons_succ, List.getElem?_cons_zero]
    iterate 9 go_big_quiet_step (fail)
    refine BigFrame.wpQuiet_want rfl (fun K hK => quiet_load_mid 51 _ rfl b (o + k * 36 + 3) rfl (idL x.ky) _ (fun _ he => by obtain ⟨t, rfl⟩ := he; exact qK t) Tryz.underlying51 rfl (by rw [idL_length]; exact id_size5) (hK _ ?_))
    clear hK K
    simp only [Act.put, List.setIfInBounds_toArray, List.set_cons_succ, List.set_cons_zero]
    refine wpQuiet_nil ?_
    clear nonE q4 c5 qK R5
    rw [Flow.callAt_eq]
    simp only [List.getElem?_toArray, List.getElem?_cons_succ, List.getElem?_cons_zero]
    rw [if_pos (by rfl)]
    refine Flow.wp_behind (fun K0 hK => ?_)
    go_wp2_with fail
    refine (FI.out _ (HR.out.below I5.out.1)).mono ?_; rintro e w6 ⟨⟨r, rfl, hr⟩, b6⟩
    refine hK.out _ _ ⟨b6, ?_⟩
    clear hK K0
    have I6 := Lib.hid (And.intro (I5.out.1.tr b6) (And.intro (blk_below b6 I5.out.2.1) I5.out.2.2))
    clear b6 I5
    haveI nonE := Flow.cls_nonempty w6
    rw [Flow.wpSegs_nil]
    simp only [Flow.pick, List.getElem?_toArray, List.getElem?_cons_succ, List.getElem?_cons_zero]
    by_cases hin : x.ky ∈ (its.take k).map (·.ky)
    ·have hr0 : decide (0 ≤ r) = true := by rw [hr, decide_eq_true hin]
     have hr1 : decide (r ≥ 0) = true := hr0
     have e1 : chkL [] its = 7 := by rw [EA.out, if_neg (by rw [HE.out]; decide), if_pos hin]
     have VB : Hid (chkD ⟨ti, vo, ie, da, its⟩ = 7) := Lib.hid (by (show _ = _); rw [V.out, e1]; rfl)
     clear e1 hin V EA EN hr
     repeat go_big_quiet_step (fail)
     refine wpQuiet_nil ?_
     clear nonE
     go_wp2_with fail
     go_ret
     rw [VB.out]
     exact ⟨rfl, I6.out.1⟩
    ·have hr0 : decide (0 ≤ r) = false := by rw [hr, decide_eq_false hin]
     have hr1 : decide (r ≥ 0) = false := hr0
     have IN : Hid (Below w.heap.size w w6 ∧ w6.heap[w.heap.size]? = some (.cells #[enS ti, i64 vo, i64 ie, i64 da, .slice (some ⟨b, o, none⟩) its.length c] 24 (0, 0)) ∧ chkL [] (its.take (k + 1)) = 0) := Lib.hid ⟨I6.out.1, I6.out.2.1, EN.out HE.out hin⟩
     clear hin EA EN hr I6
     repeat go_big_quiet_step (fail)
     refine wpQuiet_nil ?_
     clear nonE
     go_wp2_with fail
     go_roundg (its.length - (k + 1))
     case measure => omega
     case rel => exact ⟨k + 1, by omega, by omega, by simp, IN⟩
   ·have e1 : chkL [] its = chkI x := by rw [EA.out, if_pos he]
    have VB : Hid (chkD ⟨ti, vo, ie, da, its⟩ = chkI x) := Lib.hid (by (show _ = _); rw [V.out, e1, if_pos he])
    have hq : (chkI x != 0) = true := by simpa using he
    have hq2 : (chkI x == 0) = false := by simpa using he
    clear e1 V EA EN he
    generalize chkI x = ec at *
    go_wp2_with fail
    go_ret
    rw [VB.out]
    exact ⟨rfl, I2.out.1⟩
  ·obtain rfl : k = its.length := by omega
   have hz : chkL [] its = 0 := by have := IW.out.2.2; rwa [List.take_length] at this
   rw [hz, if_neg (by decide)] at V
   have HZ := Lib.hid hz
   have RD := Lib.hid (range_blk (cs := [enS ti, i64 vo, i64 ie, i64 da, .slice A its.length c]) IW.out.2.1)
   have IX := Lib.hid IW.out.1
   clear IW hz
   have TK : Hid (TxOk ⟨ti, vo, ie, da, its⟩) := Lib.hid (by
    have hq1 := Q1.out
    have hq2 := Q2.out
    have hq3 := Q3.out
    unfold titleB at hq1
    unfold ordB at hq2 hq3
    simp only [Bool.and_eq_true, decide_eq_true_eq] at hq1 hq2 hq3
    refine ⟨by (show its.length ≤ _); omega, by (show ti.length ≤ _); omega, by (show 0 ≤ vo ∧ vo ≤ _); omega, by (show 0 ≤ ie ∧ ie ≤ _); omega, Q4.out, fun x hx => ?_⟩
    obtain ⟨a, a2, b, _⟩ := chkI_zero.1 (chkL_each its [] HZ.out x hx)
    unfold fromB at a
    unfold subjB at b
    simp only [Bool.and_eq_true, decide_eq_true_eq] at a b
    exact ⟨a2, by omega, by omega, HR.out.ky x hx, (HX.out x hx).2.2⟩)
   go_wp2_with (refine wpList_load_mid rfl 24 _ rfl w.heap.size 0 rfl [enS ti, i64 vo, i64 ie, i64 da, .slice A its.length c] _ RD.out Tryz.underlying24 rfl (by kernel_rfl) ?_)
   refine (text_ref ⟨ti, vo, ie, da, its⟩ A c wr (HR.out.below IX.out) hc TK.out).mono ?_
   rintro e w2 ⟨rfl, b2⟩
   have B2 := Lib.hid (IX.out.tr b2)
   clear b2 RD IX TK
   have hsz := sz_eq (textD ⟨ti, vo, ie, da, its⟩)
   obtain ⟨T, hT⟩ : ∃ T, textD ⟨ti, vo, ie, da, its⟩ = T := ⟨_, rfl⟩
   rw [hT] at hsz V ⊢
   clear hT
   by_cases hL : 1048576 < T.length
   ·have VB : Hid (chkD ⟨ti, vo, ie, da, its⟩ = 5) := Lib.hid (by (show _ = _); rw [V.out, if_pos hL])
    clear V
    go_wp2_with fail
    go_ret
    rw [VB.out]
    exact ⟨rfl, B2.out⟩
   ·have VB : Hid (chkD ⟨ti, vo, ie, da, its⟩ = 0) := Lib.hid (by (show _ = _); rw [V.out, if_neg hL])
    clear V
    go_wp2_with fail
    go_ret
    rw [VB.out]
    exact ⟨rfl, B2.out⟩
/-- What is asked of a digest that the reference is handed. -/
structure RfIn (w : World) (d : Dg) (A : Option Addr) (c : Nat) : Prop where
 rd : RdI w A d.its
 cap : d.its.length ≤ c
 n : d.its.length ≤ 1000000
 ti : d.ti.length ≤ 1000000000
 it : ∀ x ∈ d.its, x.fr.length ≤ 1000000000 ∧ x.su.length ≤ 1000000000 ∧ x.bo.length ≤ 100000000
theorem RfIn.below {w w' : World} {d : Dg} {A : Option Addr} {c : Nat} (h : RfIn w d A c) (hb : Below w.heap.size w w') : RfIn w' d A c := ⟨h.rd.below hb, h.cap, h.n, h.ti, h.it⟩
theorem RfIn.check {w : World} {d : Dg} {A : Option Addr} {c : Nat} (h : RfIn w d A c) : Calls Tryz.prog 53 #[dgA d A c] w fun e w' => e = .returned (i64 (chkD d)) ∧ Below w.heap.size w w' :=
 check_ref d A c w h.rd h.cap (Nat.le_trans h.n (by omega)) h.ti h.it
theorem RfIn.ok {w : World} {d : Dg} {A : Option Addr} {c : Nat} (h : RfIn w d A c) (h0 : chkD d = 0) : TxOk d := by
 obtain ⟨q1, q2, q3, q4, -, q6, q7, q8⟩ := chkD_zero h0
 unfold titleB at q1
 unfold ordB at q2 q3
 simp only [Bool.and_eq_true, decide_eq_true_eq] at q1 q2 q3
 refine ⟨by omega, by omega, by omega, by omega, q4, fun x hx => ?_⟩
 obtain ⟨a, a2, b, _⟩ := chkI_zero.1 (chkL_each d.its [] q7 x hx)
 unfold fromB at a
 unfold subjB at b
 simp only [Bool.and_eq_true, decide_eq_true_eq] at a b
 exact ⟨a2, by omega, by omega, h.rd.ky x hx, (h.it x hx).2.2⟩
end Go.Proofs.YtlchcjnbbhpiaaaGreatDoor
