/- The walk of the statement DigestBuilder. -/
import Derived.Test.YtlchcjnbbhpiaaaGreatDoorYaf
import Derived.Test.YtlchcjnbbhpiaaaGreatDoorYad
namespace Go.Proofs.YtlchcjnbbhpiaaaGreatDoor
open Go.RowKit Go.Shelf Go.Dg Go.Maps
theorem keep_butL {w u v : World} {base bb mb : Nat} {va : Value} {B : Bs} {K : List Nat} (h : BlM u base bb mb va B) (hw : w.heap.size ≤ u.heap.size) (hb : w.heap.size ≤ base) (k : ButL (blR bb mb va) u v) (hK : ∀ i ∈ K, i < u.heap.size ∧ i ∉ blR bb mb va) : KeepT w.heap.size K u v :=
 ⟨k.toBelow hw fun r hr => Nat.le_trans hb (h.low r hr), fun i hi => k.block i (hK i hi).1 (hK i hi).2⟩
set_option maxRecDepth 100000 in
set_option maxHeartbeats 32000000 in
theorem digestBuilder_walk (ti : List UInt8) (vo it mi : Int) (A0 : Option Addr) (c0 : Nat) (os : List OpR) (w : World) (hr : RdO w A0 os) (hc : os.length ≤ c0) (hcm : c0 ≤ maxLen) (ht : ti.length ≤ maxLen) (hg : GlD w) :
  Calls Tryz.prog 8 #[.agg #[enS ti, i64 vo, i64 it, i64 mi], .slice A0 os.length c0] w fun e w' => e = .returned (.bool true) ∧ Below w.heap.size w w' := by
 have HK := Lib.hid (fun W (hb : Below w.heap.size w W) => known_any W (hg.below hb))
 have HG := Lib.hid hg
 have HR := Lib.hid hr
 have hn : os.length ≤ 9223372036854775807 := by have h : os.length ≤ maxLen := Nat.le_trans hc hcm; unfold maxLen at h; omega
 have ht2 : ti.length ≤ 9223372036854775807 := by unfold maxLen at ht; omega
 have htz : (⟨ti.toArray⟩ : ByteArray).size = ti.length := by show ti.toArray.size = _; simp
 have HSZ := Lib.hid refit_size
 clear hg hr hcm ht
 go_enter Tryz.func8, Tryz.ntmps8
 go_upto_region 1 with fail
 have B1 := Lib.hid (below_new w (.cells #[enS ti, i64 vo, i64 it, i64 mi] 70))
 have P1 := Lib.hid (blk_new w (.cells #[enS ti, i64 vo, i64 it, i64 mi] 70))
 generalize w.alloc (.cells #[enS ti, i64 vo, i64 it, i64 mi] 70) = w1 at *
 go_wp2_with fail
 refine (HK.out _ B1.out).mono ?_; rintro e w2 ⟨rfl, b2⟩
 have B2 := Lib.hid (B1.out.tr b2)
 have P2 := Lib.hid (blk_below b2 P1.out)
 clear b2 B1 P1
 have p0 : w2.cell? ⟨w.heap.size, 0, none⟩ = some (enS ti) := blk_cell P2.out 0
 by_cases g1 : 40 < os.length
 ·go_wp2_with fail
  refine (HK.out _ B2.out).mono ?_; rintro e w3 ⟨rfl, b3⟩
  have B3 := Lib.hid (B2.out.tr b3)
  go_wp2_with fail
  go_ret
  exact ⟨rfl, B3.out⟩
 by_cases g2 : 200 < ti.length
 ·go_wp2_with fail
  refine (HK.out _ B2.out).mono ?_; rintro e w3 ⟨rfl, b3⟩
  have B3 := Lib.hid (B2.out.tr b3)
  go_wp2_with fail
  go_ret
  exact ⟨rfl, B3.out⟩
 have p1 : w2.cell? ⟨w.heap.size, 1, none⟩ = some (i64 vo) := blk_cell P2.out 1
 have p2 : w2.cell? ⟨w.heap.size, 2, none⟩ = some (i64 it) := blk_cell P2.out 2
 have p3 : w2.cell? ⟨w.heap.size, 3, none⟩ = some (i64 mi) := blk_cell P2.out 3
 have HNB := Lib.hid (fun u => newB_any ti vo it mi u (by omega))
 have HNR := Lib.hid (fun u => newR_ref ti vo it mi u (by omega))
 go_wp2_with fail
 refine (HNB.out w2).mono ?_; rintro e w3 ⟨hres, b3⟩
 have B3 := Lib.hid (B2.out.tr b3)
 have P3 := Lib.hid (blk_below b3 P2.out)
 have HB2 := Lib.hid B2.out.size
 clear b3 B2 P2 p0 p1 p2 p3 HK HNB
 have p0 : w3.cell? ⟨w.heap.size, 0, none⟩ = some (enS ti) := blk_cell P3.out 0
 have p1 : w3.cell? ⟨w.heap.size, 1, none⟩ = some (i64 vo) := blk_cell P3.out 1
 have p2 : w3.cell? ⟨w.heap.size, 2, none⟩ = some (i64 it) := blk_cell P3.out 2
 have p3 : w3.cell? ⟨w.heap.size, 3, none⟩ = some (i64 mi) := blk_cell P3.out 3
 rcases hres with ⟨h0, bb, mb, rfl, hB⟩ | ⟨hne, rfl⟩
 case inr =>
  have hq : (newE ti vo it mi != 0) = true := by simpa using hne
  have HNE := Lib.hid hne
  obtain ⟨ec, hec⟩ : ∃ q, newE ti vo it mi = q := ⟨_, rfl⟩
  rw [hec] at HNR hq HNE ⊢
  clear hec hne
  have hq1 : (ec != ec) = false := by simp
  go_wp2_with fail
  refine (HNR.out w3).mono ?_; rintro e w4 ⟨hres, b4⟩
  have B4 := Lib.hid (B3.out.tr b4)
  clear b4 B3 P3 p0 p1 p2 p3 HNR
  rcases hres with ⟨h0, -⟩ | ⟨-, rfl⟩
  ·exact absurd h0 HNE.out
  go_upto_region 5 with fail
  have B5 : Hid (Below w.heap.size w (w4.alloc (.cells #[enS [], i64 0, i64 0, i64 0, i64 0, .slice none 0 0, i64 0, .slice none 0 0] 73))) := Lib.hid (B4.out.tr (below_new _ _))
  obtain ⟨rb, hrb⟩ : ∃ q, w4.heap.size = q := ⟨_, rfl⟩
  rw [hrb]
  generalize World.alloc w4 _ = w5 at *
  clear hrb HNE
  go_upto_region 7 with fail
  go_wp2_with fail
  go_loopg [9] 0 (fun gg kv wr => kv = i64 0 ∧ Hid (Below w.heap.size w wr))
  case atStart => exact ⟨rfl, B5⟩
  case round =>
   obtain ⟨rfl, IW⟩ := hrel
   by_cases hl : 0 < os.length
   ·go_wp2_with fail
    go_ret
    exact ⟨rfl, IW.out⟩
   ·go_wp2_with fail
    go_ret
    exact ⟨rfl, IW.out⟩
 have BD0 := Lib.hid (BdB.new h0 (by omega : ti.length ≤ 1000))
 have HB := Lib.hid hB
 have HZ := Lib.hid h0
 rw [h0] at HNR
 clear hB h0
 go_wp2_with fail
 refine (HNR.out w3).mono ?_; rintro e w4 ⟨hres, b4⟩
 have B4 := Lib.hid (B3.out.tr b4)
 have HB4 := Lib.hid (HB.out.below b4)
 clear b4 B3 P3 p0 p1 p2 p3 HNR HB
 rcases hres with ⟨-, rfl⟩ | ⟨hne, -⟩
 case inr => exact absurd rfl hne
 go_upto_region 5 with fail
 generalize hw5 : World.alloc w4 _ = w5
 have L5 : Hid (LsS w w5 w2.heap.size bb mb (.slice none 0 0) w4.heap.size ⟨ti, vo, it, mi, 0, [], 0, []⟩ ⟨ti, vo, it, mi, 0, [], 0, []⟩ none 0 none 0) := Lib.hid (by
  (show LsS _ _ _ _ _ _ _ _ _ _ _ _ _)
  rw [← hw5]
  exact ⟨B4.out.tr (below_new _ _), HB4.out.below (below_new _ _), blk_new _ _, ⟨RdI.nil, Nat.le_refl _, RdK.nil, Nat.le_refl _, TyR.none, TyR.none⟩, HB2.out, B4.out.size⟩)
 obtain ⟨rb, hrb⟩ : ∃ q, w4.heap.size = q := ⟨_, rfl⟩
 obtain ⟨base, hba⟩ : ∃ q, w2.heap.size = q := ⟨_, rfl⟩
 obtain ⟨B00, hB00⟩ : ∃ q : Bs, (⟨ti, vo, it, mi, 0, [], 0, []⟩ : Bs) = q := ⟨_, rfl⟩
 rw [hrb, hba, hB00] at L5
 rw [hB00] at BD0
 rw [hrb]
 clear hw5 hrb hba hB00 HB4 HB2 B4 HZ
 go_wp2_with fail
 go_loopg [9] os.length (fun gg kv wr => ∃ (k : Nat) (v : Value) (B : Bs) (A : Option Addr) (c : Nat) (A2 : Option Addr) (c2 : Nat), k ≤ os.length ∧ os.length - k ≤ gg ∧ kv = i64 k ∧ Hid (LsS w wr base bb mb v rb B B A c A2 c2) ∧ Hid (BdB B k))
 case atStart => exact ⟨0, _, B00, none, 0, none, 0, Nat.zero_le _, by omega, rfl, L5, BD0⟩
 case round =>
  obtain ⟨k, v, B, A, c, A2, c2, hk, hgg, rfl, LW, BD⟩ := hrel
  clear L5 BD0
  by_cases hlt : k < os.length
  case neg =>
   obtain rfl : k = os.length := by omega
   have B9 := Lib.hid LW.out.bel
   go_wp2_with fail
   go_ret
   exact ⟨rfl, B9.out⟩
  obtain ⟨b, o, q, hA, hbl, hq, hrg, h32⟩ := HR.out.at_ hlt
  subst hA
  have HRG := Lib.hid hrg
  have H32 := Lib.hid h32
  have HRW : ∀ W, Below w.heap.size w W → W.rangeAt b (o + k * 38) (opC q) := fun W hb j u hj => by
   rw [World.cell?_of_block (hb.block b hbl)]
   exact HRG.out j u hj
  have HRW := Lib.hid HRW
  have HIT := Lib.hid (op_it (HRW.out wr LW.out.bel))
  have bi := below_new wr (.cells (itL q.x).toArray 53)
  have L5 := Lib.hid (LW.out.below bi)
  have BI := Lib.hid (blk_new wr (.cells (itL q.x).toArray 53))
  obtain ⟨f0, f1, f2, f3⟩ := it_cells BI.out
  clear hrg h32 HRG bi LW
  go_upto_region 11 with (first | refine wpList_load_mid rfl 53 _ rfl b (o + k * 38 + 1) rfl (itL q.x) _ HIT.out Tryz.underlying53 rfl (by rw [itL_length]; exact HSZ.out) ?_ | refine wpList_store_new (w := wr) rfl 53 _ _ rfl _ (itL q.x).toArray rfl rfl (by simp [itL_length, HSZ.out]) (by simp [itL_length]) (all_oneCell_toArray (one_itL q.x)) ?_)
  obtain ⟨xb, hxb⟩ : ∃ q, wr.heap.size = q := ⟨_, rfl⟩
  rw [hxb] at BI f0 f1 f2 f3 ⊢
  clear hxb HIT
  generalize wr.alloc (.cells (itL q.x).toArray 53) = w5 at *
  have z0 : (⟨q.x.fr.toArray⟩ : ByteArray).size = q.x.fr.length := by show q.x.fr.toArray.size = _; simp
  have z2 : (⟨q.x.su.toArray⟩ : ByteArray).size = q.x.su.length := by show q.x.su.toArray.size = _; simp
  have z4 : (⟨q.x.bo.toArray⟩ : ByteArray).size = q.x.bo.length := by show q.x.bo.toArray.size = _; simp
  by_cases g1 : 300 < q.x.fr.length
  ·go_wp2_with fail
   go_ret
   exact ⟨rfl, L5.out.bel⟩
  by_cases g2 : 300 < q.x.su.length
  ·go_wp2_with fail
   go_ret
   exact ⟨rfl, L5.out.bel⟩
  by_cases g3 : 200 < q.x.bo.length
  ·go_wp2_with fail
   go_ret
   exact ⟨rfl, L5.out.bel⟩
  go_upto_region 13 with fail
  have HS : Hid (q.x.fr.length ≤ 1000 ∧ q.x.su.length ≤ 1000 ∧ q.x.bo.length ≤ 1000) := Lib.hid ⟨by omega, by omega, by omega⟩
  have hk40 : k ≤ 1000 := by omega
  clear f0 f1 f2 f3 z0 z2 z4 g1 g2 g3
  have kd := op_kd (HRW.out w5 L5.out.bel)
  go_upto_if 103 with fail
  clear kd
  go_cut [] (fun wx => ∃ (v' : Value) (B1 : Bs) (A3 : Option Addr) (c3 : Nat) (A4 : Option Addr) (c4 : Nat), Hid (LsS w wx base bb mb v' rb B1 B1 A3 c3 A4 c4) ∧ Hid (BdB B1 (k + 1)))
  case first =>
   by_cases hkd : q.kd = 1
   ·have hb1 : (q.kd == 1) = true := by simpa using hkd
    rw [hb1]
    clear hkd hb1
    have nwc := op_nw (HRW.out w5 L5.out.bel)
    have HT := Lib.hid (HG.out.below L5.out.bel).tab
    have HTK := Lib.hid (take_u base bb mb v B k q.nw w5 L5.out.bl HT.out BD.out hk40)
    have BD1 := Lib.hid (BD.out.take q.nw)
    have HDL : Hid ((tkD B q.nw).its.length ≤ 1000000) := Lib.hid (by have h1 := tkD_len B q.nw; have h2 := BD.out.wt; (show (tkD B q.nw).its.length ≤ 1000000); omega)
    clear HT
    go_wp2_with fail
    refine HTK.out.mono ?_; rintro e w6 ⟨⟨P6, p6, v', rfl, rd6, lc6, bl6, hob⟩, but6⟩
    have L6 := Lib.hid (L5.out.butL but6 bl6)
    have R6 := Lib.hid rd6
    have HOB := Lib.hid hob
    have NRB := Lib.hid (L5.out.bl.away L5.out.rf (by decide) (by decide))
    have LC := Lib.hid lc6
    have HRR := Lib.hid (fun u (hb : Below w6.heap.size w6 u) => takeR_rows B A c A2 c2 k q.nw u (L6.out.md.below hb) BD.out hk40)
    clear rd6 lc6 bl6 but6 hob HTK L5 BI nwc
    obtain ⟨dd, hdd⟩ : ∃ z, tkD B q.nw = z := ⟨_, rfl⟩
    obtain ⟨B1, hB1⟩ : ∃ z, takeB B q.nw = z := ⟨_, rfl⟩
    obtain ⟨ec, hec⟩ : ∃ z, takeE B q.nw = z := ⟨_, rfl⟩
    simp only [hdd, hB1, hec] at HRR L6 R6 LC BD1 HDL ⊢
    clear hdd hB1 hec BD
    go_upto_region 15 with fail
    have bn := below_new w6 (.cells #[enS dd.ti, i64 dd.vo, i64 dd.ie, i64 dd.da, .slice P6 dd.its.length p6] 32)
    have L7 := Lib.hid (L6.out.below bn)
    have R7 := Lib.hid (R6.out.below bn)
    have D7 := Lib.hid (blk_new w6 (.cells #[enS dd.ti, i64 dd.vo, i64 dd.ie, i64 dd.da, .slice P6 dd.its.length p6] 32))
    have HR7 := Lib.hid (HRR.out _ bn)
    clear bn L6 R6 HRR
    obtain ⟨db, hdb⟩ : ∃ q, w6.heap.size = q := ⟨_, rfl⟩
    rw [hdb] at D7 ⊢
    clear hdb
    generalize w6.alloc (.cells #[enS dd.ti, i64 dd.vo, i64 dd.ie, i64 dd.da, .slice P6 dd.its.length p6] 32) = w7 at *
    obtain ⟨A3, c3, AA, cc, M7, S7, lcc, ty7, HTR⟩ := HR7.out
    have M7 := Lib.hid M7
    have S7 := Lib.hid S7
    have LCC := Lib.hid lcc
    have HTR := Lib.hid HTR
    have TY7 := Lib.hid ty7
    clear ty7
    clear HR7 lcc
    go_cut [13, 14, 15] (fun p13 p14 e15 wx => ∃ b13 b14, p13 = .pointer (some ⟨b13, 0, none⟩) ∧ p14 = .pointer (some ⟨b14, 0, none⟩) ∧ e15 = i64 ec ∧ Hid (wx.heap[b13]? = some (.cells (bfL B1 A3 c3 A2 c2).toArray 73 (0, 0))) ∧ Hid (wx.heap[b14]? = some (.cells #[enS dd.ti, i64 dd.vo, i64 dd.ie, i64 dd.da, .slice AA dd.its.length cc] 24 (0, 0))) ∧ Hid (Below w7.heap.size w7 wx))
    case first =>
     refine Flow.wp_region_fork3 (fun u v => Below w7.heap.size u v) (fun _ => Below.refl _ _) (fun _ _ _ h k => h.trans k) [0, 1, 2, 3, 4, 5] 6 11 12 (.fork [7, 8, 9, 10] 11 12 (.step [] 12 (.step [] 13 (.step [] 14 (.done [15])))) (.step [] 11 (.step [] 13 (.step [] 14 (.done [15]))))) (.fork [] 6 12 (.step [7, 8, 9, 10] 12 (.step [] 13 (.step [] 14 (.done [15])))) (.step [] 6 (.step [7, 8, 9, 10] 13 (.step [] 14 (.done [15]))))) (.fork [] 6 11 (.step [7, 8, 9, 10] 11 (.step [] 13 (.step [] 14 (.done [15])))) (.step [] 6 (.step [7, 8, 9, 10] 13 (.step [] 14 (.done [15]))))) (by kernel_rfl) (by kernel_rfl) ?_
     have x8 : Below w7.heap.size w7 w7.drew := (Below.refl _ _).drew
     have X8 := Lib.hid x8
     clear x8
     generalize World.drew _ = wd at *
     have nwc := op_nw (HRW.out wd (L7.out.bel.tr X8.out))
     have qB : ∀ t : Flow.Cls (Below w7.heap.size wd), t.val.rangeAt rb 0 (bfL B A c A2 c2) := fun t => range_blk (blk_below (X8.out.trans t.ok) L7.out.rf)
     have qN : ∀ t : Flow.Cls (Below w7.heap.size wd), t.val.cell? ⟨b, o + k * 38 + 37, none⟩ = some (i64 q.nw) := fun t => op_nw (HRW.out t.val (L7.out.bel.tr (X8.out.trans t.ok)))
     haveI nonE : Nonempty (Flow.Cls (Below w7.heap.size wd)) := ⟨⟨wd, Below.refl _ _⟩⟩
     rw [Flow.wpFork3_eq]
     simp only [Flow.pick, List.getElem?_toArray, List.getElem?_cons_succ, List.getElem?_cons_zero]
     refine BigFrame.wpQuiet_want rfl (fun K hK => quiet_load_mid 73 _ rfl rb 0 rfl (bfL B A c A2 c2) _ (fun _ he => by obtain ⟨t, rfl⟩ := he; exact qB t) Tryz.underlying73 rfl (by kernel_rfl) (hK _ ?_))
     clear hK K
     simp only [Act.put, List.setIfInBounds_toArray, List.set_cons_succ, List.set_cons_zero]
     iterate 5 go_big_quiet_step (fail)
     refine wpQuiet_nil ?_
     clear nonE qB qN nwc
     refine ⟨?_, ?_, ?_⟩
     ·rw [Flow.callAt_eq]
      simp only [List.getElem?_toArray, List.getElem?_cons_succ, List.getElem?_cons_zero, Act.put, List.setIfInBounds_toArray, List.set_cons_succ, List.set_cons_zero]
      rw [if_pos (by rfl)]
      refine Flow.wp_behind (fun K hK => ?_)
      go_wp2_with fail
      refine (HTR.out wd X8.out).mono ?_; rintro e u1 ⟨rfl, bn⟩
      refine hK.out _ _ ⟨bn.mono X8.out.size, ?_⟩
      clear hK K
      have X11 := Lib.hid (X8.out.trans (bn.mono X8.out.size))
      clear bn
      haveI nonE : Nonempty (Flow.Cls (Below w7.heap.size u1)) := ⟨⟨u1, Below.refl _ _⟩⟩
      rw [Flow.wpSched_fork]
      simp only [Flow.pick, List.getElem?_toArray, List.getElem?_cons_succ, List.getElem?_cons_zero]
      repeat go_big_quiet_step (fail)
      refine wpQuiet_nil ?_
      clear nonE
      refine ⟨?_, ?_⟩
      ·rw [Flow.callAt_eq]
       simp only [List.getElem?_toArray, List.getElem?_cons_succ, List.getElem?_cons_zero, Act.put, List.setIfInBounds_toArray, List.set_cons_succ, List.set_cons_zero]
       rw [if_pos (by rfl)]
       refine Flow.wp_behind (fun K hK => ?_)
       go_wp2_with fail
       have bn := below_new u1 (.cells #[enS [], i64 0, i64 0, i64 0, i64 0, .slice none 0 0, i64 0, .slice none 0 0] 73)
       refine hK.out _ _ ⟨bn.mono X11.out.size, ?_⟩
       clear hK K
       have Z13 := Lib.hid (blk_new u1 (.cells #[enS [], i64 0, i64 0, i64 0, i64 0, .slice none 0 0, i64 0, .slice none 0 0] 73))
       have P13 : w7.heap.size ≤ u1.heap.size := X11.out.size
       have X12 := Lib.hid (X11.out.trans (bn.mono X11.out.size))
       clear bn X11
       have HL13 : u1.heap.size < (u1.alloc (.cells #[enS [], i64 0, i64 0, i64 0, i64 0, .slice none 0 0, i64 0, .slice none 0 0] 73)).heap.size := by rw [World.size_alloc]; omega
       obtain ⟨b13, hb13⟩ : ∃ q, u1.heap.size = q := ⟨_, rfl⟩
       rw [hb13] at Z13 P13 HL13 ⊢
       clear hb13
       generalize u1.alloc (.cells #[enS [], i64 0, i64 0, i64 0, i64 0, .slice none 0 0, i64 0, .slice none 0 0] 73) = u2 at *
       rw [Flow.wpSched_step]
       simp only [Flow.pick]
       refine wpQuiet_nil ?_
       rw [Flow.callAt_eq]
       simp only [List.getElem?_toArray, List.getElem?_cons_succ, List.getElem?_cons_zero, Act.put, List.setIfInBounds_toArray, List.set_cons_succ, List.set_cons_zero]
       rw [if_pos (by rfl)]
       refine Flow.wp_behind (fun K hK => ?_)
       go_wp2_with fail
       have bn := below_new u2 (.cells #[enS [], i64 0, i64 0, i64 0, .slice none 0 0] 24)
       refine hK.out _ _ ⟨bn.mono X12.out.size, ?_⟩
       clear hK K
       have Z14 := Lib.hid (blk_new u2 (.cells #[enS [], i64 0, i64 0, i64 0, .slice none 0 0] 24))
       have P14 : w7.heap.size ≤ u2.heap.size := X12.out.size
       have X13 := Lib.hid (X12.out.trans (bn.mono X12.out.size))
       have Z13 := Lib.hid (blk_below bn Z13.out)
       have hne : b13 ≠ u2.heap.size := Nat.ne_of_lt HL13
       clear bn X12
       obtain ⟨b14, hb14⟩ : ∃ q, u2.heap.size = q := ⟨_, rfl⟩
       rw [hb14] at Z14 P14 hne ⊢
       clear hb14
       generalize u2.alloc (.cells #[enS [], i64 0, i64 0, i64 0, .slice none 0 0] 24) = u3 at *
       rw [Flow.wpSched_step]
       simp only [Flow.pick]
       refine wpQuiet_nil ?_
       have HNE : b14 ≠ b13 := hne.symm
       rw [Flow.callAt_eq]
       simp only [List.getElem?_toArray, List.getElem?_cons_succ, List.getElem?_cons_zero, Act.put]
       rw [if_pos (by rfl)]
       refine Flow.wp_behind (fun K hK => ?_)
       refine wp_store_mid0 73 _ _ rfl rfl b13 0 (bfL B1 A3 c3 A2 c2).toArray rfl rfl (there_at Z13.out (Nat.le_refl 8)) (by kernel_rfl) (one_bfL _ _ _ _ _) ?_
       have bt1 := but_setCells (b := b13) (bfL B1 A3 c3 A2 c2) 0 u3
       have hkb := but_low bt1 P13 X13.out.size
       have S13 := Lib.hid (bf_storeL Z13.out B1 A3 c3 A2 c2)
       have S14 := Lib.hid ((bt1.block b14 (blk_lt Z14.out) HNE).trans Z14.out)
       have XA := Lib.hid (X13.out.trans hkb)
       clear bt1 Z13 Z14
       have e1 : u3.setCells b13 0 (bfL B1 A3 c3 A2 c2).toArray.toList = u3.setCells b13 0 (bfL B1 A3 c3 A2 c2) := rfl
       rw [e1]
       clear e1
       generalize u3.setCells b13 0 (bfL B1 A3 c3 A2 c2) = y1 at *
       refine hK.out _ _ ⟨hkb, ?_⟩
       clear hK K hkb X13
       rw [Flow.wpSched_step]
       simp only [Flow.pick]
       refine wpQuiet_nil ?_
       rw [Flow.callAt_eq]
       simp only [List.getElem?_toArray, List.getElem?_cons_succ, List.getElem?_cons_zero, Act.put]
       rw [if_pos (by rfl)]
       refine Flow.wp_behind (fun K hK => ?_)
       refine wp_store_mid0 24 _ _ rfl rfl b14 0 #[enS dd.ti, i64 dd.vo, i64 dd.ie, i64 dd.da, .slice AA dd.its.length cc] rfl rfl (there_at S14.out (Nat.le_refl 5)) (by kernel_rfl) (one_dg _ _ _ _ _ _ _) ?_
       have bt2 := but_setCells (b := b14) [enS dd.ti, i64 dd.vo, i64 dd.ie, i64 dd.da, .slice AA dd.its.length cc] 0 y1
       have hkb := but_low bt2 P14 XA.out.size
       have T14 := Lib.hid (dg_storeT S14.out (enS dd.ti) (i64 dd.vo) (i64 dd.ie) (i64 dd.da) (.slice AA dd.its.length cc))
       have T13 := Lib.hid ((bt2.block b13 (blk_lt S13.out) (Ne.symm HNE)).trans S13.out)
       have XB := Lib.hid (XA.out.trans hkb)
       clear bt2 S13 S14
       have e1 : y1.setCells b14 0 (#[enS dd.ti, i64 dd.vo, i64 dd.ie, i64 dd.da, .slice AA dd.its.length cc] : Array Value).toList = y1.setCells b14 0 [enS dd.ti, i64 dd.vo, i64 dd.ie, i64 dd.da, .slice AA dd.its.length cc] := rfl
       rw [e1]
       clear e1
       generalize y1.setCells b14 0 [enS dd.ti, i64 dd.vo, i64 dd.ie, i64 dd.da, .slice AA dd.its.length cc] = y2 at *
       refine hK.out _ _ ⟨hkb, ?_⟩
       clear hK K hkb XA
       haveI nonE : Nonempty (Flow.Cls (Below w7.heap.size y2)) := ⟨⟨y2, Below.refl _ _⟩⟩
       rw [Flow.wpSched_done]
       simp only [Flow.pick, List.getElem?_toArray, List.getElem?_cons_succ, List.getElem?_cons_zero]
       repeat go_big_quiet_step (fail)
       refine wpQuiet_nil ?_
       clear nonE
       go_wp2_with fail
       go_meet
       exact ⟨b13, b14, rfl, rfl, rfl, T13, T14, XB⟩
      ·rw [Flow.callAt_eq]
       simp only [List.getElem?_toArray, List.getElem?_cons_succ, List.getElem?_cons_zero, Act.put, List.setIfInBounds_toArray, List.set_cons_succ, List.set_cons_zero]
       rw [if_pos (by rfl)]
       refine Flow.wp_behind (fun K hK => ?_)
       go_wp2_with fail
       have bn := below_new u1 (.cells #[enS [], i64 0, i64 0, i64 0, .slice none 0 0] 24)
       refine hK.out _ _ ⟨bn.mono X11.out.size, ?_⟩
       clear hK K
       have Z14 := Lib.hid (blk_new u1 (.cells #[enS [], i64 0, i64 0, i64 0, .slice none 0 0] 24))
       have P14 : w7.heap.size ≤ u1.heap.size := X11.out.size
       have X12 := Lib.hid (X11.out.trans (bn.mono X11.out.size))
       clear bn X11
       have HL14 : u1.heap.size < (u1.alloc (.cells #[enS [], i64 0, i64 0, i64 0, .slice none 0 0] 24)).heap.size := by rw [World.size_alloc]; omega
       obtain ⟨b14, hb14⟩ : ∃ q, u1.heap.size = q := ⟨_, rfl⟩
       rw [hb14] at Z14 P14 HL14 ⊢
       clear hb14
       generalize u1.alloc (.cells #[enS [], i64 0, i64 0, i64 0, .slice none 0 0] 24) = u2 at *
       rw [Flow.wpSched_step]
       simp only [Flow.pick]
       refine wpQuiet_nil ?_
       rw [Flow.callAt_eq]
       simp only [List.getElem?_toArray, List.getElem?_cons_succ, List.getElem?_cons_zero, Act.put, List.setIfInBounds_toArray, List.set_cons_succ, List.set_cons_zero]
       rw [if_pos (by rfl)]
       refine Flow.wp_behind (fun K hK => ?_)
       go_wp2_with fail
       have bn := below_new u2 (.cells #[enS [], i64 0, i64 0, i64 0, i64 0, .slice none 0 0, i64 0, .slice none 0 0] 73)
       refine hK.out _ _ ⟨bn.mono X12.out.size, ?_⟩
       clear hK K
       have Z13 := Lib.hid (blk_new u2 (.cells #[enS [], i64 0, i64 0, i64 0, i64 0, .slice none 0 0, i64 0, .slice none 0 0] 73))
       have P13 : w7.heap.size ≤ u2.heap.size := X12.out.size
       have X13 := Lib.hid (X12.out.trans (bn.mono X12.out.size))
       have Z14 := Lib.hid (blk_below bn Z14.out)
       have hne : b14 ≠ u2.heap.size := Nat.ne_of_lt HL14
       clear bn X12
       obtain ⟨b13, hb13⟩ : ∃ q, u2.heap.size = q := ⟨_, rfl⟩
       rw [hb13] at Z13 P13 hne ⊢
       clear hb13
       generalize u2.alloc (.cells #[enS [], i64 0, i64 0, i64 0, i64 0, .slice none 0 0, i64 0, .slice none 0 0] 73) = u3 at *
       rw [Flow.wpSched_step]
       simp only [Flow.pick]
       refine wpQuiet_nil ?_
       have HNE : b14 ≠ b13 := hne
       rw [Flow.callAt_eq]
       simp only [List.getElem?_toArray, List.getElem?_cons_succ, List.getElem?_cons_zero, Act.put]
       rw [if_pos (by rfl)]
       refine Flow.wp_behind (fun K hK => ?_)
       refine wp_store_mid0 73 _ _ rfl rfl b13 0 (bfL B1 A3 c3 A2 c2).toArray rfl rfl (there_at Z13.out (Nat.le_refl 8)) (by kernel_rfl) (one_bfL _ _ _ _ _) ?_
       have bt1 := but_setCells (b := b13) (bfL B1 A3 c3 A2 c2) 0 u3
       have hkb := but_low bt1 P13 X13.out.size
       have S13 := Lib.hid (bf_storeL Z13.out B1 A3 c3 A2 c2)
       have S14 := Lib.hid ((bt1.block b14 (blk_lt Z14.out) HNE).trans Z14.out)
       have XA := Lib.hid (X13.out.trans hkb)
       clear bt1 Z13 Z14
       have e1 : u3.setCells b13 0 (bfL B1 A3 c3 A2 c2).toArray.toList = u3.setCells b13 0 (bfL B1 A3 c3 A2 c2) := rfl
       rw [e1]
       clear e1
       generalize u3.setCells b13 0 (bfL B1 A3 c3 A2 c2) = y1 at *
       refine hK.out _ _ ⟨hkb, ?_⟩
       clear hK K hkb X13
       rw [Flow.wpSched_step]
       simp only [Flow.pick]
       refine wpQuiet_nil ?_
       rw [Flow.callAt_eq]
       simp only [List.getElem?_toArray, List.getElem?_cons_succ, List.getElem?_cons_zero, Act.put]
       rw [if_pos (by rfl)]
       refine Flow.wp_behind (fun K hK => ?_)
       refine wp_store_mid0 24 _ _ rfl rfl b14 0 #[enS dd.ti, i64 dd.vo, i64 dd.ie, i64 dd.da, .slice AA dd.its.length cc] rfl rfl (there_at S14.out (Nat.le_refl 5)) (by kernel_rfl) (one_dg _ _ _ _ _ _ _) ?_
       have bt2 := but_setCells (b := b14) [enS dd.ti, i64 dd.vo, i64 dd.ie, i64 dd.da, .slice AA dd.its.length cc] 0 y1
       have hkb := but_low bt2 P14 XA.out.size
       have T14 := Lib.hid (dg_storeT S14.out (enS dd.ti) (i64 dd.vo) (i64 dd.ie) (i64 dd.da) (.slice AA dd.its.length cc))
       have T13 := Lib.hid ((bt2.block b13 (blk_lt S13.out) (Ne.symm HNE)).trans S13.out)
       have XB := Lib.hid (XA.out.trans hkb)
       clear bt2 S13 S14
       have e1 : y1.setCells b14 0 (#[enS dd.ti, i64 dd.vo, i64 dd.ie, i64 dd.da, .slice AA dd.its.length cc] : Array Value).toList = y1.setCells b14 0 [enS dd.ti, i64 dd.vo, i64 dd.ie, i64 dd.da, .slice AA dd.its.length cc] := rfl
       rw [e1]
       clear e1
       generalize y1.setCells b14 0 [enS dd.ti, i64 dd.vo, i64 dd.ie, i64 dd.da, .slice AA dd.its.length cc] = y2 at *
       refine hK.out _ _ ⟨hkb, ?_⟩
       clear hK K hkb XA
       haveI nonE : Nonempty (Flow.Cls (Below w7.heap.size y2)) := ⟨⟨y2, Below.refl _ _⟩⟩
       rw [Flow.wpSched_done]
       simp only [Flow.pick, List.getElem?_toArray, List.getElem?_cons_succ, List.getElem?_cons_zero]
       repeat go_big_quiet_step (fail)
       refine wpQuiet_nil ?_
       clear nonE
       go_wp2_with fail
       go_meet
       exact ⟨b13, b14, rfl, rfl, rfl, T13, T14, XB⟩
     ·rw [Flow.callAt_eq]
      simp only [List.getElem?_toArray, List.getElem?_cons_succ, List.getElem?_cons_zero, Act.put, List.setIfInBounds_toArray, List.set_cons_succ, List.set_cons_zero]
      rw [if_pos (by rfl)]
      refine Flow.wp_behind (fun K hK => ?_)
      go_wp2_with fail
      have bn := below_new wd (.cells #[enS [], i64 0, i64 0, i64 0, i64 0, .slice none 0 0, i64 0, .slice none 0 0] 73)
      refine hK.out _ _ ⟨bn.mono X8.out.size, ?_⟩
      clear hK K
      have Z13 := Lib.hid (blk_new wd (.cells #[enS [], i64 0, i64 0, i64 0, i64 0, .slice none 0 0, i64 0, .slice none 0 0] 73))
      have P13 : w7.heap.size ≤ wd.heap.size := X8.out.size
      have X11 := Lib.hid (X8.out.trans (bn.mono X8.out.size))
      clear bn
      have HL13 : wd.heap.size < (wd.alloc (.cells #[enS [], i64 0, i64 0, i64 0, i64 0, .slice none 0 0, i64 0, .slice none 0 0] 73)).heap.size := by rw [World.size_alloc]; omega
      obtain ⟨b13, hb13⟩ : ∃ q, wd.heap.size = q := ⟨_, rfl⟩
      rw [hb13] at Z13 P13 HL13 ⊢
      clear hb13
      generalize wd.alloc (.cells #[enS [], i64 0, i64 0, i64 0, i64 0, .slice none 0 0, i64 0, .slice none 0 0] 73) = u1 at *
      rw [Flow.wpSched_fork]
      simp only [Flow.pick]
      refine wpQuiet_nil ?_
      refine ⟨?_, ?_⟩
      ·rw [Flow.callAt_eq]
       simp only [List.getElem?_toArray, List.getElem?_cons_succ, List.getElem?_cons_zero, Act.put, List.setIfInBounds_toArray, List.set_cons_succ, List.set_cons_zero]
       rw [if_pos (by rfl)]
       refine Flow.wp_behind (fun K hK => ?_)
       go_wp2_with fail
       refine (HTR.out u1 X11.out).mono ?_; rintro e u2 ⟨rfl, bn⟩
       refine hK.out _ _ ⟨bn.mono X11.out.size, ?_⟩
       clear hK K
       have X12 := Lib.hid (X11.out.trans (bn.mono X11.out.size))
       have Z13 := Lib.hid (blk_below bn Z13.out)
       have HL13 := Nat.lt_of_lt_of_le HL13 bn.size
       clear bn X11
       haveI nonE : Nonempty (Flow.Cls (Below w7.heap.size u2)) := ⟨⟨u2, Below.refl _ _⟩⟩
       rw [Flow.wpSched_step]
       simp only [Flow.pick, List.getElem?_toArray, List.getElem?_cons_succ, List.getElem?_cons_zero]
       repeat go_big_quiet_step (fail)
       refine wpQuiet_nil ?_
       clear nonE
       rw [Flow.callAt_eq]
       simp only [List.getElem?_toArray, List.getElem?_cons_succ, List.getElem?_cons_zero, Act.put, List.setIfInBounds_toArray, List.set_cons_succ, List.set_cons_zero]
       rw [if_pos (by rfl)]
       refine Flow.wp_behind (fun K hK => ?_)
       go_wp2_with fail
       have bn := below_new u2 (.cells #[enS [], i64 0, i64 0, i64 0, .slice none 0 0] 24)
       refine hK.out _ _ ⟨bn.mono X12.out.size, ?_⟩
       clear hK K
       have Z14 := Lib.hid (blk_new u2 (.cells #[enS [], i64 0, i64 0, i64 0, .slice none 0 0] 24))
       have P14 : w7.heap.size ≤ u2.heap.size := X12.out.size
       have X13 := Lib.hid (X12.out.trans (bn.mono X12.out.size))
       have Z13 := Lib.hid (blk_below bn Z13.out)
       have hne : b13 ≠ u2.heap.size := Nat.ne_of_lt HL13
       clear bn X12
       obtain ⟨b14, hb14⟩ : ∃ q, u2.heap.size = q := ⟨_, rfl⟩
       rw [hb14] at Z14 P14 hne ⊢
       clear hb14
       generalize u2.alloc (.cells #[enS [], i64 0, i64 0, i64 0, .slice none 0 0] 24) = u3 at *
       rw [Flow.wpSched_step]
       simp only [Flow.pick]
       refine wpQuiet_nil ?_
       have HNE : b14 ≠ b13 := hne.symm
       rw [Flow.callAt_eq]
       simp only [List.getElem?_toArray, List.getElem?_cons_succ, List.getElem?_cons_zero, Act.put]
       rw [if_pos (by rfl)]
       refine Flow.wp_behind (fun K hK => ?_)
       refine wp_store_mid0 73 _ _ rfl rfl b13 0 (bfL B1 A3 c3 A2 c2).toArray rfl rfl (there_at Z13.out (Nat.le_refl 8)) (by kernel_rfl) (one_bfL _ _ _ _ _) ?_
       have bt1 := but_setCells (b := b13) (bfL B1 A3 c3 A2 c2) 0 u3
       have hkb := but_low bt1 P13 X13.out.size
       have S13 := Lib.hid (bf_storeL Z13.out B1 A3 c3 A2 c2)
       have S14 := Lib.hid ((bt1.block b14 (blk_lt Z14.out) HNE).trans Z14.out)
       have XA := Lib.hid (X13.out.trans hkb)
       clear bt1 Z13 Z14
       have e1 : u3.setCells b13 0 (bfL B1 A3 c3 A2 c2).toArray.toList = u3.setCells b13 0 (bfL B1 A3 c3 A2 c2) := rfl
       rw [e1]
       clear e1
       generalize u3.setCells b13 0 (bfL B1 A3 c3 A2 c2) = y1 at *
       refine hK.out _ _ ⟨hkb, ?_⟩
       clear hK K hkb X13
       rw [Flow.wpSched_step]
       simp only [Flow.pick]
       refine wpQuiet_nil ?_
       rw [Flow.callAt_eq]
       simp only [List.getElem?_toArray, List.getElem?_cons_succ, List.getElem?_cons_zero, Act.put]
       rw [if_pos (by rfl)]
       refine Flow.wp_behind (fun K hK => ?_)
       refine wp_store_mid0 24 _ _ rfl rfl b14 0 #[enS dd.ti, i64 dd.vo, i64 dd.ie, i64 dd.da, .slice AA dd.its.length cc] rfl rfl (there_at S14.out (Nat.le_refl 5)) (by kernel_rfl) (one_dg _ _ _ _ _ _ _) ?_
       have bt2 := but_setCells (b := b14) [enS dd.ti, i64 dd.vo, i64 dd.ie, i64 dd.da, .slice AA dd.its.length cc] 0 y1
       have hkb := but_low bt2 P14 XA.out.size
       have T14 := Lib.hid (dg_storeT S14.out (enS dd.ti) (i64 dd.vo) (i64 dd.ie) (i64 dd.da) (.slice AA dd.its.length cc))
       have T13 := Lib.hid ((bt2.block b13 (blk_lt S13.out) (Ne.symm HNE)).trans S13.out)
       have XB := Lib.hid (XA.out.trans hkb)
       clear bt2 S13 S14
       have e1 : y1.setCells b14 0 (#[enS dd.ti, i64 dd.vo, i64 dd.ie, i64 dd.da, .slice AA dd.its.length cc] : Array Value).toList = y1.setCells b14 0 [enS dd.ti, i64 dd.vo, i64 dd.ie, i64 dd.da, .slice AA dd.its.length cc] := rfl
       rw [e1]
       clear e1
       generalize y1.setCells b14 0 [enS dd.ti, i64 dd.vo, i64 dd.ie, i64 dd.da, .slice AA dd.its.length cc] = y2 at *
       refine hK.out _ _ ⟨hkb, ?_⟩
       clear hK K hkb XA
       haveI nonE : Nonempty (Flow.Cls (Below w7.heap.size y2)) := ⟨⟨y2, Below.refl _ _⟩⟩
       rw [Flow.wpSched_done]
       simp only [Flow.pick, List.getElem?_toArray, List.getElem?_cons_succ, List.getElem?_cons_zero]
       repeat go_big_quiet_step (fail)
       refine wpQuiet_nil ?_
       clear nonE
       go_wp2_with fail
       go_meet
       exact ⟨b13, b14, rfl, rfl, rfl, T13, T14, XB⟩
      ·rw [Flow.callAt_eq]
       simp only [List.getElem?_toArray, List.getElem?_cons_succ, List.getElem?_cons_zero, Act.put, List.setIfInBounds_toArray, List.set_cons_succ, List.set_cons_zero]
       rw [if_pos (by rfl)]
       refine Flow.wp_behind (fun K hK => ?_)
       go_wp2_with fail
       have bn := below_new u1 (.cells #[enS [], i64 0, i64 0, i64 0, .slice none 0 0] 24)
       refine hK.out _ _ ⟨bn.mono X11.out.size, ?_⟩
       clear hK K
       have Z14 := Lib.hid (blk_new u1 (.cells #[enS [], i64 0, i64 0, i64 0, .slice none 0 0] 24))
       have P14 : w7.heap.size ≤ u1.heap.size := X11.out.size
       have X12 := Lib.hid (X11.out.trans (bn.mono X11.out.size))
       have Z13 := Lib.hid (blk_below bn Z13.out)
       have hne : b13 ≠ u1.heap.size := Nat.ne_of_lt HL13
       clear bn X11
       obtain ⟨b14, hb14⟩ : ∃ q, u1.heap.size = q := ⟨_, rfl⟩
       rw [hb14] at Z14 P14 hne ⊢
       clear hb14
       generalize u1.alloc (.cells #[enS [], i64 0, i64 0, i64 0, .slice none 0 0] 24) = u2 at *
       rw [Flow.wpSched_step]
       simp only [Flow.pick]
       refine wpQuiet_nil ?_
       rw [Flow.callAt_eq]
       simp only [List.getElem?_toArray, List.getElem?_cons_succ, List.getElem?_cons_zero, Act.put, List.setIfInBounds_toArray, List.set_cons_succ, List.set_cons_zero]
       rw [if_pos (by rfl)]
       refine Flow.wp_behind (fun K hK => ?_)
       go_wp2_with fail
       refine (HTR.out u2 X12.out).mono ?_; rintro e u3 ⟨rfl, bn⟩
       refine hK.out _ _ ⟨bn.mono X12.out.size, ?_⟩
       clear hK K
       have X13 := Lib.hid (X12.out.trans (bn.mono X12.out.size))
       have Z13 := Lib.hid (blk_below bn Z13.out)
       have Z14 := Lib.hid (blk_below bn Z14.out)
       clear bn X12
       haveI nonE : Nonempty (Flow.Cls (Below w7.heap.size u3)) := ⟨⟨u3, Below.refl _ _⟩⟩
       rw [Flow.wpSched_step]
       simp only [Flow.pick, List.getElem?_toArray, List.getElem?_cons_succ, List.getElem?_cons_zero]
       repeat go_big_quiet_step (fail)
       refine wpQuiet_nil ?_
       clear nonE
       have HNE : b14 ≠ b13 := hne.symm
       rw [Flow.callAt_eq]
       simp only [List.getElem?_toArray, List.getElem?_cons_succ, List.getElem?_cons_zero, Act.put]
       rw [if_pos (by rfl)]
       refine Flow.wp_behind (fun K hK => ?_)
       refine wp_store_mid0 73 _ _ rfl rfl b13 0 (bfL B1 A3 c3 A2 c2).toArray rfl rfl (there_at Z13.out (Nat.le_refl 8)) (by kernel_rfl) (one_bfL _ _ _ _ _) ?_
       have bt1 := but_setCells (b := b13) (bfL B1 A3 c3 A2 c2) 0 u3
       have hkb := but_low bt1 P13 X13.out.size
       have S13 := Lib.hid (bf_storeL Z13.out B1 A3 c3 A2 c2)
       have S14 := Lib.hid ((bt1.block b14 (blk_lt Z14.out) HNE).trans Z14.out)
       have XA := Lib.hid (X13.out.trans hkb)
       clear bt1 Z13 Z14
       have e1 : u3.setCells b13 0 (bfL B1 A3 c3 A2 c2).toArray.toList = u3.setCells b13 0 (bfL B1 A3 c3 A2 c2) := rfl
       rw [e1]
       clear e1
       generalize u3.setCells b13 0 (bfL B1 A3 c3 A2 c2) = y1 at *
       refine hK.out _ _ ⟨hkb, ?_⟩
       clear hK K hkb X13
       rw [Flow.wpSched_step]
       simp only [Flow.pick]
       refine wpQuiet_nil ?_
       rw [Flow.callAt_eq]
       simp only [List.getElem?_toArray, List.getElem?_cons_succ, List.getElem?_cons_zero, Act.put]
       rw [if_pos (by rfl)]
       refine Flow.wp_behind (fun K hK => ?_)
       refine wp_store_mid0 24 _ _ rfl rfl b14 0 #[enS dd.ti, i64 dd.vo, i64 dd.ie, i64 dd.da, .slice AA dd.its.length cc] rfl rfl (there_at S14.out (Nat.le_refl 5)) (by kernel_rfl) (one_dg _ _ _ _ _ _ _) ?_
       have bt2 := but_setCells (b := b14) [enS dd.ti, i64 dd.vo, i64 dd.ie, i64 dd.da, .slice AA dd.its.length cc] 0 y1
       have hkb := but_low bt2 P14 XA.out.size
       have T14 := Lib.hid (dg_storeT S14.out (enS dd.ti) (i64 dd.vo) (i64 dd.ie) (i64 dd.da) (.slice AA dd.its.length cc))
       have T13 := Lib.hid ((bt2.block b13 (blk_lt S13.out) (Ne.symm HNE)).trans S13.out)
       have XB := Lib.hid (XA.out.trans hkb)
       clear bt2 S13 S14
       have e1 : y1.setCells b14 0 (#[enS dd.ti, i64 dd.vo, i64 dd.ie, i64 dd.da, .slice AA dd.its.length cc] : Array Value).toList = y1.setCells b14 0 [enS dd.ti, i64 dd.vo, i64 dd.ie, i64 dd.da, .slice AA dd.its.length cc] := rfl
       rw [e1]
       clear e1
       generalize y1.setCells b14 0 [enS dd.ti, i64 dd.vo, i64 dd.ie, i64 dd.da, .slice AA dd.its.length cc] = y2 at *
       refine hK.out _ _ ⟨hkb, ?_⟩
       clear hK K hkb XA
       haveI nonE : Nonempty (Flow.Cls (Below w7.heap.size y2)) := ⟨⟨y2, Below.refl _ _⟩⟩
       rw [Flow.wpSched_done]
       simp only [Flow.pick, List.getElem?_toArray, List.getElem?_cons_succ, List.getElem?_cons_zero]
       repeat go_big_quiet_step (fail)
       refine wpQuiet_nil ?_
       clear nonE
       go_wp2_with fail
       go_meet
       exact ⟨b13, b14, rfl, rfl, rfl, T13, T14, XB⟩
     ·rw [Flow.callAt_eq]
      simp only [List.getElem?_toArray, List.getElem?_cons_succ, List.getElem?_cons_zero, Act.put, List.setIfInBounds_toArray, List.set_cons_succ, List.set_cons_zero]
      rw [if_pos (by rfl)]
      refine Flow.wp_behind (fun K hK => ?_)
      go_wp2_with fail
      have bn := below_new wd (.cells #[enS [], i64 0, i64 0, i64 0, .slice none 0 0] 24)
      refine hK.out _ _ ⟨bn.mono X8.out.size, ?_⟩
      clear hK K
      have Z14 := Lib.hid (blk_new wd (.cells #[enS [], i64 0, i64 0, i64 0, .slice none 0 0] 24))
      have P14 : w7.heap.size ≤ wd.heap.size := X8.out.size
      have X11 := Lib.hid (X8.out.trans (bn.mono X8.out.size))
      clear bn
      have HL14 : wd.heap.size < (wd.alloc (.cells #[enS [], i64 0, i64 0, i64 0, .slice none 0 0] 24)).heap.size := by rw [World.size_alloc]; omega
      obtain ⟨b14, hb14⟩ : ∃ q, wd.heap.size = q := ⟨_, rfl⟩
      rw [hb14] at Z14 P14 HL14 ⊢
      clear hb14
      generalize wd.alloc (.cells #[enS [], i64 0, i64 0, i64 0, .slice none 0 0] 24) = u1 at *
      rw [Flow.wpSched_fork]
      simp only [Flow.pick]
      refine wpQuiet_nil ?_
      refine ⟨?_, ?_⟩
      ·rw [Flow.callAt_eq]
       simp only [List.getElem?_toArray, List.getElem?_cons_succ, List.getElem?_cons_zero, Act.put, List.setIfInBounds_toArray, List.set_cons_succ, List.set_cons_zero]
       rw [if_pos (by rfl)]
       refine Flow.wp_behind (fun K hK => ?_)
       go_wp2_with fail
       refine (HTR.out u1 X11.out).mono ?_; rintro e u2 ⟨rfl, bn⟩
       refine hK.out _ _ ⟨bn.mono X11.out.size, ?_⟩
       clear hK K
       have X12 := Lib.hid (X11.out.trans (bn.mono X11.out.size))
       have Z14 := Lib.hid (blk_below bn Z14.out)
       have HL14 := Nat.lt_of_lt_of_le HL14 bn.size
       clear bn X11
       haveI nonE : Nonempty (Flow.Cls (Below w7.heap.size u2)) := ⟨⟨u2, Below.refl _ _⟩⟩
       rw [Flow.wpSched_step]
       simp only [Flow.pick, List.getElem?_toArray, List.getElem?_cons_succ, List.getElem?_cons_zero]
       repeat go_big_quiet_step (fail)
       refine wpQuiet_nil ?_
       clear nonE
       rw [Flow.callAt_eq]
       simp only [List.getElem?_toArray, List.getElem?_cons_succ, List.getElem?_cons_zero, Act.put, List.setIfInBounds_toArray, List.set_cons_succ, List.set_cons_zero]
       rw [if_pos (by rfl)]
       refine Flow.wp_behind (fun K hK => ?_)
       go_wp2_with fail
       have bn := below_new u2 (.cells #[enS [], i64 0, i64 0, i64 0, i64 0, .slice none 0 0, i64 0, .slice none 0 0] 73)
       refine hK.out _ _ ⟨bn.mono X12.out.size, ?_⟩
       clear hK K
       have Z13 := Lib.hid (blk_new u2 (.cells #[enS [], i64 0, i64 0, i64 0, i64 0, .slice none 0 0, i64 0, .slice none 0 0] 73))
       have P13 : w7.heap.size ≤ u2.heap.size := X12.out.size
       have X13 := Lib.hid (X12.out.trans (bn.mono X12.out.size))
       have Z14 := Lib.hid (blk_below bn Z14.out)
       have hne : b14 ≠ u2.heap.size := Nat.ne_of_lt HL14
       clear bn X12
       obtain ⟨b13, hb13⟩ : ∃ q, u2.heap.size = q := ⟨_, rfl⟩
       rw [hb13] at Z13 P13 hne ⊢
       clear hb13
       generalize u2.alloc (.cells #[enS [], i64 0, i64 0, i64 0, i64 0, .slice none 0 0, i64 0, .slice none 0 0] 73) = u3 at *
       rw [Flow.wpSched_step]
       simp only [Flow.pick]
       refine wpQuiet_nil ?_
       have HNE : b14 ≠ b13 := hne
       rw [Flow.callAt_eq]
       simp only [List.getElem?_toArray, List.getElem?_cons_succ, List.getElem?_cons_zero, Act.put]
       rw [if_pos (by rfl)]
       refine Flow.wp_behind (fun K hK => ?_)
       refine wp_store_mid0 73 _ _ rfl rfl b13 0 (bfL B1 A3 c3 A2 c2).toArray rfl rfl (there_at Z13.out (Nat.le_refl 8)) (by kernel_rfl) (one_bfL _ _ _ _ _) ?_
       have bt1 := but_setCells (b := b13) (bfL B1 A3 c3 A2 c2) 0 u3
       have hkb := but_low bt1 P13 X13.out.size
       have S13 := Lib.hid (bf_storeL Z13.out B1 A3 c3 A2 c2)
       have S14 := Lib.hid ((bt1.block b14 (blk_lt Z14.out) HNE).trans Z14.out)
       have XA := Lib.hid (X13.out.trans hkb)
       clear bt1 Z13 Z14
       have e1 : u3.setCells b13 0 (bfL B1 A3 c3 A2 c2).toArray.toList = u3.setCells b13 0 (bfL B1 A3 c3 A2 c2) := rfl
       rw [e1]
       clear e1
       generalize u3.setCells b13 0 (bfL B1 A3 c3 A2 c2) = y1 at *
       refine hK.out _ _ ⟨hkb, ?_⟩
       clear hK K hkb X13
       rw [Flow.wpSched_step]
       simp only [Flow.pick]
       refine wpQuiet_nil ?_
       rw [Flow.callAt_eq]
       simp only [List.getElem?_toArray, List.getElem?_cons_succ, List.getElem?_cons_zero, Act.put]
       rw [if_pos (by rfl)]
       refine Flow.wp_behind (fun K hK => ?_)
       refine wp_store_mid0 24 _ _ rfl rfl b14 0 #[enS dd.ti, i64 dd.vo, i64 dd.ie, i64 dd.da, .slice AA dd.its.length cc] rfl rfl (there_at S14.out (Nat.le_refl 5)) (by kernel_rfl) (one_dg _ _ _ _ _ _ _) ?_
       have bt2 := but_setCells (b := b14) [enS dd.ti, i64 dd.vo, i64 dd.ie, i64 dd.da, .slice AA dd.its.length cc] 0 y1
       have hkb := but_low bt2 P14 XA.out.size
       have T14 := Lib.hid (dg_storeT S14.out (enS dd.ti) (i64 dd.vo) (i64 dd.ie) (i64 dd.da) (.slice AA dd.its.length cc))
       have T13 := Lib.hid ((bt2.block b13 (blk_lt S13.out) (Ne.symm HNE)).trans S13.out)
       have XB := Lib.hid (XA.out.trans hkb)
       clear bt2 S13 S14
       have e1 : y1.setCells b14 0 (#[enS dd.ti, i64 dd.vo, i64 dd.ie, i64 dd.da, .slice AA dd.its.length cc] : Array Value).toList = y1.setCells b14 0 [enS dd.ti, i64 dd.vo, i64 dd.ie, i64 dd.da, .slice AA dd.its.length cc] := rfl
       rw [e1]
       clear e1
       generalize y1.setCells b14 0 [enS dd.ti, i64 dd.vo, i64 dd.ie, i64 dd.da, .slice AA dd.its.length cc] = y2 at *
       refine hK.out _ _ ⟨hkb, ?_⟩
       clear hK K hkb XA
       haveI nonE : Nonempty (Flow.Cls (Below w7.heap.size y2)) := ⟨⟨y2, Below.refl _ _⟩⟩
       rw [Flow.wpSched_done]
       simp only [Flow.pick, List.getElem?_toArray, List.getElem?_cons_succ, List.getElem?_cons_zero]
       repeat go_big_quiet_step (fail)
       refine wpQuiet_nil ?_
       clear nonE
       go_wp2_with fail
       go_meet
       exact ⟨b13, b14, rfl, rfl, rfl, T13, T14, XB⟩
      ·rw [Flow.callAt_eq]
       simp only [List.getElem?_toArray, List.getElem?_cons_succ, List.getElem?_cons_zero, Act.put, List.setIfInBounds_toArray, List.set_cons_succ, List.set_cons_zero]
       rw [if_pos (by rfl)]
       refine Flow.wp_behind (fun K hK => ?_)
       go_wp2_with fail
       have bn := below_new u1 (.cells #[enS [], i64 0, i64 0, i64 0, i64 0, .slice none 0 0, i64 0, .slice none 0 0] 73)
       refine hK.out _ _ ⟨bn.mono X11.out.size, ?_⟩
       clear hK K
       have Z13 := Lib.hid (blk_new u1 (.cells #[enS [], i64 0, i64 0, i64 0, i64 0, .slice none 0 0, i64 0, .slice none 0 0] 73))
       have P13 : w7.heap.size ≤ u1.heap.size := X11.out.size
       have X12 := Lib.hid (X11.out.trans (bn.mono X11.out.size))
       have Z14 := Lib.hid (blk_below bn Z14.out)
       have hne : b14 ≠ u1.heap.size := Nat.ne_of_lt HL14
       clear bn X11
       obtain ⟨b13, hb13⟩ : ∃ q, u1.heap.size = q := ⟨_, rfl⟩
       rw [hb13] at Z13 P13 hne ⊢
       clear hb13
       generalize u1.alloc (.cells #[enS [], i64 0, i64 0, i64 0, i64 0, .slice none 0 0, i64 0, .slice none 0 0] 73) = u2 at *
       rw [Flow.wpSched_step]
       simp only [Flow.pick]
       refine wpQuiet_nil ?_
       rw [Flow.callAt_eq]
       simp only [List.getElem?_toArray, List.getElem?_cons_succ, List.getElem?_cons_zero, Act.put, List.setIfInBounds_toArray, List.set_cons_succ, List.set_cons_zero]
       rw [if_pos (by rfl)]
       refine Flow.wp_behind (fun K hK => ?_)
       go_wp2_with fail
       refine (HTR.out u2 X12.out).mono ?_; rintro e u3 ⟨rfl, bn⟩
       refine hK.out _ _ ⟨bn.mono X12.out.size, ?_⟩
       clear hK K
       have X13 := Lib.hid (X12.out.trans (bn.mono X12.out.size))
       have Z14 := Lib.hid (blk_below bn Z14.out)
       have Z13 := Lib.hid (blk_below bn Z13.out)
       clear bn X12
       haveI nonE : Nonempty (Flow.Cls (Below w7.heap.size u3)) := ⟨⟨u3, Below.refl _ _⟩⟩
       rw [Flow.wpSched_step]
       simp only [Flow.pick, List.getElem?_toArray, List.getElem?_cons_succ, List.getElem?_cons_zero]
       repeat go_big_quiet_step (fail)
       refine wpQuiet_nil ?_
       clear nonE
       have HNE : b14 ≠ b13 := hne
       rw [Flow.callAt_eq]
       simp only [List.getElem?_toArray, List.getElem?_cons_succ, List.getElem?_cons_zero, Act.put]
       rw [if_pos (by rfl)]
       refine Flow.wp_behind (fun K hK => ?_)
       refine wp_store_mid0 73 _ _ rfl rfl b13 0 (bfL B1 A3 c3 A2 c2).toArray rfl rfl (there_at Z13.out (Nat.le_refl 8)) (by kernel_rfl) (one_bfL _ _ _ _ _) ?_
       have bt1 := but_setCells (b := b13) (bfL B1 A3 c3 A2 c2) 0 u3
       have hkb := but_low bt1 P13 X13.out.size
       have S13 := Lib.hid (bf_storeL Z13.out B1 A3 c3 A2 c2)
       have S14 := Lib.hid ((bt1.block b14 (blk_lt Z14.out) HNE).trans Z14.out)
       have XA := Lib.hid (X13.out.trans hkb)
       clear bt1 Z13 Z14
       have e1 : u3.setCells b13 0 (bfL B1 A3 c3 A2 c2).toArray.toList = u3.setCells b13 0 (bfL B1 A3 c3 A2 c2) := rfl
       rw [e1]
       clear e1
       generalize u3.setCells b13 0 (bfL B1 A3 c3 A2 c2) = y1 at *
       refine hK.out _ _ ⟨hkb, ?_⟩
       clear hK K hkb X13
       rw [Flow.wpSched_step]
       simp only [Flow.pick]
       refine wpQuiet_nil ?_
       rw [Flow.callAt_eq]
       simp only [List.getElem?_toArray, List.getElem?_cons_succ, List.getElem?_cons_zero, Act.put]
       rw [if_pos (by rfl)]
       refine Flow.wp_behind (fun K hK => ?_)
       refine wp_store_mid0 24 _ _ rfl rfl b14 0 #[enS dd.ti, i64 dd.vo, i64 dd.ie, i64 dd.da, .slice AA dd.its.length cc] rfl rfl (there_at S14.out (Nat.le_refl 5)) (by kernel_rfl) (one_dg _ _ _ _ _ _ _) ?_
       have bt2 := but_setCells (b := b14) [enS dd.ti, i64 dd.vo, i64 dd.ie, i64 dd.da, .slice AA dd.its.length cc] 0 y1
       have hkb := but_low bt2 P14 XA.out.size
       have T14 := Lib.hid (dg_storeT S14.out (enS dd.ti) (i64 dd.vo) (i64 dd.ie) (i64 dd.da) (.slice AA dd.its.length cc))
       have T13 := Lib.hid ((bt2.block b13 (blk_lt S13.out) (Ne.symm HNE)).trans S13.out)
       have XB := Lib.hid (XA.out.trans hkb)
       clear bt2 S13 S14
       have e1 : y1.setCells b14 0 (#[enS dd.ti, i64 dd.vo, i64 dd.ie, i64 dd.da, .slice AA dd.its.length cc] : Array Value).toList = y1.setCells b14 0 [enS dd.ti, i64 dd.vo, i64 dd.ie, i64 dd.da, .slice AA dd.its.length cc] := rfl
       rw [e1]
       clear e1
       generalize y1.setCells b14 0 [enS dd.ti, i64 dd.vo, i64 dd.ie, i64 dd.da, .slice AA dd.its.length cc] = y2 at *
       refine hK.out _ _ ⟨hkb, ?_⟩
       clear hK K hkb XA
       haveI nonE : Nonempty (Flow.Cls (Below w7.heap.size y2)) := ⟨⟨y2, Below.refl _ _⟩⟩
       rw [Flow.wpSched_done]
       simp only [Flow.pick, List.getElem?_toArray, List.getElem?_cons_succ, List.getElem?_cons_zero]
       repeat go_big_quiet_step (fail)
       refine wpQuiet_nil ?_
       clear nonE
       go_wp2_with fail
       go_meet
       exact ⟨b13, b14, rfl, rfl, rfl, T13, T14, XB⟩
    obtain ⟨b13, b14, rfl, rfl, rfl, T13, T14, XB⟩ := hcut
    have L8 := Lib.hid (L7.out.below XB.out)
    have M8 := Lib.hid (M7.out.below XB.out)
    have S8 := Lib.hid (S7.out.below XB.out)
    have R8 := Lib.hid (R7.out.below XB.out)
    have D8 := Lib.hid (blk_below XB.out D7.out)
    have Y8 := Lib.hid (TY7.out.below XB.out)
    clear L7 M7 S7 R7 D7 XB HTR TY7
    have RG := Lib.hid (range_blk (cs := bfL B1 A3 c3 A2 c2) T13.out)
    go_upto_region 17 with (first | refine wpList_load_mid rfl 73 _ rfl b13 0 rfl (bfL B1 A3 c3 A2 c2) _ RG.out Tryz.underlying73 rfl (by kernel_rfl) ?_ | (refine wpList_at 73 _ _ rfl ?_; refine wpList_store_mid rfl 73 _ _ rfl rb 0 (bfL B1 A3 c3 A2 c2).toArray rfl rfl (there_at L8.out.rf (Nat.le_refl 8)) (by kernel_rfl) (one_bfL _ _ _ _ _) ?_))
    have hkb := but_setCells (b := rb) (bfL B1 A3 c3 A2 c2) 0 wc
    have L9 := Lib.hid (L8.out.put M8.out)
    have R9 := Lib.hid (R8.out.butN (fun p hp e => NRB.out (by rw [← e]; exact HOB.out p hp)) hkb)
    have S9 := Lib.hid (S8.out.butN (fun p hp => by obtain ⟨cur, h⟩ := Y8.out p hp; exact ty_ne h L8.out.rf (by decide)) hkb)
    have D9 := Lib.hid ((hkb.block db (blk_lt D8.out) (ty_ne D8.out L8.out.rf (by decide))).trans D8.out)
    have T9 := Lib.hid ((hkb.block b14 (blk_lt T14.out) (ty_ne T14.out L8.out.rf (by decide))).trans T14.out)
    have e1 : wc.setCells rb 0 (bfL B1 A3 c3 A2 c2).toArray.toList = wc.setCells rb 0 (bfL B1 A3 c3 A2 c2) := rfl
    (try rw [e1])
    clear e1 hkb L8 M8 S8 R8 D8 Y8 T13 T14 RG NRB HOB
    generalize wc.setCells rb 0 (bfL B1 A3 c3 A2 c2) = w9 at *
    have bd := (Below.refl w9.heap.size w9).drew
    refine Flow.wp_region_segs Flow.Later Flow.Later.refl Flow.Later.trans [([0, 2], 1), ([], 3)] [4, 5, 6, 7, 8, 9] (by kernel_rfl) (by kernel_rfl) ?_
    have L10 := Lib.hid (L9.out.below bd)
    have R10 := Lib.hid (R9.out.below bd)
    have S10 := Lib.hid (S9.out.below bd)
    have D10 := Lib.hid (blk_below bd D9.out)
    have T10 := Lib.hid (blk_below bd T9.out)
    clear bd L9 R9 S9 D9 T9
    generalize World.drew _ = wd at *
    have qD : ∀ t : Flow.Cls (Flow.Later wd), t.val.rangeAt db 0 [enS dd.ti, i64 dd.vo, i64 dd.ie, i64 dd.da, .slice P6 dd.its.length p6] := fun t => range_blk (cs := [enS dd.ti, i64 dd.vo, i64 dd.ie, i64 dd.da, .slice P6 dd.its.length p6]) (blk_below t.ok D10.out)
    have qT : ∀ t : Flow.Cls (Flow.Later wd), t.val.rangeAt b14 0 [enS dd.ti, i64 dd.vo, i64 dd.ie, i64 dd.da, .slice AA dd.its.length cc] := fun t => range_blk (cs := [enS dd.ti, i64 dd.vo, i64 dd.ie, i64 dd.da, .slice AA dd.its.length cc]) (blk_below t.ok T10.out)
    haveI nonE := Flow.cls_nonempty wd
    rw [Flow.wpSegs_cons]
    simp only [Flow.pick, List.getElem?_toArray, List.getElem?_cons_succ, List.getElem?_cons_zero]
    refine BigFrame.wpQuiet_want rfl (fun K hK => quiet_load_mid 32 _ rfl db 0 rfl [enS dd.ti, i64 dd.vo, i64 dd.ie, i64 dd.da, .slice P6 dd.its.length p6] _ (fun _ he => by obtain ⟨t, rfl⟩ := he; exact qD t) Tryz.underlying32 rfl (by kernel_rfl) (hK _ ?_))
    clear hK K
    simp only [Act.put, List.setIfInBounds_toArray, List.set_cons_succ, List.set_cons_zero]
    refine BigFrame.wpQuiet_want rfl (fun K hK => quiet_load_mid 24 _ rfl b14 0 rfl [enS dd.ti, i64 dd.vo, i64 dd.ie, i64 dd.da, .slice AA dd.its.length cc] _ (fun _ he => by obtain ⟨t, rfl⟩ := he; exact qT t) Tryz.underlying24 rfl (by kernel_rfl) (hK _ ?_))
    clear hK K
    simp only [Act.put, List.setIfInBounds_toArray, List.set_cons_succ, List.set_cons_zero]
    refine wpQuiet_nil ?_
    clear nonE qD qT
    rw [Flow.callAt_eq]
    simp only [List.getElem?_toArray, List.getElem?_cons_succ, List.getElem?_cons_zero]
    rw [if_pos (by rfl)]
    refine Flow.wp_behind (fun K0 hK => ?_)
    go_wp2_with fail
    refine (back_any dd P6 p6 _ R10.out LC.out HDL.out).mono ?_; rintro e w11 ⟨⟨A9, c9, rfl, r9, l9⟩, b9⟩
    refine hK.out _ _ ⟨b9, ?_⟩
    clear hK K0
    have L11 := Lib.hid (L10.out.below b9)
    have HSA := Lib.hid (same_any dd A9 AA c9 cc w11 r9 (S10.out.below b9) l9 LCC.out HDL.out)
    clear b9 r9 l9 L10 R10 S10 D10 T10
    haveI nonE := Flow.cls_nonempty w11
    rw [Flow.wpSegs_cons]
    simp only [Flow.pick]
    refine wpQuiet_nil ?_
    clear nonE
    rw [Flow.callAt_eq]
    simp only [List.getElem?_toArray, List.getElem?_cons_succ, List.getElem?_cons_zero]
    rw [if_pos (by rfl)]
    refine Flow.wp_behind (fun K0 hK => ?_)
    go_wp2_with fail
    refine HSA.out.mono ?_; rintro e w12 ⟨rfl, b12⟩
    refine hK.out _ _ ⟨b12, ?_⟩
    clear hK K0
    have L12 := Lib.hid (L11.out.below b12)
    clear b12 L11 HSA
    have hqe : (ec != ec) = false := by simp
    haveI nonE := Flow.cls_nonempty w12
    rw [Flow.wpSegs_nil]
    simp only [Flow.pick, List.getElem?_toArray, List.getElem?_cons_succ, List.getElem?_cons_zero]
    repeat go_big_quiet_step (fail)
    refine wpQuiet_nil ?_
    clear nonE
    go_wp2_with fail
    go_meet
    exact ⟨v', B1, A3, c3, A2, c2, L12, BD1⟩
   ·have hb1 : (q.kd == 1) = false := by simpa using hkd
    rw [hb1]
    clear hkd hb1
    have BD1 := Lib.hid (BD.out.add (x := q.x) (now := q.nw) (fun _ => HS.out))
    have HAD := Lib.hid (fun u (h : BlM u base bb mb v B) => add_any base bb mb v B q.x q.nw u h H32.out (by have := HS.out; omega) (by have := HS.out; omega) (by have := BD.out.ad; omega))
    have HAR := Lib.hid (fun u (h : BfM u B A c A2 c2) => addR_any B A c A2 c2 q.x q.nw u h H32.out (by have := HS.out; omega) (by have := HS.out; omega) (by have := HS.out; omega) (by have := BD.out.wt; omega) (by have := BD.out.ad; omega))
    go_upto_region 19 with fail
    have bd := (Below.refl w5.heap.size w5).drew
    refine Flow.wp_region_segs (KeepT w.heap.size [xb]) (KeepT.refl _ _) (fun _ _ _ h k => h.trans k) [([0, 1, 3, 4, 5, 6, 7], 2), ([], 8)] [9] (by kernel_rfl) (by kernel_rfl) ?_
    have L6 := Lib.hid (L5.out.below bd)
    have BI6 := Lib.hid (blk_below bd BI.out)
    clear bd L5 BI
    generalize World.drew _ = wd at *
    have qX : ∀ t : Flow.Cls (KeepT w.heap.size [xb] wd), t.val.rangeAt xb 0 (itL q.x) := fun t => range_blk ((t.ok.2 xb (by simp)).trans BI6.out)
    have qN : ∀ t : Flow.Cls (KeepT w.heap.size [xb] wd), t.val.cell? ⟨b, o + k * 38 + 37, none⟩ = some (i64 q.nw) := fun t => op_nw (HRW.out t.val (L6.out.bel.trans t.ok.1))
    have nwc := op_nw (HRW.out wd L6.out.bel)
    haveI nonE := cls_keep (B := w.heap.size) (K := [xb]) wd
    rw [Flow.wpSegs_cons]
    simp only [Flow.pick, List.getElem?_toArray, List.getElem?_cons_succ, List.getElem?_cons_zero]
    go_big_quiet_step (fail)
    refine BigFrame.wpQuiet_want rfl (fun K hK => quiet_load_mid 53 _ rfl xb 0 rfl (itL q.x) _ (fun _ he => by obtain ⟨t, rfl⟩ := he; exact qX t) Tryz.underlying53 rfl (by rw [itL_length]; exact HSZ.out) (hK _ ?_))
    clear hK K
    simp only [Act.put, List.setIfInBounds_toArray, List.set_cons_succ, List.set_cons_zero]
    iterate 5 go_big_quiet_step (fail)
    refine wpQuiet_nil ?_
    clear nonE qX qN nwc
    rw [Flow.callAt_eq]
    simp only [List.getElem?_toArray, List.getElem?_cons_succ, List.getElem?_cons_zero]
    rw [if_pos (by rfl)]
    refine Flow.wp_behind (fun K0 hK => ?_)
    go_wp2_with fail
    refine (item_any q.x wd).mono ?_; rintro e w7 ⟨rfl, b7⟩
    have hxl := blk_lt BI6.out
    refine hK.out _ _ ⟨KeepT.of_below b7 L6.out.bel.size (fun i hi => by rw [List.mem_singleton.1 hi]; exact hxl), ?_⟩
    clear hK K0 hxl
    have L7 := Lib.hid (L6.out.below b7)
    have BI7 := Lib.hid (blk_below b7 BI6.out)
    clear b7 L6 BI6
    rw [Flow.wpSegs_cons]
    simp only [Flow.pick]
    refine wpQuiet_nil ?_
    rw [Flow.callAt_eq]
    simp only [List.getElem?_toArray, List.getElem?_cons_succ, List.getElem?_cons_zero]
    rw [if_pos (by rfl)]
    refine Flow.wp_behind (fun K0 hK => ?_)
    go_wp2_with fail
    refine (HAD.out w7 L7.out.bl).mono ?_; rintro e w8 ⟨⟨v', rfl, bl8⟩, but8⟩
    have hnx := L7.out.bl.away BI7.out (by decide) (by decide)
    have hxl := blk_lt BI7.out
    refine hK.out _ _ ⟨keep_butL L7.out.bl L7.out.bel.size L7.out.hb but8 (fun i hi => by rw [List.mem_singleton.1 hi]; exact ⟨hxl, hnx⟩), ?_⟩
    clear hK K0
    have L8 := Lib.hid (L7.out.butL but8 bl8)
    have BI8 := Lib.hid ((but8.block xb hxl hnx).trans BI7.out)
    clear but8 bl8 hnx hxl L7 BI7 HAD
    obtain ⟨B1, hB1⟩ : ∃ z, addB B q.x q.nw = z := ⟨_, rfl⟩
    obtain ⟨ec, hec⟩ : ∃ z, addE B q.x q.nw = z := ⟨_, rfl⟩
    simp only [hB1, hec] at HAR L8 BD1 ⊢
    clear hB1 hec BD
    haveI nonE := cls_keep (B := w.heap.size) (K := [xb]) w8
    rw [Flow.wpSegs_nil]
    simp only [Flow.pick, List.getElem?_toArray, List.getElem?_cons_succ, List.getElem?_cons_zero]
    repeat go_big_quiet_step (fail)
    refine wpQuiet_nil ?_
    clear nonE
    go_upto_region 20 with fail
    go_cut [17, 18] (fun p17 e18 wx => ∃ b17 A3 c3 A4 c4, p17 = .pointer (some ⟨b17, 0, none⟩) ∧ e18 = i64 ec ∧ Hid (wx.heap[b17]? = some (.cells (bfL B1 A3 c3 A4 c4).toArray 73 (0, 0))) ∧ Hid (BfM wx B1 A3 c3 A4 c4) ∧ Hid (Below w8.heap.size w8 wx))
    case first =>
     refine Flow.wp_region_sched (fun u v => Below w8.heap.size u v) (fun _ => Below.refl _ _) (fun _ _ _ h k => h.trans k) (.fork [0, 1, 2, 3, 4, 5, 6] 7 11 (.step [8, 9, 10] 11 (.step [] 12 (.done [13]))) (.step [] 7 (.step [8, 9, 10] 12 (.done [13])))) (by kernel_rfl) (by kernel_rfl) ?_
     have x9 : Below w8.heap.size w8 w8.drew := (Below.refl _ _).drew
     have X9 := Lib.hid x9
     clear x9
     generalize World.drew _ = wd at *
     have qB : ∀ t : Flow.Cls (Below w8.heap.size wd), t.val.rangeAt rb 0 (bfL B A c A2 c2) := fun t => range_blk (blk_below (X9.out.trans t.ok) L8.out.rf)
     have qX : ∀ t : Flow.Cls (Below w8.heap.size wd), t.val.rangeAt xb 0 (itL q.x) := fun t => range_blk (blk_below (X9.out.trans t.ok) BI8.out)
     have qN : ∀ t : Flow.Cls (Below w8.heap.size wd), t.val.cell? ⟨b, o + k * 38 + 37, none⟩ = some (i64 q.nw) := fun t => op_nw (HRW.out t.val (L8.out.bel.tr (X9.out.trans t.ok)))
     have nwc := op_nw (HRW.out wd (L8.out.bel.tr X9.out))
     haveI nonE : Nonempty (Flow.Cls (Below w8.heap.size wd)) := ⟨⟨wd, Below.refl _ _⟩⟩
     rw [Flow.wpSched_fork]
     simp only [Flow.pick, List.getElem?_toArray, List.getElem?_cons_succ, List.getElem?_cons_zero]
     refine BigFrame.wpQuiet_want rfl (fun K hK => quiet_load_mid 73 _ rfl rb 0 rfl (bfL B A c A2 c2) _ (fun _ he => by obtain ⟨t, rfl⟩ := he; exact qB t) Tryz.underlying73 rfl (by kernel_rfl) (hK _ ?_))
     clear hK K
     simp only [Act.put, List.setIfInBounds_toArray, List.set_cons_succ, List.set_cons_zero]
     refine BigFrame.wpQuiet_want rfl (fun K hK => quiet_load_mid 53 _ rfl xb 0 rfl (itL q.x) _ (fun _ he => by obtain ⟨t, rfl⟩ := he; exact qX t) Tryz.underlying53 rfl (by rw [itL_length]; exact HSZ.out) (hK _ ?_))
     clear hK K
     simp only [Act.put, List.setIfInBounds_toArray, List.set_cons_succ, List.set_cons_zero]
     iterate 5 go_big_quiet_step (fail)
     refine wpQuiet_nil ?_
     clear nonE qB qX qN nwc
     refine ⟨?_, ?_⟩
     ·rw [Flow.callAt_eq]
      simp only [List.getElem?_toArray, List.getElem?_cons_succ, List.getElem?_cons_zero, Act.put, List.setIfInBounds_toArray, List.set_cons_succ, List.set_cons_zero]
      rw [if_pos (by rfl)]
      refine Flow.wp_behind (fun K hK => ?_)
      go_wp2_with fail
      refine (HAR.out wd (L8.out.md.below X9.out)).mono ?_; rintro e u1 ⟨⟨A3, c3, A4, c4, rfl, m9⟩, bn⟩
      refine hK.out _ _ ⟨bn.mono X9.out.size, ?_⟩
      clear hK K
      have M9 := Lib.hid m9
      clear m9
      have XC := Lib.hid (X9.out.trans (bn.mono X9.out.size))
      clear bn
      haveI nonE : Nonempty (Flow.Cls (Below w8.heap.size u1)) := ⟨⟨u1, Below.refl _ _⟩⟩
      rw [Flow.wpSched_step]
      simp only [Flow.pick, List.getElem?_toArray, List.getElem?_cons_succ, List.getElem?_cons_zero, List.set_cons_succ, List.set_cons_zero]
      repeat go_big_quiet_step (fail)
      refine wpQuiet_nil ?_
      clear nonE
      rw [Flow.callAt_eq]
      simp only [List.getElem?_toArray, List.getElem?_cons_succ, List.getElem?_cons_zero, Act.put, List.setIfInBounds_toArray, List.set_cons_succ, List.set_cons_zero]
      rw [if_pos (by rfl)]
      refine Flow.wp_behind (fun K hK => ?_)
      go_wp2_with fail
      have bn := below_new u1 (.cells #[enS [], i64 0, i64 0, i64 0, i64 0, .slice none 0 0, i64 0, .slice none 0 0] 73)
      refine hK.out _ _ ⟨bn.mono XC.out.size, ?_⟩
      clear hK K
      have Z17 := Lib.hid (blk_new u1 (.cells #[enS [], i64 0, i64 0, i64 0, i64 0, .slice none 0 0, i64 0, .slice none 0 0] 73))
      have P17 : w8.heap.size ≤ u1.heap.size := XC.out.size
      have XN := Lib.hid (XC.out.trans (bn.mono XC.out.size))
      have M9 := Lib.hid (M9.out.below bn)
      clear bn
      obtain ⟨b17, hb17⟩ : ∃ q, u1.heap.size = q := ⟨_, rfl⟩
      rw [hb17] at Z17 P17 ⊢
      clear hb17
      generalize u1.alloc (.cells #[enS [], i64 0, i64 0, i64 0, i64 0, .slice none 0 0, i64 0, .slice none 0 0] 73) = u2 at *
      clear XC
      rw [Flow.wpSched_step]
      simp only [Flow.pick, List.getElem?_toArray, List.getElem?_cons_succ, List.getElem?_cons_zero, Act.put, List.setIfInBounds_toArray, List.set_cons_succ, List.set_cons_zero]
      refine wpQuiet_nil ?_
      rw [Flow.callAt_eq]
      simp only [List.getElem?_toArray, List.getElem?_cons_succ, List.getElem?_cons_zero, Act.put, List.setIfInBounds_toArray, List.set_cons_succ, List.set_cons_zero]
      rw [if_pos (by rfl)]
      refine Flow.wp_behind (fun K hK => ?_)
      refine wp_store_mid0 73 _ _ rfl rfl b17 0 (bfL B1 A3 c3 A4 c4).toArray rfl rfl (there_at Z17.out (Nat.le_refl 8)) (by kernel_rfl) (one_bfL _ _ _ _ _) ?_
      have bt1 := but_setCells (b := b17) (bfL B1 A3 c3 A4 c4) 0 u2
      have hkb := but_low bt1 P17 XN.out.size
      have T17 := Lib.hid (bf_storeL Z17.out B1 A3 c3 A4 c4)
      have MX := Lib.hid (M9.out.but Z17.out (by decide) (by decide) bt1)
      have XA := Lib.hid (XN.out.trans hkb)
      clear bt1 Z17 M9
      have e1 : u2.setCells b17 0 (bfL B1 A3 c3 A4 c4).toArray.toList = u2.setCells b17 0 (bfL B1 A3 c3 A4 c4) := rfl
      rw [e1]
      clear e1
      generalize u2.setCells b17 0 (bfL B1 A3 c3 A4 c4) = y1 at *
      refine hK.out _ _ ⟨hkb, ?_⟩
      clear hK K hkb XN
      haveI nonE : Nonempty (Flow.Cls (Below w8.heap.size y1)) := ⟨⟨y1, Below.refl _ _⟩⟩
      rw [Flow.wpSched_done]
      simp only [Flow.pick, List.getElem?_toArray, List.getElem?_cons_succ, List.getElem?_cons_zero, Act.put, List.setIfInBounds_toArray, List.set_cons_succ, List.set_cons_zero]
      repeat go_big_quiet_step (fail)
      refine wpQuiet_nil ?_
      clear nonE
      go_wp2_with fail
      go_meet
      exact ⟨b17, A3, c3, A4, c4, rfl, rfl, T17, MX, XA⟩
     ·rw [Flow.callAt_eq]
      simp only [List.getElem?_toArray, List.getElem?_cons_succ, List.getElem?_cons_zero, Act.put, List.setIfInBounds_toArray, List.set_cons_succ, List.set_cons_zero]
      rw [if_pos (by rfl)]
      refine Flow.wp_behind (fun K hK => ?_)
      go_wp2_with fail
      have bn := below_new wd (.cells #[enS [], i64 0, i64 0, i64 0, i64 0, .slice none 0 0, i64 0, .slice none 0 0] 73)
      refine hK.out _ _ ⟨bn.mono X9.out.size, ?_⟩
      clear hK K
      have Z17 := Lib.hid (blk_new wd (.cells #[enS [], i64 0, i64 0, i64 0, i64 0, .slice none 0 0, i64 0, .slice none 0 0] 73))
      have P17 : w8.heap.size ≤ wd.heap.size := X9.out.size
      have XN := Lib.hid (X9.out.trans (bn.mono X9.out.size))
      clear bn
      obtain ⟨b17, hb17⟩ : ∃ q, wd.heap.size = q := ⟨_, rfl⟩
      rw [hb17] at Z17 P17 ⊢
      clear hb17
      generalize wd.alloc (.cells #[enS [], i64 0, i64 0, i64 0, i64 0, .slice none 0 0, i64 0, .slice none 0 0] 73) = u1 at *
      rw [Flow.wpSched_step]
      simp only [Flow.pick, List.getElem?_toArray, List.getElem?_cons_succ, List.getElem?_cons_zero, Act.put, List.setIfInBounds_toArray, List.set_cons_succ, List.set_cons_zero]
      refine wpQuiet_nil ?_
      rw [Flow.callAt_eq]
      simp only [List.getElem?_toArray, List.getElem?_cons_succ, List.getElem?_cons_zero, Act.put, List.setIfInBounds_toArray, List.set_cons_succ, List.set_cons_zero]
      rw [if_pos (by rfl)]
      refine Flow.wp_behind (fun K hK => ?_)
      go_wp2_with fail
      refine (HAR.out u1 (L8.out.md.below XN.out)).mono ?_; rintro e u2 ⟨⟨A3, c3, A4, c4, rfl, m9⟩, bn⟩
      refine hK.out _ _ ⟨bn.mono XN.out.size, ?_⟩
      clear hK K
      have M9 := Lib.hid m9
      clear m9
      have XC := Lib.hid (XN.out.trans (bn.mono XN.out.size))
      have Z17 := Lib.hid (blk_below bn Z17.out)
      clear bn XN
      haveI nonE : Nonempty (Flow.Cls (Below w8.heap.size u2)) := ⟨⟨u2, Below.refl _ _⟩⟩
      rw [Flow.wpSched_step]
      simp only [Flow.pick, List.getElem?_toArray, List.getElem?_cons_succ, List.getElem?_cons_zero, Act.put, List.setIfInBounds_toArray, List.set_cons_succ, List.set_cons_zero]
      repeat go_big_quiet_step (fail)
      refine wpQuiet_nil ?_
      clear nonE
      rw [Flow.callAt_eq]
      simp only [List.getElem?_toArray, List.getElem?_cons_succ, List.getElem?_cons_zero, Act.put, List.setIfInBounds_toArray, List.set_cons_succ, List.set_cons_zero]
      rw [if_pos (by rfl)]
      refine Flow.wp_behind (fun K hK => ?_)
      refine wp_store_mid0 73 _ _ rfl rfl b17 0 (bfL B1 A3 c3 A4 c4).toArray rfl rfl (there_at Z17.out (Nat.le_refl 8)) (by kernel_rfl) (one_bfL _ _ _ _ _) ?_
      have bt1 := but_setCells (b := b17) (bfL B1 A3 c3 A4 c4) 0 u2
      have hkb := but_low bt1 P17 XC.out.size
      have T17 := Lib.hid (bf_storeL Z17.out B1 A3 c3 A4 c4)
      have MX := Lib.hid (M9.out.but Z17.out (by decide) (by decide) bt1)
      have XA := Lib.hid (XC.out.trans hkb)
      clear bt1 Z17 M9
      have e1 : u2.setCells b17 0 (bfL B1 A3 c3 A4 c4).toArray.toList = u2.setCells b17 0 (bfL B1 A3 c3 A4 c4) := rfl
      rw [e1]
      clear e1
      generalize u2.setCells b17 0 (bfL B1 A3 c3 A4 c4) = y1 at *
      refine hK.out _ _ ⟨hkb, ?_⟩
      clear hK K hkb XC
      haveI nonE : Nonempty (Flow.Cls (Below w8.heap.size y1)) := ⟨⟨y1, Below.refl _ _⟩⟩
      rw [Flow.wpSched_done]
      simp only [Flow.pick, List.getElem?_toArray, List.getElem?_cons_succ, List.getElem?_cons_zero, Act.put, List.setIfInBounds_toArray, List.set_cons_succ, List.set_cons_zero]
      repeat go_big_quiet_step (fail)
      refine wpQuiet_nil ?_
      clear nonE
      go_wp2_with fail
      go_meet
      exact ⟨b17, A3, c3, A4, c4, rfl, rfl, T17, MX, XA⟩
    obtain ⟨b17, A3, c3, A4, c4, rfl, rfl, T17, M9, XB⟩ := hcut
    have L9 := Lib.hid (L8.out.below XB.out)
    clear L8 BI8 XB HAR
    have RG := Lib.hid (range_blk (cs := bfL B1 A3 c3 A4 c4) T17.out)
    go_upto_region 22 with (first | refine wpList_load_mid rfl 73 _ rfl b17 0 rfl (bfL B1 A3 c3 A4 c4) _ RG.out Tryz.underlying73 rfl (by kernel_rfl) ?_ | (refine wpList_at 73 _ _ rfl ?_; refine wpList_store_mid rfl 73 _ _ rfl rb 0 (bfL B1 A3 c3 A4 c4).toArray rfl rfl (there_at L9.out.rf (Nat.le_refl 8)) (by kernel_rfl) (one_bfL _ _ _ _ _) ?_))
    have LX := Lib.hid (L9.out.put M9.out)
    have e1 : wc.setCells rb 0 (bfL B1 A3 c3 A4 c4).toArray.toList = wc.setCells rb 0 (bfL B1 A3 c3 A4 c4) := rfl
    (try rw [e1])
    clear e1 L9 M9 T17 RG
    generalize wc.setCells rb 0 (bfL B1 A3 c3 A4 c4) = w9 at *
    have hqe : (ec != ec) = false := by simp
    go_wp2_with fail
    go_meet
    exact ⟨v', B1, A3, c3, A4, c4, LX, BD1⟩
  obtain ⟨v1, B1, A3, c3, A4, c4, LC, BD1⟩ := hcut
  clear L5 BI BD HS
  have hn1 := BD1.out.wt
  have hn2 := BD1.out.tk
  have hn3 := BD1.out.fi
  have hn4 := BD1.out.mi
  have hn5 := BD1.out.cap
  have HL := Lib.hid (fun u (h : BlM u base bb mb v1 B1) => len_any base bb mb v1 B1 u h)
  have HI := Lib.hid (fun u (h : BlM u base bb mb v1 B1) => issue_any base bb mb v1 B1 u h ⟨hn2.1, by omega⟩)
  have HD := Lib.hid (fun u (h : BlM u base bb mb v1 B1) => due_any base bb mb v1 B1 q.nw u h ⟨hn3.1, by omega⟩ ⟨hn4.1, by omega⟩)
  have HE := Lib.hid (fun u => dueR_any B1 A3 c3 A4 c4 q.nw u hn5 ⟨hn3.1, by omega⟩ ⟨hn4.1, by omega⟩)
  clear hn2 hn3 hn4 hn5
  obtain ⟨df, hdf⟩ : ∃ z, dueB B1 q.nw = z := ⟨_, rfl⟩
  rw [hdf] at HD HE
  clear hdf
  go_upto_region 24 with fail
  have bd := (Below.refl wc.heap.size wc).drew
  refine Flow.wp_region_segs Flow.Later Flow.Later.refl Flow.Later.trans [([0, 2, 3, 4], 1), ([5, 6, 7, 9, 10], 8), ([11, 12, 13, 14, 15, 16, 17, 18, 19, 21, 22, 23, 24, 25, 26], 20), ([], 27)] [28, 29] (by kernel_rfl) (by kernel_rfl) ?_
  have L6 := Lib.hid (LC.out.below bd)
  clear bd LC
  generalize World.drew _ = wd at *
  have q5 : ∀ t : Flow.Cls (Flow.Later wd), t.val.cell? ⟨rb, 5, none⟩ = some (.slice A3 B1.wait.length c3) := fun t => Flow.cls_cell (blk_cell L6.out.rf 5) t
  haveI nonE := Flow.cls_nonempty wd
  rw [Flow.wpSegs_cons]
  simp only [Flow.pick, List.getElem?_toArray, List.getElem?_cons_succ, List.getElem?_cons_zero]
  repeat go_big_quiet_step (fail)
  refine wpQuiet_nil ?_
  clear nonE q5
  rw [Flow.callAt_eq]
  simp only [List.getElem?_toArray, List.getElem?_cons_succ, List.getElem?_cons_zero]
  rw [if_pos (by rfl)]
  refine Flow.wp_behind (fun K0 hK => ?_)
  go_wp2_with fail
  refine (HL.out wd L6.out.bl).mono ?_; rintro e x1 ⟨rfl, rfl⟩
  refine hK.out _ _ ⟨Below.refl _ _, ?_⟩
  clear hK K0 HL
  have q4 : ∀ t : Flow.Cls (Flow.Later wd), t.val.cell? ⟨rb, 4, none⟩ = some (i64 (B1.taken + 1)) := fun t => Flow.cls_cell (blk_cell L6.out.rf 4) t
  have hqn : ((B1.wait.length : Int) != (B1.wait.length : Int)) = false := by simp
  haveI nonE := Flow.cls_nonempty wd
  rw [Flow.wpSegs_cons]
  simp only [Flow.pick, List.getElem?_toArray, List.getElem?_cons_succ, List.getElem?_cons_zero]
  repeat go_big_quiet_step (fail)
  refine wpQuiet_nil ?_
  clear nonE q4 hqn
  rw [Flow.callAt_eq]
  simp only [List.getElem?_toArray, List.getElem?_cons_succ, List.getElem?_cons_zero]
  rw [if_pos (by rfl)]
  refine Flow.wp_behind (fun K0 hK => ?_)
  go_wp2_with fail
  refine (HI.out wd L6.out.bl).mono ?_; rintro e x1 ⟨rfl, rfl⟩
  refine hK.out _ _ ⟨Below.refl _ _, ?_⟩
  clear hK K0 HI
  have qN : ∀ t : Flow.Cls (Flow.Later wd), t.val.cell? ⟨b, o + k * 38 + 37, none⟩ = some (i64 q.nw) := fun t => op_nw (HRW.out t.val (L6.out.bel.tr t.ok))
  have nwc := op_nw (HRW.out wd L6.out.bel)
  have qB : ∀ t : Flow.Cls (Flow.Later wd), t.val.rangeAt rb 0 (bfL B1 A3 c3 A4 c4) := fun t => range_blk (blk_below t.ok L6.out.rf)
  have hqn : (B1.taken + 1 != B1.taken + 1) = false := by simp
  haveI nonE := Flow.cls_nonempty wd
  rw [Flow.wpSegs_cons]
  simp only [Flow.pick, List.getElem?_toArray, List.getElem?_cons_succ, List.getElem?_cons_zero]
  iterate 9 go_big_quiet_step (fail)
  refine BigFrame.wpQuiet_want rfl (fun K hK => quiet_load_mid 73 _ rfl rb 0 rfl (bfL B1 A3 c3 A4 c4) _ (fun _ he => by obtain ⟨t, rfl⟩ := he; exact qB t) Tryz.underlying73 rfl (by kernel_rfl) (hK _ ?_))
  clear hK K
  simp only [Act.put, List.setIfInBounds_toArray, List.set_cons_succ, List.set_cons_zero]
  iterate 5 go_big_quiet_step (fail)
  refine wpQuiet_nil ?_
  clear nonE qN qB hqn nwc
  rw [Flow.callAt_eq]
  simp only [List.getElem?_toArray, List.getElem?_cons_succ, List.getElem?_cons_zero]
  rw [if_pos (by rfl)]
  refine Flow.wp_behind (fun K0 hK => ?_)
  go_wp2_with fail
  refine (HD.out wd L6.out.bl).mono ?_; rintro e w7 ⟨rfl, b7⟩
  refine hK.out _ _ ⟨b7, ?_⟩
  clear hK K0 HD
  have L7 := Lib.hid (L6.out.below b7)
  clear b7 L6
  rw [Flow.wpSegs_cons]
  simp only [Flow.pick, List.getElem?_toArray, List.getElem?_cons_succ, List.getElem?_cons_zero]
  refine wpQuiet_nil ?_
  rw [Flow.callAt_eq]
  simp only [List.getElem?_toArray, List.getElem?_cons_succ, List.getElem?_cons_zero]
  rw [if_pos (by rfl)]
  refine Flow.wp_behind (fun K0 hK => ?_)
  go_wp2_with fail
  refine (HE.out w7).mono ?_; rintro e w8 ⟨rfl, b8⟩
  refine hK.out _ _ ⟨b8, ?_⟩
  clear hK K0 HE
  have L8 := Lib.hid (L7.out.below b8)
  clear b8 L7
  have hqd : (df != df) = false := by simp
  haveI nonE := Flow.cls_nonempty w8
  rw [Flow.wpSegs_nil]
  simp only [Flow.pick, List.getElem?_toArray, List.getElem?_cons_succ, List.getElem?_cons_zero]
  repeat go_big_quiet_step (fail)
  refine wpQuiet_nil ?_
  clear nonE
  go_wp2_with fail
  go_roundg (os.length - (k + 1))
  case measure => omega
  case rel => exact ⟨k + 1, v1, B1, A3, c3, A4, c4, by omega, by omega, by simp, L8, BD1⟩
end Go.Proofs.YtlchcjnbbhpiaaaGreatDoor
