/- Contract: Take of a builder.
   The reference's builder in memory; contracts: the reference's NewBuilder, Due.
   Contract: the reference's Add.
   Contract: the reference's Take. -/
import Derived.Test.YtlchcjnbbhpiaaaGreatDoorYad
import Derived.Test.YtlchcjnbbhpiaaaGreatDoorZb
import Derived.Test.YtlchcjnbbhpiaaaGreatDoorYaa
import Derived.Test.YtlchcjnbbhpiaaaGreatDoorZw
import Derived.Test.YtlchcjnbbhpiaaaGreatDoorYac
namespace Go.Proofs.YtlchcjnbbhpiaaaGreatDoor
open Go.RowKit Go.Shelf Go.Dg Go.Maps
theorem takeB_no {B : Bs} {now : Int} (h : takeE B now ≠ 0) : takeB B now = B := by
 unfold takeB
 rw [if_pos h]
theorem takeB_yes {B : Bs} {now : Int} (h : takeE B now = 0) : takeB B now = ⟨B.ti, B.vo, B.cap, B.mins, B.taken + 1, [], B.first, B.added⟩ := by
 unfold takeB
 rw [if_neg (by rw [h]; decide)]
theorem but_low {b N : Nat} {u v : World} (h : But b u v) (hb : N ≤ b) (hN : N ≤ u.heap.size) : Below N u v := ⟨h.os, h.tape, h.output, h.size, fun k hk => h.block k (by omega) (by omega)⟩
/-- What Take returns: the error and no digest, or the digest, whose items lie in the row that was the builder's. -/
def TakeR (w' : World) (base bb mb : Nat) (v : Value) (B : Bs) (now : Int) (e : Ending) : Prop :=
 (takeE B now ≠ 0 ∧ e = .returned (.tuple #[dg0, i64 (takeE B now)]) ∧ BlM w' base bb mb v B) ∨
 (takeE B now = 0 ∧ ∃ A c, v = .slice A B.wait.length c ∧ e = .returned (.tuple #[dgA (takeD B now) A c, i64 0]) ∧ RdI w' A B.wait ∧ B.wait.length ≤ c ∧ BlM w' base bb mb (.slice none 0 0) (takeB B now))
set_option maxRecDepth 100000 in
set_option maxHeartbeats 8000000 in
theorem take_any (base bb mb : Nat) (v : Value) (B : Bs) (now : Int) (w : World) (h : BlM w base bb mb v B) (ht : Tab w) (hk : 0 ≤ B.taken ∧ B.taken ≤ 1000000) (hti : B.ti.length ≤ 1000000000) (hn : B.wait.length ≤ 1000000) (hx : ∀ x ∈ B.wait, x.fr.length ≤ 1000000000 ∧ x.su.length ≤ 1000000000 ∧ x.bo.length ≤ 1000000000) :
  Calls Tryz.prog 26 #[.pointer (some ⟨bb, 0, none⟩), i64 now] w fun e w' => TakeR w' base bb mb v B now e ∧ ButL (blR bb mb v) w w' := by
 have H := Lib.hid h
 have HM := Lib.hid (fun u => isMinute_any now u)
 have V := Lib.hid (show takeE B now = if minB now = false then 2 else if B.wait = [] then 10 else chkD (takeD B now) from rfl)
 have HTA := Lib.hid ht
 have HDI := Lib.hid (fun (u : World) (A : Option Addr) (c : Nat) (hr : RdI u A B.wait) (hc : B.wait.length ≤ c) (htu : Tab u) => (show DgIn u (takeD B now) A c from ⟨hr, hc, htu, Nat.le_trans hn (by omega), hti, hx⟩).check)
 obtain ⟨A, c, hv⟩ := own2_slice h.row
 have hrow : w.ownsRow base 59 36 (.slice A B.wait.length c) B.wait.length (B.wait.flatMap itL) := hv ▸ h.row
 have RD := Lib.hid (RdI.of_own hrow h.ky)
 have hwc := own2_le hrow
 clear h ht hti hx hrow
 go_enter Tryz.func26, Tryz.ntmps26
 go_upto_region 1 with fail
 have ZD := Lib.hid (blk_new w (.cells #[enS [], i64 0, i64 0, i64 0, .slice none 0 0] 32))
 have bz := below_new w (.cells #[enS [], i64 0, i64 0, i64 0, .slice none 0 0] 32)
 have BL := Lib.hid bz
 have H1 := Lib.hid (H.out.below bz)
 clear bz
 generalize hw1 : World.alloc w _ = w1 at *
 clear hw1
 go_wp2_with fail
 refine (HM.out _).mono ?_; rintro e w2 ⟨rfl, rfl⟩
 cases q1 : minB now with
 | false =>
  have VB : Hid (takeE B now = 2) := Lib.hid (by (show _ = _); rw [V.out, q1]; rfl)
  clear q1 V
  go_wp2_with (refine wpList_store_mid rfl 32 _ _ rfl w.heap.size 0 #[enS [], i64 0, i64 0, i64 0, .slice none 0 0] rfl rfl (there_at ZD.out (Nat.le_refl 5)) (by kernel_rfl) (one_dg [] 0 0 0 none 0 0) ?_)
  have ZS := dg_store ZD.out (enS []) (i64 0) (i64 0) (i64 0) (.slice none 0 0)
  have hb2 : But w.heap.size w1 (w1.setCells w.heap.size 0 dg0L) := but_setCells _ _ _
  have hload := run_loadVar_mid (P := Tryz.prog) _ w.heap.size 0 32 dg0L _ (range_blk (cs := dg0L) ZS) Tryz.underlying32 rfl (by kernel_rfl)
  have hbl := hb2.tail BL.out (Nat.le_refl _)
  exact bodyPost_ret (v := .tuple #[dg0, i64 2]) (results_cell2 (a := 4) (i := 5) rfl rfl hload rfl) rfl ⟨.inl ⟨by rw [VB.out]; decide, by rw [VB.out], H.out.below hbl⟩, ButL.of_below hbl⟩
 | true =>
 rw [q1, if_neg (show ¬ true = false by decide)] at V
 clear q1
 obtain ⟨c0, c1, c2, c3, c4, c5, c6, c7⟩ := H1.out.cells
 rw [hv] at c5
 by_cases h0 : B.wait = []
 ·have VB : Hid (takeE B now = 10) := Lib.hid (by (show _ = _); rw [V.out, if_pos h0])
  have hl0 : B.wait.length = 0 := by rw [h0]; rfl
  clear V h0
  go_wp2_with (refine wpList_store_mid rfl 32 _ _ rfl w.heap.size 0 #[enS [], i64 0, i64 0, i64 0, .slice none 0 0] rfl rfl (there_at ZD.out (Nat.le_refl 5)) (by kernel_rfl) (one_dg [] 0 0 0 none 0 0) ?_)
  have ZS := dg_store ZD.out (enS []) (i64 0) (i64 0) (i64 0) (.slice none 0 0)
  have hb2 : But w.heap.size w1 (w1.setCells w.heap.size 0 dg0L) := but_setCells _ _ _
  have hload := run_loadVar_mid (P := Tryz.prog) _ w.heap.size 0 32 dg0L _ (range_blk (cs := dg0L) ZS) Tryz.underlying32 rfl (by kernel_rfl)
  have hbl := hb2.tail BL.out (Nat.le_refl _)
  exact bodyPost_ret (v := .tuple #[dg0, i64 10]) (results_cell2 (a := 4) (i := 5) rfl rfl hload rfl) rfl ⟨.inl ⟨by rw [VB.out]; decide, by rw [VB.out], H.out.below hbl⟩, ButL.of_below hbl⟩
 rw [if_neg h0] at V
 have hl0 : ((B.wait.length : Int) == 0) = false := by simp; exact h0
 clear h0
 go_upto_region 7 with fail
 have hsz0 : w.heap.size < w1.heap.size := blk_lt ZD.out
 have HIS := Lib.hid (fun u (hb : Below w1.heap.size w1 u) => issue_any base bb mb v B u (H1.out.below hb) ⟨hk.1, Int.le_trans hk.2 (by omega)⟩)
 go_cut [6] (fun dp wx => ∃ pp, dp = .pointer (some ⟨pp, 0, none⟩) ∧ Hid (wx.heap[pp]? = some (.cells #[enS B.ti, i64 B.vo, i64 (B.taken + 1), i64 now, .slice A B.wait.length c] 32 (0, 0))) ∧ Hid (Below w1.heap.size w1 wx) ∧ Hid (w1.heap.size ≤ pp))
 case first =>
  refine Flow.wp_region_sched (fun u v => Below w1.heap.size u v) (fun _ => Below.refl _ _) (fun _ _ _ h k => h.trans k) (.fork [0, 1, 2, 3, 4, 5, 6, 7, 8, 10, 11, 12, 13, 14] 9 16 (.step [15] 16 (.step [] 17 (.done []))) (.step [] 9 (.step [15] 17 (.done [])))) (by kernel_rfl) (by kernel_rfl) ?_
  have cD : Below w1.heap.size w1 (World.drew w1) := Below.drew (Below.refl _ _)
  have e0 := cD.cellv c0
  have e1 := cD.cellv c1
  have e5 := cD.cellv c5
  clear c0 c1 c2 c3 c4 c5 c6 c7
  have CD := Lib.hid cD
  clear cD
  generalize World.drew _ = wd at *
  have l0 := World.block_lt_of_cell? wd _ e0
  have q0 : ∀ t : Flow.Cls (Below w1.heap.size wd), t.val.cell? ⟨bb, 0, none⟩ = some (enS B.ti) := fun t => (t.ok.cell H1.out.lt).trans e0
  have q1 : ∀ t : Flow.Cls (Below w1.heap.size wd), t.val.cell? ⟨bb, 1, none⟩ = some (i64 B.vo) := fun t => (t.ok.cell H1.out.lt).trans e1
  have q5 : ∀ t : Flow.Cls (Below w1.heap.size wd), t.val.cell? ⟨bb, 5, none⟩ = some (.slice A B.wait.length c) := fun t => (t.ok.cell H1.out.lt).trans e5
  haveI nonE : Nonempty (Flow.Cls (Below w1.heap.size wd)) := ⟨⟨wd, Below.refl _ _⟩⟩
  rw [Flow.wpSched_fork]
  simp only [Flow.pick, List.getElem?_toArray, List.getElem?_cons_succ, List.getElem?_cons_zero]
  repeat go_big_quiet_step (fail)
  refine wpQuiet_nil ?_
  clear nonE q0 q1 q5 e0 e1 e5 l0
  refine ⟨?_, ?_⟩
  ·rw [Flow.callAt_eq]
   simp only [List.getElem?_toArray, List.getElem?_cons_succ, List.getElem?_cons_zero]
   rw [if_pos (by rfl)]
   refine Flow.wp_behind (fun K hK => ?_)
   go_wp2_with fail
   refine (HIS.out wd CD.out).mono ?_; rintro e x1 ⟨rfl, rfl⟩
   refine hK.out _ _ ⟨Below.refl _ _, ?_⟩
   clear hK K
   haveI nonE : Nonempty (Flow.Cls (Below w1.heap.size wd)) := ⟨⟨wd, Below.refl _ _⟩⟩
   rw [Flow.wpSched_step]
   simp only [Flow.pick, List.getElem?_toArray, List.getElem?_cons_succ, List.getElem?_cons_zero]
   repeat go_big_quiet_step (fail)
   refine wpQuiet_nil ?_
   clear nonE
   rw [Flow.callAt_eq]
   simp only [List.getElem?_toArray, List.getElem?_cons_succ, List.getElem?_cons_zero]
   rw [if_pos (by rfl)]
   refine Flow.wp_behind (fun K hK => ?_)
   go_wp2_with fail
   have bn := below_new wd (.cells #[enS [], i64 0, i64 0, i64 0, .slice none 0 0] 32)
   have HPP : w1.heap.size ≤ wd.heap.size := CD.out.size
   refine hK.out _ _ ⟨bn.mono HPP, ?_⟩
   clear hK K
   have BN := Lib.hid (blk_new wd (.cells #[enS [], i64 0, i64 0, i64 0, .slice none 0 0] 32))
   have CN := Lib.hid (CD.out.trans (bn.mono HPP))
   clear bn
   obtain ⟨pp, hpp⟩ : ∃ q, wd.heap.size = q := ⟨_, rfl⟩
   rw [hpp] at BN HPP ⊢
   clear hpp
   generalize wd.alloc (.cells #[enS [], i64 0, i64 0, i64 0, .slice none 0 0] 32) = wa at *
   have HWA : w1.heap.size ≤ wa.heap.size := CN.out.size
   rw [Flow.wpSched_step]
   simp only [Flow.pick]
   refine wpQuiet_nil ?_
   rw [Flow.callAt_eq]
   simp only [List.getElem?_toArray, List.getElem?_cons_succ, List.getElem?_cons_zero, Act.put]
   rw [if_pos (by rfl)]
   refine Flow.wp_behind (fun K hK => ?_)
   refine wp_store_mid0 32 _ _ rfl rfl pp 0 #[enS B.ti, i64 B.vo, i64 (B.taken + 1), i64 now, .slice A B.wait.length c] rfl rfl (there_at BN.out (Nat.le_refl 5)) (by kernel_rfl) (one_dg _ _ _ _ _ _ _) ?_
   have hbt := but_setCells (b := pp) [enS B.ti, i64 B.vo, i64 (B.taken + 1), i64 now, .slice A B.wait.length c] 0 wa
   refine hK.out _ _ ⟨but_low hbt HPP HWA, ?_⟩
   clear hK K
   have DS := Lib.hid (dg_store BN.out (enS B.ti) (i64 B.vo) (i64 (B.taken + 1)) (i64 now) (.slice A B.wait.length c))
   have CS := Lib.hid (CN.out.trans (but_low hbt HPP HWA))
   clear hbt
   rw [Flow.wpSched_done]
   simp only [Flow.pick]
   refine wpQuiet_nil ?_
   generalize World.setCells wa pp 0 _ = wz at *
   go_wp2_with fail
   go_meet
   exact ⟨pp, rfl, DS, CS, Lib.hid HPP⟩
  ·rw [Flow.callAt_eq]
   simp only [List.getElem?_toArray, List.getElem?_cons_succ, List.getElem?_cons_zero]
   rw [if_pos (by rfl)]
   refine Flow.wp_behind (fun K hK => ?_)
   go_wp2_with fail
   have bn := below_new wd (.cells #[enS [], i64 0, i64 0, i64 0, .slice none 0 0] 32)
   have HPP : w1.heap.size ≤ wd.heap.size := CD.out.size
   refine hK.out _ _ ⟨bn.mono HPP, ?_⟩
   clear hK K
   have BN := Lib.hid (blk_new wd (.cells #[enS [], i64 0, i64 0, i64 0, .slice none 0 0] 32))
   have CN := Lib.hid (CD.out.trans (bn.mono HPP))
   clear bn
   obtain ⟨pp, hpp⟩ : ∃ q, wd.heap.size = q := ⟨_, rfl⟩
   rw [hpp] at BN HPP ⊢
   clear hpp
   generalize wd.alloc (.cells #[enS [], i64 0, i64 0, i64 0, .slice none 0 0] 32) = wa at *
   have HWA : w1.heap.size ≤ wa.heap.size := CN.out.size
   rw [Flow.wpSched_step]
   simp only [Flow.pick]
   refine wpQuiet_nil ?_
   rw [Flow.callAt_eq]
   simp only [List.getElem?_toArray, List.getElem?_cons_succ, List.getElem?_cons_zero, Act.put, List.setIfInBounds_toArray, List.set_cons_succ, List.set_cons_zero]
   rw [if_pos (by rfl)]
   refine Flow.wp_behind (fun K hK => ?_)
   go_wp2_with fail
   refine (HIS.out wa CN.out).mono ?_; rintro e x1 ⟨rfl, rfl⟩
   refine hK.out _ _ ⟨Below.refl _ _, ?_⟩
   clear hK K
   rw [Flow.wpSched_step]
   simp only [Flow.pick, List.getElem?_toArray, List.getElem?_cons_succ, List.getElem?_cons_zero]
   haveI nonE : Nonempty (Flow.Cls (Below w1.heap.size wa)) := ⟨⟨wa, Below.refl _ _⟩⟩
   repeat go_big_quiet_step (fail)
   refine wpQuiet_nil ?_
   clear nonE
   rw [Flow.callAt_eq]
   simp only [List.getElem?_toArray, List.getElem?_cons_succ, List.getElem?_cons_zero, Act.put]
   rw [if_pos (by rfl)]
   refine Flow.wp_behind (fun K hK => ?_)
   refine wp_store_mid0 32 _ _ rfl rfl pp 0 #[enS B.ti, i64 B.vo, i64 (B.taken + 1), i64 now, .slice A B.wait.length c] rfl rfl (there_at BN.out (Nat.le_refl 5)) (by kernel_rfl) (one_dg _ _ _ _ _ _ _) ?_
   have hbt := but_setCells (b := pp) [enS B.ti, i64 B.vo, i64 (B.taken + 1), i64 now, .slice A B.wait.length c] 0 wa
   refine hK.out _ _ ⟨but_low hbt HPP HWA, ?_⟩
   clear hK K
   have DS := Lib.hid (dg_store BN.out (enS B.ti) (i64 B.vo) (i64 (B.taken + 1)) (i64 now) (.slice A B.wait.length c))
   have CS := Lib.hid (CN.out.trans (but_low hbt HPP HWA))
   clear hbt
   rw [Flow.wpSched_done]
   simp only [Flow.pick]
   refine wpQuiet_nil ?_
   generalize World.setCells wa pp 0 _ = wz at *
   go_wp2_with fail
   go_meet
   exact ⟨pp, rfl, DS, CS, Lib.hid HPP⟩
 obtain ⟨pp, rfl, DS, CS, HPS⟩ := hcut
 clear HIS c0 c1 c2 c3 c4 c5 c6 c7
 have RG := Lib.hid (range_blk (cs := [enS B.ti, i64 B.vo, i64 (B.taken + 1), i64 now, .slice A B.wait.length c]) DS.out)
 have BX : Hid (Below w.heap.size w wc) := Lib.hid (BL.out.trans (CS.out.mono (Nat.le_of_lt hsz0)))
 have HX := Lib.hid (H1.out.below CS.out)
 have ZX := Lib.hid (blk_below CS.out ZD.out)
 have RX := Lib.hid (RD.out.below BX.out)
 clear CS ZD H1 BL RD
 go_wp2_with (refine wpList_load_mid rfl 32 _ rfl pp 0 rfl [enS B.ti, i64 B.vo, i64 (B.taken + 1), i64 now, .slice A B.wait.length c] _ RG.out Tryz.underlying32 rfl (by kernel_rfl) ?_)
 refine (HDI.out wc A c RX.out hwc (HTA.out.below BX.out)).mono ?_; rintro e w3 ⟨rfl, b3⟩
 have B3 := Lib.hid (BX.out.tr b3)
 have H3 := Lib.hid (HX.out.below b3)
 have Z3 := Lib.hid (blk_below b3 ZX.out)
 have D3 := Lib.hid (blk_below b3 DS.out)
 have HL3 : w.heap.size < pp := Nat.lt_of_lt_of_le hsz0 HPS.out
 clear b3 BX HX ZX DS RG RX HTA HDI HPS
 obtain ⟨ec, hec⟩ : ∃ q, chkD (takeD B now) = q := ⟨_, rfl⟩
 rw [hec] at V ⊢
 clear hec
 by_cases he : ec = 0
 case neg =>
  have hq : (ec != 0) = true := by simpa using he
  have hq2 : (ec == 0) = false := by simpa using he
  have HE := Lib.hid he
  clear he
  go_wp2_with (refine wpList_store_mid rfl 32 _ _ rfl w.heap.size 0 #[enS [], i64 0, i64 0, i64 0, .slice none 0 0] rfl rfl (there_at Z3.out (Nat.le_refl 5)) (by kernel_rfl) (one_dg [] 0 0 0 none 0 0) ?_)
  have ZS := dg_store Z3.out (enS []) (i64 0) (i64 0) (i64 0) (.slice none 0 0)
  have hb2 : But w.heap.size w3 (w3.setCells w.heap.size 0 dg0L) := but_setCells _ _ _
  have hload := run_loadVar_mid (P := Tryz.prog) _ w.heap.size 0 32 dg0L _ (range_blk (cs := dg0L) ZS) Tryz.underlying32 rfl (by kernel_rfl)
  have hbl := hb2.tail B3.out (Nat.le_refl _)
  exact bodyPost_ret (v := .tuple #[dg0, i64 ec]) (results_cell2 (a := 4) (i := 5) rfl rfl hload rfl) rfl ⟨.inl ⟨by rw [V.out]; exact HE.out, by rw [V.out], H.out.below hbl⟩, ButL.of_below hbl⟩
 subst he
 have VT := Lib.hid (takeB_yes V.out)
 have c5 : w3.cell? ⟨bb, 5, none⟩ = some (.slice A B.wait.length c) := hv ▸ H3.out.cells.2.2.2.2.2.1
 have f5 := blk_free H3.out.blk 5
 go_upto_region 12 with fail
 have H4 : Hid (BlM (w3.setCell ⟨bb, 5, none⟩ (.slice none 0 0)) base bb mb (.slice none 0 0) ⟨B.ti, B.vo, B.cap, B.mins, B.taken, [], B.first, B.added⟩) := Lib.hid ⟨blk_set H3.out.blk 5 (.slice none 0 0), own2_nil _ _ _ _, H3.out.set.keep (Below.heap_setCell _ _ _ _ H.out.ne_bm.symm), by simp, H.out.lb, H.out.lm⟩
 have RW4 := Lib.hid (row_keep (w' := w3.setCell ⟨bb, 5, none⟩ (.slice none 0 0)) H3.out.row (fun g hg => Below.heap_setCell _ _ _ _ (fun e => (H3.out.ne_bg hg).1 e.symm)))
 have R4 : Hid (ButL (blR bb mb v) w (w3.setCell ⟨bb, 5, none⟩ (.slice none 0 0))) := Lib.hid ((ButL.of_below B3.out).trans (ButL.setCell _ _ _ (by simp [blR])))
 have hbb : bb < w.heap.size := H.out.lt
 have Z4 : Hid ((w3.setCell ⟨bb, 5, none⟩ (.slice none 0 0)).heap[w.heap.size]? = some (.cells #[enS [], i64 0, i64 0, i64 0, .slice none 0 0] 32 (0, 0))) := Lib.hid ((Below.heap_setCell _ _ _ _ (by show w.heap.size ≠ bb; omega)).trans Z3.out)
 have D4 : Hid ((w3.setCell ⟨bb, 5, none⟩ (.slice none 0 0)).heap[pp]? = some (.cells #[enS B.ti, i64 B.vo, i64 (B.taken + 1), i64 now, .slice A B.wait.length c] 32 (0, 0))) := Lib.hid ((Below.heap_setCell _ _ _ _ (by show pp ≠ bb; omega)).trans D3.out)
 clear c5 f5 H3 Z3 D3 B3
 generalize w3.setCell ⟨bb, 5, none⟩ (.slice none 0 0) = w4 at *
 have c4 : w4.cell? ⟨bb, 4, none⟩ = some (i64 B.taken) := H4.out.cells.2.2.2.2.1
 have f4 := blk_free H4.out.blk 4
 go_upto_region 13 with fail
 have H5 : Hid (BlM (w4.setCell ⟨bb, 4, none⟩ (i64 (B.taken + 1))) base bb mb (.slice none 0 0) ⟨B.ti, B.vo, B.cap, B.mins, B.taken + 1, [], B.first, B.added⟩) := Lib.hid ⟨blk_set H4.out.blk 4 (i64 (B.taken + 1)), own2_nil _ _ _ _, H4.out.set.keep (Below.heap_setCell _ _ _ _ H.out.ne_bm.symm), by simp, H.out.lb, H.out.lm⟩
 have RW5 := Lib.hid (row_keep (w' := w4.setCell ⟨bb, 4, none⟩ (i64 (B.taken + 1))) RW4.out (fun g hg => Below.heap_setCell _ _ _ _ (fun e => (H.out.ne_bg hg).1 e.symm)))
 have R5 : Hid (ButL (blR bb mb v) w (w4.setCell ⟨bb, 4, none⟩ (i64 (B.taken + 1)))) := Lib.hid (R4.out.trans (ButL.setCell _ _ _ (by simp [blR])))
 have Z5 : Hid ((w4.setCell ⟨bb, 4, none⟩ (i64 (B.taken + 1))).heap[w.heap.size]? = some (.cells #[enS [], i64 0, i64 0, i64 0, .slice none 0 0] 32 (0, 0))) := Lib.hid ((Below.heap_setCell _ _ _ _ (by show w.heap.size ≠ bb; omega)).trans Z4.out)
 have D5 : Hid ((w4.setCell ⟨bb, 4, none⟩ (i64 (B.taken + 1))).heap[pp]? = some (.cells #[enS B.ti, i64 B.vo, i64 (B.taken + 1), i64 now, .slice A B.wait.length c] 32 (0, 0))) := Lib.hid ((Below.heap_setCell _ _ _ _ (by show pp ≠ bb; omega)).trans D4.out)
 clear c4 f4 H4 RW4 R4 Z4 D4
 generalize w4.setCell ⟨bb, 4, none⟩ (i64 (B.taken + 1)) = w5 at *
 have RG5 := Lib.hid (range_blk (cs := [enS B.ti, i64 B.vo, i64 (B.taken + 1), i64 now, .slice A B.wait.length c]) D5.out)
 go_wp2_with (first | refine wpList_load_mid rfl 32 _ rfl pp 0 rfl [enS B.ti, i64 B.vo, i64 (B.taken + 1), i64 now, .slice A B.wait.length c] _ RG5.out Tryz.underlying32 rfl (by kernel_rfl) ?_ | refine wpList_store_mid rfl 32 _ _ rfl w.heap.size 0 #[enS B.ti, i64 B.vo, i64 (B.taken + 1), i64 now, .slice A B.wait.length c] rfl rfl (there_at Z5.out (Nat.le_refl 5)) (by kernel_rfl) (one_dg _ _ _ _ _ _ _) ?_)
 have ZS := dg_store Z5.out (enS B.ti) (i64 B.vo) (i64 (B.taken + 1)) (i64 now) (.slice A B.wait.length c)
 have hb2 : But w.heap.size w5 (w5.setCells w.heap.size 0 [enS B.ti, i64 B.vo, i64 (B.taken + 1), i64 now, .slice A B.wait.length c]) := but_setCells _ _ _
 have hload := run_loadVar_mid (P := Tryz.prog) _ w.heap.size 0 32 [enS B.ti, i64 B.vo, i64 (B.taken + 1), i64 now, .slice A B.wait.length c] _ (range_blk (cs := [enS B.ti, i64 B.vo, i64 (B.taken + 1), i64 now, .slice A B.wait.length c]) ZS) Tryz.underlying32 rfl (by kernel_rfl)
 have hlts := H.out.lts
 have hsz5 := R5.out.size
 have hk5 : ∀ k ∈ blR bb mb v, (w5.setCells w.heap.size 0 [enS B.ti, i64 B.vo, i64 (B.taken + 1), i64 now, .slice A B.wait.length c]).heap[k]? = w5.heap[k]? := fun k hk => hb2.block k (Nat.lt_of_lt_of_le (hlts k hk) hsz5) (Nat.ne_of_lt (hlts k hk))
 have hrow5 := row_keep (w' := w5.setCells w.heap.size 0 [enS B.ti, i64 B.vo, i64 (B.taken + 1), i64 now, .slice A B.wait.length c]) RW5.out (fun g hg => hk5 g (by simp [blR, hg]))
 rw [hv] at hrow5
 exact bodyPost_ret (v := .tuple #[dgA (takeD B now) A c, i64 0]) (results_cell2 (a := 4) (i := 5) rfl rfl hload rfl) rfl ⟨.inr ⟨V.out, A, c, hv, rfl, RdI.of_own hrow5 H.out.ky, hwc, by
  rw [VT.out]
  exact H5.out.keep fun k hk => hk5 k (by simp only [blR, List.mem_cons, Option.mem_toList, Value.ownBlock] at hk ⊢; rcases hk with h | h | h <;> simp_all)⟩, ⟨hb2.os.trans R5.out.os, hb2.tape.trans R5.out.tape, hb2.output.trans R5.out.output, Nat.le_trans hsz5 hb2.size, fun k hk hn => (hb2.block k (Nat.lt_of_lt_of_le hk hsz5) (Nat.ne_of_lt hk)).trans (R5.out.block k hk hn)⟩⟩
/-! ### rows of equal cells -/
theorem flatG_len {α : Type} (enc : α → List Value) {k : Nat} (hk : ∀ x, (enc x).length = k) : ∀ l : List α, (l.flatMap enc).length = l.length * k
 | [] => by simp
 | x :: l => by rw [List.flatMap_cons, List.length_append, hk, flatG_len enc hk l, List.length_cons, Nat.succ_mul]; omega
theorem flatG_inv {α : Type} (enc : α → List Value) {k : Nat} (hk : ∀ x, (enc x).length = k) (h0 : 0 < k) : ∀ {l : List α} {j : Nat} {v : Value}, (l.flatMap enc)[j]? = some v → ∃ x, l[j / k]? = some x ∧ (enc x)[j % k]? = some v
 | [], j, v, h => by simp at h
 | y :: l, j, v, h => by
  rw [List.flatMap_cons] at h
  rcases Nat.lt_or_ge j k with hj | hj
  ·rw [List.getElem?_append_left (by rw [hk]; exact hj)] at h
   exact ⟨y, by rw [Nat.div_eq_of_lt hj]; rfl, by rw [Nat.mod_eq_of_lt hj]; exact h⟩
  ·rw [List.getElem?_append_right (by rw [hk]; exact hj), hk] at h
   obtain ⟨x, h1, h2⟩ := flatG_inv enc hk h0 h
   obtain ⟨i, rfl⟩ : ∃ i, j = i + k := ⟨j - k, by omega⟩
   rw [Nat.add_sub_cancel] at h1 h2
   refine ⟨x, ?_, ?_⟩
   ·rw [Nat.add_div_right i h0, List.getElem?_cons_succ]; exact h1
   ·rw [Nat.add_mod_right]; exact h2
theorem flatG_at {α : Type} (enc : α → List Value) {k : Nat} (hk : ∀ x, (enc x).length = k) : ∀ {l : List α} {j : Nat} {x : α} {t : Nat} {v : Value}, l[j]? = some x → (enc x)[t]? = some v → (l.flatMap enc)[j * k + t]? = some v
 | [], _, _, _, _, h, _ => by simp at h
 | a :: l, 0, x, t, v, h, hv => by
  obtain rfl : a = x := by simpa using h
  rw [Nat.zero_mul, Nat.zero_add, List.flatMap_cons, List.getElem?_append_left (List.getElem?_eq_some_iff.1 hv).1]; exact hv
 | a :: l, j + 1, x, t, v, h, hv => by
  rw [List.flatMap_cons, List.getElem?_append_right (by rw [hk, Nat.succ_mul]; omega), hk, show (j + 1) * k + t - k = j * k + t from by have : (j + 1) * k = j * k + k := Nat.succ_mul j k; omega]
  exact flatG_at enc hk (by simpa using h) hv
theorem RdI.cells {w : World} {A : Option Addr} {its : List It} (h : RdI w A its) : RdC w A (its.flatMap itL) := fun hl => by
 obtain ⟨b, o, e, _, hc⟩ := h.rd (by rw [flatG_len itL itL_length] at hl; omega)
 refine ⟨b, o, e, fun j u hj => ?_⟩
 obtain ⟨m, h1, h2⟩ := flatG_inv itL itL_length (by decide) hj
 have := hc _ _ h1 _ _ h2
 rwa [show o + j / 36 * 36 + j % 36 = o + j by omega] at this
/-! ### identities in a row -/
structure RdK (w : World) (A : Option Addr) (ks : List (List UInt8)) : Prop where
 rd : 0 < ks.length → ∃ b o, A = some ⟨b, o, none⟩ ∧ b < w.heap.size ∧ ∀ j k, ks[j]? = some k → w.rangeAt b (o + j * 32) (idL k)
 ky : ∀ k ∈ ks, k.length = 32
theorem RdK.below {w w' : World} {A : Option Addr} {ks : List (List UInt8)} (h : RdK w A ks) (hb : Below w.heap.size w w') : RdK w' A ks :=
 ⟨fun hp => by
  obtain ⟨b, o, e, hlt, hc⟩ := h.rd hp
  exact ⟨b, o, e, Nat.lt_of_lt_of_le hlt hb.size, fun j x hj => range_below (hc j x hj) hb⟩, h.ky⟩
theorem RdK.at_ {w : World} {A : Option Addr} {ks : List (List UInt8)} {j : Nat} (h : RdK w A ks) (hj : j < ks.length) : ∃ b o k, A = some ⟨b, o, none⟩ ∧ b < w.heap.size ∧ ks[j]? = some k ∧ w.rangeAt b (o + j * 32) (idL k) ∧ k.length = 32 := by
 obtain ⟨b, o, e, hlt, hc⟩ := h.rd (by omega)
 exact ⟨b, o, ks[j], e, hlt, List.getElem?_eq_getElem hj, hc j _ (List.getElem?_eq_getElem hj), h.ky _ (List.getElem_mem hj)⟩
theorem RdK.nil {w : World} {A : Option Addr} : RdK w A [] := ⟨fun h => absurd h (by simp), by simp⟩
theorem RdK.cells {w : World} {A : Option Addr} {ks : List (List UInt8)} (h : RdK w A ks) : RdC w A (ks.flatMap idL) := fun hl => by
 obtain ⟨b, o, e, _, hc⟩ := h.rd (by rw [flatG_len idL idL_length] at hl; omega)
 refine ⟨b, o, e, fun j u hj => ?_⟩
 obtain ⟨m, h1, h2⟩ := flatG_inv idL idL_length (by decide) hj
 have := hc _ _ h1 _ _ h2
 rwa [show o + j / 32 * 32 + j % 32 = o + j by omega] at this
theorem RdK.of_own {w : World} {base n c : Nat} {t : TypeId} {A : Option Addr} {ks : List (List UInt8)} (h : w.ownsRow base t 32 (.slice A n c) n (ks.flatMap idL)) (hk : ∀ k ∈ ks, k.length = 32) : RdK w A ks := by
 refine ⟨fun hp => ?_, hk⟩
 rcases h.2 with ⟨_, h0⟩ | ⟨g, cap, cur, e, _, hg, _, _, _, ht⟩
 ·have := h.1
  rw [flatG_len idL idL_length, h0] at this
  omega
 ·cases e
  refine ⟨g, 0, rfl, blk_lt hg, fun j x hj i v hv => ?_⟩
  have e1 := flatG_at idL idL_length hj hv
  rw [← ht, List.getElem?_take] at e1
  rw [blk_cell hg]
  split at e1
  ·rw [Nat.zero_add, ← Array.getElem?_toList]; exact e1
  ·cases e1
/-! ### the reference's builder -/
abbrev bfL (B : Bs) (A : Option Addr) (c : Nat) (A2 : Option Addr) (c2 : Nat) : List Value := [enS B.ti, i64 B.vo, i64 B.cap, i64 B.mins, i64 (B.taken + 1), .slice A B.wait.length c, i64 B.first, .slice A2 B.added.length c2]
abbrev bfA (B : Bs) (A : Option Addr) (c : Nat) (A2 : Option Addr) (c2 : Nat) : Value := .agg #[enS B.ti, i64 B.vo, i64 B.cap, i64 B.mins, i64 (B.taken + 1), .slice A B.wait.length c, i64 B.first, .slice A2 B.added.length c2]
abbrev bf0 : Value := .agg #[enS [], i64 0, i64 0, i64 0, i64 0, .slice none 0 0, i64 0, .slice none 0 0]
/-- A row's block is one of cells of this type. -/
def TyR (w : World) (A : Option Addr) (t : TypeId) : Prop := ∀ p, A = some p → ∃ cur, w.heap[p.block]? = some (.cells cur t (0, 0))
theorem TyR.none {w : World} {t : TypeId} : TyR w none t := fun _ h => by cases h
theorem TyR.below {w w' : World} {A : Option Addr} {t : TypeId} (h : TyR w A t) (hb : Below w.heap.size w w') : TyR w' A t := fun p hp => by
 obtain ⟨cur, e⟩ := h p hp
 exact ⟨cur, blk_below hb e⟩
theorem TyR.of_own {w : World} {base n c size : Nat} {e : TypeId} {A : Option Addr} {xs : List Value} (h : w.ownsRow base e size (.slice A n c) n xs) : TyR w A e := fun p hp => by
 rcases h.2 with ⟨e1, _⟩ | ⟨g, cap, cur, e1, _, h2, _⟩
 ·cases e1; cases hp
 ·cases e1; cases hp; exact ⟨cur, h2⟩
structure BfM (w : World) (B : Bs) (A : Option Addr) (c : Nat) (A2 : Option Addr) (c2 : Nat) : Prop where
 rd : RdI w A B.wait
 cap : B.wait.length ≤ c
 rk : RdK w A2 B.added
 capk : B.added.length ≤ c2
 tw : TyR w A 53
 tk : TyR w A2 51
theorem BfM.below {w w' : World} {B : Bs} {A A2 : Option Addr} {c c2 : Nat} (h : BfM w B A c A2 c2) (hb : Below w.heap.size w w') : BfM w' B A c A2 c2 := ⟨h.rd.below hb, h.cap, h.rk.below hb, h.capk, h.tw.below hb, h.tk.below hb⟩
theorem bf_store {w : World} {db : Nat} {t : TypeId} {a b c d e f g h : Value} (hb : w.heap[db]? = some (.cells #[a, b, c, d, e, f, g, h] t (0, 0))) (a' b' c' d' e' f' g' h' : Value) : (w.setCells db 0 [a', b', c', d', e', f', g', h']).heap[db]? = some (.cells #[a', b', c', d', e', f', g', h'] t (0, 0)) := by
 rw [blk_setCells _ _ _ _ hb]
 simp only [putL, List.setIfInBounds_toArray, List.set_cons_succ, List.set_cons_zero, Nat.zero_add, Nat.reduceAdd]
theorem one_bf (ti : List UInt8) (vo cap mi is fi : Int) (A : Option Addr) (n c : Nat) (A2 : Option Addr) (n2 c2 : Nat) : (#[enS ti, i64 vo, i64 cap, i64 mi, i64 is, .slice A n c, i64 fi, .slice A2 n2 c2] : Array Value).all (·.oneCell') = true := by simp [Value.oneCell']
theorem built_bf (ti : List UInt8) (vo it mi : Int) : Tryz.prog.built 73 [(0, enS ti), (1, i64 vo), (2, i64 it), (3, i64 mi), (4, i64 1)] = some #[enS ti, i64 vo, i64 it, i64 mi, i64 1, .slice none 0 0, i64 0, .slice none 0 0] := by kernel_rfl
theorem wpList_build_bf {ops : Array Oper} {rest : List Oper} {o : Oper} {a : Act} {w : World} {Q : Exit → Act → World → Prop} (hg : o.guard = none) (X0 X1 X2 X3 X4 : Operand) (ho : o.op = .build 73 #[(0, X0), (1, X1), (2, X2), (3, X3), (4, X4)]) (ti : List UInt8) (vo it mi : Int)
  (h0 : a.eval X0 = enS ti) (h1 : a.eval X1 = i64 vo) (h2 : a.eval X2 = i64 it) (h3 : a.eval X3 = i64 mi) (h4 : a.eval X4 = i64 1)
  (h : wpList Tryz.prog ops Q rest (a.put o.dst (.agg #[enS ti, i64 vo, i64 it, i64 mi, i64 1, .slice none 0 0, i64 0, .slice none 0 0])) w) : wpList Tryz.prog ops Q (o :: rest) a w :=
 wpList_plain hg fun K hK => by
  unfold Oper.wp execOp
  simp only [ho, Sem.run_bind, run_build w 73 #[(0, enS ti), (1, i64 vo), (2, i64 it), (3, i64 mi), (4, i64 1)] _ (built_bf ti vo it mi), List.map_toArray, List.map_cons, List.map_nil, h0, h1, h2, h3, h4, Result.andThen_ok]
  exact hK _ _ h
set_option maxRecDepth 100000 in
set_option maxHeartbeats 4000000 in
theorem newR_ref (ti : List UInt8) (vo it mi : Int) (w : World) (hti : ti.length ≤ 1000000000) :
  Calls Tryz.prog 31 #[enS ti, i64 vo, i64 it, i64 mi] w fun e w' => ((newE ti vo it mi = 0 ∧ e = .returned (.tuple #[bfA ⟨ti, vo, it, mi, 0, [], 0, []⟩ none 0 none 0, i64 0])) ∨ (newE ti vo it mi ≠ 0 ∧ e = .returned (.tuple #[bf0, i64 (newE ti vo it mi)]))) ∧ Below w.heap.size w w' := by
 have H1 := Lib.hid (fun u => sized_ref ti 1 100 u hti)
 rw [sized_title] at H1
 have H2 : Hid (∀ u, Calls Tryz.prog 67 #[i64 vo, i64 1, i64 1000000] u fun e w' => e = .returned (.bool (ordB vo)) ∧ u = w') := Lib.hid (fun u => within_ref vo 1 1000000 u)
 have H3 := Lib.hid (fun u => within_ref it 1 200 u)
 have H4 := Lib.hid (fun u => within_ref mi 1 100000 u)
 have V := Lib.hid (show newE ti vo it mi = if titleB ti = false then 12 else if ordB vo = false ∨ (it < 1 ∨ 200 < it) ∨ (mi < 1 ∨ 100000 < mi) then 2 else 0 from rfl)
 have BD := Lib.hid (blk_new w (.cells #[enS [], i64 0, i64 0, i64 0, i64 0, .slice none 0 0, i64 0, .slice none 0 0] 73))
 have B1 := Lib.hid (below_new w (.cells #[enS [], i64 0, i64 0, i64 0, i64 0, .slice none 0 0, i64 0, .slice none 0 0] 73))
 clear hti
 go_enter Tryz.func31, Tryz.ntmps31
 go_wp2_with fail
 refine (H1.out _).mono ?_; rintro e w2 ⟨rfl, rfl⟩
 cases q1 : titleB ti with
 | false =>
  have VB : Hid (newE ti vo it mi = 12) := Lib.hid (by (show _ = _); rw [V.out, q1]; rfl)
  clear q1 V H2 H3 H4
  go_wp2_with (refine wpList_store_mid rfl 73 _ _ rfl w.heap.size 0 #[enS [], i64 0, i64 0, i64 0, i64 0, .slice none 0 0, i64 0, .slice none 0 0] rfl rfl (there_at BD.out (Nat.le_refl 8)) (by kernel_rfl) (one_bf [] 0 0 0 0 0 none 0 0 none 0 0) ?_)
  have hload := run_loadVar_mid (P := Tryz.prog) _ w.heap.size 0 73 [enS [], i64 0, i64 0, i64 0, i64 0, .slice none 0 0, i64 0, .slice none 0 0] _ (range_blk (cs := [enS [], i64 0, i64 0, i64 0, i64 0, .slice none 0 0, i64 0, .slice none 0 0]) (bf_store BD.out _ _ _ _ _ _ _ _)) Tryz.underlying73 rfl (by kernel_rfl)
  have hbl := (but_setCells (b := w.heap.size) [enS [], i64 0, i64 0, i64 0, i64 0, .slice none 0 0, i64 0, .slice none 0 0] 0 (w.alloc (.cells #[enS [], i64 0, i64 0, i64 0, i64 0, .slice none 0 0, i64 0, .slice none 0 0] 73))).tail B1.out (Nat.le_refl _)
  exact bodyPost_ret (v := .tuple #[bf0, i64 12]) (results_cell2 (a := 8) (i := 9) rfl rfl hload rfl) rfl ⟨.inr ⟨by rw [VB.out]; decide, by rw [VB.out]⟩, hbl⟩
 | true =>
 rw [q1, if_neg (show ¬ true = false by decide)] at V
 clear q1 H1
 go_wp2_with fail
 refine (H2.out _).mono ?_; rintro e w2 ⟨rfl, rfl⟩
 by_cases hb : ordB vo = false ∨ (it < 1 ∨ 200 < it) ∨ (mi < 1 ∨ 100000 < mi)
 ·have VB : Hid (newE ti vo it mi = 2) := Lib.hid (by (show _ = _); rw [V.out, if_pos hb])
  clear V H2
  cases q2 : ordB vo with
  | false =>
   clear hb q2
   go_wp2_with (refine wpList_store_mid rfl 73 _ _ rfl w.heap.size 0 #[enS [], i64 0, i64 0, i64 0, i64 0, .slice none 0 0, i64 0, .slice none 0 0] rfl rfl (there_at BD.out (Nat.le_refl 8)) (by kernel_rfl) (one_bf [] 0 0 0 0 0 none 0 0 none 0 0) ?_)
   have hload := run_loadVar_mid (P := Tryz.prog) _ w.heap.size 0 73 [enS [], i64 0, i64 0, i64 0, i64 0, .slice none 0 0, i64 0, .slice none 0 0] _ (range_blk (cs := [enS [], i64 0, i64 0, i64 0, i64 0, .slice none 0 0, i64 0, .slice none 0 0]) (bf_store BD.out _ _ _ _ _ _ _ _)) Tryz.underlying73 rfl (by kernel_rfl)
   have hbl := (but_setCells (b := w.heap.size) [enS [], i64 0, i64 0, i64 0, i64 0, .slice none 0 0, i64 0, .slice none 0 0] 0 (w.alloc (.cells #[enS [], i64 0, i64 0, i64 0, i64 0, .slice none 0 0, i64 0, .slice none 0 0] 73))).tail B1.out (Nat.le_refl _)
   exact bodyPost_ret (v := .tuple #[bf0, i64 2]) (results_cell2 (a := 8) (i := 9) rfl rfl hload rfl) rfl ⟨.inr ⟨by rw [VB.out]; decide, by rw [VB.out]⟩, hbl⟩
  | true =>
   rw [q2] at hb
   clear q2
   have hb2 : (it < 1 ∨ 200 < it) ∨ (mi < 1 ∨ 100000 < mi) := by
    rcases hb with hb | hb
    ·cases hb
    ·exact hb
   clear hb
   go_wp2_with fail
   refine (H3.out _).mono ?_; rintro e w2 ⟨rfl, rfl⟩
   clear H3
   by_cases g1 : it < 1 ∨ 200 < it
   ·have e1 : (decide (1 ≤ it) && decide (it ≤ 200)) = false := by
     rw [Bool.and_eq_false_iff]
     simp only [decide_eq_false_iff_not]
     omega
    rw [e1]
    clear hb2 g1 e1
    go_wp2_with (refine wpList_store_mid rfl 73 _ _ rfl w.heap.size 0 #[enS [], i64 0, i64 0, i64 0, i64 0, .slice none 0 0, i64 0, .slice none 0 0] rfl rfl (there_at BD.out (Nat.le_refl 8)) (by kernel_rfl) (one_bf [] 0 0 0 0 0 none 0 0 none 0 0) ?_)
    have hload := run_loadVar_mid (P := Tryz.prog) _ w.heap.size 0 73 [enS [], i64 0, i64 0, i64 0, i64 0, .slice none 0 0, i64 0, .slice none 0 0] _ (range_blk (cs := [enS [], i64 0, i64 0, i64 0, i64 0, .slice none 0 0, i64 0, .slice none 0 0]) (bf_store BD.out _ _ _ _ _ _ _ _)) Tryz.underlying73 rfl (by kernel_rfl)
    have hbl := (but_setCells (b := w.heap.size) [enS [], i64 0, i64 0, i64 0, i64 0, .slice none 0 0, i64 0, .slice none 0 0] 0 (w.alloc (.cells #[enS [], i64 0, i64 0, i64 0, i64 0, .slice none 0 0, i64 0, .slice none 0 0] 73))).tail B1.out (Nat.le_refl _)
    exact bodyPost_ret (v := .tuple #[bf0, i64 2]) (results_cell2 (a := 8) (i := 9) rfl rfl hload rfl) rfl ⟨.inr ⟨by rw [VB.out]; decide, by rw [VB.out]⟩, hbl⟩
   ·have e1 : (decide (1 ≤ it) && decide (it ≤ 200)) = true := by
     rw [Bool.and_eq_true]
     simp only [decide_eq_true_eq]
     omega
    rw [e1]
    have e2 : (decide (1 ≤ mi) && decide (mi ≤ 100000)) = false := by
     rw [Bool.and_eq_false_iff]
     simp only [decide_eq_false_iff_not]
     omega
    have E2 := Lib.hid e2
    clear hb2 g1 e1 e2
    go_wp2_with fail
    refine (H4.out _).mono ?_; rintro e w2 ⟨rfl, rfl⟩
    rw [E2.out]
    clear E2 H4
    go_wp2_with (refine wpList_store_mid rfl 73 _ _ rfl w.heap.size 0 #[enS [], i64 0, i64 0, i64 0, i64 0, .slice none 0 0, i64 0, .slice none 0 0] rfl rfl (there_at BD.out (Nat.le_refl 8)) (by kernel_rfl) (one_bf [] 0 0 0 0 0 none 0 0 none 0 0) ?_)
    have hload := run_loadVar_mid (P := Tryz.prog) _ w.heap.size 0 73 [enS [], i64 0, i64 0, i64 0, i64 0, .slice none 0 0, i64 0, .slice none 0 0] _ (range_blk (cs := [enS [], i64 0, i64 0, i64 0, i64 0, .slice none 0 0, i64 0, .slice none 0 0]) (bf_store BD.out _ _ _ _ _ _ _ _)) Tryz.underlying73 rfl (by kernel_rfl)
    have hbl := (but_setCells (b := w.heap.size) [enS [], i64 0, i64 0, i64 0, i64 0, .slice none 0 0, i64 0, .slice none 0 0] 0 (w.alloc (.cells #[enS [], i64 0, i64 0, i64 0, i64 0, .slice none 0 0, i64 0, .slice none 0 0] 73))).tail B1.out (Nat.le_refl _)
    exact bodyPost_ret (v := .tuple #[bf0, i64 2]) (results_cell2 (a := 8) (i := 9) rfl rfl hload rfl) rfl ⟨.inr ⟨by rw [VB.out]; decide, by rw [VB.out]⟩, hbl⟩
 ·have VB : Hid (newE ti vo it mi = 0) := Lib.hid (by (show _ = _); rw [V.out, if_neg hb])
  clear V H2
  have q2 : ordB vo = true := by
   cases h : ordB vo with
   | true => rfl
   | false => exact absurd (.inl h) hb
  rw [q2]
  have e1 : (decide (1 ≤ it) && decide (it ≤ 200)) = true := by
   rw [Bool.and_eq_true]
   simp only [decide_eq_true_eq]
   exact ⟨Int.not_lt.1 fun h => hb (.inr (.inl (.inl h))), Int.not_lt.1 fun h => hb (.inr (.inl (.inr h)))⟩
  have e2 : (decide (1 ≤ mi) && decide (mi ≤ 100000)) = true := by
   rw [Bool.and_eq_true]
   simp only [decide_eq_true_eq]
   exact ⟨Int.not_lt.1 fun h => hb (.inr (.inr (.inl h))), Int.not_lt.1 fun h => hb (.inr (.inr (.inr h)))⟩
  have E1 := Lib.hid e1
  have E2 := Lib.hid e2
  clear hb q2 e1 e2
  go_wp2_with fail
  refine (H3.out _).mono ?_; rintro e w2 ⟨rfl, rfl⟩
  rw [E1.out]
  go_wp2_with fail
  refine (H4.out _).mono ?_; rintro e w2 ⟨rfl, rfl⟩
  rw [E2.out]
  clear E1 E2 H3 H4
  go_wp2_with (first | (refine wpList_build_bf rfl _ _ _ _ _ rfl ti vo it mi rfl rfl rfl rfl rfl ?_) | (refine wpList_store_mid rfl 73 _ _ rfl w.heap.size 0 #[enS ti, i64 vo, i64 it, i64 mi, i64 1, .slice none 0 0, i64 0, .slice none 0 0] rfl rfl (there_at BD.out (Nat.le_refl 8)) (by kernel_rfl) (one_bf ti vo it mi 1 0 none 0 0 none 0 0) ?_))
  have hload := run_loadVar_mid (P := Tryz.prog) _ w.heap.size 0 73 [enS ti, i64 vo, i64 it, i64 mi, i64 1, .slice none 0 0, i64 0, .slice none 0 0] _ (range_blk (cs := [enS ti, i64 vo, i64 it, i64 mi, i64 1, .slice none 0 0, i64 0, .slice none 0 0]) (bf_store BD.out _ _ _ _ _ _ _ _)) Tryz.underlying73 rfl (by kernel_rfl)
  have hbl := (but_setCells (b := w.heap.size) [enS ti, i64 vo, i64 it, i64 mi, i64 1, .slice none 0 0, i64 0, .slice none 0 0] 0 (w.alloc (.cells #[enS [], i64 0, i64 0, i64 0, i64 0, .slice none 0 0, i64 0, .slice none 0 0] 73))).tail B1.out (Nat.le_refl _)
  exact bodyPost_ret (v := .tuple #[bfA ⟨ti, vo, it, mi, 0, [], 0, []⟩ none 0 none 0, i64 0]) (results_cell2 (a := 8) (i := 9) rfl rfl hload rfl) rfl ⟨.inl ⟨VB.out, rfl⟩, hbl⟩
set_option maxRecDepth 100000 in
set_option maxHeartbeats 4000000 in
theorem dueR_any (B : Bs) (A : Option Addr) (c : Nat) (A2 : Option Addr) (c2 : Nat) (now : Int) (w : World) (h0 : 1 ≤ B.cap) (h1 : 0 ≤ B.first ∧ B.first ≤ 1000000000) (h2 : 0 ≤ B.mins ∧ B.mins ≤ 1000000000) :
  Calls Tryz.prog 34 #[bfA B A c A2 c2, i64 now] w fun e w' => e = .returned (.bool (dueB B now)) ∧ Below w.heap.size w w' := by
 have V := Lib.hid (show dueB B now = (!B.wait.isEmpty && (decide (B.cap ≤ B.wait.length) || decide (B.first + B.mins ≤ now))) from rfl)
 have BD := Lib.hid (blk_new w (.cells (bfL B A c A2 c2).toArray 73))
 have B1 := Lib.hid (below_new w (.cells (bfL B A c A2 c2).toArray 73))
 obtain ⟨ti, vo, cap, mins, taken, wait, first, added⟩ := B
 simp only at h0 h1 h2 V BD B1 ⊢
 have c2 := blk_cell BD.out 2
 have c3 := blk_cell BD.out 3
 have c5 := blk_cell BD.out 5
 have c6 := blk_cell BD.out 6
 by_cases g1 : cap ≤ (wait.length : Int)
 ·have VB : Hid (dueB ⟨ti, vo, cap, mins, taken, wait, first, added⟩ now = true) := Lib.hid (by
   (show _ = _); rw [V.out, decide_eq_true g1]
   cases wait with | nil => simp at g1; omega | cons _ _ => rfl)
  clear V
  go_enter Tryz.func34, Tryz.ntmps34
  go_wp2_with fail
  go_ret
  exact ⟨ret_bool VB.out.symm, B1.out⟩
 ·by_cases g2 : wait = []
  ·subst g2
   have VB : Hid (dueB ⟨ti, vo, cap, mins, taken, [], first, added⟩ now = false) := Lib.hid (by (show _ = _); rw [V.out]; rfl)
   clear V
   go_enter Tryz.func34, Tryz.ntmps34
   go_wp2_with fail
   go_ret
   exact ⟨ret_bool ((decide_eq_false (show ¬ cap ≤ 0 by omega)).trans VB.out.symm), B1.out⟩
  ·have VB : Hid (dueB ⟨ti, vo, cap, mins, taken, wait, first, added⟩ now = decide (first + mins ≤ now)) := Lib.hid (by
    (show _ = _); rw [V.out, decide_eq_false g1]
    cases wait with | nil => exact absurd rfl g2 | cons _ _ => rfl)
   have hn : 0 < wait.length := by cases wait with | nil => exact absurd rfl g2 | cons _ _ => simp
   clear V g2
   go_enter Tryz.func34, Tryz.ntmps34
   go_wp2_with fail
   go_ret
   exact ⟨ret_bool VB.out.symm, B1.out⟩
set_option maxRecDepth 100000 in
theorem id5_info : (Tryz.prog.info? 51).map (fun i => (i.zero, i.size, i.bytes)) = some (some (.agg #[.int .u8 0, .int .u8 0, .int .u8 0, .int .u8 0, .int .u8 0, .int .u8 0, .int .u8 0, .int .u8 0, .int .u8 0, .int .u8 0, .int .u8 0, .int .u8 0, .int .u8 0, .int .u8 0, .int .u8 0, .int .u8 0, .int .u8 0, .int .u8 0, .int .u8 0, .int .u8 0, .int .u8 0, .int .u8 0, .int .u8 0, .int .u8 0, .int .u8 0, .int .u8 0, .int .u8 0, .int .u8 0, .int .u8 0, .int .u8 0, .int .u8 0, .int .u8 0]), 32, 32) := by kernel_rfl
section
variable {o : Oper} {a : Act} {w : World} {K : Act → World → Prop} {Q : Exit → Act → World → Prop}
set_option maxRecDepth 100000 in
theorem wp_storeW (x y : Operand) (ho : o.op = .store 22 x y) (hd : o.dst = none) (b i : Nat) (A : Option Addr) (n c : Nat) (hx : a.eval x = .pointer (some ⟨b, i, none⟩)) (hy : a.eval y = .slice A n c)
  (old : Value) (hc : w.cell? ⟨b, i, none⟩ = some old) (hf : w.frozen? ⟨b, i, none⟩ = false) (h : K a (w.setCell ⟨b, i, none⟩ (.slice A n c))) : o.wp Tryz.prog a w K Q := by
 unfold Oper.wp execOp
 simp only [ho, hx, hy]
 simp [go_sem, hc, hf, hd]
 exact h
set_option maxRecDepth 100000 in
theorem wp_storeK (x y : Operand) (ho : o.op = .store 71 x y) (hd : o.dst = none) (b i : Nat) (A : Option Addr) (n c : Nat) (hx : a.eval x = .pointer (some ⟨b, i, none⟩)) (hy : a.eval y = .slice A n c)
  (old : Value) (hc : w.cell? ⟨b, i, none⟩ = some old) (hf : w.frozen? ⟨b, i, none⟩ = false) (h : K a (w.setCell ⟨b, i, none⟩ (.slice A n c))) : o.wp Tryz.prog a w K Q := by
 unfold Oper.wp execOp
 simp only [ho, hx, hy]
 simp [go_sem, hc, hf, hd]
 exact h
set_option maxRecDepth 100000 in
theorem wp_one_ref (X : Operand) (ho : o.op = .buildSlice 22 1 #[(0, X)]) (x : It) (hx : a.eval X = itA x)
  (h : K (a.put o.dst (.slice (some ⟨w.heap.size, 0, none⟩) 1 1)) (w.alloc (.cells (itL x).toArray 53))) : o.wp Tryz.prog a w K Q := by
 obtain ⟨i0, hi, hz0, hz1, hz2⟩ := info_parts ref_info
 refine wp_buildSlice _ _ 1 _ ho (itL x).toArray i0 _ Tryz.underlying22 hi hz0 (by rw [hz1]; omega) (by rw [hz1]; omega) ?_ h
 rw [hz1]
 have h2 := Great.fill_whole (s := 36) (by decide) [itA x] ((Array.range (1 * 36)).map ((Value.agg (itL it0).toArray).cells[· % (Value.agg (itL it0).toArray).cells.size]!)) (fun v hv => by
  obtain rfl := List.mem_singleton.1 hv
  show (itL x).toArray.size = 36
  rw [List.size_toArray, itL_length]) (by simp)
 have e1 : ((#[(0, X)] : Array (Nat × Operand)).map fun (i, y) => (i, a.eval y)).toList = [(0, itA x)] := by
  simp [hx]
 rw [e1]
 refine Eq.trans h2 ?_
 show some (List.flatMap (fun v => v.cells.toList) [itA x]).toArray = _
 rw [List.flatMap_cons, List.flatMap_nil, List.append_nil]
 show some (itL x).toArray.toList.toArray = _
 rfl
set_option maxRecDepth 100000 in
theorem wp_one_id (X : Operand) (ho : o.op = .buildSlice 71 1 #[(0, X)]) (k : List UInt8) (hx : a.eval X = idA k)
  (h : K (a.put o.dst (.slice (some ⟨w.heap.size, 0, none⟩) 1 1)) (w.alloc (.cells (idL k).toArray 51))) : o.wp Tryz.prog a w K Q := by
 obtain ⟨i0, hi, hz0, hz1, hz2⟩ := info_parts id5_info
 refine wp_buildSlice _ _ 1 _ ho (idL k).toArray i0 _ Tryz.underlying71 hi hz0 (by rw [hz1]; omega) (by rw [hz1]; omega) ?_ h
 rw [hz1]
 have h2 := Great.fill_whole (s := 32) (by decide) [idA k] ((Array.range (1 * 32)).map ((Value.agg #[Value.int .u8 0, Value.int .u8 0, Value.int .u8 0, Value.int .u8 0, Value.int .u8 0, Value.int .u8 0, Value.int .u8 0, Value.int .u8 0, Value.int .u8 0, Value.int .u8 0, Value.int .u8 0, Value.int .u8 0, Value.int .u8 0, Value.int .u8 0, Value.int .u8 0, Value.int .u8 0, Value.int .u8 0, Value.int .u8 0, Value.int .u8 0, Value.int .u8 0, Value.int .u8 0, Value.int .u8 0, Value.int .u8 0, Value.int .u8 0, Value.int .u8 0, Value.int .u8 0, Value.int .u8 0, Value.int .u8 0, Value.int .u8 0, Value.int .u8 0, Value.int .u8 0, Value.int .u8 0]).cells[· % (Value.agg #[Value.int .u8 0, Value.int .u8 0, Value.int .u8 0, Value.int .u8 0, Value.int .u8 0, Value.int .u8 0, Value.int .u8 0, Value.int .u8 0, Value.int .u8 0, Value.int .u8 0, Value.int .u8 0, Value.int .u8 0, Value.int .u8 0, Value.int .u8 0, Value.int .u8 0, Value.int .u8 0, Value.int .u8 0, Value.int .u8 0, Value.int .u8 0, Value.int .u8 0, Value.int .u8 0, Value.int .u8 0, Value.int .u8 0, Value.int .u8 0, Value.int .u8 0, Value.int .u8 0, Value.int .u8 0, Value.int .u8 0, Value.int .u8 0, Value.int .u8 0, Value.int .u8 0, Value.int .u8 0]).cells.size]!)) (fun v hv => by
  obtain rfl := List.mem_singleton.1 hv
  show (idL k).toArray.size = 32
  rw [List.size_toArray, idL_length]) (by simp)
 have e1 : ((#[(0, X)] : Array (Nat × Operand)).map fun (i, y) => (i, a.eval y)).toList = [(0, idA k)] := by
  simp [hx]
 rw [e1]
 refine Eq.trans h2 ?_
 show some (List.flatMap (fun v => v.cells.toList) [idA k]).toArray = _
 rw [List.flatMap_cons, List.flatMap_nil, List.append_nil]
 show some (idL k).toArray.toList.toArray = _
 rfl
theorem flat_oneG {α : Type} (enc : α → List Value) (h : ∀ x, ∀ u ∈ enc x, u.oneCell' = true) (l : List α) : ∀ u ∈ l.flatMap enc, u.oneCell' = true := fun u hu => by
 obtain ⟨x, _, hx⟩ := List.mem_flatMap.1 hu
 exact h x u hx
theorem rdC_below {w w' : World} {A : Option Addr} {xs : List Value} (h : RdC w A xs) (hb : Below w.heap.size w w') : RdC w' A xs := fun hp => by
 obtain ⟨b, o, e, hc⟩ := h hp
 exact ⟨b, o, e, fun j u hu => by have h1 := hc j u hu; rw [World.cell?_of_block (hb.block b (World.block_lt_of_cell? w _ h1))]; exact h1⟩
theorem own_base {w : World} {B B' e size n : Nat} {v : Value} {xs : List Value} (h : w.ownsRow B' e size v n xs) (hB : B ≤ B') : w.ownsRow B e size v n xs := by
 refine ⟨h.1, ?_⟩
 rcases h.2 with hl | ⟨g, cap, cur, e1, hb, hr⟩
 ·exact .inl hl
 ·exact .inr ⟨g, cap, cur, e1, Nat.le_trans hB hb, hr⟩
theorem RdC.grown1 {w w' : World} {g : Nat} {ys : List Value} {row : Option Nat} (h : RdC w (some ⟨g, 0, none⟩) ys) (hg : w.grownBy w' row) (hl : g < w.heap.size) (hne : some g ≠ row) : RdC w' (some ⟨g, 0, none⟩) ys := fun hp => by
 obtain ⟨b, o, e, hc⟩ := h hp
 cases e
 exact ⟨g, 0, rfl, fun j u hu => by rw [World.cell?_of_block (hg.block g hl hne)]; exact hc j u hu⟩
end
/-- Where the reference's Add stands: the builder, the item, the result. -/
structure OaS (w W : World) (B : Bs) (A : Option Addr) (c : Nat) (A2 : Option Addr) (c2 : Nat) (x : It) : Prop where
 bel : Below w.heap.size w W
 src : W.heap[w.heap.size]? = some (.cells (bfL B A c A2 c2).toArray 73 (0, 0))
 it : W.heap[w.heap.size + 1]? = some (.cells (itL x).toArray 53 (0, 0))
 res : W.heap[w.heap.size + 2]? = some (.cells #[enS [], i64 0, i64 0, i64 0, i64 0, .slice none 0 0, i64 0, .slice none 0 0] 73 (0, 0))
section
variable {w W W' : World} {B : Bs} {A A2 : Option Addr} {c c2 : Nat} {x : It}
theorem OaS.below (h : OaS w W B A c A2 c2 x) (hb : Below W.heap.size W W') : OaS w W' B A c A2 c2 x := ⟨h.bel.tr hb, blk_below hb h.src, blk_below hb h.it, blk_below hb h.res⟩
theorem OaS.sz (h : OaS w W B A c A2 c2 x) : w.heap.size + 3 ≤ W.heap.size := blk_lt h.res
theorem OaS.low (h : OaS w W B A c A2 c2 x) {N : Nat} (hN : w.heap.size + 3 ≤ N) (hb : Below N W W') : OaS w W' B A c A2 c2 x :=
 ⟨h.bel.trans (hb.mono (by omega)), (hb.block _ (by omega)).trans h.src, (hb.block _ (by omega)).trans h.it, (hb.block _ (by omega)).trans h.res⟩
theorem keep3 {u v : World} {N : Nat} (hN : w.heap.size + 3 ≤ N) (hb : Below N u v) : KeepT w.heap.size [w.heap.size, w.heap.size + 1, w.heap.size + 2] u v :=
 ⟨hb.mono (by omega), fun k hk => hb.block k (by simp at hk; omega)⟩
theorem OaS.set5 (h : OaS w W B A c A2 c2 x) (A' : Option Addr) (c' : Nat) (y : It) : OaS w (W.setCell ⟨w.heap.size, 5, none⟩ (.slice A' (B.wait.length + 1) c')) ⟨B.ti, B.vo, B.cap, B.mins, B.taken, B.wait ++ [y], B.first, B.added⟩ A' c' A2 c2 x := by
 have hk : But w.heap.size W (W.setCell ⟨w.heap.size, 5, none⟩ (.slice A' (B.wait.length + 1) c')) := (But.refl _ _).setCell _
 have hs := h.sz
 refine ⟨hk.tail h.bel (Nat.le_refl _), ?_, (hk.block _ (by omega) (by omega)).trans h.it, (hk.block _ (by omega) (by omega)).trans h.res⟩
 have e := blk_set h.src 5 (.slice A' (B.wait.length + 1) c')
 have e1 : (B.wait ++ [y]).length = B.wait.length + 1 := by simp
 show _ = some (Obj.cells (#[enS B.ti, i64 B.vo, i64 B.cap, i64 B.mins, i64 (B.taken + 1), .slice A' (B.wait ++ [y]).length c', i64 B.first, .slice A2 B.added.length c2] : Array Value) _ _)
 rw [e1]
 exact e
theorem OaS.set7 (h : OaS w W B A c A2 c2 x) (A' : Option Addr) (c' : Nat) (k : List UInt8) : OaS w (W.setCell ⟨w.heap.size, 7, none⟩ (.slice A' (B.added.length + 1) c')) ⟨B.ti, B.vo, B.cap, B.mins, B.taken, B.wait, B.first, B.added ++ [k]⟩ A c A' c' x := by
 have hk : But w.heap.size W (W.setCell ⟨w.heap.size, 7, none⟩ (.slice A' (B.added.length + 1) c')) := (But.refl _ _).setCell _
 have hs := h.sz
 refine ⟨hk.tail h.bel (Nat.le_refl _), ?_, (hk.block _ (by omega) (by omega)).trans h.it, (hk.block _ (by omega) (by omega)).trans h.res⟩
 have e := blk_set h.src 7 (.slice A' (B.added.length + 1) c')
 have e1 : (B.added ++ [k]).length = B.added.length + 1 := by simp
 show _ = some (Obj.cells (#[enS B.ti, i64 B.vo, i64 B.cap, i64 B.mins, i64 (B.taken + 1), .slice A B.wait.length c, i64 B.first, .slice A' (B.added ++ [k]).length c'] : Array Value) _ _)
 rw [e1]
 exact e
theorem OaS.set6 (h : OaS w W B A c A2 c2 x) (z : Int) : OaS w (W.setCell ⟨w.heap.size, 6, none⟩ (i64 z)) ⟨B.ti, B.vo, B.cap, B.mins, B.taken, B.wait, z, B.added⟩ A c A2 c2 x := by
 have hk : But w.heap.size W (W.setCell ⟨w.heap.size, 6, none⟩ (i64 z)) := (But.refl _ _).setCell _
 have hs := h.sz
 exact ⟨hk.tail h.bel (Nat.le_refl _), blk_set h.src 6 (i64 z), (hk.block _ (by omega) (by omega)).trans h.it, (hk.block _ (by omega) (by omega)).trans h.res⟩
end
set_option maxRecDepth 100000 in
set_option maxHeartbeats 32000000 in
theorem addR_any (B : Bs) (A : Option Addr) (c : Nat) (A2 : Option Addr) (c2 : Nat) (x : It) (now : Int) (w : World) (h : BfM w B A c A2 c2) (hk : x.ky.length = 32) (h1 : x.fr.length ≤ 1000000000) (h2 : x.su.length ≤ 1000000000) (h3 : x.bo.length ≤ 1000000000) (hn : B.wait.length ≤ 1000000) (hn2 : B.added.length ≤ 1000000) :
  Calls Tryz.prog 33 #[bfA B A c A2 c2, itA x, i64 now] w fun e w' => (∃ A' c' A2' c2', e = .returned (.tuple #[bfA (addB B x now) A' c' A2' c2', i64 (addE B x now)]) ∧ BfM w' (addB B x now) A' c' A2' c2') ∧ Below w.heap.size w w' := by
 have H := Lib.hid h
 have HKL := Lib.hid hk
 have H1 := Lib.hid (fun u => valid_ref now u)
 have H2 := Lib.hid (fun u => item_ref x u hk h1 h2 h3)
 have HSZ := Lib.hid refit_size
 have V := Lib.hid (show addE B x now = if minB now = false then 2 else if chkI x ≠ 0 then chkI x else if x.ky ∈ B.added then 7 else if 200 ≤ B.wait.length then 9 else 0 from rfl)
 have VN := Lib.hid (fun (q : addE B x now ≠ 0) => addB_no q)
 have VY := Lib.hid (fun (q : addE B x now = 0) => addB_yes q)
 clear h hk h1 h2 h3
 unfold itA
 go_enter Tryz.func33, Tryz.ntmps33
 go_upto_region 1 with fail
 generalize hw1 : World.alloc (World.alloc (World.alloc w _) _) _ = w1
 have O : Hid (OaS w w1 B A c A2 c2 x) := Lib.hid ⟨hw1 ▸ (((below_new _ _).tr (below_new _ _)).tr (below_new _ _)), hw1 ▸ blk_old _ (blk_old _ (blk_new w _)), by
   have h := blk_new (w.alloc (.cells (bfL B A c A2 c2).toArray 73)) (.cells (itL x).toArray 53)
   rw [World.size_alloc] at h
   exact hw1 ▸ blk_old _ h, by
   have h := blk_new ((w.alloc (.cells (bfL B A c A2 c2).toArray 73)).alloc (.cells (itL x).toArray 53)) (.cells #[enS [], i64 0, i64 0, i64 0, i64 0, .slice none 0 0, i64 0, .slice none 0 0] 73)
   rw [World.size_alloc, World.size_alloc] at h
   exact hw1 ▸ h⟩
 clear hw1
 go_wp2_with fail
 refine (H1.out _).mono ?_; rintro e w2 ⟨rfl, rfl⟩
 cases q1 : minB now with
 | false =>
  have VB : Hid (addE B x now = 2) := Lib.hid (by (show _ = _); rw [V.out, q1]; rfl)
  have V := VB
  clear q1 VB VY H1 H2
  have VN2 := Lib.hid (VN.out (by rw [V.out]; decide))
  have RG := Lib.hid (range_blk (cs := bfL B A c A2 c2) O.out.src)
  have HRS := Lib.hid O.out.res
  have HBL := Lib.hid O.out.bel
  go_wp2_with (first | refine wpList_load_mid rfl 73 _ rfl w.heap.size 0 rfl (bfL B A c A2 c2) _ RG.out Tryz.underlying73 rfl (by kernel_rfl) ?_ | refine wpList_store_mid rfl 73 _ _ rfl (w.heap.size + 2) 0 (bfL B A c A2 c2).toArray rfl rfl (there_at HRS.out (Nat.le_refl 8)) (by kernel_rfl) (one_bf _ _ _ _ _ _ _ _ _ _ _ _) ?_)
  have hload := run_loadVar_mid (P := Tryz.prog) _ (w.heap.size + 2) 0 73 (bfL B A c A2 c2) _ (range_blk (cs := bfL B A c A2 c2) (bf_store HRS.out _ _ _ _ _ _ _ _)) Tryz.underlying73 rfl (by kernel_rfl)
  have hbt := but_setCells (b := w.heap.size + 2) (bfL B A c A2 c2) 0 w1
  have hbl := hbt.tail HBL.out (by omega)
  exact bodyPost_ret (v := .tuple #[bfA B A c A2 c2, i64 2]) (results_cell2 (a := 6) (i := 7) rfl rfl hload rfl) rfl ⟨⟨A, c, A2, c2, by rw [V.out, VN2.out], by rw [VN2.out]; exact H.out.below hbl⟩, hbl⟩
 | true =>
 rw [q1, if_neg (show ¬ true = false by decide)] at V
 clear q1 H1
 have RIT := Lib.hid (range_blk O.out.it)
 go_wp2_with (refine wpList_load_mid rfl 53 _ rfl (w.heap.size + 1) 0 rfl (itL x) _ RIT.out Tryz.underlying53 rfl (by rw [itL_length]; exact HSZ.out) ?_)
 refine (H2.out _).mono ?_; rintro e w2 ⟨rfl, b2⟩
 have O2 := Lib.hid (O.out.below b2)
 clear b2 O H2 RIT
 by_cases he : chkI x = 0
 case neg =>
  have VB : Hid (addE B x now = chkI x) := Lib.hid (by (show _ = _); rw [V.out, if_pos he])
  have hq : (chkI x != 0) = true := by simpa using he
  have hq2 : (chkI x == 0) = false := by simpa using he
  have VN2 := Lib.hid (VN.out (by rw [VB.out]; exact he))
  have V := VB
  clear he VB VN VY
  obtain ⟨ec, hec⟩ : ∃ q, chkI x = q := ⟨_, rfl⟩
  rw [hec] at V hq hq2 ⊢
  clear hec
  skip
  have RG := Lib.hid (range_blk (cs := bfL B A c A2 c2) O2.out.src)
  have HRS := Lib.hid O2.out.res
  have HBL := Lib.hid O2.out.bel
  go_wp2_with (first | refine wpList_load_mid rfl 73 _ rfl w.heap.size 0 rfl (bfL B A c A2 c2) _ RG.out Tryz.underlying73 rfl (by kernel_rfl) ?_ | refine wpList_store_mid rfl 73 _ _ rfl (w.heap.size + 2) 0 (bfL B A c A2 c2).toArray rfl rfl (there_at HRS.out (Nat.le_refl 8)) (by kernel_rfl) (one_bf _ _ _ _ _ _ _ _ _ _ _ _) ?_)
  have hload := run_loadVar_mid (P := Tryz.prog) _ (w.heap.size + 2) 0 73 (bfL B A c A2 c2) _ (range_blk (cs := bfL B A c A2 c2) (bf_store HRS.out _ _ _ _ _ _ _ _)) Tryz.underlying73 rfl (by kernel_rfl)
  have hbt := but_setCells (b := w.heap.size + 2) (bfL B A c A2 c2) 0 w2
  have hbl := hbt.tail HBL.out (by omega)
  exact bodyPost_ret (v := .tuple #[bfA B A c A2 c2, i64 ec]) (results_cell2 (a := 6) (i := 7) rfl rfl hload rfl) rfl ⟨⟨A, c, A2, c2, by rw [V.out, VN2.out], by rw [VN2.out]; exact H.out.below hbl⟩, hbl⟩
 rw [if_neg (by rw [he]; decide)] at V
 rw [he]
 clear he
 go_upto_block 0 with fail
 go_cut [] (fun wx => Hid (x.ky ∉ B.added) ∧ Hid (OaS w wx B A c A2 c2 x))
 case first =>
  go_wp2_with fail
  go_loopg [9] B.added.length (fun gg kv wr => ∃ k : Nat, k ≤ B.added.length ∧ B.added.length - k ≤ gg ∧ kv = i64 k ∧ Hid (x.ky ∉ B.added.take k) ∧ Hid (OaS w wr B A c A2 c2 x))
  case atStart => exact ⟨0, Nat.zero_le _, by omega, rfl, Lib.hid (by simp), O2⟩
  case round =>
   obtain ⟨k, hk, hgg, rfl, NW, OW⟩ := hrel
   clear O2
   have c7 : wr.cell? ⟨w.heap.size, 7, none⟩ = some (.slice A2 B.added.length c2) := blk_cell OW.out.src 7
   by_cases hlt : k < B.added.length
   ·obtain ⟨b, o, y, hA, hbl, hy, hrg, h32⟩ := H.out.rk.at_ hlt
    subst hA
    have HRG := Lib.hid hrg
    have HY := Lib.hid hy
    have H32 := Lib.hid h32
    clear hrg hy h32
    go_upto_region 9 with fail
    have bd := (Below.refl wr.heap.size wr).drew
    refine Flow.wp_region_segs Flow.Later Flow.Later.refl Flow.Later.trans [] [0, 1, 2, 3, 4, 5, 6, 7] (by kernel_rfl) (by kernel_rfl) ?_
    have O5 := Lib.hid (OW.out.below bd)
    clear bd OW c7
    generalize World.drew _ = wd at *
    have q7 : ∀ t : Flow.Cls (Flow.Later wd), t.val.cell? ⟨w.heap.size, 7, none⟩ = some (.slice (some ⟨b, o, none⟩) B.added.length c2) := fun t => Flow.cls_cell (blk_cell O5.out.src 7) t
    have qK : ∀ t : Flow.Cls (Flow.Later wd), t.val.rangeAt b (o + k * 32) (idL y) := fun t j v hj => by
     rw [World.cell?_of_block ((O5.out.bel.tr t.ok).block b hbl)]
     exact HRG.out j v hj
    have qX : ∀ t : Flow.Cls (Flow.Later wd), t.val.rangeAt (w.heap.size + 1) 3 (idL x.ky) := fun t => it_ky (blk_below t.ok O5.out.it)
    haveI nonE := Flow.cls_nonempty wd
    rw [Flow.wpSegs_nil]
    simp only [Flow.pick, List.getElem?_toArray, List.getElem?_cons_succ, List.getElem?_cons_zero]
    iterate 4 go_big_quiet_step (fail)
    refine BigFrame.wpQuiet_want rfl (fun K hK => quiet_load_mid 51 _ rfl b (o + k * 32) rfl (idL y) _ (fun _ he => by obtain ⟨t, rfl⟩ := he; exact qK t) Tryz.underlying51 rfl (by rw [idL_length]; exact id_size5) (hK _ ?_))
    clear hK K
    simp only [Act.put, List.setIfInBounds_toArray, List.set_cons_succ, List.set_cons_zero]
    go_big_quiet_step (fail)
    refine BigFrame.wpQuiet_want rfl (fun K hK => quiet_load_mid 51 _ rfl (w.heap.size + 1) 3 rfl (idL x.ky) _ (fun _ he => by obtain ⟨t, rfl⟩ := he; exact qX t) Tryz.underlying51 rfl (by rw [idL_length]; exact id_size5) (hK _ ?_))
    clear hK K
    simp only [Act.put, List.setIfInBounds_toArray, List.set_cons_succ, List.set_cons_zero]
    refine BigFrame.wpQuiet_want rfl (fun K hK => quiet_eql_id5 _ _ _ rfl H32.out HKL.out rfl rfl (hK _ ?_))
    clear hK K
    simp only [Act.put, List.setIfInBounds_toArray, List.set_cons_succ, List.set_cons_zero]
    refine wpQuiet_nil ?_
    clear nonE q7 qK qX
    by_cases heq : y = x.ky
    ·have hb : (y == x.ky) = true := by simpa using heq
     have hin : x.ky ∈ B.added := heq ▸ List.mem_of_getElem? HY.out
     rw [if_pos hin] at V
     rw [hb]
     clear hb heq hin
     have VN2 := Lib.hid (VN.out (by rw [V.out]; decide))
     have RG := Lib.hid (range_blk (cs := bfL B A c (some ⟨b, o, none⟩) c2) O5.out.src)
     have HRS := Lib.hid O5.out.res
     have HBL := Lib.hid O5.out.bel
     go_wp2_with (first | refine wpList_load_mid rfl 73 _ rfl w.heap.size 0 rfl (bfL B A c (some ⟨b, o, none⟩) c2) _ RG.out Tryz.underlying73 rfl (by kernel_rfl) ?_ | refine wpList_store_mid rfl 73 _ _ rfl (w.heap.size + 2) 0 (bfL B A c (some ⟨b, o, none⟩) c2).toArray rfl rfl (there_at HRS.out (Nat.le_refl 8)) (by kernel_rfl) (one_bf _ _ _ _ _ _ _ _ _ _ _ _) ?_)
     have hload := run_loadVar_mid (P := Tryz.prog) _ (w.heap.size + 2) 0 73 (bfL B A c (some ⟨b, o, none⟩) c2) _ (range_blk (cs := bfL B A c (some ⟨b, o, none⟩) c2) (bf_store HRS.out _ _ _ _ _ _ _ _)) Tryz.underlying73 rfl (by kernel_rfl)
     have hbt := but_setCells (b := w.heap.size + 2) (bfL B A c (some ⟨b, o, none⟩) c2) 0 wd
     have hbl := hbt.tail HBL.out (by omega)
     exact bodyPost_ret (v := .tuple #[bfA B A c (some ⟨b, o, none⟩) c2, i64 7]) (results_cell2 (a := 6) (i := 7) rfl rfl hload rfl) rfl ⟨⟨A, c, some ⟨b, o, none⟩, c2, by rw [V.out, VN2.out], by rw [VN2.out]; exact H.out.below hbl⟩, hbl⟩
    ·have hb : (y == x.ky) = false := by simpa using heq
     have NN : Hid (x.ky ∉ B.added.take (k + 1)) := Lib.hid (by
      (show x.ky ∉ _)
      intro hm
      rw [show B.added.take (k + 1) = B.added.take k ++ [y] by rw [List.take_add_one, HY.out]; rfl] at hm
      rcases List.mem_append.1 hm with hm | hm
      ·exact NW.out hm
      ·exact heq (List.mem_singleton.1 hm).symm)
     rw [hb]
     clear hb heq
     go_wp2_with fail
     go_roundg (B.added.length - (k + 1))
     case measure => omega
     case rel => exact ⟨k + 1, by omega, by omega, by simp, NN, O5⟩
   ·obtain rfl : k = B.added.length := by omega
    have NN : Hid (x.ky ∉ B.added) := Lib.hid (by have := NW.out; rwa [List.take_length] at this)
    go_wp2_with fail
    go_meet
    exact ⟨NN, OW⟩
 obtain ⟨NN, OC⟩ := hcut
 rw [if_neg NN.out] at V
 clear O2 NN
 have c5 : wc.cell? ⟨w.heap.size, 5, none⟩ = some (.slice A B.wait.length c) := blk_cell OC.out.src 5
 by_cases h200 : 200 ≤ B.wait.length
 ·rw [if_pos h200] at V
  have VN2 := Lib.hid (VN.out (by rw [V.out]; decide))
  have RG := Lib.hid (range_blk (cs := bfL B A c A2 c2) OC.out.src)
  have HRS := Lib.hid OC.out.res
  have HBL := Lib.hid OC.out.bel
  go_wp2_with (first | refine wpList_load_mid rfl 73 _ rfl w.heap.size 0 rfl (bfL B A c A2 c2) _ RG.out Tryz.underlying73 rfl (by kernel_rfl) ?_ | refine wpList_store_mid rfl 73 _ _ rfl (w.heap.size + 2) 0 (bfL B A c A2 c2).toArray rfl rfl (there_at HRS.out (Nat.le_refl 8)) (by kernel_rfl) (one_bf _ _ _ _ _ _ _ _ _ _ _ _) ?_)
  have hload := run_loadVar_mid (P := Tryz.prog) _ (w.heap.size + 2) 0 73 (bfL B A c A2 c2) _ (range_blk (cs := bfL B A c A2 c2) (bf_store HRS.out _ _ _ _ _ _ _ _)) Tryz.underlying73 rfl (by kernel_rfl)
  have hbt := but_setCells (b := w.heap.size + 2) (bfL B A c A2 c2) 0 wc
  have hbl := hbt.tail HBL.out (by omega)
  exact bodyPost_ret (v := .tuple #[bfA B A c A2 c2, i64 9]) (results_cell2 (a := 6) (i := 7) rfl rfl hload rfl) rfl ⟨⟨A, c, A2, c2, by rw [V.out, VN2.out], by rw [VN2.out]; exact H.out.below hbl⟩, hbl⟩
 rw [if_neg h200] at V
 have VYB := Lib.hid (VY.out V.out)
 clear VN VY
 obtain ⟨F, hF⟩ : ∃ F, (if B.wait = [] then now else B.first) = F := ⟨_, rfl⟩
 rw [hF] at VYB
 go_upto_if 44 with fail
 go_cut [] (fun wx => Hid (OaS w wx ⟨B.ti, B.vo, B.cap, B.mins, B.taken, B.wait, F, B.added⟩ A c A2 c2 x))
 case first =>
  by_cases h0 : B.wait = []
  ·have hl0 : ((B.wait.length : Int) == 0) = true := by rw [h0]; rfl
   rw [if_pos h0] at hF
   subst hF
   have f6 := blk_free OC.out.src 6
   have c6 : wc.cell? ⟨w.heap.size, 6, none⟩ = some (i64 B.first) := blk_cell OC.out.src 6
   have OX := Lib.hid (OC.out.set6 now)
   rw [hl0]
   clear h0 hl0 OC c5
   go_wp2_with fail
   go_meet
   exact OX
  ·have hl0 : ((B.wait.length : Int) == 0) = false := by simpa using h0
   rw [if_neg h0] at hF
   subst hF
   rw [hl0]
   clear h0 hl0 c5
   go_wp2_with fail
   go_meet
   exact OC
 clear OC c5 hF
 have OC := hcut
 clear hcut
 obtain ⟨i0, hi, hz0, hz1, hz2⟩ := info_parts ref_info
 have HI := Lib.hid (And.intro hi (And.intro hz0 (And.intro hz1 hz2)))
 clear hi hz0 hz1 hz2
 obtain ⟨j0, hi, hz0, hz1, hz2⟩ := info_parts id5_info
 have HJ := Lib.hid (And.intro hi (And.intro hz0 (And.intro hz1 hz2)))
 clear hi hz0 hz1 hz2
 go_upto_region 15 with fail
 go_cut [] (fun wx => ∃ A6 c6, Hid (OaS w wx ⟨B.ti, B.vo, B.cap, B.mins, B.taken, B.wait ++ [x], F, B.added⟩ A6 c6 A2 c2 x) ∧ Hid (wx.ownsRow (w.heap.size + 3) 53 36 (.slice A6 (B.wait.length + 1) c6) (B.wait.length + 1) (B.wait.flatMap itL ++ itL x)))
 case first =>
  have bd := (Below.refl wc.heap.size wc).drew
  refine Flow.wp_region_preF (KeepT w.heap.size [w.heap.size, w.heap.size + 1, w.heap.size + 2]) (KeepT.refl _ _) (fun _ _ _ h k => h.trans k) [8] (.held [1, 2, 4] (.fork 0 5 (.fork 3 5 (.call 5 (.call 6 (.held [7] (.tail (.step [] 8 (.done [])))))) (.call 3 (.call 6 (.held [7] (.tail (.step [] 8 (.done []))))))) (.call 0 (.call 3 (.call 6 (.held [7] (.tail (.step [] 8 (.done []))))))))) (by kernel_rfl) (by kernel_rfl) ?_
  have O5 : Hid (OaS w wc.drew ⟨B.ti, B.vo, B.cap, B.mins, B.taken, B.wait, F, B.added⟩ A c A2 c2 x) := Lib.hid (OC.out.below bd)
  clear bd OC
  generalize World.drew _ = wd at *
  have BD5 := Lib.hid (Below.refl wd.heap.size wd)
  have q5 := fun t => KeepT.cell (B := w.heap.size) (K := [w.heap.size, w.heap.size + 1, w.heap.size + 2]) (by simp) (show wd.cell? ⟨w.heap.size, 5, none⟩ = some (.slice A B.wait.length c) from blk_cell O5.out.src 5) t
  have qR : ∀ t : Flow.Cls (KeepT w.heap.size [w.heap.size, w.heap.size + 1, w.heap.size + 2] wd), t.val.rangeAt (w.heap.size + 1) 0 (itL x) := fun t => range_blk ((t.ok.2 (w.heap.size + 1) (by simp)).trans O5.out.it)
  haveI nonE := cls_keep (B := w.heap.size) (K := [w.heap.size, w.heap.size + 1, w.heap.size + 2]) wd
  rw [Flow.wpPreF_held]
  simp only [Flow.pick, List.getElem?_toArray, List.getElem?_cons_succ, List.getElem?_cons_zero]
  iterate 2 go_big_quiet_step (fail)
  refine BigFrame.wpQuiet_want rfl (fun K hK => quiet_load_mid 53 _ rfl (w.heap.size + 1) 0 rfl (itL x) _ (fun _ he => by obtain ⟨t, rfl⟩ := he; exact qR t) Tryz.underlying53 rfl (by rw [itL_length]; exact HSZ.out) (hK _ ?_))
  clear hK K
  simp only [Act.put, List.setIfInBounds_toArray, List.set_cons_succ, List.set_cons_zero]
  refine wpQuiet_nil ?_
  clear nonE q5 qR
  rw [Flow.wpPreF_fork]
  refine ⟨?_, ?_⟩
  ·rw [Flow.callAt_eq]
   simp only [List.getElem?_toArray, List.getElem?_cons_zero, Act.put, List.setIfInBounds_toArray, List.set_cons_succ, List.set_cons_zero]
   rw [if_pos (by rfl)]
   refine Flow.wp_behind (fun K hK => ?_)
   go_wp2_with fail
   refine hK.out _ _ ⟨keep3 O5.out.sz (below_new _ _), ?_⟩
   clear hK K
   have bn := below_new wd (.cells #[] 53)
   have P1 := Lib.hid (O5.out.below bn)
   have Q1 := Lib.hid (BD5.out.tr bn)
   have OW0 := Lib.hid (own2_empty wd wd.heap.size 36 53 (Nat.le_refl _))
   have hsz := O5.out.sz
   have hbs := BD5.out.size
   clear O5 BD5 bn
   obtain ⟨N, hN⟩ : ∃ q, wd.heap.size = q := ⟨_, rfl⟩
   have HN : w.heap.size + 3 ≤ N := by omega
   have HWN : wd.heap.size ≤ N := by omega
   rw [hN] at OW0 ⊢
   have HNL : N < (wd.alloc (.cells #[] 53)).heap.size := by rw [World.size_alloc]; omega
   clear hN hsz hbs
   generalize wd.alloc (.cells #[] 53) = v1 at *
   rw [Flow.wpPreF_fork]
   refine ⟨?_, ?_⟩
   ·rw [Flow.callAt_eq]
    simp only [List.getElem?_toArray, List.getElem?_cons_succ, List.getElem?_cons_zero, Act.put, List.setIfInBounds_toArray, List.set_cons_succ, List.set_cons_zero]
    rw [if_pos (by rfl)]
    refine Flow.wp_behind (fun K hK => ?_)
    have hbn := Nat.le_trans HWN (Nat.le_refl _)
    have hrc := (H.out.rd.below P1.out.bel).cells
    have hnb : N ≤ v1.heap.size := Nat.le_of_lt HNL
    refine wp_appC Tryz.underlying22 HI.out.1 HI.out.2.1 HI.out.2.2.1 HI.out.2.2.2 rfl (by decide) _ _ rfl N _ 0 _ OW0.out rfl A B.wait.length c (B.wait.flatMap itL) (flatG_len itL itL_length _) hrc rfl (flat_oneG itL one_itL _) (by rw [Nat.zero_add]; omega) (by decide) hnb ?_
    intro v3 v2 o3 g3 b3
    refine hK.out _ _ ⟨keep3 HN b3, ?_⟩
    clear hK K
    have P2 := Lib.hid (P1.out.low HN b3)
    have Q2 := Lib.hid (Q1.out.trans (b3.mono HWN))
    rw [Nat.zero_add, List.nil_append] at o3
    have OW3 := Lib.hid o3
    have HNL := Nat.lt_of_lt_of_le HNL b3.size
    clear P1 Q1 o3 g3 b3 hrc hnb hbn OW0
    rw [Flow.wpPreF_call]
    rw [Flow.callAt_eq]
    simp only [List.getElem?_toArray, List.getElem?_cons_succ, List.getElem?_cons_zero, Act.put, List.setIfInBounds_toArray, List.set_cons_succ, List.set_cons_zero]
    rw [if_pos (by rfl)]
    refine Flow.wp_behind (fun K hK => ?_)
    refine wp_one_ref _ rfl x rfl ?_
    refine hK.out _ _ ⟨keep3 P2.out.sz (below_new _ _), ?_⟩
    clear hK K
    have bn := below_new v2 (.cells (itL x).toArray 53)
    have P3 := Lib.hid (P2.out.below bn)
    have Q3 := Lib.hid (Q2.out.tr bn)
    have RC := Lib.hid (RdC.new v2 (itL x) 53)
    have HNB : v2.heap.size < (v2.alloc (.cells (itL x).toArray 53)).heap.size := by rw [World.size_alloc]; omega
    have OW3 := Lib.hid (own_below OW3.out bn)
    have HNE : v2.heap.size ≠ N := by omega
    have HNL := Nat.lt_of_lt_of_le HNL bn.size
    clear P2 Q2 bn
    obtain ⟨nb, hnb⟩ : ∃ q, v2.heap.size = q := ⟨_, rfl⟩
    rw [hnb] at RC HNB HNE ⊢
    clear hnb
    generalize v2.alloc (.cells (itL x).toArray 53) = v3 at *
    rw [Flow.wpPreF_call]
    rw [Flow.callAt_eq]
    simp only [List.getElem?_toArray, List.getElem?_cons_succ, List.getElem?_cons_zero, Act.put, List.setIfInBounds_toArray, List.set_cons_succ, List.set_cons_zero]
    rw [if_pos (by rfl)]
    refine Flow.wp_behind (fun K hK => ?_)
    have hnb : N ≤ v3.heap.size := Nat.le_of_lt HNL
    refine wp_appC Tryz.underlying22 HI.out.1 HI.out.2.1 HI.out.2.2.1 HI.out.2.2.2 rfl (by decide) _ _ rfl N _ B.wait.length _ OW3.out rfl (some ⟨nb, 0, none⟩) 1 1 (itL x) (by rw [itL_length]) RC.out rfl (one_itL x) (by omega) (by decide) hnb ?_
    intro v6 v4 o6 g6 b6
    refine hK.out _ _ ⟨keep3 HN b6, ?_⟩
    clear hK K
    have P4 := Lib.hid (P3.out.low HN b6)
    have Q4 := Lib.hid (Q3.out.trans (b6.mono HWN))
    obtain ⟨A6, c6, rfl⟩ := own2_slice o6
    have OW6 := Lib.hid o6
    clear P3 Q3 o6 g6 b6 hnb OW3 RC
    haveI nonE := cls_keep (B := w.heap.size) (K := [w.heap.size, w.heap.size + 1, w.heap.size + 2]) v4
    rw [Flow.wpPreF_held]
    simp only [Flow.pick, List.getElem?_toArray, List.getElem?_cons_succ, List.getElem?_cons_zero, Act.put, List.setIfInBounds_toArray, List.set_cons_succ, List.set_cons_zero]
    go_big_quiet_step (fail)
    refine wpQuiet_nil ?_
    clear nonE
    rw [Flow.wpPreF_tail, Flow.wpSched_step]
    simp only [Flow.pick]
    refine wpQuiet_nil ?_
    rw [Flow.callAt_eq]
    simp only [List.getElem?_toArray, List.getElem?_cons_succ, List.getElem?_cons_zero, Act.put]
    rw [if_pos (by rfl)]
    refine Flow.wp_behind (fun K hK => ?_)
    have cc5 := blk_cell P4.out.src 5
    have ff5 := blk_free P4.out.src 5
    refine wp_storeW _ _ rfl rfl w.heap.size 5 A6 (B.wait.length + 1) c6 rfl rfl _ cc5 ff5 ?_
    refine hK.out _ _ ⟨trivial, ?_⟩
    clear hK K cc5 ff5
    rw [Flow.wpSched_done]
    simp only [Flow.pick]
    refine wpQuiet_nil ?_
    have OX : Hid (OaS w (v4.setCell ⟨w.heap.size, 5, none⟩ (.slice A6 (B.wait.length + 1) c6)) ⟨B.ti, B.vo, B.cap, B.mins, B.taken, B.wait ++ [x], F, B.added⟩ A6 c6 A2 c2 x) := Lib.hid (P4.out.set5 A6 c6 x)
    have hk : But w.heap.size v4 (v4.setCell ⟨w.heap.size, 5, none⟩ (.slice A6 (B.wait.length + 1) c6)) := (But.refl _ _).setCell _
    have OWX := Lib.hid (own_base (own_but OW6.out (show w.heap.size < N by omega) hk) HN)
    clear hk
    generalize v4.setCell ⟨w.heap.size, 5, none⟩ (.slice A6 (B.wait.length + 1) c6) = wz at *
    go_wp2_with fail
    go_meet
    exact ⟨A6, c6, OX, OWX⟩
   ·rw [Flow.callAt_eq]
    simp only [List.getElem?_toArray, List.getElem?_cons_succ, List.getElem?_cons_zero, Act.put, List.setIfInBounds_toArray, List.set_cons_succ, List.set_cons_zero]
    rw [if_pos (by rfl)]
    refine Flow.wp_behind (fun K hK => ?_)
    refine wp_one_ref _ rfl x rfl ?_
    refine hK.out _ _ ⟨keep3 P1.out.sz (below_new _ _), ?_⟩
    clear hK K
    have bn := below_new v1 (.cells (itL x).toArray 53)
    have P2 := Lib.hid (P1.out.below bn)
    have Q2 := Lib.hid (Q1.out.tr bn)
    have RC := Lib.hid (RdC.new v1 (itL x) 53)
    have HNB : v1.heap.size < (v1.alloc (.cells (itL x).toArray 53)).heap.size := by rw [World.size_alloc]; omega
    have OW0 := Lib.hid (own_below OW0.out bn)
    have HNE : v1.heap.size ≠ N := by omega
    have HNL := Nat.lt_of_lt_of_le HNL bn.size
    clear P1 Q1 bn
    obtain ⟨nb, hnb⟩ : ∃ q, v1.heap.size = q := ⟨_, rfl⟩
    rw [hnb] at RC HNB HNE ⊢
    clear hnb
    generalize v1.alloc (.cells (itL x).toArray 53) = v2 at *
    rw [Flow.wpPreF_call]
    rw [Flow.callAt_eq]
    simp only [List.getElem?_toArray, List.getElem?_cons_succ, List.getElem?_cons_zero, Act.put, List.setIfInBounds_toArray, List.set_cons_succ, List.set_cons_zero]
    rw [if_pos (by rfl)]
    refine Flow.wp_behind (fun K hK => ?_)
    have hbn := Nat.le_trans HWN (Nat.le_refl _)
    have hrc := (H.out.rd.below P2.out.bel).cells
    have hnb : N ≤ v2.heap.size := Nat.le_of_lt HNL
    refine wp_appC Tryz.underlying22 HI.out.1 HI.out.2.1 HI.out.2.2.1 HI.out.2.2.2 rfl (by decide) _ _ rfl N _ 0 _ OW0.out rfl A B.wait.length c (B.wait.flatMap itL) (flatG_len itL itL_length _) hrc rfl (flat_oneG itL one_itL _) (by rw [Nat.zero_add]; omega) (by decide) hnb ?_
    intro v3 v3 o3 g3 b3
    refine hK.out _ _ ⟨keep3 HN b3, ?_⟩
    clear hK K
    have P3 := Lib.hid (P2.out.low HN b3)
    have Q3 := Lib.hid (Q2.out.trans (b3.mono HWN))
    rw [Nat.zero_add, List.nil_append] at o3
    have OW3 := Lib.hid o3
    have HNL := Nat.lt_of_lt_of_le HNL b3.size
    have RC := Lib.hid (RC.out.grown1 g3 HNB (by simpa [Value.ownBlock] using HNE))
    clear P2 Q2 o3 g3 b3 hrc hnb hbn OW0
    rw [Flow.wpPreF_call]
    rw [Flow.callAt_eq]
    simp only [List.getElem?_toArray, List.getElem?_cons_succ, List.getElem?_cons_zero, Act.put, List.setIfInBounds_toArray, List.set_cons_succ, List.set_cons_zero]
    rw [if_pos (by rfl)]
    refine Flow.wp_behind (fun K hK => ?_)
    have hnb : N ≤ v3.heap.size := Nat.le_of_lt HNL
    refine wp_appC Tryz.underlying22 HI.out.1 HI.out.2.1 HI.out.2.2.1 HI.out.2.2.2 rfl (by decide) _ _ rfl N _ B.wait.length _ OW3.out rfl (some ⟨nb, 0, none⟩) 1 1 (itL x) (by rw [itL_length]) RC.out rfl (one_itL x) (by omega) (by decide) hnb ?_
    intro v6 v4 o6 g6 b6
    refine hK.out _ _ ⟨keep3 HN b6, ?_⟩
    clear hK K
    have P4 := Lib.hid (P3.out.low HN b6)
    have Q4 := Lib.hid (Q3.out.trans (b6.mono HWN))
    obtain ⟨A6, c6, rfl⟩ := own2_slice o6
    have OW6 := Lib.hid o6
    clear P3 Q3 o6 g6 b6 hnb OW3 RC
    haveI nonE := cls_keep (B := w.heap.size) (K := [w.heap.size, w.heap.size + 1, w.heap.size + 2]) v4
    rw [Flow.wpPreF_held]
    simp only [Flow.pick, List.getElem?_toArray, List.getElem?_cons_succ, List.getElem?_cons_zero, Act.put, List.setIfInBounds_toArray, List.set_cons_succ, List.set_cons_zero]
    go_big_quiet_step (fail)
    refine wpQuiet_nil ?_
    clear nonE
    rw [Flow.wpPreF_tail, Flow.wpSched_step]
    simp only [Flow.pick]
    refine wpQuiet_nil ?_
    rw [Flow.callAt_eq]
    simp only [List.getElem?_toArray, List.getElem?_cons_succ, List.getElem?_cons_zero, Act.put]
    rw [if_pos (by rfl)]
    refine Flow.wp_behind (fun K hK => ?_)
    have cc5 := blk_cell P4.out.src 5
    have ff5 := blk_free P4.out.src 5
    refine wp_storeW _ _ rfl rfl w.heap.size 5 A6 (B.wait.length + 1) c6 rfl rfl _ cc5 ff5 ?_
    refine hK.out _ _ ⟨trivial, ?_⟩
    clear hK K cc5 ff5
    rw [Flow.wpSched_done]
    simp only [Flow.pick]
    refine wpQuiet_nil ?_
    have OX : Hid (OaS w (v4.setCell ⟨w.heap.size, 5, none⟩ (.slice A6 (B.wait.length + 1) c6)) ⟨B.ti, B.vo, B.cap, B.mins, B.taken, B.wait ++ [x], F, B.added⟩ A6 c6 A2 c2 x) := Lib.hid (P4.out.set5 A6 c6 x)
    have hk : But w.heap.size v4 (v4.setCell ⟨w.heap.size, 5, none⟩ (.slice A6 (B.wait.length + 1) c6)) := (But.refl _ _).setCell _
    have OWX := Lib.hid (own_base (own_but OW6.out (show w.heap.size < N by omega) hk) HN)
    clear hk
    generalize v4.setCell ⟨w.heap.size, 5, none⟩ (.slice A6 (B.wait.length + 1) c6) = wz at *
    go_wp2_with fail
    go_meet
    exact ⟨A6, c6, OX, OWX⟩
  ·rw [Flow.callAt_eq]
   simp only [List.getElem?_toArray, List.getElem?_cons_succ, List.getElem?_cons_zero, Act.put, List.setIfInBounds_toArray, List.set_cons_succ, List.set_cons_zero]
   rw [if_pos (by rfl)]
   refine Flow.wp_behind (fun K hK => ?_)
   refine wp_one_ref _ rfl x rfl ?_
   refine hK.out _ _ ⟨keep3 O5.out.sz (below_new _ _), ?_⟩
   clear hK K
   have bn := below_new wd (.cells (itL x).toArray 53)
   have P1 := Lib.hid (O5.out.below bn)
   have Q1 := Lib.hid (BD5.out.tr bn)
   have RC := Lib.hid (RdC.new wd (itL x) 53)
   have HNB : wd.heap.size < (wd.alloc (.cells (itL x).toArray 53)).heap.size := by rw [World.size_alloc]; omega
   clear O5 BD5 bn
   obtain ⟨nb, hnb⟩ : ∃ q, wd.heap.size = q := ⟨_, rfl⟩
   rw [hnb] at RC HNB ⊢
   clear hnb
   generalize wd.alloc (.cells (itL x).toArray 53) = v1 at *
   rw [Flow.wpPreF_call]
   rw [Flow.callAt_eq]
   simp only [List.getElem?_toArray, List.getElem?_cons_zero, Act.put, List.setIfInBounds_toArray, List.set_cons_succ, List.set_cons_zero]
   rw [if_pos (by rfl)]
   refine Flow.wp_behind (fun K hK => ?_)
   go_wp2_with fail
   refine hK.out _ _ ⟨keep3 P1.out.sz (below_new _ _), ?_⟩
   clear hK K
   have bn := below_new v1 (.cells #[] 53)
   have P2 := Lib.hid (P1.out.below bn)
   have Q2 := Lib.hid (Q1.out.tr bn)
   have OW0 := Lib.hid (own2_empty v1 v1.heap.size 36 53 (Nat.le_refl _))
   have hsz := P1.out.sz
   have hbs := Q1.out.size
   have RC := Lib.hid (rdC_below RC.out bn)
   have HNE : nb ≠ v1.heap.size := by omega
   have HNB := Nat.lt_of_lt_of_le HNB bn.size
   clear P1 Q1 bn
   obtain ⟨N, hN⟩ : ∃ q, v1.heap.size = q := ⟨_, rfl⟩
   have HN : w.heap.size + 3 ≤ N := by omega
   have HWN : wd.heap.size ≤ N := by omega
   rw [hN] at OW0 HNE ⊢
   have HNL : N < (v1.alloc (.cells #[] 53)).heap.size := by rw [World.size_alloc]; omega
   clear hN hsz hbs
   generalize v1.alloc (.cells #[] 53) = v2 at *
   rw [Flow.wpPreF_call]
   rw [Flow.callAt_eq]
   simp only [List.getElem?_toArray, List.getElem?_cons_succ, List.getElem?_cons_zero, Act.put, List.setIfInBounds_toArray, List.set_cons_succ, List.set_cons_zero]
   rw [if_pos (by rfl)]
   refine Flow.wp_behind (fun K hK => ?_)
   have hbn := Nat.le_trans HWN (Nat.le_refl _)
   have hrc := (H.out.rd.below P2.out.bel).cells
   have hnb : N ≤ v2.heap.size := Nat.le_of_lt HNL
   refine wp_appC Tryz.underlying22 HI.out.1 HI.out.2.1 HI.out.2.2.1 HI.out.2.2.2 rfl (by decide) _ _ rfl N _ 0 _ OW0.out rfl A B.wait.length c (B.wait.flatMap itL) (flatG_len itL itL_length _) hrc rfl (flat_oneG itL one_itL _) (by rw [Nat.zero_add]; omega) (by decide) hnb ?_
   intro v3 v3 o3 g3 b3
   refine hK.out _ _ ⟨keep3 HN b3, ?_⟩
   clear hK K
   have P3 := Lib.hid (P2.out.low HN b3)
   have Q3 := Lib.hid (Q2.out.trans (b3.mono HWN))
   rw [Nat.zero_add, List.nil_append] at o3
   have OW3 := Lib.hid o3
   have HNL := Nat.lt_of_lt_of_le HNL b3.size
   have RC := Lib.hid (RC.out.grown1 g3 HNB (by simpa [Value.ownBlock] using HNE))
   clear P2 Q2 o3 g3 b3 hrc hnb hbn OW0
   rw [Flow.wpPreF_call]
   rw [Flow.callAt_eq]
   simp only [List.getElem?_toArray, List.getElem?_cons_succ, List.getElem?_cons_zero, Act.put, List.setIfInBounds_toArray, List.set_cons_succ, List.set_cons_zero]
   rw [if_pos (by rfl)]
   refine Flow.wp_behind (fun K hK => ?_)
   have hnb : N ≤ v3.heap.size := Nat.le_of_lt HNL
   refine wp_appC Tryz.underlying22 HI.out.1 HI.out.2.1 HI.out.2.2.1 HI.out.2.2.2 rfl (by decide) _ _ rfl N _ B.wait.length _ OW3.out rfl (some ⟨nb, 0, none⟩) 1 1 (itL x) (by rw [itL_length]) RC.out rfl (one_itL x) (by omega) (by decide) hnb ?_
   intro v6 v4 o6 g6 b6
   refine hK.out _ _ ⟨keep3 HN b6, ?_⟩
   clear hK K
   have P4 := Lib.hid (P3.out.low HN b6)
   have Q4 := Lib.hid (Q3.out.trans (b6.mono HWN))
   obtain ⟨A6, c6, rfl⟩ := own2_slice o6
   have OW6 := Lib.hid o6
   clear P3 Q3 o6 g6 b6 hnb OW3 RC
   haveI nonE := cls_keep (B := w.heap.size) (K := [w.heap.size, w.heap.size + 1, w.heap.size + 2]) v4
   rw [Flow.wpPreF_held]
   simp only [Flow.pick, List.getElem?_toArray, List.getElem?_cons_succ, List.getElem?_cons_zero, Act.put, List.setIfInBounds_toArray, List.set_cons_succ, List.set_cons_zero]
   go_big_quiet_step (fail)
   refine wpQuiet_nil ?_
   clear nonE
   rw [Flow.wpPreF_tail, Flow.wpSched_step]
   simp only [Flow.pick]
   refine wpQuiet_nil ?_
   rw [Flow.callAt_eq]
   simp only [List.getElem?_toArray, List.getElem?_cons_succ, List.getElem?_cons_zero, Act.put]
   rw [if_pos (by rfl)]
   refine Flow.wp_behind (fun K hK => ?_)
   have cc5 := blk_cell P4.out.src 5
   have ff5 := blk_free P4.out.src 5
   refine wp_storeW _ _ rfl rfl w.heap.size 5 A6 (B.wait.length + 1) c6 rfl rfl _ cc5 ff5 ?_
   refine hK.out _ _ ⟨trivial, ?_⟩
   clear hK K cc5 ff5
   rw [Flow.wpSched_done]
   simp only [Flow.pick]
   refine wpQuiet_nil ?_
   have OX : Hid (OaS w (v4.setCell ⟨w.heap.size, 5, none⟩ (.slice A6 (B.wait.length + 1) c6)) ⟨B.ti, B.vo, B.cap, B.mins, B.taken, B.wait ++ [x], F, B.added⟩ A6 c6 A2 c2 x) := Lib.hid (P4.out.set5 A6 c6 x)
   have hk : But w.heap.size v4 (v4.setCell ⟨w.heap.size, 5, none⟩ (.slice A6 (B.wait.length + 1) c6)) := (But.refl _ _).setCell _
   have OWX := Lib.hid (own_base (own_but OW6.out (show w.heap.size < N by omega) hk) HN)
   clear hk
   generalize v4.setCell ⟨w.heap.size, 5, none⟩ (.slice A6 (B.wait.length + 1) c6) = wz at *
   go_wp2_with fail
   go_meet
   exact ⟨A6, c6, OX, OWX⟩
 obtain ⟨A5, c5, OC', OI⟩ := hcut
 clear OC
 have OC := OC'
 clear OC'
 go_upto_region 16 with fail
 go_cut [] (fun wx => ∃ A6 c6, Hid (OaS w wx ⟨B.ti, B.vo, B.cap, B.mins, B.taken, B.wait ++ [x], F, B.added ++ [x.ky]⟩ A5 c5 A6 c6 x) ∧ Hid (wx.ownsRow (w.heap.size + 3) 51 32 (.slice A6 (B.added.length + 1) c6) (B.added.length + 1) (B.added.flatMap idL ++ idL x.ky)) ∧ Hid (wx.ownsRow (w.heap.size + 3) 53 36 (.slice A5 (B.wait.length + 1) c5) (B.wait.length + 1) (B.wait.flatMap itL ++ itL x)))
 case first =>
  have bd := (Below.refl wc.heap.size wc).drew
  refine Flow.wp_region_preF (KeepT w.heap.size [w.heap.size, w.heap.size + 1, w.heap.size + 2]) (KeepT.refl _ _) (fun _ _ _ h k => h.trans k) [9] (.held [1, 2, 4, 5] (.fork 0 6 (.fork 3 6 (.call 6 (.call 7 (.held [8] (.tail (.step [] 9 (.done [])))))) (.call 3 (.call 7 (.held [8] (.tail (.step [] 9 (.done []))))))) (.call 0 (.call 3 (.call 7 (.held [8] (.tail (.step [] 9 (.done []))))))))) (by kernel_rfl) (by kernel_rfl) ?_
  have O5 : Hid (OaS w wc.drew ⟨B.ti, B.vo, B.cap, B.mins, B.taken, B.wait ++ [x], F, B.added⟩ A5 c5 A2 c2 x) := Lib.hid (OC.out.below bd)
  have OIK := Lib.hid (own_below OI.out bd)
  clear OI
  clear bd OC
  generalize World.drew _ = wd at *
  have BD5 := Lib.hid (Below.refl wd.heap.size wd)
  have q5 := fun t => KeepT.cell (B := w.heap.size) (K := [w.heap.size, w.heap.size + 1, w.heap.size + 2]) (by simp) (show wd.cell? ⟨w.heap.size, 7, none⟩ = some (.slice A2 B.added.length c2) from blk_cell O5.out.src 7) t
  have qR : ∀ t : Flow.Cls (KeepT w.heap.size [w.heap.size, w.heap.size + 1, w.heap.size + 2] wd), t.val.rangeAt (w.heap.size + 1) 3 (idL x.ky) := fun t => it_ky ((t.ok.2 (w.heap.size + 1) (by simp)).trans O5.out.it)
  haveI nonE := cls_keep (B := w.heap.size) (K := [w.heap.size, w.heap.size + 1, w.heap.size + 2]) wd
  rw [Flow.wpPreF_held]
  simp only [Flow.pick, List.getElem?_toArray, List.getElem?_cons_succ, List.getElem?_cons_zero]
  iterate 3 go_big_quiet_step (fail)
  refine BigFrame.wpQuiet_want rfl (fun K hK => quiet_load_mid 51 _ rfl (w.heap.size + 1) 3 rfl (idL x.ky) _ (fun _ he => by obtain ⟨t, rfl⟩ := he; exact qR t) Tryz.underlying51 rfl (by rw [idL_length]; exact id_size5) (hK _ ?_))
  clear hK K
  simp only [Act.put, List.setIfInBounds_toArray, List.set_cons_succ, List.set_cons_zero]
  refine wpQuiet_nil ?_
  clear nonE q5 qR
  rw [Flow.wpPreF_fork]
  refine ⟨?_, ?_⟩
  ·rw [Flow.callAt_eq]
   simp only [List.getElem?_toArray, List.getElem?_cons_zero, Act.put, List.setIfInBounds_toArray, List.set_cons_succ, List.set_cons_zero]
   rw [if_pos (by rfl)]
   refine Flow.wp_behind (fun K hK => ?_)
   go_wp2_with fail
   refine hK.out _ _ ⟨keep3 O5.out.sz (below_new _ _), ?_⟩
   clear hK K
   have bn := below_new wd (.cells #[] 51)
   have P1 := Lib.hid (O5.out.below bn)
   have Q1 := Lib.hid (BD5.out.tr bn)
   have OW0 := Lib.hid (own2_empty wd wd.heap.size 32 51 (Nat.le_refl _))
   have hsz := O5.out.sz
   have hbs := BD5.out.size
   clear O5 BD5 bn
   obtain ⟨N, hN⟩ : ∃ q, wd.heap.size = q := ⟨_, rfl⟩
   have HN : w.heap.size + 3 ≤ N := by omega
   have HWN : wd.heap.size ≤ N := by omega
   rw [hN] at OW0 ⊢
   have HNL : N < (wd.alloc (.cells #[] 51)).heap.size := by rw [World.size_alloc]; omega
   clear hN hsz hbs
   generalize wd.alloc (.cells #[] 51) = v1 at *
   rw [Flow.wpPreF_fork]
   refine ⟨?_, ?_⟩
   ·rw [Flow.callAt_eq]
    simp only [List.getElem?_toArray, List.getElem?_cons_succ, List.getElem?_cons_zero, Act.put, List.setIfInBounds_toArray, List.set_cons_succ, List.set_cons_zero]
    rw [if_pos (by rfl)]
    refine Flow.wp_behind (fun K hK => ?_)
    have hbn := Nat.le_trans HWN (Nat.le_refl _)
    have hrc := (H.out.rk.below P1.out.bel).cells
    have hnb : N ≤ v1.heap.size := Nat.le_of_lt HNL
    refine wp_appC Tryz.underlying71 HJ.out.1 HJ.out.2.1 HJ.out.2.2.1 HJ.out.2.2.2 rfl (by decide) _ _ rfl N _ 0 _ OW0.out rfl A2 B.added.length c2 (B.added.flatMap idL) (flatG_len idL idL_length _) hrc rfl (flat_oneG idL one_idL _) (by rw [Nat.zero_add]; omega) (by decide) hnb ?_
    intro v3 v2 o3 g3 b3
    refine hK.out _ _ ⟨keep3 HN b3, ?_⟩
    clear hK K
    have P2 := Lib.hid (P1.out.low HN b3)
    have Q2 := Lib.hid (Q1.out.trans (b3.mono HWN))
    rw [Nat.zero_add, List.nil_append] at o3
    have OW3 := Lib.hid o3
    have HNL := Nat.lt_of_lt_of_le HNL b3.size
    clear P1 Q1 o3 g3 b3 hrc hnb hbn OW0
    rw [Flow.wpPreF_call]
    rw [Flow.callAt_eq]
    simp only [List.getElem?_toArray, List.getElem?_cons_succ, List.getElem?_cons_zero, Act.put, List.setIfInBounds_toArray, List.set_cons_succ, List.set_cons_zero]
    rw [if_pos (by rfl)]
    refine Flow.wp_behind (fun K hK => ?_)
    refine wp_one_id _ rfl x.ky rfl ?_
    refine hK.out _ _ ⟨keep3 P2.out.sz (below_new _ _), ?_⟩
    clear hK K
    have bn := below_new v2 (.cells (idL x.ky).toArray 51)
    have P3 := Lib.hid (P2.out.below bn)
    have Q3 := Lib.hid (Q2.out.tr bn)
    have RC := Lib.hid (RdC.new v2 (idL x.ky) 51)
    have HNB : v2.heap.size < (v2.alloc (.cells (idL x.ky).toArray 51)).heap.size := by rw [World.size_alloc]; omega
    have OW3 := Lib.hid (own_below OW3.out bn)
    have HNE : v2.heap.size ≠ N := by omega
    have HNL := Nat.lt_of_lt_of_le HNL bn.size
    clear P2 Q2 bn
    obtain ⟨nb, hnb⟩ : ∃ q, v2.heap.size = q := ⟨_, rfl⟩
    rw [hnb] at RC HNB HNE ⊢
    clear hnb
    generalize v2.alloc (.cells (idL x.ky).toArray 51) = v3 at *
    rw [Flow.wpPreF_call]
    rw [Flow.callAt_eq]
    simp only [List.getElem?_toArray, List.getElem?_cons_succ, List.getElem?_cons_zero, Act.put, List.setIfInBounds_toArray, List.set_cons_succ, List.set_cons_zero]
    rw [if_pos (by rfl)]
    refine Flow.wp_behind (fun K hK => ?_)
    have hnb : N ≤ v3.heap.size := Nat.le_of_lt HNL
    refine wp_appC Tryz.underlying71 HJ.out.1 HJ.out.2.1 HJ.out.2.2.1 HJ.out.2.2.2 rfl (by decide) _ _ rfl N _ B.added.length _ OW3.out rfl (some ⟨nb, 0, none⟩) 1 1 (idL x.ky) (by rw [idL_length]) RC.out rfl (one_idL x.ky) (by omega) (by decide) hnb ?_
    intro v6 v4 o6 g6 b6
    refine hK.out _ _ ⟨keep3 HN b6, ?_⟩
    clear hK K
    have P4 := Lib.hid (P3.out.low HN b6)
    have Q4 := Lib.hid (Q3.out.trans (b6.mono HWN))
    obtain ⟨A6, c6, rfl⟩ := own2_slice o6
    have OW6 := Lib.hid o6
    clear P3 Q3 o6 g6 b6 hnb OW3 RC
    haveI nonE := cls_keep (B := w.heap.size) (K := [w.heap.size, w.heap.size + 1, w.heap.size + 2]) v4
    rw [Flow.wpPreF_held]
    simp only [Flow.pick, List.getElem?_toArray, List.getElem?_cons_succ, List.getElem?_cons_zero, Act.put, List.setIfInBounds_toArray, List.set_cons_succ, List.set_cons_zero]
    go_big_quiet_step (fail)
    refine wpQuiet_nil ?_
    clear nonE
    rw [Flow.wpPreF_tail, Flow.wpSched_step]
    simp only [Flow.pick]
    refine wpQuiet_nil ?_
    rw [Flow.callAt_eq]
    simp only [List.getElem?_toArray, List.getElem?_cons_succ, List.getElem?_cons_zero, Act.put]
    rw [if_pos (by rfl)]
    refine Flow.wp_behind (fun K hK => ?_)
    have cc5 := blk_cell P4.out.src 7
    have ff5 := blk_free P4.out.src 7
    refine wp_storeK _ _ rfl rfl w.heap.size 7 A6 (B.added.length + 1) c6 rfl rfl _ cc5 ff5 ?_
    refine hK.out _ _ ⟨trivial, ?_⟩
    clear hK K cc5 ff5
    rw [Flow.wpSched_done]
    simp only [Flow.pick]
    refine wpQuiet_nil ?_
    have OX : Hid (OaS w (v4.setCell ⟨w.heap.size, 7, none⟩ (.slice A6 (B.added.length + 1) c6)) ⟨B.ti, B.vo, B.cap, B.mins, B.taken, B.wait ++ [x], F, B.added ++ [x.ky]⟩ A5 c5 A6 c6 x) := Lib.hid (P4.out.set7 A6 c6 x.ky)
    have hk : But w.heap.size v4 (v4.setCell ⟨w.heap.size, 7, none⟩ (.slice A6 (B.added.length + 1) c6)) := (But.refl _ _).setCell _
    have OWX := Lib.hid (own_base (own_but OW6.out (show w.heap.size < N by omega) hk) HN)
    have OIX := Lib.hid (own_but (own_below OIK.out Q4.out) (show w.heap.size < w.heap.size + 3 by omega) hk)
    clear hk
    generalize v4.setCell ⟨w.heap.size, 7, none⟩ (.slice A6 (B.added.length + 1) c6) = wz at *
    go_wp2_with fail
    go_meet
    exact ⟨A6, c6, OX, OWX, OIX⟩
   ·rw [Flow.callAt_eq]
    simp only [List.getElem?_toArray, List.getElem?_cons_succ, List.getElem?_cons_zero, Act.put, List.setIfInBounds_toArray, List.set_cons_succ, List.set_cons_zero]
    rw [if_pos (by rfl)]
    refine Flow.wp_behind (fun K hK => ?_)
    refine wp_one_id _ rfl x.ky rfl ?_
    refine hK.out _ _ ⟨keep3 P1.out.sz (below_new _ _), ?_⟩
    clear hK K
    have bn := below_new v1 (.cells (idL x.ky).toArray 51)
    have P2 := Lib.hid (P1.out.below bn)
    have Q2 := Lib.hid (Q1.out.tr bn)
    have RC := Lib.hid (RdC.new v1 (idL x.ky) 51)
    have HNB : v1.heap.size < (v1.alloc (.cells (idL x.ky).toArray 51)).heap.size := by rw [World.size_alloc]; omega
    have OW0 := Lib.hid (own_below OW0.out bn)
    have HNE : v1.heap.size ≠ N := by omega
    have HNL := Nat.lt_of_lt_of_le HNL bn.size
    clear P1 Q1 bn
    obtain ⟨nb, hnb⟩ : ∃ q, v1.heap.size = q := ⟨_, rfl⟩
    rw [hnb] at RC HNB HNE ⊢
    clear hnb
    generalize v1.alloc (.cells (idL x.ky).toArray 51) = v2 at *
    rw [Flow.wpPreF_call]
    rw [Flow.callAt_eq]
    simp only [List.getElem?_toArray, List.getElem?_cons_succ, List.getElem?_cons_zero, Act.put, List.setIfInBounds_toArray, List.set_cons_succ, List.set_cons_zero]
    rw [if_pos (by rfl)]
    refine Flow.wp_behind (fun K hK => ?_)
    have hbn := Nat.le_trans HWN (Nat.le_refl _)
    have hrc := (H.out.rk.below P2.out.bel).cells
    have hnb : N ≤ v2.heap.size := Nat.le_of_lt HNL
    refine wp_appC Tryz.underlying71 HJ.out.1 HJ.out.2.1 HJ.out.2.2.1 HJ.out.2.2.2 rfl (by decide) _ _ rfl N _ 0 _ OW0.out rfl A2 B.added.length c2 (B.added.flatMap idL) (flatG_len idL idL_length _) hrc rfl (flat_oneG idL one_idL _) (by rw [Nat.zero_add]; omega) (by decide) hnb ?_
    intro v3 v3 o3 g3 b3
    refine hK.out _ _ ⟨keep3 HN b3, ?_⟩
    clear hK K
    have P3 := Lib.hid (P2.out.low HN b3)
    have Q3 := Lib.hid (Q2.out.trans (b3.mono HWN))
    rw [Nat.zero_add, List.nil_append] at o3
    have OW3 := Lib.hid o3
    have HNL := Nat.lt_of_lt_of_le HNL b3.size
    have RC := Lib.hid (RC.out.grown1 g3 HNB (by simpa [Value.ownBlock] using HNE))
    clear P2 Q2 o3 g3 b3 hrc hnb hbn OW0
    rw [Flow.wpPreF_call]
    rw [Flow.callAt_eq]
    simp only [List.getElem?_toArray, List.getElem?_cons_succ, List.getElem?_cons_zero, Act.put, List.setIfInBounds_toArray, List.set_cons_succ, List.set_cons_zero]
    rw [if_pos (by rfl)]
    refine Flow.wp_behind (fun K hK => ?_)
    have hnb : N ≤ v3.heap.size := Nat.le_of_lt HNL
    refine wp_appC Tryz.underlying71 HJ.out.1 HJ.out.2.1 HJ.out.2.2.1 HJ.out.2.2.2 rfl (by decide) _ _ rfl N _ B.added.length _ OW3.out rfl (some ⟨nb, 0, none⟩) 1 1 (idL x.ky) (by rw [idL_length]) RC.out rfl (one_idL x.ky) (by omega) (by decide) hnb ?_
    intro v6 v4 o6 g6 b6
    refine hK.out _ _ ⟨keep3 HN b6, ?_⟩
    clear hK K
    have P4 := Lib.hid (P3.out.low HN b6)
    have Q4 := Lib.hid (Q3.out.trans (b6.mono HWN))
    obtain ⟨A6, c6, rfl⟩ := own2_slice o6
    have OW6 := Lib.hid o6
    clear P3 Q3 o6 g6 b6 hnb OW3 RC
    haveI nonE := cls_keep (B := w.heap.size) (K := [w.heap.size, w.heap.size + 1, w.heap.size + 2]) v4
    rw [Flow.wpPreF_held]
    simp only [Flow.pick, List.getElem?_toArray, List.getElem?_cons_succ, List.getElem?_cons_zero, Act.put, List.setIfInBounds_toArray, List.set_cons_succ, List.set_cons_zero]
    go_big_quiet_step (fail)
    refine wpQuiet_nil ?_
    clear nonE
    rw [Flow.wpPreF_tail, Flow.wpSched_step]
    simp only [Flow.pick]
    refine wpQuiet_nil ?_
    rw [Flow.callAt_eq]
    simp only [List.getElem?_toArray, List.getElem?_cons_succ, List.getElem?_cons_zero, Act.put]
    rw [if_pos (by rfl)]
    refine Flow.wp_behind (fun K hK => ?_)
    have cc5 := blk_cell P4.out.src 7
    have ff5 := blk_free P4.out.src 7
    refine wp_storeK _ _ rfl rfl w.heap.size 7 A6 (B.added.length + 1) c6 rfl rfl _ cc5 ff5 ?_
    refine hK.out _ _ ⟨trivial, ?_⟩
    clear hK K cc5 ff5
    rw [Flow.wpSched_done]
    simp only [Flow.pick]
    refine wpQuiet_nil ?_
    have OX : Hid (OaS w (v4.setCell ⟨w.heap.size, 7, none⟩ (.slice A6 (B.added.length + 1) c6)) ⟨B.ti, B.vo, B.cap, B.mins, B.taken, B.wait ++ [x], F, B.added ++ [x.ky]⟩ A5 c5 A6 c6 x) := Lib.hid (P4.out.set7 A6 c6 x.ky)
    have hk : But w.heap.size v4 (v4.setCell ⟨w.heap.size, 7, none⟩ (.slice A6 (B.added.length + 1) c6)) := (But.refl _ _).setCell _
    have OWX := Lib.hid (own_base (own_but OW6.out (show w.heap.size < N by omega) hk) HN)
    have OIX := Lib.hid (own_but (own_below OIK.out Q4.out) (show w.heap.size < w.heap.size + 3 by omega) hk)
    clear hk
    generalize v4.setCell ⟨w.heap.size, 7, none⟩ (.slice A6 (B.added.length + 1) c6) = wz at *
    go_wp2_with fail
    go_meet
    exact ⟨A6, c6, OX, OWX, OIX⟩
  ·rw [Flow.callAt_eq]
   simp only [List.getElem?_toArray, List.getElem?_cons_succ, List.getElem?_cons_zero, Act.put, List.setIfInBounds_toArray, List.set_cons_succ, List.set_cons_zero]
   rw [if_pos (by rfl)]
   refine Flow.wp_behind (fun K hK => ?_)
   refine wp_one_id _ rfl x.ky rfl ?_
   refine hK.out _ _ ⟨keep3 O5.out.sz (below_new _ _), ?_⟩
   clear hK K
   have bn := below_new wd (.cells (idL x.ky).toArray 51)
   have P1 := Lib.hid (O5.out.below bn)
   have Q1 := Lib.hid (BD5.out.tr bn)
   have RC := Lib.hid (RdC.new wd (idL x.ky) 51)
   have HNB : wd.heap.size < (wd.alloc (.cells (idL x.ky).toArray 51)).heap.size := by rw [World.size_alloc]; omega
   clear O5 BD5 bn
   obtain ⟨nb, hnb⟩ : ∃ q, wd.heap.size = q := ⟨_, rfl⟩
   rw [hnb] at RC HNB ⊢
   clear hnb
   generalize wd.alloc (.cells (idL x.ky).toArray 51) = v1 at *
   rw [Flow.wpPreF_call]
   rw [Flow.callAt_eq]
   simp only [List.getElem?_toArray, List.getElem?_cons_zero, Act.put, List.setIfInBounds_toArray, List.set_cons_succ, List.set_cons_zero]
   rw [if_pos (by rfl)]
   refine Flow.wp_behind (fun K hK => ?_)
   go_wp2_with fail
   refine hK.out _ _ ⟨keep3 P1.out.sz (below_new _ _), ?_⟩
   clear hK K
   have bn := below_new v1 (.cells #[] 51)
   have P2 := Lib.hid (P1.out.below bn)
   have Q2 := Lib.hid (Q1.out.tr bn)
   have OW0 := Lib.hid (own2_empty v1 v1.heap.size 32 51 (Nat.le_refl _))
   have hsz := P1.out.sz
   have hbs := Q1.out.size
   have RC := Lib.hid (rdC_below RC.out bn)
   have HNE : nb ≠ v1.heap.size := by omega
   have HNB := Nat.lt_of_lt_of_le HNB bn.size
   clear P1 Q1 bn
   obtain ⟨N, hN⟩ : ∃ q, v1.heap.size = q := ⟨_, rfl⟩
   have HN : w.heap.size + 3 ≤ N := by omega
   have HWN : wd.heap.size ≤ N := by omega
   rw [hN] at OW0 HNE ⊢
   have HNL : N < (v1.alloc (.cells #[] 51)).heap.size := by rw [World.size_alloc]; omega
   clear hN hsz hbs
   generalize v1.alloc (.cells #[] 51) = v2 at *
   rw [Flow.wpPreF_call]
   rw [Flow.callAt_eq]
   simp only [List.getElem?_toArray, List.getElem?_cons_succ, List.getElem?_cons_zero, Act.put, List.setIfInBounds_toArray, List.set_cons_succ, List.set_cons_zero]
   rw [if_pos (by rfl)]
   refine Flow.wp_behind (fun K hK => ?_)
   have hbn := Nat.le_trans HWN (Nat.le_refl _)
   have hrc := (H.out.rk.below P2.out.bel).cells
   have hnb : N ≤ v2.heap.size := Nat.le_of_lt HNL
   refine wp_appC Tryz.underlying71 HJ.out.1 HJ.out.2.1 HJ.out.2.2.1 HJ.out.2.2.2 rfl (by decide) _ _ rfl N _ 0 _ OW0.out rfl A2 B.added.length c2 (B.added.flatMap idL) (flatG_len idL idL_length _) hrc rfl (flat_oneG idL one_idL _) (by rw [Nat.zero_add]; omega) (by decide) hnb ?_
   intro v3 v3 o3 g3 b3
   refine hK.out _ _ ⟨keep3 HN b3, ?_⟩
   clear hK K
   have P3 := Lib.hid (P2.out.low HN b3)
   have Q3 := Lib.hid (Q2.out.trans (b3.mono HWN))
   rw [Nat.zero_add, List.nil_append] at o3
   have OW3 := Lib.hid o3
   have HNL := Nat.lt_of_lt_of_le HNL b3.size
   have RC := Lib.hid (RC.out.grown1 g3 HNB (by simpa [Value.ownBlock] using HNE))
   clear P2 Q2 o3 g3 b3 hrc hnb hbn OW0
   rw [Flow.wpPreF_call]
   rw [Flow.callAt_eq]
   simp only [List.getElem?_toArray, List.getElem?_cons_succ, List.getElem?_cons_zero, Act.put, List.setIfInBounds_toArray, List.set_cons_succ, List.set_cons_zero]
   rw [if_pos (by rfl)]
   refine Flow.wp_behind (fun K hK => ?_)
   have hnb : N ≤ v3.heap.size := Nat.le_of_lt HNL
   refine wp_appC Tryz.underlying71 HJ.out.1 HJ.out.2.1 HJ.out.2.2.1 HJ.out.2.2.2 rfl (by decide) _ _ rfl N _ B.added.length _ OW3.out rfl (some ⟨nb, 0, none⟩) 1 1 (idL x.ky) (by rw [idL_length]) RC.out rfl (one_idL x.ky) (by omega) (by decide) hnb ?_
   intro v6 v4 o6 g6 b6
   refine hK.out _ _ ⟨keep3 HN b6, ?_⟩
   clear hK K
   have P4 := Lib.hid (P3.out.low HN b6)
   have Q4 := Lib.hid (Q3.out.trans (b6.mono HWN))
   obtain ⟨A6, c6, rfl⟩ := own2_slice o6
   have OW6 := Lib.hid o6
   clear P3 Q3 o6 g6 b6 hnb OW3 RC
   haveI nonE := cls_keep (B := w.heap.size) (K := [w.heap.size, w.heap.size + 1, w.heap.size + 2]) v4
   rw [Flow.wpPreF_held]
   simp only [Flow.pick, List.getElem?_toArray, List.getElem?_cons_succ, List.getElem?_cons_zero, Act.put, List.setIfInBounds_toArray, List.set_cons_succ, List.set_cons_zero]
   go_big_quiet_step (fail)
   refine wpQuiet_nil ?_
   clear nonE
   rw [Flow.wpPreF_tail, Flow.wpSched_step]
   simp only [Flow.pick]
   refine wpQuiet_nil ?_
   rw [Flow.callAt_eq]
   simp only [List.getElem?_toArray, List.getElem?_cons_succ, List.getElem?_cons_zero, Act.put]
   rw [if_pos (by rfl)]
   refine Flow.wp_behind (fun K hK => ?_)
   have cc5 := blk_cell P4.out.src 7
   have ff5 := blk_free P4.out.src 7
   refine wp_storeK _ _ rfl rfl w.heap.size 7 A6 (B.added.length + 1) c6 rfl rfl _ cc5 ff5 ?_
   refine hK.out _ _ ⟨trivial, ?_⟩
   clear hK K cc5 ff5
   rw [Flow.wpSched_done]
   simp only [Flow.pick]
   refine wpQuiet_nil ?_
   have OX : Hid (OaS w (v4.setCell ⟨w.heap.size, 7, none⟩ (.slice A6 (B.added.length + 1) c6)) ⟨B.ti, B.vo, B.cap, B.mins, B.taken, B.wait ++ [x], F, B.added ++ [x.ky]⟩ A5 c5 A6 c6 x) := Lib.hid (P4.out.set7 A6 c6 x.ky)
   have hk : But w.heap.size v4 (v4.setCell ⟨w.heap.size, 7, none⟩ (.slice A6 (B.added.length + 1) c6)) := (But.refl _ _).setCell _
   have OWX := Lib.hid (own_base (own_but OW6.out (show w.heap.size < N by omega) hk) HN)
   have OIX := Lib.hid (own_but (own_below OIK.out Q4.out) (show w.heap.size < w.heap.size + 3 by omega) hk)
   clear hk
   generalize v4.setCell ⟨w.heap.size, 7, none⟩ (.slice A6 (B.added.length + 1) c6) = wz at *
   go_wp2_with fail
   go_meet
   exact ⟨A6, c6, OX, OWX, OIX⟩
 obtain ⟨A6, c6, OC', OJ, OI'⟩ := hcut
 clear OC OI
 have e1 : (B.wait ++ [x]).length = B.wait.length + 1 := by simp
 have e2 : (B.wait ++ [x]).flatMap itL = B.wait.flatMap itL ++ itL x := by rw [List.flatMap_append, List.flatMap_cons, List.flatMap_nil, List.append_nil]
 have e3 : (B.added ++ [x.ky]).length = B.added.length + 1 := by simp
 have e4 : (B.added ++ [x.ky]).flatMap idL = B.added.flatMap idL ++ idL x.ky := by rw [List.flatMap_append, List.flatMap_cons, List.flatMap_nil, List.append_nil]
 have OI := Lib.hid OI'.out
 clear OI'
 rw [← e1, ← e2] at OI
 rw [← e3, ← e4] at OJ
 have E := Lib.hid (And.intro e1 e3)
 clear e1 e2 e3 e4
 have HMD : Hid (∀ W : World, But (w.heap.size + 2) wc W → BfM W ⟨B.ti, B.vo, B.cap, B.mins, B.taken, B.wait ++ [x], F, B.added ++ [x.ky]⟩ A5 c5 A6 c6) := Lib.hid (fun W hb => by
  have o1 := own_but OI.out (show w.heap.size + 2 < w.heap.size + 3 by omega) hb
  have o2 := own_but OJ.out (show w.heap.size + 2 < w.heap.size + 3 by omega) hb
  refine ⟨RdI.of_ownT o1 ?_, own2_le o1, RdK.of_own o2 ?_, own2_le o2, TyR.of_own o1, TyR.of_own o2⟩
  ·intro y hy
   rcases List.mem_append.1 hy with hy | hy
   ·exact H.out.rd.ky y hy
   ·rw [List.mem_singleton.1 hy]; exact HKL.out
  ·intro y hy
   rcases List.mem_append.1 hy with hy | hy
   ·exact H.out.rk.ky y hy
   ·rw [List.mem_singleton.1 hy]; exact HKL.out)
 clear OI OJ
 have RG := Lib.hid (range_blk (cs := bfL ⟨B.ti, B.vo, B.cap, B.mins, B.taken, B.wait ++ [x], F, B.added ++ [x.ky]⟩ A5 c5 A6 c6) OC'.out.src)
 have HRS := Lib.hid OC'.out.res
 have HBL := Lib.hid OC'.out.bel
 go_wp2_with (first | refine wpList_load_mid rfl 73 _ rfl w.heap.size 0 rfl (bfL ⟨B.ti, B.vo, B.cap, B.mins, B.taken, B.wait ++ [x], F, B.added ++ [x.ky]⟩ A5 c5 A6 c6) _ RG.out Tryz.underlying73 rfl (by kernel_rfl) ?_ | refine wpList_store_mid rfl 73 _ _ rfl (w.heap.size + 2) 0 (bfL ⟨B.ti, B.vo, B.cap, B.mins, B.taken, B.wait ++ [x], F, B.added ++ [x.ky]⟩ A5 c5 A6 c6).toArray rfl rfl (there_at HRS.out (Nat.le_refl 8)) (by kernel_rfl) (one_bf _ _ _ _ _ _ _ _ _ _ _ _) ?_)
 have hload := run_loadVar_mid (P := Tryz.prog) _ (w.heap.size + 2) 0 73 (bfL ⟨B.ti, B.vo, B.cap, B.mins, B.taken, B.wait ++ [x], F, B.added ++ [x.ky]⟩ A5 c5 A6 c6) _ (range_blk (cs := bfL ⟨B.ti, B.vo, B.cap, B.mins, B.taken, B.wait ++ [x], F, B.added ++ [x.ky]⟩ A5 c5 A6 c6) (bf_store HRS.out _ _ _ _ _ _ _ _)) Tryz.underlying73 rfl (by kernel_rfl)
 have hbt := but_setCells (b := w.heap.size + 2) (bfL ⟨B.ti, B.vo, B.cap, B.mins, B.taken, B.wait ++ [x], F, B.added ++ [x.ky]⟩ A5 c5 A6 c6) 0 wc
 have hbl := hbt.tail HBL.out (by omega)
 exact bodyPost_ret (v := .tuple #[bfA ⟨B.ti, B.vo, B.cap, B.mins, B.taken, B.wait ++ [x], F, B.added ++ [x.ky]⟩ A5 c5 A6 c6, i64 0]) (results_cell2 (a := 6) (i := 7) rfl rfl hload rfl) rfl ⟨⟨A5, c5, A6, c6, by rw [VYB.out, V.out], by rw [VYB.out]; exact HMD.out _ hbt⟩, hbl⟩
theorem results_cell22 {P : Program} {fn : Func} {tmps : Array Value} {w : World} {a b i : Nat} {ty tz : TypeId} {q r : Addr} {vs us x : Value} (hr : fn.results = #[.cell a ty, .cell b tz, .tmp i]) (ha : tmps.getD a undef = .pointer (some q)) (hl : (loadVar ty q).run P w = .ok vs w) (hb : tmps.getD b undef = .pointer (some r)) (hm : (loadVar tz r).run P w = .ok us w) (hx : tmps.getD i undef = x) : (results fn tmps).run P w = .ok (.tuple #[vs, us, x]) w := by
 unfold results
 rw [hr]
 have hA : (asAddr (tmps.getD a undef)).run P w = .ok q w := by rw [ha]; rfl
 have hB : (asAddr (tmps.getD b undef)).run P w = .ok r w := by rw [hb]; rfl
 have hmap : ∀ u : Sem (List Value), (Functor.map List.toArray u) = u >>= fun l => pure l.toArray := fun _ => rfl
 have hp : ∀ {α : Type} (u : α), (pure u : Sem α).run P w = .ok u w := fun _ => rfl
 simp only [List.mapM_toArray, List.mapM_cons, List.mapM_nil, hmap, Sem.run_bind, hA, hB, Result.andThen, hl, hm, hx, hp]
 rfl
/-- The walk stands at a store of this type: asked first, so that a law for another store fails at once. -/
theorem wpList_at {P : Program} {ops : Array Oper} {rest : List Oper} {o : Oper} {a : Act} {w : World} {Q : Exit → Act → World → Prop} (ty : TypeId) (x y : Operand) (_ho : o.op = .store ty x y) (h : wpList P ops Q (o :: rest) a w) : wpList P ops Q (o :: rest) a w := h
abbrev bf0L : List Value := [enS [], i64 0, i64 0, i64 0, i64 0, .slice none 0 0, i64 0, .slice none 0 0]
/-- Where the reference's Take stands: the builder, the results. -/
structure TaS (w W : World) (B : Bs) (A : Option Addr) (c : Nat) (A2 : Option Addr) (c2 : Nat) : Prop where
 bel : Below w.heap.size w W
 src : W.heap[w.heap.size]? = some (.cells (bfL B A c A2 c2).toArray 73 (0, 0))
 r1 : W.heap[w.heap.size + 1]? = some (.cells bf0L.toArray 73 (0, 0))
 r2 : W.heap[w.heap.size + 2]? = some (.cells dg0L.toArray 24 (0, 0))
theorem TaS.below {w W W' : World} {B : Bs} {A A2 : Option Addr} {c c2 : Nat} (h : TaS w W B A c A2 c2) (hb : Below W.heap.size W W') : TaS w W' B A c A2 c2 := ⟨h.bel.tr hb, blk_below hb h.src, blk_below hb h.r1, blk_below hb h.r2⟩
theorem TaS.sz {w W : World} {B : Bs} {A A2 : Option Addr} {c c2 : Nat} (h : TaS w W B A c A2 c2) : w.heap.size + 3 ≤ W.heap.size := blk_lt h.r2
theorem keep_but {b : Nat} {K : List Nat} {u v : World} (h : But b u v) (hK : ∀ k ∈ K, k < u.heap.size ∧ k ≠ b) : KeepT 0 K u v := ⟨but_low h (Nat.zero_le _) (Nat.zero_le _), fun k hk => h.block k (hK k hk).1 (hK k hk).2⟩
theorem bf_storeL {w : World} {db : Nat} {t : TypeId} (hb : w.heap[db]? = some (.cells bf0L.toArray t (0, 0))) (B : Bs) (A : Option Addr) (c : Nat) (A2 : Option Addr) (c2 : Nat) : (w.setCells db 0 (bfL B A c A2 c2)).heap[db]? = some (.cells (bfL B A c A2 c2).toArray t (0, 0)) := bf_store hb _ _ _ _ _ _ _ _
theorem one_bfL (B : Bs) (A : Option Addr) (c : Nat) (A2 : Option Addr) (c2 : Nat) : (bfL B A c A2 c2).toArray.all (·.oneCell') = true := one_bf _ _ _ _ _ _ _ _ _ _ _ _
/-- The builder is written into the first result. -/
theorem TaS.step {w W : World} {B B' : Bs} {A A' : Option Addr} {c c' : Nat} {A2 A2' : Option Addr} {c2 c2' : Nat} (h : TaS w W B A c A2 c2) (e : B = B' ∧ A = A' ∧ c = c' ∧ A2 = A2' ∧ c2 = c2') : ∃ y, W.setCells (w.heap.size + 1) 0 (bfL B' A' c' A2' c2') = y ∧ Hid (y.heap[w.heap.size + 1]? = some (.cells (bfL B' A' c' A2' c2').toArray 73 (0, 0))) ∧ Hid (y.heap[w.heap.size + 2]? = some (.cells dg0L.toArray 24 (0, 0))) ∧ Hid (Below w.heap.size w y) := by
 obtain ⟨rfl, rfl, rfl, rfl, rfl⟩ := e
 have bt1 := but_setCells (b := w.heap.size + 1) (bfL B A c A2 c2) 0 W
 have hsz := h.sz
 exact ⟨_, rfl, Lib.hid (bf_storeL h.r1 B A c A2 c2), Lib.hid ((bt1.block (w.heap.size + 2) (by omega) (by omega)).trans h.r2), Lib.hid (bt1.tail h.bel (by omega))⟩
set_option maxRecDepth 100000 in
set_option maxHeartbeats 8000000 in
theorem takeR_any (B : Bs) (A : Option Addr) (c : Nat) (A2 : Option Addr) (c2 : Nat) (now : Int) (w : World) (h : BfM w B A c A2 c2) (hk : 0 ≤ B.taken ∧ B.taken ≤ 1000000) (hti : B.ti.length ≤ 1000000000) (hn : B.wait.length ≤ 1000000) (hx : ∀ x ∈ B.wait, x.fr.length ≤ 1000000000 ∧ x.su.length ≤ 1000000000 ∧ x.bo.length ≤ 100000000) :
  Calls Tryz.prog 32 #[bfA B A c A2 c2, i64 now] w fun e w' => ((takeE B now ≠ 0 ∧ e = .returned (.tuple #[bfA B A c A2 c2, dg0, i64 (takeE B now)])) ∨ (takeE B now = 0 ∧ e = .returned (.tuple #[bfA (takeB B now) none 0 A2 c2, dgA (takeD B now) A c, i64 0]))) ∧ Below w.heap.size w w' := by
 have H1 := Lib.hid (fun u => valid_ref now u)
 have V := Lib.hid (show takeE B now = if minB now = false then 2 else if B.wait = [] then 10 else chkD (takeD B now) from rfl)
 have HRF := Lib.hid (fun (u : World) (hb : Below w.heap.size w u) => (show RfIn u (takeD B now) A c from ⟨h.rd.below hb, h.cap, hn, hti, hx⟩).check)
 clear h hti hx
 go_enter Tryz.func32, Tryz.ntmps32
 go_upto_region 1 with fail
 generalize hw1 : World.alloc (World.alloc (World.alloc w _) _) _ = w1
 have T : Hid (TaS w w1 B A c A2 c2) := Lib.hid ⟨hw1 ▸ (((below_new _ _).tr (below_new _ _)).tr (below_new _ _)), hw1 ▸ blk_old _ (blk_old _ (blk_new w _)), by
   have h := blk_new (w.alloc (.cells (bfL B A c A2 c2).toArray 73)) (.cells bf0L.toArray 73)
   rw [World.size_alloc] at h
   exact hw1 ▸ blk_old _ h, by
   have h := blk_new ((w.alloc (.cells (bfL B A c A2 c2).toArray 73)).alloc (.cells bf0L.toArray 73)) (.cells dg0L.toArray 24)
   rw [World.size_alloc, World.size_alloc] at h
   exact hw1 ▸ h⟩
 clear hw1
 go_wp2_with fail
 refine (H1.out _).mono ?_; rintro e w2 ⟨rfl, rfl⟩
 cases q1 : minB now with
 | false =>
  have VB : Hid (takeE B now = 2) := Lib.hid (by (show _ = _); rw [V.out, q1]; rfl)
  have V := VB
  clear q1 VB H1 HRF
  have RG := Lib.hid (range_blk (cs := bfL B A c A2 c2) T.out.src)
  go_wp2_with (first | refine wpList_load_mid rfl 73 _ rfl w.heap.size 0 rfl (bfL B A c A2 c2) _ RG.out Tryz.underlying73 rfl (by kernel_rfl) ?_ | (refine wpList_at 73 _ _ rfl ?_; refine wpList_store_mid rfl 73 _ _ rfl (w.heap.size + 1) 0 (bfL B A c A2 c2).toArray rfl rfl (there_at T.out.r1 (Nat.le_refl 8)) (by kernel_rfl) (one_bfL _ _ _ _ _) ?_; obtain ⟨y1, hy1, S1, S2, BL1⟩ := T.out.step ⟨rfl, rfl, rfl, rfl, rfl⟩; rw [show w1.setCells (w.heap.size + 1) 0 (bfL B A c A2 c2).toArray.toList = y1 from hy1]; clear hy1 T RG) | (refine wpList_at 24 _ _ rfl ?_; refine wpList_store_mid rfl 24 _ _ rfl (w.heap.size + 2) 0 dg0L.toArray rfl rfl (there_at S2.out (Nat.le_refl 5)) (by kernel_rfl) (one_dg [] 0 0 0 none 0 0) ?_))
  have bt2 := but_setCells (b := w.heap.size + 2) dg0L 0 y1
  have S3 := dg_storeT S2.out (enS []) (i64 0) (i64 0) (i64 0) (.slice none 0 0)
  have S4 := (bt2.block (w.heap.size + 1) (blk_lt S1.out) (by omega)).trans S1.out
  have hl1 := run_loadVar_mid (P := Tryz.prog) _ (w.heap.size + 1) 0 73 (bfL B A c A2 c2) _ (range_blk (cs := bfL B A c A2 c2) S4) Tryz.underlying73 rfl (by kernel_rfl)
  have hl2 := run_loadVar_mid (P := Tryz.prog) _ (w.heap.size + 2) 0 24 dg0L _ (range_blk (cs := dg0L) S3) Tryz.underlying24 rfl (by kernel_rfl)
  have hbl := bt2.tail BL1.out (by omega)
  exact bodyPost_ret (v := .tuple #[bfA B A c A2 c2, dg0, i64 2]) (results_cell22 (a := 4) (b := 5) (i := 6) rfl rfl hl1 rfl hl2 rfl) rfl ⟨.inl ⟨by rw [V.out]; decide, by rw [V.out]⟩, hbl⟩
 | true =>
 rw [q1, if_neg (show ¬ true = false by decide)] at V
 clear q1 H1
 have c5 : w1.cell? ⟨w.heap.size, 5, none⟩ = some (.slice A B.wait.length c) := blk_cell T.out.src 5
 by_cases h0 : B.wait = []
 ·have VB : Hid (takeE B now = 10) := Lib.hid (by (show _ = _); rw [V.out, if_pos h0])
  have hl0 : ((B.wait.length : Int) == 0) = true := by rw [h0]; rfl
  have V := VB
  clear h0 VB HRF
  go_upto_if 17 with fail
  clear c5 hl0
  have RG := Lib.hid (range_blk (cs := bfL B A c A2 c2) T.out.src)
  go_wp2_with (first | refine wpList_load_mid rfl 73 _ rfl w.heap.size 0 rfl (bfL B A c A2 c2) _ RG.out Tryz.underlying73 rfl (by kernel_rfl) ?_ | (refine wpList_at 73 _ _ rfl ?_; refine wpList_store_mid rfl 73 _ _ rfl (w.heap.size + 1) 0 (bfL B A c A2 c2).toArray rfl rfl (there_at T.out.r1 (Nat.le_refl 8)) (by kernel_rfl) (one_bfL _ _ _ _ _) ?_; obtain ⟨y1, hy1, S1, S2, BL1⟩ := T.out.step ⟨rfl, rfl, rfl, rfl, rfl⟩; rw [show w1.setCells (w.heap.size + 1) 0 (bfL B A c A2 c2).toArray.toList = y1 from hy1]; clear hy1 T RG) | (refine wpList_at 24 _ _ rfl ?_; refine wpList_store_mid rfl 24 _ _ rfl (w.heap.size + 2) 0 dg0L.toArray rfl rfl (there_at S2.out (Nat.le_refl 5)) (by kernel_rfl) (one_dg [] 0 0 0 none 0 0) ?_))
  have bt2 := but_setCells (b := w.heap.size + 2) dg0L 0 y1
  have S3 := dg_storeT S2.out (enS []) (i64 0) (i64 0) (i64 0) (.slice none 0 0)
  have S4 := (bt2.block (w.heap.size + 1) (blk_lt S1.out) (by omega)).trans S1.out
  have hl1 := run_loadVar_mid (P := Tryz.prog) _ (w.heap.size + 1) 0 73 (bfL B A c A2 c2) _ (range_blk (cs := bfL B A c A2 c2) S4) Tryz.underlying73 rfl (by kernel_rfl)
  have hl2 := run_loadVar_mid (P := Tryz.prog) _ (w.heap.size + 2) 0 24 dg0L _ (range_blk (cs := dg0L) S3) Tryz.underlying24 rfl (by kernel_rfl)
  have hbl := bt2.tail BL1.out (by omega)
  exact bodyPost_ret (v := .tuple #[bfA B A c A2 c2, dg0, i64 10]) (results_cell22 (a := 4) (b := 5) (i := 6) rfl rfl hl1 rfl hl2 rfl) rfl ⟨.inl ⟨by rw [V.out]; decide, by rw [V.out]⟩, hbl⟩
 rw [if_neg h0] at V
 have hl0 : ((B.wait.length : Int) == 0) = false := by simpa using h0
 clear h0
 go_upto_if 17 with fail
 clear hl0
 have c0 : w1.cell? ⟨w.heap.size, 0, none⟩ = some (enS B.ti) := blk_cell T.out.src 0
 have c1 : w1.cell? ⟨w.heap.size, 1, none⟩ = some (i64 B.vo) := blk_cell T.out.src 1
 have c4 : w1.cell? ⟨w.heap.size, 4, none⟩ = some (i64 (B.taken + 1)) := blk_cell T.out.src 4
 go_upto_region 6 with fail
 clear c0 c1 c4 c5
 have T2 := Lib.hid (T.out.below (below_new w1 (.cells #[enS B.ti, i64 B.vo, i64 (B.taken + 1), i64 now, .slice A B.wait.length c] 24)))
 have DD := Lib.hid (blk_new w1 (.cells #[enS B.ti, i64 B.vo, i64 (B.taken + 1), i64 now, .slice A B.wait.length c] 24))
 have HPP : w.heap.size + 3 ≤ w1.heap.size := T.out.sz
 obtain ⟨pp, hpp⟩ : ∃ q, w1.heap.size = q := ⟨_, rfl⟩
 rw [hpp] at DD HPP ⊢
 clear hpp T
 generalize w1.alloc (.cells #[enS B.ti, i64 B.vo, i64 (B.taken + 1), i64 now, .slice A B.wait.length c] 24) = w2 at *
 have RG := Lib.hid (range_blk (cs := [enS B.ti, i64 B.vo, i64 (B.taken + 1), i64 now, .slice A B.wait.length c]) DD.out)
 go_wp2_with (refine wpList_load_mid rfl 24 _ rfl pp 0 rfl [enS B.ti, i64 B.vo, i64 (B.taken + 1), i64 now, .slice A B.wait.length c] _ RG.out Tryz.underlying24 rfl (by kernel_rfl) ?_)
 refine (HRF.out w2 T2.out.bel).mono ?_; rintro e w3 ⟨rfl, b3⟩
 have T3 := Lib.hid (T2.out.below b3)
 have D3 := Lib.hid (blk_below b3 DD.out)
 clear b3 T2 DD RG HRF
 obtain ⟨ec, hec⟩ : ∃ q, chkD (takeD B now) = q := ⟨_, rfl⟩
 rw [hec] at V ⊢
 clear hec
 by_cases he : ec = 0
 case neg =>
  have hq : (ec != 0) = true := by simpa using he
  have hq2 : (ec == 0) = false := by simpa using he
  have HE := Lib.hid he
  clear he
  go_upto_region 8 with fail
  have RG := Lib.hid (range_blk (cs := bfL B A c A2 c2) T3.out.src)
  go_wp2_with (first | refine wpList_load_mid rfl 73 _ rfl w.heap.size 0 rfl (bfL B A c A2 c2) _ RG.out Tryz.underlying73 rfl (by kernel_rfl) ?_ | (refine wpList_at 73 _ _ rfl ?_; refine wpList_store_mid rfl 73 _ _ rfl (w.heap.size + 1) 0 (bfL B A c A2 c2).toArray rfl rfl (there_at T3.out.r1 (Nat.le_refl 8)) (by kernel_rfl) (one_bfL _ _ _ _ _) ?_; obtain ⟨y1, hy1, S1, S2, BL1⟩ := T3.out.step ⟨rfl, rfl, rfl, rfl, rfl⟩; rw [show w3.setCells (w.heap.size + 1) 0 (bfL B A c A2 c2).toArray.toList = y1 from hy1]; clear hy1 T3 RG) | (refine wpList_at 24 _ _ rfl ?_; refine wpList_store_mid rfl 24 _ _ rfl (w.heap.size + 2) 0 dg0L.toArray rfl rfl (there_at S2.out (Nat.le_refl 5)) (by kernel_rfl) (one_dg [] 0 0 0 none 0 0) ?_))
  have bt2 := but_setCells (b := w.heap.size + 2) dg0L 0 y1
  have S3 := dg_storeT S2.out (enS []) (i64 0) (i64 0) (i64 0) (.slice none 0 0)
  have S4 := (bt2.block (w.heap.size + 1) (blk_lt S1.out) (by omega)).trans S1.out
  have hl1 := run_loadVar_mid (P := Tryz.prog) _ (w.heap.size + 1) 0 73 (bfL B A c A2 c2) _ (range_blk (cs := bfL B A c A2 c2) S4) Tryz.underlying73 rfl (by kernel_rfl)
  have hl2 := run_loadVar_mid (P := Tryz.prog) _ (w.heap.size + 2) 0 24 dg0L _ (range_blk (cs := dg0L) S3) Tryz.underlying24 rfl (by kernel_rfl)
  have hbl := bt2.tail BL1.out (by omega)
  exact bodyPost_ret (v := .tuple #[bfA B A c A2 c2, dg0, i64 ec]) (results_cell22 (a := 4) (b := 5) (i := 6) rfl rfl hl1 rfl hl2 rfl) rfl ⟨.inl ⟨by rw [V.out]; exact HE.out, by rw [V.out]⟩, hbl⟩
 subst he
 have VT := Lib.hid (takeB_yes V.out)
 have hsz3 := T3.out.sz
 have c5 : w3.cell? ⟨w.heap.size, 5, none⟩ = some (.slice A B.wait.length c) := blk_cell T3.out.src 5
 have f5 := blk_free T3.out.src 5
 go_upto_region 10 with fail
 have T4 : Hid (TaS w (w3.setCell ⟨w.heap.size, 5, none⟩ (.slice none 0 0)) ⟨B.ti, B.vo, B.cap, B.mins, B.taken, [], B.first, B.added⟩ none 0 A2 c2) := Lib.hid (by
  have hk : But w.heap.size w3 (w3.setCell ⟨w.heap.size, 5, none⟩ (.slice none 0 0)) := (But.refl _ _).setCell _
  exact ⟨hk.tail T3.out.bel (Nat.le_refl _), blk_set T3.out.src 5 (.slice none 0 0), (hk.block _ (by omega) (by omega)).trans T3.out.r1, (hk.block _ (by omega) (by omega)).trans T3.out.r2⟩)
 have D4 : Hid ((w3.setCell ⟨w.heap.size, 5, none⟩ (.slice none 0 0)).heap[pp]? = some (.cells #[enS B.ti, i64 B.vo, i64 (B.taken + 1), i64 now, .slice A B.wait.length c] 24 (0, 0))) := Lib.hid ((Below.heap_setCell _ _ _ _ (by show pp ≠ w.heap.size; omega)).trans D3.out)
 clear c5 f5 T3 D3
 generalize w3.setCell ⟨w.heap.size, 5, none⟩ (.slice none 0 0) = w4 at *
 have hsz4 := T4.out.sz
 have c4 : w4.cell? ⟨w.heap.size, 4, none⟩ = some (i64 (B.taken + 1)) := blk_cell T4.out.src 4
 have f4 := blk_free T4.out.src 4
 go_upto_region 11 with fail
 have T5 : Hid (TaS w (w4.setCell ⟨w.heap.size, 4, none⟩ (i64 (B.taken + 1 + 1))) ⟨B.ti, B.vo, B.cap, B.mins, B.taken + 1, [], B.first, B.added⟩ none 0 A2 c2) := Lib.hid (by
  have hk : But w.heap.size w4 (w4.setCell ⟨w.heap.size, 4, none⟩ (i64 (B.taken + 1 + 1))) := (But.refl _ _).setCell _
  exact ⟨hk.tail T4.out.bel (Nat.le_refl _), blk_set T4.out.src 4 (i64 (B.taken + 1 + 1)), (hk.block _ (by omega) (by omega)).trans T4.out.r1, (hk.block _ (by omega) (by omega)).trans T4.out.r2⟩)
 have D5 : Hid ((w4.setCell ⟨w.heap.size, 4, none⟩ (i64 (B.taken + 1 + 1))).heap[pp]? = some (.cells #[enS B.ti, i64 B.vo, i64 (B.taken + 1), i64 now, .slice A B.wait.length c] 24 (0, 0))) := Lib.hid ((Below.heap_setCell _ _ _ _ (by show pp ≠ w.heap.size; omega)).trans D4.out)
 clear c4 f4 T4 D4
 generalize w4.setCell ⟨w.heap.size, 4, none⟩ (i64 (B.taken + 1 + 1)) = w5 at *
 have bd := (Below.refl w5.heap.size w5).drew
 refine Flow.wp_region_segs (KeepT 0 [w.heap.size, pp]) (KeepT.refl _ _) (fun _ _ _ h k => h.trans k) [([0, 1], 2), ([], 3)] [4] (by kernel_rfl) (by kernel_rfl) ?_
 have T6 := Lib.hid (T5.out.below bd)
 have D6 := Lib.hid (blk_below bd D5.out)
 clear bd T5 D5
 generalize World.drew _ = wd at *
 have hsz6 := T6.out.sz
 have hpl := blk_lt D6.out
 have qB : ∀ t : Flow.Cls (KeepT 0 [w.heap.size, pp] wd), t.val.rangeAt w.heap.size 0 (bfL ⟨B.ti, B.vo, B.cap, B.mins, B.taken + 1, [], B.first, B.added⟩ none 0 A2 c2) := fun t => range_blk ((t.ok.2 w.heap.size (by simp)).trans T6.out.src)
 have qD : ∀ t : Flow.Cls (KeepT 0 [w.heap.size, pp] wd), t.val.rangeAt pp 0 [enS B.ti, i64 B.vo, i64 (B.taken + 1), i64 now, .slice A B.wait.length c] := fun t => range_blk ((t.ok.2 pp (by simp)).trans D6.out)
 haveI nonE := cls_keep (B := 0) (K := [w.heap.size, pp]) wd
 rw [Flow.wpSegs_cons]
 simp only [Flow.pick, List.getElem?_toArray, List.getElem?_cons_succ, List.getElem?_cons_zero]
 refine BigFrame.wpQuiet_want rfl (fun K hK => quiet_load_mid 73 _ rfl w.heap.size 0 rfl (bfL ⟨B.ti, B.vo, B.cap, B.mins, B.taken + 1, [], B.first, B.added⟩ none 0 A2 c2) _ (fun _ he => by obtain ⟨t, rfl⟩ := he; exact qB t) Tryz.underlying73 rfl (by kernel_rfl) (hK _ ?_))
 clear hK K
 simp only [Act.put, List.setIfInBounds_toArray, List.set_cons_succ, List.set_cons_zero]
 refine BigFrame.wpQuiet_want rfl (fun K hK => quiet_load_mid 24 _ rfl pp 0 rfl [enS B.ti, i64 B.vo, i64 (B.taken + 1), i64 now, .slice A B.wait.length c] _ (fun _ he => by obtain ⟨t, rfl⟩ := he; exact qD t) Tryz.underlying24 rfl (by kernel_rfl) (hK _ ?_))
 clear hK K
 simp only [Act.put, List.setIfInBounds_toArray, List.set_cons_succ, List.set_cons_zero]
 refine wpQuiet_nil ?_
 clear nonE qB qD
 rw [Flow.callAt_eq]
 simp only [List.getElem?_toArray, List.getElem?_cons_succ, List.getElem?_cons_zero]
 rw [if_pos (by rfl)]
 refine Flow.wp_behind (fun K hK => ?_)
 refine wp_store_mid0 73 _ _ rfl rfl (w.heap.size + 1) 0 (bfL ⟨B.ti, B.vo, B.cap, B.mins, B.taken + 1, [], B.first, B.added⟩ none 0 A2 c2).toArray rfl rfl (there_at T6.out.r1 (Nat.le_refl 8)) (by kernel_rfl) (one_bfL _ _ _ _ _) ?_
 have bt1 := but_setCells (b := w.heap.size + 1) (bfL ⟨B.ti, B.vo, B.cap, B.mins, B.taken + 1, [], B.first, B.added⟩ none 0 A2 c2) 0 wd
 have hkb := keep_but (K := [w.heap.size, pp]) bt1 (fun k hk => by
  rcases List.mem_cons.1 hk with rfl | hk
  ·exact ⟨by omega, by omega⟩
  ·rw [List.mem_singleton.1 hk]; exact ⟨hpl, by omega⟩)
 have S1 := Lib.hid (bf_storeL T6.out.r1 ⟨B.ti, B.vo, B.cap, B.mins, B.taken + 1, [], B.first, B.added⟩ none 0 A2 c2)
 have S2 := Lib.hid ((bt1.block (w.heap.size + 2) (by omega) (by omega)).trans T6.out.r2)
 have BL1 := Lib.hid (bt1.tail T6.out.bel (by omega))
 have hs1 := bt1.size
 clear bt1
 have e1 : wd.setCells (w.heap.size + 1) 0 (bfL ⟨B.ti, B.vo, B.cap, B.mins, B.taken + 1, [], B.first, B.added⟩ none 0 A2 c2).toArray.toList = wd.setCells (w.heap.size + 1) 0 (bfL ⟨B.ti, B.vo, B.cap, B.mins, B.taken + 1, [], B.first, B.added⟩ none 0 A2 c2) := rfl
 rw [e1]
 clear e1
 generalize wd.setCells (w.heap.size + 1) 0 (bfL ⟨B.ti, B.vo, B.cap, B.mins, B.taken + 1, [], B.first, B.added⟩ none 0 A2 c2) = y1 at *
 refine hK.out _ _ ⟨hkb, ?_⟩
 clear hK K hkb
 rw [Flow.wpSegs_cons]
 simp only [Flow.pick]
 refine wpQuiet_nil ?_
 rw [Flow.callAt_eq]
 simp only [List.getElem?_toArray, List.getElem?_cons_succ, List.getElem?_cons_zero, Act.put]
 rw [if_pos (by rfl)]
 refine Flow.wp_behind (fun K hK => ?_)
 refine wp_store_mid0 24 _ _ rfl rfl (w.heap.size + 2) 0 #[enS B.ti, i64 B.vo, i64 (B.taken + 1), i64 now, .slice A B.wait.length c] rfl rfl (there_at S2.out (Nat.le_refl 5)) (by kernel_rfl) (one_dg _ _ _ _ _ _ _) ?_
 have bt2 := but_setCells (b := w.heap.size + 2) [enS B.ti, i64 B.vo, i64 (B.taken + 1), i64 now, .slice A B.wait.length c] 0 y1
 have hkb := keep_but (K := [w.heap.size, pp]) bt2 (fun k hk => by
  rcases List.mem_cons.1 hk with rfl | hk
  ·exact ⟨by omega, by omega⟩
  ·rw [List.mem_singleton.1 hk]; exact ⟨Nat.lt_of_lt_of_le hpl hs1, by omega⟩)
 have S3 := dg_storeT S2.out (enS B.ti) (i64 B.vo) (i64 (B.taken + 1)) (i64 now) (.slice A B.wait.length c)
 have S4 := (bt2.block (w.heap.size + 1) (blk_lt S1.out) (by omega)).trans S1.out
 have hbl := bt2.tail BL1.out (by omega)
 have hl1 := Lib.hid (run_loadVar_mid (P := Tryz.prog) _ (w.heap.size + 1) 0 73 (bfL ⟨B.ti, B.vo, B.cap, B.mins, B.taken + 1, [], B.first, B.added⟩ none 0 A2 c2) _ (range_blk (cs := bfL ⟨B.ti, B.vo, B.cap, B.mins, B.taken + 1, [], B.first, B.added⟩ none 0 A2 c2) S4) Tryz.underlying73 rfl (by kernel_rfl))
 have hl2 := Lib.hid (run_loadVar_mid (P := Tryz.prog) _ (w.heap.size + 2) 0 24 [enS B.ti, i64 B.vo, i64 (B.taken + 1), i64 now, .slice A B.wait.length c] _ (range_blk (cs := [enS B.ti, i64 B.vo, i64 (B.taken + 1), i64 now, .slice A B.wait.length c]) S3) Tryz.underlying24 rfl (by kernel_rfl))
 have HBL := Lib.hid hbl
 clear S3 S4 hbl bt2 S1 S2 BL1
 have e1 : y1.setCells (w.heap.size + 2) 0 (#[enS B.ti, i64 B.vo, i64 (B.taken + 1), i64 now, .slice A B.wait.length c] : Array Value).toList = y1.setCells (w.heap.size + 2) 0 [enS B.ti, i64 B.vo, i64 (B.taken + 1), i64 now, .slice A B.wait.length c] := rfl
 rw [e1]
 clear e1
 generalize y1.setCells (w.heap.size + 2) 0 [enS B.ti, i64 B.vo, i64 (B.taken + 1), i64 now, .slice A B.wait.length c] = y2 at *
 refine hK.out _ _ ⟨hkb, ?_⟩
 clear hK K hkb
 haveI nonE := cls_keep (B := 0) (K := [w.heap.size, pp]) y2
 rw [Flow.wpSegs_nil]
 simp only [Flow.pick, List.getElem?_toArray, List.getElem?_cons_succ, List.getElem?_cons_zero]
 repeat go_big_quiet_step (fail)
 refine wpQuiet_nil ?_
 clear nonE
 go_wp2_with fail
 exact bodyPost_ret (v := .tuple #[bfA ⟨B.ti, B.vo, B.cap, B.mins, B.taken + 1, [], B.first, B.added⟩ none 0 A2 c2, dgA (takeD B now) A c, i64 0]) (results_cell22 (a := 4) (b := 5) (i := 6) rfl rfl hl1.out rfl hl2.out rfl) rfl ⟨.inr ⟨V.out, by rw [VT.out]⟩, HBL.out⟩
end Go.Proofs.YtlchcjnbbhpiaaaGreatDoor
