/- Contract: Take of a builder.
   The reference's builder in memory; contracts: the reference's NewBuilder, Due.
   Contract: the reference's Add.
   Contract: the reference's Take. -/
import Derived.Test.YtlchcjnbbhpiaaaGreatDoorYad
import Derived.Test.YtlchcjnbbhpiaaaGreatDoorZb
import Derived.Test.YtlchcjnbbhpiaaaGreatDoorYaa
import Derived.Test.YtlchcjnbbhpiaaaGreatDoorZw
import Derived.Test.YtlchcjnbbhpiaaaGreatDoorYac
namespace Go.Proofs.YtlchcjnbbhpiaaaGreatDoor
open Go.RowKit Go.Shelf Go.Dg Go.Maps
theorem takeB_no {B : Bs} {now : Int} (h : takeE B now ≠ 0) : takeB B now = B := by
 unfold takeB
 rw [if_pos h]
theorem takeB_yes {B : Bs} {now : Int} (h : takeE B now = 0) : takeB B now = ⟨B.ti, B.vo, B.cap, B.mins, B.taken + 1, [], B.first, B.added⟩ := by
 unfold takeB
 rw [if_neg (by rw [h]; decide)]
theorem but_low {b N : Nat} {u v : World} (h : But b u v) (hb : N ≤ b) (hN : N ≤ u.heap.size) : Below N u v := ⟨h.os, h.tape, h.output, h.size, fun k hk => h.block k (by omega) (by omega)⟩
/-- What Take returns: the error and no digest, or the digest, whose items lie in the row that was the builder's. -/
def TakeR (w' : World) (base bb mb : Nat) (v : Value) (B : Bs) (now : Int) (e : Ending) : Prop :=
 (takeE B now ≠ 0 ∧ e = .returned (.tuple #[dg0, i64 (takeE B now)]) ∧ BlM w' base bb mb v B) ∨
 (takeE B now = 0 ∧ ∃ A c, v = .slice A B.wait.length c ∧ e = .returned (.tuple #[dgA (takeD B now) A c, i64 0]) ∧ RdI w' A B.wait ∧ B.wait.length ≤ c ∧ BlM w' base bb mb (.slice none 0 0) (takeB B now))
set_option maxRecDepth 100000 in
set_option maxHeartbeats 8000000 in
theorem take_any (base bb mb : Nat) (v : Value) (B : Bs) (now : Int) (w : World) (h : BlM w base bb mb v B) (ht : Tab w) (hk : 0 ≤ B.taken ∧ B.taken ≤ 1000000) (hti : B.ti.length ≤ 1000000000) (hn : B.wait.length ≤ 1000000) (hx : ∀ x ∈ B.wait, x.fr.length ≤ 1000000000 ∧ x.su.length ≤ 1000000000 ∧ x.bo.length ≤ 1000000000) :
  Calls Tryz.prog 26 #[.pointer (some ⟨bb, 0, none⟩), i64 now] w fun e w' => TakeR w' base bb mb v B now e ∧ ButL (blR bb mb v) w w' := by
 have H := Lib.hid h
 have HM := Lib.hid (fun u => isMinute_any now u)
 have V := Lib.hid (show takeE B now = if minB now = false then 2 else if B.wait = [] then 10 else chkD (takeD B now) from rfl)
 have HTA := Lib.hid ht
 have HDI := Lib.hid (fun (u : World) (A : Option Addr) (c : Nat) (hr : RdI u A B.wait) (hc : B.wait.length ≤ c) (htu : Tab u) => (show DgIn u (takeD B now) A c from ⟨hr, hc, htu, Nat.le_trans hn (by omega), hti, hx⟩).check)
 obtain ⟨A, c, hv⟩ := own2_slice h.row
 have hrow : w.ownsRow base 59 36 (.slice A B.wait.length c) B.wait.length (B.wait.flatMap itL) := hv ▸ h.row
 have RD := Lib.hid (RdI.of_own hrow h.ky)
 have hwc := own2_le hrow
 clear h ht hti hx hrow
 go_enter Tryz.func26, Tryz.ntmps26
 go_upto_region 1 with fail
 have ZD := Lib.hid (blk_new w (.cells #[enS [], i64 0, i64 0, i64 0, .slice none 0 0] 32))
 have bz := below_new w (.cells #[enS [], i64 0, i64 0, i64 0, .slice none 0 0] 32)
 have BL := Lib.hid bz
 have H1 := Lib.hid (H.out.below bz)
 clear bz
 generalize hw1 : World.alloc w _ = w1 at *
 clear hw1
 go_wp2_with fail
 refine (HM.out _).mono ?_; rintro e w2 ⟨rfl, rfl⟩
 cases q1 : minB now with
 | false =>
  have VB : Hid (takeE B now = 2) := Lib.hid (by (show _ = _); rw [V.out, q1]; rfl)
  clear q1 V
  go_wp2_with (refine wpList_store_mid rfl 32 _ _ rfl w.heap.size 0 #[enS [], i64 0, i64 0, i64 0, .slice none 0 0] rfl rfl (there_at ZD.out (Nat.le_refl 5)) (by kernel_rfl) (one_dg [] 0 0 0 none 0 0) ?_)
  have ZS := dg_store ZD.out (enS []) (i64 0) (i64 0) (i64 0) (.slice none 0 0)
  have hb2 : But w.heap.size w1 (w1.setCells w.heap.size 0 dg0L) := but_setCells _ _ _
  have hload := run_loadVar_mid (P := Tryz.prog) _ w.heap.size 0 32 dg0L _ (range_blk (cs := dg0L) ZS) Tryz.underlying32 rfl (by kernel_rfl)
  have hbl := hb2.tail BL.out (Nat.le_refl _)
  exact bodyPost_ret (v := .tuple #[dg0, i64 2]) (results_cell2 (a := 4) (i := 5) rfl rfl hload rfl) rfl ⟨.inl ⟨by rw [VB.out]; decide, by rw [VB.out], H.out.below hbl⟩, ButL.of_below hbl⟩
 | true =>
 rw [q1, if_neg (show ¬ true = false by decide)] at V
 clear q1
 obtain ⟨c0, c1, c2, c3, c4, c5, c6, c7⟩ := H1.out.cells
 rw [hv] at c5
 by_cases h0 : B.wait = []
 ·have VB : Hid (takeE B now = 10) := Lib.hid (by (show _ = _); rw [V.out, if_pos h0])
  have hl0 : B.wait.length = 0 := by rw [h0]; rfl
  clear V h0
  go_wp2_with (refine wpList_store_mid rfl 32 _ _ rfl w.heap.size 0 #[enS [], i64 0, i64 0, i64 0, .slice none 0 0] rfl rfl (there_at ZD.out (Nat.le_refl 5)) (by kernel_rfl) (one_dg [] 0 0 0 none 0 0) ?_)
  have ZS := dg_store ZD.out (enS []) (i64 0) (i64 0) (i64 0) (.slice none 0 0)
  have hb2 : But w.heap.size w1 (w1.setCells w.heap.size 0 dg0L) := but_setCells _ _ _
  have hload := run_loadVar_mid (P := Tryz.prog) _ w.heap.size 0 32 dg0L _ (range_blk (cs := dg0L) ZS) Tryz.underlying32 rfl (by kernel_rfl)
  have hbl := hb2.tail BL.out (Nat.le_refl _)
  exact bodyPost_ret (v := .tuple #[dg0, i64 10]) (results_cell2 (a := 4) (i := 5) rfl rfl hload rfl) rfl ⟨.inl ⟨by rw [VB.out]; decide, by rw [VB.out], H.out.below hbl⟩, ButL.of_below hbl⟩
 rw [if_neg h0] at V
 have hl0 : ((B.wait.length : Int) == 0) = false := by simp; exact h0
 clear h0
 go_upto_region 7 with fail
 have hsz0 : w.heap.size < w1.heap.size := blk_lt ZD.out
 have HIS := Lib.hid (fun u (hb : Below w1.heap.size w1 u) => issue_any base bb mb v B u (H1.out.below hb) ⟨hk.1, Int.le_trans hk.2 (by omega)⟩)
 go_cut [6] (fun dp wx => ∃ pp, dp = .pointer (some ⟨pp, 0, none⟩) ∧ Hid (wx.heap[pp]? = some (.cells #[enS B.ti, i64 B.vo, i64 (B.taken + 1), i64 now, .slice A B.wait.length c] 32 (0, 0))) ∧ Hid (Below w1.heap.size w1 wx) ∧ Hid (w1.heap.size ≤ pp))
 case first =>
  refine Flow.wp_region_sched (fun u v => Below w1.heap.size u v) (fun _ => Below.refl _ _) (fun _ _ _ h k => h.trans k) (.fork [0, 1, 2, 3, 4, 5, 6, 7, 8, 10, 11, 12, 13, 14] 9 16 (.step [15] 16 (.step [] 17 (.done []))) (.step [] 9 (.step [15] 17 (.done [])))) (by kernel_rfl) (by kernel_rfl) ?_
  have cD : Below w1.heap.size w1 (World.drew w1) := Below.drew (Below.refl _ _)
  have e0 := cD.cellv c0
  have e1 := cD.cellv c1
  have e5 := cD.cellv c5
  clear c0 c1 c2 c3 c4 c5 c6 c7
  have CD := Lib.hid cD
  clear cD
  generalize World.drew _ = wd at *
  have l0 := World.block_lt_of_cell? wd _ e0
  have q0 : ∀ t : Flow.Cls (Below w1.heap.size wd), t.val.cell? ⟨bb, 0, none⟩ = some (enS B.ti) := fun t => (t.ok.cell H1.out.lt).trans e0
  have q1 : ∀ t : Flow.Cls (Below w1.heap.size wd), t.val.cell? ⟨bb, 1, none⟩ = some (i64 B.vo) := fun t => (t.ok.cell H1.out.lt).trans e1
  have q5 : ∀ t : Flow.Cls (Below w1.heap.size wd), t.val.cell? ⟨bb, 5, none⟩ = some (.slice A B.wait.length c) := fun t => (t.ok.cell H1.out.lt).trans e5
  haveI nonE : Nonempty (Flow.Cls (Below w1.heap.size wd)) := ⟨⟨wd, Below.refl _ _⟩⟩
  rw [Flow.wpSched_fork]
  simp only [Flow.pick, List.getElem?_toArray, List.getElem?_cons_succ, List.getElem?_cons_zero]
  repeat go_big_quiet_step (fail)
  refine wpQuiet_nil ?_
  clear nonE q0 q1 q5 e0 e1 e5 l0
  refine ⟨?_, ?_⟩
  ·rw [Flow.callAt_eq]
   simp only [List.getElem?_toArray, List.getElem?_cons_succ, List.getElem?_cons_zero]
   rw [if_pos (by rfl)]
   refine Flow.wp_behind (fun K hK => ?_)
   go_wp2_with fail
   refine (HIS.out wd CD.out).mono ?_; rintro e x1 ⟨rfl, rfl⟩
   refine hK.out _ _ ⟨Below.refl _ _, ?_⟩
   clear hK K
   haveI nonE : Nonempty (Flow.Cls (Below w1.heap.size wd)) := ⟨⟨wd, Below.refl _ _⟩⟩
   rw [Flow.wpSched_step]
   simp only [Flow.pick, List.getElem?_toArray, List.getElem?_cons_succ, List.getElem?_cons_zero]
   repeat go_big_quiet_step (fail)
   refine wpQuiet_nil ?_
   clear nonE
   rw [Flow.callAt_eq]
   simp only [List.getElem?_toArray, List.getElem?_cons_succ, List.getElem?_cons_zero]
   rw [if_pos (by rfl)]
   refine Flow.wp_behind (fun K hK => ?_)
   go_wp2_with fail
   have bn := below_new wd (.cells #[enS [], i64 0, i64 0, i64 0, .slice none 0 0] 32)
   have HPP : w1.heap.size ≤ wd.heap.size := CD.out.size
   refine hK.out _ _ ⟨bn.mono HPP, ?_⟩
   clear hK K
   have BN := Lib.hid (blk_new wd (.cells #[enS [], i64 0, i64 0, i64 0, .slice none 0 0] 32))
   have CN := Lib.hid (CD.out.trans (bn.mono HPP))
   clear bn
   obtain ⟨pp, hpp⟩ : ∃ q, wd.heap.size = q := ⟨_, rfl⟩
   rw [hpp] at BN HPP ⊢
   clear hpp
   generalize wd.alloc (.cells #[enS [], i64 0, i64 0, i64 0, .slice none 0 0] 32) = wa at *
   have HWA : w1.heap.size ≤ wa.heap.size := CN.out.size
   rw [Flow.wpSched_step]
   simp only [Flow.pick]
   refine wpQuiet_nil ?_
   rw [Flow.callAt_eq]
   simp only [List.getElem?_toArray, List.getElem?_cons_succ, List.getElem?_cons_zero, Act.put]
   rw [if_pos (by rfl)]
   refine Flow.wp_behind (fun K hK => ?_)
   refine wp_store_mid0 32 _ _ rfl rfl pp 0 #[enS B.ti, i64 B.vo, i64 (B.taken + 1), i64 now, .slice A B.wait.length c] rfl rfl (there_at BN.out (Nat.le_refl 5)) (by kernel_rfl) (one_dg _ _ _ _ _ _ _) ?_
   have hbt := but_setCells (b := pp) [enS B.ti, i64 B.vo, i64 (B.taken + 1), i64 now, .slice A B.wait.length c] 0 wa
   refine hK.out _ _ ⟨but_low hbt HPP HWA, ?_⟩
   clear hK K
   have DS := Lib.hid (dg_store BN.out (enS B.ti) (i64 B.vo) (i64 (B.taken + 1)) (i64 now) (.slice A B.wait.length c))
   have CS := Lib.hid (CN.out.trans (but_low hbt HPP HWA))
   clear hbt
   rw [Flow.wpSched_done]
   simp only [Flow.pick]
   refine wpQuiet_nil ?_
   generalize World.setCells wa pp 0 _ = wz at *
   go_wp2_with fail
   go_meet
   exact ⟨pp, rfl, DS, CS, Lib.hid HPP⟩
  ·rw [Flow.callAt_eq]
   simp only [List.getElem?_toArray, List.getElem?_cons_succ, List.getElem?_cons_zero]
   rw [if_pos (by rfl)]
   refine Flow.wp_behind (fun K hK => ?_)
   go_wp2_with fail
   have bn := below_new wd (.cells #[enS [], i64 0, i64 0, i64 0, .slice none 0 0] 32)
   have HPP : w1.heap.size ≤ wd.heap.size := CD.out.size
   refine hK.out _ _ ⟨bn.mono HPP, ?_⟩
   clear hK K
   have BN := Lib.hid (blk_new wd (.cells #[enS [], i64 0, i64 0, i64 0, .slice none 0 0] 32))
   have CN := Lib.hid (CD.out.trans (bn.mono HPP))
   clear bn
   obtain ⟨pp, hpp⟩ : ∃ q, wd.heap.size = q := ⟨_, rfl⟩
   rw [hpp] at BN HPP ⊢
   clear hpp
   generalize wd.alloc (.cells #[enS [], i64 0, i64 0, i64 0, .slice none 0 0] 32) = wa at *
   have HWA : w1.heap.size ≤ wa.heap.size := CN.out.size
   rw [Flow.wpSched_step]
   simp only [Flow.pick]
   refine wpQuiet_nil ?_
   rw [Flow.callAt_eq]
   simp only [List.getElem?_toArray, List.getElem?_cons_succ, List.getElem?_cons_zero, Act.put, List.setIfInBounds_toArray, List.set_cons_succ, List.set_cons_zero]
   rw [if_pos (by rfl)]
   refine Flow.wp_behind (fun K hK => ?_)
   go_wp2_with fail
   refine (HIS.out wa CN.out).mono ?_; rintro e x1 ⟨rfl, rfl⟩
   refine hK.out _ _ ⟨Below.refl _ _, ?_⟩
   clear hK K
   rw [Flow.wpSched_step]
   simp only [Flow.pick, List.getElem?_toArray, List.getElem?_cons_succ, List.getElem?_cons_zero]
   haveI nonE : Nonempty (Flow.Cls (Below w1.heap.size wa)) := ⟨⟨wa, Below.refl _ _⟩⟩
   repeat go_big_quiet_step (fail)
   refine wpQuiet_nil ?_
   clear nonE
   rw [Flow.callAt_eq]
   simp only [List.getElem?_toArray, List.getElem?_cons_succ, List.getElem?_cons_zero, Act.put]
   rw [if_pos (by rfl)]
   refine Flow.wp_behind (fun K hK => ?_)
   refine wp_store_mid0 32 _ _ rfl rfl pp 0 #[enS B.ti, i64 B.vo, i64 (B.taken + 1), i64 now, .slice A B.wait.length c] rfl rfl (there_at BN.out (Nat.le_refl 5)) (by kernel_rfl) (one_dg _ _ _ _ _ _ _) ?_
   have hbt := but_setCells (b := pp) [enS B.ti, i64 B.vo, i64 (B.taken + 1), i64 now, .slice A B.wait.length c] 0 wa
   refine hK.out _ _ ⟨but_low hbt HPP HWA, ?_⟩
   clear hK K
   have DS := Lib.hid (dg_store BN.out (enS B.ti) (i64 B.vo) (i64 (B.taken + 1)) (i64 now) (.slice A B.wait.length c))
   have CS := Lib.hid (CN.out.trans (but_low hbt HPP HWA))
   clear hbt
   rw [Flow.wpSched_done]
   simp only [Flow.pick]
   refine wpQuiet_nil ?_
   generalize World.setCells wa pp 0 _ = wz at *
   go_wp2_with fail
   go_meet
   exact ⟨pp, rfl, DS, CS, Lib.hid HPP⟩
 obtain ⟨pp, rfl, DS, CS, HPS⟩ := hcut
 clear HIS c0 c1 c2 c3 c4 c5 c6 c7
 have RG := Lib.hid (range_blk (cs := [enS B.ti, i64 B.vo, i64 (B.taken + 1), i64 now, .slice A B.wait.length c]) DS.out)
 have BX : Hid (Below w.heap.size w wc) := Lib.hid (BL.out.trans (CS.out.mono (Nat.le_of_lt hsz0)))
 have HX := Lib.hid (H1.out.below CS.out)
 have ZX := Lib.hid (blk_below CS.out ZD.out)
 have RX := Lib.hid (RD.out.below BX.out)
 clear CS ZD H1 BL RD
 go_wp2_with (refine wpList_load_mid rfl 32 _ rfl pp 0 rfl [enS B.ti, i64 B.vo, i64 (B.taken + 1), i64 now, .slice A B.wait.length c] _ RG.out Tryz.underlying32 rfl (by kernel_rfl) ?_)
 refine (HDI.out wc A c RX.out hwc (HTA.out.below BX.out)).mono ?_; rintro e w3 ⟨rfl, b3⟩
 have B3 := Lib.hid (BX.out.tr b3)
 have H3 := Lib.hid (HX.out.below b3)
 have Z3 := Lib.hid (blk_below b3 ZX.out)
 have D3 := Lib.hid (blk_below b3 DS.out)
 have HL3 : w.heap.size < pp := Nat.lt_of_lt_of_le hsz0 HPS.out
 clear b3 BX HX ZX DS RG RX HTA HDI HPS
 obtain ⟨ec, hec⟩ : ∃ q, chkD (takeD B now) = q := ⟨_, rfl⟩
 rw [hec] at V ⊢
 clear hec
 by_cases he : ec = 0
 case neg =>
  have hq : (ec != 0) = true := by simpa using he
  have hq2 : (ec == 0) = false := by simpa using he
  have HE := Lib.hid he
  clear he
  go_wp2_with (refine wpList_store_mid rfl 32 _ _ rfl w.heap.size 0 #[enS [], i64 0, i64 0, i64 0, .slice none 0 0] rfl rfl (there_at Z3.out (Nat.le_refl 5)) (by kernel_rfl) (one_dg [] 0 0 0 none 0 0) ?_)
  have ZS := dg_store Z3.out (enS []) (i64 0) (i64 0) (i64 0) (.slice none 0 0)
  have hb2 : But w.heap.size w3 (w3.setCells w.heap.size 0 dg0L) := but_setCells _ _ _
  have hload := run_loadVar_mid (P := Tryz.prog) _ w.heap.size 0 32 dg0L _ (range_blk (cs := dg0L) ZS) Tryz.underlying32 rfl (by kernel_rfl)
  have hbl := hb2.tail B3.out (Nat.le_refl _)
  exact bodyPost_ret (v := .tuple #[dg0, i64 ec]) (results_cell2 (a := 4) (i := 5) rfl rfl hload rfl) rfl ⟨.inl ⟨by rw [V.out]; exact HE.out, by rw [V.out], H.out.below hbl⟩, ButL.of_below hbl⟩
 subst he
 have VT := Lib.hid (takeB_yes V.out)
 have c5 : w3.cell? ⟨bb, 5, none⟩ = some (.slice A B.wait.length c) := hv ▸ H3.out.cells.2.2.2.2.2.1
 have f5 := blk_free H3.out.blk 5
 go_upto_region 12 with fail
 have H4 : Hid (BlM (w3.setCell ⟨bb, 5, none⟩ (.slice none 0 0)) base bb mb (.slice none 0 0) ⟨B.ti, B.vo, B.cap, B.mins, B.taken, [], B.first, B.added⟩) := Lib.hid ⟨blk_set H3.out.blk 5 (.slice none 0 0), own2_nil _ _ _ _, H3.out.set.keep (Below.heap_setCell _ _ _ _ H.out.ne_bm.symm), by simp, H.out.lb, H.out.lm⟩
 have RW4 := Lib.hid (row_keep (w' := w3.setCell ⟨bb, 5, none⟩ (.slice none 0 0)) H3.out.row (fun g hg => Below.heap_setCell _ _ _ _ (fun e => (H3.out.ne_bg hg).1 e.symm)))
 have R4 : Hid (ButL (blR bb mb v) w (w3.setCell ⟨bb, 5, none⟩ (.slice none 0 0))) := Lib.hid ((ButL.of_below B3.out).trans (ButL.setCell _ _ _ (by simp [blR])))
 have hbb : bb < w.heap.size := H.out.lt
 have Z4 : Hid ((w3.setCell ⟨bb, 5, none⟩ (.slice none 0 0)).heap[w.heap.size]? = some (.cells #[enS [], i64 0, i64 0, i64 0, .slice none 0 0] 32 (0, 0))) := Lib.hid ((Below.heap_setCell _ _ _ _ (by show w.heap.size ≠ bb; omega)).trans Z3.out)
 have D4 : Hid ((w3.setCell ⟨bb, 5, none⟩ (.slice none 0 0)).heap[pp]? = some (.cells #[enS B.ti, i64 B.vo, i64 (B.taken + 1), i64 now, .slice A B.wait.length c] 32 (0, 0))) := Lib.hid ((Below.heap_setCell _ _ _ _ (by show pp ≠ bb; omega)).trans D3.out)
 clear c5 f5 H3 Z3 D3 B3
 generalize w3.setCell ⟨bb, 5, none⟩ (.slice none 0 0) = w4 at *
 have c4 : w4.cell? ⟨bb, 4, none⟩ = some (i64 B.taken) := H4.out.cells.2.2.2.2.1
 have f4 := blk_free H4.out.blk 4
 go_upto_region 13 with fail
 have H5 : Hid (BlM (w4.setCell ⟨bb, 4, none⟩ (i64 (B.taken + 1))) base bb mb (.slice none 0 0) ⟨B.ti, B.vo, B.cap, B.mins, B.taken + 1, [], B.first, B.added⟩) := Lib.hid ⟨blk_set H4.out.blk 4 (i64 (B.taken + 1)), own2_nil _ _ _ _, H4.out.set.keep (Below.heap_setCell _ _ _ _ H.out.ne_bm.symm), by simp, H.out.lb, H.out.lm⟩
 have RW5 := Lib.hid (row_keep (w' := w4.setCell ⟨bb, 4, none⟩ (i64 (B.taken + 1))) RW4.out (fun g hg => Below.heap_setCell _ _ _ _ (fun e => (H.out.ne_bg hg).1 e.symm)))
 have R5 : Hid (ButL (blR bb mb v) w (w4.setCell ⟨bb, 4, none⟩ (i64 (B.taken + 1)))) := Lib.hid (R4.out.trans (ButL.setCell _ _ _ (by simp [blR])))
 have Z5 : Hid ((w4.setCell ⟨bb, 4, none⟩ (i64 (B.taken + 1))).heap[w.heap.size]? = some (.cells #[enS [], i64 0, i64 0, i64 0, .slice none 0 0] 32 (0, 0))) := Lib.hid ((Below.heap_setCell _ _ _ _ (by show w.heap.size ≠ bb; omega)).trans Z4.out)
 have D5 : Hid ((w4.setCell ⟨bb, 4, none⟩ (i64 (B.taken + 1))).heap[pp]? = some (.cells #[enS B.ti, i64 B.vo, i64 (B.taken + 1), i64 now, .slice A B.wait.length c] 32 (0, 0))) := Lib.hid ((Below.heap_setCell _ _ _ _ (by show pp ≠ bb; omega)).trans D4.out)
 clear c4 f4 H4 RW4 R4 Z4 D4
 generalize w4.setCell ⟨bb, 4, none⟩ (i64 (B.taken + 1)) = w5 at *
 have RG5 := Lib.hid (range_blk (cs := [enS B.ti, i64 B.vo, i64 (B.taken + 1), i64 now, .slice A B.wait.length c]) D5.out)
 go_wp2_with (first | refine wpList_load_mid rfl 32 _ rfl pp 0 rfl [enS B.ti, i64 B.vo, i64 (B.taken + 1), i64 now, .slice A B.wait.length c] _ RG5.out Tryz.underlying32 rfl (by kernel_rfl) ?_ | refine wpList_store_mid rfl 32 _ _ rfl w.heap.size 0 #[enS B.ti, i64 B.vo, i64 (B.taken + 1), i64 now, .slice A B.wait.length c] rfl rfl (there_at Z5.out (Nat.le_refl 5)) (by kernel_rfl) (one_dg _ _ _ _ _ _ _) ?_)
 have ZS := dg_store Z5.out (enS B.ti) (i64 B.vo) (i64 (B.taken + 1)) (i64 now) (.slice A B.wait.length c)
 have hb2 : But w.heap.size w5 (w5.setCells w.heap.size 0 [enS B.ti, i64 B.vo, i64 (B.taken + 1), i64 now, .slice A B.wait.length c]) := but_setCells _ _ _
 have hload := run_loadVar_mid (P := Tryz.prog) _ w.heap.size 0 32 [enS B.ti, i64 B.vo, i64 (B.taken + 1), i64 now, .slice A B.wait.length c] _ (range_blk (cs := [enS B.ti, i64 B.vo, i64 (B.taken + 1), i64 now, .slice A B.wait.length c]) ZS) Tryz.underlying32 rfl (by kernel_rfl)
 have hlts := H.out.lts
 have hsz5 := R5.out.size
 have hk5 : ∀ k ∈ blR bb mb v, (w5.setCells w.heap.size 0 [enS B.ti, i64 B.vo, i64 (B.taken + 1), i64 now, .slice A B.wait.length c]).heap[k]? = w5.heap[k]? := fun k hk => hb2.block k (Nat.lt_of_lt_of_le (hlts k hk) hsz5) (Nat.ne_of_lt (hlts k hk))
 have hrow5 := row_keep (w' := w5.setCells w.heap.size 0 [enS B.ti, i64 B.vo, i64 (B.taken + 1), i64 now, .slice A B.wait.length c]) RW5.out (fun g hg => hk5 g (by simp [blR, hg]))
 rw [hv] at hrow5
 exact bodyPost_ret (v := .tuple #[dgA (takeD B now) A c, i64 0]) (results_cell2 (a := 4) (i := 5) rfl rfl hload rfl) rfl ⟨.inr ⟨V.out, A, c, hv, rfl, RdI.of_own hrow5 H.out.ky, hwc, by
  rw [VT.out]
  exact H5.out.keep fun k hk => hk5 k (by simp only [blR, List.mem_cons, Option.mem_toList, Value.ownBlock] at hk ⊢; rcases hk with h | h | h <;> simp_all)⟩, ⟨hb2.os.trans R5.out.os, hb2.tape.trans R5.out.tape, hb2.output.trans R5.out.output, Nat.le_trans hsz5 hb2.size, fun k hk hn => (hb2.block k (Nat.lt_of_lt_of_le hk hsz5) (Nat.ne_of_lt hk)).trans (R5.out.block k hk hn)⟩⟩
/-! ### rows of equal cells -/
theorem flatG_len {α : Type} (enc : α → List Value) {k : Nat} (hk : ∀ x, (enc x).length = k) : ∀ l : List α, (l.flatMap enc).length = l.length * k
 | [] => by simp
 | x :: l => by rw [List.flatMap_cons, List.length_append, hk, flatG_len enc hk l, List.length_cons, Nat.succ_mul]; omega
theorem flatG_at {α : Type} (enc : α → List Value) {k : Nat} (hk : ∀ x, (enc x).length = k) : ∀ {l : List α} {j : Nat} {x : α} {t : Nat} {v : Value}, l[j]? = some x → (enc x)[t]? = some v → (l.flatMap enc)[j * k + t]? = some v
 | [], _, _, _, _, h, _ => by simp at h
 | a :: l, 0, x, t, v, h, hv => by
  obtain rfl : a = x := by simpa using h
  rw [Nat.zero_mul, Nat.zero_add, List.flatMap_cons, List.getElem?_append_left (List.getElem?_eq_some_iff.1 hv).1]; exact hv
 | a :: l, j + 1, x, t, v, h, hv => by
  rw [List.flatMap_cons, List.getElem?_append_right (by rw [hk, Nat.succ_mul]; omega), hk, show (j + 1) * k + t - k = j * k + t from by have : (j + 1) * k = j * k + k := Nat.succ_mul j k; omega]
  exact flatG_at enc hk (by simpa using h) hv
/-! ### identities in a row -/
structure RdK (w : World) (A : Option Addr) (ks : List (List UInt8)) : Prop where
 rd : 0 < ks.length → ∃ b o, A = some ⟨b, o, none⟩ ∧ b < w.heap.size ∧ ∀ j k, ks[j]? = some k → w.rangeAt b (o + j * 32) (idL k)
 ky : ∀ k ∈ ks, k.length = 32
theorem RdK.below {w w' : World} {A : Option Addr} {ks : List (List UInt8)} (h : RdK w A ks) (hb : Below w.heap.size w w') : RdK w' A ks :=
 ⟨fun hp => by
  obtain ⟨b, o, e, hlt, hc⟩ := h.rd hp
  exact ⟨b, o, e, Nat.lt_of_lt_of_le hlt hb.size, fun j x hj => range_below (hc j x hj) hb⟩, h.ky⟩
theorem RdK.at_ {w : World} {A : Option Addr} {ks : List (List UInt8)} {j : Nat} (h : RdK w A ks) (hj : j < ks.length) : ∃ b o k, A = some ⟨b, o, none⟩ ∧ b < w.heap.size ∧ ks[j]? = some k ∧ w.rangeAt b (o + j * 32) (idL k) ∧ k.length = 32 := by
 obtain ⟨b, o, e, hlt, hc⟩ := h.rd (by omega)
 exact ⟨b, o, ks[j], e, hlt, List.getElem?_eq_getElem hj, hc j _ (List.getElem?_eq_getElem hj), h.ky _ (List.getElem_mem hj)⟩
theorem RdK.of_own {w : World} {base n c : Nat} {t : TypeId} {A : Option Addr} {ks : List (List UInt8)} (h : w.ownsRow base t 32 (.slice A n c) n (ks.flatMap idL)) (hk : ∀ k ∈ ks, k.length = 32) : RdK w A ks := by
 refine ⟨fun hp => ?_, hk⟩
 rcases h.2 with ⟨_, h0⟩ | ⟨g, cap, cur, e, _, hg, _, _, _, ht⟩
 ·have := h.1
  rw [flatG_len idL idL_length, h0] at this
  omega
 ·cases e
  refine ⟨g, 0, rfl, blk_lt hg, fun j x hj i v hv => ?_⟩
  have e1 := flatG_at idL idL_length hj hv
  rw [← ht, List.getElem?_take] at e1
  rw [blk_cell hg]
  split at e1
  ·rw [Nat.zero_add, ← Array.getElem?_toList]; exact e1
  ·cases e1
/-! ### the reference's builder -/
section
variable {o : Oper} {a : Act} {w : World} {K : Act → World → Prop} {Q : Exit → Act → World → Prop}
end
section
variable {w W W' : World} {B : Bs} {A A2 : Option Addr} {c c2 : Nat} {x : It}
end
end Go.Proofs.YtlchcjnbbhpiaaaGreatDoor
