/- Contract: the example of the document. -/
import Derived.Test.YthgefcoaaommkaaDoorStP
namespace Go.Proofs.YthgefcoaaommkaaDoor
open Go.RowKit Go.Gn Go.Sr Go.Maps

def auK : List UInt8 := [0, 0, 0, 0, 0, 0, 0, 0, 0, 0, 0, 0, 0, 0, 0, 1]
def evK : Ev := { minute := 0, author := auK, groups := [[97], [98]], sites := [[120], [121]], bytes := 300 }
theorem evK_ok : chkE evK = 0 := by decide +kernel
theorem dsK : addA [] (dayE evK) (oneE evK) = [(0, (1, 300))] := by decide +kernel
theorem nsK : addAll (keysE evK) (oneE evK) [] = [((0, 1, [97]), (1, 300)), ((0, 1, [98]), (1, 300)), ((0, 2, [120]), (1, 300)), ((0, 2, [121]), (1, 300)), ((0, 3, hexT auK), (1, 300))] := by decide +kernel
theorem zsK : upAt (List.replicate 18 0) (blen evK.bytes) = [0, 0, 0, 0, 0, 0, 0, 0, 0, 1, 0, 0, 0, 0, 0, 0, 0, 0] := by decide +kernel
theorem smallK : smallC (1, 300) := by unfold smallC; simp only; omega
theorem two_le : 2 ≤ maxLen := by decide
theorem evK_lens : (∀ x ∈ evK.groups, x.length ≤ maxLen) ∧ ∀ x ∈ evK.sites, x.length ≤ maxLen := by decide
theorem evK_few : evK.groups.length ≤ 30 ∧ evK.sites.length ≤ 80 ∧ (∀ x ∈ evK.groups, x.length ≤ 4000) ∧ ∀ x ∈ evK.sites, x.length ≤ 4000 := by decide
theorem evK_wf : (Lit.int .i64 evK.minute).wf = true ∧ (Lit.int .i64 evK.bytes).wf = true := by decide
set_option maxRecDepth 100000 in
set_option maxHeartbeats 4000000 in
theorem known_any (w : World) (hE : Env w) : Calls Tryd.prog 5 #[] w fun e w' => e = .returned (.bool true) ∧ Below w.heap.size w w' := by
  have HE0 := Lib.hid hE
  clear hE
  go_enter Tryd.func5, Tryd.ntmps5
  go_wp2_with fail
  refine (new_any w).mono ?_; rintro e w1 ⟨p, bd, bn, rfl, hst, b1, hp0, hp1, hp2⟩
  have hlp := hst.lp
  have hld := hst.ld
  have hln := hst.ln
  have ST := Lib.hid hst
  have HB1 := Lib.hid b1
  clear hst b1
  go_wp2_with fail
  obtain ⟨wA, hwA⟩ : ∃ u : World, w1.alloc (.cells #[.int .u8 0, .int .u8 0, .int .u8 0, .int .u8 0, .int .u8 0, .int .u8 0, .int .u8 0, .int .u8 0, .int .u8 0, .int .u8 0, .int .u8 0, .int .u8 0, .int .u8 0, .int .u8 0, .int .u8 0, .int .u8 1] 34) = u := ⟨_, rfl⟩
  have hkA : wA.heap[w1.heap.size]? = some (.cells #[.int .u8 0, .int .u8 0, .int .u8 0, .int .u8 0, .int .u8 0, .int .u8 0, .int .u8 0, .int .u8 0, .int .u8 0, .int .u8 0, .int .u8 0, .int .u8 0, .int .u8 0, .int .u8 0, .int .u8 0, .int .u8 1] 34 (0, 0)) := by rw [← hwA]; exact blk_new w1 _
  have hbA : Below w1.heap.size w1 wA := by rw [← hwA]; exact below_new _ _
  have hsA : wA.heap.size = w1.heap.size + 1 := by rw [← hwA]; simp
  rw [hwA]
  have rB : Rd (wA.alloc (.cells #[.string ⟨#[97]⟩, .string ⟨#[98]⟩] 9)) (some ⟨wA.heap.size, 0, none⟩) [[97], [98]] := Rd.new wA [[97], [98]] 9
  obtain ⟨wB, hwB⟩ : ∃ u : World, wA.alloc (.cells #[.string ⟨#[97]⟩, .string ⟨#[98]⟩] 9) = u := ⟨_, rfl⟩
  have hbB : Below wA.heap.size wA wB := by rw [← hwB]; exact below_new _ _
  have hsB : wB.heap.size = wA.heap.size + 1 := by rw [← hwB]; simp
  have rC : Rd (wB.alloc (.cells #[.string ⟨#[120]⟩, .string ⟨#[121]⟩] 9)) (some ⟨wB.heap.size, 0, none⟩) [[120], [121]] := Rd.new wB [[120], [121]] 9
  obtain ⟨wC, hwC⟩ : ∃ u : World, wB.alloc (.cells #[.string ⟨#[120]⟩, .string ⟨#[121]⟩] 9) = u := ⟨_, rfl⟩
  have hbC : Below wB.heap.size wB wC := by rw [← hwC]; exact below_new _ _
  have hsC : wC.heap.size = wB.heap.size + 1 := by rw [← hwC]; simp
  rw [hwB] at rB
  rw [hwC] at rC
  have e1 : w1.heap.size + 1 = wA.heap.size := hsA.symm
  have e2 : w1.heap.size + 1 + 1 = wB.heap.size := by omega
  have hgm : GoodM wC ⟨evK, some ⟨wA.heap.size, 0, none⟩, 2, some ⟨wB.heap.size, 0, none⟩, 2⟩ := ⟨rfl, rB.below hbC, rC, Nat.le_refl 2, Nat.le_refl 2, two_le, two_le, evK_lens.1, evK_lens.2, evK_wf.1, evK_wf.2⟩
  have hbd : Below w1.heap.size w1 wC := (hbA.tr hbB).tr hbC
  have hadd := add_yes p bd bn [] [] (List.replicate 18 0) ⟨evK, some ⟨wA.heap.size, 0, none⟩, 2, some ⟨wB.heap.size, 0, none⟩, 2⟩ wC 0 hgm ⟨evK_few.1, evK_few.2.1, evK_few.2.2.1, evK_few.2.2.2⟩ (HE0.out.below (HB1.out.tr hbd)) (ST.out.below hbd) evK_ok (by omega) (by omega) (by intro q hq; cases hq) (by intro q hq; cases hq)
    ⟨fun _ b o e => by injection e with e; injection e with e; omega, fun _ b o e => by injection e with e; injection e with e; omega⟩ (fun k => by rw [List.getD_eq_getElem?_getD, List.getElem?_replicate]; split <;> simp) (by simp) (by simp) (by simp [sumC_nil])
  have HAD := Lib.hid hadd
  have HKA := Lib.hid (blk_below (hbB.tr hbC) hkA)
  have HBC := Lib.hid (HB1.out.tr hbd)
  have hsz : w1.heap.size < wC.heap.size := by omega
  clear hadd hgm rB rC hkA hbA hbB hbC hbd ST HB1 HE0 hsA hsC
  rw [e1, ← hsB, hwB, hwC]
  refine HAD.out.mono ?_; rintro e w2 ⟨rfl, hs2, b2⟩
  have HS2 := Lib.hid hs2
  dsimp only at HS2
  have HKA2 := Lib.hid ((b2.block w1.heap.size hsz (by simp; omega)).trans HKA.out)
  have HB2 := Lib.hid (HBC.out.trans (b2.toBelow (B := w.heap.size) (by have := HBC.out.size; omega) (by simp; omega)))
  clear hs2 b2 HAD HKA HBC
  rw [show addA [] (dayE evK) (oneE evK) = _ from dsK, show addAll (keysE evK) (oneE evK) [] = _ from nsK, show upAt (List.replicate 18 0) (blen evK.bytes) = _ from zsK] at HS2
  go_wp2_with fail
  have HC := Lib.hid (blk_new w2 (.cells #[i64 1, i64 300] 29))
  have BN := Lib.hid (below_new w2 (.cells #[i64 1, i64 300] 29))
  refine Flow.wp_region_segs Flow.Later Flow.Later.refl Flow.Later.trans [([0, 1, 2, 3, 5], 4), ([6, 7, 8, 9, 11], 10), ([12, 13, 14, 15, 17], 16), ([18, 19, 20, 21, 22, 25], 23), ([], 24), ([26, 27, 28, 29], 30)] [31, 32, 33, 34] (by kernel_rfl) (by kernel_rfl) ?_
  have S0 := Lib.hid ((StM.below HS2.out BN.out).below (Below.refl _ _).drew)
  have C0 := Lib.hid (blk_below (Below.refl _ _).drew HC.out)
  have A0 := Lib.hid (blk_below (BN.out.tr (Below.refl _ _).drew) HKA2.out)
  have W0 := Lib.hid (HB2.out.tr (BN.out.tr (Below.refl _ _).drew))
  clear HC BN HS2 HKA2 HB2
  generalize World.drew (w2.alloc (.cells #[i64 1, i64 300] 29)) = v0 at *
  have qc0 : ∀ t : Flow.Cls (Flow.Later v0), t.val.cell? ⟨w2.heap.size, 0, none⟩ = some (i64 1) := fun t => Flow.cls_cell (blk_cell C0.out 0) t
  have qc1 : ∀ t : Flow.Cls (Flow.Later v0), t.val.cell? ⟨w2.heap.size, 1, none⟩ = some (i64 300) := fun t => Flow.cls_cell (blk_cell C0.out 1) t
  haveI nonE := Flow.cls_nonempty v0
  rw [Flow.wpSegs_cons]
  simp only [Flow.pick, List.getElem?_toArray, List.getElem?_cons_succ, List.getElem?_cons_zero]
  repeat go_big_quiet_step (fail)
  refine wpQuiet_nil ?_
  clear nonE qc0 qc1
  rw [Flow.callAt_eq]
  simp only [List.getElem?_toArray, List.getElem?_cons_succ, List.getElem?_cons_zero]
  rw [if_pos (by rfl)]
  refine Flow.wp_behind (fun K hK => ?_)
  go_wp2_with fail
  refine (total_any p bd bn _ _ _ v0 S0.out (by intro q hq; simp at hq; (first | (subst hq; exact smallK) | (rcases hq with rfl | rfl | rfl | rfl | rfl <;> exact smallK))) (by simp)).mono ?_; rintro e v1 ⟨rfl, b⟩
  refine hK.out _ _ ⟨b, ?_⟩
  clear hK K
  have S1 := Lib.hid (S0.out.below b)
  have C1 := Lib.hid (blk_below b C0.out)
  have A1 := Lib.hid (blk_below b A0.out)
  have W1 := Lib.hid (W0.out.tr b)
  clear b S0 C0 A0 W0
  rw [show sumC ([((0 : Int), ((1 : Int), (300 : Int)))].map (·.2)) = (1, 300) by decide +kernel]
  dsimp only [cV]
  have qc0 : ∀ t : Flow.Cls (Flow.Later v1), t.val.cell? ⟨w2.heap.size, 0, none⟩ = some (i64 1) := fun t => Flow.cls_cell (blk_cell C1.out 0) t
  have qc1 : ∀ t : Flow.Cls (Flow.Later v1), t.val.cell? ⟨w2.heap.size, 1, none⟩ = some (i64 300) := fun t => Flow.cls_cell (blk_cell C1.out 1) t
  haveI nonE := Flow.cls_nonempty v1
  rw [Flow.wpSegs_cons]
  simp only [Flow.pick, List.getElem?_toArray, List.getElem?_cons_succ, List.getElem?_cons_zero]
  repeat go_big_quiet_step (fail)
  refine wpQuiet_nil ?_
  clear nonE qc0 qc1
  rw [Flow.callAt_eq]
  simp only [List.getElem?_toArray, List.getElem?_cons_succ, List.getElem?_cons_zero]
  rw [if_pos (by rfl)]
  refine Flow.wp_behind (fun K hK => ?_)
  go_wp2_with fail
  refine (of_any p bd bn _ _ _ 1 [98] 0 0 v1 S1.out (by intro q hq; simp at hq; (first | (subst hq; exact smallK) | (rcases hq with rfl | rfl | rfl | rfl | rfl <;> exact smallK))) (by simp)).mono ?_; rintro e v2 ⟨rfl, b⟩
  refine hK.out _ _ ⟨b, ?_⟩
  clear hK K
  have S2 := Lib.hid (S1.out.below b)
  have C2 := Lib.hid (blk_below b C1.out)
  have A2 := Lib.hid (blk_below b A1.out)
  have W2 := Lib.hid (W1.out.tr b)
  clear b S1 C1 A1 W1
  rw [show sumP (pickKy 1 [98] 0 0) ([((0, 1, [97]), (1, 300)), ((0, 1, [98]), (1, 300)), ((0, 2, [120]), (1, 300)), ((0, 2, [121]), (1, 300)), ((0, 3, hexT auK), (1, 300))] : List (Ky × C)) = (1, 300) by decide +kernel]
  dsimp only [cV]
  have qc0 : ∀ t : Flow.Cls (Flow.Later v2), t.val.cell? ⟨w2.heap.size, 0, none⟩ = some (i64 1) := fun t => Flow.cls_cell (blk_cell C2.out 0) t
  have qc1 : ∀ t : Flow.Cls (Flow.Later v2), t.val.cell? ⟨w2.heap.size, 1, none⟩ = some (i64 300) := fun t => Flow.cls_cell (blk_cell C2.out 1) t
  haveI nonE := Flow.cls_nonempty v2
  rw [Flow.wpSegs_cons]
  simp only [Flow.pick, List.getElem?_toArray, List.getElem?_cons_succ, List.getElem?_cons_zero]
  repeat go_big_quiet_step (fail)
  refine wpQuiet_nil ?_
  clear nonE qc0 qc1
  rw [Flow.callAt_eq]
  simp only [List.getElem?_toArray, List.getElem?_cons_succ, List.getElem?_cons_zero]
  rw [if_pos (by rfl)]
  refine Flow.wp_behind (fun K hK => ?_)
  go_wp2_with fail
  refine (of_any p bd bn _ _ _ 2 [120] 0 0 v2 S2.out (by intro q hq; simp at hq; (first | (subst hq; exact smallK) | (rcases hq with rfl | rfl | rfl | rfl | rfl <;> exact smallK))) (by simp)).mono ?_; rintro e v3 ⟨rfl, b⟩
  refine hK.out _ _ ⟨b, ?_⟩
  clear hK K
  have S3 := Lib.hid (S2.out.below b)
  have C3 := Lib.hid (blk_below b C2.out)
  have A3 := Lib.hid (blk_below b A2.out)
  have W3 := Lib.hid (W2.out.tr b)
  clear b S2 C2 A2 W2
  rw [show sumP (pickKy 2 [120] 0 0) ([((0, 1, [97]), (1, 300)), ((0, 1, [98]), (1, 300)), ((0, 2, [120]), (1, 300)), ((0, 2, [121]), (1, 300)), ((0, 3, hexT auK), (1, 300))] : List (Ky × C)) = (1, 300) by decide +kernel]
  dsimp only [cV]
  have qc0 : ∀ t : Flow.Cls (Flow.Later v3), t.val.cell? ⟨w2.heap.size, 0, none⟩ = some (i64 1) := fun t => Flow.cls_cell (blk_cell C3.out 0) t
  have qc1 : ∀ t : Flow.Cls (Flow.Later v3), t.val.cell? ⟨w2.heap.size, 1, none⟩ = some (i64 300) := fun t => Flow.cls_cell (blk_cell C3.out 1) t
  have qa0 : ∀ t : Flow.Cls (Flow.Later v3), t.val.cell? ⟨w1.heap.size, 0, none⟩ = some (.int .u8 0) := fun t => Flow.cls_cell (blk_cell A3.out 0) t
  have qa1 : ∀ t : Flow.Cls (Flow.Later v3), t.val.cell? ⟨w1.heap.size, 1, none⟩ = some (.int .u8 0) := fun t => Flow.cls_cell (blk_cell A3.out 1) t
  have qa2 : ∀ t : Flow.Cls (Flow.Later v3), t.val.cell? ⟨w1.heap.size, 2, none⟩ = some (.int .u8 0) := fun t => Flow.cls_cell (blk_cell A3.out 2) t
  have qa3 : ∀ t : Flow.Cls (Flow.Later v3), t.val.cell? ⟨w1.heap.size, 3, none⟩ = some (.int .u8 0) := fun t => Flow.cls_cell (blk_cell A3.out 3) t
  have qa4 : ∀ t : Flow.Cls (Flow.Later v3), t.val.cell? ⟨w1.heap.size, 4, none⟩ = some (.int .u8 0) := fun t => Flow.cls_cell (blk_cell A3.out 4) t
  have qa5 : ∀ t : Flow.Cls (Flow.Later v3), t.val.cell? ⟨w1.heap.size, 5, none⟩ = some (.int .u8 0) := fun t => Flow.cls_cell (blk_cell A3.out 5) t
  have qa6 : ∀ t : Flow.Cls (Flow.Later v3), t.val.cell? ⟨w1.heap.size, 6, none⟩ = some (.int .u8 0) := fun t => Flow.cls_cell (blk_cell A3.out 6) t
  have qa7 : ∀ t : Flow.Cls (Flow.Later v3), t.val.cell? ⟨w1.heap.size, 7, none⟩ = some (.int .u8 0) := fun t => Flow.cls_cell (blk_cell A3.out 7) t
  have qa8 : ∀ t : Flow.Cls (Flow.Later v3), t.val.cell? ⟨w1.heap.size, 8, none⟩ = some (.int .u8 0) := fun t => Flow.cls_cell (blk_cell A3.out 8) t
  have qa9 : ∀ t : Flow.Cls (Flow.Later v3), t.val.cell? ⟨w1.heap.size, 9, none⟩ = some (.int .u8 0) := fun t => Flow.cls_cell (blk_cell A3.out 9) t
  have qa10 : ∀ t : Flow.Cls (Flow.Later v3), t.val.cell? ⟨w1.heap.size, 10, none⟩ = some (.int .u8 0) := fun t => Flow.cls_cell (blk_cell A3.out 10) t
  have qa11 : ∀ t : Flow.Cls (Flow.Later v3), t.val.cell? ⟨w1.heap.size, 11, none⟩ = some (.int .u8 0) := fun t => Flow.cls_cell (blk_cell A3.out 11) t
  have qa12 : ∀ t : Flow.Cls (Flow.Later v3), t.val.cell? ⟨w1.heap.size, 12, none⟩ = some (.int .u8 0) := fun t => Flow.cls_cell (blk_cell A3.out 12) t
  have qa13 : ∀ t : Flow.Cls (Flow.Later v3), t.val.cell? ⟨w1.heap.size, 13, none⟩ = some (.int .u8 0) := fun t => Flow.cls_cell (blk_cell A3.out 13) t
  have qa14 : ∀ t : Flow.Cls (Flow.Later v3), t.val.cell? ⟨w1.heap.size, 14, none⟩ = some (.int .u8 0) := fun t => Flow.cls_cell (blk_cell A3.out 14) t
  have qa15 : ∀ t : Flow.Cls (Flow.Later v3), t.val.cell? ⟨w1.heap.size, 15, none⟩ = some (.int .u8 1) := fun t => Flow.cls_cell (blk_cell A3.out 15) t
  haveI nonE := Flow.cls_nonempty v3
  rw [Flow.wpSegs_cons]
  simp only [Flow.pick, List.getElem?_toArray, List.getElem?_cons_succ, List.getElem?_cons_zero]
  repeat go_big_quiet_step (fail)
  refine wpQuiet_nil ?_
  clear nonE qc0 qc1 qa0 qa1 qa2 qa3 qa4 qa5 qa6 qa7 qa8 qa9 qa10 qa11 qa12 qa13 qa14 qa15
  rw [Flow.callAt_eq]
  simp only [List.getElem?_toArray, List.getElem?_cons_succ, List.getElem?_cons_zero]
  rw [if_pos (by rfl)]
  refine Flow.wp_behind (fun K hK => ?_)
  go_wp2_with fail
  refine (refAuthor_any auK v3 rfl).mono ?_; rintro e v4 ⟨rfl, b⟩
  refine hK.out _ _ ⟨b, ?_⟩
  clear hK K
  have S4 := Lib.hid (S3.out.below b)
  have C4 := Lib.hid (blk_below b C3.out)
  have A4 := Lib.hid (blk_below b A3.out)
  have W4 := Lib.hid (W3.out.tr b)
  clear b S3 C3 A3 W3
  have qc0 : ∀ t : Flow.Cls (Flow.Later v4), t.val.cell? ⟨w2.heap.size, 0, none⟩ = some (i64 1) := fun t => Flow.cls_cell (blk_cell C4.out 0) t
  have qc1 : ∀ t : Flow.Cls (Flow.Later v4), t.val.cell? ⟨w2.heap.size, 1, none⟩ = some (i64 300) := fun t => Flow.cls_cell (blk_cell C4.out 1) t
  haveI nonE := Flow.cls_nonempty v4
  rw [Flow.wpSegs_cons]
  simp only [Flow.pick]
  repeat go_big_quiet_step (fail)
  refine wpQuiet_nil ?_
  clear nonE qc0 qc1
  rw [Flow.callAt_eq]
  simp only [List.getElem?_toArray, List.getElem?_cons_succ, List.getElem?_cons_zero]
  rw [if_pos (by rfl)]
  refine Flow.wp_behind (fun K hK => ?_)
  go_wp2_with fail
  refine (of_any p bd bn _ _ _ 3 (hexT auK) 0 0 v4 S4.out (by intro q hq; simp at hq; (first | (subst hq; exact smallK) | (rcases hq with rfl | rfl | rfl | rfl | rfl <;> exact smallK))) (by simp)).mono ?_; rintro e v5 ⟨rfl, b⟩
  refine hK.out _ _ ⟨b, ?_⟩
  clear hK K
  have S5 := Lib.hid (S4.out.below b)
  have C5 := Lib.hid (blk_below b C4.out)
  have A5 := Lib.hid (blk_below b A4.out)
  have W5 := Lib.hid (W4.out.tr b)
  clear b S4 C4 A4 W4
  rw [show sumP (pickKy 3 (hexT auK) 0 0) ([((0, 1, [97]), (1, 300)), ((0, 1, [98]), (1, 300)), ((0, 2, [120]), (1, 300)), ((0, 2, [121]), (1, 300)), ((0, 3, hexT auK), (1, 300))] : List (Ky × C)) = (1, 300) by decide +kernel]
  dsimp only [cV]
  have qc0 : ∀ t : Flow.Cls (Flow.Later v5), t.val.cell? ⟨w2.heap.size, 0, none⟩ = some (i64 1) := fun t => Flow.cls_cell (blk_cell C5.out 0) t
  have qc1 : ∀ t : Flow.Cls (Flow.Later v5), t.val.cell? ⟨w2.heap.size, 1, none⟩ = some (i64 300) := fun t => Flow.cls_cell (blk_cell C5.out 1) t
  haveI nonE := Flow.cls_nonempty v5
  rw [Flow.wpSegs_cons]
  simp only [Flow.pick, List.getElem?_toArray, List.getElem?_cons_succ, List.getElem?_cons_zero]
  repeat go_big_quiet_step (fail)
  refine wpQuiet_nil ?_
  clear nonE qc0 qc1
  rw [Flow.callAt_eq]
  simp only [List.getElem?_toArray, List.getElem?_cons_succ, List.getElem?_cons_zero]
  rw [if_pos (by rfl)]
  refine Flow.wp_behind (fun K hK => ?_)
  go_wp2_with fail
  refine (sizes_any p bd bn _ _ _ v5 S5.out).mono ?_; rintro e v6 ⟨rfl, b⟩
  refine hK.out _ _ ⟨b, ?_⟩
  clear hK K
  have S6 := Lib.hid (S5.out.below b)
  have C6 := Lib.hid (blk_below b C5.out)
  have A6 := Lib.hid (blk_below b A5.out)
  have W6 := Lib.hid (W5.out.tr b)
  clear b S5 C5 A5 W5
  simp only [List.map_cons, List.map_nil]
  have qc0 : ∀ t : Flow.Cls (Flow.Later v6), t.val.cell? ⟨w2.heap.size, 0, none⟩ = some (i64 1) := fun t => Flow.cls_cell (blk_cell C6.out 0) t
  have qc1 : ∀ t : Flow.Cls (Flow.Later v6), t.val.cell? ⟨w2.heap.size, 1, none⟩ = some (i64 300) := fun t => Flow.cls_cell (blk_cell C6.out 1) t
  haveI nonE := Flow.cls_nonempty v6
  rw [Flow.wpSegs_nil]
  simp only [Flow.pick, List.getElem?_toArray, List.getElem?_cons_succ, List.getElem?_cons_zero]
  refine BigFrame.wpQuiet_want rfl (fun K hK => quiet_index 43 _ _ rfl (i64 1) (fun w => by kernel_rfl) (hK _ ?_))
  clear hK K
  simp only [Act.put, List.setIfInBounds_toArray, List.set_cons_succ, List.set_cons_zero]
  repeat go_big_quiet_step (fail)
  refine wpQuiet_nil ?_
  clear nonE qc0 qc1
  go_wp2_with fail
  go_ret
  exact ⟨rfl, W6.out⟩
end Go.Proofs.YthgefcoaaommkaaDoor
