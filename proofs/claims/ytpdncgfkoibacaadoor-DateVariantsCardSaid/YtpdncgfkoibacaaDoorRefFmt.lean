/- Contracts of FormatZone and FormatDay of the reference of package date. -/
import Derived.Test.YtpdncgfkoibacaaDoorFormat
import Derived.Test.YtpdncgfkoibacaaDoorRefFrom
import Derived.Test.YtpdncgfkoibacaaDoorFlow
namespace Go.Proofs.YtpdncgfkoibacaaDoor
open Go.RowKit
open Cal

theorem dayCell (d : Int) (h0 : 0 ≤ d) (h1 : d < 7) : (#[.string ⟨#[77, 111, 110]⟩, .string ⟨#[84, 117, 101]⟩, .string ⟨#[87, 101, 100]⟩, .string ⟨#[84, 104, 117]⟩, .string ⟨#[70, 114, 105]⟩, .string ⟨#[83, 97, 116]⟩, .string ⟨#[83, 117, 110]⟩] : Array Value)[d.toNat]? = some (.string ⟨(dayN d).toArray⟩) := by
  have hm : d = 0 ∨ d = 1 ∨ d = 2 ∨ d = 3 ∨ d = 4 ∨ d = 5 ∨ d = 6 := by omega
  rcases hm with rfl | rfl | rfl | rfl | rfl | rfl | rfl <;> rfl
theorem monCell (d : Int) (h0 : 1 ≤ d) (h1 : d ≤ 12) : (#[.string ⟨#[74, 97, 110]⟩, .string ⟨#[70, 101, 98]⟩, .string ⟨#[77, 97, 114]⟩, .string ⟨#[65, 112, 114]⟩, .string ⟨#[77, 97, 121]⟩, .string ⟨#[74, 117, 110]⟩, .string ⟨#[74, 117, 108]⟩, .string ⟨#[65, 117, 103]⟩, .string ⟨#[83, 101, 112]⟩, .string ⟨#[79, 99, 116]⟩, .string ⟨#[78, 111, 118]⟩, .string ⟨#[68, 101, 99]⟩] : Array Value)[(d - 1).toNat]? = some (.string ⟨(monN d).toArray⟩) := by
  have hm : d = 1 ∨ d = 2 ∨ d = 3 ∨ d = 4 ∨ d = 5 ∨ d = 6 ∨ d = 7 ∨ d = 8 ∨ d = 9 ∨ d = 10 ∨ d = 11 ∨ d = 12 := by omega
  rcases hm with rfl | rfl | rfl | rfl | rfl | rfl | rfl | rfl | rfl | rfl | rfl | rfl <;> rfl

set_option maxHeartbeats 400000 in
theorem refFormatZone_no (m off : Int) (w : World) (h : zok m off = false) :
    Calls Tryd.prog 19 #[.int .i64 m, .int .i64 off] w fun e w' => e = .returned (.tuple #[.string ⟨#[]⟩, .int .i64 2]) ∧ w = w' := by
  cases h1 : vld m with
  | false =>
    clear h
    go_enter Tryd.func19, Tryd.ntmps19
    go_wp2_with (go_at_call 25; refine (refValid_any _ _).mono ?_; rintro e w' ⟨rfl, rfl⟩)
    go_ret2
    exact ⟨rfl, rfl⟩
  | true =>
    by_cases h2 : off < -840
    · clear h
      go_enter Tryd.func19, Tryd.ntmps19
      go_wp2_with (go_at_call 25; refine (refValid_any _ _).mono ?_; rintro e w' ⟨rfl, rfl⟩)
      go_ret2
      exact ⟨rfl, rfl⟩
    by_cases h3 : 840 < off
    · clear h
      have h2' : -840 ≤ off := by omega
      go_enter Tryd.func19, Tryd.ntmps19
      go_wp2_with (go_at_call 25; refine (refValid_any _ _).mono ?_; rintro e w' ⟨rfl, rfl⟩)
      go_ret2
      exact ⟨rfl, rfl⟩
    · have h2' : -840 ≤ off := by omega
      have h3' : off ≤ 840 := by omega
      have v := vld_true h1
      have h4 : vld (m + off) = false := by simpa [zok, h1, h2', h3'] using h
      clear h
      go_enter Tryd.func19, Tryd.ntmps19
      go_wp2_with fail
      refine (refValid_any _ _).mono ?_; rintro e w' ⟨rfl, rfl⟩
      go_wp2_with fail
      refine (refValid_any _ _).mono ?_; rintro e w' ⟨rfl, rfl⟩
      go_wp2_with fail
      go_ret2
      exact ⟨rfl, rfl⟩


set_option maxRecDepth 100000 in
set_option maxHeartbeats 8000000 in
theorem refFormatZone_pos (m A : Int) (w : World) (h : zok m A = true) (hp : 0 ≤ A) :
    Calls Tryd.prog 19 #[.int .i64 m, .int .i64 A] w fun e w' => e = .returned (.tuple #[.string ⟨(fmtText (m + A) A).toArray⟩, .int .i64 0]) ∧ Below w.heap.size w w' := by
  obtain ⟨⟨m0, m1⟩, o0, o1, s0, s1⟩ := zok_true h
  have v1 := vld_mk ⟨m0, m1⟩
  have v2 := vld_mk ⟨s0, s1⟩
  clear h
  have aY := civY_spec ((m + A) / 1440) (by omega) (by omega)
  have aM := civM_spec ((m + A) / 1440) (by omega) (by omega)
  have aD := civD_spec ((m + A) / 1440) (by omega) (by omega)
  have aB := md_bd (civY ((m + A) / 1440)) (civM ((m + A) / 1440))
  have y1 := aY.1; have y2 := aY.2.1; have q1 := aM.1; have q2 := aM.2.1; have d1 := aD.1; have d2 : civD ((m + A) / 1440) ≤ 31 := by omega
  clear aY aM aD aB
  have hh0 : 0 ≤ (m + A) % 1440 / 60 := by omega
  have hh1 : (m + A) % 1440 / 60 ≤ 23 := by omega
  have nn0 : 0 ≤ (m + A) % 60 := by omega
  have nn1 : (m + A) % 60 ≤ 59 := by omega
  have wd0 : 0 ≤ ((m + A) / 1440 + 5) % 7 := by omega
  have wd1 : ((m + A) / 1440 + 5) % 7 < 7 := by omega
  have hf : fmtText (m + A) A = dayN (((m + A) / 1440 + 5) % 7) ++ [44, 32] ++ digs 2 (civD ((m + A) / 1440)) ++ [32] ++ monN (civM ((m + A) / 1440)) ++ [32] ++ digs 4 (civY ((m + A) / 1440)) ++ [32] ++ digs 2 ((m + A) % 1440 / 60) ++ [58] ++ digs 2 ((m + A) % 60) ++ [32] ++ [43] ++ digs 4 (A / 60 * 100 + A % 60) := by
    have e1 : absI (A) = A := by unfold absI; split <;> omega
    have e2 : (if A < 0 then (45 : UInt8) else 43) = 43 := by split <;> first | rfl | omega
    rw [digs4_split _ _ (by omega) (by omega)]
    unfold fmtText; rw [e1, e2]; simp only [List.append_assoc]
  have HF := Lib.hid hf; clear hf
  go_enter Tryd.func19, Tryd.ntmps19
  go_wp2_with fail
  refine (refValid_any _ _).mono ?_; rintro e w' ⟨rfl, rfl⟩
  go_wp2_with fail
  refine (refValid_any _ _).mono ?_; rintro e w' ⟨rfl, rfl⟩
  go_wp2_with fail
  refine (refToCivil_yes _ _ (by omega) (by omega)).mono ?_; rintro e w1 ⟨rfl, b1⟩
  go_wp2_with fail
  generalize civY ((m + A) / 1440) = Y at *
  generalize civM ((m + A) / 1440) = M at *
  generalize civD ((m + A) / 1440) = D at *
  generalize (m + A) % 1440 / 60 = H at *
  generalize (m + A) % 60 = N at *
  obtain ⟨W, hW⟩ : ∃ W, W = w1.alloc (.cells #[.int .i64 Y, .int .i64 M, .int .i64 D, .int .i64 H, .int .i64 N] 28) := ⟨_, rfl⟩
  have hB : Below w.heap.size w W := by rw [hW]; exact b1.alloc b1.size _
  have blk : W.heap[w1.heap.size]? = some (.cells #[.int .i64 Y, .int .i64 M, .int .i64 D, .int .i64 H, .int .i64 N] 28 (0, 0)) := by rw [hW]; exact blk_new _ _
  rw [← hW]
  refine Flow.wp_region_segs Flow.Later Flow.Later.refl Flow.Later.trans [([1, 2, 3, 8, 9, 14, 15, 16, 21, 22, 26, 27, 31, 32, 36, 38, 39, 40, 41, 42, 43], 0), ([], 4), ([5, 6, 7], 10), ([11, 12], 13), ([17, 18, 19, 20], 23), ([24, 25], 28), ([29, 30], 33), ([34, 35, 37], 44)] [45, 46, 47] (by kernel_rfl) (by kernel_rfl) ?_
  have hB2 := Below.drew hB
  have blk2 : W.drew.heap[w1.heap.size]? = some (.cells #[.int .i64 Y, .int .i64 M, .int .i64 D, .int .i64 H, .int .i64 N] 28 (0, 0)) := blk
  generalize W.drew = w2 at *
  clear hW hB blk
  clear W
  have BL := Lib.hid blk2; clear blk2
  have c0 : ∀ t : Flow.Cls (Flow.Later w2), t.val.cell? ⟨w1.heap.size, 0, none⟩ = some (.int .i64 Y) := Flow.cls_cell (blk_cell BL.out 0)
  have c1 : ∀ t : Flow.Cls (Flow.Later w2), t.val.cell? ⟨w1.heap.size, 1, none⟩ = some (.int .i64 M) := Flow.cls_cell (blk_cell BL.out 1)
  have c2 : ∀ t : Flow.Cls (Flow.Later w2), t.val.cell? ⟨w1.heap.size, 2, none⟩ = some (.int .i64 D) := Flow.cls_cell (blk_cell BL.out 2)
  have c3 : ∀ t : Flow.Cls (Flow.Later w2), t.val.cell? ⟨w1.heap.size, 3, none⟩ = some (.int .i64 H) := Flow.cls_cell (blk_cell BL.out 3)
  have c4 : ∀ t : Flow.Cls (Flow.Later w2), t.val.cell? ⟨w1.heap.size, 4, none⟩ = some (.int .i64 N) := Flow.cls_cell (blk_cell BL.out 4)
  haveI nonE := Flow.cls_nonempty w2
  rw [Flow.wpSegs_cons]
  simp only [Flow.pick, List.getElem?_toArray, List.getElem?_cons_succ, List.getElem?_cons_zero]
  repeat go_big_quiet_step (fail)
  refine wpQuiet_nil ?_
  clear c0 c1 c2 c3 c4 nonE
  rw [Flow.callAt_eq]
  simp only [List.getElem?_toArray, List.getElem?_cons_zero]
  rw [if_pos (by rfl)]
  refine Flow.wp_behind (fun K hK => ?_)
  go_wp2_with fail
  refine (refDayNames_any _).mono ?_; rintro e w3 ⟨rfl, hw3⟩
  have NB : Hid (w3.heap[w2.heap.size]? = some (.cells #[.string ⟨#[77, 111, 110]⟩, .string ⟨#[84, 117, 101]⟩, .string ⟨#[87, 101, 100]⟩, .string ⟨#[84, 104, 117]⟩, .string ⟨#[70, 114, 105]⟩, .string ⟨#[83, 97, 116]⟩, .string ⟨#[83, 117, 110]⟩] 9 (0, 0))) := by rw [hw3]; exact blk_new _ _
  have b3 : Below w2.heap.size w2 w3 := by rw [hw3]; exact (Below.refl _ _).alloc (Nat.le_refl _) _
  have hB3 := hB2.trans (b3.mono hB2.size)
  refine hK.out _ _ ⟨b3, ?_⟩
  clear hK K hw3 BL hB2 b3
  generalize w2.heap.size = nb at *
  clear w2
  haveI nonE := Flow.cls_nonempty w3
  rw [Flow.wpSegs_cons]
  simp only [Flow.pick]
  refine wpQuiet_nil ?_
  clear nonE
  rw [Flow.callAt_eq]
  simp only [List.getElem?_toArray, List.getElem?_cons_succ, List.getElem?_cons_zero]
  rw [if_pos (by rfl)]
  refine Flow.wp_behind (fun K hK => ?_)
  go_wp2_with fail
  refine (refWeekday_any _ _ (by omega) (by omega)).mono ?_; rintro e w4 ⟨rfl, rfl⟩
  refine hK.out _ _ ⟨Flow.Later.refl _, ?_⟩
  clear hK K
  generalize hq : ((m + A) / 1440 + 5) % 7 = wd at *
  clear hq
  generalize hdn : dayN wd = W3 at *
  have l1 : W3.length = 3 := by rw [← hdn]; exact dayN_len wd wd0 wd1
  have nc : (#[.string ⟨#[77, 111, 110]⟩, .string ⟨#[84, 117, 101]⟩, .string ⟨#[87, 101, 100]⟩, .string ⟨#[84, 104, 117]⟩, .string ⟨#[70, 114, 105]⟩, .string ⟨#[83, 97, 116]⟩, .string ⟨#[83, 117, 110]⟩] : Array Value)[wd.toNat]? = some (.string ⟨W3.toArray⟩) := by rw [← hdn]; exact dayCell wd wd0 wd1
  have NC := Lib.hid nc; clear nc hdn
  have cn : ∀ t : Flow.Cls (Flow.Later w3), t.val.cell? ⟨nb, wd.toNat, none⟩ = some (.string ⟨W3.toArray⟩) := Flow.cls_cell ((blk_cell NB.out wd.toNat).trans NC.out)
  haveI nonE := Flow.cls_nonempty w3
  rw [Flow.wpSegs_cons]
  simp only [Flow.pick, List.getElem?_toArray, List.getElem?_cons_succ, List.getElem?_cons_zero]
  repeat go_big_quiet_step (fail)
  refine wpQuiet_nil ?_
  clear cn nonE
  rw [Flow.callAt_eq]
  simp only [List.getElem?_toArray, List.getElem?_cons_succ, List.getElem?_cons_zero]
  rw [if_pos (by rfl)]
  refine Flow.wp_behind (fun K hK => ?_)
  go_wp2_with fail
  have hBc := hB3; clear hB3 NB
  refine (refDigits_any _ 2 _ (by omega) (by omega) (by omega)).mono ?_; rintro e w5 ⟨rfl, b5⟩
  have hBn := hBc.trans (b5.mono hBc.size)
  refine hK.out _ _ ⟨b5, ?_⟩
  clear hK K b5 hBc
  have hBc := hBn; clear hBn
  clear w3
  have l2 := digs_length 2 (D)
  generalize digs 2 (D) = D2 at *
  haveI nonE := Flow.cls_nonempty w5
  rw [Flow.wpSegs_cons]
  simp only [Flow.pick, List.getElem?_toArray, List.getElem?_cons_succ, List.getElem?_cons_zero]
  repeat go_big_quiet_step (fail)
  refine wpQuiet_nil ?_
  clear nonE
  rw [Flow.callAt_eq]
  simp only [List.getElem?_toArray, List.getElem?_cons_succ, List.getElem?_cons_zero]
  rw [if_pos (by rfl)]
  refine Flow.wp_behind (fun K hK => ?_)
  go_wp2_with fail
  refine (refMonthNames_any _).mono ?_; rintro e w6 ⟨rfl, hw6⟩
  have NB : Hid (w6.heap[w5.heap.size]? = some (.cells #[.string ⟨#[74, 97, 110]⟩, .string ⟨#[70, 101, 98]⟩, .string ⟨#[77, 97, 114]⟩, .string ⟨#[65, 112, 114]⟩, .string ⟨#[77, 97, 121]⟩, .string ⟨#[74, 117, 110]⟩, .string ⟨#[74, 117, 108]⟩, .string ⟨#[65, 117, 103]⟩, .string ⟨#[83, 101, 112]⟩, .string ⟨#[79, 99, 116]⟩, .string ⟨#[78, 111, 118]⟩, .string ⟨#[68, 101, 99]⟩] 9 (0, 0))) := by rw [hw6]; exact blk_new _ _
  have b6 : Below w5.heap.size w5 w6 := by rw [hw6]; exact (Below.refl _ _).alloc (Nat.le_refl _) _
  have hBn := hBc.trans (b6.mono hBc.size)
  refine hK.out _ _ ⟨b6, ?_⟩
  clear hK K hw6 b6 hBc
  have hBc := hBn; clear hBn
  generalize w5.heap.size = nm at *
  clear w5
  generalize hmn : monN M = M3 at *
  have l3 : M3.length = 3 := by rw [← hmn]; exact monN_len M q1 q2
  have mc : (#[.string ⟨#[74, 97, 110]⟩, .string ⟨#[70, 101, 98]⟩, .string ⟨#[77, 97, 114]⟩, .string ⟨#[65, 112, 114]⟩, .string ⟨#[77, 97, 121]⟩, .string ⟨#[74, 117, 110]⟩, .string ⟨#[74, 117, 108]⟩, .string ⟨#[65, 117, 103]⟩, .string ⟨#[83, 101, 112]⟩, .string ⟨#[79, 99, 116]⟩, .string ⟨#[78, 111, 118]⟩, .string ⟨#[68, 101, 99]⟩] : Array Value)[M.toNat - 1]? = some (.string ⟨M3.toArray⟩) := by rw [← hmn, show M.toNat - 1 = (M - 1).toNat by omega]; exact monCell M q1 q2
  have MC := Lib.hid mc; clear mc hmn
  have cn : ∀ t : Flow.Cls (Flow.Later w6), t.val.cell? ⟨nm, M.toNat - 1, none⟩ = some (.string ⟨M3.toArray⟩) := Flow.cls_cell ((blk_cell NB.out (M.toNat - 1)).trans MC.out)
  haveI nonE := Flow.cls_nonempty w6
  rw [Flow.wpSegs_cons]
  simp only [Flow.pick, List.getElem?_toArray, List.getElem?_cons_succ, List.getElem?_cons_zero]
  repeat go_big_quiet_step (fail)
  refine wpQuiet_nil ?_
  clear cn nonE
  rw [Flow.callAt_eq]
  simp only [List.getElem?_toArray, List.getElem?_cons_succ, List.getElem?_cons_zero]
  rw [if_pos (by rfl)]
  refine Flow.wp_behind (fun K hK => ?_)
  go_wp2_with fail
  clear NB
  refine (refDigits_any _ 4 _ (by omega) (by omega) (by omega)).mono ?_; rintro e w7 ⟨rfl, b5⟩
  have hBn := hBc.trans (b5.mono hBc.size)
  refine hK.out _ _ ⟨b5, ?_⟩
  clear hK K b5 hBc
  have hBc := hBn; clear hBn
  clear w6
  have l4 := digs_length 4 (Y)
  generalize digs 4 (Y) = Y4 at *
  haveI nonE := Flow.cls_nonempty w7
  rw [Flow.wpSegs_cons]
  simp only [Flow.pick, List.getElem?_toArray, List.getElem?_cons_succ, List.getElem?_cons_zero]
  repeat go_big_quiet_step (fail)
  refine wpQuiet_nil ?_
  clear nonE
  rw [Flow.callAt_eq]
  simp only [List.getElem?_toArray, List.getElem?_cons_succ, List.getElem?_cons_zero]
  rw [if_pos (by rfl)]
  refine Flow.wp_behind (fun K hK => ?_)
  go_wp2_with fail
  refine (refDigits_any _ 2 _ (by omega) (by omega) (by omega)).mono ?_; rintro e w8 ⟨rfl, b5⟩
  have hBn := hBc.trans (b5.mono hBc.size)
  refine hK.out _ _ ⟨b5, ?_⟩
  clear hK K b5 hBc
  have hBc := hBn; clear hBn
  clear w7
  have l5 := digs_length 2 (H)
  generalize digs 2 (H) = H2 at *
  haveI nonE := Flow.cls_nonempty w8
  rw [Flow.wpSegs_cons]
  simp only [Flow.pick, List.getElem?_toArray, List.getElem?_cons_succ, List.getElem?_cons_zero]
  repeat go_big_quiet_step (fail)
  refine wpQuiet_nil ?_
  clear nonE
  rw [Flow.callAt_eq]
  simp only [List.getElem?_toArray, List.getElem?_cons_succ, List.getElem?_cons_zero]
  rw [if_pos (by rfl)]
  refine Flow.wp_behind (fun K hK => ?_)
  go_wp2_with fail
  refine (refDigits_any _ 2 _ (by omega) (by omega) (by omega)).mono ?_; rintro e w9 ⟨rfl, b5⟩
  have hBn := hBc.trans (b5.mono hBc.size)
  refine hK.out _ _ ⟨b5, ?_⟩
  clear hK K b5 hBc
  have hBc := hBn; clear hBn
  clear w8
  have l6 := digs_length 2 (N)
  generalize digs 2 (N) = N2 at *
  haveI nonE := Flow.cls_nonempty w9
  rw [Flow.wpSegs_cons]
  simp only [Flow.pick, List.getElem?_toArray, List.getElem?_cons_succ, List.getElem?_cons_zero]
  repeat go_big_quiet_step (fail)
  refine wpQuiet_nil ?_
  clear nonE
  rw [Flow.callAt_eq]
  simp only [List.getElem?_toArray, List.getElem?_cons_succ, List.getElem?_cons_zero]
  rw [if_pos (by rfl)]
  refine Flow.wp_behind (fun K hK => ?_)
  go_wp2_with fail
  refine (refDigits_any _ 4 _ (by omega) (by omega) (by omega)).mono ?_; rintro e w10 ⟨rfl, b5⟩
  have hBn := hBc.trans (b5.mono hBc.size)
  refine hK.out _ _ ⟨b5, ?_⟩
  clear hK K b5 hBc
  have hBc := hBn; clear hBn
  clear w9
  have l7 := digs_length 4 (A / 60 * 100 + A % 60)
  generalize digs 4 (A / 60 * 100 + A % 60) = A4 at *
  haveI nonE := Flow.cls_nonempty w10
  rw [Flow.wpSegs_nil]
  simp only [Flow.pick, List.getElem?_toArray, List.getElem?_cons_succ, List.getElem?_cons_zero]
  repeat go_big_quiet_step (fail)
  refine wpQuiet_nil ?_
  clear nonE
  go_wp2_with fail
  go_ret2
  refine ⟨?_, hBc⟩
  rw [HF.out]
  refine congrArg (fun s => Ending.returned (.tuple #[.string s, .int .i64 0])) ?_
  simp only [bcat]


set_option maxRecDepth 100000 in
set_option maxHeartbeats 8000000 in
theorem refFormatZone_neg (m A : Int) (w : World) (h : zok m (-A) = true) (hp : 0 < A) :
    Calls Tryd.prog 19 #[.int .i64 m, .int .i64 (-A)] w fun e w' => e = .returned (.tuple #[.string ⟨(fmtText (m + (-A)) (-A)).toArray⟩, .int .i64 0]) ∧ Below w.heap.size w w' := by
  obtain ⟨⟨m0, m1⟩, o0, o1, s0, s1⟩ := zok_true h
  have v1 := vld_mk ⟨m0, m1⟩
  have v2 := vld_mk ⟨s0, s1⟩
  clear h
  have aY := civY_spec ((m + (-A)) / 1440) (by omega) (by omega)
  have aM := civM_spec ((m + (-A)) / 1440) (by omega) (by omega)
  have aD := civD_spec ((m + (-A)) / 1440) (by omega) (by omega)
  have aB := md_bd (civY ((m + (-A)) / 1440)) (civM ((m + (-A)) / 1440))
  have y1 := aY.1; have y2 := aY.2.1; have q1 := aM.1; have q2 := aM.2.1; have d1 := aD.1; have d2 : civD ((m + (-A)) / 1440) ≤ 31 := by omega
  clear aY aM aD aB
  have hh0 : 0 ≤ (m + (-A)) % 1440 / 60 := by omega
  have hh1 : (m + (-A)) % 1440 / 60 ≤ 23 := by omega
  have nn0 : 0 ≤ (m + (-A)) % 60 := by omega
  have nn1 : (m + (-A)) % 60 ≤ 59 := by omega
  have wd0 : 0 ≤ ((m + (-A)) / 1440 + 5) % 7 := by omega
  have wd1 : ((m + (-A)) / 1440 + 5) % 7 < 7 := by omega
  have hf : fmtText (m + (-A)) (-A) = dayN (((m + (-A)) / 1440 + 5) % 7) ++ [44, 32] ++ digs 2 (civD ((m + (-A)) / 1440)) ++ [32] ++ monN (civM ((m + (-A)) / 1440)) ++ [32] ++ digs 4 (civY ((m + (-A)) / 1440)) ++ [32] ++ digs 2 ((m + (-A)) % 1440 / 60) ++ [58] ++ digs 2 ((m + (-A)) % 60) ++ [32] ++ [45] ++ digs 4 (A / 60 * 100 + A % 60) := by
    have e1 : absI ((-A)) = A := by unfold absI; split <;> omega
    have e2 : (if (-A) < 0 then (45 : UInt8) else 43) = 45 := by split <;> first | rfl | omega
    rw [digs4_split _ _ (by omega) (by omega)]
    unfold fmtText; rw [e1, e2]; simp only [List.append_assoc]
  have HF := Lib.hid hf; clear hf
  go_enter Tryd.func19, Tryd.ntmps19
  go_wp2_with fail
  refine (refValid_any _ _).mono ?_; rintro e w' ⟨rfl, rfl⟩
  go_wp2_with fail
  refine (refValid_any _ _).mono ?_; rintro e w' ⟨rfl, rfl⟩
  go_wp2_with fail
  refine (refToCivil_yes _ _ (by omega) (by omega)).mono ?_; rintro e w1 ⟨rfl, b1⟩
  go_wp2_with fail
  generalize civY ((m + (-A)) / 1440) = Y at *
  generalize civM ((m + (-A)) / 1440) = M at *
  generalize civD ((m + (-A)) / 1440) = D at *
  generalize (m + (-A)) % 1440 / 60 = H at *
  generalize (m + (-A)) % 60 = N at *
  obtain ⟨W, hW⟩ : ∃ W, W = w1.alloc (.cells #[.int .i64 Y, .int .i64 M, .int .i64 D, .int .i64 H, .int .i64 N] 28) := ⟨_, rfl⟩
  have hB : Below w.heap.size w W := by rw [hW]; exact b1.alloc b1.size _
  have blk : W.heap[w1.heap.size]? = some (.cells #[.int .i64 Y, .int .i64 M, .int .i64 D, .int .i64 H, .int .i64 N] 28 (0, 0)) := by rw [hW]; exact blk_new _ _
  rw [← hW]
  refine Flow.wp_region_segs Flow.Later Flow.Later.refl Flow.Later.trans [([1, 2, 3, 8, 9, 14, 15, 16, 21, 22, 26, 27, 31, 32, 36, 38, 39, 40, 41, 42, 43], 0), ([], 4), ([5, 6, 7], 10), ([11, 12], 13), ([17, 18, 19, 20], 23), ([24, 25], 28), ([29, 30], 33), ([34, 35, 37], 44)] [45, 46, 47] (by kernel_rfl) (by kernel_rfl) ?_
  have hB2 := Below.drew hB
  have blk2 : W.drew.heap[w1.heap.size]? = some (.cells #[.int .i64 Y, .int .i64 M, .int .i64 D, .int .i64 H, .int .i64 N] 28 (0, 0)) := blk
  generalize W.drew = w2 at *
  clear hW hB blk
  clear W
  have BL := Lib.hid blk2; clear blk2
  have c0 : ∀ t : Flow.Cls (Flow.Later w2), t.val.cell? ⟨w1.heap.size, 0, none⟩ = some (.int .i64 Y) := Flow.cls_cell (blk_cell BL.out 0)
  have c1 : ∀ t : Flow.Cls (Flow.Later w2), t.val.cell? ⟨w1.heap.size, 1, none⟩ = some (.int .i64 M) := Flow.cls_cell (blk_cell BL.out 1)
  have c2 : ∀ t : Flow.Cls (Flow.Later w2), t.val.cell? ⟨w1.heap.size, 2, none⟩ = some (.int .i64 D) := Flow.cls_cell (blk_cell BL.out 2)
  have c3 : ∀ t : Flow.Cls (Flow.Later w2), t.val.cell? ⟨w1.heap.size, 3, none⟩ = some (.int .i64 H) := Flow.cls_cell (blk_cell BL.out 3)
  have c4 : ∀ t : Flow.Cls (Flow.Later w2), t.val.cell? ⟨w1.heap.size, 4, none⟩ = some (.int .i64 N) := Flow.cls_cell (blk_cell BL.out 4)
  haveI nonE := Flow.cls_nonempty w2
  rw [Flow.wpSegs_cons]
  simp only [Flow.pick, List.getElem?_toArray, List.getElem?_cons_succ, List.getElem?_cons_zero]
  repeat go_big_quiet_step (fail)
  refine wpQuiet_nil ?_
  clear c0 c1 c2 c3 c4 nonE
  rw [Flow.callAt_eq]
  simp only [List.getElem?_toArray, List.getElem?_cons_zero]
  rw [if_pos (by rfl)]
  refine Flow.wp_behind (fun K hK => ?_)
  go_wp2_with fail
  refine (refDayNames_any _).mono ?_; rintro e w3 ⟨rfl, hw3⟩
  have NB : Hid (w3.heap[w2.heap.size]? = some (.cells #[.string ⟨#[77, 111, 110]⟩, .string ⟨#[84, 117, 101]⟩, .string ⟨#[87, 101, 100]⟩, .string ⟨#[84, 104, 117]⟩, .string ⟨#[70, 114, 105]⟩, .string ⟨#[83, 97, 116]⟩, .string ⟨#[83, 117, 110]⟩] 9 (0, 0))) := by rw [hw3]; exact blk_new _ _
  have b3 : Below w2.heap.size w2 w3 := by rw [hw3]; exact (Below.refl _ _).alloc (Nat.le_refl _) _
  have hB3 := hB2.trans (b3.mono hB2.size)
  refine hK.out _ _ ⟨b3, ?_⟩
  clear hK K hw3 BL hB2 b3
  generalize w2.heap.size = nb at *
  clear w2
  haveI nonE := Flow.cls_nonempty w3
  rw [Flow.wpSegs_cons]
  simp only [Flow.pick]
  refine wpQuiet_nil ?_
  clear nonE
  rw [Flow.callAt_eq]
  simp only [List.getElem?_toArray, List.getElem?_cons_succ, List.getElem?_cons_zero]
  rw [if_pos (by rfl)]
  refine Flow.wp_behind (fun K hK => ?_)
  go_wp2_with fail
  refine (refWeekday_any _ _ (by omega) (by omega)).mono ?_; rintro e w4 ⟨rfl, rfl⟩
  refine hK.out _ _ ⟨Flow.Later.refl _, ?_⟩
  clear hK K
  generalize hq : ((m + (-A)) / 1440 + 5) % 7 = wd at *
  clear hq
  generalize hdn : dayN wd = W3 at *
  have l1 : W3.length = 3 := by rw [← hdn]; exact dayN_len wd wd0 wd1
  have nc : (#[.string ⟨#[77, 111, 110]⟩, .string ⟨#[84, 117, 101]⟩, .string ⟨#[87, 101, 100]⟩, .string ⟨#[84, 104, 117]⟩, .string ⟨#[70, 114, 105]⟩, .string ⟨#[83, 97, 116]⟩, .string ⟨#[83, 117, 110]⟩] : Array Value)[wd.toNat]? = some (.string ⟨W3.toArray⟩) := by rw [← hdn]; exact dayCell wd wd0 wd1
  have NC := Lib.hid nc; clear nc hdn
  have cn : ∀ t : Flow.Cls (Flow.Later w3), t.val.cell? ⟨nb, wd.toNat, none⟩ = some (.string ⟨W3.toArray⟩) := Flow.cls_cell ((blk_cell NB.out wd.toNat).trans NC.out)
  haveI nonE := Flow.cls_nonempty w3
  rw [Flow.wpSegs_cons]
  simp only [Flow.pick, List.getElem?_toArray, List.getElem?_cons_succ, List.getElem?_cons_zero]
  repeat go_big_quiet_step (fail)
  refine wpQuiet_nil ?_
  clear cn nonE
  rw [Flow.callAt_eq]
  simp only [List.getElem?_toArray, List.getElem?_cons_succ, List.getElem?_cons_zero]
  rw [if_pos (by rfl)]
  refine Flow.wp_behind (fun K hK => ?_)
  go_wp2_with fail
  have hBc := hB3; clear hB3 NB
  refine (refDigits_any _ 2 _ (by omega) (by omega) (by omega)).mono ?_; rintro e w5 ⟨rfl, b5⟩
  have hBn := hBc.trans (b5.mono hBc.size)
  refine hK.out _ _ ⟨b5, ?_⟩
  clear hK K b5 hBc
  have hBc := hBn; clear hBn
  clear w3
  have l2 := digs_length 2 (D)
  generalize digs 2 (D) = D2 at *
  haveI nonE := Flow.cls_nonempty w5
  rw [Flow.wpSegs_cons]
  simp only [Flow.pick, List.getElem?_toArray, List.getElem?_cons_succ, List.getElem?_cons_zero]
  repeat go_big_quiet_step (fail)
  refine wpQuiet_nil ?_
  clear nonE
  rw [Flow.callAt_eq]
  simp only [List.getElem?_toArray, List.getElem?_cons_succ, List.getElem?_cons_zero]
  rw [if_pos (by rfl)]
  refine Flow.wp_behind (fun K hK => ?_)
  go_wp2_with fail
  refine (refMonthNames_any _).mono ?_; rintro e w6 ⟨rfl, hw6⟩
  have NB : Hid (w6.heap[w5.heap.size]? = some (.cells #[.string ⟨#[74, 97, 110]⟩, .string ⟨#[70, 101, 98]⟩, .string ⟨#[77, 97, 114]⟩, .string ⟨#[65, 112, 114]⟩, .string ⟨#[77, 97, 121]⟩, .string ⟨#[74, 117, 110]⟩, .string ⟨#[74, 117, 108]⟩, .string ⟨#[65, 117, 103]⟩, .string ⟨#[83, 101, 112]⟩, .string ⟨#[79, 99, 116]⟩, .string ⟨#[78, 111, 118]⟩, .string ⟨#[68, 101, 99]⟩] 9 (0, 0))) := by rw [hw6]; exact blk_new _ _
  have b6 : Below w5.heap.size w5 w6 := by rw [hw6]; exact (Below.refl _ _).alloc (Nat.le_refl _) _
  have hBn := hBc.trans (b6.mono hBc.size)
  refine hK.out _ _ ⟨b6, ?_⟩
  clear hK K hw6 b6 hBc
  have hBc := hBn; clear hBn
  generalize w5.heap.size = nm at *
  clear w5
  generalize hmn : monN M = M3 at *
  have l3 : M3.length = 3 := by rw [← hmn]; exact monN_len M q1 q2
  have mc : (#[.string ⟨#[74, 97, 110]⟩, .string ⟨#[70, 101, 98]⟩, .string ⟨#[77, 97, 114]⟩, .string ⟨#[65, 112, 114]⟩, .string ⟨#[77, 97, 121]⟩, .string ⟨#[74, 117, 110]⟩, .string ⟨#[74, 117, 108]⟩, .string ⟨#[65, 117, 103]⟩, .string ⟨#[83, 101, 112]⟩, .string ⟨#[79, 99, 116]⟩, .string ⟨#[78, 111, 118]⟩, .string ⟨#[68, 101, 99]⟩] : Array Value)[M.toNat - 1]? = some (.string ⟨M3.toArray⟩) := by rw [← hmn, show M.toNat - 1 = (M - 1).toNat by omega]; exact monCell M q1 q2
  have MC := Lib.hid mc; clear mc hmn
  have cn : ∀ t : Flow.Cls (Flow.Later w6), t.val.cell? ⟨nm, M.toNat - 1, none⟩ = some (.string ⟨M3.toArray⟩) := Flow.cls_cell ((blk_cell NB.out (M.toNat - 1)).trans MC.out)
  haveI nonE := Flow.cls_nonempty w6
  rw [Flow.wpSegs_cons]
  simp only [Flow.pick, List.getElem?_toArray, List.getElem?_cons_succ, List.getElem?_cons_zero]
  repeat go_big_quiet_step (fail)
  refine wpQuiet_nil ?_
  clear cn nonE
  rw [Flow.callAt_eq]
  simp only [List.getElem?_toArray, List.getElem?_cons_succ, List.getElem?_cons_zero]
  rw [if_pos (by rfl)]
  refine Flow.wp_behind (fun K hK => ?_)
  go_wp2_with fail
  clear NB
  refine (refDigits_any _ 4 _ (by omega) (by omega) (by omega)).mono ?_; rintro e w7 ⟨rfl, b5⟩
  have hBn := hBc.trans (b5.mono hBc.size)
  refine hK.out _ _ ⟨b5, ?_⟩
  clear hK K b5 hBc
  have hBc := hBn; clear hBn
  clear w6
  have l4 := digs_length 4 (Y)
  generalize digs 4 (Y) = Y4 at *
  haveI nonE := Flow.cls_nonempty w7
  rw [Flow.wpSegs_cons]
  simp only [Flow.pick, List.getElem?_toArray, List.getElem?_cons_succ, List.getElem?_cons_zero]
  repeat go_big_quiet_step (fail)
  refine wpQuiet_nil ?_
  clear nonE
  rw [Flow.callAt_eq]
  simp only [List.getElem?_toArray, List.getElem?_cons_succ, List.getElem?_cons_zero]
  rw [if_pos (by rfl)]
  refine Flow.wp_behind (fun K hK => ?_)
  go_wp2_with fail
  refine (refDigits_any _ 2 _ (by omega) (by omega) (by omega)).mono ?_; rintro e w8 ⟨rfl, b5⟩
  have hBn := hBc.trans (b5.mono hBc.size)
  refine hK.out _ _ ⟨b5, ?_⟩
  clear hK K b5 hBc
  have hBc := hBn; clear hBn
  clear w7
  have l5 := digs_length 2 (H)
  generalize digs 2 (H) = H2 at *
  haveI nonE := Flow.cls_nonempty w8
  rw [Flow.wpSegs_cons]
  simp only [Flow.pick, List.getElem?_toArray, List.getElem?_cons_succ, List.getElem?_cons_zero]
  repeat go_big_quiet_step (fail)
  refine wpQuiet_nil ?_
  clear nonE
  rw [Flow.callAt_eq]
  simp only [List.getElem?_toArray, List.getElem?_cons_succ, List.getElem?_cons_zero]
  rw [if_pos (by rfl)]
  refine Flow.wp_behind (fun K hK => ?_)
  go_wp2_with fail
  refine (refDigits_any _ 2 _ (by omega) (by omega) (by omega)).mono ?_; rintro e w9 ⟨rfl, b5⟩
  have hBn := hBc.trans (b5.mono hBc.size)
  refine hK.out _ _ ⟨b5, ?_⟩
  clear hK K b5 hBc
  have hBc := hBn; clear hBn
  clear w8
  have l6 := digs_length 2 (N)
  generalize digs 2 (N) = N2 at *
  haveI nonE := Flow.cls_nonempty w9
  rw [Flow.wpSegs_cons]
  simp only [Flow.pick, List.getElem?_toArray, List.getElem?_cons_succ, List.getElem?_cons_zero]
  repeat go_big_quiet_step (fail)
  refine wpQuiet_nil ?_
  clear nonE
  rw [Flow.callAt_eq]
  simp only [List.getElem?_toArray, List.getElem?_cons_succ, List.getElem?_cons_zero]
  rw [if_pos (by rfl)]
  refine Flow.wp_behind (fun K hK => ?_)
  go_wp2_with fail
  refine (refDigits_any _ 4 _ (by omega) (by omega) (by omega)).mono ?_; rintro e w10 ⟨rfl, b5⟩
  have hBn := hBc.trans (b5.mono hBc.size)
  refine hK.out _ _ ⟨b5, ?_⟩
  clear hK K b5 hBc
  have hBc := hBn; clear hBn
  clear w9
  have l7 := digs_length 4 (A / 60 * 100 + A % 60)
  generalize digs 4 (A / 60 * 100 + A % 60) = A4 at *
  haveI nonE := Flow.cls_nonempty w10
  rw [Flow.wpSegs_nil]
  simp only [Flow.pick, List.getElem?_toArray, List.getElem?_cons_succ, List.getElem?_cons_zero]
  repeat go_big_quiet_step (fail)
  refine wpQuiet_nil ?_
  clear nonE
  go_wp2_with fail
  go_ret2
  refine ⟨?_, hBc⟩
  rw [HF.out]
  refine congrArg (fun s => Ending.returned (.tuple #[.string s, .int .i64 0])) ?_
  simp only [bcat]


theorem refFormatZone_yes (m off : Int) (w : World) (h : zok m off = true) :
    Calls Tryd.prog 19 #[.int .i64 m, .int .i64 off] w fun e w' => e = .returned (.tuple #[.string ⟨(fmtText (m + off) off).toArray⟩, .int .i64 0]) ∧ Below w.heap.size w w' := by
  by_cases hp : off < 0
  · have := refFormatZone_neg m (-off) w (by rw [Int.neg_neg]; exact h) (by omega)
    rw [Int.neg_neg] at this
    exact this
  · exact refFormatZone_pos m off w h (by omega)

end Go.Proofs.YtpdncgfkoibacaaDoor
