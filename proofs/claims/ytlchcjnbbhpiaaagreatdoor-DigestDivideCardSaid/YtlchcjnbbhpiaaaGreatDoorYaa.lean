/- Contracts of days, ToCivil and FromCivil of the reference of package date.
   Contracts of FormatZone and FormatDay of the reference of package date.
   Contracts: the reference's plain, sized, within, Valid, find, Item.
   Contracts: the reference's Item, find.
   Contracts: the reference's decimal, head, date, Digits, Print.
   Contracts: the reference's date, Digits, Print. -/
import Derived.Test.YtlchcjnbbhpiaaaGreatDoorZf
import Derived.Test.YtlchcjnbbhpiaaaGreatDoorZo
import Derived.Test.YtlchcjnbbhpiaaaGreatDoorZb
import Derived.Test.YtlchcjnbbhpiaaaGreatDoorZz
namespace Go.Proofs.YtlchcjnbbhpiaaaGreatDoor.Dt
open Go.Dt
open Go.RowKit
open Cal
theorem blk_new2 (w : World) (o p : Obj) : ((w.alloc o).alloc p).heap[w.heap.size + 1]? = some p := by
 have := blk_new (w.alloc o) p
 simpa using this
set_option maxHeartbeats 1000000 in
theorem refDays_any (y m : Int) (w : World) (h : 0 ≤ y) (h2 : y ≤ 100000) (m1 : 1 ≤ m) (m2 : m ≤ 12) :
  Calls Tryz.prog 215 #[.int .i64 y, .int .i64 m] w fun e w' => e = .returned (.int .i64 (md y m)) ∧ Below w.heap.size w w' := by
 have hm : m = 1 ∨ m = 2 ∨ m = 3 ∨ m = 4 ∨ m = 5 ∨ m = 6 ∨ m = 7 ∨ m = 8 ∨ m = 9 ∨ m = 10 ∨ m = 11 ∨ m = 12 := by omega
 have hl : (lp y == 1) = true ∨ (lp y == 1) = false := by cases (lp y == 1) <;> simp
 have h01 := lp_01 y
 rcases hl with hl | hl <;> rcases hm with rfl | rfl | rfl | rfl | rfl | rfl | rfl | rfl | rfl | rfl | rfl | rfl
 all_goals
  go_enter Tryz.func215, Tryz.ntmps215
  go_wp2_with (go_at_call 214; refine (leap_any _ _ (by omega) (by omega)).mono ?_; rintro e w' ⟨rfl, rfl⟩)
  go_ret
  refine ⟨ret_int ?_, ?_⟩
  ·first
    | (simp [md]; done)
    | (have := beq_iff_eq.1 hl; simp [md, this]; done)
    | (have := beq_eq_false_iff_ne.1 hl; have e : lp y = 0 := by omega
       simp [md, e]; done)
  ·first
    | exact Below.refl _ _
    | exact (Below.refl _ _).alloc (Nat.le_refl _) _
set_option maxHeartbeats 2000000 in
theorem refToCivil_yes (t : Int) (w : World) (h0 : 0 ≤ t) (h1 : t ≤ 105190559) :
  Calls Tryz.prog 176 #[.int .i64 t] w fun e w' => e = .returned (.tuple #[.agg #[.int .i64 (civY (t / 1440)), .int .i64 (civM (t / 1440)), .int .i64 (civD (t / 1440)), .int .i64 (t % 1440 / 60), .int .i64 (t % 60)], .int .i64 0]) ∧ Below w.heap.size w w' := by
 have A := vld_mk ⟨h0, h1⟩
 have d0 : 0 ≤ t / 1440 := by omega
 have d1 : t / 1440 ≤ 73048 := by omega
 have B1 := Lib.hid dby_2000
 go_enter Tryz.func176, Tryz.ntmps176
 go_wp2_with (go_at_call 68; refine (refValid_any _ _).mono ?_; rintro e w' ⟨rfl, rfl⟩)
 generalize hd : t / 1440 = d at *
 have HD := Lib.hid hd; clear hd
 generalize hhh : t % 1440 / 60 = hh at *
 have HH := Lib.hid hhh; clear hhh
 generalize hmm : t % 60 = mm at *
 have HM := Lib.hid hmm; clear hmm
 go_loopw [4] (fun x wr => ∃ y : Int, 2000 ≤ y ∧ y ≤ 2199 ∧ dby y ≤ d ∧ x = .int .i64 (d - dby y) ∧ wr = (w.alloc (.cells #[.int .i64 0, .int .i64 0, .int .i64 0, .int .i64 0, .int .i64 0] 219)).alloc (.cells #[.int .i64 y, .int .i64 1, .int .i64 0, .int .i64 hh, .int .i64 mm] 219)) (fun x _ => (intOf x).toNat)
 case atStart => exact ⟨2000, by omega, by omega, by rw [B1.out]; exact d0, by rw [B1.out]; simp, rfl⟩
 case round =>
  obtain ⟨y, hy1, hy2, hy3, rfl, rfl⟩ := hrel
  have hs := dby_succ y
  have hb := yd_bd y
  have hm := dby_mono hy1
  rw [B1.out] at hm
  by_cases hc : yd y ≤ d - dby y
  ·have hy4 : y < 2199 := by
    rcases Int.lt_or_eq_of_le hy2 with h | h
    ·exact h
    ·have := dby_2200; subst h; have e : (2199 : Int) + 1 = 2200 := rfl; rw [e] at hs; omega
   rcases yd_eq y with ⟨a, b, _⟩ | ⟨a, b, _⟩
   all_goals
    have hle : (lp y == 1) = true ∨ (lp y == 1) = false := by cases (lp y == 1) <;> simp
    rcases hle with hle | hle
    all_goals first | (exfalso; simp [b] at hle; done) | skip
    rw [a] at hs hc
    have HS := Lib.hid hs; clear hs a b hb
    go_wp2_with (go_at_call 214; refine (leap_any _ _ (by omega) (by omega)).mono ?_; rintro e w' ⟨rfl, rfl⟩)
    go_roundw
    case rel => exact ⟨y + 1, by omega, by omega, by rw [HS.out]; omega, by rw [HS.out]; go_num, rfl⟩
    case measure => simp [intOf]; omega
  ·have hs' : d < dby (y + 1) := by omega
   have ey := civY_eq d0 d1 hy3 hs'
   have EY := Lib.hid ey; clear ey
   have hlt : d - dby y < yd y := by omega
   rcases yd_eq y with ⟨a, b, _⟩ | ⟨a, b, _⟩
   all_goals
    have hle : (lp y == 1) = true ∨ (lp y == 1) = false := by cases (lp y == 1) <;> simp
    rcases hle with hle | hle
    all_goals first | (exfalso; simp [b] at hle; done) | skip
    have YD := Lib.hid a
    rw [a] at hlt
    clear hc hs hs' a b hb
    go_wp2_with (go_at_call 214; refine (leap_any _ _ (by omega) (by omega)).mono ?_; rintro e w' ⟨rfl, rfl⟩)
    go_loopw [4] (fun x wr => ∃ m : Int, 1 ≤ m ∧ m ≤ 12 ∧ cum y m ≤ d - dby y ∧ x = .int .i64 (d - dby y - cum y m) ∧ Below w.heap.size w wr ∧ Hid (wr.heap[w.heap.size]? = some (.cells #[.int .i64 0, .int .i64 0, .int .i64 0, .int .i64 0, .int .i64 0] 219 (0, 0))) ∧ Hid (wr.heap[w.heap.size + 1]? = some (.cells #[.int .i64 y, .int .i64 m, .int .i64 0, .int .i64 hh, .int .i64 mm] 219 (0, 0)))) (fun x _ => (intOf x).toNat)
    case atStart => exact ⟨1, by omega, by omega, by rw [cum_one]; omega, by rw [cum_one]; simp, ((Below.refl _ _).alloc (Nat.le_refl _) _).alloc (by simp) _, blk_old _ (blk_new _ _), blk_new2 _ _ _⟩
    case round =>
     obtain ⟨m, hm1, hm2, hm3, rfl, hB, k0, k1⟩ := hrel
     have cs := cum_succ y m hm1 hm2
     have mb := md_bd y m
     have cb := cum_bd y m (by omega)
     have z1 := blk_lt k1.out
     have c0 : wr.cell? ⟨w.heap.size + 1, 0, none⟩ = some (.int .i64 y) := blk_cell k1.out 0
     have c1 : wr.cell? ⟨w.heap.size + 1, 1, none⟩ = some (.int .i64 m) := blk_cell k1.out 1
     go_wp2_with fail
     refine (refDays_any _ _ _ (by omega) (by omega) (by omega) (by omega)).mono ?_
     rintro e w2 ⟨rfl, b2⟩
     have k0' := Lib.hid (blk_below b2 k0.out)
     have k1' := Lib.hid (blk_below b2 k1.out)
     have hB2 := hB.trans (b2.mono (by have := hB.size; omega))
     clear c0 c1 k0 k1 hB b2 z1
     have c0 : w2.cell? ⟨w.heap.size + 1, 0, none⟩ = some (.int .i64 y) := blk_cell k1'.out 0
     have c1 : w2.cell? ⟨w.heap.size + 1, 1, none⟩ = some (.int .i64 m) := blk_cell k1'.out 1
     by_cases hc2 : md y m ≤ d - dby y - cum y m
     ·have hm4 : m < 12 := by
       rcases Int.lt_or_eq_of_le hm2 with h | h
       ·exact h
       ·have := cum_13 y; subst h; have e : (12 : Int) + 1 = 13 := rfl; rw [e] at cs; have := YD.out; omega
      have CS := Lib.hid cs; clear cs
      go_wp2_with fail
      refine (refDays_any _ _ _ (by omega) (by omega) (by omega) (by omega)).mono ?_
      rintro e w3 ⟨rfl, b3⟩
      have k0 := Lib.hid (blk_below b3 k0'.out)
      have k1 := Lib.hid (blk_below b3 k1'.out)
      have hB := hB2.trans (b3.mono (by have := hB2.size; omega))
      clear c0 c1 k0' k1' hB2 b3
      have c0 : w3.cell? ⟨w.heap.size + 1, 0, none⟩ = some (.int .i64 y) := blk_cell k1.out 0
      have c1 : w3.cell? ⟨w.heap.size + 1, 1, none⟩ = some (.int .i64 m) := blk_cell k1.out 1
      have f1 : w3.frozen? ⟨w.heap.size + 1, 1, none⟩ = false := blk_free k1.out 1
      go_wp2_with fail
      go_roundw
      case rel => exact ⟨m + 1, by omega, by omega, by rw [CS.out]; omega, by rw [CS.out]; go_num, hB.setCell (by simp) _, by show _ = _; rw [blk_set_ne _ _ (by omega)]; exact k0.out, by show _ = _; rw [blk_set k1.out]; rfl⟩
      case measure => simp [intOf]; omega
     ·have em := civM_eq d0 d1 hm1 hm2 (by rw [EY.out]; omega) (by rw [EY.out]; omega)
      have EM := Lib.hid em; clear em
      have CS := Lib.hid cs; clear cs
      have f2 : w2.frozen? ⟨w.heap.size + 1, 2, none⟩ = false := blk_free k1'.out 2
      have c2 : w2.cell? ⟨w.heap.size + 1, 2, none⟩ = some (.int .i64 0) := blk_cell k1'.out 2
      have c3 : w2.cell? ⟨w.heap.size + 1, 3, none⟩ = some (.int .i64 hh) := blk_cell k1'.out 3
      have c4 : w2.cell? ⟨w.heap.size + 1, 4, none⟩ = some (.int .i64 mm) := blk_cell k1'.out 4
      have r0 : w2.cell? ⟨w.heap.size, 0, none⟩ = some (.int .i64 0) := blk_cell k0'.out 0
      have r1 : w2.cell? ⟨w.heap.size, 1, none⟩ = some (.int .i64 0) := blk_cell k0'.out 1
      have r2 : w2.cell? ⟨w.heap.size, 2, none⟩ = some (.int .i64 0) := blk_cell k0'.out 2
      have r3 : w2.cell? ⟨w.heap.size, 3, none⟩ = some (.int .i64 0) := blk_cell k0'.out 3
      have r4 : w2.cell? ⟨w.heap.size, 4, none⟩ = some (.int .i64 0) := blk_cell k0'.out 4
      have g0 : ∀ i, w2.frozen? ⟨w.heap.size, i, none⟩ = false := blk_free k0'.out
      go_wp2_with fail
      have ed : civD d = d - dby y - cum y m + 1 := by unfold civD; rw [EM.out, EY.out]
      rw [HD.out, HH.out, HM.out, ed, EM.out, EY.out]
      refine bodyPost_ret (v := .tuple #[.agg #[.int .i64 y, .int .i64 m, .int .i64 (d - dby y - cum y m + 1), .int .i64 hh, .int .i64 mm], .int .i64 0]) (by simp [results, Tryz.results176, go_sem, r0, r1, r2, r3, r4]) rfl ⟨rfl, ?_⟩
      repeat refine Below.setCell ?_ (by simp) _
      exact hB2
open Go.RowKit
open Cal
theorem dayCell (d : Int) (h0 : 0 ≤ d) (h1 : d < 7) : (#[.string ⟨#[77, 111, 110]⟩, .string ⟨#[84, 117, 101]⟩, .string ⟨#[87, 101, 100]⟩, .string ⟨#[84, 104, 117]⟩, .string ⟨#[70, 114, 105]⟩, .string ⟨#[83, 97, 116]⟩, .string ⟨#[83, 117, 110]⟩] : Array Value)[d.toNat]? = some (.string ⟨(dayN d).toArray⟩) := by
 have hm : d = 0 ∨ d = 1 ∨ d = 2 ∨ d = 3 ∨ d = 4 ∨ d = 5 ∨ d = 6 := by omega
 rcases hm with rfl | rfl | rfl | rfl | rfl | rfl | rfl <;> rfl
theorem monCell (d : Int) (h0 : 1 ≤ d) (h1 : d ≤ 12) : (#[.string ⟨#[74, 97, 110]⟩, .string ⟨#[70, 101, 98]⟩, .string ⟨#[77, 97, 114]⟩, .string ⟨#[65, 112, 114]⟩, .string ⟨#[77, 97, 121]⟩, .string ⟨#[74, 117, 110]⟩, .string ⟨#[74, 117, 108]⟩, .string ⟨#[65, 117, 103]⟩, .string ⟨#[83, 101, 112]⟩, .string ⟨#[79, 99, 116]⟩, .string ⟨#[78, 111, 118]⟩, .string ⟨#[68, 101, 99]⟩] : Array Value)[(d - 1).toNat]? = some (.string ⟨(monN d).toArray⟩) := by
 have hm : d = 1 ∨ d = 2 ∨ d = 3 ∨ d = 4 ∨ d = 5 ∨ d = 6 ∨ d = 7 ∨ d = 8 ∨ d = 9 ∨ d = 10 ∨ d = 11 ∨ d = 12 := by omega
 rcases hm with rfl | rfl | rfl | rfl | rfl | rfl | rfl | rfl | rfl | rfl | rfl | rfl <;> rfl
set_option maxRecDepth 100000 in
set_option maxHeartbeats 8000000 in
theorem refFormatZone_pos (m A : Int) (w : World) (h : zok m A = true) (hp : 0 ≤ A) :
  Calls Tryz.prog 132 #[.int .i64 m, .int .i64 A] w fun e w' => e = .returned (.tuple #[.string ⟨(fmtText (m + A) A).toArray⟩, .int .i64 0]) ∧ Below w.heap.size w w' := by
 obtain ⟨⟨m0, m1⟩, o0, o1, s0, s1⟩ := zok_true h
 have v1 := vld_mk ⟨m0, m1⟩
 have v2 := vld_mk ⟨s0, s1⟩
 clear h
 have aY := civY_spec ((m + A) / 1440) (by omega) (by omega)
 have aM := civM_spec ((m + A) / 1440) (by omega) (by omega)
 have aD := civD_spec ((m + A) / 1440) (by omega) (by omega)
 have aB := md_bd (civY ((m + A) / 1440)) (civM ((m + A) / 1440))
 have y1 := aY.1; have y2 := aY.2.1; have q1 := aM.1; have q2 := aM.2.1; have d1 := aD.1; have d2 : civD ((m + A) / 1440) ≤ 31 := by omega
 clear aY aM aD aB
 have hh0 : 0 ≤ (m + A) % 1440 / 60 := by omega
 have hh1 : (m + A) % 1440 / 60 ≤ 23 := by omega
 have nn0 : 0 ≤ (m + A) % 60 := by omega
 have nn1 : (m + A) % 60 ≤ 59 := by omega
 have wd0 : 0 ≤ ((m + A) / 1440 + 5) % 7 := by omega
 have wd1 : ((m + A) / 1440 + 5) % 7 < 7 := by omega
 have hf : fmtText (m + A) A = dayN (((m + A) / 1440 + 5) % 7) ++ [44, 32] ++ digs 2 (civD ((m + A) / 1440)) ++ [32] ++ monN (civM ((m + A) / 1440)) ++ [32] ++ digs 4 (civY ((m + A) / 1440)) ++ [32] ++ digs 2 ((m + A) % 1440 / 60) ++ [58] ++ digs 2 ((m + A) % 60) ++ [32] ++ [43] ++ digs 4 (A / 60 * 100 + A % 60) := by
  have e1 : absI (A) = A := by unfold absI; split <;> omega
  have e2 : (if A < 0 then (45 : UInt8) else 43) = 43 := by split <;> first | rfl | omega
  rw [digs4_split _ _ (by omega) (by omega)]
  unfold fmtText; rw [e1, e2]; simp only [List.append_assoc]
 have HF := Lib.hid hf; clear hf
 go_enter Tryz.func132, Tryz.ntmps132
 go_wp2_with fail
 refine (refValid_any _ _).mono ?_; rintro e w' ⟨rfl, rfl⟩
 go_wp2_with fail
 refine (refValid_any _ _).mono ?_; rintro e w' ⟨rfl, rfl⟩
 go_wp2_with fail
 refine (refToCivil_yes _ _ (by omega) (by omega)).mono ?_; rintro e w1 ⟨rfl, b1⟩
 go_wp2_with fail
 generalize civY ((m + A) / 1440) = Y at *
 generalize civM ((m + A) / 1440) = M at *
 generalize civD ((m + A) / 1440) = D at *
 generalize (m + A) % 1440 / 60 = H at *
 generalize (m + A) % 60 = N at *
 obtain ⟨W, hW⟩ : ∃ W, W = w1.alloc (.cells #[.int .i64 Y, .int .i64 M, .int .i64 D, .int .i64 H, .int .i64 N] 219) := ⟨_, rfl⟩
 have hB : Below w.heap.size w W := by rw [hW]; exact b1.alloc b1.size _
 have blk : W.heap[w1.heap.size]? = some (.cells #[.int .i64 Y, .int .i64 M, .int .i64 D, .int .i64 H, .int .i64 N] 219 (0, 0)) := by rw [hW]; exact blk_new _ _
 rw [← hW]
 refine Flow.wp_region_segs Flow.Later Flow.Later.refl Flow.Later.trans [([1, 2, 3, 8, 9, 14, 15, 16, 21, 22, 26, 27, 31, 32, 36, 38, 39, 40, 41, 42, 43], 0), ([], 4), ([5, 6, 7], 10), ([11, 12], 13), ([17, 18, 19, 20], 23), ([24, 25], 28), ([29, 30], 33), ([34, 35, 37], 44)] [45, 46, 47] (by kernel_rfl) (by kernel_rfl) ?_
 have hB2 := Below.drew hB
 have blk2 : W.drew.heap[w1.heap.size]? = some (.cells #[.int .i64 Y, .int .i64 M, .int .i64 D, .int .i64 H, .int .i64 N] 219 (0, 0)) := blk
 generalize W.drew = w2 at *
 clear hW hB blk
 clear W
 have BL := Lib.hid blk2; clear blk2
 have c0 : ∀ t : Flow.Cls (Flow.Later w2), t.val.cell? ⟨w1.heap.size, 0, none⟩ = some (.int .i64 Y) := Flow.cls_cell (blk_cell BL.out 0)
 have c1 : ∀ t : Flow.Cls (Flow.Later w2), t.val.cell? ⟨w1.heap.size, 1, none⟩ = some (.int .i64 M) := Flow.cls_cell (blk_cell BL.out 1)
 have c2 : ∀ t : Flow.Cls (Flow.Later w2), t.val.cell? ⟨w1.heap.size, 2, none⟩ = some (.int .i64 D) := Flow.cls_cell (blk_cell BL.out 2)
 have c3 : ∀ t : Flow.Cls (Flow.Later w2), t.val.cell? ⟨w1.heap.size, 3, none⟩ = some (.int .i64 H) := Flow.cls_cell (blk_cell BL.out 3)
 have c4 : ∀ t : Flow.Cls (Flow.Later w2), t.val.cell? ⟨w1.heap.size, 4, none⟩ = some (.int .i64 N) := Flow.cls_cell (blk_cell BL.out 4)
 haveI nonE := Flow.cls_nonempty w2
 rw [Flow.wpSegs_cons]
 simp only [Flow.pick, List.getElem?_toArray, List.getElem?_cons_succ, List.getElem?_cons_zero]
 repeat go_big_quiet_step (fail)
 refine wpQuiet_nil ?_
 clear c0 c1 c2 c3 c4 nonE
 rw [Flow.callAt_eq]
 simp only [List.getElem?_toArray, List.getElem?_cons_zero]
 rw [if_pos (by rfl)]
 refine Flow.wp_behind (fun K hK => ?_)
 go_wp2_with fail
 refine (refDayNames_any _).mono ?_; rintro e w3 ⟨rfl, hw3⟩
 have NB : Hid (w3.heap[w2.heap.size]? = some (.cells #[.string ⟨#[77, 111, 110]⟩, .string ⟨#[84, 117, 101]⟩, .string ⟨#[87, 101, 100]⟩, .string ⟨#[84, 104, 117]⟩, .string ⟨#[70, 114, 105]⟩, .string ⟨#[83, 97, 116]⟩, .string ⟨#[83, 117, 110]⟩] 9 (0, 0))) := by rw [hw3]; exact blk_new _ _
 have b3 : Below w2.heap.size w2 w3 := by rw [hw3]; exact (Below.refl _ _).alloc (Nat.le_refl _) _
 have hB3 := hB2.trans (b3.mono hB2.size)
 refine hK.out _ _ ⟨b3, ?_⟩
 clear hK K hw3 BL hB2 b3
 generalize w2.heap.size = nb at *
 clear w2
 haveI nonE := Flow.cls_nonempty w3
 rw [Flow.wpSegs_cons]
 simp only [Flow.pick]
 refine wpQuiet_nil ?_
 clear nonE
 rw [Flow.callAt_eq]
 simp only [List.getElem?_toArray, List.getElem?_cons_succ, List.getElem?_cons_zero]
 rw [if_pos (by rfl)]
 refine Flow.wp_behind (fun K hK => ?_)
 go_wp2_with fail
 refine (refWeekday_any _ _ (by omega) (by omega)).mono ?_; rintro e w4 ⟨rfl, rfl⟩
 refine hK.out _ _ ⟨Flow.Later.refl _, ?_⟩
 clear hK K
 generalize hq : ((m + A) / 1440 + 5) % 7 = wd at *
 clear hq
 generalize hdn : dayN wd = W3 at *
 have l1 : W3.length = 3 := by rw [← hdn]; exact dayN_len wd wd0 wd1
 have nc : (#[.string ⟨#[77, 111, 110]⟩, .string ⟨#[84, 117, 101]⟩, .string ⟨#[87, 101, 100]⟩, .string ⟨#[84, 104, 117]⟩, .string ⟨#[70, 114, 105]⟩, .string ⟨#[83, 97, 116]⟩, .string ⟨#[83, 117, 110]⟩] : Array Value)[wd.toNat]? = some (.string ⟨W3.toArray⟩) := by rw [← hdn]; exact dayCell wd wd0 wd1
 have NC := Lib.hid nc; clear nc hdn
 have cn : ∀ t : Flow.Cls (Flow.Later w3), t.val.cell? ⟨nb, wd.toNat, none⟩ = some (.string ⟨W3.toArray⟩) := Flow.cls_cell ((blk_cell NB.out wd.toNat).trans NC.out)
 haveI nonE := Flow.cls_nonempty w3
 rw [Flow.wpSegs_cons]
 simp only [Flow.pick, List.getElem?_toArray, List.getElem?_cons_succ, List.getElem?_cons_zero]
 repeat go_big_quiet_step (fail)
 refine wpQuiet_nil ?_
 clear cn nonE
 rw [Flow.callAt_eq]
 simp only [List.getElem?_toArray, List.getElem?_cons_succ, List.getElem?_cons_zero]
 rw [if_pos (by rfl)]
 refine Flow.wp_behind (fun K hK => ?_)
 go_wp2_with fail
 have hBc := hB3; clear hB3 NB
 refine (refDigits_any _ 2 _ (by omega) (by omega) (by omega)).mono ?_; rintro e w5 ⟨rfl, b5⟩
 have hBn := hBc.trans (b5.mono hBc.size)
 refine hK.out _ _ ⟨b5, ?_⟩
 clear hK K b5 hBc
 have hBc := hBn; clear hBn
 clear w3
 have l2 := digs_length 2 (D)
 generalize digs 2 (D) = D2 at *
 haveI nonE := Flow.cls_nonempty w5
 rw [Flow.wpSegs_cons]
 simp only [Flow.pick, List.getElem?_toArray, List.getElem?_cons_succ, List.getElem?_cons_zero]
 repeat go_big_quiet_step (fail)
 refine wpQuiet_nil ?_
 clear nonE
 rw [Flow.callAt_eq]
 simp only [List.getElem?_toArray, List.getElem?_cons_succ, List.getElem?_cons_zero]
 rw [if_pos (by rfl)]
 refine Flow.wp_behind (fun K hK => ?_)
 go_wp2_with fail
 refine (refMonthNames_any _).mono ?_; rintro e w6 ⟨rfl, hw6⟩
 have NB : Hid (w6.heap[w5.heap.size]? = some (.cells #[.string ⟨#[74, 97, 110]⟩, .string ⟨#[70, 101, 98]⟩, .string ⟨#[77, 97, 114]⟩, .string ⟨#[65, 112, 114]⟩, .string ⟨#[77, 97, 121]⟩, .string ⟨#[74, 117, 110]⟩, .string ⟨#[74, 117, 108]⟩, .string ⟨#[65, 117, 103]⟩, .string ⟨#[83, 101, 112]⟩, .string ⟨#[79, 99, 116]⟩, .string ⟨#[78, 111, 118]⟩, .string ⟨#[68, 101, 99]⟩] 9 (0, 0))) := by rw [hw6]; exact blk_new _ _
 have b6 : Below w5.heap.size w5 w6 := by rw [hw6]; exact (Below.refl _ _).alloc (Nat.le_refl _) _
 have hBn := hBc.trans (b6.mono hBc.size)
 refine hK.out _ _ ⟨b6, ?_⟩
 clear hK K hw6 b6 hBc
 have hBc := hBn; clear hBn
 generalize w5.heap.size = nm at *
 clear w5
 generalize hmn : monN M = M3 at *
 have l3 : M3.length = 3 := by rw [← hmn]; exact monN_len M q1 q2
 have mc : (#[.string ⟨#[74, 97, 110]⟩, .string ⟨#[70, 101, 98]⟩, .string ⟨#[77, 97, 114]⟩, .string ⟨#[65, 112, 114]⟩, .string ⟨#[77, 97, 121]⟩, .string ⟨#[74, 117, 110]⟩, .string ⟨#[74, 117, 108]⟩, .string ⟨#[65, 117, 103]⟩, .string ⟨#[83, 101, 112]⟩, .string ⟨#[79, 99, 116]⟩, .string ⟨#[78, 111, 118]⟩, .string ⟨#[68, 101, 99]⟩] : Array Value)[M.toNat - 1]? = some (.string ⟨M3.toArray⟩) := by rw [← hmn, show M.toNat - 1 = (M - 1).toNat by omega]; exact monCell M q1 q2
 have MC := Lib.hid mc; clear mc hmn
 have cn : ∀ t : Flow.Cls (Flow.Later w6), t.val.cell? ⟨nm, M.toNat - 1, none⟩ = some (.string ⟨M3.toArray⟩) := Flow.cls_cell ((blk_cell NB.out (M.toNat - 1)).trans MC.out)
 haveI nonE := Flow.cls_nonempty w6
 rw [Flow.wpSegs_cons]
 simp only [Flow.pick, List.getElem?_toArray, List.getElem?_cons_succ, List.getElem?_cons_zero]
 repeat go_big_quiet_step (fail)
 refine wpQuiet_nil ?_
 clear cn nonE
 rw [Flow.callAt_eq]
 simp only [List.getElem?_toArray, List.getElem?_cons_succ, List.getElem?_cons_zero]
 rw [if_pos (by rfl)]
 refine Flow.wp_behind (fun K hK => ?_)
 go_wp2_with fail
 clear NB
 refine (refDigits_any _ 4 _ (by omega) (by omega) (by omega)).mono ?_; rintro e w7 ⟨rfl, b5⟩
 have hBn := hBc.trans (b5.mono hBc.size)
 refine hK.out _ _ ⟨b5, ?_⟩
 clear hK K b5 hBc
 have hBc := hBn; clear hBn
 clear w6
 have l4 := digs_length 4 (Y)
 generalize digs 4 (Y) = Y4 at *
 haveI nonE := Flow.cls_nonempty w7
 rw [Flow.wpSegs_cons]
 simp only [Flow.pick, List.getElem?_toArray, List.getElem?_cons_succ, List.getElem?_cons_zero]
 repeat go_big_quiet_step (fail)
 refine wpQuiet_nil ?_
 clear nonE
 rw [Flow.callAt_eq]
 simp only [List.getElem?_toArray, List.getElem?_cons_succ, List.getElem?_cons_zero]
 rw [if_pos (by rfl)]
 refine Flow.wp_behind (fun K hK => ?_)
 go_wp2_with fail
 refine (refDigits_any _ 2 _ (by omega) (by omega) (by omega)).mono ?_; rintro e w8 ⟨rfl, b5⟩
 have hBn := hBc.trans (b5.mono hBc.size)
 refine hK.out _ _ ⟨b5, ?_⟩
 clear hK K b5 hBc
 have hBc := hBn; clear hBn
 clear w7
 have l5 := digs_length 2 (H)
 generalize digs 2 (H) = H2 at *
 haveI nonE := Flow.cls_nonempty w8
 rw [Flow.wpSegs_cons]
 simp only [Flow.pick, List.getElem?_toArray, List.getElem?_cons_succ, List.getElem?_cons_zero]
 repeat go_big_quiet_step (fail)
 refine wpQuiet_nil ?_
 clear nonE
 rw [Flow.callAt_eq]
 simp only [List.getElem?_toArray, List.getElem?_cons_succ, List.getElem?_cons_zero]
 rw [if_pos (by rfl)]
 refine Flow.wp_behind (fun K hK => ?_)
 go_wp2_with fail
 refine (refDigits_any _ 2 _ (by omega) (by omega) (by omega)).mono ?_; rintro e w9 ⟨rfl, b5⟩
 have hBn := hBc.trans (b5.mono hBc.size)
 refine hK.out _ _ ⟨b5, ?_⟩
 clear hK K b5 hBc
 have hBc := hBn; clear hBn
 clear w8
 have l6 := digs_length 2 (N)
 generalize digs 2 (N) = N2 at *
 haveI nonE := Flow.cls_nonempty w9
 rw [Flow.wpSegs_cons]
 simp only [Flow.pick, List.getElem?_toArray, List.getElem?_cons_succ, List.getElem?_cons_zero]
 repeat go_big_quiet_step (fail)
 refine wpQuiet_nil ?_
 clear nonE
 rw [Flow.callAt_eq]
 simp only [List.getElem?_toArray, List.getElem?_cons_succ, List.getElem?_cons_zero]
 rw [if_pos (by rfl)]
 refine Flow.wp_behind (fun K hK => ?_)
 go_wp2_with fail
 refine (refDigits_any _ 4 _ (by omega) (by omega) (by omega)).mono ?_; rintro e w10 ⟨rfl, b5⟩
 have hBn := hBc.trans (b5.mono hBc.size)
 refine hK.out _ _ ⟨b5, ?_⟩
 clear hK K b5 hBc
 have hBc := hBn; clear hBn
 clear w9
 have l7 := digs_length 4 (A / 60 * 100 + A % 60)
 generalize digs 4 (A / 60 * 100 + A % 60) = A4 at *
 haveI nonE := Flow.cls_nonempty w10
 rw [Flow.wpSegs_nil]
 simp only [Flow.pick, List.getElem?_toArray, List.getElem?_cons_succ, List.getElem?_cons_zero]
 repeat go_big_quiet_step (fail)
 refine wpQuiet_nil ?_
 clear nonE
 go_wp2_with fail
 go_ret2
 refine ⟨?_, hBc⟩
 rw [HF.out]
 refine congrArg (fun s => Ending.returned (.tuple #[.string s, .int .i64 0])) ?_
 simp only [bcat]
set_option maxRecDepth 100000 in
set_option maxHeartbeats 8000000 in
theorem refFormatZone_neg (m A : Int) (w : World) (h : zok m (-A) = true) (hp : 0 < A) :
  Calls Tryz.prog 132 #[.int .i64 m, .int .i64 (-A)] w fun e w' => e = .returned (.tuple #[.string ⟨(fmtText (m + (-A)) (-A)).toArray⟩, .int .i64 0]) ∧ Below w.heap.size w w' := by
 obtain ⟨⟨m0, m1⟩, o0, o1, s0, s1⟩ := zok_true h
 have v1 := vld_mk ⟨m0, m1⟩
 have v2 := vld_mk ⟨s0, s1⟩
 clear h
 have aY := civY_spec ((m + (-A)) / 1440) (by omega) (by omega)
 have aM := civM_spec ((m + (-A)) / 1440) (by omega) (by omega)
 have aD := civD_spec ((m + (-A)) / 1440) (by omega) (by omega)
 have aB := md_bd (civY ((m + (-A)) / 1440)) (civM ((m + (-A)) / 1440))
 have y1 := aY.1; have y2 := aY.2.1; have q1 := aM.1; have q2 := aM.2.1; have d1 := aD.1; have d2 : civD ((m + (-A)) / 1440) ≤ 31 := by omega
 clear aY aM aD aB
 have hh0 : 0 ≤ (m + (-A)) % 1440 / 60 := by omega
 have hh1 : (m + (-A)) % 1440 / 60 ≤ 23 := by omega
 have nn0 : 0 ≤ (m + (-A)) % 60 := by omega
 have nn1 : (m + (-A)) % 60 ≤ 59 := by omega
 have wd0 : 0 ≤ ((m + (-A)) / 1440 + 5) % 7 := by omega
 have wd1 : ((m + (-A)) / 1440 + 5) % 7 < 7 := by omega
 have hf : fmtText (m + (-A)) (-A) = dayN (((m + (-A)) / 1440 + 5) % 7) ++ [44, 32] ++ digs 2 (civD ((m + (-A)) / 1440)) ++ [32] ++ monN (civM ((m + (-A)) / 1440)) ++ [32] ++ digs 4 (civY ((m + (-A)) / 1440)) ++ [32] ++ digs 2 ((m + (-A)) % 1440 / 60) ++ [58] ++ digs 2 ((m + (-A)) % 60) ++ [32] ++ [45] ++ digs 4 (A / 60 * 100 + A % 60) := by
  have e1 : absI ((-A)) = A := by unfold absI; split <;> omega
  have e2 : (if (-A) < 0 then (45 : UInt8) else 43) = 45 := by split <;> first | rfl | omega
  rw [digs4_split _ _ (by omega) (by omega)]
  unfold fmtText; rw [e1, e2]; simp only [List.append_assoc]
 have HF := Lib.hid hf; clear hf
 go_enter Tryz.func132, Tryz.ntmps132
 go_wp2_with fail
 refine (refValid_any _ _).mono ?_; rintro e w' ⟨rfl, rfl⟩
 go_wp2_with fail
 refine (refValid_any _ _).mono ?_; rintro e w' ⟨rfl, rfl⟩
 go_wp2_with fail
 refine (refToCivil_yes _ _ (by omega) (by omega)).mono ?_; rintro e w1 ⟨rfl, b1⟩
 go_wp2_with fail
 generalize civY ((m + (-A)) / 1440) = Y at *
 generalize civM ((m + (-A)) / 1440) = M at *
 generalize civD ((m + (-A)) / 1440) = D at *
 generalize (m + (-A)) % 1440 / 60 = H at *
 generalize (m + (-A)) % 60 = N at *
 obtain ⟨W, hW⟩ : ∃ W, W = w1.alloc (.cells #[.int .i64 Y, .int .i64 M, .int .i64 D, .int .i64 H, .int .i64 N] 219) := ⟨_, rfl⟩
 have hB : Below w.heap.size w W := by rw [hW]; exact b1.alloc b1.size _
 have blk : W.heap[w1.heap.size]? = some (.cells #[.int .i64 Y, .int .i64 M, .int .i64 D, .int .i64 H, .int .i64 N] 219 (0, 0)) := by rw [hW]; exact blk_new _ _
 rw [← hW]
 refine Flow.wp_region_segs Flow.Later Flow.Later.refl Flow.Later.trans [([1, 2, 3, 8, 9, 14, 15, 16, 21, 22, 26, 27, 31, 32, 36, 38, 39, 40, 41, 42, 43], 0), ([], 4), ([5, 6, 7], 10), ([11, 12], 13), ([17, 18, 19, 20], 23), ([24, 25], 28), ([29, 30], 33), ([34, 35, 37], 44)] [45, 46, 47] (by kernel_rfl) (by kernel_rfl) ?_
 have hB2 := Below.drew hB
 have blk2 : W.drew.heap[w1.heap.size]? = some (.cells #[.int .i64 Y, .int .i64 M, .int .i64 D, .int .i64 H, .int .i64 N] 219 (0, 0)) := blk
 generalize W.drew = w2 at *
 clear hW hB blk
 clear W
 have BL := Lib.hid blk2; clear blk2
 have c0 : ∀ t : Flow.Cls (Flow.Later w2), t.val.cell? ⟨w1.heap.size, 0, none⟩ = some (.int .i64 Y) := Flow.cls_cell (blk_cell BL.out 0)
 have c1 : ∀ t : Flow.Cls (Flow.Later w2), t.val.cell? ⟨w1.heap.size, 1, none⟩ = some (.int .i64 M) := Flow.cls_cell (blk_cell BL.out 1)
 have c2 : ∀ t : Flow.Cls (Flow.Later w2), t.val.cell? ⟨w1.heap.size, 2, none⟩ = some (.int .i64 D) := Flow.cls_cell (blk_cell BL.out 2)
 have c3 : ∀ t : Flow.Cls (Flow.Later w2), t.val.cell? ⟨w1.heap.size, 3, none⟩ = some (.int .i64 H) := Flow.cls_cell (blk_cell BL.out 3)
 have c4 : ∀ t : Flow.Cls (Flow.Later w2), t.val.cell? ⟨w1.heap.size, 4, none⟩ = some (.int .i64 N) := Flow.cls_cell (blk_cell BL.out 4)
 haveI nonE := Flow.cls_nonempty w2
 rw [Flow.wpSegs_cons]
 simp only [Flow.pick, List.getElem?_toArray, List.getElem?_cons_succ, List.getElem?_cons_zero]
 repeat go_big_quiet_step (fail)
 refine wpQuiet_nil ?_
 clear c0 c1 c2 c3 c4 nonE
 rw [Flow.callAt_eq]
 simp only [List.getElem?_toArray, List.getElem?_cons_zero]
 rw [if_pos (by rfl)]
 refine Flow.wp_behind (fun K hK => ?_)
 go_wp2_with fail
 refine (refDayNames_any _).mono ?_; rintro e w3 ⟨rfl, hw3⟩
 have NB : Hid (w3.heap[w2.heap.size]? = some (.cells #[.string ⟨#[77, 111, 110]⟩, .string ⟨#[84, 117, 101]⟩, .string ⟨#[87, 101, 100]⟩, .string ⟨#[84, 104, 117]⟩, .string ⟨#[70, 114, 105]⟩, .string ⟨#[83, 97, 116]⟩, .string ⟨#[83, 117, 110]⟩] 9 (0, 0))) := by rw [hw3]; exact blk_new _ _
 have b3 : Below w2.heap.size w2 w3 := by rw [hw3]; exact (Below.refl _ _).alloc (Nat.le_refl _) _
 have hB3 := hB2.trans (b3.mono hB2.size)
 refine hK.out _ _ ⟨b3, ?_⟩
 clear hK K hw3 BL hB2 b3
 generalize w2.heap.size = nb at *
 clear w2
 haveI nonE := Flow.cls_nonempty w3
 rw [Flow.wpSegs_cons]
 simp only [Flow.pick]
 refine wpQuiet_nil ?_
 clear nonE
 rw [Flow.callAt_eq]
 simp only [List.getElem?_toArray, List.getElem?_cons_succ, List.getElem?_cons_zero]
 rw [if_pos (by rfl)]
 refine Flow.wp_behind (fun K hK => ?_)
 go_wp2_with fail
 refine (refWeekday_any _ _ (by omega) (by omega)).mono ?_; rintro e w4 ⟨rfl, rfl⟩
 refine hK.out _ _ ⟨Flow.Later.refl _, ?_⟩
 clear hK K
 generalize hq : ((m + (-A)) / 1440 + 5) % 7 = wd at *
 clear hq
 generalize hdn : dayN wd = W3 at *
 have l1 : W3.length = 3 := by rw [← hdn]; exact dayN_len wd wd0 wd1
 have nc : (#[.string ⟨#[77, 111, 110]⟩, .string ⟨#[84, 117, 101]⟩, .string ⟨#[87, 101, 100]⟩, .string ⟨#[84, 104, 117]⟩, .string ⟨#[70, 114, 105]⟩, .string ⟨#[83, 97, 116]⟩, .string ⟨#[83, 117, 110]⟩] : Array Value)[wd.toNat]? = some (.string ⟨W3.toArray⟩) := by rw [← hdn]; exact dayCell wd wd0 wd1
 have NC := Lib.hid nc; clear nc hdn
 have cn : ∀ t : Flow.Cls (Flow.Later w3), t.val.cell? ⟨nb, wd.toNat, none⟩ = some (.string ⟨W3.toArray⟩) := Flow.cls_cell ((blk_cell NB.out wd.toNat).trans NC.out)
 haveI nonE := Flow.cls_nonempty w3
 rw [Flow.wpSegs_cons]
 simp only [Flow.pick, List.getElem?_toArray, List.getElem?_cons_succ, List.getElem?_cons_zero]
 repeat go_big_quiet_step (fail)
 refine wpQuiet_nil ?_
 clear cn nonE
 rw [Flow.callAt_eq]
 simp only [List.getElem?_toArray, List.getElem?_cons_succ, List.getElem?_cons_zero]
 rw [if_pos (by rfl)]
 refine Flow.wp_behind (fun K hK => ?_)
 go_wp2_with fail
 have hBc := hB3; clear hB3 NB
 refine (refDigits_any _ 2 _ (by omega) (by omega) (by omega)).mono ?_; rintro e w5 ⟨rfl, b5⟩
 have hBn := hBc.trans (b5.mono hBc.size)
 refine hK.out _ _ ⟨b5, ?_⟩
 clear hK K b5 hBc
 have hBc := hBn; clear hBn
 clear w3
 have l2 := digs_length 2 (D)
 generalize digs 2 (D) = D2 at *
 haveI nonE := Flow.cls_nonempty w5
 rw [Flow.wpSegs_cons]
 simp only [Flow.pick, List.getElem?_toArray, List.getElem?_cons_succ, List.getElem?_cons_zero]
 repeat go_big_quiet_step (fail)
 refine wpQuiet_nil ?_
 clear nonE
 rw [Flow.callAt_eq]
 simp only [List.getElem?_toArray, List.getElem?_cons_succ, List.getElem?_cons_zero]
 rw [if_pos (by rfl)]
 refine Flow.wp_behind (fun K hK => ?_)
 go_wp2_with fail
 refine (refMonthNames_any _).mono ?_; rintro e w6 ⟨rfl, hw6⟩
 have NB : Hid (w6.heap[w5.heap.size]? = some (.cells #[.string ⟨#[74, 97, 110]⟩, .string ⟨#[70, 101, 98]⟩, .string ⟨#[77, 97, 114]⟩, .string ⟨#[65, 112, 114]⟩, .string ⟨#[77, 97, 121]⟩, .string ⟨#[74, 117, 110]⟩, .string ⟨#[74, 117, 108]⟩, .string ⟨#[65, 117, 103]⟩, .string ⟨#[83, 101, 112]⟩, .string ⟨#[79, 99, 116]⟩, .string ⟨#[78, 111, 118]⟩, .string ⟨#[68, 101, 99]⟩] 9 (0, 0))) := by rw [hw6]; exact blk_new _ _
 have b6 : Below w5.heap.size w5 w6 := by rw [hw6]; exact (Below.refl _ _).alloc (Nat.le_refl _) _
 have hBn := hBc.trans (b6.mono hBc.size)
 refine hK.out _ _ ⟨b6, ?_⟩
 clear hK K hw6 b6 hBc
 have hBc := hBn; clear hBn
 generalize w5.heap.size = nm at *
 clear w5
 generalize hmn : monN M = M3 at *
 have l3 : M3.length = 3 := by rw [← hmn]; exact monN_len M q1 q2
 have mc : (#[.string ⟨#[74, 97, 110]⟩, .string ⟨#[70, 101, 98]⟩, .string ⟨#[77, 97, 114]⟩, .string ⟨#[65, 112, 114]⟩, .string ⟨#[77, 97, 121]⟩, .string ⟨#[74, 117, 110]⟩, .string ⟨#[74, 117, 108]⟩, .string ⟨#[65, 117, 103]⟩, .string ⟨#[83, 101, 112]⟩, .string ⟨#[79, 99, 116]⟩, .string ⟨#[78, 111, 118]⟩, .string ⟨#[68, 101, 99]⟩] : Array Value)[M.toNat - 1]? = some (.string ⟨M3.toArray⟩) := by rw [← hmn, show M.toNat - 1 = (M - 1).toNat by omega]; exact monCell M q1 q2
 have MC := Lib.hid mc; clear mc hmn
 have cn : ∀ t : Flow.Cls (Flow.Later w6), t.val.cell? ⟨nm, M.toNat - 1, none⟩ = some (.string ⟨M3.toArray⟩) := Flow.cls_cell ((blk_cell NB.out (M.toNat - 1)).trans MC.out)
 haveI nonE := Flow.cls_nonempty w6
 rw [Flow.wpSegs_cons]
 simp only [Flow.pick, List.getElem?_toArray, List.getElem?_cons_succ, List.getElem?_cons_zero]
 repeat go_big_quiet_step (fail)
 refine wpQuiet_nil ?_
 clear cn nonE
 rw [Flow.callAt_eq]
 simp only [List.getElem?_toArray, List.getElem?_cons_succ, List.getElem?_cons_zero]
 rw [if_pos (by rfl)]
 refine Flow.wp_behind (fun K hK => ?_)
 go_wp2_with fail
 clear NB
 refine (refDigits_any _ 4 _ (by omega) (by omega) (by omega)).mono ?_; rintro e w7 ⟨rfl, b5⟩
 have hBn := hBc.trans (b5.mono hBc.size)
 refine hK.out _ _ ⟨b5, ?_⟩
 clear hK K b5 hBc
 have hBc := hBn; clear hBn
 clear w6
 have l4 := digs_length 4 (Y)
 generalize digs 4 (Y) = Y4 at *
 haveI nonE := Flow.cls_nonempty w7
 rw [Flow.wpSegs_cons]
 simp only [Flow.pick, List.getElem?_toArray, List.getElem?_cons_succ, List.getElem?_cons_zero]
 repeat go_big_quiet_step (fail)
 refine wpQuiet_nil ?_
 clear nonE
 rw [Flow.callAt_eq]
 simp only [List.getElem?_toArray, List.getElem?_cons_succ, List.getElem?_cons_zero]
 rw [if_pos (by rfl)]
 refine Flow.wp_behind (fun K hK => ?_)
 go_wp2_with fail
 refine (refDigits_any _ 2 _ (by omega) (by omega) (by omega)).mono ?_; rintro e w8 ⟨rfl, b5⟩
 have hBn := hBc.trans (b5.mono hBc.size)
 refine hK.out _ _ ⟨b5, ?_⟩
 clear hK K b5 hBc
 have hBc := hBn; clear hBn
 clear w7
 have l5 := digs_length 2 (H)
 generalize digs 2 (H) = H2 at *
 haveI nonE := Flow.cls_nonempty w8
 rw [Flow.wpSegs_cons]
 simp only [Flow.pick, List.getElem?_toArray, List.getElem?_cons_succ, List.getElem?_cons_zero]
 repeat go_big_quiet_step (fail)
 refine wpQuiet_nil ?_
 clear nonE
 rw [Flow.callAt_eq]
 simp only [List.getElem?_toArray, List.getElem?_cons_succ, List.getElem?_cons_zero]
 rw [if_pos (by rfl)]
 refine Flow.wp_behind (fun K hK => ?_)
 go_wp2_with fail
 refine (refDigits_any _ 2 _ (by omega) (by omega) (by omega)).mono ?_; rintro e w9 ⟨rfl, b5⟩
 have hBn := hBc.trans (b5.mono hBc.size)
 refine hK.out _ _ ⟨b5, ?_⟩
 clear hK K b5 hBc
 have hBc := hBn; clear hBn
 clear w8
 have l6 := digs_length 2 (N)
 generalize digs 2 (N) = N2 at *
 haveI nonE := Flow.cls_nonempty w9
 rw [Flow.wpSegs_cons]
 simp only [Flow.pick, List.getElem?_toArray, List.getElem?_cons_succ, List.getElem?_cons_zero]
 repeat go_big_quiet_step (fail)
 refine wpQuiet_nil ?_
 clear nonE
 rw [Flow.callAt_eq]
 simp only [List.getElem?_toArray, List.getElem?_cons_succ, List.getElem?_cons_zero]
 rw [if_pos (by rfl)]
 refine Flow.wp_behind (fun K hK => ?_)
 go_wp2_with fail
 refine (refDigits_any _ 4 _ (by omega) (by omega) (by omega)).mono ?_; rintro e w10 ⟨rfl, b5⟩
 have hBn := hBc.trans (b5.mono hBc.size)
 refine hK.out _ _ ⟨b5, ?_⟩
 clear hK K b5 hBc
 have hBc := hBn; clear hBn
 clear w9
 have l7 := digs_length 4 (A / 60 * 100 + A % 60)
 generalize digs 4 (A / 60 * 100 + A % 60) = A4 at *
 haveI nonE := Flow.cls_nonempty w10
 rw [Flow.wpSegs_nil]
 simp only [Flow.pick, List.getElem?_toArray, List.getElem?_cons_succ, List.getElem?_cons_zero]
 repeat go_big_quiet_step (fail)
 refine wpQuiet_nil ?_
 clear nonE
 go_wp2_with fail
 go_ret2
 refine ⟨?_, hBc⟩
 rw [HF.out]
 refine congrArg (fun s => Ending.returned (.tuple #[.string s, .int .i64 0])) ?_
 simp only [bcat]
theorem refFormatZone_yes (m off : Int) (w : World) (h : zok m off = true) :
  Calls Tryz.prog 132 #[.int .i64 m, .int .i64 off] w fun e w' => e = .returned (.tuple #[.string ⟨(fmtText (m + off) off).toArray⟩, .int .i64 0]) ∧ Below w.heap.size w w' := by
 by_cases hp : off < 0
 ·have := refFormatZone_neg m (-off) w (by rw [Int.neg_neg]; exact h) (by omega)
  rw [Int.neg_neg] at this
  exact this
 ·exact refFormatZone_pos m off w h (by omega)
end Go.Proofs.YtlchcjnbbhpiaaaGreatDoor.Dt
namespace Go.Proofs.YtlchcjnbbhpiaaaGreatDoor
open Go.RowKit Go.Shelf Go.Dg Go.Maps
set_option maxRecDepth 100000 in
set_option maxHeartbeats 2000000 in
theorem plain_ref (s : List UInt8) (w : World) (hl : s.length ≤ 1000000000) :
  Calls Tryz.prog 109 #[enS s] w fun e w' => e = .returned (.bool (plainB s)) ∧ w = w' := by
 have V := Lib.hid (show plainB s = (s.all okC && (s.head? != some 32) && (s.getLast? != some 32)) from rfl)
 have hsz := sz_eq s
 go_enter Tryz.func109, Tryz.ntmps109
 go_wp2_with fail
 go_loopg [3] s.length (fun gg iv wr => ∃ k : Nat, k ≤ s.length ∧ s.length - k ≤ gg ∧ iv = i64 k ∧ Hid ((s.take k).all okC = true) ∧ wr = w)
 case atStart => exact ⟨0, Nat.zero_le _, by omega, rfl, Lib.hid rfl, rfl⟩
 case round =>
  obtain ⟨k, hk, hg, rfl, HA, rfl⟩ := hrel
  by_cases hlt : k < s.length
  ·have bg := bget (t := s) (p := k) (show k < s.toArray.size by simpa using hlt) hlt
   have hts := all_take_succ (p := okC) hlt
   obtain ⟨c, hc⟩ : ∃ c, s.getD k 0 = c := ⟨_, rfl⟩
   rw [hc] at bg hts
   have HC := Lib.hid hc
   have HT := Lib.hid hts
   clear hc hts
   have hok : okC c = (decide (32 ≤ c.toNat) && decide (c.toNat ≤ 126)) := rfl
   have HO := Lib.hid hok
   clear hok
   by_cases h1 : (c.toNat : Int) < 32
   ·have VB : Hid (plainB s = false) := Lib.hid (by
     (show _ = _); rw [V.out, all_of_bad hlt (p := okC) (by rw [HC.out, HO.out]; simp; omega)]; rfl)
    go_wp2_with fail
    go_ret
    exact ⟨ret_bool VB.out.symm, rfl⟩
   by_cases h2 : 126 < (c.toNat : Int)
   ·have VB : Hid (plainB s = false) := Lib.hid (by
     (show _ = _); rw [V.out, all_of_bad hlt (p := okC) (by rw [HC.out, HO.out]; simp; omega)]; rfl)
    go_wp2_with fail
    go_ret
    exact ⟨ret_bool VB.out.symm, rfl⟩
   have HA2 : Hid ((s.take (k + 1)).all okC = true) := Lib.hid (by
    (show _ = _); rw [HT.out, HA.out, HO.out]; simp; omega)
   go_wp2_with fail
   go_roundg (s.length - (k + 1))
   case measure => omega
   case rel => exact ⟨k + 1, by omega, by omega, by go_num, HA2, rfl⟩
  ·obtain rfl : k = s.length := by omega
   have HA2 : Hid (s.all okC = true) := Lib.hid (by (show _ = _); have := HA.out; rwa [List.take_length] at this)
   clear HA hg
   by_cases h0 : s = []
   ·subst h0
    have VB : Hid (plainB [] = true) := Lib.hid rfl
    go_wp2_with fail
    go_ret
    exact ⟨ret_bool VB.out.symm, rfl⟩
   have hne : s.isEmpty = false := by cases s with | nil => exact absurd rfl h0 | cons _ _ => rfl
   have hpos : 0 < s.length := List.length_pos_iff.2 h0
   have bg0 := bget (t := s) (p := 0) (show 0 < s.toArray.size by simpa using hpos) hpos
   have bgl := bget (t := s) (p := s.length - 1) (show s.length - 1 < s.toArray.size by simp; omega) (by omega)
   have HH : Hid (s.head? = some (s.getD 0 0)) := Lib.hid (by (show _ = _); cases s with | nil => exact absurd rfl h0 | cons _ _ => rfl)
   have HL : Hid (s.getLast? = some (s.getD (s.length - 1) 0)) := Lib.hid (by
    (show _ = _); rw [List.getLast?_eq_getElem?, List.getElem?_eq_getElem (by omega)]; simp [List.getD, show s.length - 1 < s.length by omega])
   obtain ⟨c0, hc0⟩ : ∃ c, s.getD 0 0 = c := ⟨_, rfl⟩
   obtain ⟨cl, hcl⟩ : ∃ c, s.getD (s.length - 1) 0 = c := ⟨_, rfl⟩
   rw [hc0] at bg0 HH
   rw [hcl] at bgl HL
   clear hc0 hcl h0
   by_cases e0 : c0 = 32
   ·obtain ⟨f1, f2⟩ := u8_is 32 32 rfl e0
    have VB : Hid (plainB s = false) := Lib.hid (by
     (show _ = _); rw [V.out, HH.out, e0]; simp)
    clear e0 HH HL
    go_wp2_with fail
    go_ret
    exact ⟨ret_bool VB.out.symm, rfl⟩
   obtain ⟨f1, f2⟩ := u8_not 32 32 rfl e0
   by_cases e1 : cl = 32
   ·obtain ⟨g1, g2⟩ := u8_is 32 32 rfl e1
    have VB : Hid (plainB s = false) := Lib.hid (by
     (show _ = _); rw [V.out, HL.out, e1]; simp)
    clear e0 e1 HH HL
    go_wp2_with fail
    go_ret
    exact ⟨ret_bool VB.out.symm, rfl⟩
   obtain ⟨g1, g2⟩ := u8_not 32 32 rfl e1
   have VB : Hid (plainB s = true) := Lib.hid (by
    (show _ = _); rw [V.out, HH.out, HL.out, HA2.out]; simp [e0, e1])
   clear e0 e1 HH HL
   go_wp2_with fail
   go_ret
   exact ⟨ret_bool VB.out.symm, rfl⟩
def sizedB (s : List UInt8) (a b : Int) : Bool := plainB s && decide (a ≤ (s.length : Int)) && decide ((s.length : Int) ≤ b)
set_option maxHeartbeats 1000000 in
theorem sized_ref (s : List UInt8) (a b : Int) (w : World) (hl : s.length ≤ 1000000000) :
  Calls Tryz.prog 66 #[enS s, i64 a, i64 b] w fun e w' => e = .returned (.bool (sizedB s a b)) ∧ w = w' := by
 have H := Lib.hid (fun u => plain_ref s u hl)
 have V := Lib.hid (show sizedB s a b = (plainB s && decide (a ≤ (s.length : Int)) && decide ((s.length : Int) ≤ b)) from rfl)
 have hsz := sz_eq s
 by_cases h1 : a ≤ (s.length : Int)
 case neg =>
  have VB : Hid (sizedB s a b = false) := Lib.hid (by (show _ = _); rw [V.out, decide_eq_false h1]; simp)
  have hd : decide (a ≤ (s.length : Int)) = false := decide_eq_false h1
  have hd2 : decide ((s.length : Int) ≥ a) = false := decide_eq_false h1
  clear V h1
  go_enter Tryz.func66, Tryz.ntmps66
  go_wp2_with fail
  go_ret
  exact ⟨ret_bool VB.out.symm, rfl⟩
 have hd : decide (a ≤ (s.length : Int)) = true := decide_eq_true h1
 have hd2 : decide ((s.length : Int) ≥ a) = true := decide_eq_true h1
 by_cases h2 : (s.length : Int) ≤ b
 case neg =>
  have VB : Hid (sizedB s a b = false) := Lib.hid (by (show _ = _); rw [V.out, decide_eq_false h2]; simp)
  have he : decide ((s.length : Int) ≤ b) = false := decide_eq_false h2
  clear V h1 h2
  go_enter Tryz.func66, Tryz.ntmps66
  go_wp2_with fail
  go_ret
  exact ⟨ret_bool VB.out.symm, rfl⟩
 have he : decide ((s.length : Int) ≤ b) = true := decide_eq_true h2
 have VB : Hid (sizedB s a b = plainB s) := Lib.hid (by (show _ = _); rw [V.out, hd, he]; simp)
 clear V h1 h2
 go_enter Tryz.func66, Tryz.ntmps66
 go_wp2_with fail
 refine (H.out _).mono ?_; rintro e w1 ⟨rfl, rfl⟩
 go_wp2_with fail
 go_ret
 exact ⟨ret_bool VB.out.symm, rfl⟩
theorem sized_title (s : List UInt8) : sizedB s 1 100 = titleB s := by unfold sizedB titleB; rw [Bool.eq_iff_iff]; simp only [Bool.and_eq_true, decide_eq_true_eq]; constructor <;> (rintro ⟨⟨a, b⟩, c⟩; exact ⟨⟨a, by omega⟩, by omega⟩)
theorem sized_from (s : List UInt8) : sizedB s 1 200 = fromB s := by unfold sizedB fromB; rw [Bool.eq_iff_iff]; simp only [Bool.and_eq_true, decide_eq_true_eq]; constructor <;> (rintro ⟨⟨a, b⟩, c⟩; exact ⟨⟨a, by omega⟩, by omega⟩)
theorem sized_subj (s : List UInt8) : sizedB s 0 200 = subjB s := by unfold sizedB subjB; rw [Bool.eq_iff_iff]; simp only [Bool.and_eq_true, decide_eq_true_eq]; exact ⟨fun ⟨⟨a, _⟩, c⟩ => ⟨a, by omega⟩, fun ⟨a, b⟩ => ⟨⟨a, by omega⟩, by omega⟩⟩
set_option maxHeartbeats 1000000 in
theorem within_ref (n a b : Int) (w : World) :
  Calls Tryz.prog 67 #[i64 n, i64 a, i64 b] w fun e w' => e = .returned (.bool (decide (a ≤ n) && decide (n ≤ b))) ∧ w = w' := by
 by_cases h1 : a ≤ n
 case neg =>
  have VB : Hid ((decide (a ≤ n) && decide (n ≤ b)) = false) := Lib.hid (by (show _ = _); rw [decide_eq_false h1]; rfl)
  have hd : decide (a ≤ n) = false := decide_eq_false h1
  have hd2 : decide (n ≥ a) = false := decide_eq_false h1
  clear h1
  go_enter Tryz.func67, Tryz.ntmps67
  go_wp2_with fail
  go_ret
  exact ⟨ret_bool VB.out.symm, rfl⟩
 have hd : decide (a ≤ n) = true := decide_eq_true h1
 have hd2 : decide (n ≥ a) = true := decide_eq_true h1
 obtain ⟨q, hq⟩ : ∃ q, decide (n ≤ b) = q := ⟨_, rfl⟩
 have VB : Hid ((decide (a ≤ n) && decide (n ≤ b)) = q) := Lib.hid (by (show _ = _); rw [hd, hq]; rfl)
 clear h1
 go_enter Tryz.func67, Tryz.ntmps67
 go_wp2_with fail
 go_ret
 exact ⟨ret_bool VB.out.symm, rfl⟩
set_option maxHeartbeats 1000000 in
theorem valid_ref (n : Int) (w : World) :
  Calls Tryz.prog 68 #[i64 n] w fun e w' => e = .returned (.bool (minB n)) ∧ w = w' := by
 by_cases h1 : 0 ≤ n
 case neg =>
  have VB : Hid (minB n = false) := Lib.hid (by (show _ = _); unfold minB; rw [decide_eq_false h1]; rfl)
  have hd : decide (0 ≤ n) = false := decide_eq_false h1
  have hd2 : decide (n ≥ 0) = false := decide_eq_false h1
  clear h1
  go_enter Tryz.func68, Tryz.ntmps68
  go_wp2_with fail
  go_ret
  exact ⟨ret_bool VB.out.symm, rfl⟩
 have hd : decide (0 ≤ n) = true := decide_eq_true h1
 have hd2 : decide (n ≥ 0) = true := decide_eq_true h1
 obtain ⟨q, hq⟩ : ∃ q, decide (n ≤ 105190559) = q := ⟨_, rfl⟩
 have VB : Hid (minB n = q) := Lib.hid (by (show _ = _); unfold minB; rw [hd, hq]; rfl)
 clear h1
 go_enter Tryz.func68, Tryz.ntmps68
 go_wp2_with fail
 go_ret
 exact ⟨ret_bool VB.out.symm, rfl⟩
theorem id_size5 : (Tryz.prog.info? 51).map (·.size) = some 32 := by kernel_rfl
theorem eqIn_id5 (w : World) {j k : List UInt8} (hj : j.length = 32) (hk : k.length = 32) : Sem.run Tryz.prog (Op.equalIn 10000 51 (.agg (idL j).toArray) (.agg (idL k).toArray)) w = .ok (j == k) w := by
 rw [idL_map hj, idL_map hk]
 exact run_equalIn_bytes w 9998 51 5 32 Tryz.underlying51 Tryz.underlying5 byteSize j k hj hk
theorem eqIn_zero5 (w : World) {k : List UInt8} (hk : k.length = 32) : Sem.run Tryz.prog (Op.equalIn 10000 51 (.agg (idL k).toArray) (.agg #[.int .u8 0, .int .u8 0, .int .u8 0, .int .u8 0, .int .u8 0, .int .u8 0, .int .u8 0, .int .u8 0, .int .u8 0, .int .u8 0, .int .u8 0, .int .u8 0, .int .u8 0, .int .u8 0, .int .u8 0, .int .u8 0, .int .u8 0, .int .u8 0, .int .u8 0, .int .u8 0, .int .u8 0, .int .u8 0, .int .u8 0, .int .u8 0, .int .u8 0, .int .u8 0, .int .u8 0, .int .u8 0, .int .u8 0, .int .u8 0, .int .u8 0, .int .u8 0])) w = .ok (k == zId) w := by
 rw [← idL_zero]
 exact eqIn_id5 w hk zId_len
set_option maxRecDepth 100000 in
set_option maxHeartbeats 4000000 in
theorem item_ref (x : It) (w : World) (hk : x.ky.length = 32) (h1 : x.fr.length ≤ 1000000000) (h2 : x.su.length ≤ 1000000000) (h3 : x.bo.length ≤ 1000000000) :
  Calls Tryz.prog 69 #[itA x] w fun e w' => e = .returned (i64 (chkI x)) ∧ Below w.heap.size w w' := by
 have HF := Lib.hid (fun u => sized_ref x.fr 1 200 u h1)
 rw [sized_from] at HF
 have HD := Lib.hid (fun u => valid_ref x.dt u)
 have HS := Lib.hid (fun u => sized_ref x.su 0 200 u h2)
 rw [sized_subj] at HS
 have HB := Lib.hid (fun u => has_ref x.bo u h3)
 have V := Lib.hid (show chkI x = if fromB x.fr = false then 12 else if minB x.dt = false then 13 else if subjB x.su = false then 3 else if x.ky = zId then 1 else if has13 x.bo = true then 6 else 0 from rfl)
 have HE := Lib.hid (fun u => eqIn_zero5 u hk)
 clear h1 h2 h3
 unfold itA
 have HBK := Lib.hid (blk_new w (.cells (itL x).toArray 53))
 have hb := below_new w (.cells (itL x).toArray 53)
 go_enter Tryz.func69, Tryz.ntmps69
 obtain ⟨c0, c1, c2, c35⟩ := it_cells HBK.out
 go_wp2_with fail
 refine (HF.out _).mono ?_; rintro e w1 ⟨rfl, rfl⟩
 cases q1 : fromB x.fr with
 | false =>
  have VB : Hid (chkI x = 12) := Lib.hid (by (show _ = _); rw [V.out, q1]; rfl)
  clear q1 V
  go_wp2_with fail
  go_ret
  rw [VB.out]
  exact ⟨rfl, hb⟩
 | true =>
 rw [q1] at V
 clear q1
 go_wp2_with fail
 refine (HD.out _).mono ?_; rintro e w1 ⟨rfl, rfl⟩
 cases q1 : minB x.dt with
 | false =>
  have VB : Hid (chkI x = 13) := Lib.hid (by (show _ = _); rw [V.out, q1]; rfl)
  clear q1 V
  go_wp2_with fail
  go_ret
  rw [VB.out]
  exact ⟨rfl, hb⟩
 | true =>
 rw [q1] at V
 clear q1
 go_wp2_with fail
 refine (HS.out _).mono ?_; rintro e w1 ⟨rfl, rfl⟩
 cases q1 : subjB x.su with
 | false =>
  have VB : Hid (chkI x = 3) := Lib.hid (by (show _ = _); rw [V.out, q1]; rfl)
  clear q1 V
  go_wp2_with fail
  go_ret
  rw [VB.out]
  exact ⟨rfl, hb⟩
 | true =>
 rw [q1] at V
 clear q1
 have HR := Lib.hid (it_ky HBK.out)
 have HE2 := HE.out (w.alloc (.cells (itL x).toArray 53))
 by_cases hz : x.ky = zId
 ·have VB : Hid (chkI x = 1) := Lib.hid (by (show _ = _); rw [V.out, if_pos hz]; rfl)
  have hz2 : (x.ky == zId) = true := by simpa using hz
  rw [hz2] at HE2
  clear V hz hz2
  go_wp2_with (refine wpList_load_mid rfl 51 _ rfl w.heap.size 3 rfl (idL x.ky) _ HR.out Tryz.underlying51 rfl (by rw [idL_length]; exact id_size5) ?_)
  go_ret
  rw [VB.out]
  exact ⟨rfl, hb⟩
 have hz2 : (x.ky == zId) = false := by simpa using hz
 rw [hz2] at HE2
 have V2 := Lib.hid (show chkI x = if has13 x.bo = true then 6 else 0 by rw [V.out, if_neg hz]; rfl)
 clear V hz hz2
 go_wp2_with (refine wpList_load_mid rfl 51 _ rfl w.heap.size 3 rfl (idL x.ky) _ HR.out Tryz.underlying51 rfl (by rw [idL_length]; exact id_size5) ?_)
 refine (HB.out _).mono ?_; rintro e w1 ⟨rfl, rfl⟩
 cases q1 : has13 x.bo with
 | false =>
  have VB : Hid (chkI x = 0) := Lib.hid (by (show _ = _); rw [V2.out, q1]; rfl)
  clear q1 V2
  go_wp2_with fail
  go_ret
  rw [VB.out]
  exact ⟨rfl, hb⟩
 | true =>
  have VB : Hid (chkI x = 6) := Lib.hid (by (show _ = _); rw [V2.out, q1]; rfl)
  clear q1 V2
  go_wp2_with fail
  go_ret
  rw [VB.out]
  exact ⟨rfl, hb⟩
theorem run_eql_id5 (w : World) {j k : List UInt8} (hj : j.length = 32) (hk : k.length = 32) : (binOp .eql 51 (idA j) (idA k)).run Tryz.prog w = .ok (.bool (j == k)) w := by
 unfold idA
 rw [idL_map hj, idL_map hk, run_eql_struct, run_equalIn_bytes w 9998 51 5 32 Tryz.underlying51 Tryz.underlying5 byteSize j k hj hk]
 rfl
section
variable {P : Program} {ops : Array Oper} {C : World → Prop} {Q : Act → Prop} {a : Act} {o : Oper}
theorem id5_guard : Tryz.prog.eqGuardType Tryz.prog.depth 51 = false := by kernel_rfl
set_option maxRecDepth 100000 in
/-- A comparison of two identities in a quiet walk. -/
theorem quiet_eql_id5 {K : Act → Prop} (X Y : Operand) (t : TypeId) (ho : o.op = .binOp .eql 51 X Y t) {j k : List UInt8} (hj : j.length = 32) (hk : k.length = 32) (hx : a.eval X = idA j) (hy : a.eval Y = idA k) (h : K (a.put o.dst (.bool (j == k)))) : o.quiet Tryz.prog a C K :=
 ⟨_, fun w _ => by
  unfold Oper.quietAt execOp
  have g : (eqGuard .eql 51 X Y (idA j) (idA k)).run Tryz.prog w = .ok () w := run_eqGuard_agg w .eql 51 X Y _ _ id5_guard
  simp only [ho, hx, hy, Sem.run_bind, g, run_eql_id5 w hj hk, Result.andThen_ok, Sem.run_pure]
  exact ⟨rfl, rfl⟩, h⟩
end
theorem idL_at {x : It} {j : Nat} {v : Value} (h : (idL x.ky)[j]? = some v) : (itL x)[3 + j]? = some v := by
 have hl : j < 32 := by
  have := (List.getElem?_eq_some_iff.1 h).1
  rwa [idL_length] at this
 have e : (itL x)[3 + j]? = (idL x.ky)[j]? := by
  have : j = 0 ∨ j = 1 ∨ j = 2 ∨ j = 3 ∨ j = 4 ∨ j = 5 ∨ j = 6 ∨ j = 7 ∨ j = 8 ∨ j = 9 ∨ j = 10 ∨ j = 11 ∨ j = 12 ∨ j = 13 ∨ j = 14 ∨ j = 15 ∨ j = 16 ∨ j = 17 ∨ j = 18 ∨ j = 19 ∨ j = 20 ∨ j = 21 ∨ j = 22 ∨ j = 23 ∨ j = 24 ∨ j = 25 ∨ j = 26 ∨ j = 27 ∨ j = 28 ∨ j = 29 ∨ j = 30 ∨ j = 31 := by omega
  rcases this with rfl | rfl | rfl | rfl | rfl | rfl | rfl | rfl | rfl | rfl | rfl | rfl | rfl | rfl | rfl | rfl | rfl | rfl | rfl | rfl | rfl | rfl | rfl | rfl | rfl | rfl | rfl | rfl | rfl | rfl | rfl | rfl <;> rfl
 rw [e]
 exact h
theorem range_ky {w : World} {b p : Nat} {x : It} (h : w.rangeAt b p (itL x)) : w.rangeAt b (p + 3) (idL x.ky) := fun j v hj => by
 rw [Nat.add_assoc]
 exact h (3 + j) v (idL_at hj)
set_option maxRecDepth 100000 in
set_option maxHeartbeats 4000000 in
theorem find_ref (xs : List It) (A : Option Addr) (c : Nat) (k : List UInt8) (w : World) (hr : RdI w A xs) (_hc : xs.length ≤ c) (hn : xs.length ≤ 1000000) (hk : k.length = 32) :
  Calls Tryz.prog 100 #[.slice A xs.length c, idA k] w fun e w' => (∃ r : Int, e = .returned (i64 r) ∧ decide (0 ≤ r) = decide (k ∈ xs.map (·.ky))) ∧ Below w.heap.size w w' := by
 have HR := Lib.hid hr
 have HK := Lib.hid hk
 clear hr hk
 unfold idA
 go_enter Tryz.func100, Tryz.ntmps100
 go_upto_region 1 with fail
 have I0 : Hid (Below w.heap.size w (w.alloc (.cells (idL k).toArray 51)) ∧ (w.alloc (.cells (idL k).toArray 51)).heap[w.heap.size]? = some (.cells (idL k).toArray 51 (0, 0)) ∧ k ∉ (xs.take 0).map (·.ky)) := Lib.hid ⟨below_new _ _, blk_new _ _, by simp⟩
 generalize w.alloc (.cells (idL k).toArray 51) = w1 at *
 go_wp2_with fail
 go_loopg [5] xs.length (fun gg kv wr => ∃ i : Nat, i ≤ xs.length ∧ xs.length - i ≤ gg ∧ kv = i64 i ∧ Hid (Below w.heap.size w wr ∧ wr.heap[w.heap.size]? = some (.cells (idL k).toArray 51 (0, 0)) ∧ k ∉ (xs.take i).map (·.ky)))
 case atStart => exact ⟨0, Nat.zero_le _, by omega, rfl, I0⟩
 case round =>
  obtain ⟨i, hi, hgg, rfl, IW⟩ := hrel
  clear I0
  by_cases hlt : i < xs.length
  ·obtain ⟨b, o, x, rfl, hbl, hx, hrg, h32⟩ := HR.out.at_ hlt
   have HRG := Lib.hid hrg
   have HX := Lib.hid hx
   have H32 := Lib.hid h32
   clear hrg hx h32
   go_upto_region 4 with fail
   have bd := (Below.refl wr.heap.size wr).drew
   refine Flow.wp_region_segs Flow.Later Flow.Later.refl Flow.Later.trans [] [0, 1, 2, 3, 4, 5, 6] (by kernel_rfl) (by kernel_rfl) ?_
   have I5 := Lib.hid (And.intro (IW.out.1.tr bd) (And.intro (blk_below bd IW.out.2.1) IW.out.2.2))
   clear bd IW
   generalize World.drew _ = wd at *
   have qR : ∀ t : Flow.Cls (Flow.Later wd), t.val.rangeAt b (o + i * 36 + 3) (idL x.ky) := fun t j v hj => by
    rw [World.cell?_of_block ((I5.out.1.tr t.ok).block b hbl)]
    exact range_ky HRG.out j v hj
   have qR2 : ∀ t : Flow.Cls (Flow.Later wd), t.val.rangeAt w.heap.size 0 (idL k) := fun t => range_blk (blk_below t.ok I5.out.2.1)
   haveI nonE := Flow.cls_nonempty wd
   rw [Flow.wpSegs_nil]
   simp only [Flow.pick, List.getElem?_toArray, List.getElem?_cons_succ, List.getElem?_cons_zero]
   iterate 4 go_big_quiet_step (fail)
   refine BigFrame.wpQuiet_want rfl (fun K hK => quiet_load_mid 51 _ rfl b (o + i * 36 + 3) rfl (idL x.ky) _ (fun _ he => by obtain ⟨t, rfl⟩ := he; exact qR t) Tryz.underlying51 rfl (by rw [idL_length]; exact id_size5) (hK _ ?_))
   clear hK K
   simp only [Act.put, List.setIfInBounds_toArray, List.set_cons_succ, List.set_cons_zero]
   refine BigFrame.wpQuiet_want rfl (fun K hK => quiet_load_mid 51 _ rfl w.heap.size 0 rfl (idL k) _ (fun _ he => by obtain ⟨t, rfl⟩ := he; exact qR2 t) Tryz.underlying51 rfl (by rw [idL_length]; exact id_size5) (hK _ ?_))
   clear hK K
   simp only [Act.put, List.setIfInBounds_toArray, List.set_cons_succ, List.set_cons_zero]
   refine BigFrame.wpQuiet_want rfl (fun K hK => quiet_eql_id5 _ _ _ rfl H32.out HK.out rfl rfl (hK _ ?_))
   clear hK K
   simp only [Act.put, List.setIfInBounds_toArray, List.set_cons_succ, List.set_cons_zero]
   refine wpQuiet_nil ?_
   clear nonE qR qR2
   by_cases hq : x.ky = k
   ·have hq2 : (x.ky == k) = true := by simpa using hq
    have VB : Hid (decide ((0 : Int) ≤ (i : Int)) = decide (k ∈ xs.map (·.ky))) := Lib.hid (by
     (show _ = _); rw [decide_eq_true (by omega), decide_eq_true]; exact hq ▸ List.mem_map.2 ⟨x, List.mem_of_getElem? HX.out, rfl⟩)
    clear hq
    rw [hq2]
    go_wp2_with fail
    go_ret
    exact ⟨⟨_, rfl, VB.out⟩, I5.out.1⟩
   ·have hq2 : (x.ky == k) = false := by simpa using hq
    have VN : Hid (k ∉ (xs.take (i + 1)).map (·.ky)) := Lib.hid (by
     (show ¬ _); rw [take_one_map _ HX.out, List.mem_append]; rintro (h | h)
     ·exact I5.out.2.2 h
     ·exact hq (List.mem_singleton.1 h).symm)
    clear hq
    rw [hq2]
    go_wp2_with fail
    go_roundg (xs.length - (i + 1))
    case measure => omega
    case rel => exact ⟨i + 1, by omega, by omega, by simp, Lib.hid ⟨I5.out.1, I5.out.2.1, VN.out⟩⟩
  ·obtain rfl : i = xs.length := by omega
   have VB : Hid (decide (0 ≤ (-1 : Int)) = decide (k ∈ xs.map (·.ky))) := Lib.hid (by
    have h := IW.out.2.2; rw [List.take_length] at h
    (show _ = _); rw [decide_eq_false h]; rfl)
   have B9 := Lib.hid IW.out.1
   clear IW
   go_wp2_with fail
   go_ret
   exact ⟨⟨_, rfl, VB.out⟩, B9.out⟩
theorem run_cat50 (a b : List UInt8) (h : a.length + b.length ≤ 1000000000) (u : World) : (Op.stringOp .add ⟨a.toArray⟩ ⟨b.toArray⟩).run Tryz.prog u = .ok (enS (a ++ b)) u := by
 have e : IntKind.i64.max = 9223372036854775807 := by decide
 have hs : ¬ (((⟨a.toArray⟩ : ByteArray).size + (⟨b.toArray⟩ : ByteArray).size : Nat) : Int) > IntKind.i64.max := by
  rw [e]
  show ¬ ((a.toArray.size + b.toArray.size : Nat) : Int) > _
  simp; omega
 unfold Op.stringOp
 simp only
 rw [if_neg hs, bcat]
 rfl
/-- The digit of a number below ten. -/
def digC (d : Nat) : UInt8 := UInt8.ofNat (48 + d)
theorem dig_ext {d : Nat} (h : d < 10) : (⟨#[48, 49, 50, 51, 52, 53, 54, 55, 56, 57]⟩ : ByteArray).extract d (d + 1) = ⟨[digC d].toArray⟩ := by
 have : ∀ d : Fin 10, (⟨#[48, 49, 50, 51, 52, 53, 54, 55, 56, 57]⟩ : ByteArray).extract d.1 (d.1 + 1) = ⟨[digC d.1].toArray⟩ := by decide +kernel
 exact this ⟨d, h⟩
theorem decDigits_dig {n : Nat} (h : n < 10) : Lib.decDigits n = [digC n] := Lib.decDigits_one h
theorem decDigits_ten {m d : Nat} (hm : 0 < m) (hd : d < 10) : Lib.decDigits (10 * m + d) = Lib.decDigits m ++ [digC d] := by
 rw [Lib.decDigits, dif_neg (by omega), show (10 * m + d) / 10 = m by omega, show (10 * m + d) % 10 = d by omega]; rfl
theorem dig_len (n : Nat) (h : n < 1000000000) : (Lib.decDigits n).length ≤ 10 := by
 have := dd_len (n : Int) (by omega)
 simpa using this
set_option maxRecDepth 100000 in
set_option maxHeartbeats 2000000 in
theorem decimal_ref (k : Nat) : ∀ (n : Nat) (w : World), n < 10 ^ k → k ≤ 9 → Calls Tryz.prog 60 #[i64 n] w fun e w' => e = .returned (enS (Lib.decDigits n)) ∧ ∃ m, w' = w.drewN m := by
 induction k with
 | zero =>
  intro n w h _
  obtain rfl : n = 0 := by simp at h; omega
  have hx := dig_ext (show 0 < 10 by omega)
  have V := Lib.hid (decDigits_dig (show 0 < 10 by omega))
  go_enter Tryz.func60, Tryz.ntmps60
  go_wp2_with fail
  go_ret
  rw [V.out]
  exact ⟨by first | rfl | (simp only [hx]), 0, rfl⟩
 | succ k ih =>
  intro n w h hk
  by_cases h10 : n < 10
  ·have hx := dig_ext h10
   have V := Lib.hid (decDigits_dig h10)
   go_enter Tryz.func60, Tryz.ntmps60
   go_wp2_with fail
   go_ret
   rw [V.out]
   exact ⟨by first | rfl | (simp only [hx]), 0, rfl⟩
  ·obtain ⟨m, d, hmd, hd⟩ : ∃ m d, n = 10 * m + d ∧ d < 10 := ⟨n / 10, n % 10, by omega, by omega⟩
   have hm : 0 < m := by omega
   have V : Hid (Lib.decDigits n = Lib.decDigits m ++ [digC d]) := by (show Lib.decDigits n = _); rw [hmd]; exact decDigits_ten hm hd
   have h18 : n ≤ 1000000000 := by
    have := Nat.pow_le_pow_right (show 0 < 10 by omega) hk
    have e : 10 ^ 9 = 1000000000 := by decide
    omega
   have hmk : m < 10 ^ k := by rw [Nat.pow_succ] at h; omega
   have IH := Lib.hid (fun W => ih m W hmk (by omega))
   have hlen := dig_len m (by omega)
   have hq : (n : Int) / 10 = (m : Int) := by omega
   have hr : (n : Int) % 10 = (d : Int) := by omega
   have hx := dig_ext hd
   have hc := run_cat50 (Lib.decDigits m) [digC d] (by simp; omega)
   clear ih hmd h hlen hmk
   generalize Lib.decDigits m = dm at *
   go_enter Tryz.func60, Tryz.ntmps60
   go_wp2_with fail
   go_quiet ((go_at_call 60; exact Calls.quiet_of (IH.out _)))
   go_wp2_with fail
   go_ret
   rw [V.out]
   exact ⟨rfl, _, rfl⟩
theorem decimal_at (n : Int) (w : World) (h0 : 0 ≤ n) (h1 : n < 1000000000) : Calls Tryz.prog 60 #[i64 n] w fun e w' => e = .returned (enS (Lib.decDigits n.toNat)) ∧ ∃ m, w' = w.drewN m := by
 obtain ⟨m, rfl⟩ : ∃ m : Nat, n = m := ⟨n.toNat, by omega⟩
 exact decimal_ref 9 m w (by omega) (by omega)
theorem below_drewN (w : World) (m : Nat) : Below w.heap.size w (w.drewN m) := ⟨rfl, rfl, rfl, Nat.le_refl _, fun _ _ => rfl⟩
set_option maxRecDepth 100000 in
set_option maxHeartbeats 4000000 in
theorem head_ref (d : Dg) (A : Option Addr) (c : Nat) (w : World) (hl : d.ti.length ≤ 1000000000) (hv : 0 ≤ d.vo ∧ d.vo ≤ 100000000) (hi : 0 ≤ d.ie ∧ d.ie ≤ 100000000) :
  Calls Tryz.prog 101 #[dgA d A c] w fun e w' => e = .returned (enS (headT d)) ∧ Below w.heap.size w w' := by
 have V := Lib.hid (head_parts d)
 have L1 := dd_len d.vo (by omega)
 have L2 := dd_len d.ie (by omega)
 have HV := Lib.hid hv
 have HI := Lib.hid hi
 clear hv hi
 obtain ⟨ti, vo, ie, da, its⟩ := d
 simp only at L1 L2 hl HV HI V
 go_enter Tryz.func101, Tryz.ntmps101
 go_wp2_with fail
 have B1 := Lib.hid (below_new w (.cells #[enS ti, i64 vo, i64 ie, i64 da, .slice A its.length c] 24))
 have d1 := Lib.hid (blk_new w (.cells #[enS ti, i64 vo, i64 ie, i64 da, .slice A its.length c] 24))
 refine Flow.wp_region_segs Flow.Later Flow.Later.refl Flow.Later.trans [([0, 1, 2, 3, 4, 8, 9], 5), ([6, 7], 10)] [11, 12] (by kernel_rfl) (by kernel_rfl) ?_
 have b' : Below (w.alloc (.cells #[enS ti, i64 vo, i64 ie, i64 da, .slice A its.length c] 24)).heap.size (w.alloc (.cells #[enS ti, i64 vo, i64 ie, i64 da, .slice A its.length c] 24)) (World.drew (w.alloc (.cells #[enS ti, i64 vo, i64 ie, i64 da, .slice A its.length c] 24))) := (Below.refl _ _).drew
 have d2 := Lib.hid (blk_below b' d1.out); clear d1
 have B2 := Lib.hid (B1.out.tr b'); clear B1
 clear b'
 generalize World.drew _ = w2 at *
 have cd0 := blk_cell d2.out 0
 have qd0 : ∀ t : Flow.Cls (Flow.Later w2), t.val.cell? _ = some (enS ti) := fun t => Flow.cls_cell cd0 t
 have cd1 := blk_cell d2.out 1
 have qd1 : ∀ t : Flow.Cls (Flow.Later w2), t.val.cell? _ = some (i64 vo) := fun t => Flow.cls_cell cd1 t
 have cd2 := blk_cell d2.out 2
 have qd2 : ∀ t : Flow.Cls (Flow.Later w2), t.val.cell? _ = some (i64 ie) := fun t => Flow.cls_cell cd2 t
 have cd3 := blk_cell d2.out 3
 have qd3 : ∀ t : Flow.Cls (Flow.Later w2), t.val.cell? _ = some (i64 da) := fun t => Flow.cls_cell cd3 t
 have cd4 := blk_cell d2.out 4
 have qd4 : ∀ t : Flow.Cls (Flow.Later w2), t.val.cell? _ = some (.slice A its.length c) := fun t => Flow.cls_cell cd4 t
 haveI nonE := Flow.cls_nonempty w2
 rw [Flow.wpSegs_cons]
 simp only [Flow.pick, List.getElem?_toArray, List.getElem?_cons_succ, List.getElem?_cons_zero]
 repeat go_big_quiet_step (fail)
 refine wpQuiet_nil ?_
 clear nonE qd0 cd0 qd1 cd1 qd2 cd2 qd3 cd3 qd4 cd4
 rw [Flow.callAt_eq]
 simp only [List.getElem?_toArray, List.getElem?_cons_succ, List.getElem?_cons_zero]
 rw [if_pos (by rfl)]
 refine Flow.wp_behind (fun K0 hK => ?_)
 go_wp2_with fail
 refine (decimal_at vo _ HV.out.1 (by have := HV.out.2; omega)).mono ?_; rintro e w3 ⟨rfl, hb⟩
 have b : Below w2.heap.size w2 w3 := by obtain ⟨m, rfl⟩ := hb; exact below_drewN _ _
 clear hb
 have b' : Below w2.heap.size w2 w3 := Below.tr (by first | exact Below.refl _ _ | exact below_new _ _) b
 clear b
 refine hK.out _ _ ⟨b', ?_⟩
 clear hK K0
 have d3 := Lib.hid (blk_below b' d2.out); clear d2
 have B3 := Lib.hid (B2.out.tr b'); clear B2
 clear b'
 generalize Lib.decDigits vo.toNat = D1 at *
 haveI nonE := Flow.cls_nonempty w3
 rw [Flow.wpSegs_cons]
 simp only [Flow.pick, List.getElem?_toArray, List.getElem?_cons_succ, List.getElem?_cons_zero]
 repeat go_big_quiet_step (fail)
 refine wpQuiet_nil ?_
 clear nonE 
 rw [Flow.callAt_eq]
 simp only [List.getElem?_toArray, List.getElem?_cons_succ, List.getElem?_cons_zero]
 rw [if_pos (by rfl)]
 refine Flow.wp_behind (fun K0 hK => ?_)
 go_wp2_with fail
 refine (decimal_at ie _ HI.out.1 (by have := HI.out.2; omega)).mono ?_; rintro e w4 ⟨rfl, hb⟩
 have b : Below w3.heap.size w3 w4 := by obtain ⟨m, rfl⟩ := hb; exact below_drewN _ _
 clear hb
 have b' : Below w3.heap.size w3 w4 := Below.tr (by first | exact Below.refl _ _ | exact below_new _ _) b
 clear b
 refine hK.out _ _ ⟨b', ?_⟩
 clear hK K0
 have d4 := Lib.hid (blk_below b' d3.out); clear d3
 have B4 := Lib.hid (B3.out.tr b'); clear B3
 clear b'
 generalize Lib.decDigits ie.toNat = D2 at *
 haveI nonE := Flow.cls_nonempty w4
 rw [Flow.wpSegs_nil]
 simp only [Flow.pick, List.getElem?_toArray, List.getElem?_cons_succ, List.getElem?_cons_zero]
 repeat go_big_quiet_step (fail)
 refine wpQuiet_nil ?_
 clear nonE 
 go_wp2_with fail
 go_ret
 refine ⟨?_, (B4.out.tr (by first | exact Below.refl _ _ | exact below_new _ _))⟩
 rw [V.out]
 simp only [bcat]
 rfl
theorem date_ref (m : Int) (w : World) (h : minB m = true) : Calls Tryz.prog 102 #[i64 m] w fun e w' => e = .returned (enS (fm m)) ∧ Below w.heap.size w w' := by
 have hz : Go.Proofs.YtlchcjnbbhpiaaaGreatDoor.Dt.zok m 0 = true := by
  unfold minB at h
  simp only [Bool.and_eq_true, decide_eq_true_eq] at h
  unfold Go.Proofs.YtlchcjnbbhpiaaaGreatDoor.Dt.zok Go.Proofs.YtlchcjnbbhpiaaaGreatDoor.Dt.vld
  simp; omega
 have H := Lib.hid (fun u => Dt.refFormatZone_yes m 0 u hz)
 rw [Int.add_zero] at H
 clear h hz
 go_enter Tryz.func102, Tryz.ntmps102
 go_wp2_with fail
 refine (H.out _).mono ?_; rintro e w1 ⟨rfl, b1⟩
 have B1 := Lib.hid b1
 clear b1
 go_wp2_with fail
 go_ret
 exact ⟨rfl, B1.out⟩
theorem hx_ext {d : Nat} (h : d < 16) : (⟨#[48, 49, 50, 51, 52, 53, 54, 55, 56, 57, 97, 98, 99, 100, 101, 102]⟩ : ByteArray).extract d (d + 1) = ⟨[hx d].toArray⟩ := by
 have : ∀ d : Fin 16, (⟨#[48, 49, 50, 51, 52, 53, 54, 55, 56, 57, 97, 98, 99, 100, 101, 102]⟩ : ByteArray).extract d.1 (d.1 + 1) = ⟨[hx d.1].toArray⟩ := by decide +kernel
 exact this ⟨d, h⟩
theorem hexT_len (l : List UInt8) : (hexT l).length = 2 * l.length := by
 unfold hexT
 induction l with | nil => rfl | cons a l ih => rw [List.flatMap_cons, List.length_append, ih]; simp; omega
theorem hexT_next {k : List UInt8} {i : Nat} (h : i < k.length) : hexT (k.take (i + 1)) = hexT (k.take i) ++ [hx ((k.getD i 0).toNat / 16), hx ((k.getD i 0).toNat % 16)] := by
 rw [List.take_succ_eq_append_getElem h]
 unfold hexT
 rw [List.flatMap_append]
 simp [h]
set_option maxRecDepth 100000 in
set_option maxHeartbeats 2000000 in
theorem digits_ref (k : List UInt8) (w : World) (hk : k.length = 32) : Calls Tryz.prog 133 #[idA k] w fun e w' => e = .returned (enS (hexT k)) ∧ Below w.heap.size w w' := by
 have HK := Lib.hid hk
 have HM := Lib.hid (idL_map hk)
 clear hk
 unfold idA
 go_enter Tryz.func133, Tryz.ntmps133
 go_upto_region 1 with fail
 have I0 : Hid (Below w.heap.size w (w.alloc (.cells (idL k).toArray 154)) ∧ (w.alloc (.cells (idL k).toArray 154)).heap[w.heap.size]? = some (.cells (idL k).toArray 154 (0, 0))) := Lib.hid ⟨below_new _ _, blk_new _ _⟩
 generalize w.alloc (.cells (idL k).toArray 154) = w1 at *
 go_wp2_with fail
 go_loopg [3, 4] 32 (fun gg sv iv wr => ∃ i : Nat, i ≤ 32 ∧ 32 - i ≤ gg ∧ iv = i64 i ∧ sv = enS (hexT (k.take i)) ∧ Hid (Below w.heap.size w wr ∧ wr.heap[w.heap.size]? = some (.cells (idL k).toArray 154 (0, 0))))
 case atStart => exact ⟨0, Nat.zero_le _, by omega, rfl, rfl, I0⟩
 case round =>
  obtain ⟨i, hi, hgg, rfl, rfl, IW⟩ := hrel
  clear I0
  by_cases hlt : i < 32
  ·have hc0 : wr.cell? ⟨w.heap.size, i, none⟩ = some (enB (k.getD i 0)) := by
    rw [blk_cell IW.out.2 i, HM.out]
    have : i < k.length := by rw [HK.out]; exact hlt
    simp [List.getD, this]
   have HT := Lib.hid (hexT_next (k := k) (i := i) (by rw [HK.out]; exact hlt))
   obtain ⟨x, hx⟩ : ∃ x, k.getD i 0 = x := ⟨_, rfl⟩
   rw [hx] at hc0 HT
   have hx256 := x.toNat_lt
   clear hx
   obtain ⟨p, hp⟩ : ∃ p, x.toNat / 16 = p := ⟨_, rfl⟩
   obtain ⟨q, hq⟩ : ∃ q, x.toNat % 16 = q := ⟨_, rfl⟩
   rw [hp, hq] at HT
   have hp1 : (x.toNat : Int) / 16 = (p : Int) := by omega
   have hq1 : (x.toNat : Int) % 16 = (q : Int) := by omega
   have hp2 : p < 16 := by omega
   have hq2 : q < 16 := by omega
   have e1 := Lib.hid (hx_ext hp2)
   have e2 := Lib.hid (hx_ext hq2)
   clear hp hq
   go_upto_region 5 with fail
   have bd := (Below.refl wr.heap.size wr).drew
   refine Flow.wp_region_segs Flow.Later Flow.Later.refl Flow.Later.trans [] [0, 1, 2, 3, 4, 5, 6, 7, 8, 9] (by kernel_rfl) (by kernel_rfl) ?_
   have I5 := Lib.hid (And.intro (IW.out.1.tr bd) (blk_below bd IW.out.2))
   have hc5 := (bd.cell (show w.heap.size < wr.heap.size from blk_lt IW.out.2)).trans hc0
   clear bd IW hc0
   generalize World.drew _ = wd at *
   have qa : ∀ t : Flow.Cls (Flow.Later wd), t.val.cell? ⟨w.heap.size, i, none⟩ = some (enB x) := fun t => Flow.cls_cell hc5 t
   haveI nonE := Flow.cls_nonempty wd
   rw [Flow.wpSegs_nil]
   simp only [Flow.pick, List.getElem?_toArray, List.getElem?_cons_succ, List.getElem?_cons_zero]
   repeat go_big_quiet_step (fail)
   refine wpQuiet_nil ?_
   clear nonE qa hc5
   rw [hq1]
   have hTl : (hexT (k.take i)).length ≤ 64 := by rw [hexT_len, List.length_take]; omega
   have HT2 := HT
   generalize hexT (k.take i) = T at *
   have hsz := sz_eq T
   go_upto_region 6 with fail
   have bd := (Below.refl wd.heap.size wd).drew
   refine Flow.wp_region_segs Flow.Later Flow.Later.refl Flow.Later.trans [] [0, 1, 2, 3, 4, 5, 6, 7, 8, 9, 10, 11] (by kernel_rfl) (by kernel_rfl) ?_
   have I6 := Lib.hid (And.intro (I5.out.1.tr bd) (blk_below bd I5.out.2))
   clear bd I5
   generalize World.drew wd = wd2 at *
   haveI nonE := Flow.cls_nonempty wd2
   rw [Flow.wpSegs_nil]
   simp only [Flow.pick, List.getElem?_toArray, List.getElem?_cons_succ, List.getElem?_cons_zero]
   have e1' := e1.out
   have e2' := e2.out
   repeat go_big_quiet_step (fail)
   refine wpQuiet_nil ?_
   clear nonE e1' e2'
   go_wp2_with fail
   go_roundg (32 - (i + 1))
   case measure => omega
   case rel => exact ⟨i + 1, by omega, by omega, by simp, by rw [HT.out]; simp only [bcat]; rfl, I6⟩
  ·obtain rfl : i = 32 := by omega
   have B9 := Lib.hid IW.out.1
   have VB : Hid (k.take 32 = k) := Lib.hid (by (show _ = _); rw [List.take_of_length_le]; rw [HK.out]; omega)
   clear IW
   go_wp2_with fail
   go_ret
   rw [VB.out]
   exact ⟨rfl, B9.out⟩
set_option maxRecDepth 100000 in
theorem print_ref (k : List UInt8) (w : World) (hk : k.length = 32) : Calls Tryz.prog 103 #[idA k] w fun e w' => e = .returned (enS (prId k)) ∧ Below w.heap.size w w' := by
 have H := Lib.hid (fun u => digits_ref k u hk)
 have hl : (hexT k).length = 64 := by rw [hexT_len, hk]
 have V : Hid (prId k = [60] ++ hexT k ++ [64, 104, 97, 115, 104, 62]) := Lib.hid rfl
 have BN := Lib.hid (below_new w (.cells (idL k).toArray 154))
 have RN := Lib.hid (range_blk (blk_new w (.cells (idL k).toArray 154)))
 unfold idA at H ⊢
 generalize hexT k = T at *
 have HSZ : Hid ((Tryz.prog.info? 154).map (·.size) = some 32) := Lib.hid (by kernel_rfl)
 go_enter Tryz.func103, Tryz.ntmps103
 go_wp2_with (refine wpList_load_mid rfl 154 _ rfl w.heap.size 0 rfl (idL k) _ RN.out Tryz.underlying154 rfl (by rw [idL_length]; exact HSZ.out) ?_)
 refine (H.out _).mono ?_; rintro e w1 ⟨rfl, b1⟩
 have B1 := Lib.hid (BN.out.tr b1)
 clear b1 BN RN
 have hsz := sz_eq T
 go_wp2_with fail
 go_ret
 rw [V.out]
 exact ⟨by simp only []; rfl, B1.out⟩
end Go.Proofs.YtlchcjnbbhpiaaaGreatDoor
