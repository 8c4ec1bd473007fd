/- Contracts of days, ToCivil and FromCivil of the reference of package date. -/
import Derived.Test.YtpdncgfkoibacaaDoorNum
namespace Go.Proofs.YtpdncgfkoibacaaDoor
open Go.RowKit
open Cal

theorem blk_new2 (w : World) (o p : Obj) : ((w.alloc o).alloc p).heap[w.heap.size + 1]? = some p := by
  have := blk_new (w.alloc o) p
  simpa using this

set_option maxHeartbeats 1000000 in
theorem refDays_any (y m : Int) (w : World) (h : 0 ≤ y) (h2 : y ≤ 100000) (m1 : 1 ≤ m) (m2 : m ≤ 12) :
    Calls Tryd.prog 37 #[.int .i64 y, .int .i64 m] w fun e w' => e = .returned (.int .i64 (md y m)) ∧ Below w.heap.size w w' := by
  have hm : m = 1 ∨ m = 2 ∨ m = 3 ∨ m = 4 ∨ m = 5 ∨ m = 6 ∨ m = 7 ∨ m = 8 ∨ m = 9 ∨ m = 10 ∨ m = 11 ∨ m = 12 := by omega
  have hl : (lp y == 1) = true ∨ (lp y == 1) = false := by cases (lp y == 1) <;> simp
  have h01 := lp_01 y
  rcases hl with hl | hl <;> rcases hm with rfl | rfl | rfl | rfl | rfl | rfl | rfl | rfl | rfl | rfl | rfl | rfl
  all_goals
    go_enter Tryd.func37, Tryd.ntmps37
    go_wp2_with (go_at_call 36; refine (leap_any _ _ (by omega) (by omega)).mono ?_; rintro e w' ⟨rfl, rfl⟩)
    go_ret
    refine ⟨ret_int ?_, ?_⟩
    · first
        | (simp [md]; done)
        | (have := beq_iff_eq.1 hl; simp [md, this]; done)
        | (have := beq_eq_false_iff_ne.1 hl; have e : lp y = 0 := by omega
           simp [md, e]; done)
    · first
        | exact Below.refl _ _
        | exact (Below.refl _ _).alloc (Nat.le_refl _) _

set_option maxHeartbeats 400000 in
theorem refToCivil_no (m : Int) (w : World) (h : vld m = false) :
    Calls Tryd.prog 14 #[.int .i64 m] w fun e w' => e = .returned (.tuple #[.agg #[.int .i64 0, .int .i64 0, .int .i64 0, .int .i64 0, .int .i64 0], .int .i64 2]) ∧ Below w.heap.size w w' := by
  go_enter Tryd.func14, Tryd.ntmps14
  go_wp2_with (go_at_call 25; refine (refValid_any _ _).mono ?_; rintro e w' ⟨rfl, rfl⟩)
  exact bodyPost_ret (v := .tuple #[.agg #[.int .i64 0, .int .i64 0, .int .i64 0, .int .i64 0, .int .i64 0], .int .i64 2]) (by simp [results, Tryd.results14, go_sem]) rfl ⟨rfl, ((Below.refl _ _).alloc (Nat.le_refl _) _)⟩

set_option maxHeartbeats 2000000 in
theorem refToCivil_yes (t : Int) (w : World) (h0 : 0 ≤ t) (h1 : t ≤ 105190559) :
    Calls Tryd.prog 14 #[.int .i64 t] w fun e w' => e = .returned (.tuple #[.agg #[.int .i64 (civY (t / 1440)), .int .i64 (civM (t / 1440)), .int .i64 (civD (t / 1440)), .int .i64 (t % 1440 / 60), .int .i64 (t % 60)], .int .i64 0]) ∧ Below w.heap.size w w' := by
  have A := vld_mk ⟨h0, h1⟩
  have d0 : 0 ≤ t / 1440 := by omega
  have d1 : t / 1440 ≤ 73048 := by omega
  have B1 := Lib.hid dby_2000
  go_enter Tryd.func14, Tryd.ntmps14
  go_wp2_with (go_at_call 25; refine (refValid_any _ _).mono ?_; rintro e w' ⟨rfl, rfl⟩)
  generalize hd : t / 1440 = d at *
  have HD := Lib.hid hd; clear hd
  generalize hhh : t % 1440 / 60 = hh at *
  have HH := Lib.hid hhh; clear hhh
  generalize hmm : t % 60 = mm at *
  have HM := Lib.hid hmm; clear hmm
  go_loopw [4] (fun x wr => ∃ y : Int, 2000 ≤ y ∧ y ≤ 2199 ∧ dby y ≤ d ∧ x = .int .i64 (d - dby y) ∧ wr = (w.alloc (.cells #[.int .i64 0, .int .i64 0, .int .i64 0, .int .i64 0, .int .i64 0] 28)).alloc (.cells #[.int .i64 y, .int .i64 1, .int .i64 0, .int .i64 hh, .int .i64 mm] 28)) (fun x _ => (intOf x).toNat)
  case atStart => exact ⟨2000, by omega, by omega, by rw [B1.out]; exact d0, by rw [B1.out]; simp, rfl⟩
  case round =>
    obtain ⟨y, hy1, hy2, hy3, rfl, rfl⟩ := hrel
    have hs := dby_succ y
    have hb := yd_bd y
    have hm := dby_mono hy1
    rw [B1.out] at hm
    by_cases hc : yd y ≤ d - dby y
    · have hy4 : y < 2199 := by
        rcases Int.lt_or_eq_of_le hy2 with h | h
        · exact h
        · have := dby_2200; subst h; have e : (2199 : Int) + 1 = 2200 := rfl; rw [e] at hs; omega
      rcases yd_eq y with ⟨a, b, _⟩ | ⟨a, b, _⟩
      all_goals
        have hle : (lp y == 1) = true ∨ (lp y == 1) = false := by cases (lp y == 1) <;> simp
        rcases hle with hle | hle
        all_goals first | (exfalso; simp [b] at hle; done) | skip
        rw [a] at hs hc
        have HS := Lib.hid hs; clear hs a b hb
        go_wp2_with (go_at_call 36; refine (leap_any _ _ (by omega) (by omega)).mono ?_; rintro e w' ⟨rfl, rfl⟩)
        go_roundw
        case rel => exact ⟨y + 1, by omega, by omega, by rw [HS.out]; omega, by rw [HS.out]; go_num, rfl⟩
        case measure => simp [intOf]; omega
    · have hs' : d < dby (y + 1) := by omega
      have ey := civY_eq d0 d1 hy3 hs'
      have EY := Lib.hid ey; clear ey
      have hlt : d - dby y < yd y := by omega
      rcases yd_eq y with ⟨a, b, _⟩ | ⟨a, b, _⟩
      all_goals
        have hle : (lp y == 1) = true ∨ (lp y == 1) = false := by cases (lp y == 1) <;> simp
        rcases hle with hle | hle
        all_goals first | (exfalso; simp [b] at hle; done) | skip
        have YD := Lib.hid a
        rw [a] at hlt
        clear hc hs hs' a b hb
        go_wp2_with (go_at_call 36; refine (leap_any _ _ (by omega) (by omega)).mono ?_; rintro e w' ⟨rfl, rfl⟩)
        go_loopw [4] (fun x wr => ∃ m : Int, 1 ≤ m ∧ m ≤ 12 ∧ cum y m ≤ d - dby y ∧ x = .int .i64 (d - dby y - cum y m) ∧ Below w.heap.size w wr ∧ Hid (wr.heap[w.heap.size]? = some (.cells #[.int .i64 0, .int .i64 0, .int .i64 0, .int .i64 0, .int .i64 0] 28 (0, 0))) ∧ Hid (wr.heap[w.heap.size + 1]? = some (.cells #[.int .i64 y, .int .i64 m, .int .i64 0, .int .i64 hh, .int .i64 mm] 28 (0, 0)))) (fun x _ => (intOf x).toNat)
        case atStart => exact ⟨1, by omega, by omega, by rw [cum_one]; omega, by rw [cum_one]; simp, ((Below.refl _ _).alloc (Nat.le_refl _) _).alloc (by simp) _, blk_old _ (blk_new _ _), blk_new2 _ _ _⟩
        case round =>
          obtain ⟨m, hm1, hm2, hm3, rfl, hB, k0, k1⟩ := hrel
          have cs := cum_succ y m hm1 hm2
          have mb := md_bd y m
          have cb := cum_bd y m (by omega)
          have z1 := blk_lt k1.out
          have c0 : wr.cell? ⟨w.heap.size + 1, 0, none⟩ = some (.int .i64 y) := blk_cell k1.out 0
          have c1 : wr.cell? ⟨w.heap.size + 1, 1, none⟩ = some (.int .i64 m) := blk_cell k1.out 1
          go_wp2_with fail
          refine (refDays_any _ _ _ (by omega) (by omega) (by omega) (by omega)).mono ?_
          rintro e w2 ⟨rfl, b2⟩
          have k0' := Lib.hid (blk_below b2 k0.out)
          have k1' := Lib.hid (blk_below b2 k1.out)
          have hB2 := hB.trans (b2.mono (by have := hB.size; omega))
          clear c0 c1 k0 k1 hB b2 z1
          have c0 : w2.cell? ⟨w.heap.size + 1, 0, none⟩ = some (.int .i64 y) := blk_cell k1'.out 0
          have c1 : w2.cell? ⟨w.heap.size + 1, 1, none⟩ = some (.int .i64 m) := blk_cell k1'.out 1
          by_cases hc2 : md y m ≤ d - dby y - cum y m
          · have hm4 : m < 12 := by
              rcases Int.lt_or_eq_of_le hm2 with h | h
              · exact h
              · have := cum_13 y; subst h; have e : (12 : Int) + 1 = 13 := rfl; rw [e] at cs; have := YD.out; omega
            have CS := Lib.hid cs; clear cs
            go_wp2_with fail
            refine (refDays_any _ _ _ (by omega) (by omega) (by omega) (by omega)).mono ?_
            rintro e w3 ⟨rfl, b3⟩
            have k0 := Lib.hid (blk_below b3 k0'.out)
            have k1 := Lib.hid (blk_below b3 k1'.out)
            have hB := hB2.trans (b3.mono (by have := hB2.size; omega))
            clear c0 c1 k0' k1' hB2 b3
            have c0 : w3.cell? ⟨w.heap.size + 1, 0, none⟩ = some (.int .i64 y) := blk_cell k1.out 0
            have c1 : w3.cell? ⟨w.heap.size + 1, 1, none⟩ = some (.int .i64 m) := blk_cell k1.out 1
            have f1 : w3.frozen? ⟨w.heap.size + 1, 1, none⟩ = false := blk_free k1.out 1
            go_wp2_with fail
            go_roundw
            case rel => exact ⟨m + 1, by omega, by omega, by rw [CS.out]; omega, by rw [CS.out]; go_num, hB.setCell (by simp) _, by show _ = _; rw [blk_set_ne _ _ (by omega)]; exact k0.out, by show _ = _; rw [blk_set k1.out]; rfl⟩
            case measure => simp [intOf]; omega
          · have em := civM_eq d0 d1 hm1 hm2 (by rw [EY.out]; omega) (by rw [EY.out]; omega)
            have EM := Lib.hid em; clear em
            have CS := Lib.hid cs; clear cs
            have f2 : w2.frozen? ⟨w.heap.size + 1, 2, none⟩ = false := blk_free k1'.out 2
            have c2 : w2.cell? ⟨w.heap.size + 1, 2, none⟩ = some (.int .i64 0) := blk_cell k1'.out 2
            have c3 : w2.cell? ⟨w.heap.size + 1, 3, none⟩ = some (.int .i64 hh) := blk_cell k1'.out 3
            have c4 : w2.cell? ⟨w.heap.size + 1, 4, none⟩ = some (.int .i64 mm) := blk_cell k1'.out 4
            have r0 : w2.cell? ⟨w.heap.size, 0, none⟩ = some (.int .i64 0) := blk_cell k0'.out 0
            have r1 : w2.cell? ⟨w.heap.size, 1, none⟩ = some (.int .i64 0) := blk_cell k0'.out 1
            have r2 : w2.cell? ⟨w.heap.size, 2, none⟩ = some (.int .i64 0) := blk_cell k0'.out 2
            have r3 : w2.cell? ⟨w.heap.size, 3, none⟩ = some (.int .i64 0) := blk_cell k0'.out 3
            have r4 : w2.cell? ⟨w.heap.size, 4, none⟩ = some (.int .i64 0) := blk_cell k0'.out 4
            have g0 : ∀ i, w2.frozen? ⟨w.heap.size, i, none⟩ = false := blk_free k0'.out
            go_wp2_with fail
            have ed : civD d = d - dby y - cum y m + 1 := by unfold civD; rw [EM.out, EY.out]
            rw [HD.out, HH.out, HM.out, ed, EM.out, EY.out]
            refine bodyPost_ret (v := .tuple #[.agg #[.int .i64 y, .int .i64 m, .int .i64 (d - dby y - cum y m + 1), .int .i64 hh, .int .i64 mm], .int .i64 0]) (by simp [results, Tryd.results14, go_sem, r0, r1, r2, r3, r4]) rfl ⟨rfl, ?_⟩
            repeat refine Below.setCell ?_ (by simp) _
            exact hB2

set_option maxHeartbeats 1000000 in
theorem refFromCivil_range (y m d h n : Int) (w : World) (hr : y < 2000 ∨ 2199 < y ∨ m < 1 ∨ 12 < m) :
    Calls Tryd.prog 17 #[.agg #[.int .i64 y, .int .i64 m, .int .i64 d, .int .i64 h, .int .i64 n]] w fun e w' => e = .returned (.tuple #[.int .i64 0, .int .i64 2]) ∧ Below w.heap.size w w' := by
  have cs : y < 2000 ∨ (2000 ≤ y ∧ 2199 < y) ∨ (2000 ≤ y ∧ y ≤ 2199 ∧ m < 1) ∨ (2000 ≤ y ∧ y ≤ 2199 ∧ 1 ≤ m ∧ 12 < m) := by omega
  clear hr
  rcases cs with a | ⟨a, b⟩ | ⟨a, b, c⟩ | ⟨a, b, c, f⟩
  all_goals
    go_enter Tryd.func17, Tryd.ntmps17
    go_wp2
    go_ret2
    exact ⟨rfl, (Below.refl _ _).alloc (Nat.le_refl _) _⟩
end Go.Proofs.YtpdncgfkoibacaaDoor
