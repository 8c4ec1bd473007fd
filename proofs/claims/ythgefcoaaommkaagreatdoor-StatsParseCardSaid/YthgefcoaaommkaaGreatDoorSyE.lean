/- Contract: date.FormatDay. -/
import Derived.Test.YthgefcoaaommkaaGreatDoorSyD
import Derived.Test.YthgefcoaaommkaaGreatDoorSyB
namespace Go.Proofs.YthgefcoaaommkaaGreatDoor.Dt
open Go.RowKit Go.Gn Go.Proofs.YthgefcoaaommkaaGreatDoor
open Go.Dt Go.Dt.Cal
def dayText (d : Int) : List UInt8 := digs 4 (civY d) ++ [45] ++ digs 2 (civM d) ++ [45] ++ digs 2 (civD d)
theorem yd_eq (y : Int) : (yd y = 366 ∧ lp y = 1 ∧ ((y % 4 = 0 ∧ ¬ y % 100 = 0) ∨ y % 400 = 0)) ∨ (yd y = 365 ∧ lp y = 0 ∧ ¬ ((y % 4 = 0 ∧ ¬ y % 100 = 0) ∨ y % 400 = 0)) := by
  by_cases h : (y % 4 = 0 ∧ ¬ y % 100 = 0) ∨ y % 400 = 0
  · exact .inl ⟨by simp only [yd, lp, if_pos h]; rfl, by simp only [lp, if_pos h], h⟩
  · exact .inr ⟨by simp only [yd, lp, if_neg h]; rfl, by simp only [lp, if_neg h], h⟩
set_option maxHeartbeats 400000 in
theorem yearDays_d (y : Int) (w : World) (h : 0 ≤ y) (h2 : y ≤ 100000) :
    Calls Tryz.prog 186 #[.int .i64 y] w fun e w' => e = .returned (.int .i64 (yd y)) ∧ w = w' := by
  rcases yd_eq y with ⟨a, _, b⟩ | ⟨a, _, b⟩ <;> (have A := Lib.hid a; clear a)
  all_goals
    by_cases h4 : y % 4 = 0 <;> by_cases h100 : y % 100 = 0 <;> by_cases h400 : y % 400 = 0
    all_goals first | (exfalso; omega) | skip
    all_goals
      clear b
      go_enter Tryz.func186, Tryz.ntmps186
      go_wp2
      go_ret
      exact ⟨ret_int A.out.symm, rfl⟩
set_option maxHeartbeats 400000 in
theorem monthDays_any (y m : Int) (w : World) (h : 0 ≤ y) (h2 : y ≤ 100000) :
    Calls Tryz.prog 187 #[.int .i64 y, .int .i64 m] w fun e w' => e = .returned (.int .i64 (md y m)) ∧ w = w' := by
  have hb := yd_bd y
  by_cases m2 : m = 2
  · subst m2
    go_enter Tryz.func187, Tryz.ntmps187
    go_wp2_with (go_at_call 186; refine (yearDays_d _ _ (by omega) (by omega)).mono ?_; rintro e w' ⟨rfl, rfl⟩)
    go_ret
    exact ⟨ret_int (by unfold md yd; simp; omega), rfl⟩
  · by_cases m4 : m = 4 ∨ m = 6 ∨ m = 9 ∨ m = 11
    · have A : Hid (md y m = 30) := by show md y m = 30; simp only [md, if_neg m2, if_pos m4]
      rcases m4 with rfl | rfl | rfl | rfl
      all_goals
        go_enter Tryz.func187, Tryz.ntmps187
        go_wp2
        go_ret
        exact ⟨ret_int A.out.symm, rfl⟩
    · have A : Hid (md y m = 31) := by show md y m = 31; simp only [md, if_neg m2, if_neg m4]
      have b2 : ((m : Int) == 2) = false := by simp; omega
      have b4 : ((m : Int) == 4) = false := by simp; omega
      have b6 : ((m : Int) == 6) = false := by simp; omega
      have b9 : ((m : Int) == 9) = false := by simp; omega
      have b11 : ((m : Int) == 11) = false := by simp; omega
      clear m4
      go_enter Tryz.func187, Tryz.ntmps187
      go_wp2
      go_ret
      exact ⟨ret_int A.out.symm, rfl⟩
set_option maxHeartbeats 1000000 in
theorem calendar_any (d : Int) (w : World) (h0 : 0 ≤ d) (h1 : d ≤ 73048) :
    Calls Tryz.prog 166 #[.int .i64 d] w fun e w' => e = .returned (.agg #[.int .i64 (civY d), .int .i64 (civM d), .int .i64 (civD d), .int .i64 0, .int .i64 0]) ∧ Below w.heap.size w w' := by
  have b1 := dby_2000
  have B1 := Lib.hid b1; clear b1
  go_enter Tryz.func166, Tryz.ntmps166
  go_wp2
  go_loopw [0] (fun x wr => ∃ y : Int, 2000 ≤ y ∧ y ≤ 2199 ∧ dby y ≤ d ∧ x = .int .i64 (d - dby y) ∧ wr = (w.alloc (.cells #[.int .i64 0, .int .i64 0, .int .i64 0, .int .i64 0, .int .i64 0] 202)).alloc (.cells #[.int .i64 y, .int .i64 1, .int .i64 0, .int .i64 0, .int .i64 0] 202)) (fun x _ => (intOf x).toNat)
  case atStart => exact ⟨2000, by omega, by omega, by rw [B1.out]; exact h0, by rw [B1.out]; simp, rfl⟩
  case round =>
    obtain ⟨y, hy1, hy2, hy3, rfl, rfl⟩ := hrel
    have hs := dby_succ y
    have hb := yd_bd y
    have hm := dby_mono hy1
    rw [B1.out] at hm
    by_cases hc : yd y ≤ d - dby y
    · have hy4 : y < 2199 := by
        rcases Int.lt_or_eq_of_le hy2 with h | h
        · exact h
        · have := dby_2200; subst h; have e : (2199 : Int) + 1 = 2200 := rfl; rw [e] at hs; omega
      have HS := Lib.hid hs; clear hs
      go_wp2_with (go_at_call 186; refine (yearDays_d _ _ (by omega) (by omega)).mono ?_; rintro e w' ⟨rfl, rfl⟩)
      go_roundw
      case rel => exact ⟨y + 1, by omega, by omega, by rw [HS.out]; omega, by rw [HS.out]; go_num, rfl⟩
      case measure => simp [intOf]; omega
    · have hs' : d < dby (y + 1) := by omega
      have ey := civY_eq h0 h1 hy3 hs'
      have EY := Lib.hid ey; clear ey
      have EYD := Lib.hid hs; clear hs hs'
      go_wp2_with (go_at_call 186; refine (yearDays_d _ _ (by omega) (by omega)).mono ?_; rintro e w' ⟨rfl, rfl⟩)
      go_loopw [0] (fun x wr => ∃ m : Int, 1 ≤ m ∧ m ≤ 12 ∧ cum y m ≤ d - dby y ∧ x = .int .i64 (d - dby y - cum y m) ∧ wr = (w.alloc (.cells #[.int .i64 0, .int .i64 0, .int .i64 0, .int .i64 0, .int .i64 0] 202)).alloc (.cells #[.int .i64 y, .int .i64 m, .int .i64 0, .int .i64 0, .int .i64 0] 202)) (fun x _ => (intOf x).toNat)
      case atStart => exact ⟨1, by omega, by omega, by rw [cum_one]; omega, by rw [cum_one]; simp, rfl⟩
      case round =>
        obtain ⟨m, hm1, hm2, hm3, rfl, rfl⟩ := hrel
        have cs := cum_succ y m hm1 hm2
        have mb := md_bd y m
        have cb := cum_bd y m (by omega)
        by_cases hc2 : md y m ≤ d - dby y - cum y m
        · have hm4 : m < 12 := by
            rcases Int.lt_or_eq_of_le hm2 with h | h
            · exact h
            · have := cum_13 y; subst h; have e : (12 : Int) + 1 = 13 := rfl; rw [e] at cs; omega
          have CS := Lib.hid cs; clear cs
          go_wp2_with (go_at_call 187; refine (monthDays_any _ _ _ (by omega) (by omega)).mono ?_; rintro e w' ⟨rfl, rfl⟩)
          go_roundw
          case rel => exact ⟨m + 1, by omega, by omega, by rw [CS.out]; omega, by rw [CS.out]; go_num, rfl⟩
          case measure => simp [intOf]; omega
        · have em := civM_eq h0 h1 hm1 hm2 (by rw [EY.out]; omega) (by rw [EY.out]; omega)
          have EM := Lib.hid em; clear em
          have CS := Lib.hid cs; clear cs
          go_wp2_with (go_at_call 187; refine (monthDays_any _ _ _ (by omega) (by omega)).mono ?_; rintro e w' ⟨rfl, rfl⟩)
          have ed : civD d = d - dby y - cum y m + 1 := by unfold civD; rw [EM.out, EY.out]
          rw [ed, EM.out, EY.out]
          exact bodyPost_ret (v := .agg #[.int .i64 y, .int .i64 m, .int .i64 (d - dby y - cum y m + 1), .int .i64 0, .int .i64 0]) (by simp [results, Tryz.results166, go_sem]) rfl ⟨rfl, ((Below.refl _ _).alloc (Nat.le_refl _) _).alloc (by simp) _⟩
set_option maxHeartbeats 400000 in
theorem padded2_any (n : Int) (w : World) (h0 : 0 ≤ n) (h1 : n < 100) :
    Calls Tryz.prog 167 #[.int .i64 n, .int .i64 2] w fun e w' => e = .returned (.string ⟨(digs 2 n).toArray⟩) ∧ w = w' := by
  obtain ⟨i, rfl⟩ := Int.eq_ofNat_of_zero_le h0
  have hi : i < 100 := by omega
  clear h0 h1
  have m0 : max (0 : Int) 1 = 1 := rfl
  have m1 : max (0 : Int) 0 = 0 := rfl
  by_cases h9 : i < 10
  · have hd := digs2_one h9
    have hl : (Lib.decDigits i).length = 1 := by rw [Lib.decDigits_one h9]; rfl
    have HD := Lib.hid hd; clear hd
    have hc := Tryz.strconv_Itoa_small i hi
    have HC := Lib.hid hc; clear hc
    generalize Lib.decDigits i = l at *
    go_enter Tryz.func167, Tryz.ntmps167
    go_wp2_with fail
    refine (HC.out _).mono ?_
    rintro e w' ⟨rfl, rfl⟩
    go_wp2_with fail
    refine (Tryz.strings_Repeat_one _ _).mono ?_
    rintro e w' ⟨rfl, rfl⟩
    go_wp2_with fail
    go_ret
    exact ⟨by rw [HD.out]; exact congrArg Ending.returned (str_congr (bcat [48] l)), rfl⟩
  · have hd := digs2_two h9 hi
    have hl : (Lib.decDigits i).length = 2 := by rw [Lib.decDigits_two h9 hi]; rfl
    have HD := Lib.hid hd; clear hd
    have hc := Tryz.strconv_Itoa_small i hi
    have HC := Lib.hid hc; clear hc
    generalize Lib.decDigits i = l at *
    go_enter Tryz.func167, Tryz.ntmps167
    go_wp2_with fail
    refine (HC.out _).mono ?_
    rintro e w' ⟨rfl, rfl⟩
    go_wp2_with fail
    refine (Tryz.strings_Repeat_zero _ _).mono ?_
    rintro e w' ⟨rfl, rfl⟩
    go_wp2_with fail
    go_ret
    exact ⟨by rw [HD.out]; exact congrArg Ending.returned (str_congr (bcat [] l)), rfl⟩
set_option maxHeartbeats 400000 in
theorem padded4_any (n : Int) (w : World) (h0 : 1000 ≤ n) (h1 : n < 10000) (ht : Tab w) :
    Calls Tryz.prog 167 #[.int .i64 n, .int .i64 4] w fun e w' => e = .returned (.string ⟨(digs 4 n).toArray⟩) ∧ Below w.heap.size w w' := by
  obtain ⟨i, rfl⟩ := Int.eq_ofNat_of_zero_le (show 0 ≤ n by omega)
  have hd := digs4_four (i := i) (by omega) (by omega)
  have hl : (Lib.decDigits i).length = 4 := by rw [← hd, digs_length]
  have hc := fun w => Tryz.strconv_Itoa i (by omega) (by omega) w
  have ei : Lib.itoa (i : Int) = Lib.decDigits i := by unfold Lib.itoa; rw [if_neg (by omega)]; rfl
  rw [ei] at hc
  have m1 : max (0 : Int) 0 = 0 := rfl
  have HD := Lib.hid hd; clear hd
  have HC := Lib.hid hc; clear hc ei
  have HT := Lib.hid ht; clear ht
  generalize Lib.decDigits i = l at *
  go_enter Tryz.func167, Tryz.ntmps167
  go_wp2_with fail
  refine (HC.out _ HT.out).mono ?_
  rintro e w' ⟨rfl, k, os, rfl⟩
  have hb := below_grow w k os
  generalize Sort.grow (w.drewN k) os = w1 at *
  go_wp2_with fail
  refine (Tryz.strings_Repeat_zero _ _).mono ?_
  rintro e w' ⟨rfl, rfl⟩
  go_wp2_with fail
  go_ret
  exact ⟨by rw [HD.out]; exact congrArg Ending.returned (str_congr (bcat [] l)), hb⟩
set_option maxHeartbeats 2000000 in
theorem formatDay_yes (d : Int) (w : World) (h0 : 0 ≤ d) (h1 : d ≤ 73048) (ht : Tab w) :
    Calls Tryz.prog 132 #[.int .i64 d] w fun e w' => e = .returned (.tuple #[.string ⟨(dayText d).toArray⟩, .int .i64 0]) ∧ Below w.heap.size w w' := by
  have aY := civY_spec d h0 h1
  have aM := civM_spec d h0 h1
  have aD := civD_spec d h0 h1
  have aB := md_bd (civY d) (civM d)
  have y1 := aY.1; have y2 := aY.2.1; have q1 := aM.1; have q2 := aM.2.1; have d1 := aD.1; have d2 : civD d ≤ 31 := by omega
  clear aY aM aD aB
  have HF : Hid (dayText d = digs 4 (civY d) ++ [45] ++ digs 2 (civM d) ++ [45] ++ digs 2 (civD d)) := rfl
  have l1 := digs_length 4 (civY d)
  have l2 := digs_length 2 (civM d)
  have l3 := digs_length 2 (civD d)
  have HT := Lib.hid ht; clear ht
  go_enter Tryz.func132, Tryz.ntmps132
  go_wp2_with fail
  refine (calendar_any _ _ (by omega) (by omega)).mono ?_; rintro e w1 ⟨rfl, b1⟩
  go_wp2_with fail
  generalize civY d = Y at *
  generalize civM d = M at *
  generalize civD d = D at *
  obtain ⟨W, hW⟩ : ∃ W, W = w1.alloc (.cells #[.int .i64 Y, .int .i64 M, .int .i64 D, .int .i64 0, .int .i64 0] 202) := ⟨_, rfl⟩
  have hB : Below w.heap.size w W := by rw [hW]; exact b1.alloc b1.size _
  have blk : W.heap[w1.heap.size]? = some (.cells #[.int .i64 Y, .int .i64 M, .int .i64 D, .int .i64 0, .int .i64 0] 202 (0, 0)) := by rw [hW]; exact blk_new _ _
  rw [← hW]
  have c0 : ∀ t : Cls (fun x => Below W.heap.size W x), t.val.cell? ⟨w1.heap.size, 0, none⟩ = some (.int .i64 Y) := fun t => blk_cell (blk_below t.ok blk) 0
  have c1 : ∀ t : Cls (fun x => Below W.heap.size W x), t.val.cell? ⟨w1.heap.size, 1, none⟩ = some (.int .i64 M) := fun t => blk_cell (blk_below t.ok blk) 1
  have c2 : ∀ t : Cls (fun x => Below W.heap.size W x), t.val.cell? ⟨w1.heap.size, 2, none⟩ = some (.int .i64 D) := fun t => blk_cell (blk_below t.ok blk) 2
  have P4 : Hid (∀ t : Cls (fun x => Below W.heap.size W x), Calls Tryz.prog 167 #[.int .i64 Y, .int .i64 4] t.val fun e w' => e = .returned (.string ⟨(digs 4 Y).toArray⟩) ∧ Below t.val.heap.size t.val w') := fun t => padded4_any Y t.val (by omega) (by omega) ((HT.out.below hB).below t.ok)
  have P2 : Hid (∀ (n : Int) (t : Cls (fun x => Below W.heap.size W x)), 0 ≤ n → n < 100 → Calls Tryz.prog 167 #[.int .i64 n, .int .i64 2] t.val fun e w' => e = .returned (.string ⟨(digs 2 n).toArray⟩) ∧ Below t.val.heap.size t.val w') := fun n t h0 h1 => (padded2_any n t.val h0 h1).mono (fun _ _ ⟨a, b⟩ => ⟨a, b ▸ Below.refl _ _⟩)
  clear blk hW
  haveI : Nonempty (Cls (fun x => Below W.heap.size W x)) := ⟨⟨W, Below.refl _ _⟩⟩
  refine wp_region_class (fun x => Below W.heap.size W x) (by kernel_rfl) (by kernel_rfl) (Below.drew (Below.refl _ _)) ?_
  repeat go_big_quiet_step (first
    | (go_at_call 167; (with_reducible refine Calls.class_below (P2.out M _ ?_ ?_)) <;> omega)
    | (go_at_call 167; (with_reducible refine Calls.class_below (P2.out D _ ?_ ?_)) <;> omega)
    | (go_at_call 167; with_reducible exact Calls.class_below (P4.out _)))
  refine wpQuiet_nil ?_
  rintro w2 ⟨⟨_, b2⟩, rfl⟩
  go_wp2_with fail
  go_ret2
  refine ⟨?_, hB.trans (b2.mono hB.size)⟩
  rw [HF.out]
  refine congrArg (fun s => Ending.returned (.tuple #[.string s, .int .i64 0])) ?_
  simp only [bcat]
set_option maxHeartbeats 400000 in
theorem formatDay_no (d : Int) (w : World) (h : d < 0 ∨ 73048 < d) :
    Calls Tryz.prog 132 #[.int .i64 d] w fun e w' => e = .returned (.tuple #[.string ⟨#[]⟩, .int .i64 2]) ∧ w = w' := by
  have cs : d < 0 ∨ (0 ≤ d ∧ 73048 < d) := by omega
  clear h
  rcases cs with a | ⟨a, b⟩
  all_goals
    go_enter Tryz.func132, Tryz.ntmps132
    go_wp2
    go_ret2
    exact ⟨rfl, rfl⟩
theorem fmtDay_any (d : Int) (w : World) (ht : Tab w) : Calls Tryz.prog 132 #[i64 d] w fun e w' => (∃ t : List UInt8, e = .returned (.tuple #[enS t, i64 (if d < 0 ∨ 73048 < d then 2 else 0)])) ∧ Below w.heap.size w w' := by
  by_cases h : d < 0 ∨ 73048 < d
  · refine (formatDay_no d w h).mono fun e w' ⟨h1, h2⟩ => ⟨⟨[], by rw [if_pos h, h1]⟩, by rw [← h2]; exact Below.refl _ _⟩
  · refine (formatDay_yes d w (by omega) (by omega) ht).mono fun e w' ⟨h1, h2⟩ => ⟨⟨dayText d, by rw [if_neg h]; exact h1⟩, h2⟩
end Go.Proofs.YthgefcoaaommkaaGreatDoor.Dt
