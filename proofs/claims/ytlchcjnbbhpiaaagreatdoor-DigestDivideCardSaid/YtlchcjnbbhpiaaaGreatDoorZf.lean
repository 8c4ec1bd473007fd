/- Contracts of the numeric functions of package date and of its reference: the days of years and months, Valid, Weekday, Day, leap, days.
   Contracts of calendar, ToCivil and FromCivil and of their references. -/
import Derived.Test.YtlchcjnbbhpiaaaGreatDoorZb
import Derived.Test.YtlchcjnbbhpiaaaGreatDoorZa
namespace Go.Proofs.YtlchcjnbbhpiaaaGreatDoor.Dt
open Go.Dt
open Go.RowKit
open Cal
theorem yd_eq (y : Int) : (yd y = 366 ∧ lp y = 1 ∧ ((y % 4 = 0 ∧ ¬ y % 100 = 0) ∨ y % 400 = 0)) ∨ (yd y = 365 ∧ lp y = 0 ∧ ¬ ((y % 4 = 0 ∧ ¬ y % 100 = 0) ∨ y % 400 = 0)) := by
 by_cases h : (y % 4 = 0 ∧ ¬ y % 100 = 0) ∨ y % 400 = 0
 ·exact .inl ⟨by simp only [yd, lp, if_pos h]; rfl, by simp only [lp, if_pos h], h⟩
 ·exact .inr ⟨by simp only [yd, lp, if_neg h]; rfl, by simp only [lp, if_neg h], h⟩
set_option maxHeartbeats 400000 in
theorem yearDays_any (y : Int) (w : World) (h : 0 ≤ y) (h2 : y ≤ 100000) :
  Calls Tryz.prog 169 #[.int .i64 y] w fun e w' => e = .returned (.int .i64 (yd y)) ∧ w = w' := by
 rcases yd_eq y with ⟨a, _, b⟩ | ⟨a, _, b⟩ <;> (have A := Lib.hid a; clear a)
 all_goals
  by_cases h4 : y % 4 = 0 <;> by_cases h100 : y % 100 = 0 <;> by_cases h400 : y % 400 = 0
  all_goals first | (exfalso; omega) | skip
  all_goals
   clear b
   go_enter Tryz.func169, Tryz.ntmps169
   go_wp2
   go_ret
   exact ⟨ret_int A.out.symm, rfl⟩
set_option maxHeartbeats 400000 in
theorem leap_any (y : Int) (w : World) (h : 0 ≤ y) (h2 : y ≤ 100000) :
  Calls Tryz.prog 214 #[.int .i64 y] w fun e w' => e = .returned (.bool (lp y == 1)) ∧ w = w' := by
 rcases yd_eq y with ⟨_, a, b⟩ | ⟨_, a, b⟩ <;> (have A := Lib.hid a; clear a)
 all_goals
  by_cases h4 : y % 4 = 0 <;> by_cases h100 : y % 100 = 0 <;> by_cases h400 : y % 400 = 0
  all_goals first | (exfalso; omega) | skip
  all_goals
   clear b
   go_enter Tryz.func214, Tryz.ntmps214
   go_wp2
   go_ret
   exact ⟨ret_bool (by rw [A.out]; simp [h400]), rfl⟩
set_option maxHeartbeats 400000 in
theorem monthDays_any (y m : Int) (w : World) (h : 0 ≤ y) (h2 : y ≤ 100000) :
  Calls Tryz.prog 125 #[.int .i64 y, .int .i64 m] w fun e w' => e = .returned (.int .i64 (md y m)) ∧ w = w' := by
 have hb := yd_bd y
 by_cases m2 : m = 2
 ·subst m2
  go_enter Tryz.func125, Tryz.ntmps125
  go_wp2_with (go_at_call 169; refine (yearDays_any _ _ (by omega) (by omega)).mono ?_; rintro e w' ⟨rfl, rfl⟩)
  go_ret
  exact ⟨ret_int (by unfold md yd; simp; omega), rfl⟩
 ·by_cases m4 : m = 4 ∨ m = 6 ∨ m = 9 ∨ m = 11
  ·have A : Hid (md y m = 30) := by show md y m = 30; simp only [md, if_neg m2, if_pos m4]
   rcases m4 with rfl | rfl | rfl | rfl
   all_goals
    go_enter Tryz.func125, Tryz.ntmps125
    go_wp2
    go_ret
    exact ⟨ret_int A.out.symm, rfl⟩
  ·have A : Hid (md y m = 31) := by show md y m = 31; simp only [md, if_neg m2, if_neg m4]
   have b2 : ((m : Int) == 2) = false := by simp; omega
   have b4 : ((m : Int) == 4) = false := by simp; omega
   have b6 : ((m : Int) == 6) = false := by simp; omega
   have b9 : ((m : Int) == 9) = false := by simp; omega
   have b11 : ((m : Int) == 11) = false := by simp; omega
   clear m4
   go_enter Tryz.func125, Tryz.ntmps125
   go_wp2
   go_ret
   exact ⟨ret_int A.out.symm, rfl⟩
/-- Is a number a minute? -/
def vld (m : Int) : Bool := decide (0 ≤ m ∧ m ≤ 105190559)
theorem vld_true {m : Int} (h : vld m = true) : 0 ≤ m ∧ m ≤ 105190559 := by simpa [vld] using h
theorem vld_mk {m : Int} (h : 0 ≤ m ∧ m ≤ 105190559) : vld m = true := by simpa [vld] using h
theorem vld_mkn {m : Int} (h : m < 0 ∨ 105190559 < m) : vld m = false := by simp [vld]; omega
set_option maxHeartbeats 400000 in
theorem valid_any (m : Int) (w : World) : Calls Tryz.prog 128 #[.int .i64 m] w fun e w' => e = .returned (.bool (vld m)) ∧ w = w' := by
 by_cases a : 0 ≤ m
 ·by_cases b : m ≤ 105190559
  ·have A := Lib.hid (vld_mk ⟨a, b⟩)
   go_enter Tryz.func128, Tryz.ntmps128
   go_wp2
   go_ret
   exact ⟨ret_bool A.out.symm, rfl⟩
  ·have A := Lib.hid (vld_mkn (m := m) (by omega))
   go_enter Tryz.func128, Tryz.ntmps128
   go_wp2
   go_ret
   exact ⟨ret_bool A.out.symm, rfl⟩
 ·have A := Lib.hid (vld_mkn (m := m) (by omega))
  have a' : m < 0 := by omega
  go_enter Tryz.func128, Tryz.ntmps128
  go_wp2
  go_ret
  exact ⟨ret_bool A.out.symm, rfl⟩
set_option maxHeartbeats 400000 in
theorem refValid_any (m : Int) (w : World) : Calls Tryz.prog 68 #[.int .i64 m] w fun e w' => e = .returned (.bool (vld m)) ∧ w = w' := by
 by_cases a : 0 ≤ m
 ·by_cases b : m ≤ 105190559
  ·have A := Lib.hid (vld_mk ⟨a, b⟩)
   go_enter Tryz.func68, Tryz.ntmps68
   go_wp2
   go_ret
   exact ⟨ret_bool A.out.symm, rfl⟩
  ·have A := Lib.hid (vld_mkn (m := m) (by omega))
   go_enter Tryz.func68, Tryz.ntmps68
   go_wp2
   go_ret
   exact ⟨ret_bool A.out.symm, rfl⟩
 ·have A := Lib.hid (vld_mkn (m := m) (by omega))
  have a' : m < 0 := by omega
  go_enter Tryz.func68, Tryz.ntmps68
  go_wp2
  go_ret
  exact ⟨ret_bool A.out.symm, rfl⟩
set_option maxHeartbeats 400000 in
theorem weekday_yes (m : Int) (w : World) (h0 : 0 ≤ m) (h1 : m ≤ 105190559) : Calls Tryz.prog 127 #[.int .i64 m] w fun e w' => e = .returned (.tuple #[.int .i64 ((m / 1440 + 5) % 7), .int .i64 0]) ∧ w = w' := by
 have A := vld_mk ⟨h0, h1⟩
 go_enter Tryz.func127, Tryz.ntmps127
 go_wp2_with (go_at_call 128; refine (valid_any _ _).mono ?_; rintro e w' ⟨rfl, rfl⟩)
 go_ret2
 exact ⟨rfl, rfl⟩
set_option maxHeartbeats 400000 in
set_option maxHeartbeats 400000 in
set_option maxHeartbeats 400000 in
theorem refWeekday_any (m : Int) (w : World) (h0 : 0 ≤ m) (h1 : m ≤ 105190559) : Calls Tryz.prog 178 #[.int .i64 m] w fun e w' => e = .returned (.int .i64 ((m / 1440 + 5) % 7)) ∧ w = w' := by
 go_enter Tryz.func178, Tryz.ntmps178
 go_wp2
 go_ret
 exact ⟨rfl, rfl⟩
open Go.RowKit
open Cal
set_option maxHeartbeats 1000000 in
theorem calendar_any (d : Int) (w : World) (h0 : 0 ≤ d) (h1 : d ≤ 73048) :
  Calls Tryz.prog 219 #[.int .i64 d] w fun e w' => e = .returned (.agg #[.int .i64 (civY d), .int .i64 (civM d), .int .i64 (civD d), .int .i64 0, .int .i64 0]) ∧ Below w.heap.size w w' := by
 have b1 := dby_2000
 have B1 := Lib.hid b1; clear b1
 go_enter Tryz.func219, Tryz.ntmps219
 go_wp2
 go_loopw [0] (fun x wr => ∃ y : Int, 2000 ≤ y ∧ y ≤ 2199 ∧ dby y ≤ d ∧ x = .int .i64 (d - dby y) ∧ wr = (w.alloc (.cells #[.int .i64 0, .int .i64 0, .int .i64 0, .int .i64 0, .int .i64 0] 170)).alloc (.cells #[.int .i64 y, .int .i64 1, .int .i64 0, .int .i64 0, .int .i64 0] 170)) (fun x _ => (intOf x).toNat)
 case atStart => exact ⟨2000, by omega, by omega, by rw [B1.out]; exact h0, by rw [B1.out]; simp, rfl⟩
 case round =>
  obtain ⟨y, hy1, hy2, hy3, rfl, rfl⟩ := hrel
  have hs := dby_succ y
  have hb := yd_bd y
  have hm := dby_mono hy1
  rw [B1.out] at hm
  by_cases hc : yd y ≤ d - dby y
  ·have hy4 : y < 2199 := by
    rcases Int.lt_or_eq_of_le hy2 with h | h
    ·exact h
    ·have := dby_2200; subst h; have e : (2199 : Int) + 1 = 2200 := rfl; rw [e] at hs; omega
   have HS := Lib.hid hs; clear hs
   go_wp2_with (go_at_call 169; refine (yearDays_any _ _ (by omega) (by omega)).mono ?_; rintro e w' ⟨rfl, rfl⟩)
   go_roundw
   case rel => exact ⟨y + 1, by omega, by omega, by rw [HS.out]; omega, by rw [HS.out]; go_num, rfl⟩
   case measure => simp [intOf]; omega
  ·have hs' : d < dby (y + 1) := by omega
   have ey := civY_eq h0 h1 hy3 hs'
   have EY := Lib.hid ey; clear ey
   have EYD := Lib.hid hs; clear hs hs'
   go_wp2_with (go_at_call 169; refine (yearDays_any _ _ (by omega) (by omega)).mono ?_; rintro e w' ⟨rfl, rfl⟩)
   go_loopw [0] (fun x wr => ∃ m : Int, 1 ≤ m ∧ m ≤ 12 ∧ cum y m ≤ d - dby y ∧ x = .int .i64 (d - dby y - cum y m) ∧ wr = (w.alloc (.cells #[.int .i64 0, .int .i64 0, .int .i64 0, .int .i64 0, .int .i64 0] 170)).alloc (.cells #[.int .i64 y, .int .i64 m, .int .i64 0, .int .i64 0, .int .i64 0] 170)) (fun x _ => (intOf x).toNat)
   case atStart => exact ⟨1, by omega, by omega, by rw [cum_one]; omega, by rw [cum_one]; simp, rfl⟩
   case round =>
    obtain ⟨m, hm1, hm2, hm3, rfl, rfl⟩ := hrel
    have cs := cum_succ y m hm1 hm2
    have mb := md_bd y m
    have cb := cum_bd y m (by omega)
    by_cases hc2 : md y m ≤ d - dby y - cum y m
    ·have hm4 : m < 12 := by
      rcases Int.lt_or_eq_of_le hm2 with h | h
      ·exact h
      ·have := cum_13 y; subst h; have e : (12 : Int) + 1 = 13 := rfl; rw [e] at cs; omega
     have CS := Lib.hid cs; clear cs
     go_wp2_with (go_at_call 125; refine (monthDays_any _ _ _ (by omega) (by omega)).mono ?_; rintro e w' ⟨rfl, rfl⟩)
     go_roundw
     case rel => exact ⟨m + 1, by omega, by omega, by rw [CS.out]; omega, by rw [CS.out]; go_num, rfl⟩
     case measure => simp [intOf]; omega
    ·have em := civM_eq h0 h1 hm1 hm2 (by rw [EY.out]; omega) (by rw [EY.out]; omega)
     have EM := Lib.hid em; clear em
     have CS := Lib.hid cs; clear cs
     go_wp2_with (go_at_call 125; refine (monthDays_any _ _ _ (by omega) (by omega)).mono ?_; rintro e w' ⟨rfl, rfl⟩)
     have ed : civD d = d - dby y - cum y m + 1 := by unfold civD; rw [EM.out, EY.out]
     rw [ed, EM.out, EY.out]
     exact bodyPost_ret (v := .agg #[.int .i64 y, .int .i64 m, .int .i64 (d - dby y - cum y m + 1), .int .i64 0, .int .i64 0]) (by simp [results, Tryz.results219, go_sem]) rfl ⟨rfl, ((Below.refl _ _).alloc (Nat.le_refl _) _).alloc (by simp) _⟩
set_option maxHeartbeats 1000000 in
theorem toCivil_yes (m : Int) (w : World) (h0 : 0 ≤ m) (h1 : m ≤ 105190559) :
  Calls Tryz.prog 194 #[.int .i64 m] w fun e w' => e = .returned (.tuple #[.agg #[.int .i64 (civY (m / 1440)), .int .i64 (civM (m / 1440)), .int .i64 (civD (m / 1440)), .int .i64 (m % 1440 / 60), .int .i64 (m % 60)], .int .i64 0]) ∧ Below w.heap.size w w' := by
 have A := vld_mk ⟨h0, h1⟩
 go_enter Tryz.func194, Tryz.ntmps194
 go_wp2_with (first | (go_at_call 128; refine (valid_any _ _).mono ?_; rintro e w' ⟨rfl, rfl⟩) | (go_at_call 219; refine (calendar_any _ _ (by omega) (by omega)).mono ?_; rintro e w1 ⟨rfl, hb⟩; obtain ⟨hc, hf⟩ := bcell hb; have hz : w.heap.size < w1.heap.size := by have := hb.size; simp at this; omega))
 refine bodyPost_ret (v := .tuple #[.agg #[.int .i64 (civY (m / 1440)), .int .i64 (civM (m / 1440)), .int .i64 (civD (m / 1440)), .int .i64 (m % 1440 / 60), .int .i64 (m % 60)], .int .i64 0]) (by simp [results, Tryz.results194, go_sem, hc, hz]) rfl ⟨rfl, ?_⟩
 have hB : Below w.heap.size w w1 := ((Below.refl _ _).alloc (Nat.le_refl _) _).trans (hb.mono (by simp))
 have hs := hB.size
 refine Below.alloc ?_ (by simpa [World.setCell] using hs) _
 repeat refine Below.setCell ?_ (by simp) _
 exact hB
set_option maxHeartbeats 1000000 in
theorem fromCivil_yes (y m d h n : Int) (w : World) (y1 : 2000 ≤ y) (y2 : y ≤ 2199) (m1 : 1 ≤ m) (m2 : m ≤ 12) (d1 : 1 ≤ d) (d2 : d ≤ md y m) (h1 : 0 ≤ h) (h2 : h ≤ 23) (n1 : 0 ≤ n) (n2 : n ≤ 59) :
  Calls Tryz.prog 126 #[.agg #[.int .i64 y, .int .i64 m, .int .i64 d, .int .i64 h, .int .i64 n]] w fun e w' => e = .returned (.tuple #[.int .i64 (dayNum y m d * 1440 + h * 60 + n), .int .i64 0]) ∧ Below w.heap.size w w' := by
 have mb := md_bd y m
 have B1 := Lib.hid dby_2000
 go_enter Tryz.func126, Tryz.ntmps126
 go_wp2
 go_quiet ((go_at_call 125; exact Calls.quiet_of_same (by refine (monthDays_any _ _ _ (by omega) (by omega)).mono ?_; rintro e w' ⟨rfl, rfl⟩; exact ⟨rfl, rfl⟩)))
 go_wp2
 go_loop [4, 5] (fun s t => ∃ z : Int, 2000 ≤ z ∧ z ≤ y ∧ t = .int .i64 z ∧ s = .int .i64 (d - 1 + dby z)) (fun _ t => (y - intOf t).toNat)
 case atStart => exact ⟨2000, by omega, by omega, rfl, by rw [B1.out]; simp⟩
 case round =>
  obtain ⟨z, hz1, hz2, rfl, rfl⟩ := hrel
  have hs := dby_succ z
  have hb := yd_bd z
  have hm := dby_mono hz1
  rw [B1.out] at hm
  have hm2 := dby_mono (show z ≤ 2200 by omega)
  rw [dby_2200] at hm2
  by_cases hc : z < y
  ·have HS := Lib.hid hs; clear hs
   go_wp2_with (go_at_call 169; refine (yearDays_any _ _ (by omega) (by omega)).mono ?_; rintro e w' ⟨rfl, rfl⟩)
   go_round
   case rel => exact ⟨z + 1, by omega, by omega, rfl, by rw [HS.out]; go_num⟩
   case measure => simp [intOf]; omega
  ·obtain rfl : z = y := by omega
   clear hs hc
   go_wp2
   go_loop [4, 6] (fun s t => ∃ k : Int, 1 ≤ k ∧ k ≤ m ∧ t = .int .i64 k ∧ s = .int .i64 (d - 1 + dby z + cum z k)) (fun _ t => (m - intOf t).toNat)
   case atStart => exact ⟨1, by omega, by omega, rfl, by rw [cum_one]; simp⟩
   case round =>
    obtain ⟨k, hk1, hk2, rfl, rfl⟩ := hrel
    have cs := cum_succ z k hk1 (by omega)
    have kb := md_bd z k
    have cb := cum_bd z k (by omega)
    by_cases hc2 : k < m
    ·have CS := Lib.hid cs; clear cs
     go_wp2_with (go_at_call 125; refine (monthDays_any _ _ _ (by omega) (by omega)).mono ?_; rintro e w' ⟨rfl, rfl⟩)
     go_round
     case rel => exact ⟨k + 1, by omega, by omega, rfl, by rw [CS.out]; go_num⟩
     case measure => simp [intOf]; omega
    ·obtain rfl : k = m := by omega
     clear cs hc2
     go_wp2
     go_ret2
     refine ⟨?_, Below.drewN _ ((Below.refl _ _).alloc (Nat.le_refl _) _)⟩
     have e : d - 1 + dby z + cum z k = dayNum z k d := by unfold dayNum; omega
     rw [e]; rfl
end Go.Proofs.YtlchcjnbbhpiaaaGreatDoor.Dt
