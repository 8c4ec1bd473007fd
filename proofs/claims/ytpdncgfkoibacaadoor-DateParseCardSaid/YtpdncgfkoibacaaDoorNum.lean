/- Contracts of the numeric functions of package date and of its reference: the days of years and months, Valid, Weekday, Day, leap, days. -/
import Derived.Test.YtpdncgfkoibacaaDoorBase
import Derived.Test.YtpdncgfkoibacaaDoorCal
namespace Go.Proofs.YtpdncgfkoibacaaDoor
open Go.RowKit
open Cal

theorem yd_eq (y : Int) : (yd y = 366 ∧ lp y = 1 ∧ ((y % 4 = 0 ∧ ¬ y % 100 = 0) ∨ y % 400 = 0)) ∨ (yd y = 365 ∧ lp y = 0 ∧ ¬ ((y % 4 = 0 ∧ ¬ y % 100 = 0) ∨ y % 400 = 0)) := by
  by_cases h : (y % 4 = 0 ∧ ¬ y % 100 = 0) ∨ y % 400 = 0
  · exact .inl ⟨by simp only [yd, lp, if_pos h]; rfl, by simp only [lp, if_pos h], h⟩
  · exact .inr ⟨by simp only [yd, lp, if_neg h]; rfl, by simp only [lp, if_neg h], h⟩

set_option maxHeartbeats 400000 in
theorem yearDays_any (y : Int) (w : World) (h : 0 ≤ y) (h2 : y ≤ 100000) :
    Calls Tryd.prog 39 #[.int .i64 y] w fun e w' => e = .returned (.int .i64 (yd y)) ∧ w = w' := by
  rcases yd_eq y with ⟨a, _, b⟩ | ⟨a, _, b⟩ <;> (have A := Lib.hid a; clear a)
  all_goals
    by_cases h4 : y % 4 = 0 <;> by_cases h100 : y % 100 = 0 <;> by_cases h400 : y % 400 = 0
    all_goals first | (exfalso; omega) | skip
    all_goals
      clear b
      go_enter Tryd.func39, Tryd.ntmps39
      go_wp2
      go_ret
      exact ⟨ret_int A.out.symm, rfl⟩

set_option maxHeartbeats 400000 in
theorem leap_any (y : Int) (w : World) (h : 0 ≤ y) (h2 : y ≤ 100000) :
    Calls Tryd.prog 36 #[.int .i64 y] w fun e w' => e = .returned (.bool (lp y == 1)) ∧ w = w' := by
  rcases yd_eq y with ⟨_, a, b⟩ | ⟨_, a, b⟩ <;> (have A := Lib.hid a; clear a)
  all_goals
    by_cases h4 : y % 4 = 0 <;> by_cases h100 : y % 100 = 0 <;> by_cases h400 : y % 400 = 0
    all_goals first | (exfalso; omega) | skip
    all_goals
      clear b
      go_enter Tryd.func36, Tryd.ntmps36
      go_wp2
      go_ret
      exact ⟨ret_bool (by rw [A.out]; simp [h400]), rfl⟩

set_option maxHeartbeats 400000 in
theorem monthDays_any (y m : Int) (w : World) (h : 0 ≤ y) (h2 : y ≤ 100000) :
    Calls Tryd.prog 38 #[.int .i64 y, .int .i64 m] w fun e w' => e = .returned (.int .i64 (md y m)) ∧ w = w' := by
  have hb := yd_bd y
  by_cases m2 : m = 2
  · subst m2
    go_enter Tryd.func38, Tryd.ntmps38
    go_wp2_with (go_at_call 39; refine (yearDays_any _ _ (by omega) (by omega)).mono ?_; rintro e w' ⟨rfl, rfl⟩)
    go_ret
    exact ⟨ret_int (by unfold md yd; simp; omega), rfl⟩
  · by_cases m4 : m = 4 ∨ m = 6 ∨ m = 9 ∨ m = 11
    · have A : Hid (md y m = 30) := by show md y m = 30; simp only [md, if_neg m2, if_pos m4]
      rcases m4 with rfl | rfl | rfl | rfl
      all_goals
        go_enter Tryd.func38, Tryd.ntmps38
        go_wp2
        go_ret
        exact ⟨ret_int A.out.symm, rfl⟩
    · have A : Hid (md y m = 31) := by show md y m = 31; simp only [md, if_neg m2, if_neg m4]
      have b2 : ((m : Int) == 2) = false := by simp; omega
      have b4 : ((m : Int) == 4) = false := by simp; omega
      have b6 : ((m : Int) == 6) = false := by simp; omega
      have b9 : ((m : Int) == 9) = false := by simp; omega
      have b11 : ((m : Int) == 11) = false := by simp; omega
      clear m4
      go_enter Tryd.func38, Tryd.ntmps38
      go_wp2
      go_ret
      exact ⟨ret_int A.out.symm, rfl⟩

/-- Is a number a minute? -/
def vld (m : Int) : Bool := decide (0 ≤ m ∧ m ≤ 105190559)
theorem vld_true {m : Int} (h : vld m = true) : 0 ≤ m ∧ m ≤ 105190559 := by simpa [vld] using h
theorem vld_false {m : Int} (h : vld m = false) : m < 0 ∨ 105190559 < m := by simp [vld] at h; omega
theorem vld_mk {m : Int} (h : 0 ≤ m ∧ m ≤ 105190559) : vld m = true := by simpa [vld] using h
theorem vld_mkn {m : Int} (h : m < 0 ∨ 105190559 < m) : vld m = false := by simp [vld]; omega

set_option maxHeartbeats 400000 in
theorem valid_any (m : Int) (w : World) : Calls Tryd.prog 15 #[.int .i64 m] w fun e w' => e = .returned (.bool (vld m)) ∧ w = w' := by
  by_cases a : 0 ≤ m
  · by_cases b : m ≤ 105190559
    · have A := Lib.hid (vld_mk ⟨a, b⟩)
      go_enter Tryd.func15, Tryd.ntmps15
      go_wp2
      go_ret
      exact ⟨ret_bool A.out.symm, rfl⟩
    · have A := Lib.hid (vld_mkn (m := m) (by omega))
      go_enter Tryd.func15, Tryd.ntmps15
      go_wp2
      go_ret
      exact ⟨ret_bool A.out.symm, rfl⟩
  · have A := Lib.hid (vld_mkn (m := m) (by omega))
    have a' : m < 0 := by omega
    go_enter Tryd.func15, Tryd.ntmps15
    go_wp2
    go_ret
    exact ⟨ret_bool A.out.symm, rfl⟩

set_option maxHeartbeats 400000 in
theorem refValid_any (m : Int) (w : World) : Calls Tryd.prog 25 #[.int .i64 m] w fun e w' => e = .returned (.bool (vld m)) ∧ w = w' := by
  by_cases a : 0 ≤ m
  · by_cases b : m ≤ 105190559
    · have A := Lib.hid (vld_mk ⟨a, b⟩)
      go_enter Tryd.func25, Tryd.ntmps25
      go_wp2
      go_ret
      exact ⟨ret_bool A.out.symm, rfl⟩
    · have A := Lib.hid (vld_mkn (m := m) (by omega))
      go_enter Tryd.func25, Tryd.ntmps25
      go_wp2
      go_ret
      exact ⟨ret_bool A.out.symm, rfl⟩
  · have A := Lib.hid (vld_mkn (m := m) (by omega))
    have a' : m < 0 := by omega
    go_enter Tryd.func25, Tryd.ntmps25
    go_wp2
    go_ret
    exact ⟨ret_bool A.out.symm, rfl⟩

set_option maxHeartbeats 400000 in
theorem weekday_yes (m : Int) (w : World) (h0 : 0 ≤ m) (h1 : m ≤ 105190559) : Calls Tryd.prog 32 #[.int .i64 m] w fun e w' => e = .returned (.tuple #[.int .i64 ((m / 1440 + 5) % 7), .int .i64 0]) ∧ w = w' := by
  have A := vld_mk ⟨h0, h1⟩
  go_enter Tryd.func32, Tryd.ntmps32
  go_wp2_with (go_at_call 15; refine (valid_any _ _).mono ?_; rintro e w' ⟨rfl, rfl⟩)
  go_ret2
  exact ⟨rfl, rfl⟩
set_option maxHeartbeats 400000 in
theorem weekday_no (m : Int) (w : World) (h : vld m = false) : Calls Tryd.prog 32 #[.int .i64 m] w fun e w' => e = .returned (.tuple #[.int .i64 0, .int .i64 2]) ∧ w = w' := by
  go_enter Tryd.func32, Tryd.ntmps32
  go_wp2_with (go_at_call 15; refine (valid_any _ _).mono ?_; rintro e w' ⟨rfl, rfl⟩)
  go_ret2
  exact ⟨rfl, rfl⟩
set_option maxHeartbeats 400000 in
theorem day_yes (m : Int) (w : World) (h0 : 0 ≤ m) (h1 : m ≤ 105190559) : Calls Tryd.prog 33 #[.int .i64 m] w fun e w' => e = .returned (.tuple #[.int .i64 (m / 1440), .int .i64 0]) ∧ w = w' := by
  have A := vld_mk ⟨h0, h1⟩
  go_enter Tryd.func33, Tryd.ntmps33
  go_wp2_with (go_at_call 15; refine (valid_any _ _).mono ?_; rintro e w' ⟨rfl, rfl⟩)
  go_ret2
  exact ⟨rfl, rfl⟩
set_option maxHeartbeats 400000 in
theorem day_no (m : Int) (w : World) (h : vld m = false) : Calls Tryd.prog 33 #[.int .i64 m] w fun e w' => e = .returned (.tuple #[.int .i64 0, .int .i64 2]) ∧ w = w' := by
  go_enter Tryd.func33, Tryd.ntmps33
  go_wp2_with (go_at_call 15; refine (valid_any _ _).mono ?_; rintro e w' ⟨rfl, rfl⟩)
  go_ret2
  exact ⟨rfl, rfl⟩
set_option maxHeartbeats 400000 in
theorem refWeekday_any (m : Int) (w : World) (h0 : 0 ≤ m) (h1 : m ≤ 105190559) : Calls Tryd.prog 34 #[.int .i64 m] w fun e w' => e = .returned (.int .i64 ((m / 1440 + 5) % 7)) ∧ w = w' := by
  go_enter Tryd.func34, Tryd.ntmps34
  go_wp2
  go_ret
  exact ⟨rfl, rfl⟩
end Go.Proofs.YtpdncgfkoibacaaDoor
