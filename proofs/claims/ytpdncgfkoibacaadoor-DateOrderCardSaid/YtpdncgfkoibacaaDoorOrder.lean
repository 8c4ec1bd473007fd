/- The later minute has the later date and time, in plain integers. No program in sight. -/
import Derived.Test.YtpdncgfkoibacaaDoorCal
namespace Go.Proofs.YtpdncgfkoibacaaDoor.Cal

/-- The parts of a minute: year, month, day, hour, minute. -/
def part (a : Int) : Nat → Int
  | 0 => civY (a / 1440)
  | 1 => civM (a / 1440)
  | 2 => civD (a / 1440)
  | 3 => a % 1440 / 60
  | _ => a % 60

theorem cum_mono (y : Int) {a b : Int} (h1 : 1 ≤ a) (h : a ≤ b) (hb : b ≤ 13) : cum y a ≤ cum y b := by
  by_cases e : a = b
  · rw [e]; exact Int.le_refl _
  · have := cum_lt y h1 (show a < b by omega) hb; have := md_bd y a; omega

theorem part_lt {a b : Int} (a0 : 0 ≤ a) (a1 : a ≤ 105190559) (b0 : 0 ≤ b) (b1 : b ≤ 105190559) {k : Nat} (hk : k < 5) (he : ∀ j, j < k → part a j = part b j) (h : part a k < part b k) : a < b := by
  have ya := civY_spec (a / 1440) (by omega) (by omega)
  have yb := civY_spec (b / 1440) (by omega) (by omega)
  have ma := civM_spec (a / 1440) (by omega) (by omega)
  have mb := civM_spec (b / 1440) (by omega) (by omega)
  have da := civD_spec (a / 1440) (by omega) (by omega)
  have db := civD_spec (b / 1440) (by omega) (by omega)
  have hk' : k = 0 ∨ k = 1 ∨ k = 2 ∨ k = 3 ∨ k = 4 := by omega
  rcases hk' with rfl | rfl | rfl | rfl | rfl
  · simp only [part] at h
    have := dby_mono (show civY (a / 1440) + 1 ≤ civY (b / 1440) by omega)
    omega
  · have e0 := he 0 (by omega)
    simp only [part] at h e0
    rw [e0] at ma ya
    have := cum_mono (civY (b / 1440)) (show 1 ≤ civM (a / 1440) + 1 by omega) (show civM (a / 1440) + 1 ≤ civM (b / 1440) by omega) (by omega)
    omega
  · have e0 := he 0 (by omega)
    have e1 := he 1 (by omega)
    simp only [part] at h e0 e1
    rw [e0, e1] at da
    omega
  · have e0 := he 0 (by omega)
    have e1 := he 1 (by omega)
    have e2 := he 2 (by omega)
    simp only [part] at h e0 e1 e2
    rw [e0, e1, e2] at da
    have : a / 1440 = b / 1440 := by omega
    omega
  · have e0 := he 0 (by omega)
    have e1 := he 1 (by omega)
    have e2 := he 2 (by omega)
    have e3 := he 3 (by omega)
    simp only [part] at h e0 e1 e2 e3
    rw [e0, e1, e2] at da
    have : a / 1440 = b / 1440 := by omega
    omega
theorem part_eq {a b : Int} (a0 : 0 ≤ a) (a1 : a ≤ 105190559) (b0 : 0 ≤ b) (b1 : b ≤ 105190559) (he : ∀ j, j < 5 → part a j = part b j) : a = b := by
  have da := civD_spec (a / 1440) (by omega) (by omega)
  have db := civD_spec (b / 1440) (by omega) (by omega)
  have e0 := he 0 (by omega)
  have e1 := he 1 (by omega)
  have e2 := he 2 (by omega)
  have e3 := he 3 (by omega)
  have e4 := he 4 (by omega)
  simp only [part] at e0 e1 e2 e3 e4
  rw [e0, e1, e2] at da
  have : a / 1440 = b / 1440 := by omega
  omega
theorem part_cmp {a b : Int} (a0 : 0 ≤ a) (a1 : a ≤ 105190559) (b0 : 0 ≤ b) (b1 : b ≤ 105190559) {k : Nat} (hk : k < 5) (he : ∀ j, j < k → part a j = part b j) (h : part a k ≠ part b k) :
    (decide (a < b) == decide (part a k < part b k)) = true := by
  rcases Int.lt_or_gt_of_ne h with h | h
  · have := part_lt a0 a1 b0 b1 hk he h
    simp [h, this]
  · have := part_lt b0 b1 a0 a1 hk (fun j hj => (he j hj).symm) h
    have h1 : ¬ a < b := by omega
    have h2 : ¬ part a k < part b k := by omega
    simp [h1, h2]
end Go.Proofs.YtpdncgfkoibacaaDoor.Cal
