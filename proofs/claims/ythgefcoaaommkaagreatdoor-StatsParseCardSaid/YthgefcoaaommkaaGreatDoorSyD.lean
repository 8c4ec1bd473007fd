/- The calendar and its texts, out of chapter 04's. Of no program. -/
import Derived.Lib.ItoaNum
namespace Go.Dt.Cal

def lp (y : Int) : Int := if (y % 4 = 0 ∧ ¬ y % 100 = 0) ∨ y % 400 = 0 then 1 else 0
def yd (y : Int) : Int := 365 + lp y
def md (y m : Int) : Int := if m = 2 then 28 + lp y else if m = 4 ∨ m = 6 ∨ m = 9 ∨ m = 11 then 30 else 31
def dby (y : Int) : Int := 365 * (y - 2000) + (y - 1997) / 4 - (y - 1901) / 100 + (y - 1601) / 400
def cum (y m : Int) : Int :=
  if m ≤ 1 then 0 else if m = 2 then 31 else
  (if m = 3 then 59 else if m = 4 then 90 else if m = 5 then 120 else if m = 6 then 151 else if m = 7 then 181 else if m = 8 then 212
   else if m = 9 then 243 else if m = 10 then 273 else if m = 11 then 304 else if m = 12 then 334 else 365) + lp y

theorem lp_01 (y : Int) : 0 ≤ lp y ∧ lp y ≤ 1 := by unfold lp; split <;> omega
theorem yd_bd (y : Int) : 365 ≤ yd y ∧ yd y ≤ 366 := by have := lp_01 y; unfold yd; omega
theorem md_bd (y m : Int) : 28 ≤ md y m ∧ md y m ≤ 31 := by have := lp_01 y; unfold md; split <;> (try split) <;> omega
theorem dby_succ (y : Int) : dby (y + 1) = dby y + yd y := by
  unfold dby yd lp; split <;> omega
theorem dby_mono {a b : Int} (h : a ≤ b) : dby a ≤ dby b := by unfold dby; omega
theorem dby_lt {a b : Int} (h : a < b) : dby a + 365 ≤ dby b := by
  have h1 := dby_succ a; have h2 := yd_bd a; have h3 := dby_mono (show a + 1 ≤ b by omega); omega
theorem dby_2000 : dby 2000 = 0 := by decide
theorem dby_2200 : dby 2200 = 73049 := by decide
theorem cum_one (y : Int) : cum y 1 = 0 := by simp [cum]
theorem cum_succ (y m : Int) (h1 : 1 ≤ m) (h2 : m ≤ 12) : cum y (m + 1) = cum y m + md y m := by
  have hm : m = 1 ∨ m = 2 ∨ m = 3 ∨ m = 4 ∨ m = 5 ∨ m = 6 ∨ m = 7 ∨ m = 8 ∨ m = 9 ∨ m = 10 ∨ m = 11 ∨ m = 12 := by omega
  rcases hm with rfl | rfl | rfl | rfl | rfl | rfl | rfl | rfl | rfl | rfl | rfl | rfl <;> simp [cum, md] <;> omega
theorem cum_13 (y : Int) : cum y 13 = yd y := by simp [cum, yd]
theorem cum_bd (y m : Int) (h2 : m ≤ 13) : 0 ≤ cum y m ∧ cum y m ≤ yd y := by
  have := lp_01 y
  by_cases h1 : m ≤ 1
  · simp [cum, h1]; have := yd_bd y; omega
  · have hm : m = 2 ∨ m = 3 ∨ m = 4 ∨ m = 5 ∨ m = 6 ∨ m = 7 ∨ m = 8 ∨ m = 9 ∨ m = 10 ∨ m = 11 ∨ m = 12 ∨ m = 13 := by omega
    rcases hm with rfl | rfl | rfl | rfl | rfl | rfl | rfl | rfl | rfl | rfl | rfl | rfl <;> simp [cum, yd] <;> omega
theorem cum_lt (y : Int) {a b : Int} (h1 : 1 ≤ a) (h : a < b) (hb : b ≤ 13) : cum y a + md y a ≤ cum y b := by
  have key : ∀ (k : Nat) (c : Int), c = a + 1 + k → c ≤ 13 → cum y a + md y a ≤ cum y c := by
    intro k
    induction k with
    | zero => intro c hc hl; have := cum_succ y a h1 (by omega); obtain rfl : c = a + 1 := by omega
              omega
    | succ k ih =>
      intro c hc hl
      have e := ih (c - 1) (by omega) (by omega)
      have s := cum_succ y (c - 1) (by omega) (by omega)
      have m := md_bd y (c - 1)
      have : c - 1 + 1 = c := by omega
      rw [this] at s; omega
  exact key (b - a - 1).toNat b (by omega) hb

/-- The year of a day: at most n years from y on are looked at. -/
def yr : Nat → Int → Int → Int
  | 0, _, y => y
  | n + 1, d, y => if d < dby (y + 1) then y else yr n d (y + 1)
def mo : Nat → Int → Int → Int → Int
  | 0, _, _, m => m
  | n + 1, y, r, m => if r < cum y (m + 1) then m else mo n y r (m + 1)
def civY (d : Int) : Int := yr 199 d 2000
def civM (d : Int) : Int := mo 11 (civY d) (d - dby (civY d)) 1
def civD (d : Int) : Int := d - dby (civY d) - cum (civY d) (civM d) + 1

theorem yr_spec : ∀ (n : Nat) (d y : Int), dby y ≤ d → d < dby (y + n + 1) →
    y ≤ yr n d y ∧ yr n d y ≤ y + n ∧ dby (yr n d y) ≤ d ∧ d < dby (yr n d y + 1) := by
  intro n
  induction n with
  | zero => intro d y h1 h2; simp [yr]; exact ⟨h1, by simpa using h2⟩
  | succ n ih =>
    intro d y h1 h2
    unfold yr
    split
    · rename_i h; exact ⟨by omega, by omega, h1, h⟩
    · rename_i h
      have := ih d (y + 1) (by omega) (by rw [show y + 1 + (n : Int) + 1 = y + ((n + 1 : Nat) : Int) + 1 by omega]; exact h2)
      refine ⟨by omega, by omega, this.2.2.1, this.2.2.2⟩
theorem mo_spec : ∀ (n : Nat) (y r m : Int), cum y m ≤ r → r < cum y (m + n + 1) →
    m ≤ mo n y r m ∧ mo n y r m ≤ m + n ∧ cum y (mo n y r m) ≤ r ∧ r < cum y (mo n y r m + 1) := by
  intro n
  induction n with
  | zero => intro y r m h1 h2; simp [mo]; exact ⟨h1, by simpa using h2⟩
  | succ n ih =>
    intro y r m h1 h2
    unfold mo
    split
    · rename_i h; exact ⟨by omega, by omega, h1, h⟩
    · rename_i h
      have := ih y r (m + 1) (by omega) (by rw [show m + 1 + (n : Int) + 1 = m + ((n + 1 : Nat) : Int) + 1 by omega]; exact h2)
      refine ⟨by omega, by omega, this.2.2.1, this.2.2.2⟩

theorem civY_spec (d : Int) (h0 : 0 ≤ d) (h1 : d ≤ 73048) : 2000 ≤ civY d ∧ civY d ≤ 2199 ∧ dby (civY d) ≤ d ∧ d < dby (civY d + 1) := by
  have := yr_spec 199 d 2000 (by rw [dby_2000]; exact h0) (by rw [show (2000 : Int) + (199 : Nat) + 1 = 2200 by omega, dby_2200]; omega)
  exact ⟨this.1, by have := this.2.1; simp at this; exact this, this.2.2.1, this.2.2.2⟩
theorem civM_spec (d : Int) (h0 : 0 ≤ d) (h1 : d ≤ 73048) : 1 ≤ civM d ∧ civM d ≤ 12 ∧ cum (civY d) (civM d) ≤ d - dby (civY d) ∧ d - dby (civY d) < cum (civY d) (civM d + 1) := by
  have hy := civY_spec d h0 h1
  have hs := dby_succ (civY d)
  have := mo_spec 11 (civY d) (d - dby (civY d)) 1 (by rw [cum_one]; omega) (by rw [show (1 : Int) + (11 : Nat) + 1 = 13 by omega, cum_13]; omega)
  exact ⟨this.1, by have := this.2.1; simp at this; exact this, this.2.2.1, this.2.2.2⟩
theorem civD_spec (d : Int) (h0 : 0 ≤ d) (h1 : d ≤ 73048) : 1 ≤ civD d ∧ civD d ≤ md (civY d) (civM d) ∧ dby (civY d) + cum (civY d) (civM d) + civD d - 1 = d := by
  have hm := civM_spec d h0 h1
  have hs := cum_succ (civY d) (civM d) hm.1 hm.2.1
  unfold civD; omega
/-- A year between whose bounds a day lies is the day's. -/
theorem civY_eq {d y : Int} (h0 : 0 ≤ d) (h1 : d ≤ 73048) (a : dby y ≤ d) (b : d < dby (y + 1)) : civY d = y := by
  have hy := civY_spec d h0 h1
  rcases Int.lt_trichotomy (civY d) y with h | h | h
  · have := dby_mono (show civY d + 1 ≤ y by omega); omega
  · exact h
  · have := dby_mono (show y + 1 ≤ civY d by omega); omega
theorem civM_eq {d m : Int} (h0 : 0 ≤ d) (h1 : d ≤ 73048) (m1 : 1 ≤ m) (m2 : m ≤ 12) (a : cum (civY d) m ≤ d - dby (civY d)) (b : d - dby (civY d) < cum (civY d) (m + 1)) : civM d = m := by
  have hm := civM_spec d h0 h1
  have hs := cum_succ (civY d) (civM d) hm.1 hm.2.1
  have hs' := cum_succ (civY d) m m1 m2
  rcases Int.lt_trichotomy (civM d) m with h | h | h
  · have := cum_lt (civY d) hm.1 h (by omega); omega
  · exact h
  · have := cum_lt (civY d) m1 h (by omega); omega
/-- The number of a date's day. -/
def dayNum (y m d : Int) : Int := dby y + cum y m + d - 1
theorem dayNum_bd {y m d : Int} (y1 : 2000 ≤ y) (y2 : y ≤ 2199) (m1 : 1 ≤ m) (m2 : m ≤ 12) (d1 : 1 ≤ d) (d2 : d ≤ md y m) : 0 ≤ dayNum y m d ∧ dayNum y m d ≤ 73048 ∧ dby y ≤ dayNum y m d ∧ dayNum y m d < dby (y + 1) := by
  have a := dby_mono y1; have b := dby_mono (show y + 1 ≤ 2200 by omega); have c := cum_succ y m m1 m2
  have e := cum_bd y m (by omega); have f := cum_bd y (m + 1) (by omega); have g := dby_succ y
  rw [dby_2000] at a; rw [dby_2200] at b
  unfold dayNum; omega
theorem civ_dayNum {y m d : Int} (y1 : 2000 ≤ y) (y2 : y ≤ 2199) (m1 : 1 ≤ m) (m2 : m ≤ 12) (d1 : 1 ≤ d) (d2 : d ≤ md y m) :
    civY (dayNum y m d) = y ∧ civM (dayNum y m d) = m ∧ civD (dayNum y m d) = d := by
  have hb := dayNum_bd y1 y2 m1 m2 d1 d2
  have hy := civY_eq hb.1 hb.2.1 hb.2.2.1 hb.2.2.2
  have hm : civM (dayNum y m d) = m := civM_eq hb.1 hb.2.1 m1 m2 (by rw [hy]; unfold dayNum; omega) (by rw [hy, cum_succ y m m1 m2]; unfold dayNum; omega)
  refine ⟨hy, hm, ?_⟩
  unfold civD; rw [hy, hm]; unfold dayNum; omega
theorem dayNum_civ (n : Int) (h0 : 0 ≤ n) (h1 : n ≤ 73048) : dayNum (civY n) (civM n) (civD n) = n := (civD_spec n h0 h1).2.2
end Go.Dt.Cal
namespace Go.Dt
open Go.Dt.Cal

/-- The byte of the last decimal digit of a number. -/
def dg (n : Int) : UInt8 := UInt8.ofNat (48 + (n % 10).toNat)
def dv : Nat → Int → Int
  | 0, n => n
  | k + 1, n => dv k n / 10
/-- The last k decimal digits of a number. -/
def digs : Nat → Int → List UInt8
  | 0, _ => []
  | k + 1, n => dg (dv k n) :: digs k n

theorem dv_nonneg (k : Nat) (n : Int) (h : 0 ≤ n) : 0 ≤ dv k n := by
  induction k with
  | zero => exact h
  | succ k ih => unfold dv; omega
theorem dv_le (k : Nat) (n : Int) (h : 0 ≤ n) : dv k n ≤ n := by
  induction k with
  | zero => exact Int.le_refl _
  | succ k ih => unfold dv; have := dv_nonneg k n h; omega
theorem digs_length (k : Nat) (n : Int) : (digs k n).length = k := by
  induction k with
  | zero => rfl
  | succ k ih => simp [digs, ih]
theorem digs2 (n : Int) : digs 2 n = [dg (n / 10), dg n] := rfl
theorem digs4 (n : Int) : digs 4 n = [dg (n / 10 / 10 / 10), dg (n / 10 / 10), dg (n / 10), dg n] := rfl
theorem dg_ofNat (n : Nat) : dg n = UInt8.ofNat (48 + n % 10) := by
  unfold dg; congr 2
theorem digs2_one {i : Nat} (h : i < 10) : digs 2 i = 48 :: Lib.decDigits i := by
  rw [Lib.decDigits_one h, digs2, dg_ofNat]
  have e : ((i : Int) / 10) = ((i / 10 : Nat) : Int) := by omega
  rw [e, dg_ofNat, show i / 10 % 10 = 0 by omega, show i % 10 = i by omega]; rfl
theorem digs2_two {i : Nat} (h1 : ¬ i < 10) (h2 : i < 100) : digs 2 i = Lib.decDigits i := by
  rw [Lib.decDigits_two h1 h2, digs2, dg_ofNat]
  have e : ((i : Int) / 10) = ((i / 10 : Nat) : Int) := by omega
  rw [e, dg_ofNat, show i / 10 % 10 = i / 10 by omega]
theorem digs4_four {i : Nat} (h1 : 1000 ≤ i) (h2 : i < 10000) : digs 4 i = Lib.decDigits i := by
  rw [Lib.decDigits, dif_neg (by omega), Lib.decDigits, dif_neg (by omega), Lib.decDigits_two (by omega) (by omega), digs4]
  have e1 : ((i : Int) / 10) = ((i / 10 : Nat) : Int) := by omega
  have e2 : (((i / 10 : Nat) : Int) / 10) = ((i / 10 / 10 : Nat) : Int) := by omega
  have e3 : (((i / 10 / 10 : Nat) : Int) / 10) = ((i / 10 / 10 / 10 : Nat) : Int) := by omega
  rw [e1, e2, e3, dg_ofNat, dg_ofNat, dg_ofNat, dg_ofNat, show i / 10 / 10 / 10 % 10 = i / 10 / 10 / 10 by omega]
  rfl
theorem digs4_split (a b : Int) (h2 : 0 ≤ b) (h3 : b < 100) : digs 4 (a * 100 + b) = digs 2 a ++ digs 2 b := by
  rw [digs4, digs2, digs2]
  have e1 : (a * 100 + b) / 10 = a * 10 + b / 10 := by omega
  have e2 : (a * 10 + b / 10) / 10 = a := by omega
  rw [e1, e2]
  have f1 : dg (a * 100 + b) = dg b := by unfold dg; congr 3; omega
  have f2 : dg (a * 10 + b / 10) = dg (b / 10) := by unfold dg; congr 3; omega
  rw [f1, f2]; rfl
end Go.Dt
