/- The texts of dates in plain lists of bytes: decimal digits, the names of days and months, the text of a minute in a zone. No program in sight. -/
import Derived.Lib.ItoaNum
import Derived.Test.YtpdncgfkoibacaaDoorCal
namespace Go.Proofs.YtpdncgfkoibacaaDoor
open Cal

/-- The byte of the last decimal digit of a number. -/
def dg (n : Int) : UInt8 := UInt8.ofNat (48 + (n % 10).toNat)
def dv : Nat → Int → Int
  | 0, n => n
  | k + 1, n => dv k n / 10
/-- The last k decimal digits of a number. -/
def digs : Nat → Int → List UInt8
  | 0, _ => []
  | k + 1, n => dg (dv k n) :: digs k n

theorem dv_nonneg (k : Nat) (n : Int) (h : 0 ≤ n) : 0 ≤ dv k n := by
  induction k with
  | zero => exact h
  | succ k ih => unfold dv; omega
theorem dv_le (k : Nat) (n : Int) (h : 0 ≤ n) : dv k n ≤ n := by
  induction k with
  | zero => exact Int.le_refl _
  | succ k ih => unfold dv; have := dv_nonneg k n h; omega
theorem digs_length (k : Nat) (n : Int) : (digs k n).length = k := by
  induction k with
  | zero => rfl
  | succ k ih => simp [digs, ih]
theorem digs2 (n : Int) : digs 2 n = [dg (n / 10), dg n] := rfl
theorem digs4 (n : Int) : digs 4 n = [dg (n / 10 / 10 / 10), dg (n / 10 / 10), dg (n / 10), dg n] := rfl
theorem dg_ofNat (n : Nat) : dg n = UInt8.ofNat (48 + n % 10) := by
  unfold dg; congr 2
theorem digs2_one {i : Nat} (h : i < 10) : digs 2 i = 48 :: Lib.decDigits i := by
  rw [Lib.decDigits_one h, digs2, dg_ofNat]
  have e : ((i : Int) / 10) = ((i / 10 : Nat) : Int) := by omega
  rw [e, dg_ofNat, show i / 10 % 10 = 0 by omega, show i % 10 = i by omega]; rfl
theorem digs2_two {i : Nat} (h1 : ¬ i < 10) (h2 : i < 100) : digs 2 i = Lib.decDigits i := by
  rw [Lib.decDigits_two h1 h2, digs2, dg_ofNat]
  have e : ((i : Int) / 10) = ((i / 10 : Nat) : Int) := by omega
  rw [e, dg_ofNat, show i / 10 % 10 = i / 10 by omega]
theorem digs4_four {i : Nat} (h1 : 1000 ≤ i) (h2 : i < 10000) : digs 4 i = Lib.decDigits i := by
  rw [Lib.decDigits, dif_neg (by omega), Lib.decDigits, dif_neg (by omega), Lib.decDigits_two (by omega) (by omega), digs4]
  have e1 : ((i : Int) / 10) = ((i / 10 : Nat) : Int) := by omega
  have e2 : (((i / 10 : Nat) : Int) / 10) = ((i / 10 / 10 : Nat) : Int) := by omega
  have e3 : (((i / 10 / 10 : Nat) : Int) / 10) = ((i / 10 / 10 / 10 : Nat) : Int) := by omega
  rw [e1, e2, e3, dg_ofNat, dg_ofNat, dg_ofNat, dg_ofNat, show i / 10 / 10 / 10 % 10 = i / 10 / 10 / 10 by omega]
  rfl
theorem digs4_split (a b : Int) (h2 : 0 ≤ b) (h3 : b < 100) : digs 4 (a * 100 + b) = digs 2 a ++ digs 2 b := by
  rw [digs4, digs2, digs2]
  have e1 : (a * 100 + b) / 10 = a * 10 + b / 10 := by omega
  have e2 : (a * 10 + b / 10) / 10 = a := by omega
  rw [e1, e2]
  have f1 : dg (a * 100 + b) = dg b := by unfold dg; congr 3; omega
  have f2 : dg (a * 10 + b / 10) = dg (b / 10) := by unfold dg; congr 3; omega
  rw [f1, f2]; rfl

def dayTab : List (List UInt8) := [[77, 111, 110], [84, 117, 101], [87, 101, 100], [84, 104, 117], [70, 114, 105], [83, 97, 116], [83, 117, 110]]
def monTab : List (List UInt8) := [[74, 97, 110], [70, 101, 98], [77, 97, 114], [65, 112, 114], [77, 97, 121], [74, 117, 110], [74, 117, 108], [65, 117, 103], [83, 101, 112], [79, 99, 116], [78, 111, 118], [68, 101, 99]]
def dayN (d : Int) : List UInt8 := dayTab.getD d.toNat []
def monN (m : Int) : List UInt8 := monTab.getD (m - 1).toNat []
def absI (n : Int) : Int := if n < 0 then -n else n

/-- The text of a minute in the zone of an offset, of which m is the sum. -/
def fmtText (m off : Int) : List UInt8 :=
  dayN ((m / 1440 + 5) % 7) ++ [44, 32] ++ digs 2 (civD (m / 1440)) ++ [32] ++ monN (civM (m / 1440)) ++ [32] ++ digs 4 (civY (m / 1440)) ++ [32] ++ digs 2 (m % 1440 / 60) ++ [58] ++ digs 2 (m % 60) ++ [32] ++
    [if off < 0 then 45 else 43] ++ digs 2 (absI off / 60) ++ digs 2 (absI off % 60)
def dayText (d : Int) : List UInt8 := digs 4 (civY d) ++ [45] ++ digs 2 (civM d) ++ [45] ++ digs 2 (civD d)
end Go.Proofs.YtpdncgfkoibacaaDoor
