/- What the parser of dates computes, in plain lists of bytes: the scanner's steps, the parts of a date, the zone, the result. No program in sight. -/
import Derived.Test.YtpdncgfkoibacaaDoorTxt
namespace Go.Proofs.YtpdncgfkoibacaaDoor
open Cal

def isDig (c : UInt8) : Bool := decide (48 ≤ c.toNat) && decide (c.toNat ≤ 57)
def isLet (c : UInt8) : Bool := (decide (65 ≤ c.toNat) && decide (c.toNat ≤ 90)) || (decide (97 ≤ c.toNat) && decide (c.toNat ≤ 122))
def isBl (c : UInt8) : Bool := c == 32 || c == 9
def isCh (x c : UInt8) : Bool := c == x

/-- A scanner's place and error. -/
structure St where
  p : Nat
  e : Nat

/-- The byte at a place, 0 behind the end. -/
def at0 (t : List UInt8) (p : Nat) : UInt8 := t.getD p 0
def sees (t : List UInt8) (q : UInt8 → Bool) (s : St) : Bool := s.e == 0 && decide (s.p < t.length) && q (at0 t s.p)
def failAt (s : St) (p e : Nat) : St := if s.e = 0 then ⟨p, e⟩ else s
def need (t : List UInt8) (q : UInt8 → Bool) (s : St) : St :=
  if sees t q s then ⟨s.p + 1, s.e⟩ else if s.p < t.length then failAt s s.p 3 else failAt s t.length 4
def needB (t : List UInt8) (q : UInt8 → Bool) (s : St) : UInt8 := if sees t q s then at0 t s.p else 0
def skip (t : List UInt8) (q : UInt8 → Bool) (s : St) : St := if s.e = 0 then ⟨s.p + ((t.drop s.p).takeWhile q).length, s.e⟩ else s
def blanks (t : List UInt8) (s : St) : St := skip t isBl (need t isBl s)
/-- k digits, and their number. -/
def digS (t : List UInt8) : Nat → St → St
  | 0, s => s
  | k + 1, s => need t isDig (digS t k s)
def digV (t : List UInt8) : Nat → St → Int
  | 0, _ => 0
  | k + 1, s => 10 * digV t k s + (needB t isDig (digS t k s)).toNat - 48
/-- A number of k digits, or of one more. -/
def numS (t : List UInt8) (k : Nat) (more : Bool) (s : St) : St := if more && sees t isDig (digS t k s) then digS t (k + 1) s else digS t k s
def numV (t : List UInt8) (k : Nat) (more : Bool) (s : St) : Int := if more && sees t isDig (digS t k s) then digV t (k + 1) s else digV t k s

def cap (c : UInt8) : UInt8 := if 97 ≤ c.toNat ∧ c.toNat ≤ 122 then c - 32 else c
def capL (l : List UInt8) : List UInt8 := l.map cap
def find3 (names : List (List UInt8)) (word : List UInt8) : Option Nat := names.findIdx? fun n => capL n == capL word
def word3 (t : List UInt8) (p : Nat) : List UInt8 := (t.drop p).take 3
def nameS (t : List UInt8) (names : List (List UInt8)) (s : St) : St :=
  if s.e = 0 then
    if t.length < s.p + 3 then ⟨t.length, 4⟩ else match find3 names (word3 t s.p) with
      | none => ⟨s.p, 3⟩
      | some _ => ⟨s.p + 3, 0⟩
  else s
def nameV (t : List UInt8) (names : List (List UInt8)) (s : St) : Nat :=
  if s.e = 0 then
    if t.length < s.p + 3 then 0 else (find3 names (word3 t s.p)).getD 0
  else 0

def zoneTab : List (List UInt8 × Int) :=
  [([67, 68, 84], -300), ([67, 83, 84], -360), ([69, 68, 84], -240), ([69, 83, 84], -300), ([71, 77, 84], 0), ([77, 68, 84], -360), ([77, 83, 84], -420), ([80, 68, 84], -420), ([80, 83, 84], -480), ([85, 84], 0), ([85, 84, 67], 0), ([90], 0)]
def zoneName (z : List UInt8) : Option Int := (zoneTab.find? fun r => r.1 == capL z).map (·.2)
def zh (z : List UInt8) : Int := digV z 2 ⟨1, 0⟩
def zs (z : List UInt8) : St := digS z 2 (digS z 2 ⟨1, 0⟩)
def zm (z : List UInt8) : Int := digV z 2 (digS z 2 ⟨1, 0⟩)
/-- The error and the offset of a zone. -/
def zoneE (z : List UInt8) : Nat :=
  match zoneName z with
  | some _ => 0
  | none => if z.length ≠ 5 ∨ (at0 z 0 ≠ 43 ∧ at0 z 0 ≠ 45) ∨ (zs z).e ≠ 0 ∨ 59 < zm z then 3 else if 840 < zh z * 60 + zm z then 2 else 0
def zoneV (z : List UInt8) : Int :=
  match zoneName z with
  | some o => o
  | none => if zoneE z ≠ 0 then 0 else if at0 z 0 = 45 then -(zh z * 60 + zm z) else zh z * 60 + zm z
def zoneSt (t : List UInt8) (s : St) : St :=
  if s.e = 0 then if s.p = t.length then ⟨s.p, 4⟩ else if zoneE (t.drop s.p) = 0 then s else ⟨s.p, zoneE (t.drop s.p)⟩ else s
def zoneOf (t : List UInt8) (s : St) : Int := if s.e = 0 then if s.p = t.length then 0 else zoneV (t.drop s.p) else 0

/-! The parts of a date, one behind the other. -/
def r0 : St := ⟨0, 0⟩
def hasW (t : List UInt8) : Bool := sees t isLet r0
def r1 (t : List UInt8) : St := if hasW t then skip t isBl (need t (isCh 44) (nameS t dayTab r0)) else r0
def pWd (t : List UInt8) : Int := if hasW t then nameV t dayTab r0 else -1
def r2 (t : List UInt8) : St := numS t 1 true (r1 t)
def pDay (t : List UInt8) : Int := numV t 1 true (r1 t)
def r3 (t : List UInt8) : St := blanks t (r2 t)
def r4 (t : List UInt8) : St := nameS t monTab (r3 t)
def pMon (t : List UInt8) : Int := nameV t monTab (r3 t) + 1
def r5 (t : List UInt8) : St := blanks t (r4 t)
def r6 (t : List UInt8) : St := numS t 4 false (r5 t)
def pYear (t : List UInt8) : Int := numV t 4 false (r5 t)
def r7 (t : List UInt8) : St := blanks t (r6 t)
def r8 (t : List UInt8) : St := numS t 2 false (r7 t)
def pHour (t : List UInt8) : Int := numV t 2 false (r7 t)
def r9 (t : List UInt8) : St := need t (isCh 58) (r8 t)
def r10 (t : List UInt8) : St := numS t 2 false (r9 t)
def pMin (t : List UInt8) : Int := numV t 2 false (r9 t)
def hasS (t : List UInt8) : Bool := sees t (isCh 58) (r10 t)
def r10a (t : List UInt8) : St := need t (isCh 58) (r10 t)
def r11 (t : List UInt8) : St := if hasS t then numS t 2 false (r10a t) else r10 t
def pSec (t : List UInt8) : Int := if hasS t then numV t 2 false (r10a t) else 0
def pSecAt (t : List UInt8) : Int := if hasS t then (r10a t).p else 0
def r12 (t : List UInt8) : St := blanks t (r11 t)
def r13 (t : List UInt8) : St := zoneSt t (r12 t)
def pOff (t : List UInt8) : Int := zoneOf t (r12 t)
def pLoc (t : List UInt8) : Int := dayNum (pYear t) (pMon t) (pDay t) * 1440 + pHour t * 60 + pMin t

/-- The minute, the place of the error, and the error of a text. -/
def parseF (t : List UInt8) : Int × Int × Int :=
  if 64 < t.length then (0, 64, 5)
  else if (r13 t).e ≠ 0 then (0, (r13 t).p, (r13 t).e)
  else if pYear t < 2000 ∨ 2199 < pYear t then (0, (r5 t).p, 2)
  else if pDay t < 1 ∨ md (pYear t) (pMon t) < pDay t then (0, (r1 t).p, 13)
  else if 23 < pHour t then (0, (r7 t).p, 13)
  else if 59 < pMin t then (0, (r9 t).p, 13)
  else if 60 < pSec t then (0, pSecAt t, 13)
  else if 0 ≤ pWd t ∧ pWd t ≠ (pLoc t / 1440 + 5) % 7 then (0, 0, 13)
  else if pLoc t - pOff t < 0 ∨ 105190559 < pLoc t - pOff t then (0, 0, 2)
  else (pLoc t - pOff t, 0, 0)

/-! Bounds. -/
theorem at0_lt (t : List UInt8) (p : Nat) : (at0 t p).toNat < 256 := (at0 t p).toNat_lt
theorem failAt_p {t : List UInt8} {s : St} {p e : Nat} (h : s.p ≤ t.length) (hp : p ≤ t.length) : (failAt s p e).p ≤ t.length := by
  unfold failAt; split
  · exact hp
  · exact h
theorem need_p {t : List UInt8} {q : UInt8 → Bool} {s : St} (h : s.p ≤ t.length) : (need t q s).p ≤ t.length := by
  unfold need; split
  · rename_i hs; simp only [sees, Bool.and_eq_true, decide_eq_true_eq] at hs; exact hs.1.2
  · split
    · exact failAt_p h h
    · exact failAt_p h (Nat.le_refl _)
theorem takeWhile_len (q : UInt8 → Bool) (l : List UInt8) : (l.takeWhile q).length ≤ l.length := (List.takeWhile_sublist q).length_le
theorem skip_p {t : List UInt8} {q : UInt8 → Bool} {s : St} (h : s.p ≤ t.length) : (skip t q s).p ≤ t.length := by
  unfold skip; split
  · have := takeWhile_len q (t.drop s.p); simp at this; show s.p + _ ≤ _; omega
  · exact h
theorem blanks_p {t : List UInt8} {s : St} (h : s.p ≤ t.length) : (blanks t s).p ≤ t.length := skip_p (need_p h)
theorem digS_p {t : List UInt8} {s : St} (h : s.p ≤ t.length) : ∀ k, (digS t k s).p ≤ t.length
  | 0 => h
  | k + 1 => need_p (digS_p h k)
theorem numS_p {t : List UInt8} {s : St} (h : s.p ≤ t.length) (k : Nat) (m : Bool) : (numS t k m s).p ≤ t.length := by
  unfold numS; split <;> exact digS_p h _
theorem nameS_p {t : List UInt8} {s : St} {n : List (List UInt8)} (h : s.p ≤ t.length) : (nameS t n s).p ≤ t.length := by
  unfold nameS; split
  · split
    · exact Nat.le_refl _
    · split
      · exact h
      · show s.p + 3 ≤ _; omega
  · exact h
theorem digV_bd (t : List UInt8) (s : St) : ∀ k, -(6 * (10 ^ k - 1 : Int)) ≤ digV t k s ∧ digV t k s ≤ 23 * (10 ^ k - 1)
  | 0 => by simp [digV]
  | k + 1 => by
    have ih := digV_bd t s k
    have hb := (needB t isDig (digS t k s)).toNat_lt
    have h1 : (0 : Int) < 10 ^ k := Int.pow_pos (by decide)
    have e : (10 : Int) ^ (k + 1) = 10 * 10 ^ k := by rw [Int.pow_succ, Int.mul_comm]
    rw [e]
    unfold digV
    generalize (10 : Int) ^ k = P at *
    omega
theorem digV_small (t : List UInt8) (s : St) (k : Nat) (hk : k ≤ 5) : -600000 ≤ digV t k s ∧ digV t k s ≤ 2300000 := by
  have h := digV_bd t s k
  have hk' : k = 0 ∨ k = 1 ∨ k = 2 ∨ k = 3 ∨ k = 4 ∨ k = 5 := by omega
  rcases hk' with rfl | rfl | rfl | rfl | rfl | rfl <;> simp at h <;> omega
theorem numV_small (t : List UInt8) (s : St) (k : Nat) (m : Bool) (hk : k ≤ 4) : -600000 ≤ numV t k m s ∧ numV t k m s ≤ 2300000 := by
  unfold numV; split
  · exact digV_small t s (k + 1) (by omega)
  · exact digV_small t s k (by omega)
theorem find3_lt {n : List (List UInt8)} {w : List UInt8} {i : Nat} (h : find3 n w = some i) : i < n.length := by
  unfold find3 at h
  exact (List.findIdx?_eq_some_iff_getElem.1 h).1
theorem nameV_lt {t : List UInt8} {n : List (List UInt8)} {s : St} (hn : 0 < n.length) : nameV t n s < n.length := by
  unfold nameV; split
  · split
    · exact hn
    · cases h : find3 n (word3 t s.p) with
      | none => exact hn
      | some i => exact find3_lt h
  · exact hn

/-! An error stays; without one, numbers are what their digits say. -/
theorem need_e {t : List UInt8} {q : UInt8 → Bool} {s : St} (h : (need t q s).e = 0) : sees t q s = true ∧ s.e = 0 := by
  unfold need at h
  by_cases hs : sees t q s = true
  · refine ⟨hs, ?_⟩; simp only [sees, Bool.and_eq_true, beq_iff_eq] at hs; exact hs.1.1
  · rw [if_neg hs] at h
    exfalso
    split at h <;> unfold failAt at h <;> split at h <;> simp_all
theorem skip_e {t : List UInt8} {q : UInt8 → Bool} {s : St} : (skip t q s).e = s.e := by unfold skip; split <;> rfl
theorem blanks_e {t : List UInt8} {s : St} (h : (blanks t s).e = 0) : s.e = 0 := by
  unfold blanks at h; rw [skip_e] at h; exact (need_e h).2
theorem digS_e {t : List UInt8} {s : St} : ∀ {k}, (digS t k s).e = 0 → s.e = 0
  | 0, h => h
  | _ + 1, h => digS_e (need_e h).2
theorem numS_e {t : List UInt8} {s : St} {k : Nat} {m : Bool} (h : (numS t k m s).e = 0) : s.e = 0 := by
  unfold numS at h; split at h <;> exact digS_e h
theorem nameS_e {t : List UInt8} {n : List (List UInt8)} {s : St} (h : (nameS t n s).e = 0) : s.e = 0 := by
  unfold nameS at h
  by_cases hs : s.e = 0
  · exact hs
  · rw [if_neg hs] at h; exact h
theorem zoneSt_e {t : List UInt8} {s : St} (h : (zoneSt t s).e = 0) : s.e = 0 := by
  unfold zoneSt at h
  by_cases hs : s.e = 0
  · exact hs
  · rw [if_neg hs] at h; exact h
theorem digV_ok {t : List UInt8} {s : St} : ∀ {k}, (digS t k s).e = 0 → 0 ≤ digV t k s ∧ digV t k s ≤ 10 ^ k - 1
  | 0, _ => by simp [digV]
  | k + 1, h => by
    obtain ⟨h1, h2⟩ := need_e h
    have ih := digV_ok h2
    have hb : 48 ≤ (needB t isDig (digS t k s)).toNat ∧ (needB t isDig (digS t k s)).toNat ≤ 57 := by
      unfold needB; rw [if_pos h1]
      simp only [sees, Bool.and_eq_true, isDig, decide_eq_true_eq] at h1
      exact h1.2
    have e : (10 : Int) ^ (k + 1) = 10 * 10 ^ k := by rw [Int.pow_succ, Int.mul_comm]
    rw [e]
    unfold digV
    generalize (10 : Int) ^ k = P at *
    omega
theorem numV_ok {t : List UInt8} {s : St} {k : Nat} {m : Bool} (hk : k ≤ 3 ∨ (k = 4 ∧ m = false)) (h : (numS t k m s).e = 0) : 0 ≤ numV t k m s ∧ numV t k m s ≤ 9999 := by
  unfold numS at h; unfold numV
  split at h
  · rename_i hc
    rw [if_pos hc]
    have hk2 : k ≤ 3 := by
      rcases hk with h | ⟨_, h⟩
      · exact h
      · simp [h] at hc
    have := digV_ok h
    have hk' : k = 0 ∨ k = 1 ∨ k = 2 ∨ k = 3 := by omega
    rcases hk' with rfl | rfl | rfl | rfl <;> simp at this ⊢ <;> omega
  · rename_i hc
    rw [if_neg hc]
    have := digV_ok h
    have hk' : k = 0 ∨ k = 1 ∨ k = 2 ∨ k = 3 ∨ k = 4 := by omega
    rcases hk' with rfl | rfl | rfl | rfl | rfl <;> simp at this ⊢ <;> omega
end Go.Proofs.YtpdncgfkoibacaaDoor
