/- Contracts: the two readers of a decimal number. -/
import Derived.Test.YthgefcoaaommkaaGreatDoorSrParse
import Derived.Test.YthgefcoaaommkaaGreatDoorZc
namespace Go.Nr
theorem all_take_dig {s : List UInt8} {k : Nat} (hk : k < s.length) : (s.take (k + 1)).all isDig = ((s.take k).all isDig && isDig (s.getD k 0)) := by
  rw [List.take_succ_eq_append_getElem hk, List.all_append]; simp [hk]
theorem val_take {s : List UInt8} {k : Nat} (hk : k < s.length) : val (s.take (k + 1)) = 10 * val (s.take k) + ((s.getD k 0).toNat - 48) := by
  rw [List.take_succ_eq_append_getElem hk, val_snoc]; simp [hk]
theorem dig_iff (c : UInt8) : isDig c = true ↔ 48 ≤ c.toNat ∧ c.toNat ≤ 57 := by simp [isDig]
end Go.Nr
namespace Go.Proofs.YthgefcoaaommkaaGreatDoor
open Go.RowKit Go.Gn Go.Sr Go.Maps Go.Nr
def numT (s : List UInt8) : Int := if okW s = true then (val s : Int) else 0
theorem okW_iff (s : List UInt8) : okW s = true ↔ 1 ≤ s.length ∧ s.length ≤ 15 ∧ (s.length = 1 ∨ s.getD 0 0 ≠ 48) ∧ s.all isDig = true := by
  unfold okW; simp only [Bool.and_eq_true, Bool.or_eq_true, decide_eq_true_eq, and_assoc]
theorem okW_no {s : List UInt8} (h : ¬ okW s = true) : numT s = 0 ∧ okW s = false := ⟨by unfold numT; rw [if_neg h], by simpa using h⟩
theorem okW_dig {s : List UInt8} {k : Nat} (hk : k < s.length) (h : isDig (s.getD k 0) = false) : ¬ okW s = true := fun ho => by
  have h4 := ((okW_iff s).1 ho).2.2.2
  have := List.all_eq_true.1 h4 (s.getD k 0) (by simp [hk])
  rw [h] at this; cases this
theorem okW_yes {s : List UInt8} (h1 : 1 ≤ s.length) (h2 : s.length ≤ 15) (h3 : s.length = 1 ∨ s.getD 0 0 ≠ 48) (h4 : s.all isDig = true) : numT s = val s ∧ okW s = true := by
  have h := (okW_iff s).2 ⟨h1, h2, h3, h4⟩
  exact ⟨by unfold numT; rw [if_pos h], h⟩
theorem isDg_dig (c : UInt8) : isDg c = isDig c := by
  rfl
set_option maxRecDepth 100000 in
set_option maxHeartbeats 4000000 in
theorem parseNumber_any (s : List UInt8) (w : World) (hl : s.length ≤ 1000000000) :
    Calls Tryz.prog 97 #[enS s] w fun e w' => e = .returned (.tuple #[i64 (numT s), .bool (okW s)]) ∧ w = w' := by
  by_cases h0 : s.length < 1
  case pos =>
    have V : Hid (numT s = 0 ∧ okW s = false) := Lib.hid (okW_no (by rw [okW_iff]; omega))
    go_enter Tryz.func97, Tryz.ntmps97
    go_wp2_with fail
    go_ret2
    rw [V.out.1, V.out.2]
    exact ⟨rfl, rfl⟩
  by_cases h15 : 15 < s.length
  case pos =>
    have V : Hid (numT s = 0 ∧ okW s = false) := Lib.hid (okW_no (by rw [okW_iff]; omega))
    go_enter Tryz.func97, Tryz.ntmps97
    go_wp2_with fail
    go_ret2
    rw [V.out.1, V.out.2]
    exact ⟨rfl, rfl⟩
  have bg := bget (t := s) (p := 0) (show 0 < s.toArray.size by simp; omega) (by omega)
  obtain ⟨c, hc⟩ : ∃ c, s.getD 0 0 = c := ⟨_, rfl⟩
  rw [hc] at bg
  have HC := Lib.hid hc
  clear hc
  by_cases h48 : c = 48
  case pos =>
    subst h48
    by_cases h1l : 1 < s.length
    case pos =>
      have V : Hid (numT s = 0 ∧ okW s = false) := Lib.hid (okW_no (by rw [okW_iff, HC.out]; exact fun h => h.2.2.1.elim (by omega) (fun e => e rfl)))
      go_enter Tryz.func97, Tryz.ntmps97
      go_wp2_with fail
      go_ret2
      rw [V.out.1, V.out.2]
      exact ⟨rfl, rfl⟩
    have H48 : Hid (s.length = 1 ∨ s.getD 0 0 ≠ 48) := Lib.hid (.inl (by omega))
    have hc48 : True := trivial
    have hc48' : True := trivial
    go_enter Tryz.func97, Tryz.ntmps97
    go_wp2_with fail
    clear bg hc48 hc48' HC
    go_loopg [4, 26] s.length (fun gg nv iv wr => ∃ (k n : Nat), k ≤ s.length ∧ s.length - k ≤ gg ∧ iv = .int .i64 k ∧ nv = .int .i64 n ∧ n < 1000000000000000 ∧ Hid (n = val (s.take k) ∧ (s.take k).all isDig = true) ∧ w = wr)
    case atStart => exact ⟨0, 0, by omega, by omega, rfl, rfl, by omega, ⟨rfl, rfl⟩, rfl⟩
    case round =>
      obtain ⟨k, n, hk, hgk, rfl, rfl, hn, Q, rfl⟩ := hrel
      by_cases hlt : k < s.length
      · have bg := bget (t := s) (p := k) (show k < s.toArray.size by simpa using hlt) hlt
        have hv := val_take hlt
        have ha := all_take_dig hlt
        rw [Q.out.2, Bool.true_and] at ha
        rw [← Q.out.1] at hv
        have hd := okW_dig hlt
        have hi := dig_iff (s.getD k 0)
        obtain ⟨c, hc⟩ : ∃ c, s.getD k 0 = c := ⟨_, rfl⟩
        rw [hc] at bg hv ha hd hi
        have HV := Lib.hid hv
        have HAl := Lib.hid ha
        have HD := Lib.hid hd
        clear hc hv ha hd
        have hc255 : c.toNat < 256 := c.toNat_lt
        by_cases hdg : isDig c = true
        case neg =>
          have hdf : isDg c = false := by rw [isDg_dig]; simpa using hdg
          have V : Hid (numT s = 0 ∧ okW s = false) := Lib.hid (okW_no (HD.out (by simpa using hdg)))
          clear hi hdg
          go_wp2_with fail
          refine (asciiDigit_any c _).mono ?_; rintro e w1 ⟨rfl, rfl⟩
          rw [hdf]
          go_wp2_with fail
          go_ret2
          rw [V.out.1, V.out.2]
          exact ⟨rfl, rfl⟩
        have hdf : isDg c = true := by rw [isDg_dig]; exact hdg
        have h48 := (hi.1 hdg).1
        have h57 := (hi.1 hdg).2
        have hvl := val_lt (s.take (k + 1)) (HAl.out.trans hdg)
        have hp : 10 ^ (s.take (k + 1)).length ≤ 10 ^ 15 := Nat.pow_le_pow_right (by omega) (by rw [List.length_take]; omega)
        have hvb : 10 * n + (c.toNat - 48) < 1000000000000000 := by
          have e : 10 ^ 15 = 1000000000000000 := by decide
          rw [HV.out] at hvl; omega
        have HDG := Lib.hid hdg
        clear hi hvl hp hdg
        go_wp2_with fail
        refine (asciiDigit_any c _).mono ?_; rintro e w1 ⟨rfl, rfl⟩
        rw [hdf]
        go_wp2_with fail
        go_roundg (s.length - (k + 1))
        case measure => omega
        case rel => exact ⟨k + 1, 10 * n + (c.toNat - 48), by omega, by omega, by go_num, by congr 1; omega, hvb, ⟨HV.out.symm, HAl.out.trans HDG.out⟩, rfl⟩
      · obtain rfl : k = s.length := by omega
        have V : Hid (numT s = n ∧ okW s = true) := Lib.hid (by
          (show numT s = n ∧ okW s = true)
          have h1 := Q.out.1
          have h2 := Q.out.2
          rw [List.take_length] at h1 h2
          rw [h1]
          exact okW_yes (by omega) (by omega) H48.out h2)
        go_wp2_with fail
        go_ret2
        rw [V.out.1, V.out.2]
        exact ⟨rfl, rfl⟩
  have hc48 : ((c.toNat : Int) == 48) = false := by
    simp; intro e; exact h48 (UInt8.toNat_inj.1 (by simpa using (by omega : c.toNat = 48)))
  have hc48' : (c.toNat == 48) = false := by
    simp; intro e; exact h48 (UInt8.toNat_inj.1 (by simpa using e))
  have H48 : Hid (s.length = 1 ∨ s.getD 0 0 ≠ 48) := Lib.hid (.inr fun e => h48 (HC.out.symm.trans e))
  clear h48
  by_cases h1l : 1 < s.length
  case pos =>
    go_enter Tryz.func97, Tryz.ntmps97
    go_wp2_with fail
    clear bg hc48 hc48' HC
    go_loopg [4, 26] s.length (fun gg nv iv wr => ∃ (k n : Nat), k ≤ s.length ∧ s.length - k ≤ gg ∧ iv = .int .i64 k ∧ nv = .int .i64 n ∧ n < 1000000000000000 ∧ Hid (n = val (s.take k) ∧ (s.take k).all isDig = true) ∧ w = wr)
    case atStart => exact ⟨0, 0, by omega, by omega, rfl, rfl, by omega, ⟨rfl, rfl⟩, rfl⟩
    case round =>
      obtain ⟨k, n, hk, hgk, rfl, rfl, hn, Q, rfl⟩ := hrel
      by_cases hlt : k < s.length
      · have bg := bget (t := s) (p := k) (show k < s.toArray.size by simpa using hlt) hlt
        have hv := val_take hlt
        have ha := all_take_dig hlt
        rw [Q.out.2, Bool.true_and] at ha
        rw [← Q.out.1] at hv
        have hd := okW_dig hlt
        have hi := dig_iff (s.getD k 0)
        obtain ⟨c, hc⟩ : ∃ c, s.getD k 0 = c := ⟨_, rfl⟩
        rw [hc] at bg hv ha hd hi
        have HV := Lib.hid hv
        have HAl := Lib.hid ha
        have HD := Lib.hid hd
        clear hc hv ha hd
        have hc255 : c.toNat < 256 := c.toNat_lt
        by_cases hdg : isDig c = true
        case neg =>
          have hdf : isDg c = false := by rw [isDg_dig]; simpa using hdg
          have V : Hid (numT s = 0 ∧ okW s = false) := Lib.hid (okW_no (HD.out (by simpa using hdg)))
          clear hi hdg
          go_wp2_with fail
          refine (asciiDigit_any c _).mono ?_; rintro e w1 ⟨rfl, rfl⟩
          rw [hdf]
          go_wp2_with fail
          go_ret2
          rw [V.out.1, V.out.2]
          exact ⟨rfl, rfl⟩
        have hdf : isDg c = true := by rw [isDg_dig]; exact hdg
        have h48 := (hi.1 hdg).1
        have h57 := (hi.1 hdg).2
        have hvl := val_lt (s.take (k + 1)) (HAl.out.trans hdg)
        have hp : 10 ^ (s.take (k + 1)).length ≤ 10 ^ 15 := Nat.pow_le_pow_right (by omega) (by rw [List.length_take]; omega)
        have hvb : 10 * n + (c.toNat - 48) < 1000000000000000 := by
          have e : 10 ^ 15 = 1000000000000000 := by decide
          rw [HV.out] at hvl; omega
        have HDG := Lib.hid hdg
        clear hi hvl hp hdg
        go_wp2_with fail
        refine (asciiDigit_any c _).mono ?_; rintro e w1 ⟨rfl, rfl⟩
        rw [hdf]
        go_wp2_with fail
        go_roundg (s.length - (k + 1))
        case measure => omega
        case rel => exact ⟨k + 1, 10 * n + (c.toNat - 48), by omega, by omega, by go_num, by congr 1; omega, hvb, ⟨HV.out.symm, HAl.out.trans HDG.out⟩, rfl⟩
      · obtain rfl : k = s.length := by omega
        have V : Hid (numT s = n ∧ okW s = true) := Lib.hid (by
          (show numT s = n ∧ okW s = true)
          have h1 := Q.out.1
          have h2 := Q.out.2
          rw [List.take_length] at h1 h2
          rw [h1]
          exact okW_yes (by omega) (by omega) H48.out h2)
        go_wp2_with fail
        go_ret2
        rw [V.out.1, V.out.2]
        exact ⟨rfl, rfl⟩
  go_enter Tryz.func97, Tryz.ntmps97
  go_wp2_with fail
  clear bg hc48 hc48' HC
  go_loopg [4, 26] s.length (fun gg nv iv wr => ∃ (k n : Nat), k ≤ s.length ∧ s.length - k ≤ gg ∧ iv = .int .i64 k ∧ nv = .int .i64 n ∧ n < 1000000000000000 ∧ Hid (n = val (s.take k) ∧ (s.take k).all isDig = true) ∧ w = wr)
  case atStart => exact ⟨0, 0, by omega, by omega, rfl, rfl, by omega, ⟨rfl, rfl⟩, rfl⟩
  case round =>
    obtain ⟨k, n, hk, hgk, rfl, rfl, hn, Q, rfl⟩ := hrel
    by_cases hlt : k < s.length
    · have bg := bget (t := s) (p := k) (show k < s.toArray.size by simpa using hlt) hlt
      have hv := val_take hlt
      have ha := all_take_dig hlt
      rw [Q.out.2, Bool.true_and] at ha
      rw [← Q.out.1] at hv
      have hd := okW_dig hlt
      have hi := dig_iff (s.getD k 0)
      obtain ⟨c, hc⟩ : ∃ c, s.getD k 0 = c := ⟨_, rfl⟩
      rw [hc] at bg hv ha hd hi
      have HV := Lib.hid hv
      have HAl := Lib.hid ha
      have HD := Lib.hid hd
      clear hc hv ha hd
      have hc255 : c.toNat < 256 := c.toNat_lt
      by_cases hdg : isDig c = true
      case neg =>
        have hdf : isDg c = false := by rw [isDg_dig]; simpa using hdg
        have V : Hid (numT s = 0 ∧ okW s = false) := Lib.hid (okW_no (HD.out (by simpa using hdg)))
        clear hi hdg
        go_wp2_with fail
        refine (asciiDigit_any c _).mono ?_; rintro e w1 ⟨rfl, rfl⟩
        rw [hdf]
        go_wp2_with fail
        go_ret2
        rw [V.out.1, V.out.2]
        exact ⟨rfl, rfl⟩
      have hdf : isDg c = true := by rw [isDg_dig]; exact hdg
      have h48 := (hi.1 hdg).1
      have h57 := (hi.1 hdg).2
      have hvl := val_lt (s.take (k + 1)) (HAl.out.trans hdg)
      have hp : 10 ^ (s.take (k + 1)).length ≤ 10 ^ 15 := Nat.pow_le_pow_right (by omega) (by rw [List.length_take]; omega)
      have hvb : 10 * n + (c.toNat - 48) < 1000000000000000 := by
        have e : 10 ^ 15 = 1000000000000000 := by decide
        rw [HV.out] at hvl; omega
      have HDG := Lib.hid hdg
      clear hi hvl hp hdg
      go_wp2_with fail
      refine (asciiDigit_any c _).mono ?_; rintro e w1 ⟨rfl, rfl⟩
      rw [hdf]
      go_wp2_with fail
      go_roundg (s.length - (k + 1))
      case measure => omega
      case rel => exact ⟨k + 1, 10 * n + (c.toNat - 48), by omega, by omega, by go_num, by congr 1; omega, hvb, ⟨HV.out.symm, HAl.out.trans HDG.out⟩, rfl⟩
    · obtain rfl : k = s.length := by omega
      have V : Hid (numT s = n ∧ okW s = true) := Lib.hid (by
        (show numT s = n ∧ okW s = true)
        have h1 := Q.out.1
        have h2 := Q.out.2
        rw [List.take_length] at h1 h2
        rw [h1]
        exact okW_yes (by omega) (by omega) H48.out h2)
      go_wp2_with fail
      go_ret2
      rw [V.out.1, V.out.2]
      exact ⟨rfl, rfl⟩
set_option maxRecDepth 100000 in
set_option maxHeartbeats 4000000 in
theorem decimal_any (s : List UInt8) (w : World) (hl : s.length ≤ 1000000000) :
    Calls Tryz.prog 74 #[enS s] w fun e w' => e = .returned (.tuple #[i64 (numT s), .bool (okW s)]) ∧ w = w' := by
  by_cases h0 : s.length < 1
  case pos =>
    have V : Hid (numT s = 0 ∧ okW s = false) := Lib.hid (okW_no (by rw [okW_iff]; omega))
    go_enter Tryz.func74, Tryz.ntmps74
    go_wp2_with fail
    go_ret2
    rw [V.out.1, V.out.2]
    exact ⟨rfl, rfl⟩
  by_cases h15 : 15 < s.length
  case pos =>
    have V : Hid (numT s = 0 ∧ okW s = false) := Lib.hid (okW_no (by rw [okW_iff]; omega))
    go_enter Tryz.func74, Tryz.ntmps74
    go_wp2_with fail
    go_ret2
    rw [V.out.1, V.out.2]
    exact ⟨rfl, rfl⟩
  have bg := bget (t := s) (p := 0) (show 0 < s.toArray.size by simp; omega) (by omega)
  obtain ⟨c, hc⟩ : ∃ c, s.getD 0 0 = c := ⟨_, rfl⟩
  rw [hc] at bg
  have HC := Lib.hid hc
  clear hc
  by_cases h48 : c = 48
  case pos =>
    subst h48
    by_cases h1l : 1 < s.length
    case pos =>
      have V : Hid (numT s = 0 ∧ okW s = false) := Lib.hid (okW_no (by rw [okW_iff, HC.out]; exact fun h => h.2.2.1.elim (by omega) (fun e => e rfl)))
      go_enter Tryz.func74, Tryz.ntmps74
      go_wp2_with fail
      go_ret2
      rw [V.out.1, V.out.2]
      exact ⟨rfl, rfl⟩
    have H48 : Hid (s.length = 1 ∨ s.getD 0 0 ≠ 48) := Lib.hid (.inl (by omega))
    have hc48 : True := trivial
    have hc48' : True := trivial
    go_enter Tryz.func74, Tryz.ntmps74
    go_wp2_with fail
    clear bg hc48 hc48' HC
    go_loopg [4, 5] s.length (fun gg nv iv wr => ∃ (k n : Nat), k ≤ s.length ∧ s.length - k ≤ gg ∧ iv = .int .i64 k ∧ nv = .int .i64 n ∧ n < 1000000000000000 ∧ Hid (n = val (s.take k) ∧ (s.take k).all isDig = true) ∧ w = wr)
    case atStart => exact ⟨0, 0, by omega, by omega, rfl, rfl, by omega, ⟨rfl, rfl⟩, rfl⟩
    case round =>
      obtain ⟨k, n, hk, hgk, rfl, rfl, hn, Q, rfl⟩ := hrel
      by_cases hlt : k < s.length
      · have bg := bget (t := s) (p := k) (show k < s.toArray.size by simpa using hlt) hlt
        have hv := val_take hlt
        have ha := all_take_dig hlt
        rw [Q.out.2, Bool.true_and] at ha
        rw [← Q.out.1] at hv
        have hd := okW_dig hlt
        have hi := dig_iff (s.getD k 0)
        obtain ⟨c, hc⟩ : ∃ c, s.getD k 0 = c := ⟨_, rfl⟩
        rw [hc] at bg hv ha hd hi
        have HV := Lib.hid hv
        have HAl := Lib.hid ha
        have HD := Lib.hid hd
        clear hc hv ha hd
        have hc255 : c.toNat < 256 := c.toNat_lt
        by_cases h1 : c.toNat < 48
        case pos =>
          have h1i : (c.toNat : Int) < 48 := by omega
          have V : Hid (numT s = 0 ∧ okW s = false) := Lib.hid (okW_no (HD.out (by rw [Bool.eq_false_iff, ne_eq, hi]; omega)))
          clear hi
          go_wp2_with fail
          go_ret2
          rw [V.out.1, V.out.2]
          exact ⟨rfl, rfl⟩
        by_cases h2 : 57 < c.toNat
        case pos =>
          have h2i : (57 : Int) < c.toNat := by omega
          have V : Hid (numT s = 0 ∧ okW s = false) := Lib.hid (okW_no (HD.out (by rw [Bool.eq_false_iff, ne_eq, hi]; omega)))
          clear hi
          go_wp2_with fail
          go_ret2
          rw [V.out.1, V.out.2]
          exact ⟨rfl, rfl⟩
        have hdg : isDig c = true := hi.2 (by omega)
        have h48 : 48 ≤ c.toNat := by omega
        have h57 : c.toNat ≤ 57 := by omega
        have hvl := val_lt (s.take (k + 1)) (HAl.out.trans hdg)
        have hp : 10 ^ (s.take (k + 1)).length ≤ 10 ^ 15 := Nat.pow_le_pow_right (by omega) (by rw [List.length_take]; omega)
        have hvb : 10 * n + (c.toNat - 48) < 1000000000000000 := by
          have e : 10 ^ 15 = 1000000000000000 := by decide
          rw [HV.out] at hvl; omega
        have HDG := Lib.hid hdg
        clear hi hvl hp hdg
        go_wp2_with fail
        go_roundg (s.length - (k + 1))
        case measure => omega
        case rel => exact ⟨k + 1, 10 * n + (c.toNat - 48), by omega, by omega, by go_num, by congr 1; omega, hvb, ⟨HV.out.symm, HAl.out.trans HDG.out⟩, rfl⟩
      · obtain rfl : k = s.length := by omega
        have V : Hid (numT s = n ∧ okW s = true) := Lib.hid (by
          (show numT s = n ∧ okW s = true)
          have h1 := Q.out.1
          have h2 := Q.out.2
          rw [List.take_length] at h1 h2
          rw [h1]
          exact okW_yes (by omega) (by omega) H48.out h2)
        go_wp2_with fail
        go_ret2
        rw [V.out.1, V.out.2]
        exact ⟨rfl, rfl⟩
  have hc48 : ((c.toNat : Int) == 48) = false := by
    simp; intro e; exact h48 (UInt8.toNat_inj.1 (by simpa using (by omega : c.toNat = 48)))
  have hc48' : (c.toNat == 48) = false := by
    simp; intro e; exact h48 (UInt8.toNat_inj.1 (by simpa using e))
  have H48 : Hid (s.length = 1 ∨ s.getD 0 0 ≠ 48) := Lib.hid (.inr fun e => h48 (HC.out.symm.trans e))
  clear h48
  by_cases h1l : 1 < s.length
  case pos =>
    go_enter Tryz.func74, Tryz.ntmps74
    go_wp2_with fail
    clear bg hc48 hc48' HC
    go_loopg [4, 5] s.length (fun gg nv iv wr => ∃ (k n : Nat), k ≤ s.length ∧ s.length - k ≤ gg ∧ iv = .int .i64 k ∧ nv = .int .i64 n ∧ n < 1000000000000000 ∧ Hid (n = val (s.take k) ∧ (s.take k).all isDig = true) ∧ w = wr)
    case atStart => exact ⟨0, 0, by omega, by omega, rfl, rfl, by omega, ⟨rfl, rfl⟩, rfl⟩
    case round =>
      obtain ⟨k, n, hk, hgk, rfl, rfl, hn, Q, rfl⟩ := hrel
      by_cases hlt : k < s.length
      · have bg := bget (t := s) (p := k) (show k < s.toArray.size by simpa using hlt) hlt
        have hv := val_take hlt
        have ha := all_take_dig hlt
        rw [Q.out.2, Bool.true_and] at ha
        rw [← Q.out.1] at hv
        have hd := okW_dig hlt
        have hi := dig_iff (s.getD k 0)
        obtain ⟨c, hc⟩ : ∃ c, s.getD k 0 = c := ⟨_, rfl⟩
        rw [hc] at bg hv ha hd hi
        have HV := Lib.hid hv
        have HAl := Lib.hid ha
        have HD := Lib.hid hd
        clear hc hv ha hd
        have hc255 : c.toNat < 256 := c.toNat_lt
        by_cases h1 : c.toNat < 48
        case pos =>
          have h1i : (c.toNat : Int) < 48 := by omega
          have V : Hid (numT s = 0 ∧ okW s = false) := Lib.hid (okW_no (HD.out (by rw [Bool.eq_false_iff, ne_eq, hi]; omega)))
          clear hi
          go_wp2_with fail
          go_ret2
          rw [V.out.1, V.out.2]
          exact ⟨rfl, rfl⟩
        by_cases h2 : 57 < c.toNat
        case pos =>
          have h2i : (57 : Int) < c.toNat := by omega
          have V : Hid (numT s = 0 ∧ okW s = false) := Lib.hid (okW_no (HD.out (by rw [Bool.eq_false_iff, ne_eq, hi]; omega)))
          clear hi
          go_wp2_with fail
          go_ret2
          rw [V.out.1, V.out.2]
          exact ⟨rfl, rfl⟩
        have hdg : isDig c = true := hi.2 (by omega)
        have h48 : 48 ≤ c.toNat := by omega
        have h57 : c.toNat ≤ 57 := by omega
        have hvl := val_lt (s.take (k + 1)) (HAl.out.trans hdg)
        have hp : 10 ^ (s.take (k + 1)).length ≤ 10 ^ 15 := Nat.pow_le_pow_right (by omega) (by rw [List.length_take]; omega)
        have hvb : 10 * n + (c.toNat - 48) < 1000000000000000 := by
          have e : 10 ^ 15 = 1000000000000000 := by decide
          rw [HV.out] at hvl; omega
        have HDG := Lib.hid hdg
        clear hi hvl hp hdg
        go_wp2_with fail
        go_roundg (s.length - (k + 1))
        case measure => omega
        case rel => exact ⟨k + 1, 10 * n + (c.toNat - 48), by omega, by omega, by go_num, by congr 1; omega, hvb, ⟨HV.out.symm, HAl.out.trans HDG.out⟩, rfl⟩
      · obtain rfl : k = s.length := by omega
        have V : Hid (numT s = n ∧ okW s = true) := Lib.hid (by
          (show numT s = n ∧ okW s = true)
          have h1 := Q.out.1
          have h2 := Q.out.2
          rw [List.take_length] at h1 h2
          rw [h1]
          exact okW_yes (by omega) (by omega) H48.out h2)
        go_wp2_with fail
        go_ret2
        rw [V.out.1, V.out.2]
        exact ⟨rfl, rfl⟩
  go_enter Tryz.func74, Tryz.ntmps74
  go_wp2_with fail
  clear bg hc48 hc48' HC
  go_loopg [4, 5] s.length (fun gg nv iv wr => ∃ (k n : Nat), k ≤ s.length ∧ s.length - k ≤ gg ∧ iv = .int .i64 k ∧ nv = .int .i64 n ∧ n < 1000000000000000 ∧ Hid (n = val (s.take k) ∧ (s.take k).all isDig = true) ∧ w = wr)
  case atStart => exact ⟨0, 0, by omega, by omega, rfl, rfl, by omega, ⟨rfl, rfl⟩, rfl⟩
  case round =>
    obtain ⟨k, n, hk, hgk, rfl, rfl, hn, Q, rfl⟩ := hrel
    by_cases hlt : k < s.length
    · have bg := bget (t := s) (p := k) (show k < s.toArray.size by simpa using hlt) hlt
      have hv := val_take hlt
      have ha := all_take_dig hlt
      rw [Q.out.2, Bool.true_and] at ha
      rw [← Q.out.1] at hv
      have hd := okW_dig hlt
      have hi := dig_iff (s.getD k 0)
      obtain ⟨c, hc⟩ : ∃ c, s.getD k 0 = c := ⟨_, rfl⟩
      rw [hc] at bg hv ha hd hi
      have HV := Lib.hid hv
      have HAl := Lib.hid ha
      have HD := Lib.hid hd
      clear hc hv ha hd
      have hc255 : c.toNat < 256 := c.toNat_lt
      by_cases h1 : c.toNat < 48
      case pos =>
        have h1i : (c.toNat : Int) < 48 := by omega
        have V : Hid (numT s = 0 ∧ okW s = false) := Lib.hid (okW_no (HD.out (by rw [Bool.eq_false_iff, ne_eq, hi]; omega)))
        clear hi
        go_wp2_with fail
        go_ret2
        rw [V.out.1, V.out.2]
        exact ⟨rfl, rfl⟩
      by_cases h2 : 57 < c.toNat
      case pos =>
        have h2i : (57 : Int) < c.toNat := by omega
        have V : Hid (numT s = 0 ∧ okW s = false) := Lib.hid (okW_no (HD.out (by rw [Bool.eq_false_iff, ne_eq, hi]; omega)))
        clear hi
        go_wp2_with fail
        go_ret2
        rw [V.out.1, V.out.2]
        exact ⟨rfl, rfl⟩
      have hdg : isDig c = true := hi.2 (by omega)
      have h48 : 48 ≤ c.toNat := by omega
      have h57 : c.toNat ≤ 57 := by omega
      have hvl := val_lt (s.take (k + 1)) (HAl.out.trans hdg)
      have hp : 10 ^ (s.take (k + 1)).length ≤ 10 ^ 15 := Nat.pow_le_pow_right (by omega) (by rw [List.length_take]; omega)
      have hvb : 10 * n + (c.toNat - 48) < 1000000000000000 := by
        have e : 10 ^ 15 = 1000000000000000 := by decide
        rw [HV.out] at hvl; omega
      have HDG := Lib.hid hdg
      clear hi hvl hp hdg
      go_wp2_with fail
      go_roundg (s.length - (k + 1))
      case measure => omega
      case rel => exact ⟨k + 1, 10 * n + (c.toNat - 48), by omega, by omega, by go_num, by congr 1; omega, hvb, ⟨HV.out.symm, HAl.out.trans HDG.out⟩, rfl⟩
    · obtain rfl : k = s.length := by omega
      have V : Hid (numT s = n ∧ okW s = true) := Lib.hid (by
        (show numT s = n ∧ okW s = true)
        have h1 := Q.out.1
        have h2 := Q.out.2
        rw [List.take_length] at h1 h2
        rw [h1]
        exact okW_yes (by omega) (by omega) H48.out h2)
      go_wp2_with fail
      go_ret2
      rw [V.out.1, V.out.2]
      exact ⟨rfl, rfl⟩
end Go.Proofs.YthgefcoaaommkaaGreatDoor
