/- Contracts: the name of a site, of the code and of the reference. -/
import Derived.Test.YthgefcoaaommkaaDoorStG
namespace Go.Proofs.YthgefcoaaommkaaDoor
open Go.RowKit Go.Gn

def isDg (c : UInt8) : Bool := decide (48 ≤ c.toNat) && decide (c.toNat ≤ 57)
/-- A byte of a site's name. -/
def permB (c : UInt8) : Bool := isLow c || isDg c || decide (c.toNat = 45) || decide (c.toNat = 46)
/-- The byte at k stands where it must not. -/
def badS (s : List UInt8) (k : Nat) : Bool := (decide (k = 0) && !isLow (s.getD k 0)) || (decide (0 < k) && decide ((s.getD k 0).toNat = 46) && decide ((s.getD (k - 1) 0).toNat = 46)) || (decide (k + 1 = s.length) && (decide ((s.getD k 0).toNat = 45) || decide ((s.getD k 0).toNat = 46)))
/-- The error of a site's name. -/
def siteE (s : List UInt8) : Nat := if s = [] then 4 else if 30 < s.length then 5 else if s.all permB = false then 6 else if (List.range s.length).any (badS s) then 12 else 0
theorem siteE_zero {s : List UInt8} (h : siteE s = 0) : s.length ≤ 30 := by
  unfold siteE at h
  split at h
  · cases h
  · split at h
    · cases h
    · omega
theorem take_all_snoc2 (p : UInt8 → Bool) (s : List UInt8) (k : Nat) (d : UInt8) (h : k < s.length) : (s.take (k + 1)).all p = ((s.take k).all p && p (s.getD k d)) := by
  rw [List.take_succ_eq_append_getElem h, List.all_append, List.getD_eq_getElem?_getD, List.getElem?_eq_getElem h]
  simp
set_option maxHeartbeats 1000000 in
theorem asciiLower_any (c : UInt8) (w : World) : Calls Tryd.prog 46 #[.int .u8 c.toNat] w fun e w' => e = .returned (.bool (isLow c)) ∧ w = w' := by
  have hc := c.toNat_lt
  by_cases a0 : 97 ≤ c.toNat <;> by_cases a1 : c.toNat ≤ 122
  all_goals
    first
      | (have V : Hid (isLow c = true) := by (show isLow c = true); simp only [isLow, Bool.and_eq_true, decide_eq_true_eq]; omega)
      | (have V : Hid (isLow c = false) := by (show isLow c = false); simp only [isLow, Bool.and_eq_false_iff, decide_eq_false_iff_not]; omega)
    generalize c.toNat = n at *
    go_enter Tryd.func46, Tryd.ntmps46
    go_wp2
    all_goals first | (exfalso; omega) | skip
    all_goals
      go_ret
      exact ⟨ret_bool (by first | (rw [V.out]; done) | (rw [V.out]; simp; done) | (rw [V.out]; simp; omega)), rfl⟩
set_option maxHeartbeats 1000000 in
theorem asciiDigit_any (c : UInt8) (w : World) : Calls Tryd.prog 56 #[.int .u8 c.toNat] w fun e w' => e = .returned (.bool (isDg c)) ∧ w = w' := by
  have hc := c.toNat_lt
  by_cases a0 : 48 ≤ c.toNat <;> by_cases a1 : c.toNat ≤ 57
  all_goals
    first
      | (have V : Hid (isDg c = true) := by (show isDg c = true); simp only [isDg, Bool.and_eq_true, decide_eq_true_eq]; omega)
      | (have V : Hid (isDg c = false) := by (show isDg c = false); simp only [isDg, Bool.and_eq_false_iff, decide_eq_false_iff_not]; omega)
    generalize c.toNat = n at *
    go_enter Tryd.func56, Tryd.ntmps56
    go_wp2
    all_goals first | (exfalso; omega) | skip
    all_goals
      go_ret
      exact ⟨ret_bool (by first | (rw [V.out]; done) | (rw [V.out]; simp; done) | (rw [V.out]; simp; omega)), rfl⟩
set_option maxRecDepth 100000 in
set_option maxHeartbeats 2000000 in
theorem isPermitted_any (c : UInt8) (w : World) : Calls Tryd.prog 45 #[.int .u8 c.toNat] w fun e w' => e = .returned (.bool (permB c)) ∧ w = w' := by
  have hc := c.toNat_lt
  have h1 := asciiLower_any c w
  have h2 := asciiDigit_any c w
  cases hx : isLow c with
  | true =>
    rw [hx] at h1
    have V : Hid (permB c = true) := by (show permB c = _); unfold permB; rw [hx]; rfl
    clear hx h2
    generalize permB c = v at *
    generalize c.toNat = n at *
    go_enter Tryd.func45, Tryd.ntmps45
    go_wp2_with (go_at_call 46; refine h1.mono ?_; rintro e w1 ⟨rfl, rfl⟩)
    all_goals first | (exfalso; omega) | skip
    all_goals
      go_ret
      exact ⟨ret_bool V.out.symm, rfl⟩
  | false =>
    rw [hx] at h1
    cases hy : isDg c with
    | true =>
      rw [hy] at h2
      have V : Hid (permB c = true) := by (show permB c = _); unfold permB; rw [hx, hy]; rfl
      clear hx hy
      generalize permB c = v at *
      generalize c.toNat = n at *
      go_enter Tryd.func45, Tryd.ntmps45
      go_wp2_with (first | (go_at_call 46; refine h1.mono ?_; rintro e w1 ⟨rfl, rfl⟩) | (go_at_call 56; refine h2.mono ?_; rintro e w1 ⟨rfl, rfl⟩))
      all_goals first | (exfalso; omega) | skip
      all_goals
        go_ret
        exact ⟨ret_bool V.out.symm, rfl⟩
    | false =>
      rw [hy] at h2
      by_cases e5 : c.toNat = 45
      · have b5 : ((c.toNat : Int) == 45) = true := by rw [e5]; rfl
        have V : Hid (permB c = true) := by (show permB c = _); unfold permB; rw [hx, hy, decide_eq_true e5]; rfl
        clear hx hy e5
        generalize permB c = v at *
        generalize c.toNat = n at *
        go_enter Tryd.func45, Tryd.ntmps45
        go_wp2_with (first | (go_at_call 46; refine h1.mono ?_; rintro e w1 ⟨rfl, rfl⟩) | (go_at_call 56; refine h2.mono ?_; rintro e w1 ⟨rfl, rfl⟩))
        all_goals first | (exfalso; omega) | skip
        all_goals
          go_ret
          exact ⟨ret_bool V.out.symm, rfl⟩
      · have b5 : ((c.toNat : Int) == 45) = false := by simp; omega
        by_cases e6 : c.toNat = 46
        · have b6 : ((c.toNat : Int) == 46) = true := by rw [e6]; rfl
          have V : Hid (permB c = true) := by (show permB c = _); unfold permB; rw [hx, hy, decide_eq_false e5, decide_eq_true e6]; rfl
          clear hx hy e6
          generalize permB c = v at *
          generalize c.toNat = n at *
          go_enter Tryd.func45, Tryd.ntmps45
          go_wp2_with (first | (go_at_call 46; refine h1.mono ?_; rintro e w1 ⟨rfl, rfl⟩) | (go_at_call 56; refine h2.mono ?_; rintro e w1 ⟨rfl, rfl⟩))
          all_goals first | (exfalso; omega) | skip
          all_goals
            go_ret
            exact ⟨ret_bool V.out.symm, rfl⟩
        · have b6 : ((c.toNat : Int) == 46) = false := by simp; omega
          have V : Hid (permB c = false) := by (show permB c = _); unfold permB; rw [hx, hy, decide_eq_false e5, decide_eq_false e6]; rfl
          clear hx hy
          generalize permB c = v at *
          generalize c.toNat = n at *
          go_enter Tryd.func45, Tryd.ntmps45
          go_wp2_with (first | (go_at_call 46; refine h1.mono ?_; rintro e w1 ⟨rfl, rfl⟩) | (go_at_call 56; refine h2.mono ?_; rintro e w1 ⟨rfl, rfl⟩))
          all_goals first | (exfalso; omega) | skip
          all_goals
            go_ret
            exact ⟨ret_bool V.out.symm, rfl⟩
set_option maxRecDepth 100000 in
set_option maxHeartbeats 8000000 in
theorem site_any (s : List UInt8) (w : World) (hl : s.length ≤ maxLen) : Calls Tryd.prog 34 #[enS s] w fun e w' => (∃ at_ : Int, e = .returned (.tuple #[.int .i64 at_, .int .i64 (siteE s : Nat)])) ∧ w = w' := by
  unfold maxLen at hl
  by_cases h0 : s = []
  · subst h0
    go_enter Tryd.func34, Tryd.ntmps34
    go_wp2_with fail
    go_ret2
    exact ⟨⟨_, rfl⟩, rfl⟩
  have hpos : 0 < s.length := List.length_pos_iff.2 h0
  have hem : s.isEmpty = false := by simp [h0]
  by_cases h30 : 30 < s.length
  · have V : Hid (siteE s = 5) := by (show siteE s = 5); unfold siteE; rw [if_neg h0, if_pos h30]
    generalize siteE s = v at *
    clear h0
    go_enter Tryd.func34, Tryd.ntmps34
    go_wp2_with fail
    go_ret2
    exact ⟨⟨_, by rw [V.out]; rfl⟩, rfl⟩
  have V0 : Hid (siteE s = if s.all permB = false then 6 else if (List.range s.length).any (badS s) then 12 else 0) := by (show siteE s = _); unfold siteE; rw [if_neg h0, if_neg h30]
  generalize siteE s = v at *
  clear h0
  go_enter Tryd.func34, Tryd.ntmps34
  go_wp2_with fail
  go_loopg [4, 17] s.length (fun gg _ iv wr => ∃ k : Nat, k ≤ s.length ∧ s.length - k ≤ gg ∧ iv = .int .i64 k ∧ w = wr ∧ Hid ((s.take k).all permB = true))
  case atStart => exact ⟨0, by omega, by omega, rfl, rfl, Lib.hid (by simp)⟩
  case round =>
    obtain ⟨k, hk, hg, rfl, rfl, A0⟩ := hrel
    by_cases hlt : k < s.length
    · have bg := bget (t := s) (p := k) (show k < s.toArray.size by simpa using hlt) hlt
      have hsn := take_all_snoc2 permB s k 0 hlt
      obtain ⟨c, hb⟩ : ∃ b, s.getD k 0 = b := ⟨_, rfl⟩
      rw [hb] at bg hsn
      have HB := Lib.hid hb; clear hb
      have HS := Lib.hid hsn; clear hsn
      have hc := c.toNat_lt
      have hp := isPermitted_any c w
      cases hq : permB c with
      | true =>
        rw [hq] at hp
        have HQ := Lib.hid hq; clear hq
        go_wp2_with (go_at_call 45; refine hp.mono ?_; rintro e w1 ⟨rfl, rfl⟩)
        go_roundg (s.length - (k + 1))
        case measure => omega
        case rel => exact ⟨k + 1, by omega, by omega, by go_num, rfl, (show (s.take (k + 1)).all permB = true by rw [HS.out, A0.out, HQ.out]; rfl)⟩
      | false =>
        rw [hq] at hp
        have HQ := Lib.hid hq; clear hq
        go_wp2_with (go_at_call 45; refine hp.mono ?_; rintro e w1 ⟨rfl, rfl⟩)
        go_ret2
        have hf : s.all permB = false := List.all_eq_false.2 ⟨c, by rw [← HB.out]; simp [hlt], by rw [HQ.out]; exact Bool.false_ne_true⟩
        exact ⟨⟨_, by rw [V0.out, if_pos hf]; rfl⟩, rfl⟩
    · obtain rfl : k = s.length := by omega
      rw [List.take_length] at A0
      have V1 : Hid (v = if (List.range s.length).any (badS s) then 12 else 0) := by (show v = _); rw [V0.out, if_neg (by rw [A0.out]; exact Bool.false_ne_true.symm)]
      clear V0 A0 hg
      go_wp2_with fail
      go_loopg [5, 6, 7, 29] s.length (fun gg _ _ _ iv wr => ∃ k : Nat, k ≤ s.length ∧ s.length - k ≤ gg ∧ iv = .int .i64 k ∧ w = wr ∧ Hid (∀ j, j < k → badS s j = false))
      case atStart => exact ⟨0, by omega, by omega, rfl, rfl, Lib.hid (by simp)⟩
      case round =>
        obtain ⟨k, hk, hg, rfl, rfl, A0⟩ := hrel
        by_cases hlt : k < s.length
        · have bg := bget (t := s) (p := k) (show k < s.toArray.size by simpa using hlt) hlt
          obtain ⟨c, hb⟩ : ∃ b, s.getD k 0 = b := ⟨_, rfl⟩
          have HV : Hid (badS s k = ((decide (k = 0) && !isLow c) || (decide (0 < k) && decide (c.toNat = 46) && decide ((s.getD (k - 1) 0).toNat = 46)) || (decide (k + 1 = s.length) && (decide (c.toNat = 45) || decide (c.toNat = 46))))) := by (show badS s k = _); unfold badS; rw [hb]
          rw [hb] at bg
          clear hb
          have hc := c.toNat_lt
          have HN : Hid (badS s k = false → ∀ j, j < k + 1 → badS s j = false) := Lib.hid fun h j hj => by
            rcases Nat.lt_or_ge j k with h2 | h2
            · exact A0.out j h2
            · rw [show j = k by omega]; exact h
          have HY : Hid (badS s k = true → v = 12) := Lib.hid fun h => by rw [V1.out, if_pos (List.any_eq_true.2 ⟨k, List.mem_range.2 hlt, h⟩)]
          generalize badS s k = bad at *
          have hlow : isLow c = (decide (97 ≤ c.toNat) && decide (c.toNat ≤ 122)) := rfl
          have HL := Lib.hid hlow
          clear hlow
          have hlo := asciiLower_any c w
          by_cases hk0 : k = 0
          · subst hk0
            by_cases hw : 97 ≤ c.toNat ∧ c.toNat ≤ 122
            · obtain ⟨l0, l1⟩ := hw
              have hv : isLow c = true := by rw [HL.out]; simp [l0, l1]
              rw [hv] at hlo
              have HR : Hid (bad = false) := by (show bad = _); rw [HV.out]; rw [hv]; simp; omega
              first | (have b5 : ((c.toNat : Int) == 45) = false := by simp; omega) | (have b5 : ((c.toNat : Int) == 45) = true := by simp; omega) | skip
              first | (have b6 : ((c.toNat : Int) == 46) = false := by simp; omega) | (have b6 : ((c.toNat : Int) == 46) = true := by simp; omega) | skip
              clear HV
              go_wp2_with (first | (go_at_call 46; refine hlo.mono ?_; rintro e w1 ⟨rfl, rfl⟩) | go_in)
              all_goals first | (exfalso; omega) | skip
              all_goals
                go_roundg (s.length - (0 + 1))
                case measure => omega
                case rel => exact ⟨0 + 1, by omega, by omega, by go_num, rfl, Lib.hid (HN.out HR.out)⟩
            · have hv : isLow c = false := by rw [HL.out]; simp; omega
              rw [hv] at hlo
              have HR : Hid (bad = true) := by (show bad = _); rw [HV.out]; rw [hv]; simp
              first | (have b5 : ((c.toNat : Int) == 45) = false := by simp; omega) | (have b5 : ((c.toNat : Int) == 45) = true := by simp; omega) | skip
              first | (have b6 : ((c.toNat : Int) == 46) = false := by simp; omega) | (have b6 : ((c.toNat : Int) == 46) = true := by simp; omega) | skip
              clear HV
              go_wp2_with (first | (go_at_call 46; refine hlo.mono ?_; rintro e w1 ⟨rfl, rfl⟩) | go_in)
              all_goals first | (exfalso; omega) | skip
              all_goals
                go_ret2
                exact ⟨⟨_, by rw [HY.out HR.out]; rfl⟩, rfl⟩
          · have hkp : 0 < k := by omega
            have bp := bget (t := s) (p := k - 1) (show k - 1 < s.toArray.size by simp; omega) (by omega)
            obtain ⟨d, hd⟩ : ∃ b, s.getD (k - 1) 0 = b := ⟨_, rfl⟩
            rw [hd] at bp HV
            have HD := Lib.hid hd; clear hd
            have hdl := d.toNat_lt
            by_cases e6 : c.toNat = 46
            · have ec : c = 46 := UInt8.toNat_inj.1 (by simpa using e6)
              by_cases d6 : d.toNat = 46
              · have HR : Hid (bad = true) := by (show bad = _); rw [HV.out]; simp [e6, d6, hkp]
                first | (have b5 : ((c.toNat : Int) == 45) = false := by simp; omega) | (have b5 : ((c.toNat : Int) == 45) = true := by simp; omega) | skip
                first | (have b6 : ((c.toNat : Int) == 46) = false := by simp; omega) | (have b6 : ((c.toNat : Int) == 46) = true := by simp; omega) | skip
                clear HV
                go_wp2_with (first | (go_at_call 46; refine hlo.mono ?_; rintro e w1 ⟨rfl, rfl⟩) | go_in)
                all_goals first | (exfalso; omega) | skip
                all_goals
                  go_ret2
                  exact ⟨⟨_, by rw [HY.out HR.out]; rfl⟩, rfl⟩
              · by_cases kl : k + 1 = s.length
                · have HR : Hid (bad = true) := by (show bad = _); rw [HV.out]; simp [e6, kl]
                  first | (have b5 : ((c.toNat : Int) == 45) = false := by simp; omega) | (have b5 : ((c.toNat : Int) == 45) = true := by simp; omega) | skip
                  first | (have b6 : ((c.toNat : Int) == 46) = false := by simp; omega) | (have b6 : ((c.toNat : Int) == 46) = true := by simp; omega) | skip
                  clear HV
                  go_wp2_with (first | (go_at_call 46; refine hlo.mono ?_; rintro e w1 ⟨rfl, rfl⟩) | go_in)
                  all_goals first | (exfalso; omega) | skip
                  all_goals
                    go_ret2
                    exact ⟨⟨_, by rw [HY.out HR.out]; rfl⟩, rfl⟩
                · have HR : Hid (bad = false) := by (show bad = _); rw [HV.out]; simp [d6, kl, hk0]
                  first | (have b5 : ((c.toNat : Int) == 45) = false := by simp; omega) | (have b5 : ((c.toNat : Int) == 45) = true := by simp; omega) | skip
                  first | (have b6 : ((c.toNat : Int) == 46) = false := by simp; omega) | (have b6 : ((c.toNat : Int) == 46) = true := by simp; omega) | skip
                  clear HV
                  go_wp2_with (first | (go_at_call 46; refine hlo.mono ?_; rintro e w1 ⟨rfl, rfl⟩) | go_in)
                  all_goals first | (exfalso; omega) | skip
                  all_goals
                    go_roundg (s.length - (k + 1))
                    case measure => omega
                    case rel => exact ⟨k + 1, by omega, by omega, by go_num, rfl, Lib.hid (HN.out HR.out)⟩
            · by_cases kl : k + 1 = s.length
              · by_cases e5 : c.toNat = 45
                · have HR : Hid (bad = true) := by (show bad = _); rw [HV.out]; simp [e5, kl]
                  first | (have b5 : ((c.toNat : Int) == 45) = false := by simp; omega) | (have b5 : ((c.toNat : Int) == 45) = true := by simp; omega) | skip
                  first | (have b6 : ((c.toNat : Int) == 46) = false := by simp; omega) | (have b6 : ((c.toNat : Int) == 46) = true := by simp; omega) | skip
                  clear HV
                  go_wp2_with (first | (go_at_call 46; refine hlo.mono ?_; rintro e w1 ⟨rfl, rfl⟩) | go_in)
                  all_goals first | (exfalso; omega) | skip
                  all_goals
                    go_ret2
                    exact ⟨⟨_, by rw [HY.out HR.out]; rfl⟩, rfl⟩
                · have HR : Hid (bad = false) := by (show bad = _); rw [HV.out]; simp [e5, e6, hk0]
                  first | (have b5 : ((c.toNat : Int) == 45) = false := by simp; omega) | (have b5 : ((c.toNat : Int) == 45) = true := by simp; omega) | skip
                  first | (have b6 : ((c.toNat : Int) == 46) = false := by simp; omega) | (have b6 : ((c.toNat : Int) == 46) = true := by simp; omega) | skip
                  clear HV
                  go_wp2_with (first | (go_at_call 46; refine hlo.mono ?_; rintro e w1 ⟨rfl, rfl⟩) | go_in)
                  all_goals first | (exfalso; omega) | skip
                  all_goals
                    go_roundg (s.length - (k + 1))
                    case measure => omega
                    case rel => exact ⟨k + 1, by omega, by omega, by go_num, rfl, Lib.hid (HN.out HR.out)⟩
              · have HR : Hid (bad = false) := by (show bad = _); rw [HV.out]; simp [e6, kl, hk0]
                first | (have b5 : ((c.toNat : Int) == 45) = false := by simp; omega) | (have b5 : ((c.toNat : Int) == 45) = true := by simp; omega) | skip
                first | (have b6 : ((c.toNat : Int) == 46) = false := by simp; omega) | (have b6 : ((c.toNat : Int) == 46) = true := by simp; omega) | skip
                clear HV
                go_wp2_with (first | (go_at_call 46; refine hlo.mono ?_; rintro e w1 ⟨rfl, rfl⟩) | go_in)
                all_goals first | (exfalso; omega) | skip
                all_goals
                  go_roundg (s.length - (k + 1))
                  case measure => omega
                  case rel => exact ⟨k + 1, by omega, by omega, by go_num, rfl, Lib.hid (HN.out HR.out)⟩
        · obtain rfl : k = s.length := by omega
          have hf : ¬ (List.range s.length).any (badS s) = true := fun h => by
            obtain ⟨j, hj, e⟩ := List.any_eq_true.1 h
            rw [A0.out j (List.mem_range.1 hj)] at e
            cases e
          have HF := Lib.hid hf
          clear hf
          go_wp2_with fail
          go_ret2
          exact ⟨⟨_, by rw [V1.out, if_neg HF.out]; rfl⟩, rfl⟩
set_option maxRecDepth 100000 in
set_option maxHeartbeats 8000000 in
theorem refSite_any (s : List UInt8) (w : World) (hl : s.length ≤ maxLen) : Calls Tryd.prog 32 #[enS s] w fun e w' => (∃ at_ : Int, e = .returned (.tuple #[.int .i64 at_, .int .i64 (siteE s : Nat)])) ∧ w = w' := by
  unfold maxLen at hl
  by_cases h0 : s = []
  · subst h0
    go_enter Tryd.func32, Tryd.ntmps32
    go_wp2_with fail
    go_ret2
    exact ⟨⟨_, rfl⟩, rfl⟩
  have hpos : 0 < s.length := List.length_pos_iff.2 h0
  have hem : s.isEmpty = false := by simp [h0]
  by_cases h30 : 30 < s.length
  · have V : Hid (siteE s = 5) := by (show siteE s = 5); unfold siteE; rw [if_neg h0, if_pos h30]
    generalize siteE s = v at *
    clear h0
    go_enter Tryd.func32, Tryd.ntmps32
    go_wp2_with fail
    go_ret2
    exact ⟨⟨_, by rw [V.out]; rfl⟩, rfl⟩
  have V0 : Hid (siteE s = if s.all permB = false then 6 else if (List.range s.length).any (badS s) then 12 else 0) := by (show siteE s = _); unfold siteE; rw [if_neg h0, if_neg h30]
  generalize siteE s = v at *
  clear h0
  go_enter Tryd.func32, Tryd.ntmps32
  go_wp2_with fail
  go_loopg [4, 5] s.length (fun gg iv _ wr => ∃ k : Nat, k ≤ s.length ∧ s.length - k ≤ gg ∧ iv = .int .i64 k ∧ w = wr ∧ Hid ((s.take k).all permB = true))
  case atStart => exact ⟨0, by omega, by omega, rfl, rfl, Lib.hid (by simp)⟩
  case round =>
    obtain ⟨k, hk, hg, rfl, rfl, A0⟩ := hrel
    by_cases hlt : k < s.length
    · have bg := bget (t := s) (p := k) (show k < s.toArray.size by simpa using hlt) hlt
      have hsn := take_all_snoc2 permB s k 0 hlt
      obtain ⟨c, hb⟩ : ∃ b, s.getD k 0 = b := ⟨_, rfl⟩
      rw [hb] at bg hsn
      have HB := Lib.hid hb; clear hb
      have HS := Lib.hid hsn; clear hsn
      have hc := c.toNat_lt
      have HV : Hid (permB c = ((decide (97 ≤ c.toNat) && decide (c.toNat ≤ 122)) || (decide (48 ≤ c.toNat) && decide (c.toNat ≤ 57)) || decide (c.toNat = 45) || decide (c.toNat = 46))) := Lib.hid rfl
      obtain ⟨q, hq⟩ : ∃ q, permB c = q := ⟨_, rfl⟩
      rw [hq] at HV HS
      have HQ : Hid (q = false → s.all permB = false) := Lib.hid fun e => List.all_eq_false.2 ⟨c, by rw [← HB.out]; simp [hlt], by rw [hq, e]; exact Bool.false_ne_true⟩
      clear hq
      by_cases a0 : 97 ≤ c.toNat <;> by_cases a1 : c.toNat ≤ 122 <;> by_cases b0 : 48 ≤ c.toNat <;> by_cases b1 : c.toNat ≤ 57 <;> by_cases e0 : c.toNat = 45 <;> by_cases e1 : c.toNat = 46
      all_goals first | (exfalso; omega) | skip
      all_goals
        first | (have Q : Hid (q = true) := by (show q = true); rw [HV.out]; simp only [a0, a1, b0, b1, e0, e1, decide_true, decide_false]; decide) | (have Q : Hid (q = false) := by (show q = false); rw [HV.out]; simp only [a0, a1, b0, b1, e0, e1, decide_true, decide_false]; decide)
        first | (have b5 : ((c.toNat : Int) == 45) = false := by simp; omega) | (have b5 : ((c.toNat : Int) == 45) = true := by simp; omega)
        first | (have b6 : ((c.toNat : Int) == 46) = false := by simp; omega) | (have b6 : ((c.toNat : Int) == 46) = true := by simp; omega)
        try (have d57 : decide ((c.toNat : Int) ≤ 57) = false := decide_eq_false (by omega))
        try (have d122 : decide ((c.toNat : Int) ≤ 122) = false := decide_eq_false (by omega))
        clear HV e0 e1
        go_wp2_with fail
        all_goals first | (exfalso; omega) | skip
      all_goals first
        | (go_roundg (s.length - (k + 1))
           case measure => omega
           case rel => exact ⟨k + 1, by omega, by omega, by go_num, rfl, (show (s.take (k + 1)).all permB = true by rw [HS.out, A0.out, Q.out]; rfl)⟩)
        | (go_ret2
           have hf := HQ.out Q.out
           exact ⟨⟨_, by rw [V0.out, if_pos hf]; rfl⟩, rfl⟩)
    · obtain rfl : k = s.length := by omega
      rw [List.take_length] at A0
      have V1 : Hid (v = if (List.range s.length).any (badS s) then 12 else 0) := by (show v = _); rw [V0.out, if_neg (by rw [A0.out]; exact Bool.false_ne_true.symm)]
      clear V0 A0 hg
      go_wp2_with fail
      go_loopg [6, 7, 8] s.length (fun gg iv _ _ wr => ∃ k : Nat, k ≤ s.length ∧ s.length - k ≤ gg ∧ iv = .int .i64 k ∧ w = wr ∧ Hid (∀ j, j < k → badS s j = false))
      case atStart => exact ⟨0, by omega, by omega, rfl, rfl, Lib.hid (by simp)⟩
      case round =>
        obtain ⟨k, hk, hg, rfl, rfl, A0⟩ := hrel
        by_cases hlt : k < s.length
        · have bg := bget (t := s) (p := k) (show k < s.toArray.size by simpa using hlt) hlt
          obtain ⟨c, hb⟩ : ∃ b, s.getD k 0 = b := ⟨_, rfl⟩
          have HV : Hid (badS s k = ((decide (k = 0) && !isLow c) || (decide (0 < k) && decide (c.toNat = 46) && decide ((s.getD (k - 1) 0).toNat = 46)) || (decide (k + 1 = s.length) && (decide (c.toNat = 45) || decide (c.toNat = 46))))) := by (show badS s k = _); unfold badS; rw [hb]
          rw [hb] at bg
          clear hb
          have hc := c.toNat_lt
          have HN : Hid (badS s k = false → ∀ j, j < k + 1 → badS s j = false) := Lib.hid fun h j hj => by
            rcases Nat.lt_or_ge j k with h2 | h2
            · exact A0.out j h2
            · rw [show j = k by omega]; exact h
          have HY : Hid (badS s k = true → v = 12) := Lib.hid fun h => by rw [V1.out, if_pos (List.any_eq_true.2 ⟨k, List.mem_range.2 hlt, h⟩)]
          generalize badS s k = bad at *
          have hlow : isLow c = (decide (97 ≤ c.toNat) && decide (c.toNat ≤ 122)) := rfl
          have HL := Lib.hid hlow
          clear hlow
          by_cases hk0 : k = 0
          · subst hk0
            by_cases hw : 97 ≤ c.toNat ∧ c.toNat ≤ 122
            · obtain ⟨l0, l1⟩ := hw
              have hv : isLow c = true := by rw [HL.out]; simp [l0, l1]
              have HR : Hid (bad = false) := by (show bad = _); rw [HV.out]; rw [hv]; simp; omega
              first | (have b5 : ((c.toNat : Int) == 45) = false := by simp; omega) | (have b5 : ((c.toNat : Int) == 45) = true := by simp; omega) | skip
              first | (have b6 : ((c.toNat : Int) == 46) = false := by simp; omega) | (have b6 : ((c.toNat : Int) == 46) = true := by simp; omega) | skip
              clear HV
              go_wp2_with fail
              all_goals first | (exfalso; omega) | skip
              all_goals
                go_roundg (s.length - (0 + 1))
                case measure => omega
                case rel => exact ⟨0 + 1, by omega, by omega, by go_num, rfl, Lib.hid (HN.out HR.out)⟩
            · have hv : isLow c = false := by rw [HL.out]; simp; omega
              have hw1 : ¬ 97 ≤ c.toNat ∨ ¬ c.toNat ≤ 122 := by omega
              by_cases l0 : 97 ≤ c.toNat <;> by_cases l1 : c.toNat ≤ 122
              all_goals first | (exfalso; omega) | skip
              all_goals
                have HR : Hid (bad = true) := by (show bad = _); rw [HV.out]; rw [hv]; simp
                first | (have b5 : ((c.toNat : Int) == 45) = false := by simp; omega) | (have b5 : ((c.toNat : Int) == 45) = true := by simp; omega) | skip
                first | (have b6 : ((c.toNat : Int) == 46) = false := by simp; omega) | (have b6 : ((c.toNat : Int) == 46) = true := by simp; omega) | skip
                clear HV
                go_wp2_with fail
                all_goals first | (exfalso; omega) | skip
                all_goals
                  go_ret2
                  exact ⟨⟨_, by rw [HY.out HR.out]; rfl⟩, rfl⟩
          · have hkp : 0 < k := by omega
            have bp := bget (t := s) (p := k - 1) (show k - 1 < s.toArray.size by simp; omega) (by omega)
            obtain ⟨d, hd⟩ : ∃ b, s.getD (k - 1) 0 = b := ⟨_, rfl⟩
            rw [hd] at bp HV
            have HD := Lib.hid hd; clear hd
            have hdl := d.toNat_lt
            by_cases e6 : c.toNat = 46
            · have ec : c = 46 := UInt8.toNat_inj.1 (by simpa using e6)
              by_cases d6 : d.toNat = 46
              · have HR : Hid (bad = true) := by (show bad = _); rw [HV.out]; simp [e6, d6, hkp]
                first | (have b5 : ((c.toNat : Int) == 45) = false := by simp; omega) | (have b5 : ((c.toNat : Int) == 45) = true := by simp; omega) | skip
                first | (have b6 : ((c.toNat : Int) == 46) = false := by simp; omega) | (have b6 : ((c.toNat : Int) == 46) = true := by simp; omega) | skip
                clear HV
                go_wp2_with fail
                all_goals first | (exfalso; omega) | skip
                all_goals
                  go_ret2
                  exact ⟨⟨_, by rw [HY.out HR.out]; rfl⟩, rfl⟩
              · by_cases kl : k + 1 = s.length
                · have HR : Hid (bad = true) := by (show bad = _); rw [HV.out]; simp [e6, kl]
                  first | (have b5 : ((c.toNat : Int) == 45) = false := by simp; omega) | (have b5 : ((c.toNat : Int) == 45) = true := by simp; omega) | skip
                  first | (have b6 : ((c.toNat : Int) == 46) = false := by simp; omega) | (have b6 : ((c.toNat : Int) == 46) = true := by simp; omega) | skip
                  clear HV
                  go_wp2_with fail
                  all_goals first | (exfalso; omega) | skip
                  all_goals
                    go_ret2
                    exact ⟨⟨_, by rw [HY.out HR.out]; rfl⟩, rfl⟩
                · have HR : Hid (bad = false) := by (show bad = _); rw [HV.out]; simp [d6, kl, hk0]
                  first | (have b5 : ((c.toNat : Int) == 45) = false := by simp; omega) | (have b5 : ((c.toNat : Int) == 45) = true := by simp; omega) | skip
                  first | (have b6 : ((c.toNat : Int) == 46) = false := by simp; omega) | (have b6 : ((c.toNat : Int) == 46) = true := by simp; omega) | skip
                  clear HV
                  go_wp2_with fail
                  all_goals first | (exfalso; omega) | skip
                  all_goals
                    go_roundg (s.length - (k + 1))
                    case measure => omega
                    case rel => exact ⟨k + 1, by omega, by omega, by go_num, rfl, Lib.hid (HN.out HR.out)⟩
            · by_cases kl : k + 1 = s.length
              · by_cases e5 : c.toNat = 45
                · have HR : Hid (bad = true) := by (show bad = _); rw [HV.out]; simp [e5, kl]
                  first | (have b5 : ((c.toNat : Int) == 45) = false := by simp; omega) | (have b5 : ((c.toNat : Int) == 45) = true := by simp; omega) | skip
                  first | (have b6 : ((c.toNat : Int) == 46) = false := by simp; omega) | (have b6 : ((c.toNat : Int) == 46) = true := by simp; omega) | skip
                  clear HV
                  go_wp2_with fail
                  all_goals first | (exfalso; omega) | skip
                  all_goals
                    go_ret2
                    exact ⟨⟨_, by rw [HY.out HR.out]; rfl⟩, rfl⟩
                · have HR : Hid (bad = false) := by (show bad = _); rw [HV.out]; simp [e5, e6, hk0]
                  first | (have b5 : ((c.toNat : Int) == 45) = false := by simp; omega) | (have b5 : ((c.toNat : Int) == 45) = true := by simp; omega) | skip
                  first | (have b6 : ((c.toNat : Int) == 46) = false := by simp; omega) | (have b6 : ((c.toNat : Int) == 46) = true := by simp; omega) | skip
                  clear HV
                  go_wp2_with fail
                  all_goals first | (exfalso; omega) | skip
                  all_goals
                    go_roundg (s.length - (k + 1))
                    case measure => omega
                    case rel => exact ⟨k + 1, by omega, by omega, by go_num, rfl, Lib.hid (HN.out HR.out)⟩
              · have HR : Hid (bad = false) := by (show bad = _); rw [HV.out]; simp [e6, kl, hk0]
                first | (have b5 : ((c.toNat : Int) == 45) = false := by simp; omega) | (have b5 : ((c.toNat : Int) == 45) = true := by simp; omega) | skip
                first | (have b6 : ((c.toNat : Int) == 46) = false := by simp; omega) | (have b6 : ((c.toNat : Int) == 46) = true := by simp; omega) | skip
                clear HV
                go_wp2_with fail
                all_goals first | (exfalso; omega) | skip
                all_goals
                  go_roundg (s.length - (k + 1))
                  case measure => omega
                  case rel => exact ⟨k + 1, by omega, by omega, by go_num, rfl, Lib.hid (HN.out HR.out)⟩
        · obtain rfl : k = s.length := by omega
          have hf : ¬ (List.range s.length).any (badS s) = true := fun h => by
            obtain ⟨j, hj, e⟩ := List.any_eq_true.1 h
            rw [A0.out j (List.mem_range.1 hj)] at e
            cases e
          have HF := Lib.hid hf
          clear hf
          go_wp2_with fail
          go_ret2
          exact ⟨⟨_, by rw [V1.out, if_neg HF.out]; rfl⟩, rfl⟩
end Go.Proofs.YthgefcoaaommkaaDoor
