/- Contracts of the reference: Component, Check, Text; and of the statements' own same and short. -/
import Derived.Test.YthgefcoaaommkaaDoorGnRef
namespace Go.Proofs.YthgefcoaaommkaaDoor
open Go.RowKit Go.Gn

/-- The cases of a byte of a component, as the reference tests them. -/
theorem okB_cases (c : UInt8) :
    (okB c = true ∧ (97 : Int) ≤ c.toNat ∧ (c.toNat : Int) ≤ 122) ∨
    (okB c = true ∧ (c.toNat : Int) < 97 ∧ (48 : Int) ≤ c.toNat ∧ (c.toNat : Int) ≤ 57) ∨
    (okB c = true ∧ (c.toNat : Int) < 97 ∧ (c.toNat : Int) < 48 ∧ ((c.toNat : Int) == 45) = true) ∨
    (okB c = true ∧ (c.toNat : Int) < 97 ∧ (c.toNat : Int) < 48 ∧ ((c.toNat : Int) == 45) = false ∧ ((c.toNat : Int) == 43) = true) ∨
    (okB c = true ∧ (c.toNat : Int) < 97 ∧ (48 : Int) ≤ c.toNat ∧ (57 : Int) < c.toNat ∧ ((c.toNat : Int) == 45) = false ∧ ((c.toNat : Int) == 43) = false ∧ ((c.toNat : Int) == 95) = true) ∨
    (okB c = false ∧ (c.toNat : Int) < 97 ∧ (c.toNat : Int) < 48 ∧ ((c.toNat : Int) == 45) = false ∧ ((c.toNat : Int) == 43) = false ∧ ((c.toNat : Int) == 95) = false) ∨
    (okB c = false ∧ (c.toNat : Int) < 97 ∧ (48 : Int) ≤ c.toNat ∧ (57 : Int) < c.toNat ∧ ((c.toNat : Int) == 45) = false ∧ ((c.toNat : Int) == 43) = false ∧ ((c.toNat : Int) == 95) = false) ∨
    (okB c = false ∧ (97 : Int) ≤ c.toNat ∧ (122 : Int) < c.toNat ∧ (48 : Int) ≤ c.toNat ∧ (57 : Int) < c.toNat ∧ ((c.toNat : Int) == 45) = false ∧ ((c.toNat : Int) == 43) = false ∧ ((c.toNat : Int) == 95) = false) := by
  have e : okB c = decide ((97 ≤ c.toNat ∧ c.toNat ≤ 122) ∨ (48 ≤ c.toNat ∧ c.toNat ≤ 57) ∨ c.toNat = 45 ∨ c.toNat = 43 ∨ c.toNat = 95) := by
    rw [Bool.eq_iff_iff]; simp only [okB, isLow, Bool.or_eq_true, Bool.and_eq_true, decide_eq_true_eq, or_assoc]
  rw [e]
  simp only [decide_eq_true_eq, decide_eq_false_iff_not, beq_iff_eq, beq_eq_false_iff_ne, ne_eq]
  omega
theorem isLow_cases (c : UInt8) :
    (isLow c = true ∧ (97 : Int) ≤ c.toNat ∧ (c.toNat : Int) ≤ 122) ∨ (isLow c = false ∧ (c.toNat : Int) < 97) ∨ (isLow c = false ∧ (97 : Int) ≤ c.toNat ∧ (122 : Int) < c.toNat) := by
  have e : isLow c = decide (97 ≤ c.toNat ∧ c.toNat ≤ 122) := by
    rw [Bool.eq_iff_iff]; simp only [isLow, Bool.and_eq_true, decide_eq_true_eq]
  rw [e]
  simp only [decide_eq_true_eq, decide_eq_false_iff_not]
  omega
theorem take_all_snoc {α : Type} (p : α → Bool) (s : List α) (k : Nat) (d : α) (hk : k < s.length) : (s.take (k + 1)).all p = ((s.take k).all p && p (s.getD k d)) := by
  rw [List.take_succ_eq_append_getElem hk, List.all_append]; simp [hk]

set_option maxRecDepth 100000 in
set_option maxHeartbeats 4000000 in
theorem refComponent_any (s : List UInt8) (w : World) (hl : s.length ≤ 1000000000) : Calls Tryd.prog 51 #[enS s] w fun e w' => e = .returned (.bool (comp s)) ∧ w = w' := by
  by_cases h0 : s.length < 1
  · have V : Hid (comp s = false) := by (show comp s = false); unfold comp; rw [decide_eq_false (show ¬ 1 ≤ s.length by omega)]; rfl
    have h1 : s.length = 0 := by omega
    clear h1
    go_enter Tryd.func51, Tryd.ntmps51
    go_wp2
    go_ret
    exact ⟨ret_bool V.out.symm, rfl⟩
  · have hpos : 0 < s.length := by omega
    by_cases h20 : 20 < s.length
    · have V : Hid (comp s = false) := by (show comp s = false); unfold comp; rw [show decide (s.length ≤ 20) = false by simp; omega]; simp
      go_enter Tryd.func51, Tryd.ntmps51
      go_wp2
      go_ret
      exact ⟨ret_bool V.out.symm, rfl⟩
    · have bg := bget (t := s) (p := 0) (show 0 < s.toArray.size by simpa using hpos) hpos
      obtain ⟨c, hc⟩ : ∃ c, s.getD 0 0 = c := ⟨_, rfl⟩
      rw [hc] at bg
      have HC := Lib.hid hc; clear hc
      rcases isLow_cases c with ⟨hq, c1, c2⟩ | ⟨hq, c1⟩ | ⟨hq, c1, c2⟩
      · have V : Hid (comp s = s.all okB) := by
          show comp s = _
          unfold comp; rw [HC.out, hq, show decide (s.length ≤ 20) = true by simp; omega, show decide (1 ≤ s.length) = true by simp; omega]; rfl
        have V0 : Hid ((s.take 1).all okB = true) := by
          show (s.take 1).all okB = true
          rw [take_all_snoc okB s 0 0 hpos, HC.out]; simp [okB_low hq]
        clear hq HC
        go_enter Tryd.func51, Tryd.ntmps51
        go_wp2
        clear bg c1 c2
        go_loopg [3, 4] s.length (fun gg iv _ wr => ∃ k : Nat, 1 ≤ k ∧ k ≤ s.length ∧ s.length - k ≤ gg ∧ iv = .int .i64 k ∧ w = wr ∧ Hid ((s.take k).all okB = true))
        case atStart => exact ⟨1, by omega, by omega, by omega, rfl, rfl, V0⟩
        case round =>
          obtain ⟨k, hk1, hk, hg, rfl, rfl, A0⟩ := hrel
          by_cases hlt : k < s.length
          · have bg := bget (t := s) (p := k) (show k < s.toArray.size by simpa using hlt) hlt
            have hsn := take_all_snoc okB s k 0 hlt
            obtain ⟨b, hb⟩ : ∃ b, s.getD k 0 = b := ⟨_, rfl⟩
            rw [hb] at bg hsn
            have HB := Lib.hid hb; clear hb
            have HS := Lib.hid hsn; clear hsn
            rcases okB_cases b with ⟨hq, q1, q2⟩ | ⟨hq, q1, q2, q3⟩ | ⟨hq, q1, q2, q3⟩ | ⟨hq, q1, q2, q3, q4⟩ | ⟨hq, q1, q2, q3, q4, q5, q6⟩ | ⟨hq, q1, q2, q3, q4, q5⟩ | ⟨hq, q1, q2, q3, q4, q5, q6⟩ | ⟨hq, q1, q2, q3, q4, q5, q6, q7⟩
            all_goals
              have HQ := Lib.hid hq; clear hq
              try (have d57 : decide ((b.toNat : Int) ≤ 57) = false := decide_eq_false (by omega))
              try (have d122 : decide ((b.toNat : Int) ≤ 122) = false := decide_eq_false (by omega))
              go_wp2
            all_goals first
              | (go_roundg (s.length - (k + 1))
                 case measure => omega
                 case rel => exact ⟨k + 1, by omega, by omega, by omega, by go_num, rfl, (show (s.take (k + 1)).all okB = true by rw [HS.out, A0.out, HQ.out]; rfl)⟩)
              | (go_ret
                 refine ⟨ret_bool ?_, rfl⟩
                 rw [V.out]
                 refine (List.all_eq_false.2 ⟨b, ?_, by rw [HQ.out]; simp⟩).symm
                 rw [← HB.out]
                 simp [hlt])
          · obtain rfl : k = s.length := by omega
            rw [List.take_length] at A0
            go_wp2
            go_ret
            exact ⟨ret_bool (by rw [V.out, A0.out]), rfl⟩
      all_goals
        have V : Hid (comp s = false) := by (show comp s = false); unfold comp; rw [HC.out, hq]; simp
        clear hq HC
        go_enter Tryd.func51, Tryd.ntmps51
        go_wp2
        go_ret
        exact ⟨ret_bool V.out.symm, rfl⟩
end Go.Proofs.YthgefcoaaommkaaDoor
