/- Contracts of the scanner's skip and blanks, of the function is, and of the scanner's number. -/
import Derived.Test.YtpdncgfkoibacaaDoorNeed
import Derived.Deep.LoopGhost
namespace Go.Proofs.YtpdncgfkoibacaaDoor
open Go.RowKit

theorem takeWhile_count (q : UInt8 → Bool) : ∀ (l : List UInt8) (k : Nat), k ≤ l.length → (∀ i, i < k → q (l.getD i 0) = true) → (k < l.length → q (l.getD k 0) = false) → (l.takeWhile q).length = k
  | [], k, hk, _, _ => by simp at hk; simp [hk]
  | a :: l, 0, _, _, h2 => by
    have := h2 (by simp)
    simp at this
    simp [this]
  | a :: l, k + 1, hk, h1, h2 => by
    have ha := h1 0 (by omega)
    simp at ha
    simp only [List.takeWhile_cons, ha, if_true, List.length_cons]
    rw [takeWhile_count q l k (by simpa using hk) (fun i hi => by have := h1 (i + 1) (by omega); simpa using this) (fun hlt => by have := h2 (by simpa using hlt); simpa using this)]
theorem skip_eq {t : List UInt8} {q : UInt8 → Bool} {s : St} (k : Nat) (h0 : s.e = 0) (hk : s.p + k ≤ t.length) (h1 : ∀ i, i < k → q (at0 t (s.p + i)) = true) (h2 : s.p + k < t.length → q (at0 t (s.p + k)) = false) : skip t q s = ⟨s.p + k, s.e⟩ := by
  unfold skip
  rw [if_pos h0, takeWhile_count q (t.drop s.p) k (by simp; omega) (fun i hi => by have := h1 i hi; simpa [at0] using this) (fun hlt => by have := h2 (by simp at hlt; omega); simpa [at0] using this)]

set_option maxRecDepth 100000 in
set_option maxHeartbeats 1000000 in
theorem skip_bl (b : Nat) (t : List UInt8) (s : St) (w : World) (h : Scn w b t s) (hl : t.length ≤ 1000) (hp : s.p ≤ t.length) :
    Calls Tryd.prog 64 #[.pointer (some ⟨b, 0, none⟩), .func (.func 65) #[] #[]] w fun e w' => e = .returned (.tuple #[]) ∧ Scn w' b t (skip t isBl s) ∧ But b w w' := by
  have HS := Lib.hid h; clear h
  go_enter Tryd.func64, Tryd.ntmps64
  go_wp2_with fail
  go_loopg [] (t.length - s.p) (fun g wr => ∃ k : Nat, g = t.length - s.p - k ∧ s.p + k ≤ t.length ∧ Scn wr b t ⟨s.p + k, s.e⟩ ∧ But b w wr ∧ (∀ i, i < k → isBl (at0 t (s.p + i)) = true) ∧ (0 < k → s.e = 0))
  case atStart => exact ⟨0, by omega, by omega, HS.out, But.refl _ _, fun i hi => absurd hi (by omega), fun h => absurd h (by omega)⟩
  case round =>
    obtain ⟨k, rfl, hk, hS, hB, h1, h2⟩ := hrel
    have A := Lib.hid (And.intro hS (And.intro h1 h2))
    clear hS h1 h2
    go_wp2_with fail
    refine (sees_bl b t ⟨s.p + k, s.e⟩ wr A.out.1 hl hk).mono ?_
    rintro e w1 ⟨rfl, b1⟩
    cases hs : sees t isBl ⟨s.p + k, s.e⟩ with
    | true =>
      have hs' := hs
      simp only [sees, Bool.and_eq_true, decide_eq_true_eq, beq_iff_eq] at hs'
      have X := Lib.hid hs'
      have hlt := hs'.1.2
      clear hs' hs
      have S1 := Lib.hid (A.out.1.below b1)
      have c1 := S1.out.c1
      have f1 := S1.out.free 1
      have S2 := Lib.hid (S1.out.set1 (s.p + k + 1))
      dsimp only at c1 hlt
      go_wp2_with fail
      go_roundg (t.length - s.p - (k + 1))
      case measure => omega
      case rel => exact ⟨k + 1, rfl, by omega, S2.out, (hB.trans (But.of_below b1)).setCell _, fun i hi => by
          rcases Nat.lt_succ_iff_lt_or_eq.1 hi with h | h
          · exact A.out.2.1 i h
          · subst h; exact X.out.2, fun _ => X.out.1.1⟩
    | false =>
      have X := Lib.hid hs; clear hs
      have S1 := Lib.hid (A.out.1.below b1)
      go_wp2_with fail
      go_end0
      refine ⟨rfl, ?_, hB.trans (But.of_below b1)⟩
      have hx := X.out
      by_cases h0 : s.e = 0
      · rw [skip_eq k h0 hk A.out.2.1 (fun hlt => by simpa [sees, h0, hlt] using hx)]
        exact S1.out
      · have hk0 : k = 0 := by
          rcases Nat.eq_zero_or_pos k with h | h
          · exact h
          · exact absurd (A.out.2.2 h) h0
        subst hk0
        have : skip t isBl s = s := by unfold skip; rw [if_neg h0]
        rw [this]; exact S1.out

set_option maxHeartbeats 1000000 in
theorem blanks_any (b : Nat) (t : List UInt8) (s : St) (w : World) (h : Scn w b t s) (hl : t.length ≤ 1000) (hp : s.p ≤ t.length) :
    Calls Tryd.prog 66 #[.pointer (some ⟨b, 0, none⟩)] w fun e w' => e = .returned (.tuple #[]) ∧ Scn w' b t (blanks t s) ∧ But b w w' := by
  have HS := Lib.hid h; clear h
  go_enter Tryd.func66, Tryd.ntmps66
  go_wp2_with fail
  refine (need_bl b t s w HS.out hl hp).mono ?_
  rintro e w1 ⟨rfl, S1, b1⟩
  have S1' := Lib.hid S1; clear S1
  go_wp2_with fail
  refine (skip_bl b t _ w1 S1'.out hl (need_p hp)).mono ?_
  rintro e w2 ⟨rfl, S2, b2⟩
  have S2' := Lib.hid S2; clear S2
  go_wp2_with fail
  go_end0
  exact ⟨rfl, S2'.out, b1.trans b2⟩

set_option maxHeartbeats 400000 in
theorem is_any (x : UInt8) (w : World) :
    Calls Tryd.prog 63 #[.int .u8 x.toNat] w fun e w' => e = .returned (.func (.func 80) #[] #[.pointer (some ⟨w.heap.size, 0, none⟩)]) ∧ w'.cell? ⟨w.heap.size, 0, none⟩ = some (.int .u8 x.toNat) ∧ Below w.heap.size w w' := by
  go_enter Tryd.func63, Tryd.ntmps63
  go_wp2
  go_ret
  exact ⟨rfl, by simp, (Below.refl _ _).alloc (Nat.le_refl _) _⟩

set_option maxRecDepth 100000 in
set_option maxHeartbeats 2000000 in
theorem number_any (b : Nat) (t : List UInt8) (s : St) (d m : Nat) (w : World) (h : Scn w b t s) (hl : t.length ≤ 1000) (hp : s.p ≤ t.length) (hd : d ≤ 4) (hm : m ≤ 1) :
    Calls Tryd.prog 55 #[.pointer (some ⟨b, 0, none⟩), .int .i64 d, .int .i64 m] w fun e w' => e = .returned (.tuple #[.int .i64 s.p, .int .i64 (numV t d (m == 1) s)]) ∧ Scn w' b t (numS t d (m == 1) s) ∧ But b w w' := by
  have c1 := h.c1
  have HS := Lib.hid h; clear h
  go_enter Tryd.func55, Tryd.ntmps55
  go_wp2_with fail
  clear c1
  go_loopw [7, 13] (fun n i wr => ∃ k : Nat, k ≤ d ∧ i = .int .i64 k ∧ n = .int .i64 (digV t k s) ∧ Scn wr b t (digS t k s) ∧ But b w wr) (fun _ i _ => d - (intOf i).toNat)
  case atStart => exact ⟨0, by omega, rfl, rfl, HS.out, But.refl _ _⟩
  case round =>
    obtain ⟨k, hk, rfl, rfl, hS, hB⟩ := hrel
    have A := Lib.hid hS; clear hS
    have vb := digV_small t s k (by omega)
    by_cases hlt : k < d
    · have hc := (needB t isDig (digS t k s)).toNat_lt
      have HV : Hid (digV t (k + 1) s = 10 * digV t k s + (needB t isDig (digS t k s)).toNat - 48) := rfl
      have HP := Lib.hid (digS_p hp k)
      go_wp2_with fail
      refine (need_dig b t _ _ A.out hl HP.out).mono ?_
      rintro e w1 ⟨rfl, S1, b1⟩
      have S1' := Lib.hid S1; clear S1
      generalize (needB t isDig (digS t k s)).toNat = c at *
      go_wp2_with fail
      go_roundw
      case rel => exact ⟨k + 1, by omega, by go_num, by rw [HV.out], S1'.out, hB.trans b1⟩
      case measure => simp [intOf]; omega
    · obtain rfl : k = d := by omega
      clear HS
      go_wp2_with fail
      go_loopw [2, 7] (fun x n wr => ∃ (j : Nat) (v : Int) (st : St), j ≤ 1 ∧ x = .int .i64 j ∧ n = .int .i64 v ∧ Scn wr b t st ∧ But b w wr ∧ -600000 ≤ v ∧ v ≤ 2300000 ∧ ((j = m ∧ st = digS t k s ∧ v = digV t k s) ∨ (j = 0 ∧ m = 1 ∧ sees t isDig (digS t k s) = true ∧ st = digS t (k + 1) s ∧ v = digV t (k + 1) s))) (fun x _ _ => (intOf x).toNat)
      case atStart => exact ⟨m, _, _, hm, rfl, rfl, A.out, hB, vb.1, vb.2, .inl ⟨rfl, rfl, rfl⟩⟩
      case round =>
        obtain ⟨j, v, st, hj, rfl, rfl, hS, hB2, v1, v2, hcase⟩ := hrel
        clear A hB vb
        have A := Lib.hid hS; clear hS
        have hst : st.p ≤ t.length := by
          rcases hcase with ⟨_, rfl, _⟩ | ⟨_, _, _, rfl, _⟩ <;> exact digS_p hp _
        have C := Lib.hid hcase; clear hcase
        by_cases hj0 : j = 0
        · subst hj0
          have hj1 : decide ((0 : Int) < 0) = false := rfl
          go_wp2_with fail
          go_ret2
          have key : numV t k (m == 1) s = v ∧ numS t k (m == 1) s = st := by
            rcases C.out with ⟨rfl, rfl, rfl⟩ | ⟨_, rfl, h3, rfl, rfl⟩
            · simp [numV, numS]
            · simp [numV, numS, h3]
          exact ⟨by rw [key.1]; rfl, by rw [key.2]; exact A.out, hB2⟩
        · obtain rfl : j = 1 := by omega
          have C2 := C.out
          rcases C2 with ⟨e1, e2, e3⟩ | ⟨e1, _⟩
          · have M := Lib.hid (And.intro e1 (And.intro e2 e3))
            clear e1 e2 e3 C
            go_wp2_with fail
            refine (sees_dig b t st _ A.out hl hst).mono ?_
            rintro e w1 ⟨rfl, b1⟩
            have A1 := Lib.hid (A.out.below b1)
            cases hs : sees t isDig st with
            | true =>
              have X := Lib.hid hs; clear hs
              have hc := (needB t isDig st).toNat_lt
              go_wp2_with fail
              refine (need_dig b t _ _ A1.out hl hst).mono ?_
              rintro e w2 ⟨rfl, S2, b2⟩
              have S2' := Lib.hid S2; clear S2
              generalize hcc : (needB t isDig st).toNat = c at *
              have HC := Lib.hid hcc; clear hcc
              go_wp2_with fail
              go_roundw
              case rel =>
                obtain ⟨e1, e2, e3⟩ := M.out
                have hv : 10 * v + (c : Int) - 48 = digV t (k + 1) s := by
                  show _ = 10 * digV t k s + ((needB t isDig (digS t k s)).toNat : Int) - 48
                  rw [← e2, HC.out, e3]
                have hb2 := digV_small t s (k + 1) (by omega)
                refine ⟨0, _, _, by omega, by go_num, rfl, S2'.out, (hB2.trans (But.of_below b1)).trans b2, by omega, by omega, .inr ⟨rfl, e1.symm, by rw [← e2]; exact X.out, by rw [e2]; rfl, hv⟩⟩
              case measure => simp [intOf]
            | false =>
              have X := Lib.hid hs; clear hs
              go_wp2_with fail
              go_ret2
              obtain ⟨e1, e2, e3⟩ := M.out
              have key : numV t k (m == 1) s = v ∧ numS t k (m == 1) s = st := by
                have hx := X.out
                rw [e2] at hx
                simp [numV, numS, hx, e2, e3]
              exact ⟨by rw [key.1]; rfl, by rw [key.2]; exact A1.out, hB2.trans (But.of_below b1)⟩
          · cases e1
end Go.Proofs.YtpdncgfkoibacaaDoor
