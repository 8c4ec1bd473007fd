/- Contracts of need at blanks and at one byte, of skip, number and name of the reference of package date. -/
import Derived.Test.YtpdncgfkoibacaaDoorRefScan
import Derived.Test.YtpdncgfkoibacaaDoorSkip
namespace Go.Proofs.YtpdncgfkoibacaaDoor
open Go.RowKit

theorem isBl_int (c : UInt8) : isBl c = (((c.toNat : Int) == 32) || ((c.toNat : Int) == 9)) := by
  unfold isBl
  rw [Bool.eq_iff_iff]; simp [← UInt8.toNat_inj]; omega
theorem isCh_int (x c : UInt8) : isCh x c = ((c.toNat : Int) == (x.toNat : Int)) := by
  unfold isCh
  rw [Bool.eq_iff_iff]; simp [← UInt8.toNat_inj]; omega

set_option maxRecDepth 100000 in
set_option maxHeartbeats 2000000 in
theorem refNeed_bl (t : List UInt8) (s : St) (w : World) (hl : t.length ≤ 1000) (hp : s.p ≤ t.length) :
    Calls Tryd.prog 48 #[.agg #[.string ⟨t.toArray⟩, .int .i64 s.p, .int .i64 s.e], .int .u8 98] w fun r w' => r = .returned (.agg #[.string ⟨t.toArray⟩, .int .i64 (need t isBl s).p, .int .i64 (need t isBl s).e]) ∧ Below w.heap.size w w' := by
  by_cases h : s.e = 0
  · by_cases hlt : s.p < t.length
    · have bg := bget (t := t) (p := s.p) (show s.p < t.toArray.size by simpa using hlt) hlt
      obtain ⟨sp, se⟩ := s
      dsimp only at h
      subst h
      obtain ⟨c, hc⟩ : ∃ c, at0 t sp = c := ⟨_, rfl⟩
      dsimp only at bg hlt hp ⊢
      rw [hc] at bg
      have hcb := c.toNat_lt
      have hbi := isBl_int c
      cases h32 : ((c.toNat : Int) == 32) with
      | true =>
        have m32 : ((c.toNat : Int) != 32) = false := by simp [bne, h32]
        have hq : isBl c = true := by rw [hbi, h32]; rfl
        rw [need_yes (s := ⟨sp, 0⟩) rfl hlt (by rw [hc]; exact hq)]
        clear hc hbi hq
        go_enter Tryd.func48, Tryd.ntmps48
        go_wp2_with fail
        exact bodyPost_ret (v := .agg #[.string ⟨t.toArray⟩, .int .i64 (sp + 1 : Nat), .int .i64 0]) (by simp [results, Tryd.results48, go_sem]) rfl ⟨rfl, ((Below.refl _ _).alloc (Nat.le_refl _) _).alloc (by simp) _⟩
      | false =>
        have m32 : ((c.toNat : Int) != 32) = true := by simp [bne, h32]
        cases h9 : ((c.toNat : Int) == 9) with
        | true =>
          have m9 : ((c.toNat : Int) != 9) = false := by simp [bne, h9]
          have hq : isBl c = true := by rw [hbi, h9, h32]; rfl
          rw [need_yes (s := ⟨sp, 0⟩) rfl hlt (by rw [hc]; exact hq)]
          clear hc hbi hq
          go_enter Tryd.func48, Tryd.ntmps48
          go_wp2_with fail
          exact bodyPost_ret (v := .agg #[.string ⟨t.toArray⟩, .int .i64 (sp + 1 : Nat), .int .i64 0]) (by simp [results, Tryd.results48, go_sem]) rfl ⟨rfl, ((Below.refl _ _).alloc (Nat.le_refl _) _).alloc (by simp) _⟩
        | false =>
          have m9 : ((c.toNat : Int) != 9) = true := by simp [bne, h9]
          have hq : isBl c = false := by rw [hbi, h9, h32]; rfl
          rw [need_no (s := ⟨sp, 0⟩) rfl hlt (by rw [hc]; exact hq)]
          clear hc hbi hq
          go_enter Tryd.func48, Tryd.ntmps48
          go_wp2_with fail
          refine (refFail_any _ ⟨sp, 0⟩ sp 3 _).mono ?_; rintro r w1 ⟨rfl, b1⟩
          obtain ⟨hc, hf⟩ := bcell b1
          have hz := b1.size
          simp at hz
          go_wp2_with fail
          have hB : Below w.heap.size w w1 := ((((Below.refl _ _).alloc (Nat.le_refl _) _).alloc (by simp) _).trans (b1.mono (by simp; omega)))
          exact bodyPost_ret (v := .agg #[.string ⟨t.toArray⟩, .int .i64 (failAt ⟨sp, 0⟩ sp 3).p, .int .i64 (failAt ⟨sp, 0⟩ sp 3).e]) (by simp [results, Tryd.results48, go_sem, hc]) rfl ⟨rfl, ((hB.setCell (by simp) _).setCell (by simp) _).setCell (by simp) _⟩
    · exact refNeed_off 98 isBl t s w hl hp (.inr ⟨h, hlt⟩)
  · exact refNeed_off 98 isBl t s w hl hp (.inl h)

set_option maxRecDepth 100000 in
set_option maxHeartbeats 2000000 in
theorem refNeed_ch (x : UInt8) (hx : x = 44 ∨ x = 58) (t : List UInt8) (s : St) (w : World) (hl : t.length ≤ 1000) (hp : s.p ≤ t.length) :
    Calls Tryd.prog 48 #[.agg #[.string ⟨t.toArray⟩, .int .i64 s.p, .int .i64 s.e], .int .u8 x.toNat] w fun r w' => r = .returned (.agg #[.string ⟨t.toArray⟩, .int .i64 (need t (isCh x) s).p, .int .i64 (need t (isCh x) s).e]) ∧ Below w.heap.size w w' := by
  by_cases h : s.e = 0
  · by_cases hlt : s.p < t.length
    · have bg := bget (t := t) (p := s.p) (show s.p < t.toArray.size by simpa using hlt) hlt
      obtain ⟨sp, se⟩ := s
      dsimp only at h
      subst h
      obtain ⟨c, hc⟩ : ∃ c, at0 t sp = c := ⟨_, rfl⟩
      dsimp only at bg hlt hp ⊢
      rw [hc] at bg
      have hcb := c.toNat_lt
      have hbi := isCh_int x c
      have x1 : ((x.toNat : Int) == 100) = false := by rcases hx with rfl | rfl <;> decide
      have x2 : ((x.toNat : Int) == 98) = false := by rcases hx with rfl | rfl <;> decide
      have y1 : ((x.toNat : Int) != 100) = true := by simp [bne, x1]
      have y2 : ((x.toNat : Int) != 98) = true := by simp [bne, x2]
      clear hx
      cases hq : isCh x c with
      | true =>
        rw [need_yes (s := ⟨sp, 0⟩) rfl hlt (by rw [hc]; exact hq)]
        rw [hq] at hbi
        have hbi' := hbi.symm
        have hbj : ((c.toNat : Int) != (x.toNat : Int)) = false := by simp only [bne, hbi']; rfl
        clear hc hbi hq
        go_enter Tryd.func48, Tryd.ntmps48
        go_wp2_with fail
        exact bodyPost_ret (v := .agg #[.string ⟨t.toArray⟩, .int .i64 (sp + 1 : Nat), .int .i64 0]) (by simp [results, Tryd.results48, go_sem]) rfl ⟨rfl, ((Below.refl _ _).alloc (Nat.le_refl _) _).alloc (by simp) _⟩
      | false =>
        rw [need_no (s := ⟨sp, 0⟩) rfl hlt (by rw [hc]; exact hq)]
        rw [hq] at hbi
        have hbi' := hbi.symm
        have hbj : ((c.toNat : Int) != (x.toNat : Int)) = true := by simp only [bne, hbi']; rfl
        clear hc hbi hq
        go_enter Tryd.func48, Tryd.ntmps48
        go_wp2_with fail
        refine (refFail_any _ ⟨sp, 0⟩ sp 3 _).mono ?_; rintro r w1 ⟨rfl, b1⟩
        obtain ⟨hc, hf⟩ := bcell b1
        have hz := b1.size
        simp at hz
        go_wp2_with fail
        have hB : Below w.heap.size w w1 := ((((Below.refl _ _).alloc (Nat.le_refl _) _).alloc (by simp) _).trans (b1.mono (by simp; omega)))
        exact bodyPost_ret (v := .agg #[.string ⟨t.toArray⟩, .int .i64 (failAt ⟨sp, 0⟩ sp 3).p, .int .i64 (failAt ⟨sp, 0⟩ sp 3).e]) (by simp [results, Tryd.results48, go_sem, hc]) rfl ⟨rfl, ((hB.setCell (by simp) _).setCell (by simp) _).setCell (by simp) _⟩
    · exact refNeed_off x (isCh x) t s w hl hp (.inr ⟨h, hlt⟩)
  · exact refNeed_off x (isCh x) t s w hl hp (.inl h)

set_option maxRecDepth 100000 in
set_option maxHeartbeats 2000000 in
theorem refSkip_any (t : List UInt8) (s : St) (w : World) (hl : t.length ≤ 1000) (hp : s.p ≤ t.length) :
    Calls Tryd.prog 47 #[.agg #[.string ⟨t.toArray⟩, .int .i64 s.p, .int .i64 s.e]] w fun r w' => r = .returned (.agg #[.string ⟨t.toArray⟩, .int .i64 (skip t isBl s).p, .int .i64 (skip t isBl s).e]) ∧ Below w.heap.size w w' := by
  obtain ⟨sp, se⟩ := s
  dsimp only at hp ⊢
  by_cases h : se = 0
  · subst h
    go_enter Tryd.func47, Tryd.ntmps47
    go_wp2_with fail
    go_loopg [] (t.length - sp) (fun g wr => ∃ k : Nat, g = t.length - sp - k ∧ sp + k ≤ t.length ∧ wr = (w.alloc (.cells #[.string ⟨t.toArray⟩, .int .i64 (sp + k : Nat), .int .i64 0] 73)).alloc (.cells #[.string ⟨#[]⟩, .int .i64 0, .int .i64 0] 73) ∧ (∀ i, i < k → isBl (at0 t (sp + i)) = true))
    case atStart => exact ⟨0, by omega, by omega, rfl, fun i hi => absurd hi (by omega)⟩
    case round =>
      obtain ⟨k, rfl, hk, rfl, h1⟩ := hrel
      have A := Lib.hid h1; clear h1
      by_cases hlt : sp + k < t.length
      · have bg := bget (t := t) (p := sp + k) (show sp + k < t.toArray.size by simpa using hlt) hlt
        obtain ⟨c, hc⟩ : ∃ c, at0 t (sp + k) = c := ⟨_, rfl⟩
        rw [hc] at bg
        have hcb := c.toNat_lt
        have hbi := isBl_int c
        have HC := Lib.hid hc; clear hc
        cases h32 : ((c.toNat : Int) == 32) with
        | true =>
          have hq : isBl c = true := by rw [hbi, h32]; rfl
          have HQ := Lib.hid hq; clear hq hbi
          go_wp2_with fail
          go_roundg (t.length - sp - (k + 1))
          case measure => omega
          case rel => exact ⟨k + 1, rfl, by omega, by simp [Int.add_assoc], fun i hi => by
            rcases Nat.lt_succ_iff_lt_or_eq.1 hi with h | h
            · exact A.out i h
            · subst h; rw [HC.out]; exact HQ.out⟩
        | false =>
          cases h9 : ((c.toNat : Int) == 9) with
          | true =>
            have hq : isBl c = true := by rw [hbi, h32, h9]; rfl
            have HQ := Lib.hid hq; clear hq hbi
            go_wp2_with fail
            go_roundg (t.length - sp - (k + 1))
            case measure => omega
            case rel => exact ⟨k + 1, rfl, by omega, by simp [Int.add_assoc], fun i hi => by
              rcases Nat.lt_succ_iff_lt_or_eq.1 hi with h | h
              · exact A.out i h
              · subst h; rw [HC.out]; exact HQ.out⟩
          | false =>
            have hq : isBl c = false := by rw [hbi, h32, h9]; rfl
            have HQ := Lib.hid hq; clear hq hbi
            go_wp2_with fail
            refine bodyPost_ret (v := .agg #[.string ⟨t.toArray⟩, .int .i64 (sp + k : Nat), .int .i64 0]) (by simp [results, Tryd.results47, go_sem]) rfl ⟨?_, ((Below.refl _ _).alloc (Nat.le_refl _) _).alloc (by simp) _⟩
            rw [skip_eq (s := ⟨sp, 0⟩) k rfl hk A.out (fun _ => by rw [HC.out]; exact HQ.out)]; rfl
      · have hge : t.length ≤ sp + k := by omega
        clear hlt
        go_wp2_with fail
        refine bodyPost_ret (v := .agg #[.string ⟨t.toArray⟩, .int .i64 (sp + k : Nat), .int .i64 0]) (by simp [results, Tryd.results47, go_sem]) rfl ⟨?_, ((Below.refl _ _).alloc (Nat.le_refl _) _).alloc (by simp) _⟩
        rw [skip_eq (s := ⟨sp, 0⟩) k rfl hk A.out (fun hlt => absurd hlt (by show ¬ sp + k < _; omega))]; rfl
  · have h1 : ((se : Int) == 0) = false := by simp; omega
    have hs : skip t isBl ⟨sp, se⟩ = ⟨sp, se⟩ := by unfold skip; rw [if_neg h]
    rw [hs]
    clear h hs
    go_enter Tryd.func47, Tryd.ntmps47
    go_wp2_with fail
    go_loopg [] 0 (fun _ wr => wr = (w.alloc (.cells #[.string ⟨t.toArray⟩, .int .i64 sp, .int .i64 se] 73)).alloc (.cells #[.string ⟨#[]⟩, .int .i64 0, .int .i64 0] 73))
    case atStart => rfl
    case round =>
      obtain rfl := hrel
      go_wp2_with fail
      exact bodyPost_ret (v := .agg #[.string ⟨t.toArray⟩, .int .i64 sp, .int .i64 se]) (by simp [results, Tryd.results47, go_sem]) rfl ⟨rfl, ((Below.refl _ _).alloc (Nat.le_refl _) _).alloc (by simp) _⟩
end Go.Proofs.YtpdncgfkoibacaaDoor
