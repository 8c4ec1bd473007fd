/- Contracts of need of the reference of package date. -/
import Derived.Test.YtpdncgfkoibacaaDoorRefLow
namespace Go.Proofs.YtpdncgfkoibacaaDoor
open Go.RowKit

theorem need_stays {t : List UInt8} {q : UInt8 → Bool} {s : St} (h : s.e ≠ 0) : need t q s = s := by
  unfold need sees failAt
  simp [h]
theorem need_end {t : List UInt8} {q : UInt8 → Bool} {s : St} (h : ¬ s.p < t.length) : need t q s = failAt s t.length 4 := by
  unfold need sees; simp [h]
theorem need_yes {t : List UInt8} {q : UInt8 → Bool} {s : St} (h0 : s.e = 0) (h : s.p < t.length) (hq : q (at0 t s.p) = true) : need t q s = ⟨s.p + 1, s.e⟩ := by
  unfold need sees; simp [h, h0, hq]
theorem need_no {t : List UInt8} {q : UInt8 → Bool} {s : St} (h0 : s.e = 0) (h : s.p < t.length) (hq : q (at0 t s.p) = false) : need t q s = failAt s s.p 3 := by
  unfold need sees; simp [h, h0, hq]

set_option maxRecDepth 100000 in
set_option maxHeartbeats 2000000 in
/-- Where no byte is looked at: an error, or the end. -/
theorem refNeed_off (k : UInt8) (q : UInt8 → Bool) (t : List UInt8) (s : St) (w : World) (_hl : t.length ≤ 1000) (hp : s.p ≤ t.length) (h : s.e ≠ 0 ∨ (s.e = 0 ∧ ¬ s.p < t.length)) :
    Calls Tryd.prog 48 #[.agg #[.string ⟨t.toArray⟩, .int .i64 s.p, .int .i64 s.e], .int .u8 k.toNat] w fun r w' => r = .returned (.agg #[.string ⟨t.toArray⟩, .int .i64 (need t q s).p, .int .i64 (need t q s).e]) ∧ Below w.heap.size w w' := by
  rcases h with h | ⟨h, hlt⟩
  · rw [need_stays h]
    have h1 : ((s.e : Int) == 0) = false := by simp; omega
    clear h
    go_enter Tryd.func48, Tryd.ntmps48
    go_wp2
    exact bodyPost_ret (v := .agg #[.string ⟨t.toArray⟩, .int .i64 s.p, .int .i64 s.e]) (by simp [results, Tryd.results48, go_sem]) rfl ⟨rfl, ((Below.refl _ _).alloc (Nat.le_refl _) _).alloc (by simp) _⟩
  · rw [need_end hlt]
    obtain ⟨sp, se⟩ := s
    dsimp only at h hlt hp
    subst h
    have hge : t.length ≤ sp := by omega
    have hge' : (t.length : Int) ≤ (sp : Int) := by omega
    clear hlt
    go_enter Tryd.func48, Tryd.ntmps48
    go_wp2_with fail
    refine (refFail_any _ ⟨sp, 0⟩ t.length 4 _).mono ?_; rintro r w1 ⟨rfl, b1⟩
    obtain ⟨hc, hf⟩ := bcell b1
    have hz := b1.size
    simp at hz
    go_wp2_with fail
    have hB : Below w.heap.size w w1 := ((((Below.refl _ _).alloc (Nat.le_refl _) _).alloc (by simp) _).trans (b1.mono (by simp; omega)))
    exact bodyPost_ret (v := .agg #[.string ⟨t.toArray⟩, .int .i64 (failAt ⟨sp, 0⟩ t.length 4).p, .int .i64 (failAt ⟨sp, 0⟩ t.length 4).e]) (by simp [results, Tryd.results48, go_sem, hc]) rfl ⟨rfl, ((hB.setCell (by simp) _).setCell (by simp) _).setCell (by simp) _⟩

set_option maxRecDepth 100000 in
set_option maxHeartbeats 2000000 in
theorem refNeed_dig (t : List UInt8) (s : St) (w : World) (hl : t.length ≤ 1000) (hp : s.p ≤ t.length) :
    Calls Tryd.prog 48 #[.agg #[.string ⟨t.toArray⟩, .int .i64 s.p, .int .i64 s.e], .int .u8 100] w fun r w' => r = .returned (.agg #[.string ⟨t.toArray⟩, .int .i64 (need t isDig s).p, .int .i64 (need t isDig s).e]) ∧ Below w.heap.size w w' := by
  by_cases h : s.e = 0
  · by_cases hlt : s.p < t.length
    · have bg := bget (t := t) (p := s.p) (show s.p < t.toArray.size by simpa using hlt) hlt
      obtain ⟨sp, se⟩ := s
      dsimp only at h
      subst h
      obtain ⟨c, hc⟩ : ∃ c, at0 t sp = c := ⟨_, rfl⟩
      dsimp only at bg hlt hp ⊢
      rw [hc] at bg
      have hcb := c.toNat_lt
      cases hq : isDig c with
      | true =>
        rw [need_yes (s := ⟨sp, 0⟩) rfl hlt (by rw [hc]; exact hq)]
        clear hc
        go_enter Tryd.func48, Tryd.ntmps48
        go_wp2_with fail
        refine (refDigit_any c _).mono ?_; rintro r w1 ⟨rfl, rfl⟩
        go_wp2_with fail
        exact bodyPost_ret (v := .agg #[.string ⟨t.toArray⟩, .int .i64 (sp + 1 : Nat), .int .i64 0]) (by simp [results, Tryd.results48, go_sem]) rfl ⟨rfl, ((Below.refl _ _).alloc (Nat.le_refl _) _).alloc (by simp) _⟩
      | false =>
        rw [need_no (s := ⟨sp, 0⟩) rfl hlt (by rw [hc]; exact hq)]
        clear hc
        go_enter Tryd.func48, Tryd.ntmps48
        go_wp2_with fail
        refine (refDigit_any c _).mono ?_; rintro r w1 ⟨rfl, rfl⟩
        go_wp2_with fail
        refine (refFail_any _ ⟨sp, 0⟩ sp 3 _).mono ?_; rintro r w1 ⟨rfl, b1⟩
        obtain ⟨hc, hf⟩ := bcell b1
        have hz := b1.size
        simp at hz
        go_wp2_with fail
        have hB : Below w.heap.size w w1 := ((((Below.refl _ _).alloc (Nat.le_refl _) _).alloc (by simp) _).trans (b1.mono (by simp; omega)))
        exact bodyPost_ret (v := .agg #[.string ⟨t.toArray⟩, .int .i64 (failAt ⟨sp, 0⟩ sp 3).p, .int .i64 (failAt ⟨sp, 0⟩ sp 3).e]) (by simp [results, Tryd.results48, go_sem, hc]) rfl ⟨rfl, ((hB.setCell (by simp) _).setCell (by simp) _).setCell (by simp) _⟩
    · exact refNeed_off 100 isDig t s w hl hp (.inr ⟨h, hlt⟩)
  · exact refNeed_off 100 isDig t s w hl hp (.inl h)
end Go.Proofs.YtpdncgfkoibacaaDoor
