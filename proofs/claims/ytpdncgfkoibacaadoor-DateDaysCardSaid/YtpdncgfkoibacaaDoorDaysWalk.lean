/- The walk of DateDays: for every two numbers the law returns true. -/
import Derived.Test.YtpdncgfkoibacaaDoorParseAny
import Derived.Test.YtpdncgfkoibacaaDoorFmtDay
namespace Go.Proofs.YtpdncgfkoibacaaDoor
open Go.RowKit
open Cal

def SaysD (F : Nat) (d : Int) (s : ByteArray) (c : Int) : Prop := ∀ w : World, Tab w → Calls Tryd.prog F #[.int .i64 d] w fun e w' => e = .returned (.tuple #[.string s, .int .i64 c]) ∧ Below w.heap.size w w'

set_option maxRecDepth 100000 in
set_option maxHeartbeats 2000000 in
theorem dateDays_no (m d : Int) (s : ByteArray) (c : Int) (w : World) (ht : Tab w) (h1 : SaysD 30 d s c) (h2 : SaysD 31 d s c) (hv : vld m = false) :
    Calls Tryd.prog 11 #[.int .i64 m, .int .i64 d] w fun e w' => e = .returned (.bool true) ∧ Below w.heap.size w w' := by
  have H1 := Lib.hid h1; clear h1
  have H2 := Lib.hid h2; clear h2
  have HT := Lib.hid ht; clear ht
  have ec : (c == c) = true := by simp
  go_enter Tryd.func11, Tryd.ntmps11
  go_wp2_with fail
  refine (known_any _ HT.out).mono ?_; rintro e w1 ⟨rfl, b1⟩
  go_wp2_with fail
  refine (H1.out _ (HT.out.below b1)).mono ?_; rintro e w2 ⟨rfl, b2⟩
  have c2 := b1.trans (b2.mono b1.size); clear b1 b2
  go_wp2_with fail
  refine (H2.out _ (HT.out.below c2)).mono ?_; rintro e w3 ⟨rfl, b3⟩
  have c3 := c2.trans (b3.mono c2.size); clear c2 b3
  go_wp2_with fail
  refine (weekday_no _ _ hv).mono ?_; rintro e w4 ⟨rfl, rfl⟩
  go_wp2_with fail
  refine (day_no _ _ hv).mono ?_; rintro e w4 ⟨rfl, rfl⟩
  go_wp2_with fail
  refine (refValid_any _ _).mono ?_; rintro e w4 ⟨rfl, rfl⟩
  go_wp2_with fail
  go_ret
  exact ⟨rfl, c3⟩

set_option maxRecDepth 100000 in
set_option maxHeartbeats 2000000 in
theorem dateDays_yes (m d : Int) (s : ByteArray) (c : Int) (w : World) (ht : Tab w) (h1 : SaysD 30 d s c) (h2 : SaysD 31 d s c) (hv : vld m = true) :
    Calls Tryd.prog 11 #[.int .i64 m, .int .i64 d] w fun e w' => e = .returned (.bool true) ∧ Below w.heap.size w w' := by
  have H1 := Lib.hid h1; clear h1
  have H2 := Lib.hid h2; clear h2
  have HT := Lib.hid ht; clear ht
  have ec : (c == c) = true := by simp
  obtain ⟨v0, v1⟩ := vld_true hv
  cases hn : vld (m + 1440) with
  | false =>
    go_enter Tryd.func11, Tryd.ntmps11
    go_wp2_with fail
    refine (known_any _ HT.out).mono ?_; rintro e w1 ⟨rfl, b1⟩
    go_wp2_with fail
    refine (H1.out _ (HT.out.below b1)).mono ?_; rintro e w2 ⟨rfl, b2⟩
    have c2 := b1.trans (b2.mono b1.size); clear b1 b2
    go_wp2_with fail
    refine (H2.out _ (HT.out.below c2)).mono ?_; rintro e w3 ⟨rfl, b3⟩
    have c3 := c2.trans (b3.mono c2.size); clear c2 b3
    go_wp2_with fail
    refine (weekday_yes _ _ v0 v1).mono ?_; rintro e w4 ⟨rfl, rfl⟩
    go_wp2_with fail
    refine (day_yes _ _ v0 v1).mono ?_; rintro e w4 ⟨rfl, rfl⟩
    go_wp2_with fail
    refine (refValid_any _ _).mono ?_; rintro e w4 ⟨rfl, rfl⟩
    go_wp2_with fail
    refine (refWeekday_any _ _ v0 v1).mono ?_; rintro e w4 ⟨rfl, rfl⟩
    go_wp2_with fail
    refine (weekday_no _ _ hn).mono ?_; rintro e w4 ⟨rfl, rfl⟩
    go_wp2_with fail
    refine (refValid_any _ _).mono ?_; rintro e w4 ⟨rfl, rfl⟩
    go_wp2_with fail
    go_ret
    exact ⟨rfl, c3⟩
  | true =>
    obtain ⟨n0, n1⟩ := vld_true hn
    have g0 : 0 ≤ (m / 1440 + 5) % 7 := by omega
    have g1 : (m / 1440 + 5) % 7 < 7 := by omega
    have he : (((m + 1440) / 1440 + 5) % 7 == ((m / 1440 + 5) % 7 + 1) % 7) = true := by simp; omega
    go_enter Tryd.func11, Tryd.ntmps11
    go_wp2_with fail
    refine (known_any _ HT.out).mono ?_; rintro e w1 ⟨rfl, b1⟩
    go_wp2_with fail
    refine (H1.out _ (HT.out.below b1)).mono ?_; rintro e w2 ⟨rfl, b2⟩
    have c2 := b1.trans (b2.mono b1.size); clear b1 b2
    go_wp2_with fail
    refine (H2.out _ (HT.out.below c2)).mono ?_; rintro e w3 ⟨rfl, b3⟩
    have c3 := c2.trans (b3.mono c2.size); clear c2 b3
    go_wp2_with fail
    refine (weekday_yes _ _ v0 v1).mono ?_; rintro e w4 ⟨rfl, rfl⟩
    go_wp2_with fail
    refine (day_yes _ _ v0 v1).mono ?_; rintro e w4 ⟨rfl, rfl⟩
    go_wp2_with fail
    refine (refValid_any _ _).mono ?_; rintro e w4 ⟨rfl, rfl⟩
    go_wp2_with fail
    refine (refWeekday_any _ _ v0 v1).mono ?_; rintro e w4 ⟨rfl, rfl⟩
    go_wp2_with fail
    refine (weekday_yes _ _ n0 n1).mono ?_; rintro e w4 ⟨rfl, rfl⟩
    go_wp2_with fail
    refine (refValid_any _ _).mono ?_; rintro e w4 ⟨rfl, rfl⟩
    go_wp2_with fail
    go_ret
    exact ⟨ret_bool (by simp; omega), c3⟩

theorem dateDays_walk (m : Int) (_wm : (Lit.int .i64 m).wf = true) (d : Int) (_wd : (Lit.int .i64 d).wf = true) (w : World) (ht : Tab w) : Calls Tryd.prog 11 #[.int .i64 m, .int .i64 d] w fun e w' => e = .returned (.bool true) ∧ Below w.heap.size w w' := by
  have one : ∃ s c, SaysD 30 d s c ∧ SaysD 31 d s c := by
    by_cases h : d < 0 ∨ 73048 < d
    · exact ⟨_, _, fun w _ => (formatDay_no d w h).mono fun _ _ h => ⟨h.1, h.2 ▸ Below.refl _ _⟩, fun w _ => (refFormatDay_no d w h).mono fun _ _ h => ⟨h.1, h.2 ▸ Below.refl _ _⟩⟩
    · exact ⟨_, _, fun w ht => formatDay_yes d w (by omega) (by omega) ht, fun w _ => refFormatDay_yes d w (by omega) (by omega)⟩
  obtain ⟨s, c, h1, h2⟩ := one
  cases hv : vld m with
  | true => exact dateDays_yes m d s c w ht h1 h2 hv
  | false => exact dateDays_no m d s c w ht h1 h2 hv
end Go.Proofs.YtpdncgfkoibacaaDoor
