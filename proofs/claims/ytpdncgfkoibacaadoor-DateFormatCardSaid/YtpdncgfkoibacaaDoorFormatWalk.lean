/- The walk of DateFormat: for every two numbers the law returns true. -/
import Derived.Test.YtpdncgfkoibacaaDoorParseAny
import Derived.Test.YtpdncgfkoibacaaDoorRefFmt
namespace Go.Proofs.YtpdncgfkoibacaaDoor
open Go.RowKit
open Cal

def SaysZ (F : Nat) (m off : Int) (s : ByteArray) (c : Int) : Prop := ∀ w : World, Tab w → Calls Tryd.prog F #[.int .i64 m, .int .i64 off] w fun e w' => e = .returned (.tuple #[.string s, .int .i64 c]) ∧ Below w.heap.size w w'

set_option maxRecDepth 100000 in
set_option maxHeartbeats 2000000 in
theorem dateFormat_case (m off : Int) (s t : ByteArray) (c d : Int) (w : World) (ht : Tab w) (lo : -100000 ≤ off) (hi : off ≤ 100000)
    (h1 : ∀ w : World, Tab w → Calls Tryd.prog 18 #[.int .i64 m] w fun e w' => e = .returned (.tuple #[.string s, .int .i64 c]) ∧ Below w.heap.size w w')
    (h2 : SaysZ 19 m 0 s c) (h3 : SaysZ 20 m off t d) (h4 : SaysZ 19 m off t d) :
    Calls Tryd.prog 5 #[.int .i64 m, .int .i64 off] w fun e w' => e = .returned (.bool true) ∧ Below w.heap.size w w' := by
  have H1 := Lib.hid h1; clear h1
  have H2 := Lib.hid h2; clear h2
  have H3 := Lib.hid h3; clear h3
  have H4 := Lib.hid h4; clear h4
  have HT := Lib.hid ht; clear ht
  have ec : (c == c) = true := by simp
  have ed : (d == d) = true := by simp
  go_enter Tryd.func5, Tryd.ntmps5
  go_wp2_with fail
  refine (known_any _ HT.out).mono ?_; rintro e w1 ⟨rfl, b1⟩
  go_wp2_with fail
  refine (H1.out _ (HT.out.below b1)).mono ?_; rintro e w2 ⟨rfl, b2⟩
  have c2 := b1.trans (b2.mono b1.size); clear b1 b2
  go_wp2_with fail
  refine (H2.out _ (HT.out.below c2)).mono ?_; rintro e w3 ⟨rfl, b3⟩
  have c3 := c2.trans (b3.mono c2.size); clear c2 b3
  go_wp2_with fail
  refine (H3.out _ (HT.out.below c3)).mono ?_; rintro e w4 ⟨rfl, b4⟩
  have c4 := c3.trans (b4.mono c3.size); clear c3 b4
  go_wp2_with fail
  refine (H4.out _ (HT.out.below c4)).mono ?_; rintro e w5 ⟨rfl, b5⟩
  have c5 := c4.trans (b5.mono c4.size); clear c4 b5
  go_wp2_with fail
  go_ret
  exact ⟨rfl, c5⟩

set_option maxRecDepth 100000 in
set_option maxHeartbeats 2000000 in
theorem dateFormat_far (m off : Int) (s : ByteArray) (c : Int) (w : World) (ht : Tab w) (far : off < -100000 ∨ 100000 < off)
    (h1 : ∀ w : World, Tab w → Calls Tryd.prog 18 #[.int .i64 m] w fun e w' => e = .returned (.tuple #[.string s, .int .i64 c]) ∧ Below w.heap.size w w')
    (h2 : SaysZ 19 m 0 s c) :
    Calls Tryd.prog 5 #[.int .i64 m, .int .i64 off] w fun e w' => e = .returned (.bool true) ∧ Below w.heap.size w w' := by
  have hz : zok m off = false := by
    cases h : zok m off with
    | false => rfl
    | true => have := zok_true h; omega
  have HZ := Lib.hid hz; clear hz
  have H1 := Lib.hid h1; clear h1
  have H2 := Lib.hid h2; clear h2
  have HT := Lib.hid ht; clear ht
  have ec : (c == c) = true := by simp
  have far' : off < -100000 ∨ (-100000 ≤ off ∧ 100000 < off) := by omega
  clear far
  rcases far' with f1 | ⟨f1, f2⟩
  all_goals
    go_enter Tryd.func5, Tryd.ntmps5
    go_wp2_with fail
    refine (known_any _ HT.out).mono ?_; rintro e w1 ⟨rfl, b1⟩
    go_wp2_with fail
    refine (H1.out _ (HT.out.below b1)).mono ?_; rintro e w2 ⟨rfl, b2⟩
    have c2 := b1.trans (b2.mono b1.size); clear b1 b2
    go_wp2_with fail
    refine (H2.out _ (HT.out.below c2)).mono ?_; rintro e w3 ⟨rfl, b3⟩
    have c3 := c2.trans (b3.mono c2.size); clear c2 b3
    go_wp2_with fail
    refine (formatZone_no _ _ _ HZ.out).mono ?_; rintro e w4 ⟨rfl, rfl⟩
    go_wp2_with fail
    go_ret
    exact ⟨rfl, c3⟩

theorem below_of_eq {w : World} {e x : Ending} {w' : World} (h : e = x ∧ w = w') : e = x ∧ Below w.heap.size w w' := ⟨h.1, h.2 ▸ Below.refl _ _⟩
theorem dateFormat_walk (m : Int) (_wm : (Lit.int .i64 m).wf = true) (off : Int) (_wo : (Lit.int .i64 off).wf = true) (w : World) (ht : Tab w) : Calls Tryd.prog 5 #[.int .i64 m, .int .i64 off] w fun e w' => e = .returned (.bool true) ∧ Below w.heap.size w w' := by
  have one : ∃ s c, (∀ w : World, Tab w → Calls Tryd.prog 18 #[.int .i64 m] w fun e w' => e = .returned (.tuple #[.string s, .int .i64 c]) ∧ Below w.heap.size w w') ∧ SaysZ 19 m 0 s c := by
    cases hv : vld m with
    | true => exact ⟨_, _, fun w ht => format_yes m w hv ht, fun w _ => by have := refFormatZone_yes m 0 w ((zok_zero m).trans hv); rw [Int.add_zero] at this; exact this⟩
    | false => exact ⟨_, _, fun w _ => (format_no m w hv).mono fun _ _ h => below_of_eq h, fun w _ => (refFormatZone_no m 0 w ((zok_zero m).trans hv)).mono fun _ _ h => below_of_eq h⟩
  obtain ⟨s, c, h1, h2⟩ := one
  by_cases far : off < -100000 ∨ 100000 < off
  · exact dateFormat_far m off s c w ht far h1 h2
  · have two : ∃ t d, SaysZ 20 m off t d ∧ SaysZ 19 m off t d := by
      cases hv : zok m off with
      | true => exact ⟨_, _, fun w ht => formatZone_yes m off w hv ht, fun w _ => refFormatZone_yes m off w hv⟩
      | false => exact ⟨_, _, fun w _ => (formatZone_no m off w hv).mono fun _ _ h => below_of_eq h, fun w _ => (refFormatZone_no m off w hv).mono fun _ _ h => below_of_eq h⟩
    obtain ⟨t, d, h3, h4⟩ := two
    exact dateFormat_case m off s t c d w ht (by omega) (by omega) h1 h2 h3 h4
end Go.Proofs.YtpdncgfkoibacaaDoor
