/- The walk of DateParse: for every text the law returns true. -/
import Derived.Test.YtpdncgfkoibacaaDoorParseAny
import Derived.Test.YtpdncgfkoibacaaDoorRefP5
namespace Go.Proofs.YtpdncgfkoibacaaDoor
open Go.RowKit
open Cal

set_option maxRecDepth 100000 in
set_option maxHeartbeats 2000000 in
theorem dateParse_long (t : List UInt8) (w : World) (ht : Tab w) (hl : 200 < t.length) (hm : t.length ≤ maxLen) :
    Calls Tryd.prog 6 #[.string ⟨t.toArray⟩] w fun e w' => e = .returned (.bool true) ∧ Below w.heap.size w w' := by
  have HT := Lib.hid ht; clear ht
  unfold maxLen at hm
  go_enter Tryd.func6, Tryd.ntmps6
  go_wp2_with fail
  refine (known_any _ HT.out).mono ?_; rintro e w1 ⟨rfl, b1⟩
  go_wp2_with fail
  refine (known_any _ (HT.out.below b1)).mono ?_; rintro e w2 ⟨rfl, b2⟩
  have c2 := b1.trans (b2.mono b1.size); clear b1 b2
  go_wp2_with fail
  go_ret
  exact ⟨rfl, c2⟩
set_option maxRecDepth 100000 in
set_option maxHeartbeats 2000000 in
theorem dateParse_case (t : List UInt8) (A B C D E : Int) (w : World) (ht : Tab w) (hl : t.length ≤ 200)
    (h1 : ∀ w : World, Calls Tryd.prog 21 #[.string ⟨t.toArray⟩] w fun e w' => e = .returned (.tuple #[.int .i64 A, .int .i64 B, .int .i64 C]) ∧ Below w.heap.size w w')
    (h2 : ∀ w : World, Calls Tryd.prog 22 #[.string ⟨t.toArray⟩] w fun e w' => e = .returned (.tuple #[.int .i64 A, .int .i64 B, .int .i64 C]) ∧ Below w.heap.size w w')
    (h3 : ∀ w : World, Calls Tryd.prog 23 #[.string ⟨t.toArray⟩] w fun e w' => e = .returned (.tuple #[.int .i64 D, .int .i64 E]) ∧ Below w.heap.size w w')
    (h4 : ∀ w : World, Calls Tryd.prog 24 #[.string ⟨t.toArray⟩] w fun e w' => e = .returned (.tuple #[.int .i64 D, .int .i64 E]) ∧ Below w.heap.size w w') :
    Calls Tryd.prog 6 #[.string ⟨t.toArray⟩] w fun e w' => e = .returned (.bool true) ∧ Below w.heap.size w w' := by
  have HT := Lib.hid ht; clear ht
  have H1 := Lib.hid h1; clear h1
  have H2 := Lib.hid h2; clear h2
  have H3 := Lib.hid h3; clear h3
  have H4 := Lib.hid h4; clear h4
  have ea : (A == A) = true := by simp
  have eb : (B == B) = true := by simp
  have ec : (C == C) = true := by simp
  have ed : (D == D) = true := by simp
  have ee : (E == E) = true := by simp
  go_enter Tryd.func6, Tryd.ntmps6
  go_wp2_with fail
  refine (known_any _ HT.out).mono ?_; rintro e w1 ⟨rfl, b1⟩
  go_wp2_with fail
  refine (H1.out _).mono ?_; rintro e w2 ⟨rfl, b2⟩
  have c2 := b1.trans (b2.mono b1.size); clear b1 b2
  go_wp2_with fail
  refine (H2.out _).mono ?_; rintro e w3 ⟨rfl, b3⟩
  have c3 := c2.trans (b3.mono c2.size); clear c2 b3
  go_wp2_with fail
  refine (H3.out _).mono ?_; rintro e w4 ⟨rfl, b4⟩
  have c4 := c3.trans (b4.mono c3.size); clear c3 b4
  go_wp2_with fail
  refine (H4.out _).mono ?_; rintro e w5 ⟨rfl, b5⟩
  have c5 := c4.trans (b5.mono c4.size); clear c4 b5
  go_wp2_with fail
  go_ret
  exact ⟨rfl, c5⟩
theorem dateParse_walk (s : ByteArray) (ws : s.size ≤ maxLen) (w : World) (ht : Tab w) : Calls Tryd.prog 6 #[.string s] w fun e w' => e = .returned (.bool true) ∧ Below w.heap.size w w' := by
  obtain ⟨⟨t⟩⟩ := s
  have hs : t.length ≤ maxLen := ws
  by_cases hl : 200 < t.length
  · exact dateParse_long t w ht hl hs
  · exact dateParse_case t _ _ _ _ _ w ht (by omega) (fun w => parse_any t w (by omega)) (fun w => refParse_any t w (by omega)) (fun w => zone_any t w (by omega)) (fun w => refZone_any t w (by omega))
end Go.Proofs.YtpdncgfkoibacaaDoor
