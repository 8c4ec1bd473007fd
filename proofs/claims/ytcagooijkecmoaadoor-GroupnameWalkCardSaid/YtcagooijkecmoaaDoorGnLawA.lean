/- The walks of the statements GroupnameCheck and GroupnameCompare. -/
import Derived.Test.YtcagooijkecmoaaDoorGnKnown
namespace Go.Proofs.YtcagooijkecmoaaDoor
open Go.RowKit Go.Gn

/-- The contracts for every world above w. -/
theorem Env.all {w : World} (h : Env w) : ∀ W, Below w.heap.size w W → Env W := fun _ b => h.below b
theorem compare_b (a b : List UInt8) (w : World) (hE : Env w) (ha : a.length ≤ 100000000) (hb : b.length ≤ 100000000) :
    Calls Tryd.prog 15 #[enS a, enS b] w fun e w' => e = .returned (.int .i64 (gcmp a b)) ∧ Below w.heap.size w w' :=
  (compare_any a b w hE ha hb).mono fun e w' ⟨h1, h2⟩ => ⟨h1, by rw [h2]; exact (below_new _ _).tr (below_new _ _)⟩
theorem str_ne {a b : List UInt8} (h : a ≠ b) : (a == b) = false := by simpa using h

set_option maxRecDepth 100000 in
set_option maxHeartbeats 4000000 in
theorem groupnameCheck_walk (s : List UInt8) (hs : s.length ≤ maxLen) (w : World) (hE : Env w) :
    Calls Tryd.prog 8 #[enS s] w fun e w' => e = .returned (.bool true) ∧ Below w.heap.size w w' := by
  have hk := known_any w hE
  unfold maxLen at hs
  by_cases h500 : 500 < s.length
  · have HK := Lib.hid (fun W (b : Below w.heap.size w W) => known_any W (hE.below b))
    clear hE
    go_enter Tryd.func8, Tryd.ntmps8
    go_wp2_with fail
    refine hk.mono ?_; rintro e w1 ⟨rfl, b1⟩
    go_wp2_with fail
    refine (HK.out w1 b1).mono ?_; rintro e w2 ⟨rfl, b2⟩
    go_wp2_with fail
    go_ret
    exact ⟨rfl, b1.tr b2⟩
  · have HE := Lib.hid hE.all
    have H1 := Lib.hid (fun W => refCheck_any s W (by omega))
    have H2 := Lib.hid (fun W (b : Below w.heap.size w W) => gsplit_any s W (HE.out W b) (by omega))
    have H3 := Lib.hid (fun W (b : Below w.heap.size w W) => parent_any s W (HE.out W b) (by omega))
    have H4 := Lib.hid (fun W (b : Below w.heap.size w W) => check_any s W (HE.out W b) (by omega))
    clear hE
    by_cases hz : check s = 0
    · have e1 : splitS s = parts 46 s := by unfold splitS; rw [if_pos hz]
      have e2 : parentB s = decide (1 < (parts 46 s).length) := by unfold parentB; rw [hz]; rfl
      have hpl := parts_length_le 46 s
      have hpp := parts_pos 46 s
      have e3 : parentS s = text 46 ((parts 46 s).take ((parts 46 s).length - 1)) := by
        unfold parentS
        rw [e2, ← List.dropLast_eq_take]
        split
        · rfl
        · rename_i h1
          have h2 : (parts 46 s).length = 1 := by
            have : ¬ 1 < (parts 46 s).length := by simpa using h1
            omega
          obtain ⟨x, hx⟩ := List.length_eq_one_iff.1 h2
          rw [hx]; rfl
      have e4 : joinE (parts 46 s) = 0 := by
        unfold joinE
        have := ((check_zero s).1 hz).2.1
        rw [if_neg (by omega), if_neg (by simpa using this), text_parts, hz]
      have e5 : joinS (parts 46 s) = s := by unfold joinS; rw [e4, if_pos rfl, text_parts]
      have hxl : ∀ x ∈ parts 46 s, x.length ≤ 1000000000 := fun x hx => by have := parts_le 46 s x hx; omega
      have H5 := Lib.hid (fun W => refParts_any s 46 W (by omega))
      have H6 := Lib.hid (fun A c W (b : Below w.heap.size w W) (hr : Rd W A (parts 46 s)) (hc : (parts 46 s).length ≤ c) => gjoin_any A c (parts 46 s) W (HE.out W b) hr hc (by omega) hxl)
      have H7 := Lib.hid (fun A B c d W (h1 : Rd W A (parts 46 s)) (h2 : Rd W B (parts 46 s)) => same_any A B c d (parts 46 s) (parts 46 s) W h1 h2 (by omega) (by omega))
      have htl : ((parts 46 s).take ((parts 46 s).length - 1)).length = (parts 46 s).length - 1 := by rw [List.length_take]; omega
      have H8 := Lib.hid (fun A c W (h1 : Rd W A (parts 46 s)) => refText_any 46 A c ((parts 46 s).take ((parts 46 s).length - 1)) W (h1.take _) (by omega) (by have := text_length_take 46 (parts 46 s) ((parts 46 s).length - 1); rw [text_parts] at this; omega))
      rw [htl] at H8
      rw [e1, hz] at H2
      rw [e2, e3] at H3
      rw [hz] at H1 H4
      rw [e5, e4] at H6
      rw [decide_eq_true rfl] at H7
      clear e1 e2 e3 e4 e5 htl hz hxl
      generalize text 46 ((parts 46 s).take ((parts 46 s).length - 1)) = pt at *
      generalize parts 46 s = ps at *
      have hsub : ((ps.length : Int) - 1) = ((ps.length - 1 : Nat) : Int) := by omega
      go_enter Tryd.func8, Tryd.ntmps8
      go_wp2_with fail
      refine hk.mono ?_; rintro e w1 ⟨rfl, b1⟩
      go_wp2_with fail
      refine (H1.out w1).mono ?_; rintro e w2 ⟨rfl, b2⟩
      have B2 := Lib.hid (b1.tr b2); clear b1 b2
      go_wp2_with fail
      refine (H2.out w2 B2.out).mono ?_; rintro e w3 ⟨A, c, rfl, hA, hc, b3⟩
      have HA := Lib.hid hA; clear hA
      have B3 := Lib.hid (B2.out.tr b3); clear b3 B2
      go_wp2_with fail
      refine (H3.out w3 B3.out).mono ?_; rintro e w4 ⟨rfl, b4⟩
      have HA4 := Lib.hid (HA.out.below b4); clear HA
      have B4 := Lib.hid (B3.out.tr b4); clear b4 B3
      go_wp2_with fail
      refine (H4.out w4 B4.out).mono ?_; rintro e w5 ⟨rfl, b5⟩
      have HA5 := Lib.hid (HA4.out.below b5); clear HA4
      have B5 := Lib.hid (B4.out.tr b5); clear b5 B4
      go_wp2_with fail
      refine (H5.out w5).mono ?_; rintro e w6 ⟨B, d, rfl, hB, hd, b6⟩
      have HA6 := Lib.hid (HA5.out.below b6); clear HA5
      have HB6 := Lib.hid hB; clear hB
      have B6 := Lib.hid (B5.out.tr b6); clear b6 B5
      go_wp2_with fail
      refine (H6.out A c w6 B6.out HA6.out hc).mono ?_; rintro e w7 ⟨rfl, b7⟩
      have HA7 := Lib.hid (HA6.out.below b7); clear HA6
      have HB7 := Lib.hid (HB6.out.below b7); clear HB6
      have B7 := Lib.hid (B6.out.tr b7); clear b7 B6
      go_wp2_with fail
      refine (H7.out A B c d w7 HA7.out HB7.out).mono ?_; rintro e w8 ⟨rfl, b8⟩
      have HB8 := Lib.hid (HB7.out.below b8); clear HB7
      have B8 := Lib.hid (B7.out.tr b8); clear b8 B7
      obtain ⟨bb, oo, _, rfl, _⟩ := HB8.out.at_ hpp
      go_wp2_with fail
      refine (H8.out (some ⟨bb, oo, none⟩) d w8 HB8.out).mono ?_; rintro e w9 ⟨rfl, rfl⟩
      go_wp2_with fail
      go_ret
      exact ⟨rfl, B8.out⟩
    · have e1 : splitS s = [] := by unfold splitS; rw [if_neg hz]
      have e2 : parentB s = false := by unfold parentB; rw [decide_eq_false hz]; rfl
      have e3 : parentS s = [] := by unfold parentS; rw [e2, if_neg Bool.false_ne_true]
      have hne : ((check s : Int) != 0) = true := by simp; omega
      rw [e1] at H2
      rw [e2, e3] at H3
      clear e1 e2 e3 hz
      generalize check s = r at *
      go_enter Tryd.func8, Tryd.ntmps8
      go_wp2_with fail
      refine hk.mono ?_; rintro e w1 ⟨rfl, b1⟩
      go_wp2_with fail
      refine (H1.out w1).mono ?_; rintro e w2 ⟨rfl, b2⟩
      have B2 := Lib.hid (b1.tr b2); clear b1 b2
      go_wp2_with fail
      refine (H2.out w2 B2.out).mono ?_; rintro e w3 ⟨A, c, rfl, hA, hc, b3⟩
      have B3 := Lib.hid (B2.out.tr b3); clear b3 B2 hA
      go_wp2_with fail
      refine (H3.out w3 B3.out).mono ?_; rintro e w4 ⟨rfl, b4⟩
      have B4 := Lib.hid (B3.out.tr b4); clear b4 B3
      go_wp2_with fail
      refine (H4.out w4 B4.out).mono ?_; rintro e w5 ⟨rfl, b5⟩
      have B5 := Lib.hid (B4.out.tr b5); clear b5 B4
      go_wp2_with fail
      go_ret
      exact ⟨rfl, B5.out⟩
end Go.Proofs.YtcagooijkecmoaaDoor
