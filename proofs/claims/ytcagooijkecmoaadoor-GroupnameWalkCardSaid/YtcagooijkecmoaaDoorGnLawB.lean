/- The walks of the statements GroupnameCompare and GroupnameAdjacent. -/
import Derived.Test.YtcagooijkecmoaaDoorGnLawA
namespace Go.Proofs.YtcagooijkecmoaaDoor
open Go.RowKit Go.Gn

theorem gcmp_cases (a b : List UInt8) : (gcmp a b = -1 ∧ gcmp b a = 1 ∧ (a == b) = false) ∨ (gcmp a b = 0 ∧ gcmp b a = 0 ∧ a = b) ∨ (gcmp a b = 1 ∧ gcmp b a = -1 ∧ (a == b) = false) := by
  have h1 := gcmp_lin.lo a b
  have h2 := gcmp_lin.hi a b
  have h3 := gcmp_lin.anti a b
  have h4 := gcmp_lin.zero a b
  have : gcmp a b = -1 ∨ gcmp a b = 0 ∨ gcmp a b = 1 := by omega
  rcases this with h | h | h
  · exact .inl ⟨h, by omega, str_ne fun e => by have := h4.2 e; omega⟩
  · exact .inr (.inl ⟨h, by omega, h4.1 h⟩)
  · exact .inr (.inr ⟨h, by omega, str_ne fun e => by have := h4.2 e; omega⟩)
theorem shortL_cons (x : List UInt8) (l : List (List UInt8)) (h : shortL (x :: l) = true) : x.length ≤ 120 := ((shortL_iff _).1 h).2 x (by simp)
theorem shortL_at {l : List (List UInt8)} (h : shortL l = true) {x : List UInt8} (hx : x ∈ l) : x.length ≤ 120 := ((shortL_iff _).1 h).2 x hx
theorem short3 (a b c : List UInt8) (la : a.length ≤ maxLen) (lb : b.length ≤ maxLen) (lc : c.length ≤ maxLen) (W : World) : Calls Tryd.prog 14 #[.slice (some ⟨W.heap.size, 0, none⟩) 3 3] (W.alloc (.cells #[enS a, enS b, enS c] 9)) fun e w' => e = .returned (.bool (shortL [a, b, c])) ∧ W.alloc (.cells #[enS a, enS b, enS c] 9) = w' :=
  short_any (some ⟨W.heap.size, 0, none⟩) 3 [a, b, c] _ (Rd.lit3 W a b c) (by simp [maxLen]) (fun x hx => by simp at hx; rcases hx with rfl | rfl | rfl <;> assumption)
theorem short4 (a b c d : List UInt8) (la : a.length ≤ maxLen) (lb : b.length ≤ maxLen) (lc : c.length ≤ maxLen) (ld : d.length ≤ maxLen) (W : World) : Calls Tryd.prog 14 #[.slice (some ⟨W.heap.size, 0, none⟩) 4 4] (W.alloc (.cells #[enS a, enS b, enS c, enS d] 9)) fun e w' => e = .returned (.bool (shortL [a, b, c, d])) ∧ W.alloc (.cells #[enS a, enS b, enS c, enS d] 9) = w' :=
  short_any (some ⟨W.heap.size, 0, none⟩) 4 [a, b, c, d] _ (Rd.lit4 W a b c d) (by simp [maxLen]) (fun x hx => by simp at hx; rcases hx with rfl | rfl | rfl | rfl <;> assumption)

set_option maxRecDepth 100000 in
set_option maxHeartbeats 8000000 in
theorem groupnameCompare_walk (a : List UInt8) (la : a.length ≤ maxLen) (b : List UInt8) (lb : b.length ≤ maxLen) (c : List UInt8) (lc : c.length ≤ maxLen) (w : World) (hE : Env w) :
    Calls Tryd.prog 3 #[enS a, enS b, enS c] w fun e w' => e = .returned (.bool true) ∧ Below w.heap.size w w' := by
  have hk := known_any w hE
  have HS := Lib.hid (short3 a b c la lb lc)
  clear la lb lc
  cases hsh : shortL [a, b, c] with
  | false =>
    rw [hsh] at HS
    clear hsh
    have HK := Lib.hid (fun W (b : Below w.heap.size w W) => known_any W (hE.below b))
    clear hE
    go_enter Tryd.func3, Tryd.ntmps3
    go_wp2_with fail
    refine (hk).mono ?_; rintro e w1 ⟨rfl, b1⟩
    have B1 := Lib.hid (b1)
    clear b1
    go_wp2_with fail
    refine (HS.out w1).mono ?_; rintro e w2 ⟨rfl, rfl⟩
    have B2n := Lib.hid (B1.out.tr (below_new w1 (.cells #[enS a, enS b, enS c] 9)))
    go_wp2_with fail
    refine (HK.out (w1.alloc (.cells #[enS a, enS b, enS c] 9)) B2n.out).mono ?_; rintro e w3 ⟨rfl, b3⟩
    have B3 := Lib.hid (B2n.out.tr b3)
    clear b3
    go_wp2_with fail
    go_ret
    exact ⟨rfl, B3.out⟩
  | true =>
    rw [hsh] at HS
    have la := shortL_at hsh (x := a) (by simp)
    have lb := shortL_at hsh (x := b) (by simp)
    have lc := shortL_at hsh (x := c) (by simp)
    have HE := Lib.hid hE.all
    have H1 := Lib.hid (fun W (hb : Below w.heap.size w W) => compare_b a b W (HE.out W hb) (by omega) (by omega))
    have H2 := Lib.hid (fun W => refCompare_any a b W (by omega) (by omega))
    have H3 := Lib.hid (fun W (hb : Below w.heap.size w W) => compare_b b a W (HE.out W hb) (by omega) (by omega))
    have H4 := Lib.hid (fun W (hb : Below w.heap.size w W) => compare_b b c W (HE.out W hb) (by omega) (by omega))
    have H5 := Lib.hid (fun W (hb : Below w.heap.size w W) => compare_b a c W (HE.out W hb) (by omega) (by omega))
    have htr := gcmp_lin.trans a b c
    have q1 := gcmp_lin.lo b c
    have q2 := gcmp_lin.hi b c
    have q3 := gcmp_lin.lo a c
    have q4 := gcmp_lin.hi a c
    have L := Lib.hid hsh
    clear hsh hE la lb lc
    rcases gcmp_cases a b with ⟨x1, x2, x3⟩ | ⟨x1, x2, rfl⟩ | ⟨x1, x2, x3⟩
    all_goals
      rw [x1] at H1 H2 htr
      rw [x2] at H3
      clear x1 x2
    · generalize gcmp b c = y at *
      generalize gcmp a c = z at *
      by_cases hy : y ≤ 0
      · have hz : z ≤ 0 := htr (by decide) hy
        clear htr
        go_enter Tryd.func3, Tryd.ntmps3
        go_wp2_with fail
        refine (hk).mono ?_; rintro e w1 ⟨rfl, b1⟩
        have B1 := Lib.hid (b1)
        clear b1
        go_wp2_with fail
        refine (HS.out w1).mono ?_; rintro e w2 ⟨rfl, rfl⟩
        have B2n := Lib.hid (B1.out.tr (below_new w1 (.cells #[enS a, enS b, enS c] 9)))
        go_wp2_with fail
        refine (H1.out (w1.alloc (.cells #[enS a, enS b, enS c] 9)) B2n.out).mono ?_; rintro e w3 ⟨rfl, b3⟩
        have B3 := Lib.hid (B2n.out.tr b3)
        clear b3
        go_wp2_with fail
        refine (H2.out w3).mono ?_; rintro e w4 ⟨rfl, b4⟩
        have B4 := Lib.hid (B3.out.tr b4)
        clear b4
        go_wp2_with fail
        refine (H3.out w4 B4.out).mono ?_; rintro e w5 ⟨rfl, b5⟩
        have B5 := Lib.hid (B4.out.tr b5)
        clear b5
        go_wp2_with fail
        refine (H4.out w5 B5.out).mono ?_; rintro e w6 ⟨rfl, b6⟩
        have B6 := Lib.hid (B5.out.tr b6)
        clear b6
        go_wp2_with fail
        refine (H5.out w6 B6.out).mono ?_; rintro e w7 ⟨rfl, b7⟩
        have B7 := Lib.hid (B6.out.tr b7)
        clear b7
        go_wp2_with fail
        go_ret
        exact ⟨rfl, B7.out⟩
      · clear htr
        have hy2 : 0 < y := by omega
        go_enter Tryd.func3, Tryd.ntmps3
        go_wp2_with fail
        refine (hk).mono ?_; rintro e w1 ⟨rfl, b1⟩
        have B1 := Lib.hid (b1)
        clear b1
        go_wp2_with fail
        refine (HS.out w1).mono ?_; rintro e w2 ⟨rfl, rfl⟩
        have B2n := Lib.hid (B1.out.tr (below_new w1 (.cells #[enS a, enS b, enS c] 9)))
        go_wp2_with fail
        refine (H1.out (w1.alloc (.cells #[enS a, enS b, enS c] 9)) B2n.out).mono ?_; rintro e w3 ⟨rfl, b3⟩
        have B3 := Lib.hid (B2n.out.tr b3)
        clear b3
        go_wp2_with fail
        refine (H2.out w3).mono ?_; rintro e w4 ⟨rfl, b4⟩
        have B4 := Lib.hid (B3.out.tr b4)
        clear b4
        go_wp2_with fail
        refine (H3.out w4 B4.out).mono ?_; rintro e w5 ⟨rfl, b5⟩
        have B5 := Lib.hid (B4.out.tr b5)
        clear b5
        go_wp2_with fail
        refine (H4.out w5 B5.out).mono ?_; rintro e w6 ⟨rfl, b6⟩
        have B6 := Lib.hid (B5.out.tr b6)
        clear b6
        go_wp2_with fail
        go_ret
        exact ⟨rfl, B6.out⟩
    · clear htr
      generalize gcmp a c = y at *
      by_cases hy : y ≤ 0
      · skip
        go_enter Tryd.func3, Tryd.ntmps3
        go_wp2_with fail
        refine (hk).mono ?_; rintro e w1 ⟨rfl, b1⟩
        have B1 := Lib.hid (b1)
        clear b1
        go_wp2_with fail
        refine (HS.out w1).mono ?_; rintro e w2 ⟨rfl, rfl⟩
        have B2n := Lib.hid (B1.out.tr (below_new w1 (.cells #[enS a, enS a, enS c] 9)))
        go_wp2_with fail
        refine (H1.out (w1.alloc (.cells #[enS a, enS a, enS c] 9)) B2n.out).mono ?_; rintro e w3 ⟨rfl, b3⟩
        have B3 := Lib.hid (B2n.out.tr b3)
        clear b3
        go_wp2_with fail
        refine (H2.out w3).mono ?_; rintro e w4 ⟨rfl, b4⟩
        have B4 := Lib.hid (B3.out.tr b4)
        clear b4
        go_wp2_with fail
        refine (H3.out w4 B4.out).mono ?_; rintro e w5 ⟨rfl, b5⟩
        have B5 := Lib.hid (B4.out.tr b5)
        clear b5
        go_wp2_with fail
        refine (H4.out w5 B5.out).mono ?_; rintro e w6 ⟨rfl, b6⟩
        have B6 := Lib.hid (B5.out.tr b6)
        clear b6
        go_wp2_with fail
        refine (H5.out w6 B6.out).mono ?_; rintro e w7 ⟨rfl, b7⟩
        have B7 := Lib.hid (B6.out.tr b7)
        clear b7
        go_wp2_with fail
        go_ret
        exact ⟨rfl, B7.out⟩
      · have hy2 : 0 < y := by omega
        go_enter Tryd.func3, Tryd.ntmps3
        go_wp2_with fail
        refine (hk).mono ?_; rintro e w1 ⟨rfl, b1⟩
        have B1 := Lib.hid (b1)
        clear b1
        go_wp2_with fail
        refine (HS.out w1).mono ?_; rintro e w2 ⟨rfl, rfl⟩
        have B2n := Lib.hid (B1.out.tr (below_new w1 (.cells #[enS a, enS a, enS c] 9)))
        go_wp2_with fail
        refine (H1.out (w1.alloc (.cells #[enS a, enS a, enS c] 9)) B2n.out).mono ?_; rintro e w3 ⟨rfl, b3⟩
        have B3 := Lib.hid (B2n.out.tr b3)
        clear b3
        go_wp2_with fail
        refine (H2.out w3).mono ?_; rintro e w4 ⟨rfl, b4⟩
        have B4 := Lib.hid (B3.out.tr b4)
        clear b4
        go_wp2_with fail
        refine (H3.out w4 B4.out).mono ?_; rintro e w5 ⟨rfl, b5⟩
        have B5 := Lib.hid (B4.out.tr b5)
        clear b5
        go_wp2_with fail
        refine (H4.out w5 B5.out).mono ?_; rintro e w6 ⟨rfl, b6⟩
        have B6 := Lib.hid (B5.out.tr b6)
        clear b6
        go_wp2_with fail
        go_ret
        exact ⟨rfl, B6.out⟩
    · clear htr
      generalize gcmp b c = y at *
      go_enter Tryd.func3, Tryd.ntmps3
      go_wp2_with fail
      refine (hk).mono ?_; rintro e w1 ⟨rfl, b1⟩
      have B1 := Lib.hid (b1)
      clear b1
      go_wp2_with fail
      refine (HS.out w1).mono ?_; rintro e w2 ⟨rfl, rfl⟩
      have B2n := Lib.hid (B1.out.tr (below_new w1 (.cells #[enS a, enS b, enS c] 9)))
      go_wp2_with fail
      refine (H1.out (w1.alloc (.cells #[enS a, enS b, enS c] 9)) B2n.out).mono ?_; rintro e w3 ⟨rfl, b3⟩
      have B3 := Lib.hid (B2n.out.tr b3)
      clear b3
      go_wp2_with fail
      refine (H2.out w3).mono ?_; rintro e w4 ⟨rfl, b4⟩
      have B4 := Lib.hid (B3.out.tr b4)
      clear b4
      go_wp2_with fail
      refine (H3.out w4 B4.out).mono ?_; rintro e w5 ⟨rfl, b5⟩
      have B5 := Lib.hid (B4.out.tr b5)
      clear b5
      go_wp2_with fail
      go_ret
      exact ⟨rfl, B5.out⟩

set_option maxRecDepth 100000 in
set_option maxHeartbeats 16000000 in
theorem groupnameAdjacent_walk (a : List UInt8) (la : a.length ≤ maxLen) (b : List UInt8) (lb : b.length ≤ maxLen) (c : List UInt8) (lc : c.length ≤ maxLen) (h : List UInt8) (lh : h.length ≤ maxLen) (w : World) (hE : Env w) :
    Calls Tryd.prog 6 #[enS a, enS b, enS c, enS h] w fun e w' => e = .returned (.bool true) ∧ Below w.heap.size w w' := by
  have hk := known_any w hE
  have HS := Lib.hid (short4 a b c h la lb lc lh)
  clear la lb lc lh
  cases hsh : shortL [a, b, c, h] with
  | false =>
    rw [hsh] at HS
    clear hsh
    have HK := Lib.hid (fun W (b : Below w.heap.size w W) => known_any W (hE.below b))
    clear hE
    go_enter Tryd.func6, Tryd.ntmps6
    go_wp2_with fail
    refine (hk).mono ?_; rintro e w1 ⟨rfl, b1⟩
    have B1 := Lib.hid (b1)
    clear b1
    go_wp2_with fail
    refine (HS.out w1).mono ?_; rintro e w2 ⟨rfl, rfl⟩
    have B2n := Lib.hid (B1.out.tr (below_new w1 (.cells #[enS a, enS b, enS c, enS h] 9)))
    go_wp2_with fail
    refine (HK.out (w1.alloc (.cells #[enS a, enS b, enS c, enS h] 9)) B2n.out).mono ?_; rintro e w3 ⟨rfl, b3⟩
    have B3 := Lib.hid (B2n.out.tr b3)
    clear b3
    go_wp2_with fail
    go_ret
    exact ⟨rfl, B3.out⟩
  | true =>
    rw [hsh] at HS
    have la := shortL_at hsh (x := a) (by simp)
    have lb := shortL_at hsh (x := b) (by simp)
    have lc := shortL_at hsh (x := c) (by simp)
    have lh := shortL_at hsh (x := h) (by simp)
    have HE := Lib.hid hE.all
    have HWA := Lib.hid (fun W (hb : Below w.heap.size w W) => within_any a h W (HE.out W hb) (by omega) (by omega))
    have HWC := Lib.hid (fun W (hb : Below w.heap.size w W) => within_any c h W (HE.out W hb) (by omega) (by omega))
    have HWB := Lib.hid (fun W (hb : Below w.heap.size w W) => within_any b h W (HE.out W hb) (by omega) (by omega))
    have HHA := Lib.hid (fun W (hb : Below w.heap.size w W) => compare_b h a W (HE.out W hb) (by omega) (by omega))
    have HAB := Lib.hid (fun W (hb : Below w.heap.size w W) => compare_b a b W (HE.out W hb) (by omega) (by omega))
    have HBC := Lib.hid (fun W (hb : Below w.heap.size w W) => compare_b b c W (HE.out W hb) (by omega) (by omega))
    have HCB := Lib.hid (fun W => refCheck_any b W (by omega))
    have key : check b = 0 → gcmp a b ≤ 0 → gcmp b c ≤ 0 → within a h = true → within c h = true → within b h = true := fun h0 h1 h2 h3 h4 => within_between h0 h1 h2 h3 h4
    have key2 : within a h = true → gcmp h a ≤ 0 := fun e => within_le e
    have q1 := gcmp_lin.lo b c
    have q2 := gcmp_lin.hi b c
    have q3 := gcmp_lin.lo a b
    have q4 := gcmp_lin.hi a b
    have q5 := gcmp_lin.lo h a
    have q6 := gcmp_lin.hi h a
    have L := Lib.hid hsh
    clear hsh hE la lb lc lh
    generalize gcmp h a = xha at *
    generalize gcmp a b = xab at *
    generalize gcmp b c = xbc at *
    generalize check b = cb at *
    generalize within b h = wb at *
    generalize within c h = wc at *
    generalize within a h = wa at *
    have K := Lib.hid key; clear key
    cases wa with
    | false =>
      clear key2
      by_cases hz : cb = 0
      · subst hz
        by_cases hab : xab ≤ 0
        · by_cases hbc : xbc ≤ 0
          · skip
            go_enter Tryd.func6, Tryd.ntmps6
            go_wp2_with fail
            refine (hk).mono ?_; rintro e w1 ⟨rfl, b1⟩
            have B1 := Lib.hid (b1)
            clear b1
            go_wp2_with fail
            refine (HS.out w1).mono ?_; rintro e w2 ⟨rfl, rfl⟩
            have B2n := Lib.hid (B1.out.tr (below_new w1 (.cells #[enS a, enS b, enS c, enS h] 9)))
            go_wp2_with fail
            refine (HWA.out (w1.alloc (.cells #[enS a, enS b, enS c, enS h] 9)) B2n.out).mono ?_; rintro e w3 ⟨rfl, b3⟩
            have B3 := Lib.hid (B2n.out.tr b3)
            clear b3
            go_wp2_with fail
            refine (HCB.out w3).mono ?_; rintro e w4 ⟨rfl, b4⟩
            have B4 := Lib.hid (B3.out.tr b4)
            clear b4
            go_wp2_with fail
            refine (HAB.out w4 B4.out).mono ?_; rintro e w5 ⟨rfl, b5⟩
            have B5 := Lib.hid (B4.out.tr b5)
            clear b5
            go_wp2_with fail
            refine (HBC.out w5 B5.out).mono ?_; rintro e w6 ⟨rfl, b6⟩
            have B6 := Lib.hid (B5.out.tr b6)
            clear b6
            go_wp2_with fail
            refine (HWA.out w6 B6.out).mono ?_; rintro e w7 ⟨rfl, b7⟩
            have B7 := Lib.hid (B6.out.tr b7)
            clear b7
            go_wp2_with fail
            go_ret
            exact ⟨rfl, B7.out⟩
          · have hbc2 : 0 < xbc := by omega
            go_enter Tryd.func6, Tryd.ntmps6
            go_wp2_with fail
            refine (hk).mono ?_; rintro e w1 ⟨rfl, b1⟩
            have B1 := Lib.hid (b1)
            clear b1
            go_wp2_with fail
            refine (HS.out w1).mono ?_; rintro e w2 ⟨rfl, rfl⟩
            have B2n := Lib.hid (B1.out.tr (below_new w1 (.cells #[enS a, enS b, enS c, enS h] 9)))
            go_wp2_with fail
            refine (HWA.out (w1.alloc (.cells #[enS a, enS b, enS c, enS h] 9)) B2n.out).mono ?_; rintro e w3 ⟨rfl, b3⟩
            have B3 := Lib.hid (B2n.out.tr b3)
            clear b3
            go_wp2_with fail
            refine (HCB.out w3).mono ?_; rintro e w4 ⟨rfl, b4⟩
            have B4 := Lib.hid (B3.out.tr b4)
            clear b4
            go_wp2_with fail
            refine (HAB.out w4 B4.out).mono ?_; rintro e w5 ⟨rfl, b5⟩
            have B5 := Lib.hid (B4.out.tr b5)
            clear b5
            go_wp2_with fail
            refine (HBC.out w5 B5.out).mono ?_; rintro e w6 ⟨rfl, b6⟩
            have B6 := Lib.hid (B5.out.tr b6)
            clear b6
            go_wp2_with fail
            go_ret
            exact ⟨rfl, B6.out⟩
        · have hab2 : 0 < xab := by omega
          go_enter Tryd.func6, Tryd.ntmps6
          go_wp2_with fail
          refine (hk).mono ?_; rintro e w1 ⟨rfl, b1⟩
          have B1 := Lib.hid (b1)
          clear b1
          go_wp2_with fail
          refine (HS.out w1).mono ?_; rintro e w2 ⟨rfl, rfl⟩
          have B2n := Lib.hid (B1.out.tr (below_new w1 (.cells #[enS a, enS b, enS c, enS h] 9)))
          go_wp2_with fail
          refine (HWA.out (w1.alloc (.cells #[enS a, enS b, enS c, enS h] 9)) B2n.out).mono ?_; rintro e w3 ⟨rfl, b3⟩
          have B3 := Lib.hid (B2n.out.tr b3)
          clear b3
          go_wp2_with fail
          refine (HCB.out w3).mono ?_; rintro e w4 ⟨rfl, b4⟩
          have B4 := Lib.hid (B3.out.tr b4)
          clear b4
          go_wp2_with fail
          refine (HAB.out w4 B4.out).mono ?_; rintro e w5 ⟨rfl, b5⟩
          have B5 := Lib.hid (B4.out.tr b5)
          clear b5
          go_wp2_with fail
          go_ret
          exact ⟨rfl, B5.out⟩
      · have hz2 : ((cb : Int) == 0) = false := by simp; omega
        go_enter Tryd.func6, Tryd.ntmps6
        go_wp2_with fail
        refine (hk).mono ?_; rintro e w1 ⟨rfl, b1⟩
        have B1 := Lib.hid (b1)
        clear b1
        go_wp2_with fail
        refine (HS.out w1).mono ?_; rintro e w2 ⟨rfl, rfl⟩
        have B2n := Lib.hid (B1.out.tr (below_new w1 (.cells #[enS a, enS b, enS c, enS h] 9)))
        go_wp2_with fail
        refine (HWA.out (w1.alloc (.cells #[enS a, enS b, enS c, enS h] 9)) B2n.out).mono ?_; rintro e w3 ⟨rfl, b3⟩
        have B3 := Lib.hid (B2n.out.tr b3)
        clear b3
        go_wp2_with fail
        refine (HCB.out w3).mono ?_; rintro e w4 ⟨rfl, b4⟩
        have B4 := Lib.hid (B3.out.tr b4)
        clear b4
        go_wp2_with fail
        go_ret
        exact ⟨rfl, B4.out⟩
    | true =>
      have kh : xha ≤ 0 := key2 rfl
      clear key2
      by_cases hz : cb = 0
      · subst hz
        by_cases hab : xab ≤ 0
        · by_cases hbc : xbc ≤ 0
          · cases wc with
            | false =>
              go_enter Tryd.func6, Tryd.ntmps6
              go_wp2_with fail
              refine (hk).mono ?_; rintro e w1 ⟨rfl, b1⟩
              have B1 := Lib.hid (b1)
              clear b1
              go_wp2_with fail
              refine (HS.out w1).mono ?_; rintro e w2 ⟨rfl, rfl⟩
              have B2n := Lib.hid (B1.out.tr (below_new w1 (.cells #[enS a, enS b, enS c, enS h] 9)))
              go_wp2_with fail
              refine (HWA.out (w1.alloc (.cells #[enS a, enS b, enS c, enS h] 9)) B2n.out).mono ?_; rintro e w3 ⟨rfl, b3⟩
              have B3 := Lib.hid (B2n.out.tr b3)
              clear b3
              go_wp2_with fail
              refine (HHA.out w3 B3.out).mono ?_; rintro e w4 ⟨rfl, b4⟩
              have B4 := Lib.hid (B3.out.tr b4)
              clear b4
              go_wp2_with fail
              refine (HCB.out w4).mono ?_; rintro e w5 ⟨rfl, b5⟩
              have B5 := Lib.hid (B4.out.tr b5)
              clear b5
              go_wp2_with fail
              refine (HAB.out w5 B5.out).mono ?_; rintro e w6 ⟨rfl, b6⟩
              have B6 := Lib.hid (B5.out.tr b6)
              clear b6
              go_wp2_with fail
              refine (HBC.out w6 B6.out).mono ?_; rintro e w7 ⟨rfl, b7⟩
              have B7 := Lib.hid (B6.out.tr b7)
              clear b7
              go_wp2_with fail
              refine (HWA.out w7 B7.out).mono ?_; rintro e w8 ⟨rfl, b8⟩
              have B8 := Lib.hid (B7.out.tr b8)
              clear b8
              go_wp2_with fail
              refine (HWC.out w8 B8.out).mono ?_; rintro e w9 ⟨rfl, b9⟩
              have B9 := Lib.hid (B8.out.tr b9)
              clear b9
              go_wp2_with fail
              go_ret
              exact ⟨rfl, B9.out⟩
            | true =>
              obtain rfl : wb = true := K.out rfl hab hbc rfl rfl
              go_enter Tryd.func6, Tryd.ntmps6
              go_wp2_with fail
              refine (hk).mono ?_; rintro e w1 ⟨rfl, b1⟩
              have B1 := Lib.hid (b1)
              clear b1
              go_wp2_with fail
              refine (HS.out w1).mono ?_; rintro e w2 ⟨rfl, rfl⟩
              have B2n := Lib.hid (B1.out.tr (below_new w1 (.cells #[enS a, enS b, enS c, enS h] 9)))
              go_wp2_with fail
              refine (HWA.out (w1.alloc (.cells #[enS a, enS b, enS c, enS h] 9)) B2n.out).mono ?_; rintro e w3 ⟨rfl, b3⟩
              have B3 := Lib.hid (B2n.out.tr b3)
              clear b3
              go_wp2_with fail
              refine (HHA.out w3 B3.out).mono ?_; rintro e w4 ⟨rfl, b4⟩
              have B4 := Lib.hid (B3.out.tr b4)
              clear b4
              go_wp2_with fail
              refine (HCB.out w4).mono ?_; rintro e w5 ⟨rfl, b5⟩
              have B5 := Lib.hid (B4.out.tr b5)
              clear b5
              go_wp2_with fail
              refine (HAB.out w5 B5.out).mono ?_; rintro e w6 ⟨rfl, b6⟩
              have B6 := Lib.hid (B5.out.tr b6)
              clear b6
              go_wp2_with fail
              refine (HBC.out w6 B6.out).mono ?_; rintro e w7 ⟨rfl, b7⟩
              have B7 := Lib.hid (B6.out.tr b7)
              clear b7
              go_wp2_with fail
              refine (HWA.out w7 B7.out).mono ?_; rintro e w8 ⟨rfl, b8⟩
              have B8 := Lib.hid (B7.out.tr b8)
              clear b8
              go_wp2_with fail
              refine (HWC.out w8 B8.out).mono ?_; rintro e w9 ⟨rfl, b9⟩
              have B9 := Lib.hid (B8.out.tr b9)
              clear b9
              go_wp2_with fail
              refine (HWB.out w9 B9.out).mono ?_; rintro e w10 ⟨rfl, b10⟩
              have B10 := Lib.hid (B9.out.tr b10)
              clear b10
              go_wp2_with fail
              go_ret
              exact ⟨rfl, B10.out⟩
          · have hbc2 : 0 < xbc := by omega
            go_enter Tryd.func6, Tryd.ntmps6
            go_wp2_with fail
            refine (hk).mono ?_; rintro e w1 ⟨rfl, b1⟩
            have B1 := Lib.hid (b1)
            clear b1
            go_wp2_with fail
            refine (HS.out w1).mono ?_; rintro e w2 ⟨rfl, rfl⟩
            have B2n := Lib.hid (B1.out.tr (below_new w1 (.cells #[enS a, enS b, enS c, enS h] 9)))
            go_wp2_with fail
            refine (HWA.out (w1.alloc (.cells #[enS a, enS b, enS c, enS h] 9)) B2n.out).mono ?_; rintro e w3 ⟨rfl, b3⟩
            have B3 := Lib.hid (B2n.out.tr b3)
            clear b3
            go_wp2_with fail
            refine (HHA.out w3 B3.out).mono ?_; rintro e w4 ⟨rfl, b4⟩
            have B4 := Lib.hid (B3.out.tr b4)
            clear b4
            go_wp2_with fail
            refine (HCB.out w4).mono ?_; rintro e w5 ⟨rfl, b5⟩
            have B5 := Lib.hid (B4.out.tr b5)
            clear b5
            go_wp2_with fail
            refine (HAB.out w5 B5.out).mono ?_; rintro e w6 ⟨rfl, b6⟩
            have B6 := Lib.hid (B5.out.tr b6)
            clear b6
            go_wp2_with fail
            refine (HBC.out w6 B6.out).mono ?_; rintro e w7 ⟨rfl, b7⟩
            have B7 := Lib.hid (B6.out.tr b7)
            clear b7
            go_wp2_with fail
            go_ret
            exact ⟨rfl, B7.out⟩
        · have hab2 : 0 < xab := by omega
          go_enter Tryd.func6, Tryd.ntmps6
          go_wp2_with fail
          refine (hk).mono ?_; rintro e w1 ⟨rfl, b1⟩
          have B1 := Lib.hid (b1)
          clear b1
          go_wp2_with fail
          refine (HS.out w1).mono ?_; rintro e w2 ⟨rfl, rfl⟩
          have B2n := Lib.hid (B1.out.tr (below_new w1 (.cells #[enS a, enS b, enS c, enS h] 9)))
          go_wp2_with fail
          refine (HWA.out (w1.alloc (.cells #[enS a, enS b, enS c, enS h] 9)) B2n.out).mono ?_; rintro e w3 ⟨rfl, b3⟩
          have B3 := Lib.hid (B2n.out.tr b3)
          clear b3
          go_wp2_with fail
          refine (HHA.out w3 B3.out).mono ?_; rintro e w4 ⟨rfl, b4⟩
          have B4 := Lib.hid (B3.out.tr b4)
          clear b4
          go_wp2_with fail
          refine (HCB.out w4).mono ?_; rintro e w5 ⟨rfl, b5⟩
          have B5 := Lib.hid (B4.out.tr b5)
          clear b5
          go_wp2_with fail
          refine (HAB.out w5 B5.out).mono ?_; rintro e w6 ⟨rfl, b6⟩
          have B6 := Lib.hid (B5.out.tr b6)
          clear b6
          go_wp2_with fail
          go_ret
          exact ⟨rfl, B6.out⟩
      · have hz2 : ((cb : Int) == 0) = false := by simp; omega
        go_enter Tryd.func6, Tryd.ntmps6
        go_wp2_with fail
        refine (hk).mono ?_; rintro e w1 ⟨rfl, b1⟩
        have B1 := Lib.hid (b1)
        clear b1
        go_wp2_with fail
        refine (HS.out w1).mono ?_; rintro e w2 ⟨rfl, rfl⟩
        have B2n := Lib.hid (B1.out.tr (below_new w1 (.cells #[enS a, enS b, enS c, enS h] 9)))
        go_wp2_with fail
        refine (HWA.out (w1.alloc (.cells #[enS a, enS b, enS c, enS h] 9)) B2n.out).mono ?_; rintro e w3 ⟨rfl, b3⟩
        have B3 := Lib.hid (B2n.out.tr b3)
        clear b3
        go_wp2_with fail
        refine (HHA.out w3 B3.out).mono ?_; rintro e w4 ⟨rfl, b4⟩
        have B4 := Lib.hid (B3.out.tr b4)
        clear b4
        go_wp2_with fail
        refine (HCB.out w4).mono ?_; rintro e w5 ⟨rfl, b5⟩
        have B5 := Lib.hid (B4.out.tr b5)
        clear b5
        go_wp2_with fail
        go_ret
        exact ⟨rfl, B5.out⟩
end Go.Proofs.YtcagooijkecmoaaDoor
