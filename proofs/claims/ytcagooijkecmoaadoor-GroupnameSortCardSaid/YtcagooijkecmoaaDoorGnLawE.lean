/- The walks of the statements GroupnameChildren and GroupnameSort. -/
import Derived.Test.YtcagooijkecmoaaDoorGnLawC
import Derived.Test.YtcagooijkecmoaaDoorGnRKids
namespace Go.Proofs.YtcagooijkecmoaaDoor
open Go.RowKit Go.Gn

set_option maxRecDepth 100000 in
set_option maxHeartbeats 4000000 in
theorem groupnameChildren_walk (A : Option Addr) (c : Nat) (xs : List (List UInt8)) (h : List UInt8) (lh : h.length ≤ maxLen) (w : World) (hr : Rd w A xs) (hc : xs.length ≤ c) (hcm : c ≤ maxLen) (hx : ∀ x ∈ xs, x.length ≤ maxLen) (hE : Env w) :
    Calls Tryd.prog 5 #[.slice A xs.length c, enS h] w fun e w' => e = .returned (.bool true) ∧ Below w.heap.size w w' := by
  have hk := known_any w hE
  have HS := Lib.hid (fun W (h : Rd W A xs) => short_any A c xs W h (Nat.le_trans hc hcm) hx)
  have HK := Lib.hid (fun W (b : Below w.heap.size w W) => known_any W (hE.below b))
  have R0 := Lib.hid hr; clear hr hx
  unfold maxLen at hcm lh
  cases hsh : shortL xs with
  | false =>
    rw [hsh] at HS
    clear hsh hE
    go_enter Tryd.func5, Tryd.ntmps5
    go_wp2_with fail
    refine (hk).mono ?_; rintro e w1 ⟨rfl, b1⟩
    have R1 := Lib.hid (R0.out.below b1)
    have B1 := Lib.hid (b1)
    clear b1
    go_wp2_with fail
    refine (HS.out w1 R1.out).mono ?_; rintro e w2 ⟨rfl, rfl⟩
    go_wp2_with fail
    refine (HK.out w1 B1.out).mono ?_; rintro e w3 ⟨rfl, b3⟩
    have B3 := Lib.hid (B1.out.tr b3)
    clear b3
    go_wp2_with fail
    go_ret
    exact ⟨rfl, B3.out⟩
  | true =>
    rw [hsh] at HS
    have hl := sh_len hsh
    have hx := sh_all hsh (n := 1000000000) (by decide)
    have hx2 := sh_all hsh (n := 1000000) (by decide)
    by_cases h120 : 120 < h.length
    · clear hsh hE
      go_enter Tryd.func5, Tryd.ntmps5
      go_wp2_with fail
      refine (hk).mono ?_; rintro e w1 ⟨rfl, b1⟩
      have R1 := Lib.hid (R0.out.below b1)
      have B1 := Lib.hid (b1)
      clear b1
      go_wp2_with fail
      refine (HS.out w1 R1.out).mono ?_; rintro e w2 ⟨rfl, rfl⟩
      go_wp2_with fail
      refine (HK.out w1 B1.out).mono ?_; rintro e w3 ⟨rfl, b3⟩
      have B3 := Lib.hid (B1.out.tr b3)
      clear b3
      go_wp2_with fail
      go_ret
      exact ⟨rfl, B3.out⟩
    · have HE := Lib.hid hE.all
      have H1 := Lib.hid (fun W (hb : Below w.heap.size w W) (hr : Rd W A xs) => children_any A c xs h W (HE.out W hb) hr (by omega) hx (by omega))
      have H2 := Lib.hid (fun W (hr : Rd W A xs) => refChildren_any A c xs h W hr (by omega) hx2 (by omega))
      have hkl : (kidsS xs h).length ≤ 1000000000 := by
        unfold kidsS
        split
        · have a1 := insAll_length scmp (kids (preOf h) (sortS xs))
          have a2 := kids_length (preOf h) (sortS xs)
          have a3 := sortS_length xs
          omega
        · simp
      have H3 := Lib.hid (fun B D c d W (h1 : Rd W B (kidsS xs h)) (h2 : Rd W D (kidsS xs h)) => same_any B D c d (kidsS xs h) (kidsS xs h) W h1 h2 hkl hkl)
      rw [decide_eq_true rfl] at H3
      clear hE hsh hx hx2 hkl
      generalize kidsS xs h = ks at *
      generalize (kidsE xs h : Int) = ke at *
      go_enter Tryd.func5, Tryd.ntmps5
      go_wp2_with fail
      refine (hk).mono ?_; rintro e w1 ⟨rfl, b1⟩
      have R1 := Lib.hid (R0.out.below b1)
      have B1 := Lib.hid (b1)
      clear b1
      go_wp2_with fail
      refine (HS.out w1 R1.out).mono ?_; rintro e w2 ⟨rfl, rfl⟩
      go_wp2_with fail
      refine (H1.out w1 B1.out R1.out).mono ?_; rintro e w3 ⟨A3, c3, rfl, hr3, _, b3⟩
      have R3 := Lib.hid (R1.out.below b3)
      have S3 := Lib.hid hr3; clear hr3
      have B3 := Lib.hid (B1.out.tr b3)
      clear b3
      go_wp2_with fail
      refine (H2.out w3 R3.out).mono ?_; rintro e w4 ⟨A4, c4, rfl, hr4, _, b4⟩
      have S4 := Lib.hid (S3.out.below b4)
      have T4 := Lib.hid hr4; clear hr4
      have B4 := Lib.hid (B3.out.tr b4)
      clear b4
      go_wp2_with fail
      refine (H3.out A3 A4 c3 c4 w4 S4.out T4.out).mono ?_; rintro e w5 ⟨rfl, b5⟩
      have B5 := Lib.hid (B4.out.tr b5)
      clear b5
      go_wp2_with fail
      go_ret
      exact ⟨rfl, B5.out⟩
end Go.Proofs.YtcagooijkecmoaaDoor
