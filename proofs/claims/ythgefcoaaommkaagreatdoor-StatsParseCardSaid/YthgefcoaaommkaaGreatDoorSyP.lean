/- The walk of the statement StatsParse. -/
import Derived.Test.YthgefcoaaommkaaGreatDoorSyJ
import Derived.Test.YthgefcoaaommkaaGreatDoorSyL
import Derived.Test.YthgefcoaaommkaaGreatDoorZi
import Derived.Test.YthgefcoaaommkaaGreatDoorZe
namespace Go.Proofs.YthgefcoaaommkaaGreatDoor
open Go.RowKit Go.Gn Go.Sr Go.Maps Go.Nr

set_option maxRecDepth 100000 in
set_option maxHeartbeats 8000000 in
theorem statsParse_walk (t : List UInt8) (_hm : t.length ≤ maxLen) (w : World) (hE : Env w) (hT : Tab w) : Calls Tryz.prog 7 #[enS t] w fun e w' => e = .returned (.bool true) ∧ Below w.heap.size w w' := by
  have HK := Lib.hid (fun W (hb : Below w.heap.size w W) => known_any W (hE.below hb))
  have HP := Lib.hid (fun W (hb : Below w.heap.size w W) (hl : t.length ≤ 16777216) => parse_any t W (hE.below hb) (hT.below hb) hl)
  have HTb := Lib.hid hT
  clear hE hT
  go_enter Tryz.func7, Tryz.ntmps7
  go_wp2_with fail
  refine (HK.out _ (Below.refl _ _)).mono ?_; rintro e w1 ⟨rfl, b1⟩
  have B1 := Lib.hid b1; clear b1
  by_cases hl : 4000 < t.length
  case pos =>
    go_wp2_with fail
    refine (HK.out _ B1.out).mono ?_; rintro e w3 ⟨rfl, b3⟩
    have B3 := Lib.hid (B1.out.tr b3); clear b3
    go_wp2_with fail
    go_ret
    exact ⟨rfl, B3.out⟩
  have hl4 : t.length ≤ 4000 := by omega
  have HM := Lib.hid (fun W => mParse_any t W (by omega))
  have HBd := Lib.hid (parseP_bd vN t)
  have HTx := Lib.hid (fun st => parseP_text (v := vN) (t := t) (st := st))
  have HP2 := Lib.hid (HP.out _ B1.out (by omega))
  obtain ⟨R, hR⟩ : ∃ z, parseP vN t = z := ⟨_, rfl⟩
  rw [hR] at HM HBd HP2
  have HTx2 := Lib.hid (fun st (h : R = .inl st) => HTx.out st (by rw [hR, h]))
  clear hR HTx HP HK
  go_wp2_with fail
  refine HP2.out.mono ?_; rintro e w2 hres
  clear HP2
  cases R with
  | inr q =>
    obtain ⟨n, f⟩ := q
    obtain ⟨rfl, b2⟩ := hres
    have B2 := Lib.hid (B1.out.tr b2)
    have hf0 : f ≠ 0 := HBd.out
    have bf : ((f : Int) != 0) = true := by simp; omega
    have e1 : ((f : Int) != f) = false := by simp
    have e2 : ((n : Int) != n) = false := by simp
    clear b2 HBd HTx2 B1
    go_wp2_with fail
    refine (HM.out _).mono ?_; rintro e w3 ⟨rfl, b3⟩
    have B3 := Lib.hid (B2.out.tr b3)
    clear b3 B2 HM
    unfold outP
    simp only
    go_wp2_with fail
    go_ret
    exact ⟨rfl, B3.out⟩
  | inl st =>
    obtain ⟨pp, bd, bn, rfl, sm, -, b2⟩ := hres
    have B2 := Lib.hid (B1.out.tr b2)
    have SM := Lib.hid sm
    have HB := Lib.hid (show BdS vN t.length st t.length from HBd.out)
    have HT2 := Lib.hid (HTx2.out st rfl)
    clear b2 HBd HTx2 B1 sm
    go_wp2_with fail
    refine (HM.out _).mono ?_; rintro e w3 ⟨rfl, b3⟩
    have B3 := Lib.hid (B2.out.tr b3)
    have SM3 := Lib.hid (SM.out.below b3)
    clear b3 B2 HM SM
    have hnum : ∀ c : C, NumR c → NumC c := fun c h => by unfold NumR at h; unfold NumC; omega
    have HTX := Lib.hid (text_any pp bd bn st.ds st.ns st.zs w3 SM3.out (HTb.out.below B3.out) (by have := HB.out.dn; omega) (by have := HB.out.nn; omega)
      (fun q hq => ⟨by have := (HB.out.ds q hq).1; omega, hnum _ (HB.out.ds q hq).2⟩) (fun q hq => ⟨(HB.out.ns q hq).2.1, by have := (HB.out.ns q hq).2.2.2.1; omega, hnum _ (HB.out.ns q hq).2.2.2.2⟩)
      (fun k => by have := HB.out.zs k; omega) (by rw [HT2.out.1]; omega))
    rw [HT2.out.1] at HTX
    have e1 : (t == t) = true := by simp
    clear HB HT2 hnum SM3
    unfold outP
    simp only
    go_wp2_with fail
    refine HTX.out.mono ?_; rintro e w4 ⟨rfl, b4⟩
    have B4 := Lib.hid (B3.out.tr b4)
    clear b4 B3 HTX
    go_wp2_with fail
    go_ret
    exact ⟨rfl, B4.out⟩
end Go.Proofs.YthgefcoaaommkaaGreatDoor
