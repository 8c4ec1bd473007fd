/- Contract of Common. -/
import Derived.Test.YtcagooijkecmoaaDoorGnJoin
namespace Go.Proofs.YtcagooijkecmoaaDoor
open Go.RowKit Go.Gn

/-- What Common returns. -/
def commonB (a b : List UInt8) : Bool := decide (check a = 0) && decide (check b = 0) && decide (0 < same0 (parts 46 a) (parts 46 b))
def commonS (a b : List UInt8) : List UInt8 := if commonB a b then common a b else []

set_option maxRecDepth 100000 in
set_option maxHeartbeats 4000000 in
theorem common_any (a b : List UInt8) (w : World) (hE : Env w) (la : a.length ≤ 1000000000) (lb : b.length ≤ 1000000000) :
    Calls Tryd.prog 35 #[enS a, enS b] w fun e w' => e = .returned (.tuple #[enS (commonS a b), .bool (commonB a b)]) ∧ Below w.heap.size w w' := by
  have h1 := gsplit_any a w hE la
  have H2 := Lib.hid (fun W (hb : Below w.heap.size w W) => gsplit_any b W (hE.below hb) lb)
  clear hE
  by_cases ha : check a = 0
  · by_cases hb : check b = 0
    · have V1 : splitS a = parts 46 a := by unfold splitS; rw [if_pos ha]
      have V2 : splitS b = parts 46 b := by unfold splitS; rw [if_pos hb]
      have VC : Hid (common a b = text 46 ((parts 46 a).take (same0 (parts 46 a) (parts 46 b)))) := rfl
      have VB : Hid (commonB a b = decide (0 < same0 (parts 46 a) (parts 46 b))) := by (show commonB a b = _); unfold commonB; rw [ha, hb]; rfl
      have VS : Hid (commonS a b = if 0 < same0 (parts 46 a) (parts 46 b) then common a b else []) := by
        show commonS a b = _
        unfold commonS; rw [VB.out]; simp
      have lt : Hid (∀ k, (text 46 ((parts 46 a).take k)).length ≤ 80) := fun k => by
        have := text_length_take 46 (parts 46 a) k
        have := ((check_zero a).1 ha).1
        rw [text_parts] at *; omega
      rw [V1, ha] at h1
      rw [V2, hb] at H2
      have lpa : (parts 46 a).length ≤ 10 := ((check_zero a).1 ha).2.2
      have lpb : (parts 46 b).length ≤ 10 := ((check_zero b).1 hb).2.2
      have pa := parts_pos 46 a
      have pb := parts_pos 46 b
      clear ha hb V1 V2
      generalize common a b = CM at *
      generalize commonB a b = CB at *
      generalize commonS a b = CS at *
      generalize parts 46 a = xs at *
      generalize parts 46 b = ys at *
      go_enter Tryd.func35, Tryd.ntmps35
      go_wp2_with fail
      refine h1.mono ?_; rintro e w1 ⟨A, c, rfl, hA, hc, b1⟩
      have HA := Lib.hid hA; clear hA
      go_wp2_with fail
      refine (H2.out w1 b1).mono ?_; rintro e w2 ⟨B, d, rfl, hB, _, b2⟩
      have HA2 := Lib.hid (HA.out.below b2); clear HA
      have HB := Lib.hid hB; clear hB
      have hBB := b1.tr b2
      clear b1 b2 H2
      obtain ⟨b0, o0, _, rfl, _⟩ := HA2.out.at_ pa
      obtain ⟨b3, o3, _, rfl, _⟩ := HB.out.at_ pb
      go_wp2_with fail
      go_loopg [9] xs.length (fun gg iv wr => ∃ k n : Nat, k ≤ xs.length ∧ k ≤ ys.length ∧ xs.length - k ≤ gg ∧ iv = .int .i64 k ∧ wr = w2.drewN n ∧ Hid (∀ j, j < k → xs[j]? = ys[j]?))
      case atStart => exact ⟨0, 0, by omega, by omega, by omega, rfl, rfl, fun j hj => absurd hj (by omega)⟩
      case round =>
        obtain ⟨k, n, hk, hk2, hg, rfl, rfl, T⟩ := hrel
        by_cases hlt : k < xs.length ∧ k < ys.length
        · obtain ⟨hl1, hl2⟩ := hlt
          obtain ⟨b4, o4, x, e1, _, hxk, hcell⟩ := HA2.out.at_ hl1
          cases e1
          obtain ⟨b5, o5, y, e2, _, hyk, hcell2⟩ := HB.out.at_ hl2
          cases e2
          have HX := Lib.hid hxk; clear hxk
          have HY := Lib.hid hyk; clear hyk
          have hmin : (k : Int) < min (xs.length : Int) ys.length := by omega
          by_cases hxy : x = y
          · subst hxy
            go_wp2_with fail
            go_quiet (fail)
            go_wp2_with fail
            go_roundg (xs.length - (k + 1))
            case measure => omega
            case rel =>
              refine ⟨k + 1, _, by omega, by omega, by omega, by go_num, rfl, fun j hj => ?_⟩
              rcases Nat.lt_succ_iff_lt_or_eq.1 hj with h | h
              · exact T.out j h
              · subst h; rw [HX.out, HY.out]
          · have e1 : (x == y) = false := by simpa using hxy
            have hs : same0 xs ys = k := same0_eq xs ys k (by omega) (by omega) T.out (fun _ _ => by rw [HX.out, HY.out]; simpa using hxy)
            have NE := Lib.hid hxy; clear hxy
            have HSm := Lib.hid hs; clear hs
            by_cases hk0 : k = 0
            · have h00 : ((k : Int) == 0) = true := by rw [hk0]; rfl
              have h01 : (k == 0) = true := by simpa using hk0
              have HK0 := Lib.hid hk0; clear hk0
              have EB : Hid (CB = false) := by (show CB = false); rw [VB.out, HSm.out, HK0.out]; rfl
              have ES : Hid (CS = []) := by (show CS = []); rw [VS.out, HSm.out, HK0.out]; rfl
              go_wp2_with fail
              go_quiet (fail)
              go_wp2_with fail
              go_ret2
              exact ⟨by rw [EB.out, ES.out]; rfl, hBB.drewN _⟩
            · have EB : Hid (CB = true) := by (show CB = true); rw [VB.out, HSm.out]; simp; omega
              have ES : Hid (CS = text 46 (xs.take k)) := by (show CS = _); rw [VS.out, HSm.out, if_pos (by omega), VC.out, HSm.out]
              have h00 : ((k : Int) == 0) = false := by simp; omega
              have h01 : (k == 0) = false := by simpa using hk0
              have htl : (xs.take k).length = k := by rw [List.length_take]; omega
              have HJ := Lib.hid (fun W (hb : Below w2.heap.size w2 W) => join_any (some ⟨b0, o0, none⟩) c (xs.take k) 46 W ((HA2.out.below hb).take _) (by omega) (by omega) (by have := lt.out k; omega))
              rw [htl] at HJ
              have hkc : (k : Int) ≤ c := by omega
              have hkn : k ≤ c := by omega
              clear htl hk0
              generalize text 46 (xs.take k) = tk at *
              go_wp2_with fail
              go_quiet (fail)
              go_wp2_with fail
              refine (HJ.out _ ((Below.refl _ _).drewN _)).mono ?_; rintro e w5 ⟨rfl, b5⟩
              go_wp2_with fail
              go_ret2
              exact ⟨by rw [EB.out, ES.out]; rfl, (hBB.tr ((Below.refl _ _).drewN _)).tr b5⟩
        · have hs : same0 xs ys = k := same0_eq xs ys k (by omega) (by omega) T.out (fun h1 h2 => absurd ⟨h1, h2⟩ hlt)
          have hmin : min (xs.length : Int) ys.length ≤ (k : Int) := by omega
          have hmin2 : ¬ (k : Int) < min (xs.length : Int) ys.length := by omega
          have hmin3 : decide ((k : Int) < min (xs.length : Int) ys.length) = false := decide_eq_false hmin2
          clear hlt
          have HSm := Lib.hid hs; clear hs
          by_cases hk0 : k = 0
          · have h00 : ((k : Int) == 0) = true := by rw [hk0]; rfl
            have h01 : (k == 0) = true := by simpa using hk0
            have HK0 := Lib.hid hk0; clear hk0
            have EB : Hid (CB = false) := by (show CB = false); rw [VB.out, HSm.out, HK0.out]; rfl
            have ES : Hid (CS = []) := by (show CS = []); rw [VS.out, HSm.out, HK0.out]; rfl
            go_wp2_with fail
            go_quiet (fail)
            go_wp2_with fail
            go_ret2
            exact ⟨by rw [EB.out, ES.out]; rfl, hBB.drewN _⟩
          · have EB : Hid (CB = true) := by (show CB = true); rw [VB.out, HSm.out]; simp; omega
            have ES : Hid (CS = text 46 (xs.take k)) := by (show CS = _); rw [VS.out, HSm.out, if_pos (by omega), VC.out, HSm.out]
            have h00 : ((k : Int) == 0) = false := by simp; omega
            have h01 : (k == 0) = false := by simpa using hk0
            have htl : (xs.take k).length = k := by rw [List.length_take]; omega
            have HJ := Lib.hid (fun W (hb : Below w2.heap.size w2 W) => join_any (some ⟨b0, o0, none⟩) c (xs.take k) 46 W ((HA2.out.below hb).take _) (by omega) (by omega) (by have := lt.out k; omega))
            rw [htl] at HJ
            have hkc : (k : Int) ≤ c := by omega
            have hkn : k ≤ c := by omega
            clear htl hk0
            generalize text 46 (xs.take k) = tk at *
            go_wp2_with fail
            go_quiet (fail)
            go_wp2_with fail
            refine (HJ.out _ ((Below.refl _ _).drewN _)).mono ?_; rintro e w5 ⟨rfl, b5⟩
            go_wp2_with fail
            go_ret2
            exact ⟨by rw [EB.out, ES.out]; rfl, (hBB.tr ((Below.refl _ _).drewN _)).tr b5⟩
    · have V1 : splitS a = parts 46 a := by unfold splitS; rw [if_pos ha]
      have V2 : splitS b = [] := by unfold splitS; rw [if_neg hb]
      have VB : Hid (commonB a b = false) := by (show commonB a b = _); unfold commonB; rw [decide_eq_false hb]; simp
      have VS : Hid (commonS a b = []) := by (show commonS a b = _); unfold commonS; rw [VB.out]; rfl
      have hne : ((check b : Int) != 0) = true := by simp; omega
      rw [VB.out, VS.out]
      rw [V1, ha] at h1
      rw [V2] at H2
      clear ha hb V1 V2
      generalize check b = r at *
      generalize parts 46 a = xs at *
      go_enter Tryd.func35, Tryd.ntmps35
      go_wp2_with fail
      refine h1.mono ?_; rintro e w1 ⟨A, c, rfl, hA, hc, b1⟩
      clear hA
      go_wp2_with fail
      refine (H2.out w1 b1).mono ?_; rintro e w2 ⟨B, d, rfl, hB, _, b2⟩
      clear hB
      go_wp2_with fail
      go_ret2
      exact ⟨rfl, b1.tr b2⟩
  · have V1 : splitS a = [] := by unfold splitS; rw [if_neg ha]
    have VB : Hid (commonB a b = false) := by (show commonB a b = _); unfold commonB; rw [decide_eq_false ha]; rfl
    have VS : Hid (commonS a b = []) := by (show commonS a b = _); unfold commonS; rw [VB.out]; rfl
    have hne : ((check a : Int) != 0) = true := by simp; omega
    rw [VB.out, VS.out]
    rw [V1] at h1
    clear ha V1
    generalize check a = r at *
    go_enter Tryd.func35, Tryd.ntmps35
    go_wp2_with fail
    refine h1.mono ?_; rintro e w1 ⟨A, c, rfl, hA, hc, b1⟩
    clear hA
    go_wp2_with fail
    go_ret2
    exact ⟨rfl, b1⟩
end Go.Proofs.YtcagooijkecmoaaDoor
