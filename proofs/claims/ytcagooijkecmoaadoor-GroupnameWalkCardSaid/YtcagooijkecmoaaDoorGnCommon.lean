/- Contracts: the reference's Within and Common; Common. -/
import Derived.Test.YtcagooijkecmoaaDoorGnWithin
namespace Go.Proofs.YtcagooijkecmoaaDoor
open Go.RowKit Go.Gn

theorem join_any (A : Option Addr) (c : Nat) (xs : List (List UInt8)) (s : UInt8) (w : World) (hr : Rd w A xs) (hn : xs.length ≤ 1000000000) (hc : xs.length ≤ c) (hl : (text s xs).length ≤ 1000000000) :
    Calls Tryd.prog 58 #[.slice A xs.length c, .string ⟨#[s]⟩] w fun e w' => e = .returned (enS (text s xs)) ∧ Below w.heap.size w w' := by
  by_cases h0 : xs = []
  · subst h0
    exact (Tryd.strings_Join_none A c ⟨#[s]⟩ w).mono fun e w' ⟨h1, h2⟩ => ⟨h1, h2 ▸ Below.refl _ _⟩
  · obtain ⟨b, o, rfl, hb, hcell⟩ := hr (List.length_pos_iff.2 h0)
    have e1 : (xs.map fun x => (⟨x.toArray⟩ : ByteArray)).map (·.data.toList) = xs := by
      rw [List.map_map]; exact (List.map_congr_left fun x _ => rfl).trans (List.map_id xs)
    have h := Tryd.strings_Join b o c (xs.map fun x => (⟨x.toArray⟩ : ByteArray)) ⟨#[s]⟩ w (fun j x hx => by
      rw [List.getElem?_map] at hx
      cases hj : xs[j]? with
      | none => rw [hj] at hx; cases hx
      | some y => rw [hj] at hx; cases hx; exact hcell j y hj) hb (by simp; omega) (by simpa using hc) (by rw [e1]; exact Nat.le_trans hl (by decide))
    rw [e1, List.length_map] at h
    exact h

set_option maxRecDepth 100000 in
set_option maxHeartbeats 2000000 in
theorem refWithin_any (a h : List UInt8) (w : World) (la : a.length ≤ 100000000) (lh : h.length ≤ 100000000) : Calls Tryd.prog 34 #[enS a, enS h] w fun e w' => e = .returned (.bool (within a h)) ∧ Below w.heap.size w w' := by
  by_cases h0 : check a = 0
  · have h1 := refCheck_ok h0 w la
    by_cases k0 : check h = 0
    · have HK := Lib.hid (fun W => refCheck_ok k0 W lh)
      have HP := Lib.hid (fun W => refParts_any a 46 W la)
      have HQ := Lib.hid (fun W => refParts_any h 46 W lh)
      have VW : Hid (within a h = (parts 46 h).isPrefixOf (parts 46 a)) := by (show within a h = _); unfold within; rw [h0, k0]; rfl
      have lpa : (parts 46 a).length ≤ 100000001 := by have := parts_length_le 46 a; omega
      have lph : (parts 46 h).length ≤ 100000001 := by have := parts_length_le 46 h; omega
      have pa := parts_pos 46 a
      have ph := parts_pos 46 h
      by_cases hlt : (parts 46 a).length < (parts 46 h).length
      · have V : Hid (within a h = false) := by
          show within a h = false
          rw [VW.out, ← Bool.not_eq_true, List.isPrefixOf_iff_prefix]
          intro hp; have := hp.length_le; omega
        clear h0 k0 VW
        generalize parts 46 a = xs at *
        generalize parts 46 h = ys at *
        go_enter Tryd.func34, Tryd.ntmps34
        go_wp2_with fail
        refine h1.mono ?_; rintro e w1 ⟨rfl, b1⟩
        go_wp2_with fail
        refine (HK.out w1).mono ?_; rintro e w2 ⟨rfl, b2⟩
        go_wp2_with fail
        refine (HP.out w2).mono ?_; rintro e w3 ⟨A, c, rfl, hA, _, b3⟩
        clear hA
        go_wp2_with fail
        refine (HQ.out w3).mono ?_; rintro e w4 ⟨B, d, rfl, hB, _, b4⟩
        clear hB
        go_wp2_with fail
        go_ret
        exact ⟨ret_bool V.out.symm, ((b1.tr b2).tr b3).tr b4⟩
      · have hle : (parts 46 h).length ≤ (parts 46 a).length := by omega
        have ht := take_text a h hle
        have V : Hid (within a h = (text 46 ((parts 46 a).take (parts 46 h).length) == h)) := by
          show within a h = _
          rw [VW.out, Bool.eq_iff_iff, List.isPrefixOf_iff_prefix, beq_iff_eq, ht]
        have lt : (text 46 ((parts 46 a).take (parts 46 h).length)).length ≤ 1000000000 := by
          have := text_length_take 46 (parts 46 a) (parts 46 h).length
          rw [text_parts] at this; omega
        have htl : ((parts 46 a).take (parts 46 h).length).length = (parts 46 h).length := by rw [List.length_take]; omega
        clear h0 k0 VW ht hlt
        generalize parts 46 a = xs at *
        generalize parts 46 h = ys at *
        go_enter Tryd.func34, Tryd.ntmps34
        go_wp2_with fail
        refine h1.mono ?_; rintro e w1 ⟨rfl, b1⟩
        go_wp2_with fail
        refine (HK.out w1).mono ?_; rintro e w2 ⟨rfl, b2⟩
        go_wp2_with fail
        refine (HP.out w2).mono ?_; rintro e w3 ⟨A, c, rfl, hA, hc, b3⟩
        have HA := Lib.hid hA; clear hA
        go_wp2_with fail
        refine (HQ.out w3).mono ?_; rintro e w4 ⟨B, d, rfl, hB, _, b4⟩
        clear hB
        have hx := refText_any 46 A c (xs.take ys.length) w4 ((HA.out.below b4).take _) (by omega) lt
        rw [htl] at hx
        have hcz : (c : Int) ≥ ys.length := by omega
        clear htl HP HQ HK
        obtain ⟨b0, o0, _, rfl, _⟩ := HA.out.at_ pa
        generalize text 46 (xs.take ys.length) = tx at *
        go_wp2_with fail
        refine hx.mono ?_; rintro e w5 ⟨rfl, rfl⟩
        go_wp2_with fail
        go_ret
        exact ⟨ret_bool V.out.symm, ((b1.tr b2).tr b3).tr b4⟩
    · have HK := Lib.hid (fun W => refCheck_any h W lh)
      have V : Hid (within a h = false) := by (show within a h = false); unfold within; rw [decide_eq_false k0]; simp
      have hne : ((check h : Int) != 0) = true := by simp; omega
      clear h0 k0
      generalize check h = r at *
      go_enter Tryd.func34, Tryd.ntmps34
      go_wp2_with fail
      refine h1.mono ?_; rintro e w1 ⟨rfl, b1⟩
      go_wp2_with fail
      refine (HK.out w1).mono ?_; rintro e w2 ⟨rfl, b2⟩
      go_wp2_with fail
      go_ret
      exact ⟨ret_bool V.out.symm, b1.tr b2⟩
  · have h1 := refCheck_any a w la
    have V : Hid (within a h = false) := by (show within a h = false); unfold within; rw [decide_eq_false h0]; rfl
    have hne : ((check a : Int) != 0) = true := by simp; omega
    clear h0
    generalize check a = r at *
    go_enter Tryd.func34, Tryd.ntmps34
    go_wp2_with fail
    refine h1.mono ?_; rintro e w1 ⟨rfl, b1⟩
    go_wp2_with fail
    go_ret
    exact ⟨ret_bool V.out.symm, b1⟩

theorem min_take_succ (x : List (List UInt8)) (n k : Nat) : text 46 (x.take (min (k + 1) n)) = if k + 1 ≤ n then text 46 (x.take (k + 1)) else text 46 (x.take (min k n)) := by
  split
  · rw [Nat.min_eq_left (by omega)]
  · rw [Nat.min_eq_right (by omega), Nat.min_eq_right (by omega)]

set_option maxRecDepth 100000 in
set_option maxHeartbeats 4000000 in
theorem refCommon_any (a b : List UInt8) (w : World) (ha : check a = 0) (hb : check b = 0) : Calls Tryd.prog 36 #[enS a, enS b] w fun e w' => e = .returned (enS (common a b)) ∧ Below w.heap.size w w' := by
  have la : a.length ≤ 80 := ((check_zero a).1 ha).1
  have lb : b.length ≤ 80 := ((check_zero b).1 hb).1
  have hp := refParts_any a 46 w (by omega)
  have lpa : (parts 46 a).length ≤ 81 := by have := parts_length_le 46 a; omega
  have pa := parts_pos 46 a
  have sp : Hid (∀ k, 1 ≤ k → k ≤ (parts 46 a).length → (within a (text 46 ((parts 46 a).take k)) && within b (text 46 ((parts 46 a).take k))) = decide (k ≤ same0 (parts 46 a) (parts 46 b))) := fun k h1 h2 => common_spec ha hb k h1 h2
  have lt : Hid (∀ k, (text 46 ((parts 46 a).take k)).length ≤ 80) := fun k => by
    have := text_length_take 46 (parts 46 a) k
    rw [text_parts] at this; omega
  have wa : Hid (∀ k, 1 ≤ k → within a (text 46 ((parts 46 a).take k)) = true) := fun k h1 => within_take ha k h1
  have VC : Hid (common a b = text 46 ((parts 46 a).take (same0 (parts 46 a) (parts 46 b)))) := rfl
  have hs : same0 (parts 46 a) (parts 46 b) ≤ (parts 46 a).length := (same0_le _ _).1
  have WA := Lib.hid (fun (h : List UInt8) W (l : h.length ≤ 80) => refWithin_any a h W (by omega) (by omega))
  have WB := Lib.hid (fun (h : List UInt8) W (l : h.length ≤ 80) => refWithin_any b h W (by omega) (by omega))
  clear ha hb
  generalize same0 (parts 46 a) (parts 46 b) = n at *
  generalize parts 46 a = xs at *
  go_enter Tryd.func36, Tryd.ntmps36
  go_wp2_with fail
  refine hp.mono ?_; rintro e w1 ⟨A, c, rfl, hA, hc, b1⟩
  have HA := Lib.hid hA; clear hA
  obtain ⟨b0, o0, _, rfl, _⟩ := HA.out.at_ pa
  go_wp2_with fail
  go_loopg [5, 7, 8] xs.length (fun gg sv iv _ wr => ∃ k : Nat, k ≤ xs.length ∧ xs.length - k ≤ gg ∧ iv = .int .i64 ((k : Int) + 1) ∧ sv = enS (text 46 (xs.take (min k n))) ∧ Below w1.heap.size w1 wr)
  case atStart => exact ⟨0, by omega, by omega, rfl, by rw [Nat.zero_min]; rfl, Below.refl _ _⟩
  case round =>
    obtain ⟨k, hk, hg, rfl, rfl, hB⟩ := hrel
    by_cases hlt : k < xs.length
    · have hsp := sp.out (k + 1) (by omega) (by omega)
      rw [wa.out (k + 1) (by omega), Bool.true_and] at hsp
      have hlk := lt.out (k + 1)
      have htl : (xs.take (k + 1)).length = k + 1 := by rw [List.length_take]; omega
      have hx := refText_any 46 (some ⟨b0, o0, none⟩) c (xs.take (k + 1)) wr ((HA.out.below hB).take _) (by omega) (by omega)
      rw [htl] at hx
      have h1 := WA.out (text 46 (xs.take (k + 1))) wr hlk
      rw [wa.out (k + 1) (by omega)] at h1
      have H2 := Lib.hid (fun W => WB.out (text 46 (xs.take (k + 1))) W hlk)
      rw [hsp] at H2
      have hm := min_take_succ xs n k
      clear htl hsp
      have hcz : (k : Int) + 1 ≤ c := by omega
      have hcn : k + 1 ≤ c := by omega
      generalize text 46 (xs.take (k + 1)) = tk at *
      have e1 : (((k + 1 : Nat) : Nat) : Int) = (k : Int) + 1 := by omega
      by_cases hkn : k + 1 ≤ n
      · rw [if_pos hkn] at hm
        have HM := Lib.hid hm; clear hm
        rw [decide_eq_true hkn] at H2
        go_wp2_with fail
        refine hx.mono ?_; rintro e w2 ⟨rfl, rfl⟩
        go_wp2_with fail
        refine h1.mono ?_; rintro e w2 ⟨rfl, b2⟩
        go_wp2_with fail
        refine (H2.out w2).mono ?_; rintro e w3 ⟨rfl, b3⟩
        go_wp2_with fail
        go_roundg (xs.length - (k + 1))
        case measure => omega
        case rel => exact ⟨k + 1, by omega, by omega, by go_num, by rw [HM.out], (hB.tr b2).tr b3⟩
      · rw [if_neg hkn] at hm
        have HM := Lib.hid hm; clear hm
        rw [decide_eq_false hkn] at H2
        go_wp2_with fail
        refine hx.mono ?_; rintro e w2 ⟨rfl, rfl⟩
        go_wp2_with fail
        refine h1.mono ?_; rintro e w2 ⟨rfl, b2⟩
        go_wp2_with fail
        refine (H2.out w2).mono ?_; rintro e w3 ⟨rfl, b3⟩
        go_wp2_with fail
        go_roundg (xs.length - (k + 1))
        case measure => omega
        case rel => exact ⟨k + 1, by omega, by omega, by go_num, by rw [HM.out], (hB.tr b2).tr b3⟩
    · obtain rfl : k = xs.length := by omega
      rw [Nat.min_eq_right hs]
      go_wp2_with fail
      go_ret
      exact ⟨by rw [VC.out]; rfl, b1.tr hB⟩
end Go.Proofs.YtcagooijkecmoaaDoor
