/- The walk of the statement DigestProtect. -/
import Derived.Test.YtlchcjnbbhpiaaaGreatDoorZn
import Derived.Test.YtlchcjnbbhpiaaaGreatDoorZz
namespace Go.Proofs.YtlchcjnbbhpiaaaGreatDoor
open Go.RowKit Go.Shelf Go.Dg

set_option maxRecDepth 100000 in
set_option maxHeartbeats 8000000 in
theorem digestProtect_walk (s : List UInt8) (_hm : s.length ≤ maxLen) (w : World) (hg : GlD w) : Calls Tryz.prog 9 #[enS s] w fun e w' => e = .returned (.bool true) ∧ Below w.heap.size w w' := by
  have HK := Lib.hid (fun W (hb : Below w.heap.size w W) => known_any W (hg.below hb))
  have HG := Lib.hid hg
  have hsz : (⟨s.toArray⟩ : ByteArray).size = s.length := by show s.toArray.size = _; simp
  clear hg
  go_enter Tryz.func9, Tryz.ntmps9
  go_wp2_with fail
  refine (HK.out _ (Below.refl _ _)).mono ?_; rintro e w1 ⟨rfl, b1⟩
  have B1 := Lib.hid b1; clear b1
  by_cases hl : 600 < s.length
  case pos =>
    go_wp2_with fail
    refine (HK.out _ B1.out).mono ?_; rintro e w3 ⟨rfl, b3⟩
    have B3 := Lib.hid (B1.out.tr b3); clear b3
    go_wp2_with fail
    go_ret
    exact ⟨rfl, B3.out⟩
  have HL : Hid (s.length ≤ 600) := Lib.hid (by (show _ ≤ _); omega)
  have HP := Lib.hid (protect_any s w1 (by omega))
  have HP2 := Lib.hid (fun W => protect_ref s W (by have := HL.out; omega))
  have HR := Lib.hid (fun W (hb : Below w.heap.size w W) => restore_any s W (by have := HL.out; omega) (HG.out.below hb))
  have HR2 := Lib.hid (fun W => restore_ref s W (by have := HL.out; omega))
  have HPF := Lib.hid (show protF s = if has13 s = true then ([], 6) else (prot s, 0) by unfold protF; rw [if_neg (by omega)])
  clear HK
  obtain ⟨P, hP⟩ : ∃ q, protF s = q := ⟨_, rfl⟩
  obtain ⟨R, hR⟩ : ∃ q, restF s = q := ⟨_, rfl⟩
  rw [hP] at HP HP2 HPF
  rw [hR] at HR HR2
  clear hP hR
  go_wp2_with fail
  refine HP.out.mono ?_; rintro e w2 ⟨rfl, b2⟩
  have B2 := Lib.hid (B1.out.tr b2)
  clear b2 HP B1
  go_wp2_with fail
  refine (HP2.out w2).mono ?_; rintro e w3 ⟨rfl, rfl⟩
  go_wp2_with fail
  refine (HR.out w2 B2.out).mono ?_; rintro e w3 ⟨rfl, b3⟩
  have B3 := Lib.hid (B2.out.tr b3)
  clear b3 HR B2 HP2
  go_wp2_with fail
  refine (HR2.out w3).mono ?_; rintro e w4 ⟨rfl, rfl⟩
  clear HR2
  have e1 : (P.1 == P.1) = true := by simp
  have e2 : (R.1 == R.1) = true := by simp
  have e3 : (P.2 != P.2) = false := by simp
  have e4 : (R.2 != R.2) = false := by simp
  cases q : has13 s with
  | true =>
    have hp : P = ([], 6) := by rw [HPF.out, q]; rfl
    subst hp
    clear HPF q
    go_wp2_with fail
    go_ret
    exact ⟨rfl, B3.out⟩
  | false =>
  have hp : P = (prot s, 0) := by rw [HPF.out, q]; rfl
  subst hp
  have HRP := Lib.hid (restF_prot q HL.out)
  have HND := Lib.hid (prot_noDD s)
  have htl := prot_length s
  clear HPF q
  obtain ⟨T, hT⟩ : ∃ q, prot s = q := ⟨_, rfl⟩
  simp only [hT] at e1 ⊢
  rw [hT] at HRP HND htl
  clear hT
  have htz : (⟨T.toArray⟩ : ByteArray).size = T.length := by show T.toArray.size = _; simp
  have htl2 : T.length ≤ 2000 := by omega
  have HRT := Lib.hid (restore_any T w3 (by omega) (HG.out.below B3.out))
  rw [HRP.out] at HRT
  clear htl HRP
  go_wp2_with fail
  go_loopg [11] T.length (fun gg iv wr => ∃ k : Nat, k ≤ T.length + 1 ∧ T.length - k ≤ gg ∧ iv = i64 k ∧ wr = w3)
  case atStart => exact ⟨0, by omega, by omega, rfl, rfl⟩
  case round =>
    obtain ⟨k, hk, hgg, rfl, rfl⟩ := hrel
    by_cases hlt : k + 1 < T.length
    · have bg1 := bget (t := T) (p := k) (show k < T.toArray.size by simp; omega) (by omega)
      have bg2 := bget (t := T) (p := k + 1) (show k + 1 < T.toArray.size by simp; omega) (by omega)
      obtain ⟨c1, hc1⟩ : ∃ c, T.getD k 0 = c := ⟨_, rfl⟩
      obtain ⟨c2, hc2⟩ : ∃ c, T.getD (k + 1) 0 = c := ⟨_, rfl⟩
      rw [hc1] at bg1
      rw [hc2] at bg2
      have ND := HND.out k
      rw [hc1, hc2] at ND
      have HN2 := Lib.hid ND
      clear ND hc1 hc2
      by_cases hk0 : k = 0
      · subst hk0
        by_cases h45 : c1 = 45
        · obtain ⟨g1, g2⟩ := u8_is 45 45 rfl h45
          obtain ⟨g3, g4⟩ := u8_not 45 45 rfl (HN2.out (.inl rfl) h45)
          clear h45 HN2
          go_wp2_with fail
          go_roundg (T.length - (0 + 1))
          case measure => omega
          case rel => exact ⟨0 + 1, by omega, by omega, by simp, rfl⟩
        · obtain ⟨g1, g2⟩ := u8_not 45 45 rfl h45
          clear h45 HN2
          go_wp2_with fail
          go_roundg (T.length - (0 + 1))
          case measure => omega
          case rel => exact ⟨0 + 1, by omega, by omega, by simp, rfl⟩
      · have bg0 := bget (t := T) (p := k - 1) (show k - 1 < T.toArray.size by simp; omega) (by omega)
        obtain ⟨c0, hc0⟩ : ∃ c, T.getD (k - 1) 0 = c := ⟨_, rfl⟩
        rw [hc0] at bg0
        have HN3 : Hid (c0 = 10 → c1 = 45 → c2 ≠ 45) := Lib.hid fun h => HN2.out (.inr (hc0.trans h))
        have hkz : ((k : Int) == 0) = false := by simpa using hk0
        clear hc0 HN2
        by_cases h10 : c0 = 10
        · obtain ⟨f1, f2⟩ := u8_is 10 10 rfl h10
          by_cases h45 : c1 = 45
          · obtain ⟨g1, g2⟩ := u8_is 45 45 rfl h45
            obtain ⟨g3, g4⟩ := u8_not 45 45 rfl (HN3.out h10 h45)
            clear h45 HN3 h10
            go_wp2_with fail
            go_roundg (T.length - (k + 1))
            case measure => omega
            case rel => exact ⟨k + 1, by omega, by omega, by simp, rfl⟩
          · obtain ⟨g1, g2⟩ := u8_not 45 45 rfl h45
            clear h45 HN3 h10
            go_wp2_with fail
            go_roundg (T.length - (k + 1))
            case measure => omega
            case rel => exact ⟨k + 1, by omega, by omega, by simp, rfl⟩
        · obtain ⟨f1, f2⟩ := u8_not 10 10 rfl h10
          clear HN3 h10
          go_wp2_with fail
          go_roundg (T.length - (k + 1))
          case measure => omega
          case rel => exact ⟨k + 1, by omega, by omega, by simp, rfl⟩
    · have hq : ¬ ((k : Int) + 1 < T.length) := by omega
      go_wp2_with fail
      refine HRT.out.mono ?_; rintro e w5 ⟨rfl, b5⟩
      have B5 := Lib.hid (B3.out.tr b5)
      have ess : (s == s) = true := by simp
      clear b5
      go_wp2_with fail
      go_ret
      exact ⟨rfl, B5.out⟩
end Go.Proofs.YtlchcjnbbhpiaaaGreatDoor
