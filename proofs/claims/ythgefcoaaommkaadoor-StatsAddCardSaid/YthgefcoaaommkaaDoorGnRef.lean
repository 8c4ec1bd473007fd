/- Contracts of the reference: Parts, Component, Check, Text; and of the statements' own same and short. -/
import Derived.Test.YthgefcoaaommkaaDoorGnApp
import Derived.Test.YthgefcoaaommkaaDoorGnName
namespace Go.Proofs.YthgefcoaaommkaaDoor
open Go.RowKit Go.Gn

theorem ext1 {s : List UInt8} {k : Nat} {b : UInt8} (hk : k < s.length) (h : s.getD k 0 = b) : (⟨s.toArray⟩ : ByteArray).extract k (k + 1) = ⟨[b].toArray⟩ := by
  apply ByteArray.ext
  rw [ByteArray.data_extract]
  apply Array.toList_inj.1
  simp
  rw [List.take_drop, List.take_succ_eq_append_getElem hk]
  simp [hk] at h
  simp [h, Nat.min_eq_left (Nat.le_of_lt hk)]
/-- The call returns a slice that reads as xs; what was there is as it was. -/
def Gives (w : World) (xs : List (List UInt8)) (e : Ending) (w' : World) : Prop :=
  ∃ A c, e = .returned (.slice A xs.length c) ∧ Rd w' A xs ∧ xs.length ≤ c ∧ Below w.heap.size w w'
theorem gives_own {w w' : World} {v : Value} {xs : List (List UInt8)} (h : w'.ownsRow w.heap.size 9 1 v xs.length (xs.map enS)) (hb : Below w.heap.size w w') : Gives w xs (.returned v) w' := by
  obtain ⟨A, c, rfl⟩ := own_slice h
  obtain ⟨h1, h2, h3⟩ := Rd.of_own h
  exact ⟨A, c, rfl, h1, h3, hb⟩

set_option maxRecDepth 100000 in
set_option maxHeartbeats 1000000 in
theorem refParts_any (s : List UInt8) (c : UInt8) (w : World) (hl : s.length ≤ 100000000) :
    Calls Tryd.prog 50 #[enS s, .int .u8 c.toNat] w (Gives w (parts c s)) := by
  go_enter Tryd.func50, Tryd.ntmps50
  go_wp2
  go_loopg [5, 6, 7] s.length (fun gg ov pv iv wr => ∃ (k : Nat) (out : List (List UInt8)) (p : List UInt8), k ≤ s.length ∧ s.length - k ≤ gg ∧ iv = .int .i64 k ∧ pv = enS p ∧ out.length ≤ k ∧ wr.ownsRow w.heap.size 9 1 ov out.length (out.map enS) ∧ Below w.heap.size w wr ∧ Hid (parts c (s.take k) = out ++ [p]))
  case atStart => exact ⟨0, [], [], Nat.zero_le _, by omega, rfl, rfl, by simp, World.ownsRow_nil _ _ _ _, Below.refl _ _, (show parts c (s.take 0) = [] ++ [[]] from rfl)⟩
  case round =>
    obtain ⟨k, out, p, hk, hg, rfl, rfl, hok, hown, hB, V⟩ := hrel
    have hpl : p.length ≤ s.length := by
      have := parts_le c (s.take k) p (by rw [V.out]; simp)
      simp at this; omega
    by_cases hlt : k < s.length
    · have bg := bget (t := s) (p := k) (show k < s.toArray.size by simpa using hlt) hlt
      have hts : s.take (k + 1) = s.take k ++ [s.getD k 0] := by rw [List.take_succ_eq_append_getElem hlt]; simp [hlt]
      obtain ⟨b, hb⟩ : ∃ b, s.getD k 0 = b := ⟨_, rfl⟩
      rw [hb] at bg hts
      have HB := Lib.hid hb; clear hb
      have HT := Lib.hid hts; clear hts
      have HO := Lib.hid hown; clear hown
      by_cases hbc : b = c
      · subst hbc
        have V2 : Hid (parts b (s.take (k + 1)) = (out ++ [p]) ++ [[]]) := by
          show parts b (s.take (k + 1)) = _
          rw [HT.out, parts_snoc_sep, V.out]
        go_wp2_with (at_builtin; (refine wpList_app1 wr rfl _ _ rfl w.heap.size _ out p HO.out rfl rfl (by omega) hB.size ?_); intro v1 w1 hown1 hb1)
        have HO1 := Lib.hid hown1; clear hown1 HO
        go_wp2
        go_roundg (s.length - (k + 1))
        case measure => omega
        case rel => exact ⟨k + 1, out ++ [p], [], by omega, by omega, by go_num, rfl, by simp; omega, HO1.out, hB.trans hb1, V2.out⟩
      · have V2 : Hid (parts c (s.take (k + 1)) = out ++ [p ++ [b]]) := by
          show parts c (s.take (k + 1)) = _
          rw [HT.out, parts_snoc hbc _ _ _ V.out]
        have hne : ((b.toNat : Int) == (c.toNat : Int)) = false := by
          simp; intro e; exact hbc (UInt8.toNat_inj.1 (by omega))
        have hne2 : (b.toNat == c.toNat) = false := by
          simp; intro e; exact hbc (UInt8.toNat_inj.1 (by omega))
        have hne3 : ¬ b.toNat = c.toNat := fun e => hbc (UInt8.toNat_inj.1 e)
        have hx1 : (⟨s.toArray⟩ : ByteArray).extract k (k + 1) = ⟨[b].toArray⟩ := by
          exact ext1 hlt HB.out
        go_wp2
        go_roundg (s.length - (k + 1))
        case measure => omega
        case rel => exact ⟨k + 1, out, p ++ [b], by omega, by omega, by go_num, str_congr (bcat p [b]), by omega, HO.out, hB, V2.out⟩
    · obtain rfl : k = s.length := by omega
      rw [List.take_length] at V
      have HO := Lib.hid hown; clear hown
      go_wp2_with (at_builtin; (refine wpList_app1 wr rfl _ _ rfl w.heap.size _ out p HO.out rfl rfl (by omega) hB.size ?_); intro v1 w1 hown1 hb1)
      have HO1 := Lib.hid hown1; clear hown1 HO
      go_wp2
      go_ret
      rw [V.out]
      exact gives_own HO1.out (hB.trans hb1)
end Go.Proofs.YthgefcoaaommkaaDoor
