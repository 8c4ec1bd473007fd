/- Contract: Restore.
   Contracts: the reference's has, restored, protected, Protect.
   Contracts: the reference's Protect and Restore. -/
import Derived.Test.YtlchcjnbbhpiaaaGreatDoorZj
import Derived.Test.YtlchcjnbbhpiaaaGreatDoorZy
namespace Go.Proofs.YtlchcjnbbhpiaaaGreatDoor
open Go.RowKit Go.Shelf Go.Dg
set_option maxRecDepth 100000 in
theorem has_ref (s : List UInt8) (w : World) (hl : s.length ≤ 1000000000) : Calls Tryz.prog 70 #[enS s, .int .u8 13] w fun e w' => e = .returned (.bool (has13 s)) ∧ w = w' := by
 have hsz : (⟨s.toArray⟩ : ByteArray).size = s.length := by show s.toArray.size = _; simp
 go_enter Tryz.func70, Tryz.ntmps70
 go_wp2_with fail
 go_loopg [5] s.length (fun gg iv wr => ∃ k : Nat, k ≤ s.length ∧ s.length - k ≤ gg ∧ iv = i64 k ∧ Hid (has13 (s.take k) = false) ∧ wr = w)
 case atStart => exact ⟨0, Nat.zero_le _, by omega, rfl, Lib.hid rfl, rfl⟩
 case round =>
  obtain ⟨k, hk, hgg, rfl, hpre, rfl⟩ := hrel
  by_cases hlt : k < s.length
  ·have bg := bget (t := s) (p := k) (show k < s.toArray.size by simpa using hlt) hlt
   obtain ⟨c, hc⟩ : ∃ c, s.getD k 0 = c := ⟨_, rfl⟩
   rw [hc] at bg
   have HC : Hid (s[k]? = some c) := Lib.hid (by (show _ = _); rw [← hc]; simp [List.getD, hlt])
   clear hc
   by_cases h13 : c = 13
   ·subst h13
    have V : Hid (has13 s = true) := Lib.hid (by (show _ = _); rw [has13_iff]; exact List.mem_of_getElem? HC.out)
    go_wp2_with fail
    go_ret
    rw [V.out]
    exact ⟨rfl, rfl⟩
   ·have hne : ((c.toNat : Int) == 13) = false := by
     simp only [beq_eq_false_iff_ne, ne_eq]
     intro h
     apply h13
     apply UInt8.toNat_inj.1
     have : c.toNat = 13 := by omega
     rw [this]; rfl
    have V : Hid (has13 (s.take (k + 1)) = false) := Lib.hid (by
     (show _ = _)
     obtain ⟨hl2, e2⟩ := List.getElem?_eq_some_iff.1 HC.out
     cases hb : has13 (s.take (k + 1)) with
     | false => rfl
     | true =>
      rw [List.take_succ_eq_append_getElem hl2, has13_iff, List.mem_append] at hb
      rcases hb with hb | hb
      ·have := hpre.out
       rw [has13_iff.2 hb] at this
       cases this
      ·rw [e2] at hb
       exact absurd (List.mem_singleton.1 hb).symm h13)
    clear h13
    go_wp2_with fail
    go_roundg (s.length - (k + 1))
    case measure => omega
    case rel => exact ⟨k + 1, by omega, by omega, by simp, V, rfl⟩
  ·obtain rfl : k = s.length := by omega
   have V : Hid (has13 s = false) := Lib.hid (by have := hpre.out; rwa [List.take_length] at this)
   go_wp2_with fail
   go_ret
   rw [V.out]
   exact ⟨rfl, rfl⟩
end Go.Proofs.YtlchcjnbbhpiaaaGreatDoor
namespace Go.Dg
end Go.Dg
namespace Go.Proofs.YtlchcjnbbhpiaaaGreatDoor
open Go.RowKit Go.Shelf Go.Dg
theorem u8_is {a : UInt8} (b : UInt8) (m : Int) (hb : (b.toNat : Int) = m) (h : a = b) : ((a.toNat : Int) == m) = true ∧ ((a.toNat : Int) != m) = false := by
 subst h; subst hb; simp
theorem u8_not {a : UInt8} (b : UInt8) (m : Int) (hb : (b.toNat : Int) = m) (h : a ≠ b) : ((a.toNat : Int) == m) = false ∧ ((a.toNat : Int) != m) = true := by
 subst hb
 have : (a.toNat : Int) ≠ b.toNat := fun e => h (UInt8.toNat_inj.1 (by omega))
 simp [this]
theorem bcat' (a b : List UInt8) : (⟨a.toArray⟩ : ByteArray) ++ ⟨b.toArray⟩ = ⟨(a ++ b).toArray⟩ := bcat a b
theorem ext_mid (s : List UInt8) (i j : Nat) : (⟨s.toArray⟩ : ByteArray).extract i j = ⟨((s.take j).drop i).toArray⟩ := by
 apply ByteArray.ext
 simp [ByteArray.data_extract, List.drop_take]
set_option maxRecDepth 100000 in
set_option maxHeartbeats 4000000 in
theorem protected_any (s : List UInt8) (w : World) (hl : s.length ≤ 100000000) : Calls Tryz.prog 71 #[enS s] w fun e w' => e = .returned (enS (prot s)) ∧ w = w' := by
 have hsz : (⟨s.toArray⟩ : ByteArray).size = s.length := by show s.toArray.size = _; simp
 go_enter Tryz.func71, Tryz.ntmps71
 go_wp2_with fail
 go_loopg [3, 4, 5] (s.length + 1) (fun gg ov fv iv wr => ∃ (k : Nat) (out : List UInt8) (f : Nat), k ≤ s.length + 1 ∧ s.length + 1 - k ≤ gg ∧ iv = i64 k ∧ ov = enS out ∧ fv = i64 f ∧ f ≤ k ∧ out.length ≤ 1000000000 ∧ Hid ((k ≤ s.length → out = outP (s.take k) ∧ f = frm (s.take k)) ∧ (k = s.length + 1 → out = prot s)) ∧ wr = w)
 case atStart => exact ⟨0, [], 0, by omega, by omega, rfl, rfl, rfl, Nat.le_refl _, by simp, Lib.hid ⟨fun _ => ⟨rfl, rfl⟩, fun h => by omega⟩, rfl⟩
 case round =>
  obtain ⟨k, out, f, hk, hgg, rfl, rfl, rfl, hfk, hol, II, rfl⟩ := hrel
  by_cases hlt : k < s.length
  ·have bg := bget (t := s) (p := k) (show k < s.toArray.size by simpa using hlt) hlt
   obtain ⟨c, hc⟩ : ∃ c, s.getD k 0 = c := ⟨_, rfl⟩
   rw [hc] at bg
   have HTK : Hid (s.take (k + 1) = s.take k ++ [c]) := Lib.hid (by
    (show _ = _)
    have e : s[k] = c := by rw [← hc]; simp [List.getD, hlt]
    rw [List.take_succ_eq_append_getElem hlt, e])
   clear hc
   obtain ⟨eo, ef⟩ := II.out.1 (by omega)
   by_cases h10 : c = 10
   case neg =>
    obtain ⟨q1, q2⟩ := u8_not 10 10 rfl h10
    have IN : Hid ((k + 1 ≤ s.length → out = outP (s.take (k + 1)) ∧ f = frm (s.take (k + 1))) ∧ (k + 1 = s.length + 1 → out = prot s)) := Lib.hid ⟨fun _ => by rw [HTK.out, outP_ne _ h10, frm_ne _ h10]; exact ⟨eo, ef⟩, fun h => by omega⟩
    clear h10 eo ef II
    go_wp2_with fail
    go_roundg (s.length + 1 - (k + 1))
    case measure => omega
    case rel => exact ⟨k + 1, out, f, by omega, by omega, by simp, rfl, rfl, by omega, hol, IN, rfl⟩
   case pos =>
    obtain ⟨q1, q2⟩ := u8_is 10 10 rfl h10
    have hk2 : (s.take k).length = k := by rw [List.length_take]; omega
    obtain ⟨cur, hcur⟩ : ∃ q, curL (s.take k) = q := ⟨_, rfl⟩
    have hfl := frm_le (s.take k)
    rw [hcur, ← ef, hk2] at hfl
    have hext : (⟨s.toArray⟩ : ByteArray).extract f k = ⟨cur.toArray⟩ := by rw [ext_mid, ef, cur_eq, hcur]
    have IN : Hid ((k + 1 ≤ s.length → out ++ (dash cur ++ cur ++ [10]) = outP (s.take (k + 1)) ∧ k + 1 = frm (s.take (k + 1))) ∧ (k + 1 = s.length + 1 → out ++ (dash cur ++ cur ++ [10]) = prot s)) := Lib.hid ⟨fun _ => by rw [HTK.out, h10, outP_nl, frm_nl, ← hcur, ← eo, hk2]; exact ⟨rfl, rfl⟩, fun h => by omega⟩
    have hol2 : (out ++ (dash cur ++ cur ++ [10])).length ≤ 1000000000 := by
     have h := outP_len (s.take (k + 1))
     have e := IN.out.1 (by omega)
     rw [← e.1] at h
     have h2 := List.length_take_le (k + 1) s
     omega
    have hhd : f < k → cur.head? = some (s.getD f 0) := fun h => by
     rw [← hcur, ← cur_eq, ← ef, List.head?_drop, List.getElem?_take, if_pos h]
     simp [List.getD, show f < s.length by omega]
    have hcl : cur.length ≤ 100000000 := by omega
    have hcz : (⟨cur.toArray⟩ : ByteArray).size = cur.length := by show cur.toArray.size = _; simp
    have hoz : (⟨out.toArray⟩ : ByteArray).size = out.length := by show out.toArray.size = _; simp
    have HFL := Lib.hid hfl
    have HHD := Lib.hid hhd
    have HOL := Lib.hid hol2
    clear hcur eo ef hk2 hfl hhd hol2 II
    by_cases hcc : f < k
    ·have bgf := bget (t := s) (p := f) (show f < s.toArray.size by simp; omega) (by omega)
     obtain ⟨b, hb⟩ : ∃ c, s.getD f 0 = c := ⟨_, rfl⟩
     have HB : Hid (cur.head? = some b) := Lib.hid (by rw [HHD.out hcc, hb])
     rw [hb] at bgf
     clear hb
     by_cases h45 : b = 45
     ·obtain ⟨g1, g2⟩ := u8_is 45 45 rfl h45
      have HD : Hid (dash cur = [45, 32]) := Lib.hid (by (show _ = _); unfold dash; rw [HB.out, h45, if_pos rfl])
      clear h45
      go_wp2_with fail
      go_roundg (s.length + 1 - (k + 1))
      case measure => omega
      case rel => exact ⟨k + 1, out ++ (dash cur ++ cur ++ [10]), k + 1, by omega, by omega, by simp, by rw [HD.out]; simp only [bcat']; simp, by simp, by omega, HOL.out, IN, rfl⟩
     ·obtain ⟨g1, g2⟩ := u8_not 45 45 rfl h45
      have HD : Hid (dash cur = []) := Lib.hid (by (show _ = _); unfold dash; rw [HB.out, if_neg (by simpa using h45)])
      clear h45
      go_wp2_with fail
      go_roundg (s.length + 1 - (k + 1))
      case measure => omega
      case rel => exact ⟨k + 1, out ++ (dash cur ++ cur ++ [10]), k + 1, by omega, by omega, by simp, by rw [HD.out]; simp only [bcat']; simp, by simp, by omega, HOL.out, IN, rfl⟩
    ·have HD : Hid (dash cur = []) := Lib.hid (by
      (show _ = _)
      have : cur = [] := List.eq_nil_of_length_eq_zero (by have := HFL.out; omega)
      rw [this]; rfl)
     go_wp2_with fail
     go_roundg (s.length + 1 - (k + 1))
     case measure => omega
     case rel => exact ⟨k + 1, out ++ (dash cur ++ cur ++ [10]), k + 1, by omega, by omega, by simp, by rw [HD.out]; simp only [bcat']; simp, by simp, by omega, HOL.out, IN, rfl⟩
  ·by_cases hend : k = s.length + 1
   ·subst hend
    have V := Lib.hid (II.out.2 rfl)
    clear II
    go_wp2_with fail
    go_ret
    rw [V.out]
    exact ⟨rfl, rfl⟩
   ·obtain rfl : k = s.length := by omega
    obtain ⟨eo, ef⟩ := II.out.1 (Nat.le_refl _)
    clear hend
    have hk2 : (s.take s.length).length = s.length := by rw [List.length_take]; omega
    obtain ⟨cur, hcur⟩ : ∃ q, curL (s.take s.length) = q := ⟨_, rfl⟩
    have hfl := frm_le (s.take s.length)
    rw [hcur, ← ef, hk2] at hfl
    have hext : (⟨s.toArray⟩ : ByteArray).extract f s.length = ⟨cur.toArray⟩ := by rw [ext_mid, ef, cur_eq, hcur]
    have IN : Hid ((s.length + 1 ≤ s.length → out ++ (dash cur ++ cur ++ [10]) = outP (s.take (s.length + 1)) ∧ s.length + 1 = frm (s.take (s.length + 1))) ∧ (s.length + 1 = s.length + 1 → out ++ (dash cur ++ cur ++ [10]) = prot s)) := Lib.hid ⟨fun h => by omega, fun _ => by
     have h := outP_end s
     rw [List.take_length] at hcur eo
     rw [h, ← hcur, ← eo]⟩
    have hol2 : (out ++ (dash cur ++ cur ++ [10])).length ≤ 1000000000 := by
     have h := prot_length s
     rw [← IN.out.2 rfl] at h
     omega
    have hhd : f < s.length → cur.head? = some (s.getD f 0) := fun h => by
     rw [← hcur, ← cur_eq, ← ef, List.head?_drop, List.getElem?_take, if_pos h]
     simp [List.getD, show f < s.length by omega]
    have hcl : cur.length ≤ 100000000 := by omega
    have hcz : (⟨cur.toArray⟩ : ByteArray).size = cur.length := by show cur.toArray.size = _; simp
    have hoz : (⟨out.toArray⟩ : ByteArray).size = out.length := by show out.toArray.size = _; simp
    have HFL := Lib.hid hfl
    have HHD := Lib.hid hhd
    have HOL := Lib.hid hol2
    clear hcur eo ef hk2 hfl hhd hol2 II
    by_cases hcc : f < s.length
    ·have bgf := bget (t := s) (p := f) (show f < s.toArray.size by simp; omega) (by omega)
     obtain ⟨b, hb⟩ : ∃ c, s.getD f 0 = c := ⟨_, rfl⟩
     have HB : Hid (cur.head? = some b) := Lib.hid (by rw [HHD.out hcc, hb])
     rw [hb] at bgf
     clear hb
     by_cases h45 : b = 45
     ·obtain ⟨g1, g2⟩ := u8_is 45 45 rfl h45
      have HD : Hid (dash cur = [45, 32]) := Lib.hid (by (show _ = _); unfold dash; rw [HB.out, h45, if_pos rfl])
      clear h45
      go_wp2_with fail
      go_roundg (s.length + 1 - (s.length + 1))
      case measure => omega
      case rel => exact ⟨s.length + 1, out ++ (dash cur ++ cur ++ [10]), s.length + 1, by omega, by omega, by simp, by rw [HD.out]; simp only [bcat']; simp, by simp, by omega, HOL.out, Lib.hid ⟨fun h => by omega, fun _ => by first | exact IN.out.2 rfl | exact IN.out.2 trivial⟩, rfl⟩
     ·obtain ⟨g1, g2⟩ := u8_not 45 45 rfl h45
      have HD : Hid (dash cur = []) := Lib.hid (by (show _ = _); unfold dash; rw [HB.out, if_neg (by simpa using h45)])
      clear h45
      go_wp2_with fail
      go_roundg (s.length + 1 - (s.length + 1))
      case measure => omega
      case rel => exact ⟨s.length + 1, out ++ (dash cur ++ cur ++ [10]), s.length + 1, by omega, by omega, by simp, by rw [HD.out]; simp only [bcat']; simp, by simp, by omega, HOL.out, Lib.hid ⟨fun h => by omega, fun _ => by first | exact IN.out.2 rfl | exact IN.out.2 trivial⟩, rfl⟩
    ·have HD : Hid (dash cur = []) := Lib.hid (by
      (show _ = _)
      have : cur = [] := List.eq_nil_of_length_eq_zero (by have := HFL.out; omega)
      rw [this]; rfl)
     go_wp2_with fail
     go_roundg (s.length + 1 - (s.length + 1))
     case measure => omega
     case rel => exact ⟨s.length + 1, out ++ (dash cur ++ cur ++ [10]), s.length + 1, by omega, by omega, by simp, by rw [HD.out]; simp only [bcat']; simp, by simp, by omega, HOL.out, Lib.hid ⟨fun h => by omega, fun _ => by first | exact IN.out.2 rfl | exact IN.out.2 trivial⟩, rfl⟩
end Go.Proofs.YtlchcjnbbhpiaaaGreatDoor
