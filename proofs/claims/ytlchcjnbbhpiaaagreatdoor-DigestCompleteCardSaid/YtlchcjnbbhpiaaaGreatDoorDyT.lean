/- Contracts: the check of an item whose texts have any length, Add of such an item. -/
import Derived.Test.YtlchcjnbbhpiaaaGreatDoorYad
namespace Go.Proofs.YtlchcjnbbhpiaaaGreatDoor
open Go.RowKit Go.Shelf Go.Dg Go.Maps
set_option maxRecDepth 100000 in
set_option maxHeartbeats 2000000 in
theorem isPlain_w (s : List UInt8) (w : World) (hl : s.length ≤ 9223372036854775807) :
  Calls Tryz.prog 104 #[enS s] w fun e w' => e = .returned (.bool (plainB s)) ∧ w = w' := by
 have H1 := Lib.hid (fun u => hasPre s [32] u)
 have H2 := Lib.hid (fun u => hasSuf s [32] u (by omega))
 rw [pre1] at H1
 rw [suf1] at H2
 have V := Lib.hid (show plainB s = (s.all okC && (s.head? != some 32) && (s.getLast? != some 32)) from rfl)
 go_enter Tryz.func104, Tryz.ntmps104
 go_wp2_with fail
 go_loopg [6] s.length (fun gg iv wr => ∃ k : Nat, k ≤ s.length ∧ s.length - k ≤ gg ∧ iv = i64 k ∧ Hid ((s.take k).all okC = true) ∧ wr = w)
 case atStart => exact ⟨0, Nat.zero_le _, by omega, rfl, Lib.hid rfl, rfl⟩
 case round =>
  obtain ⟨k, hk, hg, rfl, HA, rfl⟩ := hrel
  by_cases hlt : k < s.length
  ·have bg := bget (t := s) (p := k) (show k < s.toArray.size by simpa using hlt) hlt
   have hts := all_take_succ (p := okC) hlt
   obtain ⟨c, hc⟩ : ∃ c, s.getD k 0 = c := ⟨_, rfl⟩
   rw [hc] at bg hts
   have HC := Lib.hid hc
   have HT := Lib.hid hts
   clear hc hts
   have hok : okC c = (decide (32 ≤ c.toNat) && decide (c.toNat ≤ 126)) := rfl
   have HO := Lib.hid hok
   clear hok
   by_cases h1 : (c.toNat : Int) < 32
   ·have VB : Hid (plainB s = false) := Lib.hid (by
     (show _ = _); rw [V.out, all_of_bad hlt (p := okC) (by rw [HC.out, HO.out]; simp; omega)]; rfl)
    go_wp2_with fail
    go_ret
    exact ⟨ret_bool VB.out.symm, rfl⟩
   by_cases h2 : 126 < (c.toNat : Int)
   ·have VB : Hid (plainB s = false) := Lib.hid (by
     (show _ = _); rw [V.out, all_of_bad hlt (p := okC) (by rw [HC.out, HO.out]; simp; omega)]; rfl)
    go_wp2_with fail
    go_ret
    exact ⟨ret_bool VB.out.symm, rfl⟩
   have HA2 : Hid ((s.take (k + 1)).all okC = true) := Lib.hid (by
    (show _ = _); rw [HT.out, HA.out, HO.out]; simp; omega)
   go_wp2_with fail
   go_roundg (s.length - (k + 1))
   case measure => omega
   case rel => exact ⟨k + 1, by omega, by omega, by go_num, HA2, rfl⟩
  ·obtain rfl : k = s.length := by omega
   have HA2 : Hid (s.all okC = true) := Lib.hid (by (show _ = _); have := HA.out; rwa [List.take_length] at this)
   cases hp : (s.head? == some 32) with
   | true =>
    rw [hp] at H1
    have VB : Hid (plainB s = false) := Lib.hid (by
     (show _ = _); rw [V.out, bne, hp]; simp)
    clear hp
    go_wp2_with fail
    refine (H1.out _).mono ?_; rintro e w1 ⟨rfl, rfl⟩
    go_wp2_with fail
    go_ret
    exact ⟨ret_bool VB.out.symm, rfl⟩
   | false =>
    rw [hp] at H1
    cases hq : (s.getLast? == some 32) with
    | true =>
     rw [hq] at H2
     have VB : Hid (plainB s = false) := Lib.hid (by
      (show _ = _); rw [V.out, bne, bne, hq]; simp)
     clear hp hq
     go_wp2_with fail
     refine (H1.out _).mono ?_; rintro e w1 ⟨rfl, rfl⟩
     go_wp2_with fail
     refine (H2.out _).mono ?_; rintro e w1 ⟨rfl, rfl⟩
     go_wp2_with fail
     go_ret
     exact ⟨ret_bool VB.out.symm, rfl⟩
    | false =>
     rw [hq] at H2
     have VB : Hid (plainB s = true) := Lib.hid (by
      (show _ = _); rw [V.out, bne, bne, hp, hq, HA2.out]; rfl)
     clear hp hq
     go_wp2_with fail
     refine (H1.out _).mono ?_; rintro e w1 ⟨rfl, rfl⟩
     go_wp2_with fail
     refine (H2.out _).mono ?_; rintro e w1 ⟨rfl, rfl⟩
     go_wp2_with fail
     go_ret
     exact ⟨ret_bool VB.out.symm, rfl⟩
set_option maxHeartbeats 1000000 in
theorem isFrom_w (s : List UInt8) (w : World) (hl : s.length ≤ 9223372036854775807) :
  Calls Tryz.prog 94 #[enS s] w fun e w' => e = .returned (.bool (fromB s)) ∧ w = w' := by
 have H := Lib.hid (isPlain_w s w hl)
 have V := Lib.hid (show fromB s = (plainB s && decide (1 ≤ s.length) && decide (s.length ≤ 200)) from rfl)
 have hsz := sz_eq s
 cases hp : plainB s with
 | false =>
  rw [hp] at H V
  have VB : Hid (fromB s = false) := Lib.hid (by (show _ = _); rw [V.out]; rfl)
  clear hp V
  go_enter Tryz.func94, Tryz.ntmps94
  go_wp2_with fail
  refine H.out.mono ?_; rintro e w1 ⟨rfl, rfl⟩
  go_wp2_with fail
  go_ret
  exact ⟨ret_bool VB.out.symm, rfl⟩
 | true =>
  rw [hp] at H V
  clear hp
  by_cases h1 : 1 ≤ s.length
  case neg =>
   have VB : Hid (fromB s = false) := Lib.hid (by (show _ = _); rw [V.out, decide_eq_false h1]; rfl)
   have hz : s.length = 0 := by omega
   have hz2 : decide ((s.length : Int) ≥ 1) = false := by simp; omega
   have hz3 : decide ((1 : Int) ≤ (s.length : Int)) = false := by simp; omega
   clear V h1 hz
   go_enter Tryz.func94, Tryz.ntmps94
   go_wp2_with fail
   refine H.out.mono ?_; rintro e w1 ⟨rfl, rfl⟩
   go_wp2_with fail
   go_ret
   exact ⟨ret_bool VB.out.symm, rfl⟩
  have hz3 : decide ((1 : Int) ≤ (s.length : Int)) = true := by simp; omega
  have VB : Hid (fromB s = decide ((s.length : Int) ≤ 200)) := Lib.hid (by
   (show _ = _); rw [V.out, Bool.eq_iff_iff]; simp; omega)
  clear V
  go_enter Tryz.func94, Tryz.ntmps94
  go_wp2_with fail
  refine H.out.mono ?_; rintro e w1 ⟨rfl, rfl⟩
  go_wp2_with fail
  go_ret
  exact ⟨ret_bool VB.out.symm, rfl⟩
set_option maxHeartbeats 1000000 in
theorem isSubject_w (s : List UInt8) (w : World) (hl : s.length ≤ 9223372036854775807) :
  Calls Tryz.prog 95 #[enS s] w fun e w' => e = .returned (.bool (subjB s)) ∧ w = w' := by
 have H := Lib.hid (isPlain_w s w hl)
 have V := Lib.hid (show subjB s = (plainB s && decide (s.length ≤ 200)) from rfl)
 have hsz := sz_eq s
 cases hp : plainB s with
 | false =>
  rw [hp] at H V
  have VB : Hid (subjB s = false) := Lib.hid (by (show _ = _); rw [V.out]; rfl)
  clear hp V
  go_enter Tryz.func95, Tryz.ntmps95
  go_wp2_with fail
  refine H.out.mono ?_; rintro e w1 ⟨rfl, rfl⟩
  go_wp2_with fail
  go_ret
  exact ⟨ret_bool VB.out.symm, rfl⟩
 | true =>
  rw [hp] at H V
  clear hp
  have VB : Hid (subjB s = decide ((s.length : Int) ≤ 200)) := Lib.hid (by
   (show _ = _); rw [V.out, Bool.eq_iff_iff]; simp; omega)
  clear V
  go_enter Tryz.func95, Tryz.ntmps95
  go_wp2_with fail
  refine H.out.mono ?_; rintro e w1 ⟨rfl, rfl⟩
  go_wp2_with fail
  go_ret
  exact ⟨ret_bool VB.out.symm, rfl⟩
set_option maxRecDepth 100000 in
set_option maxHeartbeats 4000000 in
theorem itCheck_w (x : It) (w : World) (hk : x.ky.length = 32) (h1 : x.fr.length ≤ 9223372036854775807) (h2 : x.su.length ≤ 9223372036854775807) :
  Calls Tryz.prog 58 #[itA x] w fun e w' => e = .returned (i64 (chkI x)) ∧ Below w.heap.size w w' := by
 have HF := Lib.hid (fun u => isFrom_w x.fr u h1)
 have HD := Lib.hid (fun u => isMinute_any x.dt u)
 have HS := Lib.hid (fun u => isSubject_w x.su u h2)
 have HB := Lib.hid (fun u => has13_any x.bo u)
 have V := Lib.hid (show chkI x = if fromB x.fr = false then 12 else if minB x.dt = false then 13 else if subjB x.su = false then 3 else if x.ky = zId then 1 else if has13 x.bo = true then 6 else 0 from rfl)
 have HE := Lib.hid (fun u => eqIn_zero u hk)
 clear h1 h2
 unfold itA
 have HBK := Lib.hid (blk_new w (.cells (itL x).toArray 59))
 have hb := below_new w (.cells (itL x).toArray 59)
 go_enter Tryz.func58, Tryz.ntmps58
 obtain ⟨c0, c1, c2, c35⟩ := it_cells HBK.out
 go_wp2_with fail
 refine (HF.out _).mono ?_; rintro e w1 ⟨rfl, rfl⟩
 cases q1 : fromB x.fr with
 | false =>
  have VB : Hid (chkI x = 12) := Lib.hid (by (show _ = _); rw [V.out, q1]; rfl)
  clear q1 V
  go_wp2_with fail
  go_ret
  rw [VB.out]
  exact ⟨rfl, hb⟩
 | true =>
 rw [q1] at V
 clear q1
 go_wp2_with fail
 refine (HD.out _).mono ?_; rintro e w1 ⟨rfl, rfl⟩
 cases q1 : minB x.dt with
 | false =>
  have VB : Hid (chkI x = 13) := Lib.hid (by (show _ = _); rw [V.out, q1]; rfl)
  clear q1 V
  go_wp2_with fail
  go_ret
  rw [VB.out]
  exact ⟨rfl, hb⟩
 | true =>
 rw [q1] at V
 clear q1
 go_wp2_with fail
 refine (HS.out _).mono ?_; rintro e w1 ⟨rfl, rfl⟩
 cases q1 : subjB x.su with
 | false =>
  have VB : Hid (chkI x = 3) := Lib.hid (by (show _ = _); rw [V.out, q1]; rfl)
  clear q1 V
  go_wp2_with fail
  go_ret
  rw [VB.out]
  exact ⟨rfl, hb⟩
 | true =>
 rw [q1] at V
 clear q1
 have HR := Lib.hid (it_ky HBK.out)
 have HE2 := HE.out (w.alloc (.cells (itL x).toArray 59))
 by_cases hz : x.ky = zId
 ·have VB : Hid (chkI x = 1) := Lib.hid (by (show _ = _); rw [V.out, if_pos hz]; rfl)
  have hz2 : (x.ky == zId) = true := by simpa using hz
  rw [hz2] at HE2
  clear V hz hz2
  go_wp2_with (refine wpList_load_mid rfl 57 _ rfl w.heap.size 3 rfl (idL x.ky) _ HR.out Tryz.underlying57 rfl (by rw [idL_length]; exact id_size) ?_)
  go_ret
  rw [VB.out]
  exact ⟨rfl, hb⟩
 have hz2 : (x.ky == zId) = false := by simpa using hz
 rw [hz2] at HE2
 have V2 := Lib.hid (show chkI x = if has13 x.bo = true then 6 else 0 by rw [V.out, if_neg hz]; rfl)
 clear V hz hz2
 go_wp2_with (refine wpList_load_mid rfl 57 _ rfl w.heap.size 3 rfl (idL x.ky) _ HR.out Tryz.underlying57 rfl (by rw [idL_length]; exact id_size) ?_)
 refine (HB.out _).mono ?_; rintro e w1 ⟨rfl, rfl⟩
 cases q1 : has13 x.bo with
 | false =>
  have VB : Hid (chkI x = 0) := Lib.hid (by (show _ = _); rw [V2.out, q1]; rfl)
  clear q1 V2
  go_wp2_with fail
  go_ret
  rw [VB.out]
  exact ⟨rfl, hb⟩
 | true =>
  have VB : Hid (chkI x = 6) := Lib.hid (by (show _ = _); rw [V2.out, q1]; rfl)
  clear q1 V2
  go_wp2_with fail
  go_ret
  rw [VB.out]
  exact ⟨rfl, hb⟩
theorem addW_any (base bb mb : Nat) (v : Value) (B : Bs) (x : It) (now : Int) (w : World) (h : BlM w base bb mb v B) (hk : x.ky.length = 32) (h1 : x.fr.length ≤ 9223372036854775807) (h2 : x.su.length ≤ 9223372036854775807) (hn : B.added.length ≤ 1000000) :
  Calls Tryz.prog 24 #[.pointer (some ⟨bb, 0, none⟩), itA x, i64 now] w fun e w' => (∃ v', e = .returned (i64 (addE B x now)) ∧ BlM w' base bb mb v' (addB B x now)) ∧ ButL (blR bb mb v) w w' :=
 add_of base bb mb v B x now w h hk (fun u => itCheck_w x u hk h1 h2) hn
end Go.Proofs.YtlchcjnbbhpiaaaGreatDoor
