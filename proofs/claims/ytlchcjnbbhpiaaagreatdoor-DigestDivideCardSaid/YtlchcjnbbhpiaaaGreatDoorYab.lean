/- Contract: the reference's lines of the contents.
   Contract: the reference's text of a digest. -/
import Derived.Test.YtlchcjnbbhpiaaaGreatDoorYaa
import Derived.Test.YtlchcjnbbhpiaaaGreatDoorZv
namespace Go.Dg
/-- Whether a subject is met for the first time, as far as k items are looked at. -/
def firstP (su : List UInt8) (its : List It) (i k : Nat) : Bool := !decide (su ∈ (its.take (min k i)).map (·.su))
theorem firstP_zero (su : List UInt8) (its : List It) (i : Nat) : firstP su its i 0 = true := by simp [firstP]
theorem firstP_same {su : List UInt8} {its : List It} {i k : Nat} {y : It} (hy : its[k]? = some y) (h : k < i → y.su ≠ su) : firstP su its i (k + 1) = firstP su its i k := by
 unfold firstP
 by_cases hk : k < i
 ·rw [show min (k + 1) i = k + 1 by omega, show min k i = k by omega]
  have hl : k < its.length := (List.getElem?_eq_some_iff.1 hy).1
  rw [List.take_add_one, hy]
  have := h hk
  simp [Ne.symm this]
 ·rw [show min (k + 1) i = i by omega, show min k i = i by omega]
theorem firstP_no {su : List UInt8} {its : List It} {i k : Nat} {y : It} (hy : its[k]? = some y) (hk : k < i) (h : y.su = su) : firstP su its i (k + 1) = false := by
 unfold firstP
 rw [show min (k + 1) i = k + 1 by omega, List.take_add_one, hy]
 simp [h]
theorem firstP_end {su : List UInt8} {its : List It} {i k : Nat} (h : i ≤ k) : firstP su its i k = !decide (su ∈ subjL [] (its.take i)) := by
 unfold firstP
 rw [show min k i = i by omega]
 congr 1
 rw [decide_eq_decide, subjL_iff, List.mem_map]
theorem numsOf_miss {su : List UInt8} {its : List It} {k : Nat} {y : It} (hy : its[k]? = some y) (h : y.su ≠ su) : numsOf su 0 (its.take (k + 1)) = numsOf su 0 (its.take k) := by
 have hl : k < its.length := (List.getElem?_eq_some_iff.1 hy).1
 rw [List.take_add_one, hy, Option.toList_some, numsOf_snoc, if_neg h]
theorem numsOf_hit {su : List UInt8} {its : List It} {k : Nat} {y : It} (hy : its[k]? = some y) (h : y.su = su) : numsOf su 0 (its.take (k + 1)) = numsOf su 0 (its.take k) ++ [Lib.decDigits (k + 1)] := by
 have hl : k < its.length := (List.getElem?_eq_some_iff.1 hy).1
 rw [List.take_add_one, hy, Option.toList_some, numsOf_snoc, if_pos h, List.length_take, show 0 + min k its.length + 1 = k + 1 by omega]
theorem joinHit {su : List UInt8} {its : List It} {k : Nat} {y : It} {q : List UInt8} (hy : its[k]? = some y) (h : y.su = su) (hq : q = Lib.join (numsOf su 0 (its.take k)) wCm) :
  (q = [] → Lib.join (numsOf su 0 (its.take (k + 1))) wCm = Lib.decDigits (k + 1)) ∧ (q ≠ [] → Lib.join (numsOf su 0 (its.take (k + 1))) wCm = q ++ wCm ++ Lib.decDigits (k + 1)) := by
 rw [numsOf_hit hy h]
 have he : Lib.join (numsOf su 0 (its.take k)) wCm = [] ↔ numsOf su 0 (its.take k) = [] := join_empty (numsOf_ne _ _ _)
 constructor
 ·intro h0
  rw [he.1 (hq.symm.trans h0)]
  simp [Lib.join]
 ·intro h0
  rw [join_snoc (fun e => h0 (hq.trans (he.2 e))), hq]
theorem subjL_next {its : List It} {i : Nat} {x : It} (hx : its[i]? = some x) : subjL [] (its.take (i + 1)) = if x.su ∈ subjL [] (its.take i) then subjL [] (its.take i) else subjL [] (its.take i) ++ [x.su] := by
 have hl : i < its.length := (List.getElem?_eq_some_iff.1 hx).1
 rw [List.take_add_one, hx, Option.toList_some, subjL_acc]
end Go.Dg
namespace Go.Proofs.YtlchcjnbbhpiaaaGreatDoor
open Go.RowKit Go.Shelf Go.Dg Go.Maps
set_option maxRecDepth 100000 in
set_option maxHeartbeats 4000000 in
theorem lines_ref (its : List It) (A : Option Addr) (c : Nat) (w : World) (hr : RdI w A its) (_hc : its.length ≤ c) (hn : its.length ≤ 1000) (hs : ∀ x ∈ its, x.su.length ≤ 10000) :
  Calls Tryz.prog 22 #[.slice A its.length c] w fun e w' => (∃ v, e = .returned v ∧ w'.ownsRow w.heap.size 9 1 v (linesD its).length ((linesD its).map enS)) ∧ Below w.heap.size w w' := by
 have HR := Lib.hid hr
 have HS := Lib.hid hs
 clear hr hs
 have O0 : Hid (w.ownsRow w.heap.size 9 1 (.slice none 0 0) ((subjL [] (its.take 0)).map (lineOf its)).length (((subjL [] (its.take 0)).map (lineOf its)).map enS) ∧ Below w.heap.size w w) := Lib.hid ⟨own2_nil _ _ _ _, Below.refl _ _⟩
 go_enter Tryz.func22, Tryz.ntmps22
 go_wp2_with fail
 go_loopg [3, 4] its.length (fun gg lv iv wq => ∃ i : Nat, i ≤ its.length ∧ its.length - i ≤ gg ∧ iv = i64 i ∧ Hid (wq.ownsRow w.heap.size 9 1 lv ((subjL [] (its.take i)).map (lineOf its)).length (((subjL [] (its.take i)).map (lineOf its)).map enS) ∧ Below w.heap.size w wq))
 case atStart => exact ⟨0, Nat.zero_le _, by omega, rfl, O0⟩
 case round =>
  obtain ⟨i, hi, hgg, rfl, OW⟩ := hrel
  clear O0
  by_cases hlt : i < its.length
  case neg =>
   obtain rfl : i = its.length := by omega
   go_wp2_with fail
   go_ret
   have h1 := OW.out.1
   have h2 := OW.out.2
   rw [List.take_length] at h1
   exact ⟨⟨_, rfl, h1⟩, h2⟩
  obtain ⟨b, o, x, rfl, hbl, hx, hrg, -⟩ := HR.out.at_ hlt
  have HX := Lib.hid hx
  have hcx := hrg 2 _ rfl
  have HCX := Lib.hid hcx
  have hxl := HS.out x (List.mem_of_getElem? hx)
  have SN := Lib.hid (subjL_next hx)
  have LO := Lib.hid (show lineOf its x.su = (if x.su = [] then wNo else x.su) ++ (wPar ++ Lib.join (numsOf x.su 0 its) wCm ++ [41]) from rfl)
  clear hx hrg hcx
  obtain ⟨su, hsu⟩ : ∃ su, x.su = su := ⟨_, rfl⟩
  simp only [hsu] at hxl SN LO HCX
  clear hsu HX x
  obtain ⟨wq, rfl⟩ : ∃ q, q = wr := ⟨_, rfl⟩
  have I0 : Hid (Below wq.heap.size wq wq) := Lib.hid (Below.refl _ _)
  go_wp2_with fail
  go_loopg [5, 6, 7] its.length (fun gg nv fv kv wr => ∃ (k : Nat) (q : List UInt8) (fb : Bool), k ≤ its.length ∧ its.length - k ≤ gg ∧ kv = i64 k ∧ nv = enS q ∧ fv = .bool fb ∧ Hid (q = Lib.join (numsOf su 0 (its.take k)) wCm) ∧ Hid (fb = firstP su its i k) ∧ Hid (Below wq.heap.size wq wr))
  case atStart => exact ⟨0, [], true, Nat.zero_le _, by omega, rfl, rfl, rfl, Lib.hid rfl, Lib.hid (firstP_zero _ _ _).symm, I0⟩
  case round =>
   obtain ⟨k, q, fb, hk, hgk, rfl, rfl, rfl, HQ, HF, HB⟩ := hrel
   clear I0
   have hql : q.length ≤ 1000000 := by rw [HQ.out]; exact nums_join (by rw [List.length_take]; omega) su
   have hsz := sz_eq q
   by_cases hlk : k < its.length
   ·obtain ⟨b', o', y, hA, hbl', hy, hrg', -⟩ := HR.out.at_ hlk
    cases hA
    have hcy := hrg' 2 _ rfl
    have HY := Lib.hid hy
    have HCY := Lib.hid hcy
    have hyl := HS.out y (List.mem_of_getElem? hy)
    clear hy hrg' hcy
    obtain ⟨yu, hyu⟩ : ∃ u, y.su = u := ⟨_, rfl⟩
    have HYU := Lib.hid hyu
    simp only [hyu] at hyl HCY
    clear hyu
    go_upto_region 10 with fail
    have bd := (Below.refl wr.heap.size wr).drew
    refine Flow.wp_region_segs Flow.Later Flow.Later.refl Flow.Later.trans [] [0, 1, 2, 3, 4, 5, 6, 7, 8, 9, 10] (by kernel_rfl) (by kernel_rfl) ?_
    have I5 := Lib.hid (HB.out.tr bd)
    have B5 := Lib.hid (OW.out.2.tr I5.out)
    clear bd HB
    generalize World.drew _ = wd at *
    have ca : wd.cell? ⟨b, o + i * 36 + 2, none⟩ = some (enS su) := (B5.out.cell hbl).trans HCX.out
    have cb : wd.cell? ⟨b, o + k * 36 + 2, none⟩ = some (enS yu) := (B5.out.cell hbl).trans HCY.out
    have qa : ∀ t : Flow.Cls (Flow.Later wd), t.val.cell? ⟨b, o + i * 36 + 2, none⟩ = some (enS su) := fun t => Flow.cls_cell ca t
    have qb : ∀ t : Flow.Cls (Flow.Later wd), t.val.cell? ⟨b, o + k * 36 + 2, none⟩ = some (enS yu) := fun t => Flow.cls_cell cb t
    haveI nonE := Flow.cls_nonempty wd
    rw [Flow.wpSegs_nil]
    simp only [Flow.pick, List.getElem?_toArray, List.getElem?_cons_succ, List.getElem?_cons_zero]
    repeat go_big_quiet_step (fail)
    refine wpQuiet_nil ?_
    clear nonE qa qb ca cb
    by_cases hq : yu = su
    case neg =>
     have hq2 : (yu == su) = false := by simpa using hq
     have HQ2 : Hid (q = Lib.join (numsOf su 0 (its.take (k + 1))) wCm) := Lib.hid (by (show _ = _); rw [numsOf_miss HY.out (by rw [HYU.out]; exact hq)]; exact HQ.out)
     have HF2 : Hid (fb = firstP su its i (k + 1)) := Lib.hid (by (show _ = _); rw [firstP_same HY.out (fun _ => by rw [HYU.out]; exact hq)]; exact HF.out)
     clear hq HQ HF
     rw [hq2]
     go_wp2_with fail
     go_roundg (its.length - (k + 1))
     case measure => omega
     case rel => exact ⟨k + 1, q, fb, by omega, by omega, by simp, rfl, rfl, HQ2, HF2, I5⟩
    have hq2 : (yu == su) = true := by simpa using hq
    have hys : y.su = su := HYU.out.trans hq
    obtain ⟨j1, j2⟩ := joinHit HY.out hys HQ.out
    have HD := Lib.hid (fun u => decimal_at ((k : Int) + 1) u (by omega) (by omega))
    rw [show ((k : Int) + 1).toNat = k + 1 by omega] at HD
    have hdl := dig_len (k + 1) (by omega)
    have J1 := Lib.hid j1
    have J2 := Lib.hid j2
    generalize Lib.decDigits (k + 1) = D at *
    have hdz := sz_eq D
    have HYS := Lib.hid hys
    rw [hq2]
    clear hq hq2 j1 j2 hys HYU
    by_cases hki : k < i
    ·have HF2 : Hid (false = firstP su its i (k + 1)) := Lib.hid (by (show _ = _); rw [firstP_no HY.out hki HYS.out])
     clear HF HYS HY
     by_cases hq0 : q = []
     ·subst hq0
      have HQ2 := Lib.hid (J1.out rfl).symm
      clear HQ J1 J2
      go_wp2_with fail
      refine (HD.out _).mono ?_; rintro e w5 ⟨rfl, m5, rfl⟩
      go_wp2_with fail
      go_roundg (its.length - (k + 1))
      case measure => omega
      case rel => exact ⟨k + 1, D, false, by omega, by omega, by simp, by first | rfl | (simp only [← bcat]; rfl), rfl, HQ2, HF2, Lib.hid (I5.out.tr (below_drewN _ _))⟩
     ·have hqe : q.isEmpty = false := by cases q with | nil => exact absurd rfl hq0 | cons _ _ => rfl
      have HQ2 := Lib.hid (J2.out hq0).symm
      clear HQ J1 J2 hq0
      go_wp2_with fail
      refine (HD.out _).mono ?_; rintro e w5 ⟨rfl, m5, rfl⟩
      go_wp2_with fail
      go_roundg (its.length - (k + 1))
      case measure => omega
      case rel => exact ⟨k + 1, q ++ wCm ++ D, false, by omega, by omega, by simp, by first | rfl | (simp only [← bcat]; rfl), rfl, HQ2, HF2, Lib.hid (I5.out.tr (below_drewN _ _))⟩
    ·have HF2 : Hid (fb = firstP su its i (k + 1)) := Lib.hid (by (show _ = _); rw [firstP_same HY.out (fun h => absurd h hki)]; exact HF.out)
     clear HF HYS HY
     by_cases hq0 : q = []
     ·subst hq0
      have HQ2 := Lib.hid (J1.out rfl).symm
      clear HQ J1 J2
      go_wp2_with fail
      refine (HD.out _).mono ?_; rintro e w5 ⟨rfl, m5, rfl⟩
      go_wp2_with fail
      go_roundg (its.length - (k + 1))
      case measure => omega
      case rel => exact ⟨k + 1, D, fb, by omega, by omega, by simp, by first | rfl | (simp only [← bcat]; rfl), rfl, HQ2, HF2, Lib.hid (I5.out.tr (below_drewN _ _))⟩
     ·have hqe : q.isEmpty = false := by cases q with | nil => exact absurd rfl hq0 | cons _ _ => rfl
      have HQ2 := Lib.hid (J2.out hq0).symm
      clear HQ J1 J2 hq0
      go_wp2_with fail
      refine (HD.out _).mono ?_; rintro e w5 ⟨rfl, m5, rfl⟩
      go_wp2_with fail
      go_roundg (its.length - (k + 1))
      case measure => omega
      case rel => exact ⟨k + 1, q ++ wCm ++ D, fb, by omega, by omega, by simp, by first | rfl | (simp only [← bcat]; rfl), rfl, HQ2, HF2, Lib.hid (I5.out.tr (below_drewN _ _))⟩
   ·obtain rfl : k = its.length := by omega
    have HQ2 : Hid (Lib.join (numsOf su 0 its) wCm = q) := Lib.hid (by (show _ = _); have := HQ.out; rw [List.take_length] at this; exact this.symm)
    have B2 := Lib.hid (OW.out.2.tr HB.out)
    have O2 := Lib.hid (own_below2 OW.out.1 HB.out)
    have hlen5 : ((subjL [] (its.take i)).map (lineOf its)).length ≤ 1000000000 := by
     have := subj_len (its.take i)
     rw [List.length_map]; rw [List.length_take] at this; omega
    clear HQ HB OW
    by_cases hin : su ∈ subjL [] (its.take i)
    ·obtain rfl : fb = false := by rw [HF.out, firstP_end hi, decide_eq_true hin]; rfl
     have OW6 : Hid (wr.ownsRow w.heap.size 9 1 u3 ((subjL [] (its.take (i + 1))).map (lineOf its)).length (((subjL [] (its.take (i + 1))).map (lineOf its)).map enS) ∧ Below w.heap.size w wr) := Lib.hid (by
      have h := SN.out
      rw [if_pos hin] at h
      rw [h]
      exact ⟨O2.out, B2.out⟩)
     clear hin HF SN O2 B2
     go_wp2_with fail
     go_roundg (its.length - (i + 1))
     case measure => omega
     case rel => exact ⟨i + 1, by omega, by omega, by simp, OW6⟩
    ·obtain rfl : fb = true := by rw [HF.out, firstP_end hi, decide_eq_false hin]; rfl
     have LO2 : Hid (subjL [] (its.take (i + 1)) = subjL [] (its.take i) ++ [su]) := Lib.hid (by
      (show _ = _); have h := SN.out; rw [if_neg hin] at h; exact h)
     have hcx : wr.cell? ⟨b, o + i * 36 + 2, none⟩ = some (enS su) := (B2.out.cell hbl).trans HCX.out
     clear hin HF SN
     by_cases he : su = []
     ·subst he
      have E1 : Hid (lineOf its [] = wNo ++ (wPar ++ q ++ [41])) := Lib.hid (by (show _ = _); rw [LO.out, HQ2.out]; rfl)
      clear LO HQ2
      have E2 : Hid (Value.string ((⟨#[40, 110, 111, 32, 115, 117, 98, 106, 101, 99, 116, 41]⟩ : ByteArray) ++ ⟨#[32, 40]⟩ ++ ⟨q.toArray⟩ ++ ⟨#[41]⟩) = enS (lineOf its [])) := Lib.hid (by (show _ = _); rw [E1.out]; exact str_congr (by rw [← bcat, ← bcat, ← bcat]; simp only [ByteArray.append_assoc]; rfl))
      go_upto_region 20 with fail
      go_wp2_with (first | (at_builtin; rw [E2.out]; refine wpList_app1 _ rfl _ _ rfl _ _ _ (lineOf its []) O2.out rfl rfl hlen5 B2.out.size ?_; intro v6 w6 o6 b6))
      have OW6 : Hid (w6.ownsRow w.heap.size 9 1 v6 ((subjL [] (its.take (i + 1))).map (lineOf its)).length (((subjL [] (its.take (i + 1))).map (lineOf its)).map enS) ∧ Below w.heap.size w w6) := Lib.hid (by
       rw [LO2.out, List.map_append, List.map_append, List.length_append]
       first | exact ⟨o6, Below.trans B2.out b6⟩ | (rw [List.map_append, List.length_append] at o6; exact ⟨o6, Below.trans B2.out b6⟩))
      clear o6 b6 O2 B2
      go_wp2_with fail
      go_roundg (its.length - (i + 1))
      case measure => omega
      case rel => exact ⟨i + 1, by omega, by omega, by simp, OW6⟩
     ·have hse : su.isEmpty = false := by cases su with | nil => exact absurd rfl he | cons _ _ => rfl
      have E1 : Hid (lineOf its su = su ++ (wPar ++ q ++ [41])) := Lib.hid (by (show _ = _); rw [LO.out, HQ2.out, if_neg he])
      clear LO HQ2 he
      have E2 : Hid (Value.string ((⟨su.toArray⟩ : ByteArray) ++ ⟨#[32, 40]⟩ ++ ⟨q.toArray⟩ ++ ⟨#[41]⟩) = enS (lineOf its su)) := Lib.hid (by (show _ = _); rw [E1.out]; exact str_congr (by rw [← bcat, ← bcat, ← bcat]; simp only [ByteArray.append_assoc]; rfl))
      go_upto_region 20 with fail
      go_wp2_with (first | (at_builtin; rw [E2.out]; refine wpList_app1 _ rfl _ _ rfl _ _ _ (lineOf its su) O2.out rfl rfl hlen5 B2.out.size ?_; intro v6 w6 o6 b6))
      have OW6 : Hid (w6.ownsRow w.heap.size 9 1 v6 ((subjL [] (its.take (i + 1))).map (lineOf its)).length (((subjL [] (its.take (i + 1))).map (lineOf its)).map enS) ∧ Below w.heap.size w w6) := Lib.hid (by
       rw [LO2.out, List.map_append, List.map_append, List.length_append]
       first | exact ⟨o6, Below.trans B2.out b6⟩ | (rw [List.map_append, List.length_append] at o6; exact ⟨o6, Below.trans B2.out b6⟩))
      clear o6 b6 O2 B2
      go_wp2_with fail
      go_roundg (its.length - (i + 1))
      case measure => omega
      case rel => exact ⟨i + 1, by omega, by omega, by simp, OW6⟩
end Go.Proofs.YtlchcjnbbhpiaaaGreatDoor
namespace Go.Dg
open Go.Lib
theorem dd_length2 {u : Nat} (h : u ≤ 2000000) : (decDigits u).length ≤ 7 := by
 rw [decDigits_length]
 by_cases hz : u = 0
 ·subst hz; rw [nDigits_small (by decide)]; decide
 ·have := nDigits_le u hz
  false_or_by_contra
  have h2 : 10 ^ 7 ≤ 10 ^ (nDigits u - 1) := Nat.pow_le_pow_right (by decide) (by omega)
  omega
theorem head_len2 {d : Dg} (ht : d.ti.length ≤ 1000) (hv : d.vo ≤ 1000000) (hi : d.ie ≤ 2000000) : (headT d).length ≤ 1100 := by
 have a := (dd_length (u := d.vo.toNat) (by omega)).2
 have b := dd_length2 (u := d.ie.toNat) (by omega)
 unfold headT
 simp only [List.length_append, wDig, wIss, List.length_cons, List.length_nil]
 omega
theorem text_bound2 {d : Dg} (hn : d.its.length ≤ 200) (ht : d.ti.length ≤ 1000) (hv : d.vo ≤ 1000000) (hi : d.ie ≤ 2000000) (hd : minB d.da = true) (hx : ∀ x ∈ d.its, minB x.dt = true ∧ x.fr.length ≤ 1000 ∧ x.su.length ≤ 1000 ∧ x.ky.length = 32 ∧ x.bo.length ≤ 1000000000)
  (hj : ∀ s, (join (numsOf s 0 d.its) wCm).length ≤ 1000000) (hsl : (subjL [] d.its).length ≤ d.its.length) : (textD d).length ≤ 100000000000000 := by
 have h1 := head_len2 ht hv hi
 have h2 := fm_len hd
 have h3 := unl_flat_le itLs 5000000000 d.its fun x h => by
  obtain ⟨a, b, c, e, f⟩ := hx x h
  exact itLs_len a b c e f
 have h4 := unl_map_le (fun s => wSp ++ lineOf d.its s) 1100000 (subjL [] d.its) fun s h => by
  refine lineOf_len ?_ (hj s)
  rcases subjL_mem d.its [] s h with h | ⟨x, hm, e⟩
  ·simp at h
  ·rw [← e]; exact (hx x hm).2.2.1
 have h5 : (linesD d.its).map (wSp ++ ·) = (subjL [] d.its).map (fun s => wSp ++ lineOf d.its s) := by unfold linesD; rw [List.map_map]; rfl
 unfold textD
 rw [tLs_eq, h5]
 simp only [unl_append, List.length_append]
 have h6 : (unl (topL d)).length ≤ 1200 := by
  simp only [topL, unl, List.flatMap_cons, List.flatMap_nil, List.length_append, List.length_cons, List.length_nil, wDate, wTop, h2]
  omega
 have h7 : (unl [wEnd ++ headT d]).length ≤ 1200 := by rw [unl_one]; simp only [List.length_append, wEnd, List.length_cons, List.length_nil]; omega
 have h8 : (unl [sepT]).length = 31 := rfl
 have h9 : d.its.length * 5000000000 ≤ 200 * 5000000000 := Nat.mul_le_mul_right _ hn
 have h10 : (subjL [] d.its).length * 1100000 ≤ 200 * 1100000 := Nat.mul_le_mul_right _ (by omega)
 omega
/-- What is asked of a digest whose text the reference prints. -/
structure TxOk (d : Dg) : Prop where
 n : d.its.length ≤ 200
 ti : d.ti.length ≤ 1000
 vo : 0 ≤ d.vo ∧ d.vo ≤ 1000000
 ie : 0 ≤ d.ie ∧ d.ie ≤ 2000000
 da : minB d.da = true
 it : ∀ x ∈ d.its, minB x.dt = true ∧ x.fr.length ≤ 1000 ∧ x.su.length ≤ 1000 ∧ x.ky.length = 32 ∧ x.bo.length ≤ 100000000
/-- The text up to the k-th line of the contents, and up to the k-th item. -/
def pt1 (d : Dg) (k : Nat) : List UInt8 := unl ([headT d, wDate ++ fm d.da, wTop] ++ ((linesD d.its).take k).map (wSp ++ ·))
def pt2 (d : Dg) (k : Nat) : List UInt8 := unl ([headT d, wDate ++ fm d.da, wTop] ++ (linesD d.its).map (wSp ++ ·) ++ [sepT] ++ (d.its.take k).flatMap itLs)
theorem pt1_zero (d : Dg) : pt1 d 0 = headT d ++ [10, 68, 97, 116, 101, 58, 32] ++ fm d.da ++ [10, 84, 111, 112, 105, 99, 115, 58, 10] := by
 unfold pt1 unl
 simp [wDate, wTop]
theorem pt1_next {d : Dg} {k : Nat} {l : List UInt8} (h : (linesD d.its)[k]? = some l) : pt1 d (k + 1) = pt1 d k ++ [32, 32] ++ l ++ [10] := by
 unfold pt1
 rw [List.take_add_one, h, Option.toList_some, List.map_append, ← List.append_assoc, unl_append _ (List.map _ [l])]
 simp [unl, wSp]
theorem pt2_zero (d : Dg) : pt2 d 0 = pt1 d (linesD d.its).length ++ sepT ++ [10] := by
 unfold pt2 pt1
 rw [List.take_length, List.take_zero, List.flatMap_nil, List.append_nil, unl_append _ [sepT], List.append_assoc]
 simp [unl]
theorem itLs_text (x : It) : unl (itLs x) = [70, 114, 111, 109, 58, 32] ++ x.fr ++ [10, 68, 97, 116, 101, 58, 32] ++ fm x.dt ++ [10, 83, 117, 98, 106, 101, 99, 116, 58, 32] ++ x.su ++ [10, 77, 101, 115, 115, 97, 103, 101, 45, 73, 68, 58, 32] ++ prId x.ky ++ [10, 10] ++ prot x.bo ++ sepT ++ [10] := by
 unfold itLs
 rw [unl_append, unl_append, ← show prot x.bo = unl (protL x.bo) from rfl]
 simp [unl, wFrom, wDate, wSubj, wMid]
theorem pt2_next {d : Dg} {k : Nat} {x : It} (h : d.its[k]? = some x) : pt2 d (k + 1) = pt2 d k ++ unl (itLs x) := by
 unfold pt2
 rw [List.take_add_one, h, Option.toList_some, List.flatMap_append, ← List.append_assoc, unl_append _ (List.flatMap _ [x])]
 simp
theorem pt2_end (d : Dg) : textD d = pt2 d d.its.length ++ wEnd ++ headT d ++ [10] := by
 unfold textD tLs pt2
 rw [List.take_length, unl_append _ [wEnd ++ headT d]]
 simp [unl]
theorem pt2_le {d : Dg} (k : Nat) : (pt2 d k).length ≤ (textD d).length := by
 have h : pt2 d d.its.length = pt2 d k ++ unl ((d.its.drop k).flatMap itLs) := by
  unfold pt2
  rw [List.take_length, ← unl_append, List.append_assoc _ (List.flatMap itLs (d.its.take k)), ← List.flatMap_append, List.take_append_drop]
 rw [pt2_end, h]
 simp only [List.length_append]; omega
theorem pt1_le {d : Dg} (k : Nat) : (pt1 d k).length ≤ (textD d).length := by
 have h : pt1 d (linesD d.its).length = pt1 d k ++ unl (((linesD d.its).drop k).map (wSp ++ ·)) := by
  unfold pt1
  rw [List.take_length, ← unl_append, List.append_assoc _ (List.map (wSp ++ ·) ((linesD d.its).take k)), ← List.map_append, List.take_append_drop]
 have h0 := pt2_le (d := d) 0
 rw [pt2_zero, h] at h0
 simp only [List.length_append] at h0; omega
end Go.Dg
namespace Go.Proofs.YtlchcjnbbhpiaaaGreatDoor
open Go.RowKit Go.Shelf Go.Dg Go.Maps
theorem txOk_len {d : Dg} (h : TxOk d) : (textD d).length ≤ 100000000000000 :=
 text_bound2 h.n h.ti h.vo.2 h.ie.2 h.da (fun x hx => ⟨(h.it x hx).1, (h.it x hx).2.1, (h.it x hx).2.2.1, (h.it x hx).2.2.2.1, Nat.le_trans (h.it x hx).2.2.2.2 (by omega)⟩) (fun s => nums_join (by have := h.n; omega) s) (subj_len d.its)
set_option maxRecDepth 100000 in
set_option maxHeartbeats 4000000 in
theorem text_ref (d : Dg) (A : Option Addr) (c : Nat) (w : World) (hr : RdI w A d.its) (hc : d.its.length ≤ c) (hd : TxOk d) :
  Calls Tryz.prog 54 #[dgA d A c] w fun e w' => e = .returned (enS (textD d)) ∧ Below w.heap.size w w' := by
 have HR := Lib.hid hr
 have HIT := Lib.hid hd.it
 have HL := Lib.hid (txOk_len hd)
 have hn := hd.n
 have HH := Lib.hid (fun u => head_ref d A c u (Nat.le_trans hd.ti (by omega)) ⟨hd.vo.1, Int.le_trans hd.vo.2 (by omega)⟩ ⟨hd.ie.1, Int.le_trans hd.ie.2 (by omega)⟩)
 have HDA := Lib.hid (fun u => date_ref d.da u hd.da)
 have HLN := Lib.hid (fun u (hu : RdI u A d.its) => lines_ref d.its A c u hu hc (by omega) (fun x hx => Nat.le_trans (hd.it x hx).2.2.1 (by omega)))
 have L1 := Go.Dg.head_len2 hd.ti hd.vo.2 hd.ie.2
 have L2 := fm_len hd.da
 have P0 := Lib.hid (pt1_zero d)
 have P1 := Lib.hid (fun k l => @pt1_next d k l)
 have P1L := Lib.hid (fun k => @pt1_le d k)
 have P2 := Lib.hid (pt2_zero d)
 have P3 := Lib.hid (fun k x => @pt2_next d k x)
 have P3L := Lib.hid (fun k => @pt2_le d k)
 have P4 := Lib.hid (pt2_end d)
 generalize pt1 d = p1 at *
 generalize pt2 d = p2 at *
 clear hd hr
 obtain ⟨ti, vo, ie, da, its⟩ := d
 simp only at HR HIT HL hn hc HH HDA HLN L1 L2 P0 P1 P1L P2 P3 P3L P4 ⊢
 generalize headT ⟨ti, vo, ie, da, its⟩ = HT at *
 generalize textD ⟨ti, vo, ie, da, its⟩ = TX at *
 generalize fm da = FD at *
 obtain ⟨LN, hLN⟩ : ∃ L, linesD its = L := ⟨_, rfl⟩
 have HLL : Hid (LN.length ≤ its.length) := Lib.hid (by (show _ ≤ _); rw [← hLN]; unfold linesD; rw [List.length_map]; exact subj_len its)
 rw [hLN] at HLN P1 P2
 clear hLN
 go_enter Tryz.func54, Tryz.ntmps54
 go_upto_region 1 with fail
 have I0 : Hid (Below w.heap.size w (w.alloc (.cells #[enS ti, i64 vo, i64 ie, i64 da, .slice A its.length c] 24)) ∧ (w.alloc (.cells #[enS ti, i64 vo, i64 ie, i64 da, .slice A its.length c] 24)).heap[w.heap.size]? = some (.cells #[enS ti, i64 vo, i64 ie, i64 da, .slice A its.length c] 24 (0, 0))) := Lib.hid ⟨below_new _ _, blk_new _ _⟩
 generalize w.alloc (.cells #[enS ti, i64 vo, i64 ie, i64 da, .slice A its.length c] 24) = w1 at *
 have bd := (Below.refl w1.heap.size w1).drew
 refine Flow.wp_region_segs Flow.Later Flow.Later.refl Flow.Later.trans [([3, 4, 0], 1), ([2], 5)] [6, 7, 8] (by kernel_rfl) (by kernel_rfl) ?_
 have I1 := Lib.hid (And.intro (I0.out.1.tr bd) (blk_below bd I0.out.2))
 clear bd I0
 generalize World.drew _ = w2 at *
 have c3 := blk_cell I1.out.2 3
 have q3 : ∀ t : Flow.Cls (Flow.Later w2), t.val.cell? _ = some (i64 da) := fun t => Flow.cls_cell c3 t
 have qD : ∀ t : Flow.Cls (Flow.Later w2), t.val.rangeAt w.heap.size 0 [enS ti, i64 vo, i64 ie, i64 da, .slice A its.length c] := fun t => range_blk (blk_below t.ok I1.out.2)
 haveI nonE := Flow.cls_nonempty w2
 rw [Flow.wpSegs_cons]
 simp only [Flow.pick, List.getElem?_toArray, List.getElem?_cons_succ, List.getElem?_cons_zero]
 iterate 2 go_big_quiet_step (fail)
 refine BigFrame.wpQuiet_want rfl (fun K hK => quiet_load_mid 24 _ rfl w.heap.size 0 rfl [enS ti, i64 vo, i64 ie, i64 da, .slice A its.length c] _ (fun _ he => by obtain ⟨t, rfl⟩ := he; exact qD t) Tryz.underlying24 rfl (by kernel_rfl) (hK _ ?_))
 clear hK K
 simp only [Act.put, List.setIfInBounds_toArray, List.set_cons_succ, List.set_cons_zero]
 refine wpQuiet_nil ?_
 clear nonE q3 c3 qD
 rw [Flow.callAt_eq]
 simp only [List.getElem?_toArray, List.getElem?_cons_succ, List.getElem?_cons_zero]
 rw [if_pos (by rfl)]
 refine Flow.wp_behind (fun K0 hK => ?_)
 go_wp2_with fail
 refine (HH.out _).mono ?_; rintro e w3 ⟨rfl, b3⟩
 refine hK.out _ _ ⟨b3, ?_⟩
 clear hK K0
 have I3 := Lib.hid (And.intro (I1.out.1.tr b3) (blk_below b3 I1.out.2))
 clear b3 I1
 haveI nonE := Flow.cls_nonempty w3
 rw [Flow.wpSegs_cons]
 simp only [Flow.pick, List.getElem?_toArray, List.getElem?_cons_succ, List.getElem?_cons_zero]
 repeat go_big_quiet_step (fail)
 refine wpQuiet_nil ?_
 clear nonE
 rw [Flow.callAt_eq]
 simp only [List.getElem?_toArray, List.getElem?_cons_succ, List.getElem?_cons_zero]
 rw [if_pos (by rfl)]
 refine Flow.wp_behind (fun K0 hK => ?_)
 go_wp2_with fail
 refine (HDA.out _).mono ?_; rintro e w4 ⟨rfl, b4⟩
 refine hK.out _ _ ⟨b4, ?_⟩
 clear hK K0
 have I4 := Lib.hid (And.intro (I3.out.1.tr b4) (blk_below b4 I3.out.2))
 clear b4 I3
 haveI nonE := Flow.cls_nonempty w4
 rw [Flow.wpSegs_nil]
 simp only [Flow.pick, List.getElem?_toArray, List.getElem?_cons_succ, List.getElem?_cons_zero]
 repeat go_big_quiet_step (fail)
 refine wpQuiet_nil ?_
 clear nonE
 have c4 := blk_cell I4.out.2 4
 go_wp2_with fail
 refine (HLN.out w4 (HR.out.below I4.out.1)).mono ?_; rintro e w5 ⟨⟨v, rfl, ho⟩, b5⟩
 obtain ⟨A5, c5, rfl⟩ := own2_slice ho
 have OR := Lib.hid ((Rd.of_own ho).1)
 have hc5 := (Rd.of_own ho).2.2
 have I5 := Lib.hid (And.intro (I4.out.1.tr b5) (blk_below b5 I4.out.2))
 clear c4 ho b5 I4
 have hLl : LN.length ≤ 200 := Nat.le_trans HLL.out hn
 go_wp2_with fail
 go_loopg [3, 5] LN.length (fun gg sv kv wr => ∃ k : Nat, k ≤ LN.length ∧ LN.length - k ≤ gg ∧ kv = i64 k ∧ sv = enS (p1 k) ∧ wr = w5)
 case atStart => exact ⟨0, Nat.zero_le _, by omega, rfl, by rw [P0.out]; exact str_congr (by simp only [bcat]), rfl⟩
 case round =>
  obtain ⟨k, hk, hgg, rfl, rfl, rfl⟩ := hrel
  by_cases hlt : k < LN.length
  ·obtain ⟨b, o, l, rfl, hbl, hx, hcell⟩ := OR.out.at_ hlt
   have hpl := P1L.out (k + 1)
   rw [P1.out k l hx] at hpl
   have PN := Lib.hid (P1.out k l hx)
   have hTX := HL.out
   simp only [List.length_append, List.length_cons, List.length_nil] at hpl
   obtain ⟨q, hq⟩ : ∃ q, p1 k = q := ⟨_, rfl⟩
   rw [hq] at hpl PN ⊢
   clear hq hx
   go_wp2_with fail
   go_roundg (LN.length - (k + 1))
   case measure => omega
   case rel => exact ⟨k + 1, by omega, by omega, by simp, by rw [PN.out]; exact str_congr (by simp only [bcat]), rfl⟩
  ·obtain rfl : k = LN.length := by omega
   have h2l := P2.out
   have h2t := P3L.out 0
   have hTX := HL.out
   rw [h2l] at h2t
   simp only [List.length_append] at h2t
   have hsep : sepT.length = 30 := rfl
   obtain ⟨q, hq⟩ : ∃ q, p1 LN.length = q := ⟨_, rfl⟩
   rw [hq] at h2l h2t ⊢
   have PQ := Lib.hid h2l
   clear hq h2l
   go_upto_region 8 with fail
   clear h2t hTX hsep
   have I6 := I5
   go_wp2_with fail
   clear I5
   go_loopg [3, 6, 7] its.length (fun gg sv kv _ wr => ∃ k : Nat, k ≤ its.length ∧ its.length - k ≤ gg ∧ kv = i64 k ∧ sv = enS (p2 k) ∧ Hid (Below w.heap.size w wr ∧ wr.heap[w.heap.size]? = some (.cells #[enS ti, i64 vo, i64 ie, i64 da, .slice A its.length c] 24 (0, 0))))
   case atStart => exact ⟨0, Nat.zero_le _, by omega, rfl, by rw [PQ.out]; exact str_congr (by simp only [bcat]; rfl), I6⟩
   case round =>
    obtain ⟨k, hk, hgg, rfl, rfl, IW⟩ := hrel
    clear I6
    have c4 := blk_cell IW.out.2 4
    by_cases hlt : k < its.length
    ·obtain ⟨b, o, x, rfl, hbl, hx, hrg, h32⟩ := (HR.out.below IW.out.1).at_ hlt
     have HRG := Lib.hid hrg
     have hpl := P3L.out (k + 1)
     rw [P3.out k x hx] at hpl
     have PN := Lib.hid (P3.out k x hx)
     have hTX := HL.out
     rw [List.length_append] at hpl
     obtain ⟨x1, x2, x3, -, x5⟩ := HIT.out x (List.mem_of_getElem? hx)
     have X1 := Lib.hid (fun u => date_ref x.dt u x1)
     have X2 := Lib.hid (fun u => print_ref x.ky u h32)
     have X3 := Lib.hid (fun u => protected_any x.bo u x5)
     have XT := Lib.hid (itLs_text x)
     have hpr := prot_length x.bo
     have hfm := fm_len x1
     have hpi : (prId x.ky).length = 71 := by unfold prId; rw [List.length_append, List.length_cons, hexT_len, h32]; rfl
     have HSZ := Lib.hid refit_size
     have BI := Lib.hid (blk_new wr (.cells (itL x).toArray 53))
     have bi := below_new wr (.cells (itL x).toArray 53)
     have hbn : wr.heap.size < (wr.alloc (.cells (itL x).toArray 53)).heap.size := by simp
     have I1 := Lib.hid (And.intro (IW.out.1.tr bi) (blk_below bi IW.out.2))
     clear hrg hx bi IW x1 h32
     go_upto_region 12 with (first | refine wpList_load_mid rfl 53 _ rfl b (o + k * 36) rfl (itL x) _ HRG.out Tryz.underlying53 rfl (by rw [itL_length]; exact HSZ.out) ?_ | refine wpList_store_new (w := wr) rfl 53 _ _ rfl _ (itL x).toArray rfl rfl (by simp [itL_length, HSZ.out]) (by simp [itL_length]) (all_oneCell_toArray (one_itL x)) ?_)
     generalize wr.alloc (.cells (itL x).toArray 53) = w2 at *
     have bd := (Below.refl w2.heap.size w2).drew
     refine Flow.wp_region_segs Flow.Later Flow.Later.refl Flow.Later.trans [([0, 1, 2, 3, 4, 5, 6, 7, 11, 12, 20, 21, 15, 16], 8), ([9, 10, 13, 14], 17), ([18, 19], 22)] [23, 24, 25, 26] (by kernel_rfl) (by kernel_rfl) ?_
     have I5 := Lib.hid (And.intro (I1.out.1.tr bd) (blk_below bd I1.out.2))
     have BI5 := Lib.hid (blk_below bd BI.out)
     clear bd I1 BI
     generalize World.drew _ = w3 at *
     obtain ⟨d0, d1, d2, d3⟩ := it_cells BI5.out
     have q0 : ∀ t : Flow.Cls (Flow.Later w3), t.val.cell? ⟨wr.heap.size, 0, none⟩ = some (enS x.fr) := fun t => Flow.cls_cell d0 t
     have q1 : ∀ t : Flow.Cls (Flow.Later w3), t.val.cell? ⟨wr.heap.size, 1, none⟩ = some (i64 x.dt) := fun t => Flow.cls_cell d1 t
     have q2 : ∀ t : Flow.Cls (Flow.Later w3), t.val.cell? ⟨wr.heap.size, 2, none⟩ = some (enS x.su) := fun t => Flow.cls_cell d2 t
     have q3 : ∀ t : Flow.Cls (Flow.Later w3), t.val.cell? ⟨wr.heap.size, 35, none⟩ = some (enS x.bo) := fun t => Flow.cls_cell d3 t
     have qK : ∀ t : Flow.Cls (Flow.Later w3), t.val.rangeAt wr.heap.size 3 (idL x.ky) := fun t => it_ky (blk_below t.ok BI5.out)
     haveI nonE := Flow.cls_nonempty w3
     obtain ⟨q, hq⟩ : ∃ q, p2 k = q := ⟨_, rfl⟩
     rw [hq] at hpl PN ⊢
     clear hq
     have hXT := congrArg List.length XT.out
     simp only [List.length_append, List.length_cons, List.length_nil] at hXT
     rw [Flow.wpSegs_cons]
     simp only [Flow.pick, List.getElem?_toArray, List.getElem?_cons_succ, List.getElem?_cons_zero]
     dsimp only [Act.put]
     iterate 13 go_big_quiet_step (fail)
     refine BigFrame.wpQuiet_want rfl (fun K hK => quiet_load_mid 51 _ rfl wr.heap.size 3 rfl (idL x.ky) _ (fun _ he => by obtain ⟨t, rfl⟩ := he; exact qK t) Tryz.underlying51 rfl (by rw [idL_length]; exact id_size5) (hK _ ?_))
     clear hK K
     simp only [Act.put, List.setIfInBounds_toArray, List.set_cons_succ, List.set_cons_zero]
     refine wpQuiet_nil ?_
     clear nonE q0 q1 q2 q3 qK d0 d1 d2 d3 BI5
     rw [Flow.callAt_eq]
     simp only [List.getElem?_toArray, List.getElem?_cons_succ, List.getElem?_cons_zero]
     rw [if_pos (by rfl)]
     refine Flow.wp_behind (fun K0 hK => ?_)
     go_wp2_with fail
     refine (X1.out _).mono ?_; rintro e w4 ⟨rfl, b⟩
     refine hK.out _ _ ⟨b, ?_⟩
     clear hK K0
     have I6 := Lib.hid (And.intro (I5.out.1.tr b) (blk_below b I5.out.2))
     clear b I5
     haveI nonE := Flow.cls_nonempty w4
     rw [Flow.wpSegs_cons]
     simp only [Flow.pick, List.getElem?_toArray, List.getElem?_cons_succ, List.getElem?_cons_zero]
     repeat go_big_quiet_step (fail)
     refine wpQuiet_nil ?_
     clear nonE
     rw [Flow.callAt_eq]
     simp only [List.getElem?_toArray, List.getElem?_cons_succ, List.getElem?_cons_zero]
     rw [if_pos (by rfl)]
     refine Flow.wp_behind (fun K0 hK => ?_)
     go_wp2_with fail
     refine (X2.out _).mono ?_; rintro e w5' ⟨rfl, b⟩
     refine hK.out _ _ ⟨b, ?_⟩
     clear hK K0
     have I7 := Lib.hid (And.intro (I6.out.1.tr b) (blk_below b I6.out.2))
     clear b I6
     haveI nonE := Flow.cls_nonempty w5'
     rw [Flow.wpSegs_cons]
     simp only [Flow.pick, List.getElem?_toArray, List.getElem?_cons_succ, List.getElem?_cons_zero]
     repeat go_big_quiet_step (fail)
     refine wpQuiet_nil ?_
     clear nonE
     rw [Flow.callAt_eq]
     simp only [List.getElem?_toArray, List.getElem?_cons_succ, List.getElem?_cons_zero]
     rw [if_pos (by rfl)]
     refine Flow.wp_behind (fun K0 hK => ?_)
     go_wp2_with fail
     refine (X3.out _).mono ?_; rintro e w6 ⟨rfl, rfl⟩
     refine hK.out _ _ ⟨Below.refl _ _, ?_⟩
     clear hK K0
     haveI nonE := Flow.cls_nonempty w5'
     rw [Flow.wpSegs_nil]
     simp only [Flow.pick, List.getElem?_toArray, List.getElem?_cons_succ, List.getElem?_cons_zero]
     repeat go_big_quiet_step (fail)
     refine wpQuiet_nil ?_
     clear nonE
     go_wp2_with fail
     go_roundg (its.length - (k + 1))
     case measure => omega
     case rel => exact ⟨k + 1, by omega, by omega, by simp, by rw [PN.out, XT.out]; exact str_congr (by simp only [bcat, List.append_assoc]; rfl), I7⟩
    ·obtain rfl : k = its.length := by omega
     have hTX := HL.out
     have h4 := P4.out
     have h4l := congrArg List.length h4
     simp only [List.length_append, List.length_cons, List.length_nil] at h4l
     obtain ⟨q, hq⟩ : ∃ q, p2 its.length = q := ⟨_, rfl⟩
     rw [hq] at h4 h4l ⊢
     have P9 := Lib.hid h4
     clear hq h4
     have RD := Lib.hid (range_blk (cs := [enS ti, i64 vo, i64 ie, i64 da, .slice A its.length c]) IW.out.2)
     go_wp2_with (refine wpList_load_mid rfl 24 _ rfl w.heap.size 0 rfl [enS ti, i64 vo, i64 ie, i64 da, .slice A its.length c] _ RD.out Tryz.underlying24 rfl (by kernel_rfl) ?_)
     refine (HH.out _).mono ?_; rintro e w9 ⟨rfl, b9⟩
     have B9 := Lib.hid (IW.out.1.tr b9)
     clear b9 IW c4 RD
     go_wp2_with fail
     go_ret
     exact ⟨congrArg Ending.returned (by rw [P9.out]; exact str_congr (by simp only [bcat, List.append_assoc]; rfl)), B9.out⟩
end Go.Proofs.YtlchcjnbbhpiaaaGreatDoor
