/- Contracts: date.Parse, date.IsCanonical. -/
import Derived.Test.YtlchcjnbbhpiaaaGreatDoorZq
import Derived.Test.YtlchcjnbbhpiaaaGreatDoorZo
import Derived.Test.YtlchcjnbbhpiaaaGreatDoorZa
namespace Go.Proofs.YtlchcjnbbhpiaaaGreatDoor.Dt
open Go.Dt
open Go.RowKit
open Cal
theorem formatZone_yes (m off : Int) (w : World) (h : zok m off = true) (ht : Tab w) :
  Calls Tryz.prog 151 #[.int .i64 m, .int .i64 off] w fun e w' => e = .returned (.tuple #[.string ⟨(fmtText (m + off) off).toArray⟩, .int .i64 0]) ∧ Below w.heap.size w w' := by
 by_cases hp : off < 0
 ·have := formatZone_neg m (-off) w (by rw [Int.neg_neg]; exact h) (by omega) ht
  rw [Int.neg_neg] at this
  exact this
 ·exact formatZone_pos m off w h (by omega) ht
theorem zok_zero (m : Int) : zok m 0 = vld m := by
 unfold zok; rw [Int.add_zero]; cases vld m <;> rfl
set_option maxHeartbeats 400000 in
theorem format_yes (m : Int) (w : World) (h : vld m = true) (ht : Tab w) :
  Calls Tryz.prog 117 #[.int .i64 m] w fun e w' => e = .returned (.tuple #[.string ⟨(fmtText m 0).toArray⟩, .int .i64 0]) ∧ Below w.heap.size w w' := by
 have hz := Lib.hid ((zok_zero m).trans h)
 have HT := Lib.hid ht; clear ht
 go_enter Tryz.func117, Tryz.ntmps117
 go_wp2_with fail
 refine (formatZone_yes _ _ _ hz.out HT.out).mono ?_; rintro e w1 ⟨rfl, b1⟩
 rw [Int.add_zero]
 go_wp2_with fail
 go_ret2
 exact ⟨rfl, b1⟩
set_option maxHeartbeats 1000000 in
theorem parse_any (t : List UInt8) (w : World) (hm : t.length ≤ 1000000000) :
  Calls Tryz.prog 91 #[.string ⟨t.toArray⟩] w fun e w' => e = .returned (.tuple #[.int .i64 (parseF t).1, .int .i64 (parseF t).2.1, .int .i64 (parseF t).2.2]) ∧ Below w.heap.size w w' := by
 by_cases h64 : 64 < t.length
 ·have e : parseF t = (0, 64, 5) := by unfold parseF; rw [if_pos h64]
  rw [e]
  dsimp only
  exact (parse_long t w h64 hm).mono fun _ _ h => ⟨h.1, h.2 ▸ Below.refl _ _⟩
 have hl : t.length ≤ 64 := by omega
 have HR := Lib.hid (fun (b : Nat) (w : World) (h : Scn w b t ⟨0, 0⟩) => read_any b t w h (by omega))
 have yb : -600000 ≤ pYear t ∧ pYear t ≤ 2300000 := numV_small t (r5 t) 4 false (by omega)
 have ob := pOff_bd t
 have mb := pMon_bd t
 by_cases hne : (r13 t).e ≠ 0
 ·have e : parseF t = (0, ((r13 t).p : Int), ((r13 t).e : Int)) := by unfold parseF; rw [if_neg h64, if_pos hne]
  rw [e]
  dsimp only
  exact parse_e t w (pYear t) (pMon t) (pDay t) (pHour t) (pMin t) (pWd t) (pSec t) (pOff t) (r1 t).p (r5 t).p (r7 t).p (r9 t).p (pSecAt t) (r13 t) hl HR yb ob mb (ne_b (by omega))
 have he : (r13 t).e = 0 := by omega
 have he0 : (((r13 t).e : Int) != 0) = false := eq_nb (by omega)
 have hn : ¬ (r13 t).e ≠ 0 := by omega
 obtain ⟨o1, o2, o3, o4, o5⟩ := ok_all he
 by_cases hy : pYear t < 2000 ∨ 2199 < pYear t
 ·have e : parseF t = (0, ((r5 t).p : Int), 2) := by unfold parseF; rw [if_neg h64, if_neg hn, if_pos hy]
  rw [e]
  dsimp only
  by_cases hy1 : pYear t < 2000
  ·exact parse_y1 t w (pYear t) (pMon t) (pDay t) (pHour t) (pMin t) (pWd t) (pSec t) (pOff t) (r1 t).p (r5 t).p (r7 t).p (r9 t).p (pSecAt t) (r13 t) hl HR yb ob mb he0 hy1
  ·exact parse_y2 t w (pYear t) (pMon t) (pDay t) (pHour t) (pMin t) (pWd t) (pSec t) (pOff t) (r1 t).p (r5 t).p (r7 t).p (r9 t).p (pSecAt t) (r13 t) hl HR yb ob mb he0 (by omega) (by omega)
 have y1 : 2000 ≤ pYear t := by omega
 have y2 : pYear t ≤ 2199 := by omega
 by_cases hd : pDay t < 1 ∨ md (pYear t) (pMon t) < pDay t
 ·have e : parseF t = (0, ((r1 t).p : Int), 13) := by unfold parseF; rw [if_neg h64, if_neg hn, if_neg hy, if_pos hd]
  rw [e]
  dsimp only
  by_cases hd1 : pDay t < 1
  ·exact parse_d1 t w (pYear t) (pMon t) (pDay t) (pHour t) (pMin t) (pWd t) (pSec t) (pOff t) (r1 t).p (r5 t).p (r7 t).p (r9 t).p (pSecAt t) (r13 t) hl HR yb ob mb he0 y1 y2 hd1
  ·exact parse_d2 t w (pYear t) (pMon t) (pDay t) (pHour t) (pMin t) (pWd t) (pSec t) (pOff t) (r1 t).p (r5 t).p (r7 t).p (r9 t).p (pSecAt t) (r13 t) hl HR yb ob mb he0 y1 y2 (by omega) (by omega)
 have d1 : 1 ≤ pDay t := by omega
 have d2 : pDay t ≤ md (pYear t) (pMon t) := by omega
 by_cases hh : 23 < pHour t
 ·have e : parseF t = (0, ((r7 t).p : Int), 13) := by unfold parseF; rw [if_neg h64, if_neg hn, if_neg hy, if_neg hd, if_pos hh]
  rw [e]
  dsimp only
  exact parse_h t w (pYear t) (pMon t) (pDay t) (pHour t) (pMin t) (pWd t) (pSec t) (pOff t) (r1 t).p (r5 t).p (r7 t).p (r9 t).p (pSecAt t) (r13 t) hl HR yb ob mb he0 y1 y2 d1 d2 hh
 by_cases hmi : 59 < pMin t
 ·have e : parseF t = (0, ((r9 t).p : Int), 13) := by unfold parseF; rw [if_neg h64, if_neg hn, if_neg hy, if_neg hd, if_neg hh, if_pos hmi]
  rw [e]
  dsimp only
  exact parse_n t w (pYear t) (pMon t) (pDay t) (pHour t) (pMin t) (pWd t) (pSec t) (pOff t) (r1 t).p (r5 t).p (r7 t).p (r9 t).p (pSecAt t) (r13 t) hl HR yb ob mb he0 y1 y2 d1 d2 (by omega) hmi
 by_cases hs : 60 < pSec t
 ·have e : parseF t = (0, pSecAt t, 13) := by unfold parseF; rw [if_neg h64, if_neg hn, if_neg hy, if_neg hd, if_neg hh, if_neg hmi, if_pos hs]
  rw [e]
  dsimp only
  exact parse_s t w (pYear t) (pMon t) (pDay t) (pHour t) (pMin t) (pWd t) (pSec t) (pOff t) (r1 t).p (r5 t).p (r7 t).p (r9 t).p (pSecAt t) (r13 t) hl HR yb ob mb he0 y1 y2 d1 d2 (by omega) (by omega) hs
 have hloc : pLoc t = dayNum (pYear t) (pMon t) (pDay t) * 1440 + pHour t * 60 + pMin t := by unfold pLoc; rfl
 by_cases hw : 0 ≤ pWd t ∧ pWd t ≠ (pLoc t / 1440 + 5) % 7
 ·have e : parseF t = (0, 0, 13) := by unfold parseF; rw [if_neg h64, if_neg hn, if_neg hy, if_neg hd, if_neg hh, if_neg hmi, if_neg hs, if_pos hw]
  rw [e]
  dsimp only
  exact parse_w t w (pYear t) (pMon t) (pDay t) (pHour t) (pMin t) (pWd t) (pSec t) (pOff t) (r1 t).p (r5 t).p (r7 t).p (r9 t).p (pSecAt t) (r13 t) hl HR yb ob mb he0 y1 y2 d1 d2 o1 (by omega) o2 (by omega) (by omega) hw.1 (by rw [← hloc]; exact ne_b hw.2)
 by_cases hv : pLoc t - pOff t < 0 ∨ 105190559 < pLoc t - pOff t
 ·have e : parseF t = (0, 0, 2) := by unfold parseF; rw [if_neg h64, if_neg hn, if_neg hy, if_neg hd, if_neg hh, if_neg hmi, if_neg hs, if_neg hw, if_pos hv]
  rw [e]
  dsimp only
  have vv := vld_mkn hv
  rw [hloc] at vv
  by_cases hw0 : pWd t < 0
  ·exact parse_ra t w (pYear t) (pMon t) (pDay t) (pHour t) (pMin t) (pWd t) (pSec t) (pOff t) (r1 t).p (r5 t).p (r7 t).p (r9 t).p (pSecAt t) (r13 t) hl HR yb ob mb he0 y1 y2 d1 d2 o1 (by omega) o2 (by omega) (by omega) hw0 vv
  ·have hwe : pWd t = (pLoc t / 1440 + 5) % 7 := by
    rcases Int.decEq (pWd t) ((pLoc t / 1440 + 5) % 7) with h | h
    ·exact absurd ⟨by omega, h⟩ hw
    ·exact h
   exact parse_rb t w (pYear t) (pMon t) (pDay t) (pHour t) (pMin t) (pWd t) (pSec t) (pOff t) (r1 t).p (r5 t).p (r7 t).p (r9 t).p (pSecAt t) (r13 t) hl HR yb ob mb he0 y1 y2 d1 d2 o1 (by omega) o2 (by omega) (by omega) (by omega) (by rw [← hloc]; exact eq_nb hwe) vv
 ·have e : parseF t = (pLoc t - pOff t, 0, 0) := by unfold parseF; rw [if_neg h64, if_neg hn, if_neg hy, if_neg hd, if_neg hh, if_neg hmi, if_neg hs, if_neg hw, if_neg hv]
  rw [e]
  dsimp only
  have vv := vld_mk (m := pLoc t - pOff t) (by omega)
  rw [hloc] at vv ⊢
  by_cases hw0 : pWd t < 0
  ·exact parse_oa t w (pYear t) (pMon t) (pDay t) (pHour t) (pMin t) (pWd t) (pSec t) (pOff t) (r1 t).p (r5 t).p (r7 t).p (r9 t).p (pSecAt t) (r13 t) hl HR yb ob mb he0 y1 y2 d1 d2 o1 (by omega) o2 (by omega) (by omega) hw0 vv
  ·have hwe : pWd t = (pLoc t / 1440 + 5) % 7 := by
    rcases Int.decEq (pWd t) ((pLoc t / 1440 + 5) % 7) with h | h
    ·exact absurd ⟨by omega, h⟩ hw
    ·exact h
   exact parse_ob t w (pYear t) (pMon t) (pDay t) (pHour t) (pMin t) (pWd t) (pSec t) (pOff t) (r1 t).p (r5 t).p (r7 t).p (r9 t).p (pSecAt t) (r13 t) hl HR yb ob mb he0 y1 y2 d1 d2 o1 (by omega) o2 (by omega) (by omega) (by omega) (by rw [← hloc]; exact eq_nb hwe) vv
/-- Parse at a text whose answer is known. -/
theorem parse_at {t : List UInt8} {m p e : Int} (hp : parseF t = (m, p, e)) (w : World) (hm : t.length ≤ 1000000000) :
  Calls Tryz.prog 91 #[.string ⟨t.toArray⟩] w fun e' w' => e' = .returned (.tuple #[.int .i64 m, .int .i64 p, .int .i64 e]) ∧ Below w.heap.size w w' := by
 have := parse_any t w hm
 rw [hp] at this
 exact this
set_option maxRecDepth 100000 in
set_option maxHeartbeats 2000000 in
theorem isCanonical_err (t : List UInt8) (m p e : Int) (w : World) (hp : parseF t = (m, p, e)) (he : (e != 0) = true) (hm : t.length ≤ 1000000000) :
  Calls Tryz.prog 90 #[.string ⟨t.toArray⟩] w fun e w' => e = .returned (.bool false) ∧ Below w.heap.size w w' := by
 have HP := Lib.hid hp; clear hp
 go_enter Tryz.func90, Tryz.ntmps90
 go_wp2_with fail
 refine (parse_at HP.out _ hm).mono ?_; rintro e w1 ⟨rfl, b1⟩
 go_wp2_with fail
 go_ret
 exact ⟨rfl, b1⟩
set_option maxRecDepth 100000 in
set_option maxHeartbeats 2000000 in
theorem isCanonical_ok (t : List UInt8) (m p : Int) (w : World) (ht : Tab w) (hp : parseF t = (m, p, 0)) (hv : vld m = true) (hm : t.length ≤ 1000000000) :
  Calls Tryz.prog 90 #[.string ⟨t.toArray⟩] w fun e w' => e = .returned (.bool (fmtText m 0 == t)) ∧ Below w.heap.size w w' := by
 have HP := Lib.hid hp; clear hp
 have HV := Lib.hid hv; clear hv
 have HT := Lib.hid ht; clear ht
 generalize hf : fmtText m 0 = F
 have HF := Lib.hid hf; clear hf
 go_enter Tryz.func90, Tryz.ntmps90
 go_wp2_with fail
 refine (parse_at HP.out _ hm).mono ?_; rintro e w1 ⟨rfl, b1⟩
 go_wp2_with fail
 refine (format_yes m _ HV.out (HT.out.below b1)).mono ?_; rintro e w2 ⟨rfl, b2⟩
 rw [HF.out]
 have c2 := b1.trans (b2.mono b1.size); clear b1 b2
 go_wp2_with fail
 go_ret
 exact ⟨rfl, c2⟩
theorem isCanonical_any (t : List UInt8) (w : World) (ht : Tab w) (hm : t.length ≤ 1000000000) :
  Calls Tryz.prog 90 #[.string ⟨t.toArray⟩] w fun e w' => e = .returned (.bool (canonB t)) ∧ Below w.heap.size w w' := by
 obtain ⟨⟨m, p, e⟩, hp⟩ : ∃ x, parseF t = x := ⟨_, rfl⟩
 have hv := parseF_val t
 unfold canonB
 rw [hp] at hv ⊢
 dsimp only at hv ⊢
 by_cases he : e = 0
 ·subst he
  have := isCanonical_ok t m p w ht hp (vld_mk hv.1) hm
  simpa using this
 ·have := isCanonical_err t m p e w hp (by simpa using he) hm
  have h2 : (e == 0) = false := by simpa using he
  rw [h2]
  exact this
end Go.Proofs.YtlchcjnbbhpiaaaGreatDoor.Dt
