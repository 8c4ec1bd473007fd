/- Contract of Parse of package date in one piece; IsCanonical; and that the examples of the document hold (known). -/
import Derived.Test.YtpdncgfkoibacaaDoorParse
import Derived.Test.YtpdncgfkoibacaaDoorFmtDay
namespace Go.Proofs.YtpdncgfkoibacaaDoor
open Go.RowKit
open Cal

set_option maxHeartbeats 1000000 in
theorem parse_any (t : List UInt8) (w : World) (hm : t.length ≤ 1000000) :
    Calls Tryd.prog 21 #[.string ⟨t.toArray⟩] w fun e w' => e = .returned (.tuple #[.int .i64 (parseF t).1, .int .i64 (parseF t).2.1, .int .i64 (parseF t).2.2]) ∧ Below w.heap.size w w' := by
  by_cases h64 : 64 < t.length
  · have e : parseF t = (0, 64, 5) := by unfold parseF; rw [if_pos h64]
    rw [e]
    dsimp only
    exact (parse_long t w h64 hm).mono fun _ _ h => ⟨h.1, h.2 ▸ Below.refl _ _⟩
  have hl : t.length ≤ 64 := by omega
  have HR := Lib.hid (fun (b : Nat) (w : World) (h : Scn w b t ⟨0, 0⟩) => read_any b t w h (by omega))
  have yb : -600000 ≤ pYear t ∧ pYear t ≤ 2300000 := numV_small t (r5 t) 4 false (by omega)
  have ob := pOff_bd t
  have mb := pMon_bd t
  by_cases hne : (r13 t).e ≠ 0
  · have e : parseF t = (0, ((r13 t).p : Int), ((r13 t).e : Int)) := by unfold parseF; rw [if_neg h64, if_pos hne]
    rw [e]
    dsimp only
    exact parse_e t w (pYear t) (pMon t) (pDay t) (pHour t) (pMin t) (pWd t) (pSec t) (pOff t) (r1 t).p (r5 t).p (r7 t).p (r9 t).p (pSecAt t) (r13 t) hl HR yb ob mb (ne_b (by omega))
  have he : (r13 t).e = 0 := by omega
  have he0 : (((r13 t).e : Int) != 0) = false := eq_nb (by omega)
  have hn : ¬ (r13 t).e ≠ 0 := by omega
  obtain ⟨o1, o2, o3, o4, o5⟩ := ok_all he
  by_cases hy : pYear t < 2000 ∨ 2199 < pYear t
  · have e : parseF t = (0, ((r5 t).p : Int), 2) := by unfold parseF; rw [if_neg h64, if_neg hn, if_pos hy]
    rw [e]
    dsimp only
    by_cases hy1 : pYear t < 2000
    · exact parse_y1 t w (pYear t) (pMon t) (pDay t) (pHour t) (pMin t) (pWd t) (pSec t) (pOff t) (r1 t).p (r5 t).p (r7 t).p (r9 t).p (pSecAt t) (r13 t) hl HR yb ob mb he0 hy1
    · exact parse_y2 t w (pYear t) (pMon t) (pDay t) (pHour t) (pMin t) (pWd t) (pSec t) (pOff t) (r1 t).p (r5 t).p (r7 t).p (r9 t).p (pSecAt t) (r13 t) hl HR yb ob mb he0 (by omega) (by omega)
  have y1 : 2000 ≤ pYear t := by omega
  have y2 : pYear t ≤ 2199 := by omega
  by_cases hd : pDay t < 1 ∨ md (pYear t) (pMon t) < pDay t
  · have e : parseF t = (0, ((r1 t).p : Int), 13) := by unfold parseF; rw [if_neg h64, if_neg hn, if_neg hy, if_pos hd]
    rw [e]
    dsimp only
    by_cases hd1 : pDay t < 1
    · exact parse_d1 t w (pYear t) (pMon t) (pDay t) (pHour t) (pMin t) (pWd t) (pSec t) (pOff t) (r1 t).p (r5 t).p (r7 t).p (r9 t).p (pSecAt t) (r13 t) hl HR yb ob mb he0 y1 y2 hd1
    · exact parse_d2 t w (pYear t) (pMon t) (pDay t) (pHour t) (pMin t) (pWd t) (pSec t) (pOff t) (r1 t).p (r5 t).p (r7 t).p (r9 t).p (pSecAt t) (r13 t) hl HR yb ob mb he0 y1 y2 (by omega) (by omega)
  have d1 : 1 ≤ pDay t := by omega
  have d2 : pDay t ≤ md (pYear t) (pMon t) := by omega
  by_cases hh : 23 < pHour t
  · have e : parseF t = (0, ((r7 t).p : Int), 13) := by unfold parseF; rw [if_neg h64, if_neg hn, if_neg hy, if_neg hd, if_pos hh]
    rw [e]
    dsimp only
    exact parse_h t w (pYear t) (pMon t) (pDay t) (pHour t) (pMin t) (pWd t) (pSec t) (pOff t) (r1 t).p (r5 t).p (r7 t).p (r9 t).p (pSecAt t) (r13 t) hl HR yb ob mb he0 y1 y2 d1 d2 hh
  by_cases hmi : 59 < pMin t
  · have e : parseF t = (0, ((r9 t).p : Int), 13) := by unfold parseF; rw [if_neg h64, if_neg hn, if_neg hy, if_neg hd, if_neg hh, if_pos hmi]
    rw [e]
    dsimp only
    exact parse_n t w (pYear t) (pMon t) (pDay t) (pHour t) (pMin t) (pWd t) (pSec t) (pOff t) (r1 t).p (r5 t).p (r7 t).p (r9 t).p (pSecAt t) (r13 t) hl HR yb ob mb he0 y1 y2 d1 d2 (by omega) hmi
  by_cases hs : 60 < pSec t
  · have e : parseF t = (0, pSecAt t, 13) := by unfold parseF; rw [if_neg h64, if_neg hn, if_neg hy, if_neg hd, if_neg hh, if_neg hmi, if_pos hs]
    rw [e]
    dsimp only
    exact parse_s t w (pYear t) (pMon t) (pDay t) (pHour t) (pMin t) (pWd t) (pSec t) (pOff t) (r1 t).p (r5 t).p (r7 t).p (r9 t).p (pSecAt t) (r13 t) hl HR yb ob mb he0 y1 y2 d1 d2 (by omega) (by omega) hs
  have hloc : pLoc t = dayNum (pYear t) (pMon t) (pDay t) * 1440 + pHour t * 60 + pMin t := by unfold pLoc; rfl
  by_cases hw : 0 ≤ pWd t ∧ pWd t ≠ (pLoc t / 1440 + 5) % 7
  · have e : parseF t = (0, 0, 13) := by unfold parseF; rw [if_neg h64, if_neg hn, if_neg hy, if_neg hd, if_neg hh, if_neg hmi, if_neg hs, if_pos hw]
    rw [e]
    dsimp only
    exact parse_w t w (pYear t) (pMon t) (pDay t) (pHour t) (pMin t) (pWd t) (pSec t) (pOff t) (r1 t).p (r5 t).p (r7 t).p (r9 t).p (pSecAt t) (r13 t) hl HR yb ob mb he0 y1 y2 d1 d2 o1 (by omega) o2 (by omega) (by omega) hw.1 (by rw [← hloc]; exact ne_b hw.2)
  by_cases hv : pLoc t - pOff t < 0 ∨ 105190559 < pLoc t - pOff t
  · have e : parseF t = (0, 0, 2) := by unfold parseF; rw [if_neg h64, if_neg hn, if_neg hy, if_neg hd, if_neg hh, if_neg hmi, if_neg hs, if_neg hw, if_pos hv]
    rw [e]
    dsimp only
    have vv := vld_mkn hv
    rw [hloc] at vv
    by_cases hw0 : pWd t < 0
    · exact parse_ra t w (pYear t) (pMon t) (pDay t) (pHour t) (pMin t) (pWd t) (pSec t) (pOff t) (r1 t).p (r5 t).p (r7 t).p (r9 t).p (pSecAt t) (r13 t) hl HR yb ob mb he0 y1 y2 d1 d2 o1 (by omega) o2 (by omega) (by omega) hw0 vv
    · have hwe : pWd t = (pLoc t / 1440 + 5) % 7 := by
        rcases Int.decEq (pWd t) ((pLoc t / 1440 + 5) % 7) with h | h
        · exact absurd ⟨by omega, h⟩ hw
        · exact h
      exact parse_rb t w (pYear t) (pMon t) (pDay t) (pHour t) (pMin t) (pWd t) (pSec t) (pOff t) (r1 t).p (r5 t).p (r7 t).p (r9 t).p (pSecAt t) (r13 t) hl HR yb ob mb he0 y1 y2 d1 d2 o1 (by omega) o2 (by omega) (by omega) (by omega) (by rw [← hloc]; exact eq_nb hwe) vv
  · have e : parseF t = (pLoc t - pOff t, 0, 0) := by unfold parseF; rw [if_neg h64, if_neg hn, if_neg hy, if_neg hd, if_neg hh, if_neg hmi, if_neg hs, if_neg hw, if_neg hv]
    rw [e]
    dsimp only
    have vv := vld_mk (m := pLoc t - pOff t) (by omega)
    rw [hloc] at vv ⊢
    by_cases hw0 : pWd t < 0
    · exact parse_oa t w (pYear t) (pMon t) (pDay t) (pHour t) (pMin t) (pWd t) (pSec t) (pOff t) (r1 t).p (r5 t).p (r7 t).p (r9 t).p (pSecAt t) (r13 t) hl HR yb ob mb he0 y1 y2 d1 d2 o1 (by omega) o2 (by omega) (by omega) hw0 vv
    · have hwe : pWd t = (pLoc t / 1440 + 5) % 7 := by
        rcases Int.decEq (pWd t) ((pLoc t / 1440 + 5) % 7) with h | h
        · exact absurd ⟨by omega, h⟩ hw
        · exact h
      exact parse_ob t w (pYear t) (pMon t) (pDay t) (pHour t) (pMin t) (pWd t) (pSec t) (pOff t) (r1 t).p (r5 t).p (r7 t).p (r9 t).p (pSecAt t) (r13 t) hl HR yb ob mb he0 y1 y2 d1 d2 o1 (by omega) o2 (by omega) (by omega) (by omega) (by rw [← hloc]; exact eq_nb hwe) vv

theorem k1 : parseF [49, 54, 32, 110, 111, 118, 32, 50, 48, 50, 54, 32, 48, 51, 58, 51, 53, 32, 43, 48, 49, 51, 48] = (14135165, 0, 0) := by kernel_rfl
theorem k2 : parseF [49, 54, 32, 110, 111, 118, 32, 50, 48, 50, 54, 32, 51, 58, 51, 53, 32, 43, 48, 49, 51, 48] = (0, 13, 3) := by kernel_rfl
theorem k3 : fmtText 14135165 0 = [77, 111, 110, 44, 32, 49, 54, 32, 78, 111, 118, 32, 50, 48, 50, 54, 32, 48, 50, 58, 48, 53, 32, 43, 48, 48, 48, 48] := by kernel_rfl

set_option maxRecDepth 100000 in
set_option maxHeartbeats 1000000 in
theorem known_any (w : World) (ht : Tab w) : Calls Tryd.prog 12 #[] w fun e w' => e = .returned (.bool true) ∧ Below w.heap.size w w' := by
  have HT := Lib.hid ht; clear ht
  go_enter Tryd.func12, Tryd.ntmps12
  go_wp2_with fail
  refine (format_yes _ _ (by decide) HT.out).mono ?_; rintro e w1 ⟨rfl, b1⟩
  rw [k3]
  go_wp2_with fail
  have p1 := parse_any [49, 54, 32, 110, 111, 118, 32, 50, 48, 50, 54, 32, 48, 51, 58, 51, 53, 32, 43, 48, 49, 51, 48] w1 (by decide)
  rw [k1] at p1
  refine p1.mono ?_; rintro e w2 ⟨rfl, b2⟩
  clear p1
  go_wp2_with fail
  have p2 := parse_any [49, 54, 32, 110, 111, 118, 32, 50, 48, 50, 54, 32, 51, 58, 51, 53, 32, 43, 48, 49, 51, 48] w2 (by decide)
  rw [k2] at p2
  refine p2.mono ?_; rintro e w3 ⟨rfl, b3⟩
  clear p2
  go_wp2_with fail
  go_ret
  exact ⟨rfl, (b1.trans (b2.mono b1.size)).trans (b3.mono (b1.trans (b2.mono b1.size)).size)⟩
end Go.Proofs.YtpdncgfkoibacaaDoor
