/- Contracts of the scanner's name, of the function literal in it, and of slices.IndexFunc at it. -/
import Derived.Test.YtpdncgfkoibacaaDoorZone
import Derived.Test.YtpdncgfkoibacaaDoorFork
namespace Go.Proofs.YtpdncgfkoibacaaDoor
open Go.RowKit

set_option maxRecDepth 100000 in
set_option maxHeartbeats 1000000 in
theorem nameLit_any (n cw : List UInt8) (wb : Nat) (w : World) (hn : n.length ≤ 1000) (hx : w.cell? ⟨wb, 0, none⟩ = some (.string ⟨cw.toArray⟩)) :
    Calls Tryd.prog 79 #[.string ⟨n.toArray⟩, .pointer (some ⟨wb, 0, none⟩)] w fun e w' => e = .returned (.bool (capL n == cw)) ∧ Below w.heap.size w w' := by
  have HX := Lib.hid hx; clear hx
  go_enter Tryd.func79, Tryd.ntmps79
  go_wp2_with fail
  refine Flow.wp_region_segs Flow.Later Flow.Later.refl Flow.Later.trans [([0, 2], 1)] [3, 4] (by kernel_rfl) (by kernel_rfl) ?_
  have X1 : Hid (w.drew.cell? ⟨wb, 0, none⟩ = some (.string ⟨cw.toArray⟩)) := HX.out
  have b1 : Below w.heap.size w w.drew := Below.drew (Below.refl _ _)
  generalize w.drew = w1 at *
  have c0 : ∀ t1 : Flow.Cls (Flow.Later w1), t1.val.cell? ⟨wb, 0, none⟩ = some (.string ⟨cw.toArray⟩) := Flow.cls_cell X1.out
  haveI nonE := Flow.cls_nonempty w1
  rw [Flow.wpSegs_cons]
  simp only [Flow.pick, List.getElem?_toArray, List.getElem?_cons_succ, List.getElem?_cons_zero]
  repeat go_big_quiet_step (fail)
  refine wpQuiet_nil ?_
  clear c0 nonE
  rw [Flow.callAt_eq]
  simp only [List.getElem?_toArray, List.getElem?_cons_succ, List.getElem?_cons_zero]
  rw [if_pos (by rfl)]
  refine Flow.wp_behind (fun K hK => ?_)
  go_wp2_with fail
  refine (capital_any n _ hn).mono ?_; rintro e w2 ⟨rfl, b2⟩
  refine hK.out _ _ ⟨b2, ?_⟩
  clear hK K
  haveI nonE := Flow.cls_nonempty w2
  rw [Flow.wpSegs_nil]
  simp only [Flow.pick, List.getElem?_toArray, List.getElem?_cons_succ, List.getElem?_cons_zero]
  repeat go_big_quiet_step (fail)
  refine wpQuiet_nil ?_
  clear nonE
  go_wp2_with fail
  go_ret
  exact ⟨rfl, b1.trans (b2.mono b1.size)⟩

/-- The place of a name, -1 without one. -/
def idxOr (o : Option Nat) : Int := match o with | some i => i | none => -1
theorem findIdx_snoc (p : List UInt8 → Bool) (l : List (List UInt8)) (k : Nat) (hk : k < l.length) (hno : ∀ i, i < k → p (l.getD i []) = false) (hyes : p (l.getD k []) = true) : l.findIdx? p = some k := by
  rw [List.findIdx?_eq_some_iff_getElem]
  refine ⟨hk, by simpa [hk] using hyes, fun j hj => ?_⟩
  have := hno j hj
  simpa [Nat.lt_trans hj hk] using this
theorem findIdx_none (p : List UInt8 → Bool) (l : List (List UInt8)) (hno : ∀ i, i < l.length → p (l.getD i []) = false) : l.findIdx? p = none := by
  rw [List.findIdx?_eq_none_iff]
  intro x hx
  obtain ⟨i, hi, rfl⟩ := List.getElem_of_mem hx
  have := hno i hi
  simpa [hi] using this

set_option maxRecDepth 100000 in
set_option maxHeartbeats 1000000 in
theorem indexFunc_any (names : List (List UInt8)) (cw : List UInt8) (nb wb : Nat) (w : World) (hnn : names.length ≤ 100) (hn : ∀ i, i < names.length → (names.getD i []).length ≤ 1000)
    (hc : ∀ i, i < names.length → w.cell? ⟨nb, i, none⟩ = some (.string ⟨(names.getD i []).toArray⟩)) (hx : w.cell? ⟨wb, 0, none⟩ = some (.string ⟨cw.toArray⟩)) :
    Calls Tryd.prog 78 #[.slice (some ⟨nb, 0, none⟩) names.length names.length, .func (.func 79) #[] #[.pointer (some ⟨wb, 0, none⟩)]] w fun e w' => e = .returned (.int .i64 (idxOr (names.findIdx? fun n => capL n == cw))) ∧ Below w.heap.size w w' := by
  have HX := Lib.hid hx; clear hx
  have HC := Lib.hid hc; clear hc
  have HN := Lib.hid hn; clear hn
  go_enter Tryd.func78, Tryd.ntmps78
  go_wp2_with fail
  go_loopw [8] (fun i wr => ∃ k : Nat, k ≤ names.length ∧ i = .int .i64 k ∧ Below w.heap.size w wr ∧ Hid (∀ i, i < k → (capL (names.getD i []) == cw) = false)) (fun i _ => names.length - (intOf i).toNat)
  case atStart => exact ⟨0, by omega, rfl, Below.refl _ _, fun i hi => absurd hi (by omega)⟩
  case round =>
    obtain ⟨k, hk, rfl, hB, A⟩ := hrel
    by_cases hlt : k < names.length
    · have c1 : wr.cell? ⟨nb, k, none⟩ = some (.string ⟨(names.getD k []).toArray⟩) := Below.cellv hB (HC.out k hlt)
      have X1 : Hid (wr.cell? ⟨wb, 0, none⟩ = some (.string ⟨cw.toArray⟩)) := Below.cellv hB HX.out
      have hnk := HN.out k hlt
      cases hq : (capL (names.getD k []) == cw) with
      | true =>
        have HQ := Lib.hid hq; clear hq
        generalize hng : names.getD k [] = nk at *
        have NG := Lib.hid hng; clear hng
        go_wp2_with fail
        refine (nameLit_any nk cw wb wr hnk X1.out).mono ?_; rintro e w1 ⟨rfl, b1⟩
        rw [HQ.out]
        go_wp2_with fail
        go_ret
        exact ⟨by rw [findIdx_snoc _ names k hlt A.out (by rw [NG.out]; exact HQ.out)]; rfl, hB.trans (b1.mono hB.size)⟩
      | false =>
        have HQ := Lib.hid hq; clear hq
        generalize hng : names.getD k [] = nk at *
        have NG := Lib.hid hng; clear hng
        go_wp2_with fail
        refine (nameLit_any nk cw wb wr hnk X1.out).mono ?_; rintro e w1 ⟨rfl, b1⟩
        rw [HQ.out]
        go_wp2_with fail
        go_roundw
        case rel =>
          refine ⟨k + 1, by omega, by go_num, hB.trans (b1.mono hB.size), fun i hi => ?_⟩
          rcases Nat.lt_succ_iff_lt_or_eq.1 hi with h | h
          · exact A.out i h
          · subst h; rw [NG.out]; exact HQ.out
        case measure => simp [intOf]; omega
    · obtain rfl : k = names.length := by omega
      go_wp2_with fail
      go_ret
      exact ⟨by rw [findIdx_none _ names A.out]; rfl, hB⟩

theorem extract_take (t : List UInt8) (p q : Nat) : (⟨t.toArray⟩ : ByteArray).extract p q = ⟨((t.drop p).take (q - p)).toArray⟩ := by
  apply ByteArray.ext
  simp [ByteArray.data_extract]
end Go.Proofs.YtpdncgfkoibacaaDoor
