/- Contracts of the reference: Check, Text; and of the statements' own same and short. -/
import Derived.Test.YtcagooijkecmoaaDoorGnRef2
namespace Go.Proofs.YtcagooijkecmoaaDoor
open Go.RowKit Go.Gn

set_option maxRecDepth 100000 in
set_option maxHeartbeats 2000000 in
theorem refCheck_any (s : List UInt8) (w : World) (hl : s.length ≤ 100000000) : Calls Tryd.prog 23 #[enS s] w fun e w' => e = .returned (.int .i64 (check s)) ∧ Below w.heap.size w w' := by
  by_cases h80 : 80 < s.length
  · have V : Hid (check s = 5) := by (show check s = 5); unfold check; rw [if_pos h80]
    go_enter Tryd.func23, Tryd.ntmps23
    go_wp2
    go_ret
    exact ⟨ret_int (by rw [V.out]; rfl), Below.refl _ _⟩
  · have hp := refParts_any s 46 w hl
    have hn := parts_length_le 46 s
    have hx : Hid (∀ x ∈ parts 46 s, x.length ≤ 1000000000) := fun x hx => by have := parts_le 46 s x hx; omega
    have V : Hid (check s = if (parts 46 s).any (fun p => !comp p) then 12 else if 10 < (parts 46 s).length then 9 else 0) := by (show check s = _); unfold check; rw [if_neg h80]
    have hn : (parts 46 s).length ≤ 1000000000 := by omega
    generalize parts 46 s = ps at *
    go_enter Tryd.func23, Tryd.ntmps23
    go_wp2_with fail
    refine hp.mono ?_; rintro e w1 ⟨A, c, rfl, hr, hc, hb⟩
    have HR := Lib.hid hr; clear hr
    go_wp2_with fail
    go_loopg [4] ps.length (fun gg iv wr => ∃ k : Nat, k ≤ ps.length ∧ ps.length - k ≤ gg ∧ iv = .int .i64 k ∧ w1 = wr ∧ Hid ((ps.take k).all comp = true))
    case atStart => exact ⟨0, by omega, by omega, rfl, rfl, rfl⟩
    case round =>
      obtain ⟨k, hk, hg, rfl, rfl, A0⟩ := hrel
      by_cases hlt : k < ps.length
      · obtain ⟨b, o, x, rfl, _, hxk, hcell⟩ := HR.out.at_ hlt
        have hsn := take_all_snoc comp ps k [] hlt
        have hgx : ps.getD k [] = x := by rw [List.getD_eq_getElem?_getD, hxk]; rfl
        rw [hgx] at hsn
        have HX := Lib.hid hxk; clear hxk
        have HS := Lib.hid hsn; clear hsn hgx
        have hcomp := refComponent_any x w1 (hx.out x (List.mem_of_getElem? HX.out))
        cases hq : comp x with
        | true =>
          rw [hq] at hcomp
          have HQ := Lib.hid hq; clear hq
          go_wp2_with (go_at_call 49; refine hcomp.mono ?_; rintro e w2 ⟨rfl, rfl⟩)
          go_roundg (ps.length - (k + 1))
          case measure => omega
          case rel => exact ⟨k + 1, by omega, by omega, by go_num, rfl, (show (ps.take (k + 1)).all comp = true by rw [HS.out, A0.out, HQ.out]; rfl)⟩
        | false =>
          rw [hq] at hcomp
          have HQ := Lib.hid hq; clear hq
          go_wp2_with (go_at_call 49; refine hcomp.mono ?_; rintro e w2 ⟨rfl, rfl⟩)
          go_ret
          refine ⟨ret_int ?_, hb⟩
          rw [V.out, if_pos]
          · rfl
          · exact List.any_eq_true.2 ⟨x, List.mem_of_getElem? HX.out, by rw [HQ.out]; rfl⟩
      · obtain rfl : k = ps.length := by omega
        rw [List.take_length] at A0
        have hany : ps.any (fun p => !comp p) = false := by
          rw [List.any_eq_false]
          intro x hx
          rw [List.all_eq_true.1 A0.out x hx]; simp
        have HA := Lib.hid hany; clear hany
        by_cases h10 : 10 < ps.length
        · go_wp2
          go_ret
          exact ⟨ret_int (by rw [V.out, HA.out, if_neg Bool.false_ne_true, if_pos h10]; rfl), hb⟩
        · go_wp2
          go_ret
          exact ⟨ret_int (by rw [V.out, HA.out, if_neg Bool.false_ne_true, if_neg h10]; rfl), hb⟩

/-- The text grows by a separator, if it is not the first, and the next part. -/
theorem text_take (c : UInt8) (xs : List (List UInt8)) (k : Nat) (x : List UInt8) (h : xs[k]? = some x) : text c (xs.take (k + 1)) = (if 0 < k then text c (xs.take k) ++ [c] else text c (xs.take k)) ++ x := by
  obtain ⟨hl, hx⟩ := List.getElem?_eq_some_iff.1 h
  rw [List.take_succ_eq_append_getElem hl, hx]
  by_cases hk : 0 < k
  · rw [if_pos hk, text_snoc]
    · simp
    · intro e; have := congrArg List.length e; simp only [List.length_take, List.length_nil] at this; omega
  · rw [if_neg hk]
    obtain rfl : k = 0 := by omega
    rw [List.take_zero, List.nil_append, text_one]; rfl
theorem text_len_le (c : UInt8) (xs : List (List UInt8)) (k : Nat) (M : Nat) (h : (text c xs).length ≤ M) : (text c (xs.take k)).length ≤ M := Nat.le_trans (text_length_take c xs k) h

set_option maxRecDepth 100000 in
set_option maxHeartbeats 2000000 in
theorem refText_any (c : UInt8) (A : Option Addr) (cap : Nat) (xs : List (List UInt8)) (w : World) (hr : Rd w A xs) (hn : xs.length ≤ 1000000000) (hl : (text c xs).length ≤ 1000000000) :
    Calls Tryd.prog 32 #[.slice A xs.length cap, enS [c]] w fun e w' => e = .returned (enS (text c xs)) ∧ w = w' := by
  have HR := Lib.hid hr; clear hr
  go_enter Tryd.func32, Tryd.ntmps32
  go_wp2
  go_loopg [5, 6] xs.length (fun gg sv iv wr => ∃ k : Nat, k ≤ xs.length ∧ xs.length - k ≤ gg ∧ iv = .int .i64 k ∧ w = wr ∧ sv = enS (text c (xs.take k)))
  case atStart => exact ⟨0, by omega, by omega, rfl, rfl, rfl⟩
  case round =>
    obtain ⟨k, hk, hg, rfl, rfl, rfl⟩ := hrel
    by_cases hlt : k < xs.length
    · obtain ⟨b, o, x, rfl, _, hxk, hcell⟩ := HR.out.at_ hlt
      have hsn := text_take c xs k x hxk
      have l1 := text_len_le c xs k _ hl
      have l2 := text_len_le c xs (k + 1) _ hl
      have HS := Lib.hid hsn
      rw [hsn] at l2
      clear hsn hxk
      generalize text c (xs.take k) = tk at *
      by_cases hk0 : 0 < k
      · rw [if_pos hk0] at HS l2
        simp only [List.length_append, List.length_cons, List.length_nil] at l2
        have lx : x.length ≤ 1000000000 := by omega
        go_wp2
        go_roundg (xs.length - (k + 1))
        case measure => omega
        case rel => exact ⟨k + 1, by omega, by omega, by go_num, rfl, by rw [HS.out]; exact str_congr (by rw [bcat, bcat])⟩
      · rw [if_neg hk0] at HS l2
        simp only [List.length_append] at l2
        have lx : x.length ≤ 1000000000 := by omega
        go_wp2
        go_roundg (xs.length - (k + 1))
        case measure => omega
        case rel => exact ⟨k + 1, by omega, by omega, by go_num, rfl, by rw [HS.out]; exact str_congr (by rw [bcat])⟩
    · obtain rfl : k = xs.length := by omega
      rw [List.take_length]
      go_wp2
      go_ret
      exact ⟨rfl, rfl⟩
end Go.Proofs.YtcagooijkecmoaaDoor
