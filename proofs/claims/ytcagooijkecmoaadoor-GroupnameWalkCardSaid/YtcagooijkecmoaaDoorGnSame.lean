/- Contracts: the reference's Compare; the statements' own same and short. -/
import Derived.Test.YtcagooijkecmoaaDoorGnCmp
namespace Go.Proofs.YtcagooijkecmoaaDoor
open Go.RowKit Go.Gn

theorem take_eq_succ {α : Type} {xs ys : List α} {k : Nat} {x : α} (T : xs.take k = ys.take k) (h1 : xs[k]? = some x) (h2 : ys[k]? = some x) : xs.take (k + 1) = ys.take (k + 1) := by
  obtain ⟨l1, e1⟩ := List.getElem?_eq_some_iff.1 h1
  obtain ⟨l2, e2⟩ := List.getElem?_eq_some_iff.1 h2
  rw [List.take_succ_eq_append_getElem l1, List.take_succ_eq_append_getElem l2, T, e1, e2]

set_option maxRecDepth 100000 in
set_option maxHeartbeats 4000000 in
theorem refCompare_any (a b : List UInt8) (w : World) (ha : a.length ≤ 100000000) (hb : b.length ≤ 100000000) :
    Calls Tryd.prog 16 #[enS a, enS b] w fun e w' => e = .returned (.int .i64 (gcmp a b)) ∧ Below w.heap.size w w' := by
  have hx : (parts 46 a).length ≤ 1000000000 := by have := parts_length_le 46 a; omega
  have hy : (parts 46 b).length ≤ 1000000000 := by have := parts_length_le 46 b; omega
  have h1 := refParts_any a 46 w ha
  have h2 := fun W => refParts_any b 46 W hb
  have V0 : Hid (gcmp a b = lex scmp (parts 46 a) (parts 46 b)) := rfl
  generalize gcmp a b = r at *
  generalize parts 46 a = xs at *
  generalize parts 46 b = ys at *
  go_enter Tryd.func16, Tryd.ntmps16
  go_wp2_with fail
  refine h1.mono ?_; rintro e w1 ⟨A, c, rfl, hA, _, b1⟩
  have HA := Lib.hid hA; clear hA
  go_wp2_with fail
  refine (h2 w1).mono ?_; rintro e w2 ⟨B, d, rfl, hB, _, b2⟩
  have HA2 := Lib.hid (HA.out.below b2); clear HA
  have HB := Lib.hid hB; clear hB
  have hBB := b1.tr b2
  clear b1 b2 h1 h2
  go_wp2_with fail
  go_loopg [7] xs.length (fun gg iv wr => ∃ k n : Nat, k ≤ xs.length ∧ k ≤ ys.length ∧ xs.length - k ≤ gg ∧ iv = .int .i64 k ∧ wr = w2.drewN n ∧ Hid (xs.take k = ys.take k))
  case atStart => exact ⟨0, 0, by omega, by omega, by omega, rfl, rfl, rfl⟩
  case round =>
    obtain ⟨k, n, hk, hk2, hg, rfl, rfl, T⟩ := hrel
    by_cases hlt : k < xs.length
    · by_cases hlt2 : k < ys.length
      · obtain ⟨b1, o1, x, rfl, _, hxk, hcell⟩ := HA2.out.at_ hlt
        have HX := Lib.hid hxk; clear hxk
        obtain ⟨b2, o2, y, rfl, _, hyk, hcell2⟩ := HB.out.at_ hlt2
        have HY := Lib.hid hyk; clear hyk
        have hcz : ((k : Int) ≤ 1000000000) := by omega
        rcases scmp_cases x y with ⟨e1, e2, e3⟩ | ⟨e1, e2, e3, rfl⟩ | ⟨e1, e2, e3⟩
        · have V : Hid (lex scmp xs ys = scmp x y) := lex_at scmp_lin xs ys k x y T.out HX.out HY.out (by omega)
          have E := Lib.hid e1; clear e1
          go_wp2_with fail
          go_quiet (fail)
          go_wp2_with fail
          go_ret
          exact ⟨ret_int (by rw [V0.out, V.out, E.out]), (hBB.drewN _).drewN _⟩
        · have E := Lib.hid e1; clear e1
          go_wp2_with fail
          go_quiet (fail)
          go_wp2_with fail
          go_quiet (fail)
          go_wp2_with fail
          go_roundg (xs.length - (k + 1))
          case measure => omega
          case rel => exact ⟨k + 1, _, by omega, by omega, by omega, by go_num, rfl, take_eq_succ T.out HX.out HY.out⟩
        · have V : Hid (lex scmp xs ys = scmp x y) := lex_at scmp_lin xs ys k x y T.out HX.out HY.out (by omega)
          have E := Lib.hid e1; clear e1
          go_wp2_with fail
          go_quiet (fail)
          go_wp2_with fail
          go_quiet (fail)
          go_wp2_with fail
          go_ret
          exact ⟨ret_int (by rw [V0.out, V.out, E.out]), ((hBB.drewN _).drewN _).drewN _⟩
      · obtain rfl : k = ys.length := by omega
        rw [List.take_length] at T
        have V : Hid (lex scmp xs ys = 1) := lex_right scmp_lin xs ys T.out.symm hlt
        go_wp2
        go_ret
        exact ⟨ret_int (by rw [V0.out, V.out]), hBB.drewN _⟩
    · obtain rfl : k = xs.length := by omega
      rw [List.take_length] at T
      have V : Hid (lex scmp xs ys = if xs.length < ys.length then -1 else 0) := lex_left scmp_lin xs ys T.out
      by_cases h2 : xs.length < ys.length
      · go_wp2
        go_ret
        exact ⟨ret_int (by rw [V0.out, V.out, if_pos h2]), hBB.drewN _⟩
      · go_wp2
        go_ret
        exact ⟨ret_int (by rw [V0.out, V.out, if_neg h2]), hBB.drewN _⟩

set_option maxRecDepth 100000 in
set_option maxHeartbeats 2000000 in
theorem same_any (A B : Option Addr) (c d : Nat) (xs ys : List (List UInt8)) (w : World) (hA : Rd w A xs) (hB : Rd w B ys) (hx : xs.length ≤ 1000000000) (_hy : ys.length ≤ 1000000000) :
    Calls Tryd.prog 19 #[.slice A xs.length c, .slice B ys.length d] w fun e w' => e = .returned (.bool (decide (xs = ys))) ∧ Below w.heap.size w w' := by
  have HA := Lib.hid hA; clear hA
  have HB := Lib.hid hB; clear hB
  by_cases hl : xs.length = ys.length
  · have V : Hid (xs.length = ys.length) := hl
    have h0 : ((xs.length : Int) != ys.length) = false := by simp; omega
    have h00 : (xs.length != ys.length) = false := by simp; omega
    have h01 : ys.length ≤ xs.length := by omega
    have h02 : xs.length ≤ ys.length := by omega
    clear hl
    go_enter Tryd.func19, Tryd.ntmps19
    go_wp2
    go_loopg [5] xs.length (fun gg iv wr => ∃ k n : Nat, k ≤ xs.length ∧ xs.length - k ≤ gg ∧ iv = .int .i64 k ∧ wr = w.drewN n ∧ Hid (xs.take k = ys.take k))
    case atStart => exact ⟨0, 0, by omega, by omega, rfl, rfl, rfl⟩
    case round =>
      obtain ⟨k, n, hk, hg, rfl, rfl, T⟩ := hrel
      by_cases hlt : k < xs.length
      · have hlt2 : k < ys.length := by omega
        obtain ⟨b1, o1, x, rfl, _, hxk, hcell⟩ := HA.out.at_ hlt
        have HX := Lib.hid hxk; clear hxk
        obtain ⟨b2, o2, y, rfl, _, hyk, hcell2⟩ := HB.out.at_ hlt2
        have HY := Lib.hid hyk; clear hyk
        by_cases hxy : x = y
        · subst hxy
          go_wp2_with fail
          go_quiet (fail)
          go_wp2_with fail
          go_roundg (xs.length - (k + 1))
          case measure => omega
          case rel => exact ⟨k + 1, _, by omega, by omega, by go_num, rfl, take_eq_succ T.out HX.out HY.out⟩
        · have e1 : (x == y) = false := by simpa using hxy
          have e2 : (x != y) = true := by simpa using hxy
          have NE := Lib.hid hxy; clear hxy
          go_wp2_with fail
          go_quiet (fail)
          go_wp2_with fail
          go_ret
          refine ⟨ret_bool ?_, ((Below.refl _ _).drewN _).drewN _⟩
          symm
          refine decide_eq_false fun e => NE.out ?_
          have h1 := HX.out
          rw [e, HY.out] at h1
          exact (Option.some.inj h1).symm
      · obtain rfl : k = xs.length := by omega
        have E : Hid (xs = ys) := by
          have := T.out
          rw [List.take_length] at this
          show xs = ys
          rw [this, V.out, List.take_length]
        go_wp2
        go_ret
        exact ⟨ret_bool (by rw [decide_eq_true E.out]), (Below.refl _ _).drewN _⟩
  · have h0 : ((xs.length : Int) != ys.length) = true := by simp; omega
    have h00 : (xs.length != ys.length) = true := by simp; omega
    have V : Hid (decide (xs = ys) = false) := decide_eq_false fun e => hl (by rw [e])
    clear hl
    go_enter Tryd.func19, Tryd.ntmps19
    go_wp2
    go_ret
    exact ⟨ret_bool V.out.symm, Below.refl _ _⟩

/-- At most 60 texts of at most 120 bytes. -/
def shortL (l : List (List UInt8)) : Bool := decide (l.length ≤ 60) && l.all fun x => decide (x.length ≤ 120)
theorem shortL_iff (l : List (List UInt8)) : shortL l = true ↔ l.length ≤ 60 ∧ ∀ x ∈ l, x.length ≤ 120 := by simp [shortL]

set_option maxRecDepth 100000 in
set_option maxHeartbeats 2000000 in
theorem short_any (A : Option Addr) (c : Nat) (xs : List (List UInt8)) (w : World) (hA : Rd w A xs) (hlm : xs.length ≤ maxLen) (hxm : ∀ x ∈ xs, x.length ≤ maxLen) :
    Calls Tryd.prog 14 #[.slice A xs.length c] w fun e w' => e = .returned (.bool (shortL xs)) ∧ w = w' := by
  have HA := Lib.hid hA; clear hA
  have HM := Lib.hid hxm; clear hxm
  unfold maxLen at hlm
  by_cases hl : xs.length ≤ 60
  · go_enter Tryd.func14, Tryd.ntmps14
    go_wp2
    go_loopg [3] xs.length (fun gg iv wr => ∃ k : Nat, k ≤ xs.length ∧ xs.length - k ≤ gg ∧ iv = .int .i64 k ∧ w = wr ∧ Hid (∀ j x, j < k → xs[j]? = some x → x.length ≤ 120))
    case atStart => exact ⟨0, by omega, by omega, rfl, rfl, fun j x hj => absurd hj (by omega)⟩
    case round =>
      obtain ⟨k, hk, hg, rfl, rfl, T⟩ := hrel
      by_cases hlt : k < xs.length
      · obtain ⟨b1, o1, x, rfl, _, hxk, hcell⟩ := HA.out.at_ hlt
        have hm := HM.out x (List.mem_of_getElem? hxk)
        unfold maxLen at hm
        have HX := Lib.hid hxk; clear hxk
        by_cases hq : 120 < x.length
        · go_wp2
          go_ret
          refine ⟨ret_bool ?_, rfl⟩
          symm
          unfold shortL
          rw [Bool.and_eq_false_iff]
          right
          exact List.all_eq_false.2 ⟨x, List.mem_of_getElem? HX.out, by simp; omega⟩
        · go_wp2
          go_roundg (xs.length - (k + 1))
          case measure => omega
          case rel =>
            refine ⟨k + 1, by omega, by omega, by go_num, rfl, fun j y hj hy => ?_⟩
            rcases Nat.lt_succ_iff_lt_or_eq.1 hj with h | h
            · exact T.out j y h hy
            · subst h; rw [HX.out] at hy; cases hy; omega
      · obtain rfl : k = xs.length := by omega
        go_wp2
        go_ret
        refine ⟨ret_bool ?_, rfl⟩
        symm
        rw [shortL_iff]
        refine ⟨hl, fun x hx => ?_⟩
        obtain ⟨j, hj, rfl⟩ := List.getElem_of_mem hx
        exact T.out j _ hj (List.getElem?_eq_getElem hj)
  · have V : Hid (shortL xs = false) := by (show shortL xs = false); unfold shortL; rw [decide_eq_false hl]; rfl
    go_enter Tryd.func14, Tryd.ntmps14
    go_wp2
    go_ret
    exact ⟨ret_bool V.out.symm, rfl⟩
end Go.Proofs.YtcagooijkecmoaaDoor
