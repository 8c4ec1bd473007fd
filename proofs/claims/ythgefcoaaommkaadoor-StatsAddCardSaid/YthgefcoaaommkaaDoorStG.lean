/- Contracts: strings.Join, slices.Contains at texts; checkList, FormatList; the reference's CheckList. -/
import Derived.Test.YthgefcoaaommkaaDoorGnCheck
import Derived.Test.YthgefcoaaommkaaDoorGnRef2
namespace Go.Proofs.YthgefcoaaommkaaDoor
open Go.RowKit Go.Gn


set_option maxRecDepth 100000 in
set_option maxHeartbeats 2000000 in
theorem refCheck_any (s : List UInt8) (w : World) (hl : s.length ≤ 100000000) : Calls Tryd.prog 42 #[enS s] w fun e w' => e = .returned (.int .i64 (check s)) ∧ Below w.heap.size w w' := by
  by_cases h80 : 80 < s.length
  · have V : Hid (check s = 5) := by (show check s = 5); unfold check; rw [if_pos h80]
    go_enter Tryd.func42, Tryd.ntmps42
    go_wp2
    go_ret
    exact ⟨ret_int (by rw [V.out]; rfl), Below.refl _ _⟩
  · have hp := refParts_any s 46 w hl
    have hn := parts_length_le 46 s
    have hx : Hid (∀ x ∈ parts 46 s, x.length ≤ 1000000000) := fun x hx => by have := parts_le 46 s x hx; omega
    have V : Hid (check s = if (parts 46 s).any (fun p => !comp p) then 12 else if 10 < (parts 46 s).length then 9 else 0) := by (show check s = _); unfold check; rw [if_neg h80]
    have hn : (parts 46 s).length ≤ 1000000000 := by omega
    generalize parts 46 s = ps at *
    go_enter Tryd.func42, Tryd.ntmps42
    go_wp2_with fail
    refine hp.mono ?_; rintro e w1 ⟨A, c, rfl, hr, hc, hb⟩
    have HR := Lib.hid hr; clear hr
    go_wp2_with fail
    go_loopg [4] ps.length (fun gg iv wr => ∃ k : Nat, k ≤ ps.length ∧ ps.length - k ≤ gg ∧ iv = .int .i64 k ∧ w1 = wr ∧ Hid ((ps.take k).all comp = true))
    case atStart => exact ⟨0, by omega, by omega, rfl, rfl, rfl⟩
    case round =>
      obtain ⟨k, hk, hg, rfl, rfl, A0⟩ := hrel
      by_cases hlt : k < ps.length
      · obtain ⟨b, o, x, rfl, _, hxk, hcell⟩ := HR.out.at_ hlt
        have hsn := take_all_snoc comp ps k [] hlt
        have hgx : ps.getD k [] = x := by rw [List.getD_eq_getElem?_getD, hxk]; rfl
        rw [hgx] at hsn
        have HX := Lib.hid hxk; clear hxk
        have HS := Lib.hid hsn; clear hsn hgx
        have hcomp := refComponent_any x w1 (hx.out x (List.mem_of_getElem? HX.out))
        cases hq : comp x with
        | true =>
          rw [hq] at hcomp
          have HQ := Lib.hid hq; clear hq
          go_wp2_with (go_at_call 51; refine hcomp.mono ?_; rintro e w2 ⟨rfl, rfl⟩)
          go_roundg (ps.length - (k + 1))
          case measure => omega
          case rel => exact ⟨k + 1, by omega, by omega, by go_num, rfl, (show (ps.take (k + 1)).all comp = true by rw [HS.out, A0.out, HQ.out]; rfl)⟩
        | false =>
          rw [hq] at hcomp
          have HQ := Lib.hid hq; clear hq
          go_wp2_with (go_at_call 51; refine hcomp.mono ?_; rintro e w2 ⟨rfl, rfl⟩)
          go_ret
          refine ⟨ret_int ?_, hb⟩
          rw [V.out, if_pos]
          · rfl
          · exact List.any_eq_true.2 ⟨x, List.mem_of_getElem? HX.out, by rw [HQ.out]; rfl⟩
      · obtain rfl : k = ps.length := by omega
        rw [List.take_length] at A0
        have hany : ps.any (fun p => !comp p) = false := by
          rw [List.any_eq_false]
          intro x hx
          rw [List.all_eq_true.1 A0.out x hx]; simp
        have HA := Lib.hid hany; clear hany
        by_cases h10 : 10 < ps.length
        · go_wp2
          go_ret
          exact ⟨ret_int (by rw [V.out, HA.out, if_neg Bool.false_ne_true, if_pos h10]; rfl), hb⟩
        · go_wp2
          go_ret
          exact ⟨ret_int (by rw [V.out, HA.out, if_neg Bool.false_ne_true, if_neg h10]; rfl), hb⟩

/-- The text grows by a separator, if it is not the first, and the next part. -/
theorem text_take (c : UInt8) (xs : List (List UInt8)) (k : Nat) (x : List UInt8) (h : xs[k]? = some x) : text c (xs.take (k + 1)) = (if 0 < k then text c (xs.take k) ++ [c] else text c (xs.take k)) ++ x := by
  obtain ⟨hl, hx⟩ := List.getElem?_eq_some_iff.1 h
  rw [List.take_succ_eq_append_getElem hl, hx]
  by_cases hk : 0 < k
  · rw [if_pos hk, text_snoc]
    · simp
    · intro e; have := congrArg List.length e; simp only [List.length_take, List.length_nil] at this; omega
  · rw [if_neg hk]
    obtain rfl : k = 0 := by omega
    rw [List.take_zero, List.nil_append, text_one]; rfl
theorem text_len_le (c : UInt8) (xs : List (List UInt8)) (k : Nat) (M : Nat) (h : (text c xs).length ≤ M) : (text c (xs.take k)).length ≤ M := Nat.le_trans (text_length_take c xs k) h
theorem check_ok {s : List UInt8} (h : check s = 0) (w : World) (hE : Env w) (hl : s.length ≤ 1000000000) : Calls Tryd.prog 52 #[enS s] w fun e w' => e = .returned (.int .i64 0) ∧ Below w.heap.size w w' := by
  have := check_any s w hE hl
  rw [h] at this
  exact this
theorem refCheck_ok {s : List UInt8} (h : check s = 0) (w : World) (hl : s.length ≤ 100000000) : Calls Tryd.prog 42 #[enS s] w fun e w' => e = .returned (.int .i64 0) ∧ Below w.heap.size w w' := by
  have := refCheck_any s w hl
  rw [h] at this
  exact this
theorem join_any (A : Option Addr) (c : Nat) (xs : List (List UInt8)) (s : UInt8) (w : World) (hr : Rd w A xs) (hn : xs.length ≤ 1000000000) (hc : xs.length ≤ c) (hl : (text s xs).length ≤ 1000000000) :
    Calls Tryd.prog 44 #[.slice A xs.length c, .string ⟨#[s]⟩] w fun e w' => e = .returned (enS (text s xs)) ∧ Below w.heap.size w w' := by
  by_cases h0 : xs = []
  · subst h0
    exact (Tryd.strings_Join_none A c ⟨#[s]⟩ w).mono fun e w' ⟨h1, h2⟩ => ⟨h1, h2 ▸ Below.refl _ _⟩
  · obtain ⟨b, o, rfl, hb, hcell⟩ := hr (List.length_pos_iff.2 h0)
    have e1 : (xs.map fun x => (⟨x.toArray⟩ : ByteArray)).map (·.data.toList) = xs := by
      rw [List.map_map]; exact (List.map_congr_left fun x _ => rfl).trans (List.map_id xs)
    have h := Tryd.strings_Join b o c (xs.map fun x => (⟨x.toArray⟩ : ByteArray)) ⟨#[s]⟩ w (fun j x hx => by
      rw [List.getElem?_map] at hx
      cases hj : xs[j]? with
      | none => rw [hj] at hx; cases hx
      | some y => rw [hj] at hx; cases hx; exact hcell j y hj) hb (by simp; omega) (by simpa using hc) (by rw [e1]; exact Nat.le_trans hl (by decide))
    rw [e1, List.length_map] at h
    exact h

/-- The first error of the names of a list behind others. -/
def clGo (seen : List (List UInt8)) : List (List UInt8) → Nat
  | [] => 0
  | x :: r => if check x ≠ 0 then check x else if x ∈ seen then 7 else clGo (seen ++ [x]) r
/-- The first error of a list of names. -/
def checkL (l : List (List UInt8)) : Nat := if 20 < l.length then 9 else clGo [] l
theorem clGo_zero : ∀ (l seen : List (List UInt8)), clGo seen l = 0 → ∀ x ∈ l, check x = 0
  | [], _, _, x, hx => by simp at hx
  | y :: r, seen, h, x, hx => by
    unfold clGo at h
    split at h
    · rename_i hc; exact absurd h hc
    · rename_i hc
      split at h
      · cases h
      · simp at hx
        rcases hx with rfl | hx
        · omega
        · exact clGo_zero r _ h x hx
theorem checkL_zero {l : List (List UInt8)} (h : checkL l = 0) : l.length ≤ 20 ∧ ∀ x ∈ l, check x = 0 := by
  unfold checkL at h
  split at h
  · cases h
  · exact ⟨by omega, clGo_zero l [] h⟩
theorem clGo_at {l : List (List UInt8)} {k : Nat} {x : List UInt8} (h : l[k]? = some x) : clGo (l.take k) (l.drop k) = if check x ≠ 0 then check x else if x ∈ l.take k then 7 else clGo (l.take (k + 1)) (l.drop (k + 1)) := by
  obtain ⟨hl, hx⟩ := List.getElem?_eq_some_iff.1 h
  rw [List.drop_eq_getElem_cons hl, hx, clGo, List.take_succ_eq_append_getElem hl, hx]
theorem clGo_rng : ∀ (l seen : List (List UInt8)), clGo seen l ≤ 12
  | [], _ => by simp [clGo]
  | x :: r, seen => by
    have := clGo_rng r (seen ++ [x])
    unfold clGo
    have := check_cases x
    split
    · omega
    · split <;> omega
theorem text_len_bound (c : UInt8) (M : Nat) : ∀ (xs : List (List UInt8)), (∀ x ∈ xs, x.length ≤ M) → (text c xs).length ≤ xs.length * (M + 1)
  | [], _ => by simp [text_nil]
  | [x], h => by rw [text_one]; have := h x (by simp); simp; omega
  | x :: y :: r, h => by
    have ih := text_len_bound c M (y :: r) (fun z hz => h z (by simp [hz]))
    have := h x (by simp)
    rw [text_cons]
    simp only [List.length_append, List.length_cons, Nat.add_mul] at ih ⊢
    omega
theorem text_len_checked {l : List (List UInt8)} (h : checkL l = 0) : (text 44 l).length ≤ 1620 := by
  have h' := checkL_zero h
  have := text_len_bound 44 80 l (fun x hx => ((check_zero x).1 (h'.2 x hx)).1)
  have := h'.1
  omega

theorem containsS_mem (xs : List (List UInt8)) (x : List UInt8) : Lib.containsS (xs.map fun x => (⟨x.toArray⟩ : ByteArray)) ⟨x.toArray⟩ = decide (x ∈ xs) := by
  rw [Bool.eq_iff_iff, Lib.containsS_iff, decide_eq_true_eq, List.mem_map]
  constructor
  · rintro ⟨y, hy, e⟩
    have : y = x := by
      have := congrArg (fun b : ByteArray => b.data.toList) e
      simpa using this
    rw [← this]; exact hy
  · intro h; exact ⟨x, h, rfl⟩
theorem contains_any (A : Option Addr) (c : Nat) (xs : List (List UInt8)) (x : List UInt8) (w : World) (hr : Rd w A xs) (hn : xs.length ≤ 1000000000) :
    Calls Tryd.prog 35 #[.slice A xs.length c, enS x] w fun e w' => e = .returned (.bool (decide (x ∈ xs))) ∧ w' = w := by
  by_cases h0 : xs = []
  · subst h0
    refine (Tryd.slices_Contains_string_empty A c ⟨x.toArray⟩ w).mono fun e w' ⟨h1, h2⟩ => ⟨?_, h2⟩
    rw [h1]; simp
  · obtain ⟨b, o, rfl, hb, hcell⟩ := hr (List.length_pos_iff.2 h0)
    have h := Tryd.slices_Contains_string b o xs.length c (xs.map fun x => (⟨x.toArray⟩ : ByteArray)) ⟨x.toArray⟩ w (by simp) (by omega) (fun j hj => by
      simp at hj
      have := hcell j _ (List.getElem?_eq_getElem hj)
      rw [this]
      simp [hj])
    refine h.mono fun e w' ⟨h1, h2⟩ => ⟨?_, h2⟩
    rw [h1]
    refine congrArg (fun b => Ending.returned (.bool b)) ?_
    rw [List.take_of_length_le (by simp), containsS_mem]

set_option maxRecDepth 100000 in
set_option maxHeartbeats 4000000 in
theorem checkList_any (A : Option Addr) (c : Nat) (xs : List (List UInt8)) (w : World) (hE : Env w) (hr : Rd w A xs) (hc : xs.length ≤ c) (hn : xs.length ≤ 1000000000) (hl : ∀ x ∈ xs, x.length ≤ 1000000000) :
    Calls Tryd.prog 43 #[.slice A xs.length c] w fun e w' => e = .returned (.int .i64 (checkL xs)) ∧ Below w.heap.size w w' := by
  have HR := Lib.hid hr; clear hr
  have HL := Lib.hid hl; clear hl
  by_cases h20 : 20 < xs.length
  · have V : Hid (checkL xs = 9) := by (show checkL xs = 9); unfold checkL; rw [if_pos h20]
    go_enter Tryd.func43, Tryd.ntmps43
    go_wp2
    go_ret
    exact ⟨ret_int (by rw [V.out]; rfl), Below.refl _ _⟩
  · have V : Hid (checkL xs = clGo [] xs) := by (show checkL xs = _); unfold checkL; rw [if_neg h20]
    go_enter Tryd.func43, Tryd.ntmps43
    go_wp2
    go_loopg [3, 4, 5, 11] xs.length (fun gg _ _ _ iv wr => ∃ k : Nat, k ≤ xs.length ∧ xs.length - k ≤ gg ∧ iv = .int .i64 k ∧ Below w.heap.size w wr ∧ Hid (checkL xs = clGo (xs.take k) (xs.drop k)))
    case atStart => exact ⟨0, by omega, by omega, rfl, Below.refl _ _, V⟩
    case round =>
      obtain ⟨k, hk, hg, rfl, hB, T⟩ := hrel
      by_cases hlt : k < xs.length
      · obtain ⟨b, o, x, rfl, _, hxk, hcell⟩ := (HR.out.below hB).at_ hlt
        have hst := clGo_at hxk
        have HX := Lib.hid hxk; clear hxk
        have hlx := HL.out x (List.mem_of_getElem? HX.out)
        by_cases hz : check x = 0
        · rw [if_neg (by omega)] at hst
          have h1 := check_ok hz wr (hE.below hB) hlx
          have htl : (xs.take k).length = k := by rw [List.length_take]; omega
          have HC := Lib.hid (fun W (hb : Below wr.heap.size wr W) => contains_any (some ⟨b, o, none⟩) c (xs.take k) x W (((HR.out.below hB).below hb).take k) (by omega))
          rw [htl] at HC
          clear hz htl
          have hkc : (k : Int) ≤ c := by omega
          have hkn : k ≤ c := by omega
          by_cases hm : x ∈ xs.take k
          · rw [if_pos hm] at hst
            rw [decide_eq_true hm] at HC
            have HS := Lib.hid hst; clear hst hm
            go_wp2_with fail
            refine h1.mono ?_; rintro e w2 ⟨rfl, b2⟩
            go_wp2_with fail
            refine (HC.out w2 b2).mono ?_; rintro e w3 ⟨rfl, rfl⟩
            go_wp2_with fail
            go_ret
            exact ⟨ret_int (by rw [T.out, HS.out]; rfl), hB.tr b2⟩
          · rw [if_neg hm] at hst
            rw [decide_eq_false hm] at HC
            have HS := Lib.hid hst; clear hst hm
            go_wp2_with fail
            refine h1.mono ?_; rintro e w2 ⟨rfl, b2⟩
            go_wp2_with fail
            refine (HC.out w2 b2).mono ?_; rintro e w3 ⟨rfl, rfl⟩
            go_wp2_with fail
            go_roundg (xs.length - (k + 1))
            case measure => omega
            case rel => exact ⟨k + 1, by omega, by omega, by go_num, hB.tr b2, (T.out.trans HS.out)⟩
        · rw [if_pos (by omega)] at hst
          have h1 := check_any x wr (hE.below hB) hlx
          have hne : ((check x : Int) != 0) = true := by simp; omega
          have HS := Lib.hid hst; clear hst hz
          generalize check x = r at *
          go_wp2_with fail
          refine h1.mono ?_; rintro e w2 ⟨rfl, b2⟩
          go_wp2_with fail
          go_ret
          exact ⟨ret_int (by rw [T.out, HS.out]), hB.tr b2⟩
      · obtain rfl : k = xs.length := by omega
        have E : Hid (checkL xs = 0) := by
          have := T.out
          rw [List.drop_length] at this
          exact this
        go_wp2_with fail
        go_ret
        exact ⟨ret_int (by rw [E.out]; rfl), hB⟩

set_option maxRecDepth 100000 in
set_option maxHeartbeats 1000000 in
theorem formatList_any (A : Option Addr) (c : Nat) (xs : List (List UInt8)) (w : World) (hE : Env w) (hr : Rd w A xs) (hc : xs.length ≤ c) (hn : xs.length ≤ 1000000000) (hl : ∀ x ∈ xs, x.length ≤ 1000000000) :
    Calls Tryd.prog 33 #[.slice A xs.length c] w fun e w' => e = .returned (.tuple #[enS (if xs.length = 0 ∨ checkL xs ≠ 0 then [] else text 44 xs), .int .i64 (if xs.length = 0 then 4 else checkL xs : Nat)]) ∧ Below w.heap.size w w' := by
  by_cases h0 : xs.length = 0
  · rw [if_pos (.inl h0), if_pos h0]
    go_enter Tryd.func33, Tryd.ntmps33
    go_wp2
    go_ret2
    exact ⟨rfl, Below.refl _ _⟩
  · have h1 := checkList_any A c xs w hE hr hc hn hl
    rw [if_neg h0]
    have h00 : ((xs.length : Int) == 0) = false := by simp; intro e; exact h0 (by rw [e]; rfl)
    have h02 : (xs.length == 0) = false := by simp; intro e; exact h0 (by rw [e]; rfl)
    by_cases hz : checkL xs = 0
    · rw [if_neg (by omega), hz]
      rw [hz] at h1
      have hj := Lib.hid (fun W (hb : Below w.heap.size w W) => join_any A c xs 44 W (hr.below hb) hn hc (by have := text_len_checked hz; omega))
      clear hr hl hz h0
      go_enter Tryd.func33, Tryd.ntmps33
      go_wp2_with fail
      refine h1.mono ?_; rintro e w1 ⟨rfl, b1⟩
      go_wp2_with fail
      refine (hj.out w1 b1).mono ?_; rintro e w2 ⟨rfl, b2⟩
      go_wp2_with fail
      go_ret2
      exact ⟨rfl, b1.tr b2⟩
    · rw [if_pos (.inr hz)]
      have hne : ((checkL xs : Int) != 0) = true := by simp; omega
      clear hr hl hz h0
      generalize checkL xs = r at *
      go_enter Tryd.func33, Tryd.ntmps33
      go_wp2_with fail
      refine h1.mono ?_; rintro e w1 ⟨rfl, b1⟩
      go_wp2_with fail
      go_ret2
      exact ⟨rfl, b1⟩


set_option maxRecDepth 100000 in
set_option maxHeartbeats 4000000 in
theorem refCheckList_any (A : Option Addr) (c : Nat) (xs : List (List UInt8)) (w : World) (hr : Rd w A xs) (hn : xs.length ≤ 1000000000) (hl : ∀ x ∈ xs, x.length ≤ 100000000) :
    Calls Tryd.prog 31 #[.slice A xs.length c] w fun e w' => e = .returned (.int .i64 (checkL xs)) ∧ Below w.heap.size w w' := by
  have HR := Lib.hid hr; clear hr
  have HL := Lib.hid hl; clear hl
  by_cases h20 : 20 < xs.length
  · have V : Hid (checkL xs = 9) := by (show checkL xs = 9); unfold checkL; rw [if_pos h20]
    go_enter Tryd.func31, Tryd.ntmps31
    go_wp2
    go_ret
    exact ⟨ret_int (by rw [V.out]; rfl), Below.refl _ _⟩
  · have V : Hid (checkL xs = clGo [] xs) := by (show checkL xs = _); unfold checkL; rw [if_neg h20]
    go_enter Tryd.func31, Tryd.ntmps31
    go_wp2
    go_loopg [3, 4, 5] xs.length (fun gg iv _ _ wr => ∃ k : Nat, k ≤ xs.length ∧ xs.length - k ≤ gg ∧ iv = .int .i64 k ∧ Below w.heap.size w wr ∧ Hid (checkL xs = clGo (xs.take k) (xs.drop k)))
    case atStart => exact ⟨0, by omega, by omega, rfl, Below.refl _ _, V⟩
    case round =>
      obtain ⟨k, hk, hg, rfl, hB, T⟩ := hrel
      by_cases hlt : k < xs.length
      · obtain ⟨b, o, x, rfl, _, hxk, hcell⟩ := (HR.out.below hB).at_ hlt
        have hst := clGo_at hxk
        have HX := Lib.hid hxk; clear hxk
        have hlx := HL.out x (List.mem_of_getElem? HX.out)
        by_cases hz : check x = 0
        · rw [if_neg (by omega)] at hst
          have h1 := refCheck_ok hz wr hlx
          clear hz
          have HS := Lib.hid hst; clear hst
          go_wp2_with fail
          refine h1.mono ?_; rintro e w2 ⟨rfl, b2⟩
          have hB2 := hB.tr b2
          clear b2 hB hcell
          have hcell : w2.cell? ⟨b, o + k, none⟩ = some (enS x) := by
            obtain ⟨b', o', x', e1, _, e2, e3⟩ := (HR.out.below hB2).at_ hlt
            cases e1
            rw [HX.out] at e2; cases e2
            exact e3
          go_wp2_with fail
          go_loopg [5] k (fun g2 jv wq => ∃ j n : Nat, j ≤ k ∧ k - j ≤ g2 ∧ jv = .int .i64 j ∧ wq = w2.drewN n ∧ Hid (∀ i y, i < j → xs[i]? = some y → y ≠ x))
          case atStart => exact ⟨0, 0, by omega, by omega, rfl, rfl, fun i y hi => absurd hi (by omega)⟩
          case round =>
            obtain ⟨j, n, hj, hg2, rfl, rfl, T2⟩ := hrel
            by_cases hjk : j < k
            · obtain ⟨b', o', y, e1, _, hyj, hcell2⟩ := (HR.out.below hB2).at_ (show j < xs.length by omega)
              cases e1
              have HY := Lib.hid hyj; clear hyj
              have hjx : j < xs.length := by omega
              by_cases hyx : y = x
              · subst hyx
                have HM : Hid (y ∈ xs.take k) := by
                  show y ∈ xs.take k
                  rw [List.mem_take_iff_getElem]
                  obtain ⟨l1, e1⟩ := List.getElem?_eq_some_iff.1 HY.out
                  exact ⟨j, by omega, e1⟩
                go_wp2_with fail
                go_quiet (fail)
                go_wp2_with fail
                go_ret
                exact ⟨ret_int (by rw [T.out, HS.out, if_pos HM.out]; rfl), (hB2.drewN _).drewN _⟩
              · have e1 : (y == x) = false := by simpa using hyx
                have NE := Lib.hid hyx; clear hyx
                go_wp2_with fail
                go_quiet (fail)
                go_wp2_with fail
                go_roundg (k - (j + 1))
                case measure => omega
                case rel =>
                  refine ⟨j + 1, _, by omega, by omega, by go_num, rfl, fun i z hi hz => ?_⟩
                  rcases Nat.lt_succ_iff_lt_or_eq.1 hi with h | h
                  · exact T2.out i z h hz
                  · subst h; rw [HY.out] at hz; cases hz; exact NE.out
            · obtain rfl : j = k := by omega
              have HM : Hid (x ∉ xs.take j) := fun hm => by
                obtain ⟨i, hi, e⟩ := List.getElem_of_mem hm
                rw [List.getElem_take] at e
                rw [List.length_take] at hi
                exact T2.out i x (by omega) (by rw [List.getElem?_eq_getElem (by omega), e]) rfl
              go_wp2_with fail
              go_roundg (xs.length - (j + 1))
              case measure => omega
              case rel => exact ⟨j + 1, by omega, by omega, by go_num, hB2.drewN _, T.out.trans (HS.out.trans (if_neg HM.out))⟩
        · rw [if_pos (by omega)] at hst
          have h1 := refCheck_any x wr hlx
          have hne : ((check x : Int) != 0) = true := by simp; omega
          have HS := Lib.hid hst; clear hst hz
          generalize check x = r at *
          go_wp2_with fail
          refine h1.mono ?_; rintro e w2 ⟨rfl, b2⟩
          go_wp2_with fail
          go_ret
          exact ⟨ret_int (by rw [T.out, HS.out]), hB.tr b2⟩
      · obtain rfl : k = xs.length := by omega
        have E : Hid (checkL xs = 0) := by
          have := T.out
          rw [List.drop_length] at this
          exact this
        go_wp2_with fail
        go_ret
        exact ⟨ret_int (by rw [E.out]; rfl), hB⟩



end Go.Proofs.YthgefcoaaommkaaDoor
