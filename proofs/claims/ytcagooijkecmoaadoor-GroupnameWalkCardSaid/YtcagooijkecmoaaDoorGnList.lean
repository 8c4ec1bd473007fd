/- Contracts: slices.Contains at texts; checkList, ParseList, FormatList; the reference's CheckList; Join of the code and of the reference; Common. -/
import Derived.Test.YtcagooijkecmoaaDoorGnCommon
namespace Go.Proofs.YtcagooijkecmoaaDoor
open Go.RowKit Go.Gn

/-- The first error of the names of a list behind others. -/
def clGo (seen : List (List UInt8)) : List (List UInt8) → Nat
  | [] => 0
  | x :: r => if check x ≠ 0 then check x else if x ∈ seen then 7 else clGo (seen ++ [x]) r
/-- The first error of a list of names. -/
def checkL (l : List (List UInt8)) : Nat := if 20 < l.length then 9 else clGo [] l
theorem clGo_zero : ∀ (l seen : List (List UInt8)), clGo seen l = 0 → ∀ x ∈ l, check x = 0
  | [], _, _, x, hx => by simp at hx
  | y :: r, seen, h, x, hx => by
    unfold clGo at h
    split at h
    · rename_i hc; exact absurd h hc
    · rename_i hc
      split at h
      · cases h
      · simp at hx
        rcases hx with rfl | hx
        · omega
        · exact clGo_zero r _ h x hx
theorem checkL_zero {l : List (List UInt8)} (h : checkL l = 0) : l.length ≤ 20 ∧ ∀ x ∈ l, check x = 0 := by
  unfold checkL at h
  split at h
  · cases h
  · exact ⟨by omega, clGo_zero l [] h⟩
theorem clGo_at {l : List (List UInt8)} {k : Nat} {x : List UInt8} (h : l[k]? = some x) : clGo (l.take k) (l.drop k) = if check x ≠ 0 then check x else if x ∈ l.take k then 7 else clGo (l.take (k + 1)) (l.drop (k + 1)) := by
  obtain ⟨hl, hx⟩ := List.getElem?_eq_some_iff.1 h
  rw [List.drop_eq_getElem_cons hl, hx, clGo, List.take_succ_eq_append_getElem hl, hx]
theorem clGo_rng : ∀ (l seen : List (List UInt8)), clGo seen l ≤ 12
  | [], _ => by simp [clGo]
  | x :: r, seen => by
    have := clGo_rng r (seen ++ [x])
    unfold clGo
    have := check_cases x
    split
    · omega
    · split <;> omega
theorem text_len_bound (c : UInt8) (M : Nat) : ∀ (xs : List (List UInt8)), (∀ x ∈ xs, x.length ≤ M) → (text c xs).length ≤ xs.length * (M + 1)
  | [], _ => by simp [text_nil]
  | [x], h => by rw [text_one]; have := h x (by simp); simp; omega
  | x :: y :: r, h => by
    have ih := text_len_bound c M (y :: r) (fun z hz => h z (by simp [hz]))
    have := h x (by simp)
    rw [text_cons]
    simp only [List.length_append, List.length_cons, Nat.add_mul] at ih ⊢
    omega
theorem text_len_checked {l : List (List UInt8)} (h : checkL l = 0) : (text 44 l).length ≤ 1620 := by
  have h' := checkL_zero h
  have := text_len_bound 44 80 l (fun x hx => ((check_zero x).1 (h'.2 x hx)).1)
  have := h'.1
  omega

theorem containsS_mem (xs : List (List UInt8)) (x : List UInt8) : Lib.containsS (xs.map fun x => (⟨x.toArray⟩ : ByteArray)) ⟨x.toArray⟩ = decide (x ∈ xs) := by
  rw [Bool.eq_iff_iff, Lib.containsS_iff, decide_eq_true_eq, List.mem_map]
  constructor
  · rintro ⟨y, hy, e⟩
    have : y = x := by
      have := congrArg (fun b : ByteArray => b.data.toList) e
      simpa using this
    rw [← this]; exact hy
  · intro h; exact ⟨x, h, rfl⟩
theorem contains_any (A : Option Addr) (c : Nat) (xs : List (List UInt8)) (x : List UInt8) (w : World) (hr : Rd w A xs) (hn : xs.length ≤ 1000000000) :
    Calls Tryd.prog 78 #[.slice A xs.length c, enS x] w fun e w' => e = .returned (.bool (decide (x ∈ xs))) ∧ w' = w := by
  by_cases h0 : xs = []
  · subst h0
    refine (Tryd.slices_Contains_string_empty A c ⟨x.toArray⟩ w).mono fun e w' ⟨h1, h2⟩ => ⟨?_, h2⟩
    rw [h1]; simp
  · obtain ⟨b, o, rfl, hb, hcell⟩ := hr (List.length_pos_iff.2 h0)
    have h := Tryd.slices_Contains_string b o xs.length c (xs.map fun x => (⟨x.toArray⟩ : ByteArray)) ⟨x.toArray⟩ w (by simp) (by omega) (fun j hj => by
      simp at hj
      have := hcell j _ (List.getElem?_eq_getElem hj)
      rw [this]
      simp [hj])
    refine h.mono fun e w' ⟨h1, h2⟩ => ⟨?_, h2⟩
    rw [h1]
    refine congrArg (fun b => Ending.returned (.bool b)) ?_
    rw [List.take_of_length_le (by simp), containsS_mem]

set_option maxRecDepth 100000 in
set_option maxHeartbeats 4000000 in
theorem checkList_any (A : Option Addr) (c : Nat) (xs : List (List UInt8)) (w : World) (hE : Env w) (hr : Rd w A xs) (hc : xs.length ≤ c) (hn : xs.length ≤ 1000000000) (hl : ∀ x ∈ xs, x.length ≤ 1000000000) :
    Calls Tryd.prog 60 #[.slice A xs.length c] w fun e w' => e = .returned (.int .i64 (checkL xs)) ∧ Below w.heap.size w w' := by
  have HR := Lib.hid hr; clear hr
  have HL := Lib.hid hl; clear hl
  by_cases h20 : 20 < xs.length
  · have V : Hid (checkL xs = 9) := by (show checkL xs = 9); unfold checkL; rw [if_pos h20]
    go_enter Tryd.func60, Tryd.ntmps60
    go_wp2
    go_ret
    exact ⟨ret_int (by rw [V.out]; rfl), Below.refl _ _⟩
  · have V : Hid (checkL xs = clGo [] xs) := by (show checkL xs = _); unfold checkL; rw [if_neg h20]
    go_enter Tryd.func60, Tryd.ntmps60
    go_wp2
    go_loopg [3, 4, 5, 11] xs.length (fun gg _ _ _ iv wr => ∃ k : Nat, k ≤ xs.length ∧ xs.length - k ≤ gg ∧ iv = .int .i64 k ∧ Below w.heap.size w wr ∧ Hid (checkL xs = clGo (xs.take k) (xs.drop k)))
    case atStart => exact ⟨0, by omega, by omega, rfl, Below.refl _ _, V⟩
    case round =>
      obtain ⟨k, hk, hg, rfl, hB, T⟩ := hrel
      by_cases hlt : k < xs.length
      · obtain ⟨b, o, x, rfl, _, hxk, hcell⟩ := (HR.out.below hB).at_ hlt
        have hst := clGo_at hxk
        have HX := Lib.hid hxk; clear hxk
        have hlx := HL.out x (List.mem_of_getElem? HX.out)
        by_cases hz : check x = 0
        · rw [if_neg (by omega)] at hst
          have h1 := check_ok hz wr (hE.below hB) hlx
          have htl : (xs.take k).length = k := by rw [List.length_take]; omega
          have HC := Lib.hid (fun W (hb : Below wr.heap.size wr W) => contains_any (some ⟨b, o, none⟩) c (xs.take k) x W (((HR.out.below hB).below hb).take k) (by omega))
          rw [htl] at HC
          clear hz htl
          have hkc : (k : Int) ≤ c := by omega
          have hkn : k ≤ c := by omega
          by_cases hm : x ∈ xs.take k
          · rw [if_pos hm] at hst
            rw [decide_eq_true hm] at HC
            have HS := Lib.hid hst; clear hst hm
            go_wp2_with fail
            refine h1.mono ?_; rintro e w2 ⟨rfl, b2⟩
            go_wp2_with fail
            refine (HC.out w2 b2).mono ?_; rintro e w3 ⟨rfl, rfl⟩
            go_wp2_with fail
            go_ret
            exact ⟨ret_int (by rw [T.out, HS.out]; rfl), hB.tr b2⟩
          · rw [if_neg hm] at hst
            rw [decide_eq_false hm] at HC
            have HS := Lib.hid hst; clear hst hm
            go_wp2_with fail
            refine h1.mono ?_; rintro e w2 ⟨rfl, b2⟩
            go_wp2_with fail
            refine (HC.out w2 b2).mono ?_; rintro e w3 ⟨rfl, rfl⟩
            go_wp2_with fail
            go_roundg (xs.length - (k + 1))
            case measure => omega
            case rel => exact ⟨k + 1, by omega, by omega, by go_num, hB.tr b2, (T.out.trans HS.out)⟩
        · rw [if_pos (by omega)] at hst
          have h1 := check_any x wr (hE.below hB) hlx
          have hne : ((check x : Int) != 0) = true := by simp; omega
          have HS := Lib.hid hst; clear hst hz
          generalize check x = r at *
          go_wp2_with fail
          refine h1.mono ?_; rintro e w2 ⟨rfl, b2⟩
          go_wp2_with fail
          go_ret
          exact ⟨ret_int (by rw [T.out, HS.out]), hB.tr b2⟩
      · obtain rfl : k = xs.length := by omega
        have E : Hid (checkL xs = 0) := by
          have := T.out
          rw [List.drop_length] at this
          exact this
        go_wp2_with fail
        go_ret
        exact ⟨ret_int (by rw [E.out]; rfl), hB⟩

set_option maxRecDepth 100000 in
set_option maxHeartbeats 1000000 in
theorem formatList_any (A : Option Addr) (c : Nat) (xs : List (List UInt8)) (w : World) (hE : Env w) (hr : Rd w A xs) (hc : xs.length ≤ c) (hn : xs.length ≤ 1000000000) (hl : ∀ x ∈ xs, x.length ≤ 1000000000) :
    Calls Tryd.prog 39 #[.slice A xs.length c] w fun e w' => e = .returned (.tuple #[enS (if xs.length = 0 ∨ checkL xs ≠ 0 then [] else text 44 xs), .int .i64 (if xs.length = 0 then 4 else checkL xs : Nat)]) ∧ Below w.heap.size w w' := by
  by_cases h0 : xs.length = 0
  · rw [if_pos (.inl h0), if_pos h0]
    go_enter Tryd.func39, Tryd.ntmps39
    go_wp2
    go_ret2
    exact ⟨rfl, Below.refl _ _⟩
  · have h1 := checkList_any A c xs w hE hr hc hn hl
    rw [if_neg h0]
    have h00 : ((xs.length : Int) == 0) = false := by simp; intro e; exact h0 (by rw [e]; rfl)
    have h02 : (xs.length == 0) = false := by simp; intro e; exact h0 (by rw [e]; rfl)
    by_cases hz : checkL xs = 0
    · rw [if_neg (by omega), hz]
      rw [hz] at h1
      have hj := Lib.hid (fun W (hb : Below w.heap.size w W) => join_any A c xs 44 W (hr.below hb) hn hc (by have := text_len_checked hz; omega))
      clear hr hl hz h0
      go_enter Tryd.func39, Tryd.ntmps39
      go_wp2_with fail
      refine h1.mono ?_; rintro e w1 ⟨rfl, b1⟩
      go_wp2_with fail
      refine (hj.out w1 b1).mono ?_; rintro e w2 ⟨rfl, b2⟩
      go_wp2_with fail
      go_ret2
      exact ⟨rfl, b1.tr b2⟩
    · rw [if_pos (.inr hz)]
      have hne : ((checkL xs : Int) != 0) = true := by simp; omega
      clear hr hl hz h0
      generalize checkL xs = r at *
      go_enter Tryd.func39, Tryd.ntmps39
      go_wp2_with fail
      refine h1.mono ?_; rintro e w1 ⟨rfl, b1⟩
      go_wp2_with fail
      go_ret2
      exact ⟨rfl, b1⟩

/-- What ParseList returns. -/
def parseLE (s : List UInt8) : Nat := if s = [] then 4 else checkL (parts 44 s)
def parseLS (s : List UInt8) : List (List UInt8) := if parseLE s = 0 then parts 44 s else []

set_option maxRecDepth 100000 in
set_option maxHeartbeats 1000000 in
theorem parseList_any (s : List UInt8) (w : World) (hE : Env w) (hl : s.length ≤ 100000000) : Calls Tryd.prog 37 #[enS s] w (Gives2 w (parseLS s) (parseLE s)) := by
  by_cases h0 : s = []
  · subst h0
    have VE : Hid (parseLE [] = 4) := by (show parseLE [] = 4); rfl
    have VS : Hid (parseLS [] = []) := by (show parseLS [] = []); rfl
    rw [VE.out, VS.out]
    go_enter Tryd.func37, Tryd.ntmps37
    go_wp2
    go_ret2
    exact ⟨none, 0, rfl, Rd.nil, by simp, Below.refl _ _⟩
  · have hne : (!s.isEmpty) = true := by cases s with | nil => exact absurd rfl h0 | cons _ _ => rfl
    have hne2 : s.isEmpty = false := by cases s with | nil => exact absurd rfl h0 | cons _ _ => rfl
    have VE : Hid (parseLE s = checkL (parts 44 s)) := by (show parseLE s = _); unfold parseLE; rw [if_neg h0]
    have lp := parts_length_le 44 s
    have h1 := split_any 44 s w hE (by omega)
    have h2 := checkList_any (some ⟨w.heap.size, 0, none⟩) (parts 44 s).length (parts 44 s) (w.alloc (.cells ((parts 44 s).map enS).toArray 9)) (hE.below (below_new _ _)) (Rd.new w _ 9) (Nat.le_refl _) (by omega) (fun x hx => by have := parts_le 44 s x hx; omega)
    have hb0 := below_new w (.cells ((parts 44 s).map enS).toArray 9)
    have hr := Rd.new w (parts 44 s) 9
    have HR := Lib.hid hr; clear hr
    rw [VE.out]
    by_cases hz : checkL (parts 44 s) = 0
    · have VS : Hid (parseLS s = parts 44 s) := by (show parseLS s = _); unfold parseLS; rw [VE.out, if_pos hz]
      rw [VS.out, hz]
      rw [hz] at h2
      clear hz VE VS h0
      generalize parts 44 s = ps at *
      go_enter Tryd.func37, Tryd.ntmps37
      go_wp2_with fail
      refine h1.mono ?_; rintro e w1 ⟨rfl, rfl⟩
      go_wp2_with fail
      refine h2.mono ?_; rintro e w2 ⟨rfl, b2⟩
      go_wp2_with fail
      go_ret2
      exact ⟨_, _, rfl, HR.out.below b2, Nat.le_refl _, hb0.tr b2⟩
    · have VS : Hid (parseLS s = []) := by (show parseLS s = _); unfold parseLS; rw [VE.out, if_neg hz]
      rw [VS.out]
      have hnz : ((checkL (parts 44 s) : Int) != 0) = true := by simp; omega
      clear hz VE VS h0
      generalize checkL (parts 44 s) = r at *
      generalize parts 44 s = ps at *
      go_enter Tryd.func37, Tryd.ntmps37
      go_wp2_with fail
      refine h1.mono ?_; rintro e w1 ⟨rfl, rfl⟩
      go_wp2_with fail
      refine h2.mono ?_; rintro e w2 ⟨rfl, b2⟩
      go_wp2_with fail
      go_ret2
      exact ⟨none, 0, rfl, Rd.nil, by simp, hb0.tr b2⟩
end Go.Proofs.YtcagooijkecmoaaDoor
