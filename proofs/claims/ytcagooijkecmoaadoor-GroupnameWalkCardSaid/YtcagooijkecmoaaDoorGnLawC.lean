/- The walks of the statements GroupnameJoin, GroupnameParseList, GroupnameFormatList. -/
import Derived.Test.YtcagooijkecmoaaDoorGnLawB
namespace Go.Proofs.YtcagooijkecmoaaDoor
open Go.RowKit Go.Gn

theorem sh_len {l : List (List UInt8)} (h : shortL l = true) : l.length ≤ 60 := ((shortL_iff _).1 h).1
theorem sh_all {l : List (List UInt8)} (h : shortL l = true) {n : Nat} (hn : 120 ≤ n) : ∀ x ∈ l, x.length ≤ n := fun _ hx => Nat.le_trans (shortL_at h hx) hn

set_option maxRecDepth 100000 in
set_option maxHeartbeats 16000000 in
theorem groupnameJoin_walk (A : Option Addr) (c : Nat) (xs : List (List UInt8)) (w : World) (hr : Rd w A xs) (hc : xs.length ≤ c) (hcm : c ≤ maxLen) (hx : ∀ x ∈ xs, x.length ≤ maxLen) (hE : Env w) :
    Calls Tryd.prog 9 #[.slice A xs.length c] w fun e w' => e = .returned (.bool true) ∧ Below w.heap.size w w' := by
  have hk := known_any w hE
  have HS := Lib.hid (fun W (h : Rd W A xs) => short_any A c xs W h (Nat.le_trans hc hcm) hx)
  have R0 := Lib.hid hr; clear hr hx
  unfold maxLen at hcm
  cases hsh : shortL xs with
  | false =>
    rw [hsh] at HS
    clear hsh
    have HK := Lib.hid (fun W (b : Below w.heap.size w W) => known_any W (hE.below b))
    clear hE
    go_enter Tryd.func9, Tryd.ntmps9
    go_wp2_with fail
    refine (hk).mono ?_; rintro e w1 ⟨rfl, b1⟩
    have R1 := Lib.hid (R0.out.below b1)
    clear R0
    have B1 := Lib.hid (b1)
    clear b1
    go_wp2_with fail
    refine (HS.out w1 R1.out).mono ?_; rintro e w2 ⟨rfl, rfl⟩
    go_wp2_with fail
    refine (HK.out w1 B1.out).mono ?_; rintro e w3 ⟨rfl, b3⟩
    have R3 := Lib.hid (R1.out.below b3)
    clear R1
    have B3 := Lib.hid (B1.out.tr b3)
    clear b3
    go_wp2_with fail
    go_ret
    exact ⟨rfl, B3.out⟩
  | true =>
    rw [hsh] at HS
    have hl := sh_len hsh
    have hx := sh_all hsh (n := 1000000000) (by decide)
    have HE := Lib.hid hE.all
    have H1 := Lib.hid (fun W (hb : Below w.heap.size w W) (h : Rd W A xs) => gjoin_any A c xs W (HE.out W hb) h hc (by omega) hx)
    have H2 := Lib.hid (fun W (h : Rd W A xs) => refJoin_any A c xs W h (by omega) hx)
    by_cases hz : joinE xs = 0
    · have e1 : joinS xs = text 46 xs := by unfold joinS; rw [if_pos hz]
      have e2 : check (text 46 xs) = 0 ∧ xs ≠ [] ∧ ∀ x ∈ xs, comp x = true := by
        unfold joinE at hz
        split at hz
        · cases hz
        · rename_i h0
          split at hz
          · cases hz
          · rename_i h1
            exact ⟨hz, fun e => h0 (by rw [e]; rfl), comps_of_any (by simpa using h1)⟩
      have e3 : parts 46 (text 46 xs) = xs := parts_text 46 xs e2.2.1 (fun x hx => comp_dot (e2.2.2 x hx))
      have e4 : splitS (text 46 xs) = xs := by unfold splitS; rw [if_pos e2.1, e3]
      have hl8 : (text 46 xs).length ≤ 80 := ((check_zero _).1 e2.1).1
      have H3 := Lib.hid (fun W (hb : Below w.heap.size w W) => gsplit_any (text 46 xs) W (HE.out W hb) (by omega))
      have H4 := Lib.hid (fun B d W (h1 : Rd W B xs) (h2 : Rd W A xs) => same_any B A d c xs xs W h1 h2 (by omega) (by omega))
      rw [e4, e2.1] at H3
      rw [e1, hz] at H1 H2
      rw [decide_eq_true rfl] at H4
      have L := Lib.hid hsh
      clear hsh hE hz e1 e2 e3 e4 hx
      generalize text 46 xs = t at *
      go_enter Tryd.func9, Tryd.ntmps9
      go_wp2_with fail
      refine (hk).mono ?_; rintro e w1 ⟨rfl, b1⟩
      have R1 := Lib.hid (R0.out.below b1)
      clear R0
      have B1 := Lib.hid (b1)
      clear b1
      go_wp2_with fail
      refine (HS.out w1 R1.out).mono ?_; rintro e w2 ⟨rfl, rfl⟩
      go_wp2_with fail
      refine (H1.out w1 B1.out R1.out).mono ?_; rintro e w3 ⟨rfl, b3⟩
      have R3 := Lib.hid (R1.out.below b3)
      clear R1
      have B3 := Lib.hid (B1.out.tr b3)
      clear b3
      go_wp2_with fail
      refine (H2.out w3 R3.out).mono ?_; rintro e w4 ⟨rfl, b4⟩
      have R4 := Lib.hid (R3.out.below b4)
      clear R3
      have B4 := Lib.hid (B3.out.tr b4)
      clear b4
      go_wp2_with fail
      refine (H3.out w4 B4.out).mono ?_; rintro e w5 ⟨Bx, d, rfl, hS, lS, b5⟩
      have R5 := Lib.hid (R4.out.below b5)
      clear R4
      have S5 := Lib.hid hS; clear hS
      have B5 := Lib.hid (B4.out.tr b5)
      clear b5
      go_wp2_with fail
      refine (H4.out Bx d w5 S5.out R5.out).mono ?_; rintro e w6 ⟨rfl, b6⟩
      have R6 := Lib.hid (R5.out.below b6)
      clear R5
      have S6 := Lib.hid (S5.out.below b6)
      clear S5
      have B6 := Lib.hid (B5.out.tr b6)
      clear b6
      go_wp2_with fail
      go_ret
      exact ⟨rfl, B6.out⟩
    · have e1 : joinS xs = [] := by unfold joinS; rw [if_neg hz]
      have e4 : splitS [] = [] := by decide
      have H3 := Lib.hid (fun W (hb : Below w.heap.size w W) => gsplit_any [] W (HE.out W hb) (by decide))
      have hne : ((joinE xs : Int) != 0) = true := by simp; omega
      rw [e4, check_nil] at H3
      rw [e1] at H1 H2
      have L := Lib.hid hsh
      clear hsh hE hz e1 e4 hx
      generalize joinE xs = r at *
      go_enter Tryd.func9, Tryd.ntmps9
      go_wp2_with fail
      refine (hk).mono ?_; rintro e w1 ⟨rfl, b1⟩
      have R1 := Lib.hid (R0.out.below b1)
      clear R0
      have B1 := Lib.hid (b1)
      clear b1
      go_wp2_with fail
      refine (HS.out w1 R1.out).mono ?_; rintro e w2 ⟨rfl, rfl⟩
      go_wp2_with fail
      refine (H1.out w1 B1.out R1.out).mono ?_; rintro e w3 ⟨rfl, b3⟩
      have R3 := Lib.hid (R1.out.below b3)
      clear R1
      have B3 := Lib.hid (B1.out.tr b3)
      clear b3
      go_wp2_with fail
      refine (H2.out w3 R3.out).mono ?_; rintro e w4 ⟨rfl, b4⟩
      have R4 := Lib.hid (R3.out.below b4)
      clear R3
      have B4 := Lib.hid (B3.out.tr b4)
      clear b4
      go_wp2_with fail
      refine (H3.out w4 B4.out).mono ?_; rintro e w5 ⟨Bx, d, rfl, hS, lS, b5⟩
      have R5 := Lib.hid (R4.out.below b5)
      clear R4
      have S5 := Lib.hid hS; clear hS
      have B5 := Lib.hid (B4.out.tr b5)
      clear b5
      go_wp2_with fail
      go_ret
      exact ⟨rfl, B5.out⟩

theorem parse_text {xs : List (List UInt8)} (h0 : xs ≠ []) (hz : checkL xs = 0) : parseLE (text 44 xs) = 0 ∧ parseLS (text 44 xs) = xs := by
  have h1 := checkL_zero hz
  have e : parts 44 (text 44 xs) = xs := parts_text 44 xs h0 (fun x hx => check_comma (h1.2 x hx))
  have hne : text 44 xs ≠ [] := fun e' => by
    rw [e'] at e
    have : xs = [[]] := by rw [← e]; rfl
    have := h1.2 [] (by rw [this]; simp)
    rw [check_nil] at this; cases this
  have e1 : parseLE (text 44 xs) = 0 := by unfold parseLE; rw [if_neg hne, e, hz]
  exact ⟨e1, by unfold parseLS; rw [if_pos e1, e]⟩

set_option maxRecDepth 100000 in
set_option maxHeartbeats 16000000 in
theorem groupnameFormatList_walk (A : Option Addr) (c : Nat) (xs : List (List UInt8)) (w : World) (hr : Rd w A xs) (hc : xs.length ≤ c) (hcm : c ≤ maxLen) (hx : ∀ x ∈ xs, x.length ≤ maxLen) (hE : Env w) :
    Calls Tryd.prog 12 #[.slice A xs.length c] w fun e w' => e = .returned (.bool true) ∧ Below w.heap.size w w' := by
  have hk := known_any w hE
  have HS := Lib.hid (fun W (h : Rd W A xs) => short_any A c xs W h (Nat.le_trans hc hcm) hx)
  have R0 := Lib.hid hr; clear hr hx
  unfold maxLen at hcm
  cases hsh : shortL xs with
  | false =>
    rw [hsh] at HS
    clear hsh
    have HK := Lib.hid (fun W (b : Below w.heap.size w W) => known_any W (hE.below b))
    clear hE
    go_enter Tryd.func12, Tryd.ntmps12
    go_wp2_with fail
    refine (hk).mono ?_; rintro e w1 ⟨rfl, b1⟩
    have R1 := Lib.hid (R0.out.below b1)
    clear R0
    have B1 := Lib.hid (b1)
    clear b1
    go_wp2_with fail
    refine (HS.out w1 R1.out).mono ?_; rintro e w2 ⟨rfl, rfl⟩
    go_wp2_with fail
    refine (HK.out w1 B1.out).mono ?_; rintro e w3 ⟨rfl, b3⟩
    have R3 := Lib.hid (R1.out.below b3)
    clear R1
    have B3 := Lib.hid (B1.out.tr b3)
    clear b3
    go_wp2_with fail
    go_ret
    exact ⟨rfl, B3.out⟩
  | true =>
    rw [hsh] at HS
    have hl := sh_len hsh
    have hx := sh_all hsh (n := 1000000000) (by decide)
    have hx2 := sh_all hsh (n := 100000000) (by decide)
    have HE := Lib.hid hE.all
    have H1 := Lib.hid (fun W (hb : Below w.heap.size w W) (h : Rd W A xs) => formatList_any A c xs W (HE.out W hb) h hc (by omega) hx)
    have H2 := Lib.hid (fun W (h : Rd W A xs) => refCheckList_any A c xs W h (by omega) hx2)
    have L := Lib.hid hsh
    clear hsh hE
    by_cases h0 : xs = []
    · subst h0
      have e1 : checkL [] = 0 := rfl
      rw [if_pos (.inl (show ([] : List (List UInt8)).length = 0 from rfl)), if_pos (show ([] : List (List UInt8)).length = 0 from rfl)] at H1
      rw [e1] at H2
      clear hx hx2 e1
      go_enter Tryd.func12, Tryd.ntmps12
      go_wp2_with fail
      refine (hk).mono ?_; rintro e w1 ⟨rfl, b1⟩
      have R1 := Lib.hid (R0.out.below b1)
      clear R0
      have B1 := Lib.hid (b1)
      clear b1
      go_wp2_with fail
      refine (HS.out w1 R1.out).mono ?_; rintro e w2 ⟨rfl, rfl⟩
      go_wp2_with fail
      refine (H1.out w1 B1.out R1.out).mono ?_; rintro e w3 ⟨rfl, b3⟩
      have R3 := Lib.hid (R1.out.below b3)
      clear R1
      have B3 := Lib.hid (B1.out.tr b3)
      clear b3
      go_wp2_with fail
      refine (H2.out w3 R3.out).mono ?_; rintro e w4 ⟨rfl, b4⟩
      have R4 := Lib.hid (R3.out.below b4)
      clear R3
      have B4 := Lib.hid (B3.out.tr b4)
      clear b4
      go_wp2_with fail
      go_ret
      exact ⟨rfl, B4.out⟩
    · have hlen : ¬ xs.length = 0 := fun e => h0 (List.length_eq_zero_iff.1 e)
      rw [if_neg hlen] at H1
      have h00 : ((xs.length : Int) == 0) = false := by simp; exact h0
      have h02 : (xs.length == 0) = false := by simp; exact h0
      by_cases hz : checkL xs = 0
      · rw [if_neg (by omega), hz] at H1
        rw [hz] at H2
        have hp := parse_text h0 hz
        have htl := text_len_checked hz
        have H3 := Lib.hid (fun W (hb : Below w.heap.size w W) => parseList_any (text 44 xs) W (HE.out W hb) (by omega))
        have H4 := Lib.hid (fun W (h : Rd W A xs) => refText_any 44 A c xs W h (by omega) (by omega))
        have H5 := Lib.hid (fun B d W (h1 : Rd W B xs) (h2 : Rd W A xs) => same_any B A d c xs xs W h1 h2 (by omega) (by omega))
        rw [hp.1, hp.2] at H3
        rw [decide_eq_true rfl] at H5
        clear hx hx2 h0 hlen hz hp
        generalize text 44 xs = t at *
        go_enter Tryd.func12, Tryd.ntmps12
        go_wp2_with fail
        refine (hk).mono ?_; rintro e w1 ⟨rfl, b1⟩
        have R1 := Lib.hid (R0.out.below b1)
        clear R0
        have B1 := Lib.hid (b1)
        clear b1
        go_wp2_with fail
        refine (HS.out w1 R1.out).mono ?_; rintro e w2 ⟨rfl, rfl⟩
        go_wp2_with fail
        refine (H1.out w1 B1.out R1.out).mono ?_; rintro e w3 ⟨rfl, b3⟩
        have R3 := Lib.hid (R1.out.below b3)
        clear R1
        have B3 := Lib.hid (B1.out.tr b3)
        clear b3
        go_wp2_with fail
        refine (H2.out w3 R3.out).mono ?_; rintro e w4 ⟨rfl, b4⟩
        have R4 := Lib.hid (R3.out.below b4)
        clear R3
        have B4 := Lib.hid (B3.out.tr b4)
        clear b4
        go_wp2_with fail
        refine (H3.out w4 B4.out).mono ?_; rintro e w5 ⟨Bx, d, rfl, hS, lS, b5⟩
        have R5 := Lib.hid (R4.out.below b5)
        clear R4
        have S5 := Lib.hid hS; clear hS
        have B5 := Lib.hid (B4.out.tr b5)
        clear b5
        go_wp2_with fail
        refine (H4.out w5 R5.out).mono ?_; rintro e w6 ⟨rfl, rfl⟩
        go_wp2_with fail
        refine (H5.out Bx d w5 S5.out R5.out).mono ?_; rintro e w7 ⟨rfl, b7⟩
        have R7 := Lib.hid (R5.out.below b7)
        clear R5
        have S7 := Lib.hid (S5.out.below b7)
        clear S5
        have B7 := Lib.hid (B5.out.tr b7)
        clear b7
        go_wp2_with fail
        go_ret
        exact ⟨rfl, B7.out⟩
      · rw [if_pos (.inr hz)] at H1
        have hne : ((checkL xs : Int) != 0) = true := by simp; omega
        clear hx hx2 h0 hlen hz
        generalize checkL xs = r at *
        go_enter Tryd.func12, Tryd.ntmps12
        go_wp2_with fail
        refine (hk).mono ?_; rintro e w1 ⟨rfl, b1⟩
        have R1 := Lib.hid (R0.out.below b1)
        clear R0
        have B1 := Lib.hid (b1)
        clear b1
        go_wp2_with fail
        refine (HS.out w1 R1.out).mono ?_; rintro e w2 ⟨rfl, rfl⟩
        go_wp2_with fail
        refine (H1.out w1 B1.out R1.out).mono ?_; rintro e w3 ⟨rfl, b3⟩
        have R3 := Lib.hid (R1.out.below b3)
        clear R1
        have B3 := Lib.hid (B1.out.tr b3)
        clear b3
        go_wp2_with fail
        refine (H2.out w3 R3.out).mono ?_; rintro e w4 ⟨rfl, b4⟩
        have R4 := Lib.hid (R3.out.below b4)
        clear R3
        have B4 := Lib.hid (B3.out.tr b4)
        clear b4
        go_wp2_with fail
        go_ret
        exact ⟨rfl, B4.out⟩

set_option maxRecDepth 100000 in
set_option maxHeartbeats 16000000 in
theorem groupnameParseList_walk (s : List UInt8) (hs : s.length ≤ maxLen) (w : World) (hE : Env w) :
    Calls Tryd.prog 11 #[enS s] w fun e w' => e = .returned (.bool true) ∧ Below w.heap.size w w' := by
  have hk := known_any w hE
  unfold maxLen at hs
  by_cases h2000 : 2000 < s.length
  · have HK := Lib.hid (fun W (b : Below w.heap.size w W) => known_any W (hE.below b))
    clear hE
    go_enter Tryd.func11, Tryd.ntmps11
    go_wp2_with fail
    refine (hk).mono ?_; rintro e w1 ⟨rfl, b1⟩
    have B1 := Lib.hid (b1)
    clear b1
    go_wp2_with fail
    refine (HK.out w1 B1.out).mono ?_; rintro e w2 ⟨rfl, b2⟩
    have B2 := Lib.hid (B1.out.tr b2)
    clear b2
    go_wp2_with fail
    go_ret
    exact ⟨rfl, B2.out⟩
  · have HE := Lib.hid hE.all
    have hpl := parts_length_le 44 s
    have H1 := Lib.hid (fun W (hb : Below w.heap.size w W) => parseList_any s W (HE.out W hb) (by omega))
    have H2 := Lib.hid (fun W => refParts_any s 44 W (by omega))
    have H3 := Lib.hid (fun A c W (h : Rd W A (parts 44 s)) => refCheckList_any A c (parts 44 s) W h (by omega) (fun x hx => by have := parts_le 44 s x hx; omega))
    clear hE
    by_cases h0 : s = []
    · subst h0
      have e1 : parseLE [] = 4 := rfl
      have e2 : parseLS [] = [] := rfl
      have e3 : parts 44 [] = [[]] := rfl
      have e4 : checkL [[]] = 12 := by decide
      rw [e1, e2] at H1
      rw [e3] at H2 H3
      rw [e4] at H3
      clear e1 e2 e3 e4
      go_enter Tryd.func11, Tryd.ntmps11
      go_wp2_with fail
      refine (hk).mono ?_; rintro e w1 ⟨rfl, b1⟩
      have B1 := Lib.hid (b1)
      clear b1
      go_wp2_with fail
      refine (H1.out w1 B1.out).mono ?_; rintro e w2 ⟨Ax, ca, rfl, hS, lS, b2⟩
      have S2 := Lib.hid hS; clear hS
      have B2 := Lib.hid (B1.out.tr b2)
      clear b2
      go_wp2_with fail
      refine (H2.out w2).mono ?_; rintro e w3 ⟨Bx, cb, rfl, hT, lT, b3⟩
      have S3 := Lib.hid (S2.out.below b3)
      clear S2
      have T3 := Lib.hid hT; clear hT
      have B3 := Lib.hid (B2.out.tr b3)
      clear b3
      go_wp2_with fail
      refine (H3.out Bx cb w3 T3.out).mono ?_; rintro e w4 ⟨rfl, b4⟩
      have S4 := Lib.hid (S3.out.below b4)
      clear S3
      have T4 := Lib.hid (T3.out.below b4)
      clear T3
      have B4 := Lib.hid (B3.out.tr b4)
      clear b4
      go_wp2_with fail
      go_ret
      exact ⟨rfl, B4.out⟩
    · have e1 : parseLE s = checkL (parts 44 s) := by unfold parseLE; rw [if_neg h0]
      have hne : (!s.isEmpty) = true := by cases s with | nil => exact absurd rfl h0 | cons _ _ => rfl
      have hne2 : s.isEmpty = false := by cases s with | nil => exact absurd rfl h0 | cons _ _ => rfl
      by_cases hz : checkL (parts 44 s) = 0
      · have e2 : parseLS s = parts 44 s := by unfold parseLS; rw [e1, if_pos hz]
        have hpp := parts_pos 44 s
        have H4 := Lib.hid (fun A c W (hb : Below w.heap.size w W) (h : Rd W A (parts 44 s)) (hc : (parts 44 s).length ≤ c) => formatList_any A c (parts 44 s) W (HE.out W hb) h hc (by omega) (fun x hx => by have := parts_le 44 s x hx; omega))
        have H5 := Lib.hid (fun A B c d W (h1 : Rd W A (parts 44 s)) (h2 : Rd W B (parts 44 s)) => same_any A B c d _ _ W h1 h2 (by omega) (by omega))
        rw [if_neg (by omega), if_neg (by omega), hz, text_parts] at H4
        rw [e2, e1, hz] at H1
        rw [hz] at H3
        rw [decide_eq_true rfl] at H5
        clear h0 e1 e2 hz
        generalize parts 44 s = ps at *
        go_enter Tryd.func11, Tryd.ntmps11
        go_wp2_with fail
        refine (hk).mono ?_; rintro e w1 ⟨rfl, b1⟩
        have B1 := Lib.hid (b1)
        clear b1
        go_wp2_with fail
        refine (H1.out w1 B1.out).mono ?_; rintro e w2 ⟨Ax, ca, rfl, hS, lS, b2⟩
        have S2 := Lib.hid hS; clear hS
        have B2 := Lib.hid (B1.out.tr b2)
        clear b2
        go_wp2_with fail
        refine (H2.out w2).mono ?_; rintro e w3 ⟨Bx, cb, rfl, hT, lT, b3⟩
        have S3 := Lib.hid (S2.out.below b3)
        clear S2
        have T3 := Lib.hid hT; clear hT
        have B3 := Lib.hid (B2.out.tr b3)
        clear b3
        go_wp2_with fail
        refine (H3.out Bx cb w3 T3.out).mono ?_; rintro e w4 ⟨rfl, b4⟩
        have S4 := Lib.hid (S3.out.below b4)
        clear S3
        have T4 := Lib.hid (T3.out.below b4)
        clear T3
        have B4 := Lib.hid (B3.out.tr b4)
        clear b4
        go_wp2_with fail
        refine (H4.out Ax ca w4 B4.out S4.out lS).mono ?_; rintro e w5 ⟨rfl, b5⟩
        have S5 := Lib.hid (S4.out.below b5)
        clear S4
        have T5 := Lib.hid (T4.out.below b5)
        clear T4
        have B5 := Lib.hid (B4.out.tr b5)
        clear b5
        go_wp2_with fail
        refine (H5.out Ax Bx ca cb w5 S5.out T5.out).mono ?_; rintro e w6 ⟨rfl, b6⟩
        have S6 := Lib.hid (S5.out.below b6)
        clear S5
        have T6 := Lib.hid (T5.out.below b6)
        clear T5
        have B6 := Lib.hid (B5.out.tr b6)
        clear b6
        go_wp2_with fail
        go_ret
        exact ⟨rfl, B6.out⟩
      · have e2 : parseLS s = [] := by unfold parseLS; rw [e1, if_neg hz]
        have hnz : ((checkL (parts 44 s) : Int) != 0) = true := by simp; omega
        rw [e2, e1] at H1
        clear h0 e1 e2 hz
        generalize checkL (parts 44 s) = r at *
        generalize parts 44 s = ps at *
        go_enter Tryd.func11, Tryd.ntmps11
        go_wp2_with fail
        refine (hk).mono ?_; rintro e w1 ⟨rfl, b1⟩
        have B1 := Lib.hid (b1)
        clear b1
        go_wp2_with fail
        refine (H1.out w1 B1.out).mono ?_; rintro e w2 ⟨Ax, ca, rfl, hS, lS, b2⟩
        have S2 := Lib.hid hS; clear hS
        have B2 := Lib.hid (B1.out.tr b2)
        clear b2
        go_wp2_with fail
        refine (H2.out w2).mono ?_; rintro e w3 ⟨Bx, cb, rfl, hT, lT, b3⟩
        have S3 := Lib.hid (S2.out.below b3)
        clear S2
        have T3 := Lib.hid hT; clear hT
        have B3 := Lib.hid (B2.out.tr b3)
        clear b3
        go_wp2_with fail
        refine (H3.out Bx cb w3 T3.out).mono ?_; rintro e w4 ⟨rfl, b4⟩
        have S4 := Lib.hid (S3.out.below b4)
        clear S3
        have T4 := Lib.hid (T3.out.below b4)
        clear T3
        have B4 := Lib.hid (B3.out.tr b4)
        clear b4
        go_wp2_with fail
        go_ret
        exact ⟨rfl, B4.out⟩
end Go.Proofs.YtcagooijkecmoaaDoor
