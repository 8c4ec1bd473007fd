/- IsCanonical's contract, and the walks of DateCanonical and DateRoundTrip: for every input the laws return true. -/
import Derived.Test.YtpdncgfkoibacaaDoorParseAny
import Derived.Test.YtpdncgfkoibacaaDoorFmtDay
import Derived.Test.YtpdncgfkoibacaaDoorTrip
namespace Go.Proofs.YtpdncgfkoibacaaDoor
open Go.RowKit
open Cal

/-- Parse at a text whose answer is known. -/
theorem parse_at {t : List UInt8} {m p e : Int} (hp : parseF t = (m, p, e)) (w : World) (hm : t.length ≤ 1000000) :
    Calls Tryd.prog 21 #[.string ⟨t.toArray⟩] w fun e' w' => e' = .returned (.tuple #[.int .i64 m, .int .i64 p, .int .i64 e]) ∧ Below w.heap.size w w' := by
  have := parse_any t w hm
  rw [hp] at this
  exact this

set_option maxRecDepth 100000 in
set_option maxHeartbeats 2000000 in
theorem isCanonical_err (t : List UInt8) (m p e : Int) (w : World) (hp : parseF t = (m, p, e)) (he : (e != 0) = true) (hm : t.length ≤ 1000000) :
    Calls Tryd.prog 29 #[.string ⟨t.toArray⟩] w fun e w' => e = .returned (.bool false) ∧ Below w.heap.size w w' := by
  have HP := Lib.hid hp; clear hp
  go_enter Tryd.func29, Tryd.ntmps29
  go_wp2_with fail
  refine (parse_at HP.out _ hm).mono ?_; rintro e w1 ⟨rfl, b1⟩
  go_wp2_with fail
  go_ret
  exact ⟨rfl, b1⟩
set_option maxRecDepth 100000 in
set_option maxHeartbeats 2000000 in
theorem isCanonical_ok (t : List UInt8) (m p : Int) (w : World) (ht : Tab w) (hp : parseF t = (m, p, 0)) (hv : vld m = true) (hm : t.length ≤ 1000000) :
    Calls Tryd.prog 29 #[.string ⟨t.toArray⟩] w fun e w' => e = .returned (.bool (fmtText m 0 == t)) ∧ Below w.heap.size w w' := by
  have HP := Lib.hid hp; clear hp
  have HV := Lib.hid hv; clear hv
  have HT := Lib.hid ht; clear ht
  generalize hf : fmtText m 0 = F
  have HF := Lib.hid hf; clear hf
  go_enter Tryd.func29, Tryd.ntmps29
  go_wp2_with fail
  refine (parse_at HP.out _ hm).mono ?_; rintro e w1 ⟨rfl, b1⟩
  go_wp2_with fail
  refine (format_yes m _ HV.out (HT.out.below b1)).mono ?_; rintro e w2 ⟨rfl, b2⟩
  rw [HF.out]
  have c2 := b1.trans (b2.mono b1.size); clear b1 b2
  go_wp2_with fail
  go_ret
  exact ⟨rfl, c2⟩

theorem isCanonical_any (t : List UInt8) (w : World) (ht : Tab w) (hm : t.length ≤ 1000000) :
    Calls Tryd.prog 29 #[.string ⟨t.toArray⟩] w fun e w' => e = .returned (.bool (canonB t)) ∧ Below w.heap.size w w' := by
  obtain ⟨⟨m, p, e⟩, hp⟩ : ∃ x, parseF t = x := ⟨_, rfl⟩
  have hv := parseF_val t
  unfold canonB
  rw [hp] at hv ⊢
  dsimp only at hv ⊢
  by_cases he : e = 0
  · subst he
    have := isCanonical_ok t m p w ht hp (vld_mk hv.1) hm
    simpa using this
  · have := isCanonical_err t m p e w hp (by simpa using he) hm
    have h2 : (e == 0) = false := by simpa using he
    rw [h2]
    exact this

set_option maxRecDepth 100000 in
set_option maxHeartbeats 2000000 in
theorem dateCanonical_long (t : List UInt8) (w : World) (ht : Tab w) (hl : 200 < t.length) (hm : t.length ≤ maxLen) :
    Calls Tryd.prog 10 #[.string ⟨t.toArray⟩] w fun e w' => e = .returned (.bool true) ∧ Below w.heap.size w w' := by
  have HT := Lib.hid ht; clear ht
  unfold maxLen at hm
  go_enter Tryd.func10, Tryd.ntmps10
  go_wp2_with fail
  refine (known_any _ HT.out).mono ?_; rintro e w1 ⟨rfl, b1⟩
  go_wp2_with fail
  refine (known_any _ (HT.out.below b1)).mono ?_; rintro e w2 ⟨rfl, b2⟩
  have c2 := b1.trans (b2.mono b1.size); clear b1 b2
  go_wp2_with fail
  go_ret
  exact ⟨rfl, c2⟩
set_option maxRecDepth 100000 in
set_option maxHeartbeats 2000000 in
theorem dateCanonical_case (t F : List UInt8) (m p e : Int) (C : Bool) (w : World) (ht : Tab w) (hl : t.length ≤ 200) (hp : parseF t = (m, p, e)) (hv : vld m = true) (hf : fmtText m 0 = F) (hc : canonB t = C)
    (he : e = 0 ∧ (F == t) = C ∨ ((e == 0) = false ∧ C = false)) :
    Calls Tryd.prog 10 #[.string ⟨t.toArray⟩] w fun e w' => e = .returned (.bool true) ∧ Below w.heap.size w w' := by
  have HT := Lib.hid ht; clear ht
  have HP := Lib.hid hp; clear hp
  have HV := Lib.hid hv; clear hv
  have HF := Lib.hid hf; clear hf
  have HC := Lib.hid hc; clear hc
  rcases he with ⟨rfl, he⟩ | ⟨he, rfl⟩
  all_goals
    go_enter Tryd.func10, Tryd.ntmps10
    go_wp2_with fail
    refine (known_any _ HT.out).mono ?_; rintro e w1 ⟨rfl, b1⟩
    go_wp2_with fail
    refine (parse_at HP.out _ (by omega)).mono ?_; rintro e w2 ⟨rfl, b2⟩
    have c2 := b1.trans (b2.mono b1.size); clear b1 b2
    go_wp2_with fail
    refine (format_yes m _ HV.out (HT.out.below c2)).mono ?_; rintro e w3 ⟨rfl, b3⟩
    rw [HF.out]
    have c3 := c2.trans (b3.mono c2.size); clear c2 b3
    go_wp2_with fail
    refine (isCanonical_any t _ (HT.out.below c3) (by omega)).mono ?_; rintro e w4 ⟨rfl, b4⟩
    rw [HC.out]
    have c4 := c3.trans (b4.mono c3.size); clear c3 b4
    go_wp2_with fail
    go_ret
    exact ⟨ret_bool (by simp), c4⟩

theorem dateCanonical_walk (s : ByteArray) (ws : s.size ≤ maxLen) (w : World) (ht : Tab w) : Calls Tryd.prog 10 #[.string s] w fun e w' => e = .returned (.bool true) ∧ Below w.heap.size w w' := by
  obtain ⟨⟨t⟩⟩ := s
  have hs : t.length ≤ maxLen := ws
  by_cases hl : 200 < t.length
  · exact dateCanonical_long t w ht hl hs
  · obtain ⟨⟨m, p, e⟩, hp⟩ : ∃ x, parseF t = x := ⟨_, rfl⟩
    have hv := parseF_val t
    rw [hp] at hv
    dsimp only at hv
    refine dateCanonical_case t _ m p e (canonB t) w ht (by omega) hp (vld_mk hv.1) rfl rfl ?_
    unfold canonB
    rw [hp]
    dsimp only
    by_cases he : e = 0
    · exact .inl ⟨he, by simp [he]⟩
    · have h2 : (e == 0) = false := by simpa using he
      exact .inr ⟨h2, by rw [h2]; rfl⟩

/-! The round trip. -/
set_option maxRecDepth 100000 in
set_option maxHeartbeats 2000000 in
theorem dateRoundTrip_none (m off : Int) (w : World) (ht : Tab w) (hv : vld m = false) :
    Calls Tryd.prog 9 #[.int .i64 m, .int .i64 off] w fun e w' => e = .returned (.bool true) ∧ Below w.heap.size w w' := by
  have HT := Lib.hid ht; clear ht
  go_enter Tryd.func9, Tryd.ntmps9
  go_wp2_with fail
  refine (known_any _ HT.out).mono ?_; rintro e w1 ⟨rfl, b1⟩
  go_wp2_with fail
  refine (format_no m _ hv).mono ?_; rintro e w2 ⟨rfl, rfl⟩
  go_wp2_with fail
  go_ret
  exact ⟨rfl, b1⟩
set_option maxRecDepth 100000 in
set_option maxHeartbeats 2000000 in
theorem dateRoundTrip_out (m off : Int) (F : List UInt8) (w : World) (ht : Tab w) (hv : vld m = true) (hF : fmtText m 0 = F) (hl : F.length = 28) (hp : parseF F = (m, 0, 0)) (hc : canonB F = true) (hz : zok m off = false) :
    Calls Tryd.prog 9 #[.int .i64 m, .int .i64 off] w fun e w' => e = .returned (.bool true) ∧ Below w.heap.size w w' := by
  have HT := Lib.hid ht; clear ht
  have HF := Lib.hid hF; clear hF
  have HV := Lib.hid hv; clear hv
  have HP := Lib.hid hp; clear hp
  have HC := Lib.hid hc; clear hc
  have HZ := Lib.hid hz; clear hz
  have HL : F.length ≤ 1000000 := by omega
  clear hl
  have em : (m == m) = true := by simp
  go_enter Tryd.func9, Tryd.ntmps9
  go_wp2_with fail
  refine (known_any _ HT.out).mono ?_; rintro e w1 ⟨rfl, b1⟩
  go_wp2_with fail
  refine (format_yes m _ HV.out (HT.out.below b1)).mono ?_; rintro e w2 ⟨rfl, b2⟩
  rw [HF.out]
  have c2 := b1.trans (b2.mono b1.size); clear b1 b2
  go_wp2_with fail
  refine (parse_at HP.out _ HL).mono ?_; rintro e w3 ⟨rfl, b3⟩
  have c3 := c2.trans (b3.mono c2.size); clear c2 b3
  go_wp2_with fail
  refine (isCanonical_any F _ (HT.out.below c3) HL).mono ?_; rintro e w4 ⟨rfl, b4⟩
  rw [HC.out]
  have c4 := c3.trans (b4.mono c3.size); clear c3 b4
  go_wp2_with fail
  refine (formatZone_no _ _ _ HZ.out).mono ?_; rintro e w5 ⟨rfl, rfl⟩
  go_wp2_with fail
  go_ret
  exact ⟨rfl, c4⟩
set_option maxRecDepth 100000 in
set_option maxHeartbeats 2000000 in
theorem dateRoundTrip_in (m off : Int) (F G : List UInt8) (w : World) (ht : Tab w) (hv : vld m = true) (hF : fmtText m 0 = F) (hl : F.length = 28) (hp : parseF F = (m, 0, 0)) (hc : canonB F = true) (hz : zok m off = true)
    (hG : fmtText (m + off) off = G) (hg : G.length = 28) (hq : parseF G = (m, 0, 0)) (hd : canonB G = (off == 0)) :
    Calls Tryd.prog 9 #[.int .i64 m, .int .i64 off] w fun e w' => e = .returned (.bool true) ∧ Below w.heap.size w w' := by
  have HT := Lib.hid ht; clear ht
  have HF := Lib.hid hF; clear hF
  have HV := Lib.hid hv; clear hv
  have HP := Lib.hid hp; clear hp
  have HC := Lib.hid hc; clear hc
  have HZ := Lib.hid hz; clear hz
  have HG := Lib.hid hG; clear hG
  have HQ := Lib.hid hq; clear hq
  have HD := Lib.hid hd; clear hd
  have HL : F.length ≤ 1000000 := by omega
  have HM : G.length ≤ 1000000 := by omega
  clear hl hg
  have em : (m == m) = true := by simp
  go_enter Tryd.func9, Tryd.ntmps9
  go_wp2_with fail
  refine (known_any _ HT.out).mono ?_; rintro e w1 ⟨rfl, b1⟩
  go_wp2_with fail
  refine (format_yes m _ HV.out (HT.out.below b1)).mono ?_; rintro e w2 ⟨rfl, b2⟩
  rw [HF.out]
  have c2 := b1.trans (b2.mono b1.size); clear b1 b2
  go_wp2_with fail
  refine (parse_at HP.out _ HL).mono ?_; rintro e w3 ⟨rfl, b3⟩
  have c3 := c2.trans (b3.mono c2.size); clear c2 b3
  go_wp2_with fail
  refine (isCanonical_any F _ (HT.out.below c3) HL).mono ?_; rintro e w4 ⟨rfl, b4⟩
  rw [HC.out]
  have c4 := c3.trans (b4.mono c3.size); clear c3 b4
  go_wp2_with fail
  refine (formatZone_yes _ _ _ HZ.out (HT.out.below c4)).mono ?_; rintro e w5 ⟨rfl, b5⟩
  rw [HG.out]
  have c5 := c4.trans (b5.mono c4.size); clear c4 b5
  go_wp2_with fail
  refine (parse_at HQ.out _ HM).mono ?_; rintro e w6 ⟨rfl, b6⟩
  have c6 := c5.trans (b6.mono c5.size); clear c5 b6
  go_wp2_with fail
  refine (isCanonical_any G _ (HT.out.below c6) HM).mono ?_; rintro e w7 ⟨rfl, b7⟩
  rw [HD.out]
  have c7 := c6.trans (b7.mono c6.size); clear c6 b7
  go_wp2_with fail
  go_ret
  exact ⟨ret_bool (by simp), c7⟩

theorem dateRoundTrip_walk (m : Int) (_wm : (Lit.int .i64 m).wf = true) (off : Int) (_wo : (Lit.int .i64 off).wf = true) (w : World) (ht : Tab w) : Calls Tryd.prog 9 #[.int .i64 m, .int .i64 off] w fun e w' => e = .returned (.bool true) ∧ Below w.heap.size w w' := by
  cases hv : vld m with
  | false => exact dateRoundTrip_none m off w ht hv
  | true =>
    have v := vld_true hv
    have p0 := parse_fmt (m := m) (off := 0) v.1 v.2 (by decide) (by decide) (by omega) (by omega)
    have c0 := canon_fmt (m := m) (off := 0) v.1 v.2 (by decide) (by decide) (by omega) (by omega)
    have l0 := fmtText_len (off := 0) v.1 v.2
    rw [Int.add_zero] at p0 c0
    cases hz : zok m off with
    | false => exact dateRoundTrip_out m off _ w ht hv rfl l0 p0 c0 hz
    | true =>
      obtain ⟨_, o0, o1, s0, s1⟩ := zok_true hz
      exact dateRoundTrip_in m off _ _ w ht hv rfl l0 p0 c0 hz rfl (fmtText_len s0 s1) (parse_fmt v.1 v.2 o0 o1 s0 s1) (canon_fmt v.1 v.2 o0 o1 s0 s1)
end Go.Proofs.YtpdncgfkoibacaaDoor
