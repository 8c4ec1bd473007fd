/- A text of the parts of a date, with one or two digits for a day, other blanks, seconds or none, capital or small letters, has the minute of its parts. No program in sight. -/
import Derived.Test.YtpdncgfkoibacaaDoorScan
namespace Go.Proofs.YtpdncgfkoibacaaDoor
open Cal

/-- A scanner without an error in front of a text. -/
structure At (t : List UInt8) (s : St) (l : List UInt8) : Prop where
  e : s.e = 0
  d : t.drop s.p = l
  p : s.p ≤ t.length

theorem At.cons {t : List UInt8} {s : St} {c : UInt8} {l : List UInt8} (h : At t s (c :: l)) : s.p < t.length ∧ at0 t s.p = c ∧ t.drop (s.p + 1) = l := by
  have hl : s.p < t.length := by
    rcases Nat.lt_or_ge s.p t.length with a | a
    · exact a
    · have := h.d; rw [List.drop_eq_nil_of_le a] at this; cases this
  have := h.d
  rw [List.drop_eq_getElem_cons hl] at this
  injection this with h1 h2
  exact ⟨hl, by simp [at0, List.getD, List.getElem?_eq_getElem hl, h1], h2⟩
theorem At.nil {t : List UInt8} {s : St} (h : At t s []) : s.p = t.length := by
  have := h.d; have hp := h.p
  have h2 := congrArg List.length this
  simp at h2; omega
theorem At.sees {t : List UInt8} {s : St} {c : UInt8} {l : List UInt8} (h : At t s (c :: l)) (q : UInt8 → Bool) : sees t q s = q c := by
  obtain ⟨h1, h2, _⟩ := h.cons
  simp [Go.Proofs.YtpdncgfkoibacaaDoor.sees, h.e, h1, h2]
theorem At.need {t : List UInt8} {s : St} {c : UInt8} {l : List UInt8} (h : At t s (c :: l)) {q : UInt8 → Bool} (hq : q c = true) : At t (need t q s) l ∧ needB t q s = c := by
  obtain ⟨h1, h2, h3⟩ := h.cons
  unfold Go.Proofs.YtpdncgfkoibacaaDoor.need needB
  rw [h.sees, hq, if_pos rfl, if_pos rfl]
  exact ⟨⟨h.e, h3, h1⟩, h2⟩
theorem takeWhile_app (q : UInt8 → Bool) (b r : List UInt8) (hb : b.all q = true) (hr : ∀ c l, r = c :: l → q c = false) : (b ++ r).takeWhile q = b := by
  induction b with
  | nil =>
    cases r with
    | nil => rfl
    | cons c l => simp [hr c l rfl]
  | cons c b ih =>
    simp only [List.all_cons, Bool.and_eq_true] at hb
    rw [List.cons_append, List.takeWhile_cons_of_pos hb.1, ih hb.2]
theorem At.skip {t : List UInt8} {s : St} {b r : List UInt8} (h : At t s (b ++ r)) {q : UInt8 → Bool} (hb : b.all q = true) (hr : ∀ c l, r = c :: l → q c = false) : At t (skip t q s) r := by
  unfold Go.Proofs.YtpdncgfkoibacaaDoor.skip
  rw [if_pos h.e, h.d, takeWhile_app q b r hb hr]
  have hl := congrArg List.length h.d
  simp at hl
  have hp := h.p
  refine ⟨h.e, ?_, ?_⟩
  · show t.drop (s.p + b.length) = r
    rw [← List.drop_drop, h.d]; simp
  · show s.p + b.length ≤ t.length
    omega
def noBl (r : List UInt8) : Prop := ∀ c l, r = c :: l → isBl c = false
theorem At.blanks {t : List UInt8} {s : St} {b r : List UInt8} (h : At t s (b ++ r)) (h0 : b ≠ []) (hb : b.all isBl = true) (hr : noBl r) : At t (blanks t s) r := by
  cases b with
  | nil => exact absurd rfl h0
  | cons c b =>
    simp only [List.all_cons, Bool.and_eq_true] at hb
    exact ((At.need h hb.1).1).skip hb.2 hr
/-- The number of a text of digits. -/
def val (l : List UInt8) : Int := l.foldl (fun a c => 10 * a + c.toNat - 48) 0
theorem At.digS {t : List UInt8} {s : St} : ∀ (n : Nat) {ds r : List UInt8}, ds.length = n → At t s (ds ++ r) → ds.all isDig = true → At t (digS t n s) r ∧ digV t n s = val ds
  | 0, ds, r, hn, h, _ => by
    obtain rfl := List.length_eq_zero_iff.1 hn
    exact ⟨h, rfl⟩
  | n + 1, ds, r, hn, h, hd => by
    have hne : ds ≠ [] := by intro e; simp [e] at hn
    have hs := List.dropLast_concat_getLast hne
    generalize ds.getLast hne = c at hs
    generalize ds.dropLast = l at hs
    subst hs
    simp only [List.length_append, List.length_cons, List.length_nil] at hn
    simp only [List.all_append, List.all_cons, List.all_nil, Bool.and_true, Bool.and_eq_true] at hd
    rw [List.append_assoc] at h
    obtain ⟨h1, h2⟩ := At.digS n (by omega) h hd.1
    obtain ⟨h3, h4⟩ := h1.need hd.2
    refine ⟨h3, ?_⟩
    unfold digV
    rw [h4, h2]
    simp [val]
theorem At.num {t : List UInt8} {s : St} {ds r : List UInt8} {n : Nat} (hn : ds.length = n) (h : At t s (ds ++ r)) (hd : ds.all isDig = true) : At t (numS t n false s) r ∧ numV t n false s = val ds := by
  have := At.digS n hn h hd
  unfold numS numV
  simpa using this
theorem At.num1 {t : List UInt8} {s : St} {c : UInt8} {r : List UInt8} (h : At t s (c :: r)) (hd : isDig c = true) (hr : ∀ c l, r = c :: l → isDig c = false) : At t (numS t 1 true s) r ∧ numV t 1 true s = val [c] := by
  have h1 := At.digS (ds := [c]) (r := r) 1 rfl h (by simp [hd])
  have hs : Go.Proofs.YtpdncgfkoibacaaDoor.sees t isDig (Go.Proofs.YtpdncgfkoibacaaDoor.digS t 1 s) = false := by
    cases r with
    | nil => have := h1.1.nil; simp [Go.Proofs.YtpdncgfkoibacaaDoor.sees, this]
    | cons d l => rw [h1.1.sees]; exact hr d l rfl
  unfold numS numV
  rw [hs]
  simpa using h1
theorem At.num2 {t : List UInt8} {s : St} {c d : UInt8} {r : List UInt8} (h : At t s (c :: d :: r)) (hc : isDig c = true) (hd : isDig d = true) : At t (numS t 1 true s) r ∧ numV t 1 true s = val [c, d] := by
  have h1 := At.digS (ds := [c]) (r := d :: r) 1 rfl h (by simp [hc])
  have h2 := At.digS (ds := [c, d]) (r := r) 2 rfl h (by simp [hc, hd])
  have hs : Go.Proofs.YtpdncgfkoibacaaDoor.sees t isDig (Go.Proofs.YtpdncgfkoibacaaDoor.digS t 1 s) = true := by
    rw [h1.1.sees]; exact hd
  unfold numS numV
  rw [hs]
  simpa using h2
theorem At.name {t : List UInt8} {s : St} {x r : List UInt8} {names : List (List UInt8)} {i : Nat} (hx : x.length = 3) (h : At t s (x ++ r)) (hf : find3 names x = some i) : At t (nameS t names s) r ∧ nameV t names s = i := by
  have hl := congrArg List.length h.d
  simp at hl
  have hp := h.p
  have hw : word3 t s.p = x := by
    unfold word3; rw [h.d, ← hx]; simp
  have hn : ¬ t.length < s.p + 3 := by omega
  unfold nameS nameV
  rw [if_pos h.e, if_neg hn, hw, hf, if_pos h.e, if_neg hn]
  refine ⟨⟨rfl, ?_, by show s.p + 3 ≤ _; omega⟩, rfl⟩
  show t.drop (s.p + 3) = r
  rw [← List.drop_drop, h.d, ← hx]; simp
theorem At.zone {t : List UInt8} {s : St} {z : List UInt8} {o : Int} (h : At t s z) (h0 : z ≠ []) (he : zoneE z = 0) (hv : zoneV z = o) : (zoneSt t s).e = 0 ∧ zoneOf t s = o := by
  have hp : ¬ s.p = t.length := by
    intro hp
    have := h.d
    rw [hp, List.drop_length] at this
    exact h0 this.symm
  unfold zoneSt zoneOf
  rw [if_pos h.e, if_neg hp, h.d, if_pos he, if_pos h.e, if_neg hp, hv]
  exact ⟨h.e, rfl⟩

/-! Digits. -/
theorem dg_toNat (n : Int) (_h : 0 ≤ n) : ((dg n).toNat : Int) = 48 + n % 10 := by
  unfold dg
  rw [UInt8.toNat_ofNat']
  have : (n % 10).toNat < 10 := by omega
  omega
theorem dg_dig (n : Int) (h : 0 ≤ n) : isDig (dg n) = true := by
  have := dg_toNat n h
  simp [isDig]; omega
theorem val1 {n : Int} (h : 0 ≤ n) (h1 : n < 10) : val [dg n] = n := by
  have := dg_toNat n h
  simp only [val, List.foldl]; omega
theorem val2 {n : Int} (h : 0 ≤ n) (h1 : n < 100) : val (digs 2 n) = n := by
  have a := dg_toNat n h
  have b := dg_toNat (n / 10) (by omega)
  rw [digs2]
  simp only [val, List.foldl]; omega
theorem val4 {n : Int} (h : 0 ≤ n) (h1 : n < 10000) : val (digs 4 n) = n := by
  have a := dg_toNat n h
  have b := dg_toNat (n / 10) (by omega)
  have c := dg_toNat (n / 10 / 10) (by omega)
  have d := dg_toNat (n / 10 / 10 / 10) (by omega)
  rw [digs4]
  simp only [val, List.foldl]; omega
theorem digs2_dig {n : Int} (h : 0 ≤ n) : (digs 2 n).all isDig = true := by
  rw [digs2]; simp [dg_dig n h, dg_dig (n / 10) (by omega)]
theorem digs4_dig {n : Int} (h : 0 ≤ n) : (digs 4 n).all isDig = true := by
  rw [digs4]; simp [dg_dig n h, dg_dig (n / 10) (by omega), dg_dig (n / 10 / 10) (by omega), dg_dig (n / 10 / 10 / 10) (by omega)]
theorem dig_bl {c : UInt8} (h : isDig c = true) : isBl c = false := by
  simp only [isDig, Bool.and_eq_true, decide_eq_true_eq] at h
  simp only [isBl, Bool.or_eq_false_iff, beq_eq_false_iff_ne, ne_eq]
  constructor <;> (intro e; rw [e] at h; simp at h)
theorem let_bl {c : UInt8} (h : isLet c = true) : isBl c = false := by
  simp only [isLet, Bool.or_eq_true, Bool.and_eq_true, decide_eq_true_eq] at h
  simp only [isBl, Bool.or_eq_false_iff, beq_eq_false_iff_ne, ne_eq]
  constructor <;> (intro e; rw [e] at h; simp at h)
theorem bl_dig {c : UInt8} (h : isBl c = true) : isDig c = false := by
  cases hd : isDig c with
  | false => rfl
  | true => rw [dig_bl hd] at h; cases h
theorem dig_let {c : UInt8} (h : isDig c = true) : isLet c = false := by
  simp only [isDig, Bool.and_eq_true, decide_eq_true_eq] at h
  simp [isLet]; omega

/-- The parts of a text of a date. -/
structure Parts where
  wd : Option (List UInt8 × List UInt8)
  day : List UInt8
  b1 : List UInt8
  mon : List UInt8
  b2 : List UInt8
  year : Int
  b3 : List UInt8
  hour : Int
  min : Int
  sec : Option Int
  b4 : List UInt8
  zone : List UInt8
def Parts.wdT (q : Parts) : List UInt8 := match q.wd with | none => [] | some (n, b) => n ++ 44 :: b
def Parts.secT (q : Parts) : List UInt8 := match q.sec with | none => [] | some s => 58 :: digs 2 s
def Parts.text (q : Parts) : List UInt8 :=
  q.wdT ++ (q.day ++ (q.b1 ++ (q.mon ++ (q.b2 ++ (digs 4 q.year ++ (q.b3 ++ (digs 2 q.hour ++ (58 :: (digs 2 q.min ++ (q.secT ++ (q.b4 ++ q.zone)))))))))))
def isBls (b : List UInt8) : Prop := b ≠ [] ∧ b.all isBl = true
/-- What the parts of a text of a minute are like. -/
structure Parts.Fit (q : Parts) (D M wd : Int) (off : Int) : Prop where
  wd : ∀ n b, q.wd = some (n, b) → n.length = 3 ∧ find3 dayTab n = some wd.toNat ∧ 0 ≤ wd ∧ (∀ c l, n = c :: l → isLet c = true) ∧ b.all isBl = true
  day : (q.day = digs 2 D ∨ (q.day = [dg D] ∧ D < 10)) ∧ 0 ≤ D ∧ D < 100
  b1 : isBls q.b1
  mon : q.mon.length = 3 ∧ find3 monTab q.mon = some (M - 1).toNat ∧ 1 ≤ M ∧ (∀ c l, q.mon = c :: l → isLet c = true)
  b2 : isBls q.b2
  year : 0 ≤ q.year ∧ q.year < 10000
  b3 : isBls q.b3
  hour : 0 ≤ q.hour ∧ q.hour < 100
  min : 0 ≤ q.min ∧ q.min < 100
  sec : ∀ s, q.sec = some s → 0 ≤ s ∧ s < 100
  b4 : isBls q.b4
  zone : q.zone ≠ [] ∧ noBl q.zone ∧ zoneE q.zone = 0 ∧ zoneV q.zone = off

theorem noBl_dig {n : Int} (h : 0 ≤ n) (r : List UInt8) : noBl (digs 4 n ++ r) ∧ noBl (digs 2 n ++ r) := by
  rw [digs4, digs2]
  exact ⟨fun c l e => by injection e with e _; rw [← e]; exact dig_bl (dg_dig _ (by omega)), fun c l e => by injection e with e _; rw [← e]; exact dig_bl (dg_dig _ (by omega))⟩
theorem noBl_app {x r : List UInt8} (h0 : x ≠ []) (h : ∀ c l, x = c :: l → isBl c = false) : noBl (x ++ r) := by
  intro c l e
  cases x with
  | nil => exact absurd rfl h0
  | cons d x => injection e with e _; rw [← e]; exact h d x rfl
theorem len3_ne {x : List UInt8} (h : x.length = 3) : x ≠ [] := by intro e; rw [e] at h; cases h

set_option maxHeartbeats 1000000 in
theorem parts_read {q : Parts} {D M wd off : Int} (h : q.Fit D M wd off) (t : List UInt8) (ht : t = q.text) :
    (r13 t).e = 0 ∧ pYear t = q.year ∧ pDay t = D ∧ pMon t = M ∧ pHour t = q.hour ∧ pMin t = q.min ∧ (pSec t = match q.sec with | none => 0 | some s => s) ∧ pOff t = off ∧ (pWd t = match q.wd with | none => -1 | some _ => wd) := by
  have hday : ∀ r, noBl (q.day ++ r) := by
    intro r
    rcases h.day.1 with e | ⟨e, _⟩ <;> rw [e]
    · exact (noBl_dig h.day.2.1 r).2
    · exact noBl_app (by simp) (fun c l e => by injection e with e _; rw [← e]; exact dig_bl (dg_dig _ h.day.2.1))
  have start : At t r0 q.text := ⟨rfl, by rw [ht]; rfl, Nat.zero_le _⟩
  -- the day of the week
  have s1 : At t (r1 t) (q.day ++ (q.b1 ++ (q.mon ++ (q.b2 ++ (digs 4 q.year ++ (q.b3 ++ (digs 2 q.hour ++ (58 :: (digs 2 q.min ++ (q.secT ++ (q.b4 ++ q.zone))))))))))) ∧ (pWd t = match q.wd with | none => -1 | some _ => wd) := by
    unfold Parts.text Parts.wdT at start
    unfold r1 pWd
    cases hw : q.wd with
    | none =>
      rw [hw] at start
      have hs : hasW t = false := by
        unfold hasW
        rcases h.day.1 with e | ⟨e, _⟩
        · rw [e, digs2] at start
          exact (start.sees isLet).trans (dig_let (dg_dig _ (by have := h.day.2.1; omega)))
        · rw [e] at start
          exact (start.sees isLet).trans (dig_let (dg_dig _ h.day.2.1))
      simp only [hs, Bool.false_eq_true, if_false]
      exact ⟨start, trivial⟩
    | some nb =>
      obtain ⟨n, b⟩ := nb
      rw [hw] at start
      obtain ⟨f1, f2, f3, f4, f5⟩ := h.wd n b hw
      have hs : hasW t = true := by
        unfold hasW
        cases n with
        | nil => cases f1
        | cons c n => exact (start.sees isLet).trans (f4 c n rfl)
      simp only [hs, if_true]
      simp only [List.append_assoc] at start
      obtain ⟨g1, g2⟩ := start.name f1 f2
      simp only [List.cons_append] at g1
      obtain ⟨g3, _⟩ := g1.need (q := isCh 44) rfl
      refine ⟨g3.skip f5 (hday _), ?_⟩
      rw [g2]
      omega
  obtain ⟨s1, e0⟩ := s1
  have s2 : At t (r2 t) (q.b1 ++ (q.mon ++ (q.b2 ++ (digs 4 q.year ++ (q.b3 ++ (digs 2 q.hour ++ (58 :: (digs 2 q.min ++ (q.secT ++ (q.b4 ++ q.zone)))))))))) ∧ pDay t = D := by
    unfold r2 pDay
    rcases h.day.1 with e | ⟨e, hd⟩
    · rw [e, digs2] at s1
      have := s1.num2 (dg_dig _ (by have := h.day.2.1; omega)) (dg_dig _ h.day.2.1)
      exact ⟨this.1, this.2.trans (val2 h.day.2.1 h.day.2.2)⟩
    · rw [e] at s1
      have := s1.num1 (dg_dig _ h.day.2.1) (fun c l e => by
        have hb := h.b1
        cases hq : q.b1 with
        | nil => exact absurd hq hb.1
        | cons d x =>
          rw [hq] at e
          injection e with e _
          have h2 := hb.2
          rw [hq, List.all_cons, Bool.and_eq_true] at h2
          rw [← e]; exact bl_dig h2.1)
      exact ⟨this.1, this.2.trans (val1 h.day.2.1 hd)⟩
  obtain ⟨s2, e1⟩ := s2
  have s3 : At t (r3 t) _ := s2.blanks h.b1.1 h.b1.2 (noBl_app (len3_ne h.mon.1) (fun c l e => let_bl (h.mon.2.2.2 c l e)))
  have s4 := s3.name h.mon.1 h.mon.2.1
  have e2 : pMon t = M := by unfold pMon; rw [s4.2]; have := h.mon.2.2.1; omega
  have s5 : At t (r5 t) _ := s4.1.blanks h.b2.1 h.b2.2 (noBl_dig h.year.1 _).1
  have s6 := s5.num (digs_length 4 _) (digs4_dig h.year.1)
  have e3 : pYear t = q.year := s6.2.trans (val4 h.year.1 h.year.2)
  have s7 : At t (r7 t) _ := At.blanks s6.1 h.b3.1 h.b3.2 (noBl_dig h.hour.1 _).2
  have s8 := s7.num (digs_length 2 _) (digs2_dig h.hour.1)
  have e4 : pHour t = q.hour := s8.2.trans (val2 h.hour.1 h.hour.2)
  have s9 : At t (r9 t) _ := (At.need s8.1 (q := isCh 58) rfl).1
  have s10 := s9.num (digs_length 2 _) (digs2_dig h.min.1)
  have e5 : pMin t = q.min := s10.2.trans (val2 h.min.1 h.min.2)
  have t10 : At t (r10 t) (q.secT ++ (q.b4 ++ q.zone)) := s10.1
  have s11 : At t (r11 t) (q.b4 ++ q.zone) ∧ (pSec t = match q.sec with | none => 0 | some s => s) := by
    unfold r11 pSec
    unfold Parts.secT at t10
    cases hs : q.sec with
    | none =>
      rw [hs] at t10
      have h58 : hasS t = false := by
        have hb := h.b4
        unfold hasS
        cases hq : q.b4 with
        | nil => exact absurd hq hb.1
        | cons d x =>
          rw [hq] at t10
          have h2 := hb.2
          rw [hq, List.all_cons, Bool.and_eq_true] at h2
          rw [t10.sees (isCh 58)]
          have h3 := h2.1
          simp only [isBl, Bool.or_eq_true, beq_iff_eq] at h3
          rcases h3 with rfl | rfl <;> rfl
      simp only [h58, Bool.false_eq_true, if_false]
      exact ⟨t10, trivial⟩
    | some s =>
      rw [hs] at t10
      simp only [List.cons_append] at t10
      have h58 : hasS t = true := by
        unfold hasS; rw [t10.sees (isCh 58)]; rfl
      simp only [h58, if_true]
      have a1 : At t (r10a t) _ := (t10.need (q := isCh 58) rfl).1
      have a2 := a1.num (digs_length 2 _) (digs2_dig (h.sec s hs).1)
      exact ⟨a2.1, a2.2.trans (val2 (h.sec s hs).1 (h.sec s hs).2)⟩
  have s12 : At t (r12 t) _ := s11.1.blanks h.b4.1 h.b4.2 h.zone.2.1
  have s13 := s12.zone h.zone.1 h.zone.2.2.1 h.zone.2.2.2
  exact ⟨s13.1, e3, e1, e2, e4, e5, s11.2, s13.2, e0⟩
end Go.Proofs.YtpdncgfkoibacaaDoor
