/- The variants of a text of a date that the law tries have the minute of that text. No program in sight but for two functions of bytes. -/
import Derived.Test.YtpdncgfkoibacaaDoorTrip
import Derived.Test.YtpdncgfkoibacaaDoorRefLow
namespace Go.Proofs.YtpdncgfkoibacaaDoor
open Cal

def bl4 (g : Nat) : List UInt8 := if g % 4 = 0 then [32] else if g % 4 = 1 then [32, 32] else if g % 4 = 2 then [9] else [32, 9, 32]
theorem bl4_bl (g : Nat) : isBls (bl4 g) := by
  unfold bl4 isBls; split
  · exact ⟨by simp, by decide⟩
  · split
    · exact ⟨by simp, by decide⟩
    · split <;> exact ⟨by simp, by decide⟩
theorem bl4_len (g : Nat) : (bl4 g).length ≤ 3 := by
  unfold bl4; split
  · decide
  · split
    · decide
    · split <;> decide
def cpt (u : Bool) (l : List UInt8) : List UInt8 := if u then capL l else lowL l
theorem cpt_app (u : Bool) (a b : List UInt8) : cpt u (a ++ b) = cpt u a ++ cpt u b := by unfold cpt capL lowL; cases u <;> simp
theorem cpt_cons (u : Bool) (c : UInt8) (b : List UInt8) : cpt u (c :: b) = cpt u [c] ++ cpt u b := cpt_app u [c] b
theorem cpt_len (u : Bool) (l : List UInt8) : (cpt u l).length = l.length := by unfold cpt capL lowL; cases u <;> simp
theorem cpt_one (u : Bool) {c : UInt8} (h : isLet c = false) : cpt u [c] = [c] := by
  have h' : (c.toNat < 65 ∨ 90 < c.toNat) ∧ (c.toNat < 97 ∨ 122 < c.toNat) := by
    simp only [isLet, Bool.or_eq_false_iff, Bool.and_eq_false_iff, decide_eq_false_iff_not] at h; omega
  unfold cpt capL lowL
  cases u
  · simp [low_id h'.1]
  · simp [cap_id h'.2]
theorem cpt_fix (u : Bool) : ∀ (l : List UInt8), (l.all fun c => !isLet c) = true → cpt u l = l
  | [], _ => by unfold cpt; cases u <;> rfl
  | c :: l, h => by
    simp only [List.all_cons, Bool.and_eq_true, Bool.not_eq_true'] at h
    rw [cpt_cons, cpt_one u h.1, cpt_fix u l h.2]; rfl
theorem bl4_nl (g : Nat) : ((bl4 g).all fun c => !isLet c) = true := by
  unfold bl4; split
  · decide
  · split
    · decide
    · split <;> decide
theorem dig_nl {l : List UInt8} (h : l.all isDig = true) : (l.all fun c => !isLet c) = true := by
  simp only [List.all_eq_true, Bool.not_eq_true'] at h ⊢
  exact fun c hc => dig_let (h c hc)
theorem zText_nl {off : Int} (h0 : -840 ≤ off) (h1 : off ≤ 840) : ((zText off).all fun c => !isLet c) = true := by
  have hA := absI_bd h0 h1
  unfold zText
  rw [List.all_cons, List.all_append, dig_nl (digs2_dig (by omega)), dig_nl (digs2_dig (by omega))]
  split <;> decide
theorem cpt_day (u : Bool) {d : Int} (h0 : 0 ≤ d) (h1 : d < 7) : (cpt u (dayN d)).length = 3 ∧ find3 dayTab (cpt u (dayN d)) = some d.toNat ∧ (∀ c l, cpt u (dayN d) = c :: l → isLet c = true) := by
  have hm : d = 0 ∨ d = 1 ∨ d = 2 ∨ d = 3 ∨ d = 4 ∨ d = 5 ∨ d = 6 := by omega
  rcases hm with rfl | rfl | rfl | rfl | rfl | rfl | rfl <;> cases u <;> exact ⟨rfl, by decide, fun c l e => by injection e with e _; rw [← e]; decide⟩
theorem cpt_mon (u : Bool) {d : Int} (h0 : 1 ≤ d) (h1 : d ≤ 12) : (cpt u (monN d)).length = 3 ∧ find3 monTab (cpt u (monN d)) = some (d - 1).toNat ∧ (∀ c l, cpt u (monN d) = c :: l → isLet c = true) := by
  have hm : d = 1 ∨ d = 2 ∨ d = 3 ∨ d = 4 ∨ d = 5 ∨ d = 6 ∨ d = 7 ∨ d = 8 ∨ d = 9 ∨ d = 10 ∨ d = 11 ∨ d = 12 := by omega
  rcases hm with rfl | rfl | rfl | rfl | rfl | rfl | rfl | rfl | rfl | rfl | rfl | rfl <;> cases u <;> exact ⟨rfl, by decide, fun c l e => by injection e with e _; rw [← e]; decide⟩

/-- What the law puts together, of a text F. -/
def vW (F : List UInt8) (g : Nat) (wk : Bool) : List UInt8 := if wk then F.take 4 ++ bl4 g else []
def vD (F : List UInt8) (sh : Bool) : List UInt8 := if (!sh || at0 F 5 != 48) then (F.drop 5).take 1 else []
def vS (s : Nat) : List UInt8 := if s < 61 then 58 :: digs 2 s else []
def vM (F : List UInt8) (g : Nat) : List UInt8 := (F.drop 6).take 1 ++ bl4 g ++ (F.drop 8).take 3 ++ bl4 (g / 4) ++ (F.drop 12).take 4 ++ bl4 (g / 16) ++ (F.drop 17).take 5
def vT (F : List UInt8) (g s : Nat) (wk sh u : Bool) : List UInt8 := cpt u (vW F g wk ++ vD F sh ++ vM F g ++ vS s ++ bl4 (g / 64) ++ F.drop 23)

theorem fmt_cut {M off : Int} (h0 : 0 ≤ M) (h1 : M ≤ 105190559) :
    (fmtText M off).take 4 = dayN ((M / 1440 + 5) % 7) ++ [44] ∧ at0 (fmtText M off) 5 = dg (civD (M / 1440) / 10) ∧ ((fmtText M off).drop 5).take 1 = [dg (civD (M / 1440) / 10)] ∧ ((fmtText M off).drop 6).take 1 = [dg (civD (M / 1440))] ∧
    ((fmtText M off).drop 8).take 3 = monN (civM (M / 1440)) ∧ ((fmtText M off).drop 12).take 4 = digs 4 (civY (M / 1440)) ∧ ((fmtText M off).drop 17).take 5 = digs 2 (M % 1440 / 60) ++ 58 :: digs 2 (M % 60) ∧ (fmtText M off).drop 23 = zText off := by
  have hM := civM_spec (M / 1440) (by omega) (by omega)
  have a := (dayN_find (d := (M / 1440 + 5) % 7) (by omega) (by omega)).1
  have b := (monN_find hM.1 hM.2.1).1
  unfold fmtText zText
  generalize dayN ((M / 1440 + 5) % 7) = W at *
  generalize monN (civM (M / 1440)) = O at *
  match W, a with
  | [w0, w1, w2], _ =>
    match O, b with
    | [o0, o1, o2], _ =>
      simp only [digs2, digs4]
      exact ⟨by simp, by simp [at0], by simp, by simp, by simp, by simp, by simp, by simp⟩

theorem variant_parse {m off : Int} (g s : Nat) (wk sh u : Bool) (h0 : 0 ≤ m) (h1 : m ≤ 105190559) (o0 : -840 ≤ off) (o1 : off ≤ 840) (s0 : 0 ≤ m + off) (s1 : m + off ≤ 105190559) :
    parseF (vT (fmtText (m + off) off) g s wk sh u) = (m, 0, 0) ∧ (vT (fmtText (m + off) off) g s wk sh u).length ≤ 64 := by
  have hY := civY_spec ((m + off) / 1440) (by omega) (by omega)
  have hM := civM_spec ((m + off) / 1440) (by omega) (by omega)
  have hD := civD_spec ((m + off) / 1440) (by omega) (by omega)
  have hB := md_bd (civY ((m + off) / 1440)) (civM ((m + off) / 1440))
  have hd := cpt_day u (d := ((m + off) / 1440 + 5) % 7) (by omega) (by omega)
  have hm := cpt_mon u hM.1 hM.2.1
  have hz := zText_ok o0 o1
  obtain ⟨e1, e2, e3, e4, e5, e6, e7, e8⟩ := fmt_cut (M := m + off) (off := off) s0 s1
  -- the day's digits
  have hvD : vD (fmtText (m + off) off) sh ++ [dg (civD ((m + off) / 1440))] = (if (!sh || decide (10 ≤ civD ((m + off) / 1440))) then digs 2 (civD ((m + off) / 1440)) else [dg (civD ((m + off) / 1440))]) := by
    unfold vD
    rw [e2, e3]
    have hb : (dg (civD ((m + off) / 1440) / 10) != 48) = decide (10 ≤ civD ((m + off) / 1440)) := by
      rw [Bool.eq_iff_iff]
      have := dg_toNat (civD ((m + off) / 1440) / 10) (by omega)
      simp only [bne_iff_ne, ne_eq, ← UInt8.toNat_inj, decide_eq_true_eq]
      simp
      omega
    rw [hb]
    split
    · rw [digs2]; rfl
    · rfl
  let q : Parts := { wd := if wk then some (cpt u (dayN (((m + off) / 1440 + 5) % 7)), bl4 g) else none, day := if (!sh || decide (10 ≤ civD ((m + off) / 1440))) then digs 2 (civD ((m + off) / 1440)) else [dg (civD ((m + off) / 1440))], b1 := bl4 g, mon := cpt u (monN (civM ((m + off) / 1440))), b2 := bl4 (g / 4), year := civY ((m + off) / 1440), b3 := bl4 (g / 16), hour := (m + off) % 1440 / 60, min := (m + off) % 60, sec := if s < 61 then some (s : Int) else none, b4 := bl4 (g / 64), zone := zText off }
  have hday : (cpt u (vD (fmtText (m + off) off) sh ++ [dg (civD ((m + off) / 1440))])) = q.day := by
    rw [hvD]
    show cpt u _ = if _ then _ else _
    split
    · exact cpt_fix u _ (dig_nl (digs2_dig (by omega)))
    · exact cpt_fix u _ (by simp [dig_let (dg_dig (civD ((m + off) / 1440)) (by omega))])
  have hwd : cpt u (vW (fmtText (m + off) off) g wk) = q.wdT := by
    unfold vW Parts.wdT
    cases wk
    · show cpt u [] = []; unfold cpt; cases u <;> rfl
    · simp only [if_true, q]
      rw [e1, cpt_app, cpt_app, cpt_fix u _ (bl4_nl g), cpt_one u (by decide)]; simp
  have hsec : cpt u (vS s) = q.secT := by
    unfold vS Parts.secT
    by_cases hs : s < 61
    · simp only [q, if_pos hs]
      rw [cpt_cons, cpt_one u (by decide), cpt_fix u _ (dig_nl (digs2_dig (by omega)))]; rfl
    · simp only [q, if_neg hs]; unfold cpt; cases u <;> rfl
  have ht : vT (fmtText (m + off) off) g s wk sh u = q.text := by
    unfold vT vM Parts.text
    rw [e4, e5, e6, e7, e8, ← hwd, ← hday, ← hsec]
    simp only [cpt_app, List.append_assoc, q]
    rw [cpt_fix u _ (bl4_nl g), cpt_fix u _ (bl4_nl (g / 4)), cpt_fix u _ (bl4_nl (g / 16)), cpt_fix u _ (bl4_nl (g / 64)), cpt_fix u _ (dig_nl (digs4_dig (n := civY ((m + off) / 1440)) (by omega))), cpt_fix u _ (dig_nl (digs2_dig (n := (m + off) % 1440 / 60) (by omega))), cpt_cons u 58, cpt_one u (show isLet 58 = false by decide), cpt_fix u _ (dig_nl (digs2_dig (n := (m + off) % 60) (by omega))), cpt_fix u _ (zText_nl o0 o1)]
    simp only [List.cons_append, List.nil_append]
  have hlen : (vT (fmtText (m + off) off) g s wk sh u).length ≤ 64 := by
    have l0 := fmtText_len (off := off) s0 s1
    have b0 := bl4_len g; have b1 := bl4_len (g / 4); have b2 := bl4_len (g / 16); have b3 := bl4_len (g / 64)
    have w0 : (vW (fmtText (m + off) off) g wk).length ≤ 7 := by unfold vW; split <;> simp; omega
    have d0 : (vD (fmtText (m + off) off) sh).length ≤ 1 := by unfold vD; split <;> simp; omega
    have v0 : (vS s).length ≤ 3 := by unfold vS; split <;> simp [digs_length]
    unfold vT vM
    rw [cpt_len]
    simp only [List.length_append, List.length_take, List.length_drop, l0]
    omega
  refine ⟨?_, hlen⟩
  rw [ht] at hlen ⊢
  refine parse_parts h0 h1 s0 s1 ?_ rfl rfl rfl ?_ hlen
  · exact { wd := by
              intro n b e
              cases wk
              · simp [q] at e
              · simp only [q, if_true, Option.some.injEq, Prod.mk.injEq] at e
                obtain ⟨rfl, rfl⟩ := e
                exact ⟨hd.1, hd.2.1, by omega, hd.2.2, (bl4_bl g).2⟩
            day := ⟨by
              show (if _ then _ else _) = _ ∨ ((if _ then _ else _) = _ ∧ _)
              by_cases hc : (!sh || decide (10 ≤ civD ((m + off) / 1440))) = true
              · rw [if_pos hc]; exact .inl rfl
              · rw [if_neg hc]
                simp at hc
                exact .inr ⟨rfl, by omega⟩, by omega, by omega⟩
            b1 := bl4_bl g
            mon := ⟨hm.1, hm.2.1, hM.1, hm.2.2⟩
            b2 := bl4_bl _
            year := ⟨by show 0 ≤ civY _; omega, by show civY _ < _; omega⟩
            b3 := bl4_bl _
            hour := ⟨by show 0 ≤ _ % 1440 / 60; omega, by show _ % 1440 / 60 < 100; omega⟩
            min := ⟨by show 0 ≤ _ % 60; omega, by show _ % 60 < 100; omega⟩
            sec := by
              intro x hx
              by_cases hs : s < 61
              · simp only [q, if_pos hs, Option.some.injEq] at hx; omega
              · simp [q, hs] at hx
            b4 := bl4_bl _
            zone := ⟨by simp [q, zText], zText_noBl off, hz.1, hz.2⟩ }
  · intro x hx
    by_cases hs : s < 61
    · simp only [q, if_pos hs, Option.some.injEq] at hx; omega
    · simp [q, hs] at hx
end Go.Proofs.YtpdncgfkoibacaaDoor
