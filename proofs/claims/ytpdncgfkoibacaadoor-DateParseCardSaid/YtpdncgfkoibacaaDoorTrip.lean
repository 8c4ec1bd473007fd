/- The text of a minute in a zone, and its variants, have that minute; only the text of zone 0 is canonical. No program in sight. -/
import Derived.Test.YtpdncgfkoibacaaDoorBack
namespace Go.Proofs.YtpdncgfkoibacaaDoor
open Cal

def zText (off : Int) : List UInt8 := (if off < 0 then 45 else 43) :: (digs 2 (absI off / 60) ++ digs 2 (absI off % 60))
theorem zoneName_sign (c : UInt8) (l : List UInt8) (h : c = 43 ∨ c = 45) : zoneName (c :: l) = none := by
  rcases h with rfl | rfl <;> simp [zoneName, zoneTab, capL, cap]
theorem zText_len (off : Int) : (zText off).length = 5 := by simp [zText, digs_length]
theorem absI_bd {off : Int} (h0 : -840 ≤ off) (h1 : off ≤ 840) : 0 ≤ absI off ∧ absI off ≤ 840 := by unfold absI; split <;> omega
theorem zText_ok {off : Int} (h0 : -840 ≤ off) (h1 : off ≤ 840) : zoneE (zText off) = 0 ∧ zoneV (zText off) = off := by
  have hA := absI_bd h0 h1
  have hs : (if off < 0 then (45 : UInt8) else 43) = 43 ∨ (if off < 0 then (45 : UInt8) else 43) = 45 := by split <;> simp
  have hl := zText_len off
  have a0 : At (zText off) ⟨1, 0⟩ (digs 2 (absI off / 60) ++ (digs 2 (absI off % 60) ++ [])) := ⟨rfl, by simp [zText], by rw [hl]; decide⟩
  have a1 := At.digS 2 (digs_length 2 _) a0 (digs2_dig (by omega))
  have a2 := At.digS 2 (digs_length 2 _) a1.1 (digs2_dig (by omega))
  have e1 : zh (zText off) = absI off / 60 := a1.2.trans (val2 (by omega) (by omega))
  have e2 : zm (zText off) = absI off % 60 := a2.2.trans (val2 (by omega) (by omega))
  have e3 : (zs (zText off)).e = 0 := a2.1.e
  have e4 : at0 (zText off) 0 = if off < 0 then 45 else 43 := rfl
  have hn : zoneName (zText off) = none := zoneName_sign _ _ hs
  have hE : zoneE (zText off) = 0 := by
    unfold zoneE
    rw [hn]
    simp only
    rw [if_neg, if_neg]
    · rw [e1, e2]; omega
    · rw [e2, e3, e4, hl]
      rcases hs with h | h <;> rw [h] <;> simp <;> omega
  refine ⟨hE, ?_⟩
  unfold zoneV
  rw [hn]
  simp only
  rw [hE, if_neg (by simp), e1, e2, e4]
  unfold absI
  split
  · rw [if_pos rfl]; omega
  · rw [if_neg (by decide)]; omega
theorem zText_noBl (off : Int) : noBl (zText off) := by
  intro c l e
  injection e with e _
  rw [← e]; split <;> rfl

/-- parseF's answer, of its parts. -/
def parseG (len : Nat) (e p : Nat) (year day mon hour mn sec secAt wd loc off : Int) (p5 p1 p7 p9 : Nat) : Int × Int × Int :=
  if 64 < len then (0, 64, 5)
  else if e ≠ 0 then (0, p, e)
  else if year < 2000 ∨ 2199 < year then (0, p5, 2)
  else if day < 1 ∨ md year mon < day then (0, p1, 13)
  else if 23 < hour then (0, p7, 13)
  else if 59 < mn then (0, p9, 13)
  else if 60 < sec then (0, secAt, 13)
  else if 0 ≤ wd ∧ wd ≠ (loc / 1440 + 5) % 7 then (0, 0, 13)
  else if loc - off < 0 ∨ 105190559 < loc - off then (0, 0, 2)
  else (loc - off, 0, 0)
theorem parseF_eq (t : List UInt8) : parseF t = parseG t.length (r13 t).e (r13 t).p (pYear t) (pDay t) (pMon t) (pHour t) (pMin t) (pSec t) (pSecAt t) (pWd t) (pLoc t) (pOff t) (r5 t).p (r1 t).p (r7 t).p (r9 t).p := by
  unfold parseF parseG; rfl
theorem parseG_ok {len e p : Nat} {year day mon hour mn sec secAt wd loc off : Int} {p5 p1 p7 p9 : Nat} (h1 : len ≤ 64) (h2 : e = 0) (h3 : 2000 ≤ year ∧ year ≤ 2199) (h4 : 1 ≤ day ∧ day ≤ md year mon) (h5 : hour ≤ 23) (h6 : mn ≤ 59) (h7 : sec ≤ 60)
    (h8 : wd < 0 ∨ wd = (loc / 1440 + 5) % 7) (h9 : 0 ≤ loc - off ∧ loc - off ≤ 105190559) : parseG len e p year day mon hour mn sec secAt wd loc off p5 p1 p7 p9 = (loc - off, 0, 0) := by
  unfold parseG
  rw [if_neg (by omega), if_neg (by omega), if_neg (by omega), if_neg (by omega), if_neg (by omega), if_neg (by omega), if_neg (by omega), if_neg (by omega), if_neg (by omega)]

theorem parse_parts {q : Parts} {m off : Int} (h0 : 0 ≤ m) (h1 : m ≤ 105190559) (s0 : 0 ≤ m + off) (s1 : m + off ≤ 105190559)
    (h : q.Fit (civD ((m + off) / 1440)) (civM ((m + off) / 1440)) (((m + off) / 1440 + 5) % 7) off) (hy : q.year = civY ((m + off) / 1440)) (hh : q.hour = (m + off) % 1440 / 60) (hn : q.min = (m + off) % 60)
    (hs : ∀ s, q.sec = some s → s ≤ 60) (hl : q.text.length ≤ 64) : parseF q.text = (m, 0, 0) := by
  obtain ⟨e0, e1, e2, e3, e4, e5, e6, e7, e8⟩ := parts_read h q.text rfl
  have hY := civY_spec ((m + off) / 1440) (by omega) (by omega)
  have hM := civM_spec ((m + off) / 1440) (by omega) (by omega)
  have hD := civD_spec ((m + off) / 1440) (by omega) (by omega)
  have hloc : pLoc q.text = m + off := by
    unfold pLoc
    rw [e1, e2, e3, e4, e5, hy, hh, hn, dayNum_civ _ (by omega) (by omega)]
    omega
  have hsec : pSec q.text ≤ 60 := by
    rw [e6]
    cases hq : q.sec with
    | none => simp
    | some s => exact hs s hq
  have hwd : pWd q.text < 0 ∨ pWd q.text = (pLoc q.text / 1440 + 5) % 7 := by
    rw [e8, hloc]
    cases q.wd with
    | none => exact .inl (show (-1 : Int) < 0 by decide)
    | some _ => exact .inr rfl
  rw [hloc] at hwd
  rw [parseF_eq, hloc, e7, parseG_ok hl e0 (by rw [e1, hy]; omega) (by rw [e1, e2, e3, hy]; omega) (by rw [e4, hh]; omega) (by rw [e5, hn]; omega) hsec hwd (by omega)]
  rw [show m + off - off = m by omega]

/-! The text of a minute is a text of parts. -/
theorem dayN_find {d : Int} (h0 : 0 ≤ d) (h1 : d < 7) : (dayN d).length = 3 ∧ find3 dayTab (dayN d) = some d.toNat ∧ (∀ c l, dayN d = c :: l → isLet c = true) := by
  have hm : d = 0 ∨ d = 1 ∨ d = 2 ∨ d = 3 ∨ d = 4 ∨ d = 5 ∨ d = 6 := by omega
  rcases hm with rfl | rfl | rfl | rfl | rfl | rfl | rfl <;> exact ⟨rfl, by decide, fun c l e => by injection e with e _; rw [← e]; decide⟩
theorem monN_find {d : Int} (h0 : 1 ≤ d) (h1 : d ≤ 12) : (monN d).length = 3 ∧ find3 monTab (monN d) = some (d - 1).toNat ∧ (∀ c l, monN d = c :: l → isLet c = true) := by
  have hm : d = 1 ∨ d = 2 ∨ d = 3 ∨ d = 4 ∨ d = 5 ∨ d = 6 ∨ d = 7 ∨ d = 8 ∨ d = 9 ∨ d = 10 ∨ d = 11 ∨ d = 12 := by omega
  rcases hm with rfl | rfl | rfl | rfl | rfl | rfl | rfl | rfl | rfl | rfl | rfl | rfl <;> exact ⟨rfl, by decide, fun c l e => by injection e with e _; rw [← e]; decide⟩
def fmtParts (M off : Int) : Parts :=
  { wd := some (dayN ((M / 1440 + 5) % 7), [32]), day := digs 2 (civD (M / 1440)), b1 := [32], mon := monN (civM (M / 1440)), b2 := [32], year := civY (M / 1440), b3 := [32], hour := M % 1440 / 60, min := M % 60, sec := none, b4 := [32], zone := zText off }
theorem fmt_parts (M off : Int) : fmtText M off = (fmtParts M off).text := by
  simp [fmtText, fmtParts, Parts.text, Parts.wdT, Parts.secT, zText]
theorem fmtText_len {M off : Int} (h0 : 0 ≤ M) (h1 : M ≤ 105190559) : (fmtText M off).length = 28 := by
  have hM := civM_spec (M / 1440) (by omega) (by omega)
  have a := (dayN_find (d := (M / 1440 + 5) % 7) (by omega) (by omega)).1
  have b := (monN_find hM.1 hM.2.1).1
  simp [fmtText, digs_length, a, b]
theorem parse_fmt {m off : Int} (h0 : 0 ≤ m) (h1 : m ≤ 105190559) (o0 : -840 ≤ off) (o1 : off ≤ 840) (s0 : 0 ≤ m + off) (s1 : m + off ≤ 105190559) : parseF (fmtText (m + off) off) = (m, 0, 0) := by
  have hY := civY_spec ((m + off) / 1440) (by omega) (by omega)
  have hM := civM_spec ((m + off) / 1440) (by omega) (by omega)
  have hD := civD_spec ((m + off) / 1440) (by omega) (by omega)
  have hB := md_bd (civY ((m + off) / 1440)) (civM ((m + off) / 1440))
  have hd := dayN_find (d := ((m + off) / 1440 + 5) % 7) (by omega) (by omega)
  have hm := monN_find hM.1 hM.2.1
  have hz := zText_ok o0 o1
  have bl : isBls [32] := ⟨by simp, by decide⟩
  have hlen := fmtText_len (off := off) s0 s1
  rw [fmt_parts] at hlen ⊢
  refine parse_parts h0 h1 s0 s1 ?_ rfl rfl rfl (by intro s hs; simp [fmtParts] at hs) (by omega)
  exact { wd := by
            intro n b e
            simp only [fmtParts, Option.some.injEq, Prod.mk.injEq] at e
            obtain ⟨rfl, rfl⟩ := e
            exact ⟨hd.1, hd.2.1, by omega, hd.2.2, by decide⟩
          day := ⟨.inl rfl, by omega, by omega⟩
          b1 := bl
          mon := ⟨hm.1, hm.2.1, hM.1, hm.2.2⟩
          b2 := bl
          year := ⟨by show 0 ≤ civY _; omega, by show civY _ < _; omega⟩
          b3 := bl
          hour := ⟨by show 0 ≤ _ % 1440 / 60; omega, by show _ % 1440 / 60 < 100; omega⟩
          min := ⟨by show 0 ≤ _ % 60; omega, by show _ % 60 < 100; omega⟩
          sec := by intro s hs; simp [fmtParts] at hs
          b4 := bl
          zone := ⟨by simp [fmtParts, zText], zText_noBl off, hz.1, hz.2⟩ }

/-- The canonical texts. -/
def canonB (t : List UInt8) : Bool := (parseF t).2.2 == 0 && (fmtText (parseF t).1 0 == t)
theorem parseF_val (t : List UInt8) : (0 ≤ (parseF t).1 ∧ (parseF t).1 ≤ 105190559) ∧ ((parseF t).2.2 ≠ 0 → (parseF t).1 = 0) := by
  unfold parseF
  repeat (split; · exact ⟨by simp, fun _ => rfl⟩)
  refine ⟨by omega, fun h => absurd rfl h⟩
theorem canon_fmt {m off : Int} (h0 : 0 ≤ m) (h1 : m ≤ 105190559) (o0 : -840 ≤ off) (o1 : off ≤ 840) (s0 : 0 ≤ m + off) (s1 : m + off ≤ 105190559) : canonB (fmtText (m + off) off) = (off == 0) := by
  unfold canonB
  rw [parse_fmt h0 h1 o0 o1 s0 s1]
  by_cases hz : off = 0
  · subst hz; rw [Int.add_zero]; simp
  · have : fmtText m 0 ≠ fmtText (m + off) off := by
      intro e
      have hA := absI_bd o0 o1
      unfold fmtText at e
      obtain ⟨e1, e2⟩ := List.append_inj' e (by simp [digs_length])
      obtain ⟨_, e3⟩ := List.append_inj' e1 (by simp [digs_length])
      have g2 := congrArg val e2
      have g3 := congrArg val e3
      have z : absI 0 = 0 := rfl
      rw [val2 (by rw [z]; decide) (by rw [z]; decide), val2 (by omega) (by omega), z] at g2 g3
      simp at g2 g3
      have : absI off = 0 := by omega
      unfold absI at this
      split at this <;> omega
    have hne : (off == 0) = false := by simpa using hz
    rw [hne]
    simpa using this
end Go.Proofs.YtpdncgfkoibacaaDoor
