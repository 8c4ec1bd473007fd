/- What the reference's Zone computes is what package date's Zone computes, in plain lists of bytes. No program in sight. -/
import Derived.Test.YtpdncgfkoibacaaDoorBack
namespace Go.Proofs.YtpdncgfkoibacaaDoor

def zNames : List (List UInt8) := [[85, 84], [85, 84, 67], [71, 77, 84], [90], [69, 83, 84], [69, 68, 84], [67, 83, 84], [67, 68, 84], [77, 83, 84], [77, 68, 84], [80, 83, 84], [80, 68, 84]]
def zOffs : List Int := [0, 0, 0, 0, -300, -240, -360, -300, -420, -360, -480, -420]
theorem zNames_find (z : List UInt8) : (find3 zNames z = none ∧ zoneName z = none) ∨ ∃ i, i < 12 ∧ find3 zNames z = some i ∧ zoneName z = some (zOffs.getD i 0) := by
  unfold find3 zoneName
  generalize capL z = y
  by_cases h0 : y = [85, 84]
  · subst h0; exact .inr ⟨0, by decide, by decide, by decide⟩
  by_cases h1 : y = [85, 84, 67]
  · subst h1; exact .inr ⟨1, by decide, by decide, by decide⟩
  by_cases h2 : y = [71, 77, 84]
  · subst h2; exact .inr ⟨2, by decide, by decide, by decide⟩
  by_cases h3 : y = [90]
  · subst h3; exact .inr ⟨3, by decide, by decide, by decide⟩
  by_cases h4 : y = [69, 83, 84]
  · subst h4; exact .inr ⟨4, by decide, by decide, by decide⟩
  by_cases h5 : y = [69, 68, 84]
  · subst h5; exact .inr ⟨5, by decide, by decide, by decide⟩
  by_cases h6 : y = [67, 83, 84]
  · subst h6; exact .inr ⟨6, by decide, by decide, by decide⟩
  by_cases h7 : y = [67, 68, 84]
  · subst h7; exact .inr ⟨7, by decide, by decide, by decide⟩
  by_cases h8 : y = [77, 83, 84]
  · subst h8; exact .inr ⟨8, by decide, by decide, by decide⟩
  by_cases h9 : y = [77, 68, 84]
  · subst h9; exact .inr ⟨9, by decide, by decide, by decide⟩
  by_cases h10 : y = [80, 83, 84]
  · subst h10; exact .inr ⟨10, by decide, by decide, by decide⟩
  by_cases h11 : y = [80, 68, 84]
  · subst h11; exact .inr ⟨11, by decide, by decide, by decide⟩
  refine .inl ⟨?_, ?_⟩
  · rw [List.findIdx?_eq_none_iff]
    intro x hx
    simp only [zNames, List.mem_cons, List.not_mem_nil, or_false] at hx
    rcases hx with rfl | rfl | rfl | rfl | rfl | rfl | rfl | rfl | rfl | rfl | rfl | rfl <;> (rw [beq_eq_false_iff_ne]; intro e; first | exact h0 e.symm | exact h1 e.symm | exact h2 e.symm | exact h3 e.symm | exact h4 e.symm | exact h5 e.symm | exact h6 e.symm | exact h7 e.symm | exact h8 e.symm | exact h9 e.symm | exact h10 e.symm | exact h11 e.symm)
  · rw [Option.map_eq_none_iff, List.find?_eq_none]
    intro x hx
    simp only [zoneTab, List.mem_cons, List.not_mem_nil, or_false] at hx
    rcases hx with rfl | rfl | rfl | rfl | rfl | rfl | rfl | rfl | rfl | rfl | rfl | rfl <;> (simp only [beq_iff_eq]; intro e; first | exact h0 e.symm | exact h1 e.symm | exact h2 e.symm | exact h3 e.symm | exact h4 e.symm | exact h5 e.symm | exact h6 e.symm | exact h7 e.symm | exact h8 e.symm | exact h9 e.symm | exact h10 e.symm | exact h11 e.symm)

/-- A zone that is no name: its error and its offset, of its five bytes. -/
theorem zl_len {z : List UInt8} (hn : zoneName z = none) (h : z.length ≠ 5) : zoneE z = 3 ∧ zoneV z = 0 := by
  have hE : zoneE z = 3 := by unfold zoneE; rw [hn]; simp only; rw [if_pos (.inl h)]
  exact ⟨hE, by unfold zoneV; rw [hn]; simp only; rw [hE, if_pos (by decide)]⟩
theorem zl_sign {z : List UInt8} (hn : zoneName z = none) (h : at0 z 0 ≠ 43 ∧ at0 z 0 ≠ 45) : zoneE z = 3 ∧ zoneV z = 0 := by
  have hE : zoneE z = 3 := by unfold zoneE; rw [hn]; simp only; rw [if_pos (.inr (.inl h))]
  exact ⟨hE, by unfold zoneV; rw [hn]; simp only; rw [hE, if_pos (by decide)]⟩
theorem zl_bad {z : List UInt8} (hn : zoneName z = none) (h : (zs z).e ≠ 0 ∨ 59 < zm z) : zoneE z = 3 ∧ zoneV z = 0 := by
  have hE : zoneE z = 3 := by unfold zoneE; rw [hn]; simp only; rw [if_pos (.inr (.inr h))]
  exact ⟨hE, by unfold zoneV; rw [hn]; simp only; rw [hE, if_pos (by decide)]⟩
theorem zl_need {t : List UInt8} {p : Nat} (h : isDig (at0 t p) = false) : (need t isDig ⟨p, 0⟩).e ≠ 0 := by
  intro he
  have := (need_e he).1
  simp only [sees, Bool.and_eq_true] at this
  rw [h] at this; cases this.2
theorem zs_digits {z : List UInt8} (h : (zs z).e = 0) : isDig (at0 z 1) = true ∧ isDig (at0 z 2) = true ∧ isDig (at0 z 3) = true ∧ isDig (at0 z 4) = true := by
  unfold zs at h
  have a4 := need_e h
  have a3 := need_e a4.2
  have a2 := need_e a3.2
  have a1 := need_e a2.2
  have p1 : (digS z 1 ⟨1, 0⟩).p = 2 := by show (need z isDig (digS z 0 ⟨1, 0⟩)).p = 2; unfold need; rw [if_pos a1.1]; rfl
  have p2 : (digS z 2 ⟨1, 0⟩).p = 3 := by show (need z isDig (digS z 1 ⟨1, 0⟩)).p = 3; unfold need; rw [if_pos a2.1, p1]
  have p3 : (digS z 1 (digS z 2 ⟨1, 0⟩)).p = 4 := by show (need z isDig (digS z 0 (digS z 2 ⟨1, 0⟩))).p = 4; unfold need; rw [if_pos a3.1]; show (digS z 2 ⟨1, 0⟩).p + 1 = 4; rw [p2]
  have q1 := a1.1; have q2 := a2.1; have q3 := a3.1; have q4 := a4.1
  simp only [sees, Bool.and_eq_true] at q1 q2 q3 q4
  rw [p1] at q2
  rw [p3] at q4
  have q3' := q3.2
  change isDig (at0 z (digS z 2 ⟨1, 0⟩).p) = true at q3'
  rw [p2] at q3'
  exact ⟨q1.2, q2.2, q3', q4.2⟩
theorem zl_nodig {z : List UInt8} (hn : zoneName z = none) (h : isDig (at0 z 1) = false ∨ isDig (at0 z 2) = false ∨ isDig (at0 z 3) = false ∨ isDig (at0 z 4) = false) : zoneE z = 3 ∧ zoneV z = 0 := by
  refine zl_bad hn (.inl fun he => ?_)
  obtain ⟨a, b, c, d⟩ := zs_digits he
  rcases h with h | h | h | h <;> simp_all
theorem zl_five {z : List UInt8} (h : z.length = 5) : z = [at0 z 0, at0 z 1, at0 z 2, at0 z 3, at0 z 4] := by
  match z, h with
  | [a, b, c, d, e], _ => rfl
theorem zl_dig {z : List UInt8} (h5 : z.length = 5) (d1 : isDig (at0 z 1) = true) (d2 : isDig (at0 z 2) = true) (d3 : isDig (at0 z 3) = true) (d4 : isDig (at0 z 4) = true) :
    (zs z).e = 0 ∧ zh z = ((at0 z 1).toNat - 48 : Int) * 10 + ((at0 z 2).toNat - 48) ∧ zm z = ((at0 z 3).toNat - 48 : Int) * 10 + ((at0 z 4).toNat - 48) := by
  have hl := zl_five h5
  have a0 : At z ⟨1, 0⟩ ([at0 z 1, at0 z 2] ++ ([at0 z 3, at0 z 4] ++ [])) := ⟨rfl, by
    show z.drop 1 = _
    generalize at0 z 0 = a at hl; generalize at0 z 1 = b at hl ⊢; generalize at0 z 2 = c at hl ⊢; generalize at0 z 3 = d at hl ⊢; generalize at0 z 4 = e at hl ⊢
    rw [hl]; rfl, by show 1 ≤ z.length; omega⟩
  have a1 := At.digS 2 rfl a0 (by simp [d1, d2])
  have a2 := At.digS 2 rfl a1.1 (by simp [d3, d4])
  refine ⟨a2.1.e, a1.2.trans ?_, a2.2.trans ?_⟩
  · simp only [val, List.foldl]; omega
  · simp only [val, List.foldl]; omega
theorem zl_min {z : List UInt8} (hn : zoneName z = none) (h5 : z.length = 5) (d1 : isDig (at0 z 1) = true) (d2 : isDig (at0 z 2) = true) (d3 : isDig (at0 z 3) = true) (d4 : isDig (at0 z 4) = true) (h : 53 < (at0 z 3).toNat) : zoneE z = 3 ∧ zoneV z = 0 := by
  have := zl_dig h5 d1 d2 d3 d4
  simp only [isDig, Bool.and_eq_true, decide_eq_true_eq] at d4
  exact zl_bad hn (.inr (by rw [this.2.2]; omega))
def zoneN (z : List UInt8) : Int := (((at0 z 1).toNat - 48 : Int) * 10 + ((at0 z 2).toNat - 48)) * 60 + ((at0 z 3).toNat - 48) * 10 + ((at0 z 4).toNat - 48)
theorem zl_num {z : List UInt8} (hn : zoneName z = none) (h5 : z.length = 5) (d1 : isDig (at0 z 1) = true) (d2 : isDig (at0 z 2) = true) (d3 : isDig (at0 z 3) = true) (d4 : isDig (at0 z 4) = true) (h : (at0 z 3).toNat ≤ 53) (h0 : at0 z 0 = 43 ∨ at0 z 0 = 45) :
    (840 < zoneN z → zoneE z = 2 ∧ zoneV z = 0) ∧ (zoneN z ≤ 840 → zoneE z = 0 ∧ zoneV z = if at0 z 0 = 45 then -zoneN z else zoneN z) := by
  have hd := zl_dig h5 d1 d2 d3 d4
  simp only [isDig, Bool.and_eq_true, decide_eq_true_eq] at d1 d2 d3 d4
  have hN : zh z * 60 + zm z = zoneN z := by rw [hd.2.1, hd.2.2]; unfold zoneN; omega
  have hc : ¬ (z.length ≠ 5 ∨ (at0 z 0 ≠ 43 ∧ at0 z 0 ≠ 45) ∨ (zs z).e ≠ 0 ∨ 59 < zm z) := by
    rintro (h | h | h | h)
    · exact h h5
    · rcases h0 with e | e
      · exact h.1 e
      · exact h.2 e
    · exact h hd.1
    · rw [hd.2.2] at h; omega
  have hE : zoneE z = if 840 < zoneN z then 2 else 0 := by unfold zoneE; rw [hn]; simp only; rw [if_neg hc, hN]
  have hV : zoneV z = if zoneE z ≠ 0 then 0 else if at0 z 0 = 45 then -zoneN z else zoneN z := by unfold zoneV; rw [hn]; simp only; rw [hN]
  constructor
  · intro hx
    rw [if_pos hx] at hE
    exact ⟨hE, by rw [hV, hE, if_pos (by decide)]⟩
  · intro hx
    rw [if_neg (by omega)] at hE
    exact ⟨hE, by rw [hV, hE, if_neg (by simp)]⟩
end Go.Proofs.YtpdncgfkoibacaaDoor
