/- Numbers as decimal digits, and back. Of no program.
   Sets of numbers as lists of ranges: as few as possible, in increasing order. Of no program.
   Operations on sets of numbers: membership, how many, combinations, the rest. Of no program.
   Group names as lists of bytes: the parts of a text at a byte, and the text of parts. Of no program.
   Total orders given by a comparison with the results -1, 0 and 1; lists in increasing order without repetitions. Of no program.
   Group names: components, the check of a name, hierarchies, lists of names. Of no program.
   The text of a set of numbers, and the set of a text. Of no program.
   Marks of groups: finding a group, the operations. Of no program. -/
import Derived.Lib.ItoaNum
import Derived.Lib.SplitLaws
import Derived.Lib.Join
import Derived.Lib.SlicesCompact
namespace Go.Nr
open Go.Lib

theorem rev_ind {α : Type} {P : List α → Prop} (h0 : P []) (h1 : ∀ s c, P s → P (s ++ [c])) (l : List α) : P l := by
  have : ∀ n (l : List α), l.length = n → P l := by
    intro n
    induction n with
    | zero => intro l h; rw [List.length_eq_zero_iff.1 h]; exact h0
    | succ n ih =>
      intro l h
      rcases List.eq_nil_or_concat l with rfl | ⟨s, c, rfl⟩
      · exact h0
      · rw [List.concat_eq_append] at *
        exact h1 s c (ih s (by simpa using h))
  exact this _ l rfl
theorem digits_zero : decDigits 0 = [48] := by rw [decDigits_one (by omega)]; rfl
def isDig (c : UInt8) : Bool := decide (48 ≤ c.toNat) && decide (c.toNat ≤ 57)
/-- The number of digits, the first ahead. -/
def val (s : List UInt8) : Nat := s.foldl (fun n c => 10 * n + (c.toNat - 48)) 0
theorem val_snoc (s : List UInt8) (c : UInt8) : val (s ++ [c]) = 10 * val s + (c.toNat - 48) := by simp [val]
theorem val_nil : val [] = 0 := rfl
theorem val_lt : ∀ (s : List UInt8), s.all isDig = true → val s < 10 ^ s.length := by
  intro s
  refine rev_ind (P := fun s => s.all isDig = true → val s < 10 ^ s.length) ?_ ?_ s
  · intro _; simp [val_nil]
  · intro s c ih h
    rw [List.all_append, Bool.and_eq_true] at h
    have h1 := ih h.1
    have h2 : isDig c = true := by simpa using h.2
    unfold isDig at h2
    simp only [Bool.and_eq_true, decide_eq_true_eq] at h2
    rw [val_snoc, List.length_append, List.length_singleton, Nat.pow_succ]
    omega
theorem dig_ofNat {d : Nat} (h : d < 10) : (UInt8.ofNat (48 + d)).toNat = 48 + d := by
  rw [UInt8.toNat_ofNat']; omega
theorem digits_all (n : Nat) : (decDigits n).all isDig = true := by
  induction n using Nat.strongRecOn with
  | ind n ih =>
    unfold decDigits
    split
    · rename_i h
      simp [isDig]; omega
    · rename_i h
      have := dig_ofNat (show n % 10 < 10 by omega)
      rw [List.all_append, ih (n / 10) (by omega)]
      simp [isDig]; omega
theorem digits_val (n : Nat) : val (decDigits n) = n := by
  induction n using Nat.strongRecOn with
  | ind n ih =>
    unfold decDigits
    split
    · rename_i h
      show val ([] ++ [_]) = n
      rw [val_snoc, dig_ofNat h, val_nil]; omega
    · rename_i h
      rw [val_snoc, ih (n / 10) (by omega), dig_ofNat (show n % 10 < 10 by omega)]; omega
theorem digits_ne (n : Nat) : decDigits n ≠ [] := by
  unfold decDigits
  split <;> simp
theorem digits_head {n : Nat} (h : 1 ≤ n) : ∃ c t, decDigits n = c :: t ∧ c ≠ 48 := by
  induction n using Nat.strongRecOn with
  | ind n ih =>
    unfold decDigits
    split
    · rename_i h1
      refine ⟨_, _, rfl, fun e => ?_⟩
      have := congrArg UInt8.toNat e
      rw [dig_ofNat h1] at this
      simp at this; omega
    · rename_i h1
      obtain ⟨c, t, e, hc⟩ := ih (n / 10) (by omega) (by omega)
      rw [e]
      exact ⟨c, t ++ [_], rfl, hc⟩
theorem digits_len (n : Nat) : ∀ k, n < 10 ^ k → 1 ≤ k → (decDigits n).length ≤ k := by
  induction n using Nat.strongRecOn with
  | ind n ih =>
    intro k h hk
    unfold decDigits
    split
    · simpa using hk
    · rename_i h1
      cases k with
      | zero => omega
      | succ k =>
        rw [Nat.pow_succ] at h
        have hk1 : 1 ≤ k := by
          cases k with
          | zero => simp at h; omega
          | succ k => omega
        have := ih (n / 10) (by omega) k (by omega) hk1
        simp; omega
/-- Digits without a leading zero are those of their number. -/
theorem digits_of : ∀ (s : List UInt8), s.all isDig = true → s ≠ [] → (s.head? ≠ some 48 ∨ s.length = 1) → decDigits (val s) = s := by
  intro s
  refine rev_ind (P := fun s => s.all isDig = true → s ≠ [] → (s.head? ≠ some 48 ∨ s.length = 1) → decDigits (val s) = s) ?_ ?_ s
  · intro _ h; exact absurd rfl h
  · intro s c ih h _ hz
    rw [List.all_append, Bool.and_eq_true] at h
    have h2 : isDig c = true := by simpa using h.2
    unfold isDig at h2
    simp only [Bool.and_eq_true, decide_eq_true_eq] at h2
    have hc : UInt8.ofNat (48 + (c.toNat - 48)) = c := by
      apply UInt8.toNat_inj.1
      rw [UInt8.toNat_ofNat']
      have := c.toNat_lt
      omega
    rw [val_snoc]
    cases s with
    | nil =>
      rw [val_nil, decDigits, dif_pos (by omega)]
      simp only [Nat.mul_zero, Nat.zero_add]
      rw [hc]; rfl
    | cons a t =>
      have hh : (a :: t).head? ≠ some 48 := by
        rcases hz with hz | hz
        · simpa using hz
        · simp at hz
      have e := ih h.1 (by simp) (.inl hh)
      have hpos : 1 ≤ val (a :: t) := by
        rcases Nat.eq_zero_or_pos (val (a :: t)) with h0 | h0
        · rw [h0] at e
          rw [digits_zero] at e
          cases e
          simp at hh
        · exact h0
      rw [decDigits, dif_neg (by omega)]
      rw [show (10 * val (a :: t) + (c.toNat - 48)) / 10 = val (a :: t) by omega, show (10 * val (a :: t) + (c.toNat - 48)) % 10 = c.toNat - 48 by omega, e, hc]
/-- 1 to 13 digits without a leading zero. -/
def okNum (s : List UInt8) : Bool := decide (1 ≤ s.length) && decide (s.length ≤ 13) && decide (s.getD 0 0 ≠ 48) && s.all isDig
theorem okNum_digits {n : Nat} (h1 : 1 ≤ n) (h2 : n < 10 ^ 13) : okNum (decDigits n) = true := by
  obtain ⟨c, t, e, hc⟩ := digits_head h1
  have h3 := digits_len n 13 h2 (by omega)
  have h4 := digits_all n
  unfold okNum
  rw [h4]
  rw [e] at h3 ⊢
  simp at h3
  simp [hc]; omega
theorem okNum_val {s : List UInt8} (h : okNum s = true) : decDigits (val s) = s ∧ val s < 10 ^ 13 ∧ 1 ≤ val s := by
  unfold okNum at h
  simp only [Bool.and_eq_true, decide_eq_true_eq] at h
  obtain ⟨⟨⟨h1, h2⟩, h3⟩, h4⟩ := h
  have hne : s ≠ [] := fun e => by subst e; simp at h1
  have hh : s.head? ≠ some 48 := by
    cases s with
    | nil => exact absurd rfl hne
    | cons a t => simpa using h3
  have e := digits_of s h4 hne (.inl hh)
  have hlt := val_lt s h4
  have hle : 10 ^ s.length ≤ 10 ^ 13 := Nat.pow_le_pow_right (by omega) h2
  refine ⟨e, by omega, ?_⟩
  rcases Nat.eq_zero_or_pos (val s) with h0 | h0
  · rw [h0] at e
    rw [digits_zero] at e
    rw [← e] at h3
    exact absurd rfl h3
  · exact h0
end Go.Nr

namespace Go.Nr

abbrev Rg := Int × Int
/-- A number is in one of the ranges. -/
def mem (l : List Rg) (n : Int) : Prop := ∃ r ∈ l, r.1 ≤ n ∧ n ≤ r.2
/-- As few ranges as possible, in increasing order. -/
def Nrm (l : List Rg) : Prop := (∀ r ∈ l, r.1 ≤ r.2) ∧ l.Pairwise fun a b => a.2 + 2 ≤ b.1

theorem mem_nil (n : Int) : ¬ mem [] n := fun ⟨_, h, _⟩ => by simp at h
theorem mem_cons (r : Rg) (l : List Rg) (n : Int) : mem (r :: l) n ↔ (r.1 ≤ n ∧ n ≤ r.2) ∨ mem l n := by
  simp [mem]
theorem mem_append (l m : List Rg) (n : Int) : mem (l ++ m) n ↔ mem l n ∨ mem m n := by
  simp only [mem, List.mem_append]
  constructor
  · rintro ⟨r, h | h, k⟩
    · exact .inl ⟨r, h, k⟩
    · exact .inr ⟨r, h, k⟩
  · rintro (⟨r, h, k⟩ | ⟨r, h, k⟩)
    · exact ⟨r, .inl h, k⟩
    · exact ⟨r, .inr h, k⟩
theorem mem_one (r : Rg) (n : Int) : mem [r] n ↔ r.1 ≤ n ∧ n ≤ r.2 := by simp [mem]
theorem Nrm.nil : Nrm [] := ⟨by simp, by simp⟩
theorem Nrm.cons {r : Rg} {l : List Rg} (h : Nrm (r :: l)) : r.1 ≤ r.2 ∧ (∀ s ∈ l, r.2 + 2 ≤ s.1) ∧ Nrm l := by
  have h2 := List.pairwise_cons.1 h.2
  exact ⟨h.1 r (by simp), h2.1, fun s hs => h.1 s (by simp [hs]), h2.2⟩
theorem Nrm.mk {r : Rg} {l : List Rg} (h1 : r.1 ≤ r.2) (h2 : ∀ s ∈ l, r.2 + 2 ≤ s.1) (h3 : Nrm l) : Nrm (r :: l) :=
  ⟨fun s hs => by simp at hs; rcases hs with rfl | hs; exact h1; exact h3.1 s hs, List.pairwise_cons.2 ⟨h2, h3.2⟩⟩
theorem Nrm.one {r : Rg} (h : r.1 ≤ r.2) : Nrm [r] := Nrm.mk h (by simp) Nrm.nil
theorem mem_tail {r : Rg} {l : List Rg} (h : Nrm (r :: l)) (n : Int) : mem l n ↔ mem (r :: l) n ∧ r.2 < n := by
  obtain ⟨h1, h2, h3⟩ := h.cons
  rw [mem_cons]
  constructor
  · rintro ⟨s, hs, a, b⟩
    have := h2 s hs
    exact ⟨.inr ⟨s, hs, a, b⟩, by omega⟩
  · rintro ⟨a | a, b⟩
    · omega
    · exact a
/-- **Two such lists with the same numbers are one.** -/
theorem nrm_uniq : ∀ (l m : List Rg), Nrm l → Nrm m → (∀ n, mem l n ↔ mem m n) → l = m
  | [], [], _, _, _ => rfl
  | [], s :: m, _, hm, e => by
    have := (e s.1).2 ((mem_cons s m s.1).2 (.inl ⟨by omega, hm.cons.1⟩))
    exact absurd this (mem_nil _)
  | r :: l, [], hl, _, e => by
    have := (e r.1).1 ((mem_cons r l r.1).2 (.inl ⟨by omega, hl.cons.1⟩))
    exact absurd this (mem_nil _)
  | r :: l, s :: m, hl, hm, e => by
    obtain ⟨a1, a2, a3⟩ := hl.cons
    obtain ⟨b1, b2, b3⟩ := hm.cons
    have low1 : ∀ n, mem (r :: l) n → r.1 ≤ n := by
      intro n h
      rcases (mem_cons r l n).1 h with h | ⟨t, ht, h, _⟩
      · exact h.1
      · have := a2 t ht; omega
    have low2 : ∀ n, mem (s :: m) n → s.1 ≤ n := by
      intro n h
      rcases (mem_cons s m n).1 h with h | ⟨t, ht, h, _⟩
      · exact h.1
      · have := b2 t ht; omega
    have e1 : r.1 = s.1 := by
      have h1 := low2 r.1 ((e r.1).1 ((mem_cons r l r.1).2 (.inl ⟨by omega, a1⟩)))
      have h2 := low1 s.1 ((e s.1).2 ((mem_cons s m s.1).2 (.inl ⟨by omega, b1⟩)))
      omega
    have gap1 : ¬ mem (r :: l) (r.2 + 1) := by
      intro h
      rcases (mem_cons r l _).1 h with h | ⟨t, ht, h, _⟩
      · omega
      · have := a2 t ht; omega
    have gap2 : ¬ mem (s :: m) (s.2 + 1) := by
      intro h
      rcases (mem_cons s m _).1 h with h | ⟨t, ht, h, _⟩
      · omega
      · have := b2 t ht; omega
    have e2 : r.2 = s.2 := by
      rcases Int.lt_trichotomy r.2 s.2 with h | h | h
      · exact absurd ((e _).2 ((mem_cons s m (r.2 + 1)).2 (.inl ⟨by omega, by omega⟩))) gap1
      · exact h
      · exact absurd ((e _).1 ((mem_cons r l (s.2 + 1)).2 (.inl ⟨by omega, by omega⟩))) gap2
    have e3 : r = s := Prod.ext e1 e2
    subst e3
    congr 1
    refine nrm_uniq l m a3 b3 fun n => ?_
    rw [mem_tail hl, mem_tail hm, e n]

/-- A range is put behind the others: joined with the last one if they touch. -/
def app (out : List Rg) (r : Rg) : List Rg :=
  match out.getLast? with
  | none => [r]
  | some q => if r.1 ≤ q.2 + 1 then out.dropLast ++ [(q.1, max q.2 r.2)] else out ++ [r]
theorem app_nil (r : Rg) : app [] r = [r] := rfl
theorem app_snoc (l : List Rg) (q r : Rg) : app (l ++ [q]) r = if r.1 ≤ q.2 + 1 then l ++ [(q.1, max q.2 r.2)] else l ++ [q] ++ [r] := by
  unfold app
  rw [List.getLast?_concat]
  simp
theorem nrm_snoc {l : List Rg} {q : Rg} : Nrm (l ++ [q]) ↔ Nrm l ∧ q.1 ≤ q.2 ∧ ∀ s ∈ l, s.2 + 2 ≤ q.1 := by
  unfold Nrm
  rw [List.pairwise_append]
  simp only [List.mem_append, List.mem_singleton]
  constructor
  · rintro ⟨h1, h2, _, h4⟩
    exact ⟨⟨fun r hr => h1 r (.inl hr), h2⟩, h1 q (.inr rfl), fun s hs => h4 s hs q rfl⟩
  · rintro ⟨⟨h1, h2⟩, h3, h4⟩
    exact ⟨fun r hr => by rcases hr with hr | rfl; exact h1 r hr; exact h3, h2, by simp, fun s hs t ht => by rw [ht]; exact h4 s hs⟩
theorem app_spec {out : List Rg} {r : Rg} (hn : Nrm out) (hr : r.1 ≤ r.2) (hs : ∀ q ∈ out, q.1 ≤ r.1) :
    Nrm (app out r) ∧ (∀ n, mem (app out r) n ↔ mem out n ∨ (r.1 ≤ n ∧ n ≤ r.2)) ∧ ∀ q ∈ app out r, q.1 ≤ r.1 := by
  rcases List.eq_nil_or_concat out with rfl | ⟨l, q, rfl⟩
  · rw [app_nil]
    exact ⟨Nrm.one hr, fun n => by simp [mem], by simp⟩
  · rw [List.concat_eq_append] at *
    obtain ⟨h1, h2, h3⟩ := nrm_snoc.1 hn
    have hq := hs q (by simp)
    rw [app_snoc]
    split
    · rename_i h
      refine ⟨nrm_snoc.2 ⟨h1, ?_, h3⟩, fun n => ?_, fun t ht => ?_⟩
      · show q.1 ≤ max q.2 r.2
        omega
      · rw [mem_append, mem_append, mem_one, mem_one]
        show mem l n ∨ (q.1 ≤ n ∧ n ≤ max q.2 r.2) ↔ _
        by_cases hm : mem l n
        · simp [hm]
        · simp only [hm, false_or]
          omega
      · rcases List.mem_append.1 ht with ht | ht
        · exact hs t (by simp [ht])
        · simp at ht; rw [ht]; exact hq
    · rename_i h
      refine ⟨nrm_snoc.2 ⟨hn, hr, fun s hm => ?_⟩, fun n => ?_, fun t ht => ?_⟩
      · rcases List.mem_append.1 hm with hm | hm
        · have := h3 s hm; omega
        · simp at hm; subst hm; omega
      · rw [mem_append, mem_one]
      · rcases List.mem_append.1 ht with ht | ht
        · exact hs t ht
        · simp at ht; rw [ht]; omega
theorem app_length (out : List Rg) (r : Rg) : (app out r).length ≤ out.length + 1 := by
  rcases List.eq_nil_or_concat out with rfl | ⟨l, q, rfl⟩
  · simp [app_nil]
  · rw [List.concat_eq_append, app_snoc]
    split <;> simp
/-- Ranges put one behind another. -/
def merge (l : List Rg) : List Rg := l.foldl app []
theorem merge_snoc (l : List Rg) (r : Rg) : merge (l ++ [r]) = app (merge l) r := by simp [merge]
theorem merge_length (l : List Rg) : (merge l).length ≤ l.length := by
  have : ∀ (l o : List Rg), (l.foldl app o).length ≤ o.length + l.length := by
    intro l
    induction l with
    | nil => intro o; simp
    | cons r l ih => intro o; have := ih (app o r); have := app_length o r; simp at *; omega
  have := this l []
  simpa [merge] using this
theorem merge_fold : ∀ (l o : List Rg), Nrm o → (∀ r ∈ l, r.1 ≤ r.2) → l.Pairwise (fun a b => a.1 ≤ b.1) → (∀ q ∈ o, ∀ r ∈ l, q.1 ≤ r.1) → Nrm (l.foldl app o) ∧ ∀ n, mem (l.foldl app o) n ↔ mem o n ∨ mem l n
  | [], o, h, _, _, _ => ⟨h, fun n => by simp [mem]⟩
  | r :: l, o, h, hv, hp, hq => by
    have hp' := List.pairwise_cons.1 hp
    obtain ⟨a, b, c⟩ := app_spec h (hv r (by simp)) (fun q hm => hq q hm r (by simp))
    have ih := merge_fold l (app o r) a (fun s hs => hv s (by simp [hs])) hp'.2 (fun q hm s hs => by
      have := c q hm
      have := hp'.1 s hs
      omega)
    refine ⟨ih.1, fun n => ?_⟩
    simp only [List.foldl_cons]
    rw [ih.2 n, b n, mem_cons]
    constructor
    · rintro ((h | h) | h)
      · exact .inl h
      · exact .inr (.inl h)
      · exact .inr (.inr h)
    · rintro (h | h | h)
      · exact .inl (.inl h)
      · exact .inl (.inr h)
      · exact .inr h
/-- **Ranges in the order of their first numbers, put one behind another.** -/
theorem merge_spec {l : List Rg} (hv : ∀ r ∈ l, r.1 ≤ r.2) (hp : l.Pairwise fun a b => a.1 ≤ b.1) : Nrm (merge l) ∧ ∀ n, mem (merge l) n ↔ mem l n := by
  have := merge_fold l [] Nrm.nil hv hp (by simp)
  refine ⟨this.1, fun n => ?_⟩
  rw [merge, this.2 n]
  simp [mem_nil]
theorem mem_congr {l m : List Rg} (h : ∀ r, r ∈ l ↔ r ∈ m) (n : Int) : mem l n ↔ mem m n := by
  simp only [mem, h]
/-- The order among ranges with one first number does not matter. -/
theorem merge_congr {l m : List Rg} (hv : ∀ r ∈ l, r.1 ≤ r.2) (hl : l.Pairwise fun a b => a.1 ≤ b.1) (hm : m.Pairwise fun a b => a.1 ≤ b.1) (h : ∀ r, r ∈ l ↔ r ∈ m) : merge l = merge m := by
  have a := merge_spec hv hl
  have b := merge_spec (fun r hr => hv r ((h r).2 hr)) hm
  exact nrm_uniq _ _ a.1 b.1 fun n => by rw [a.2, b.2, mem_congr h]
/-- A range put where its first number belongs, behind those with the same one. -/
def put (r : Rg) : List Rg → List Rg
  | [] => [r]
  | q :: l => if q.1 ≤ r.1 then q :: put r l else r :: q :: l
theorem mem_put (r s : Rg) : ∀ l, s ∈ put r l ↔ s = r ∨ s ∈ l
  | [] => by simp [put]
  | q :: l => by
    unfold put
    split
    · simp only [List.mem_cons, mem_put r s l]
      constructor
      · rintro (h | h | h) <;> simp [h]
      · rintro (h | h | h) <;> simp [h]
    · simp
theorem put_sorted (r : Rg) : ∀ l : List Rg, l.Pairwise (fun a b => a.1 ≤ b.1) → (put r l).Pairwise fun a b => a.1 ≤ b.1
  | [], _ => by simp [put]
  | q :: l, h => by
    have h' := List.pairwise_cons.1 h
    unfold put
    split
    · rename_i hq
      refine List.pairwise_cons.2 ⟨fun s hs => ?_, put_sorted r l h'.2⟩
      rcases (mem_put r s l).1 hs with rfl | hs
      · exact hq
      · exact h'.1 s hs
    · rename_i hq
      refine List.pairwise_cons.2 ⟨fun s hs => ?_, h⟩
      simp at hs
      rcases hs with rfl | hs
      · omega
      · have := h'.1 s hs; omega
/-- The ranges in the order of their first numbers. -/
def sorted (l : List Rg) : List Rg := l.foldl (fun o r => put r o) []
theorem sorted_snoc (l : List Rg) (r : Rg) : sorted (l ++ [r]) = put r (sorted l) := by simp [sorted]
theorem sorted_fold : ∀ (l o : List Rg), o.Pairwise (fun a b => a.1 ≤ b.1) → (l.foldl (fun o r => put r o) o).Pairwise (fun a b => a.1 ≤ b.1) ∧ ∀ s, s ∈ l.foldl (fun o r => put r o) o ↔ s ∈ l ∨ s ∈ o
  | [], o, h => ⟨h, fun s => by simp⟩
  | r :: l, o, h => by
    have ih := sorted_fold l (put r o) (put_sorted r o h)
    refine ⟨ih.1, fun s => ?_⟩
    simp only [List.foldl_cons]
    rw [ih.2 s, mem_put, List.mem_cons]
    constructor
    · rintro (h | h | h) <;> simp [h]
    · rintro ((h | h) | h) <;> simp [h]
theorem sorted_spec (l : List Rg) : (sorted l).Pairwise (fun a b => a.1 ≤ b.1) ∧ ∀ s, s ∈ sorted l ↔ s ∈ l := by
  have := sorted_fold l [] (by simp)
  exact ⟨this.1, fun s => by rw [sorted, this.2 s]; simp⟩
theorem put_length (r : Rg) : ∀ l, (put r l).length = l.length + 1
  | [] => rfl
  | q :: l => by unfold put; split <;> simp [put_length r l]
theorem sorted_length (l : List Rg) : (sorted l).length = l.length := by
  have : ∀ (l o : List Rg), (l.foldl (fun o r => put r o) o).length = o.length + l.length := by
    intro l
    induction l with
    | nil => intro o; simp
    | cons r l ih => intro o; simp [ih, put_length]; omega
  have := this l []
  simpa [sorted] using this
/-- The set of ranges. -/
def norm (l : List Rg) : List Rg := merge (sorted l)
theorem norm_spec {l : List Rg} (hv : ∀ r ∈ l, r.1 ≤ r.2) : Nrm (norm l) ∧ ∀ n, mem (norm l) n ↔ mem l n := by
  obtain ⟨a, b⟩ := sorted_spec l
  have := merge_spec (fun r hr => hv r ((b r).1 hr)) a
  exact ⟨this.1, fun n => by rw [norm, this.2 n, mem_congr b]⟩
theorem norm_length (l : List Rg) : (norm l).length ≤ l.length := by
  have := merge_length (sorted l)
  rwa [sorted_length] at this
/-- **Any order by first numbers gives the set.** -/
theorem merge_norm {l m : List Rg} (hv : ∀ r ∈ l, r.1 ≤ r.2) (hm : m.Pairwise fun a b => a.1 ≤ b.1) (h : ∀ r, r ∈ m ↔ r ∈ l) : merge m = norm l := by
  obtain ⟨a, b⟩ := sorted_spec l
  exact merge_congr (fun r hr => hv r ((h r).1 hr)) hm a fun r => by rw [h, b]
theorem nrm_norm {l : List Rg} (h : Nrm l) : norm l = l :=
  nrm_uniq _ _ (norm_spec h.1).1 h (norm_spec h.1).2
theorem norm_eq {l m : List Rg} (hl : ∀ r ∈ l, r.1 ≤ r.2) (hm : Nrm m) (h : ∀ n, mem l n ↔ mem m n) : norm l = m :=
  nrm_uniq _ _ (norm_spec hl).1 hm fun n => by rw [(norm_spec hl).2, h]
end Go.Nr

namespace Go.Nr

/-- The index of the first range that does not end before a number. -/
def find (l : List Rg) (n : Int) : Nat := (l.takeWhile fun r => decide (r.2 < n)).length
def has (l : List Rg) (n : Int) : Bool := l.any fun r => decide (r.1 ≤ n) && decide (n ≤ r.2)
theorem has_iff (l : List Rg) (n : Int) : has l n = true ↔ mem l n := by simp [has, mem]
theorem find_le (l : List Rg) (n : Int) : find l n ≤ l.length := by
  unfold find
  exact List.Sublist.length_le (List.takeWhile_sublist _)
theorem find_cons (r : Rg) (l : List Rg) (n : Int) : find (r :: l) n = if r.2 < n then find l n + 1 else 0 := by
  unfold find
  rw [List.takeWhile_cons]
  split <;> simp_all
theorem find_lt : ∀ (l : List Rg) (n : Int) (j : Nat) (r : Rg), j < find l n → l[j]? = some r → r.2 < n
  | [], n, j, r, h, _ => by simp [find] at h
  | q :: l, n, j, r, h, e => by
    rw [find_cons] at h
    split at h
    · rename_i hq
      cases j with
      | zero => simp at e; rw [← e]; exact hq
      | succ j => exact find_lt l n j r (by omega) (by simpa using e)
    · omega
theorem find_at : ∀ (l : List Rg) (n : Int) (r : Rg), l[find l n]? = some r → n ≤ r.2
  | [], n, r, e => by simp [find] at e
  | q :: l, n, r, e => by
    rw [find_cons] at e
    split at e
    · exact find_at l n r (by simpa using e)
    · rename_i hq; simp at e; rw [← e]; omega
/-- What a search between two halves finds. -/
theorem find_eq : ∀ (l : List Rg) (n : Int) (k : Nat), k ≤ l.length → (∀ (j : Nat) (r : Rg), j < k → l[j]? = some r → r.2 < n) → (∀ r, l[k]? = some r → n ≤ r.2) → find l n = k
  | [], n, k, hk, _, _ => by simp at hk; simp [find, hk]
  | q :: l, n, k, hk, h1, h2 => by
    rw [find_cons]
    cases k with
    | zero => rw [if_neg (by have := h2 q (by simp); omega)]
    | succ k =>
      rw [if_pos (h1 0 q (by omega) (by simp)), find_eq l n k (by simpa using hk) (fun j r hj e => h1 (j + 1) r (by omega) (by simpa using e)) (fun r e => h2 r (by simpa using e))]
theorem nrm_mono {l : List Rg} (h : Nrm l) {i j : Nat} {r s : Rg} (hij : i ≤ j) (hi : l[i]? = some r) (hj : l[j]? = some s) : r.2 ≤ s.2 ∧ r.1 ≤ s.1 := by
  rcases Nat.lt_or_ge i j with hlt | hge
  · obtain ⟨a1, a2⟩ := List.getElem?_eq_some_iff.1 hi
    obtain ⟨b1, b2⟩ := List.getElem?_eq_some_iff.1 hj
    have := List.pairwise_iff_getElem.1 h.2 i j a1 b1 hlt
    rw [a2, b2] at this
    have h1 := h.1 r (List.mem_of_getElem? hi)
    have h2 := h.1 s (List.mem_of_getElem? hj)
    omega
  · obtain rfl : i = j := by omega
    rw [hi] at hj; cases hj; omega
/-- A number is in a set just where the first range that does not end before it begins at or before it. -/
theorem has_find {l : List Rg} (h : Nrm l) (n : Int) : has l n = match l[find l n]? with | some r => decide (r.1 ≤ n) | none => false := by
  rw [Bool.eq_iff_iff, has_iff]
  cases hf : l[find l n]? with
  | none =>
    have hl := List.getElem?_eq_none_iff.1 hf
    simp only [Bool.false_eq_true, iff_false]
    rintro ⟨r, hr, a, b⟩
    obtain ⟨j, hj, e⟩ := List.mem_iff_getElem.1 hr
    have := find_lt l n j r (by omega) (by rw [List.getElem?_eq_getElem hj, e])
    omega
  | some q =>
    have hq := find_at l n q hf
    simp only [decide_eq_true_eq]
    constructor
    · rintro ⟨r, hr, a, b⟩
      obtain ⟨j, hj, e⟩ := List.mem_iff_getElem.1 hr
      have ej : l[j]? = some r := by rw [List.getElem?_eq_getElem hj, e]
      rcases Nat.lt_or_ge j (find l n) with hlt | hge
      · have := find_lt l n j r hlt ej; omega
      · have := nrm_mono h hge hf ej; omega
    · intro hle
      exact ⟨q, List.mem_of_getElem? hf, hle, hq⟩

/-- How many numbers a set has. -/
def count (l : List Rg) : Int := (l.map fun r => r.2 - r.1 + 1).sum
theorem count_nil : count [] = 0 := rfl
theorem count_cons (r : Rg) (l : List Rg) : count (r :: l) = r.2 - r.1 + 1 + count l := rfl
theorem count_snoc (l : List Rg) (r : Rg) : count (l ++ [r]) = count l + (r.2 - r.1 + 1) := by simp [count]
/-- The numbers from 1 to B that p takes. -/
def card (p : Int → Bool) : Nat → Nat
  | 0 => 0
  | B + 1 => card p B + if p (B + 1) then 1 else 0
theorem card_congr {p q : Int → Bool} (B : Nat) (h : ∀ n : Int, 1 ≤ n → n ≤ B → p n = q n) : card p B = card q B := by
  induction B with
  | zero => rfl
  | succ B ih =>
    unfold card
    rw [ih fun n a b => h n a (by omega), h (B + 1) (by omega) (by omega)]
theorem card_or_and (p q : Int → Bool) (B : Nat) : card (fun n => p n || q n) B + card (fun n => p n && q n) B = card p B + card q B := by
  induction B with
  | zero => rfl
  | succ B ih =>
    unfold card
    cases p (B + 1) <;> cases q (B + 1) <;> simp <;> omega
theorem card_false (B : Nat) : card (fun _ => false) B = 0 := by
  induction B with
  | zero => rfl
  | succ B ih => simp [card, ih]
theorem card_range (a b : Int) (ha : 1 ≤ a) (hab : a ≤ b) (B : Nat) (hb : b ≤ B) : (card (fun n => decide (a ≤ n) && decide (n ≤ b)) B : Int) = b - a + 1 := by
  have : ∀ B : Nat, (card (fun n => decide (a ≤ n) && decide (n ≤ b)) B : Int) = if (B : Int) < a then 0 else if (B : Int) ≤ b then B - a + 1 else b - a + 1 := by
    intro B
    induction B with
    | zero => simp [card]; omega
    | succ B ih =>
      unfold card
      rw [Int.natCast_add, ih]
      by_cases h1 : a ≤ ((B : Int) + 1) <;> by_cases h2 : ((B : Int) + 1) ≤ b <;> simp [h1, h2] <;> (repeat' split) <;> omega
  rw [this B, if_neg (by omega)]
  split <;> omega
/-- **How many numbers a set has: those from 1 to B that are in it.** -/
theorem count_card {l : List Rg} (h : Nrm l) (B : Nat) (hb : ∀ r ∈ l, 1 ≤ r.1 ∧ r.2 ≤ B) : count l = card (has l) B := by
  induction l with
  | nil =>
    rw [count_nil, show has [] = fun _ => false from rfl, card_false]; rfl
  | cons r l ih =>
    obtain ⟨h1, h2, h3⟩ := h.cons
    have hr := hb r (by simp)
    have ih' := ih h3 fun s hs => hb s (by simp [hs])
    have e := card_or_and (fun n => decide (r.1 ≤ n) && decide (n ≤ r.2)) (has l) B
    have e1 : card (fun n => (decide (r.1 ≤ n) && decide (n ≤ r.2)) && has l n) B = 0 := by
      rw [← card_false B]
      refine card_congr B fun n _ _ => ?_
      cases hn : has l n with
      | false => simp
      | true =>
        obtain ⟨s, hs, a, b⟩ := (has_iff l n).1 hn
        have := h2 s hs
        have : ¬ n ≤ r.2 := by omega
        simp [this]
    have e2 : card (has (r :: l)) B = card (fun n => (decide (r.1 ≤ n) && decide (n ≤ r.2)) || has l n) B := card_congr B fun n _ _ => by simp [has]
    have e3 := card_range r.1 r.2 hr.1 h1 B hr.2
    rw [count_cons, ih', e2]
    omega

/-- The numbers that are bounds: where a range begins, or where one has ended. -/
def ends (l : List Rg) : List Int := l.flatMap fun r => [r.1, r.2 + 1]
/-- Between two bounds nothing changes. -/
theorem has_still {l : List Rg} {b c n : Int} (h : ∀ x ∈ ends l, x ≤ b ∨ c ≤ x) (h1 : b ≤ n) (h2 : n < c) : has l n = has l b := by
  rw [Bool.eq_iff_iff, has_iff, has_iff]
  have key : ∀ r ∈ l, (r.1 ≤ n ∧ n ≤ r.2) ↔ (r.1 ≤ b ∧ b ≤ r.2) := by
    intro r hr
    have a1 := h r.1 (List.mem_flatMap.2 ⟨r, hr, by simp⟩)
    have a2 := h (r.2 + 1) (List.mem_flatMap.2 ⟨r, hr, by simp⟩)
    omega
  constructor
  · rintro ⟨r, hr, k⟩; exact ⟨r, hr, (key r hr).1 k⟩
  · rintro ⟨r, hr, k⟩; exact ⟨r, hr, (key r hr).2 k⟩
/-- The ranges between bounds whose first number is taken. -/
def cuts (p : Int → Bool) : List Int → List Rg
  | b :: c :: r => if p b then (b, c - 1) :: cuts p (c :: r) else cuts p (c :: r)
  | _ => []
theorem cuts_ge (p : Int → Bool) : ∀ (bs : List Int), bs.Pairwise (· < ·) → ∀ r ∈ cuts p bs, (∃ b ∈ bs, r.1 = b) ∧ r.1 ≤ r.2
  | [], _, r, h => by simp [cuts] at h
  | [b], _, r, h => by simp [cuts] at h
  | b :: c :: t, hp, r, h => by
    have hp' := List.pairwise_cons.1 hp
    have ih := cuts_ge p (c :: t) hp'.2
    unfold cuts at h
    split at h
    · simp at h
      rcases h with rfl | h
      · have := hp'.1 c (by simp)
        exact ⟨⟨b, by simp, rfl⟩, by show b ≤ c - 1; omega⟩
      · obtain ⟨⟨x, hx, e⟩, k⟩ := ih r h
        exact ⟨⟨x, by simp at hx ⊢; exact .inr hx, e⟩, k⟩
    · obtain ⟨⟨x, hx, e⟩, k⟩ := ih r h
      exact ⟨⟨x, by simp at hx ⊢; exact .inr hx, e⟩, k⟩
theorem cuts_sorted (p : Int → Bool) : ∀ (bs : List Int), bs.Pairwise (· < ·) → (cuts p bs).Pairwise fun a b => a.1 ≤ b.1
  | [], _ => by simp [cuts]
  | [b], _ => by simp [cuts]
  | b :: c :: t, hp => by
    have hp' := List.pairwise_cons.1 hp
    have ih := cuts_sorted p (c :: t) hp'.2
    unfold cuts
    split
    · refine List.pairwise_cons.2 ⟨fun s hs => ?_, ih⟩
      obtain ⟨⟨x, hx, e⟩, _⟩ := cuts_ge p (c :: t) hp'.2 s hs
      have := hp'.1 x hx
      rw [e]; show b ≤ x; omega
    · exact ih
theorem cuts_mem (p : Int → Bool) : ∀ (bs : List Int), bs.Pairwise (· < ·) → (∀ (b c n : Int), b ∈ bs → c ∈ bs → (∀ x ∈ bs, x ≤ b ∨ c ≤ x) → b ≤ n → n < c → p n = p b) →
    (∀ n, (∀ b ∈ bs, n < b) → p n = false) → (∀ n, (∀ b ∈ bs, b ≤ n) → p n = false) → ∀ n, mem (cuts p bs) n ↔ p n = true
  | [], _, _, h1, _, n => by
    have := h1 n (by simp)
    simp [cuts, mem, this]
  | [b], _, _, h1, h2, n => by
    rcases Int.lt_or_le n b with h | h
    · have := h1 n (by simp; omega); simp [cuts, mem, this]
    · have := h2 n (by simp; omega); simp [cuts, mem, this]
  | b :: c :: t, hp, hs, h1, h2, n => by
    have hp' := List.pairwise_cons.1 hp
    have hbc := hp'.1 c (by simp)
    have hpc := List.pairwise_cons.1 hp'.2
    have hst : ∀ n, b ≤ n → n < c → p n = p b := fun n a k => hs b c n (by simp) (by simp) (fun x hx => by
      simp at hx
      rcases hx with rfl | rfl | hx
      · omega
      · omega
      · have := hpc.1 x hx; omega) a k
    -- the rest, for numbers from c on
    have ih := cuts_mem (fun n => decide (c ≤ n) && p n) (c :: t) hp'.2 (fun x y m hx hy hxy a k => by
      have e := hs x y m (by simp at hx ⊢; exact .inr hx) (by simp at hy ⊢; exact .inr hy) (fun z hz => by
        simp at hz
        rcases hz with rfl | rfl | hz
        · simp at hx
          rcases hx with rfl | hx
          · omega
          · have := hpc.1 x hx; omega
        · exact hxy z (by simp)
        · exact hxy z (by simp [hz])) a k
      have hcx : c ≤ x := by
        simp at hx
        rcases hx with rfl | hx
        · omega
        · have := hpc.1 x hx; omega
      rw [e]
      simp [hcx, show c ≤ m by omega])
      (fun m hm => by
        have := hm c (by simp)
        simp [show ¬ c ≤ m by omega])
      (fun m hm => by
        have hc := hm c (by simp)
        have := h2 m (fun x hx => by
          simp at hx
          rcases hx with rfl | rfl | hx
          · omega
          · exact hc
          · exact hm x (by simp [hx]))
        simp [this]) n
    have ec : cuts (fun n => decide (c ≤ n) && p n) (c :: t) = cuts p (c :: t) := by
      have : ∀ (bs : List Int), (∀ x ∈ bs, c ≤ x) → cuts (fun n => decide (c ≤ n) && p n) bs = cuts p bs := by
        intro bs
        induction bs with
        | nil => intro _; rfl
        | cons x bs ihb =>
          intro hx
          cases bs with
          | nil => rfl
          | cons y bs =>
            unfold cuts
            rw [ihb fun z hz => hx z (by simp [hz]), decide_eq_true (hx x (by simp)), Bool.true_and]
      exact this (c :: t) fun x hx => by
        simp at hx
        rcases hx with rfl | hx
        · omega
        · have := hpc.1 x hx; omega
    rw [ec] at ih
    have hlow : ∀ m, m < b → p m = false := fun m hm => h1 m (fun x hx => by
      simp at hx
      rcases hx with rfl | rfl | hx
      · exact hm
      · omega
      · have := hp'.1 x (by simp [hx]); omega)
    unfold cuts
    split
    · rename_i hb
      rw [mem_cons, ih]
      simp only [Bool.and_eq_true, decide_eq_true_eq]
      constructor
      · rintro (⟨a, k⟩ | ⟨_, k⟩)
        · rw [hst n a (by omega)]; exact hb
        · exact k
      · intro hn
        rcases Int.lt_or_le n c with h | h
        · rcases Int.lt_or_le n b with h' | h'
          · rw [hlow n h'] at hn; cases hn
          · exact .inl ⟨h', by show n ≤ c - 1; omega⟩
        · exact .inr ⟨h, hn⟩
    · rename_i hb
      rw [ih]
      simp only [Bool.and_eq_true, decide_eq_true_eq]
      constructor
      · rintro ⟨_, k⟩; exact k
      · intro hn
        rcases Int.lt_or_le n c with h | h
        · rcases Int.lt_or_le n b with h' | h'
          · rw [hlow n h'] at hn; cases hn
          · rw [hst n h' h] at hn; exact absurd hn hb
        · exact ⟨h, hn⟩
theorem cuts_length (p : Int → Bool) : ∀ bs, (cuts p bs).length ≤ bs.length
  | [] => by simp [cuts]
  | [b] => by simp [cuts]
  | b :: c :: t => by
    have := cuts_length p (c :: t)
    unfold cuts
    split <;> simp at * <;> omega

/-- The combination of two sets: bs are the bounds of both, in increasing order without repetitions. -/
def comb (f : Bool → Bool → Bool) (a b : List Rg) (bs : List Int) : List Rg := merge (cuts (fun n => f (has a n) (has b n)) bs)
theorem has_low {l : List Rg} {n : Int} (h : ∀ x ∈ ends l, n < x) : has l n = false := by
  rw [Bool.eq_false_iff]
  intro e
  obtain ⟨r, hr, a, b⟩ := (has_iff l n).1 e
  have := h r.1 (List.mem_flatMap.2 ⟨r, hr, by simp⟩)
  omega
theorem has_high {l : List Rg} {n : Int} (h : ∀ x ∈ ends l, x ≤ n) : has l n = false := by
  rw [Bool.eq_false_iff]
  intro e
  obtain ⟨r, hr, a, b⟩ := (has_iff l n).1 e
  have := h (r.2 + 1) (List.mem_flatMap.2 ⟨r, hr, by simp⟩)
  omega
theorem comb_spec (f : Bool → Bool → Bool) (hf : f false false = false) (a b : List Rg) (bs : List Int) (hp : bs.Pairwise (· < ·)) (hm : ∀ x, x ∈ bs ↔ x ∈ ends a ∨ x ∈ ends b) :
    Nrm (comb f a b bs) ∧ ∀ n, has (comb f a b bs) n = f (has a n) (has b n) := by
  have h1 := merge_spec (fun r hr => (cuts_ge (fun n => f (has a n) (has b n)) bs hp r hr).2) (cuts_sorted _ bs hp)
  refine ⟨h1.1, fun n => ?_⟩
  rw [Bool.eq_iff_iff, has_iff, comb, h1.2, cuts_mem _ bs hp]
  · intro x y m hx hy hxy k1 k2
    show f (has a m) (has b m) = f (has a x) (has b x)
    rw [has_still (b := x) (c := y) (fun z hz => hxy z ((hm z).2 (.inl hz))) k1 k2, has_still (b := x) (c := y) (fun z hz => hxy z ((hm z).2 (.inr hz))) k1 k2]
  · intro m h
    show f (has a m) (has b m) = false
    rw [has_low fun x hx => h x ((hm x).2 (.inl hx)), has_low fun x hx => h x ((hm x).2 (.inr hx)), hf]
  · intro m h
    show f (has a m) (has b m) = false
    rw [has_high fun x hx => h x ((hm x).2 (.inl hx)), has_high fun x hx => h x ((hm x).2 (.inr hx)), hf]
/-- A set is determined by what it has. -/
theorem has_uniq {l m : List Rg} (hl : Nrm l) (hm : Nrm m) (h : ∀ n, has l n = has m n) : l = m :=
  nrm_uniq l m hl hm fun n => by rw [← has_iff, ← has_iff, h]
theorem norm_has {l : List Rg} (hv : ∀ r ∈ l, r.1 ≤ r.2) (n : Int) : has (norm l) n = has l n := by
  rw [Bool.eq_iff_iff, has_iff, has_iff]; exact (norm_spec hv).2 n

/-- The numbers in two sets, range by range. -/
def bothL (a b : List Rg) : List Rg := a.flatMap fun r => b.filterMap fun s => if max r.1 s.1 ≤ min r.2 s.2 then some (max r.1 s.1, min r.2 s.2) else none
theorem bothL_ok (a b : List Rg) : ∀ r ∈ bothL a b, r.1 ≤ r.2 := by
  intro r hr
  obtain ⟨x, _, hx⟩ := List.mem_flatMap.1 hr
  obtain ⟨y, _, hy⟩ := List.mem_filterMap.1 hx
  split at hy
  · cases hy; assumption
  · cases hy
theorem bothL_has (a b : List Rg) (n : Int) : has (bothL a b) n = (has a n && has b n) := by
  rw [Bool.eq_iff_iff, Bool.and_eq_true, has_iff, has_iff, has_iff]
  constructor
  · rintro ⟨r, hr, k1, k2⟩
    obtain ⟨x, hx, hr⟩ := List.mem_flatMap.1 hr
    obtain ⟨y, hy, hr⟩ := List.mem_filterMap.1 hr
    split at hr
    · cases hr
      simp only at k1 k2
      exact ⟨⟨x, hx, by omega, by omega⟩, ⟨y, hy, by omega, by omega⟩⟩
    · cases hr
  · rintro ⟨⟨x, hx, k1, k2⟩, ⟨y, hy, k3, k4⟩⟩
    refine ⟨(max x.1 y.1, min x.2 y.2), List.mem_flatMap.2 ⟨x, hx, List.mem_filterMap.2 ⟨y, hy, ?_⟩⟩, ?_, ?_⟩
    · rw [if_pos (by omega)]
    · show max x.1 y.1 ≤ n; omega
    · show n ≤ min x.2 y.2; omega
/-- The numbers up to M that are not in a set, from a number on. -/
def restFrom (M : Int) (f : Int) : List Rg → List Rg
  | [] => if f ≤ M then [(f, M)] else []
  | r :: l => if f < r.1 then (f, r.1 - 1) :: restFrom M (r.2 + 1) l else restFrom M (r.2 + 1) l
theorem restFrom_spec (M : Int) : ∀ (l : List Rg) (f : Int), Nrm l → (∀ r ∈ l, f ≤ r.1 ∧ r.2 ≤ M) → Nrm (restFrom M f l) ∧ (∀ s ∈ restFrom M f l, f ≤ s.1) ∧ ∀ n, has (restFrom M f l) n = (decide (f ≤ n) && decide (n ≤ M) && !has l n)
  | [], f, _, _ => by
    unfold restFrom
    split
    · rename_i h
      exact ⟨Nrm.one h, by simp, fun n => by simp [has]⟩
    · rename_i h
      refine ⟨Nrm.nil, by simp, fun n => ?_⟩
      simp [has]; omega
  | r :: l, f, hn, hb => by
    obtain ⟨h1, h2, h3⟩ := hn.cons
    have hr := hb r (by simp)
    have ih := restFrom_spec M l (r.2 + 1) h3 fun s hs => ⟨by have := h2 s hs; omega, (hb s (by simp [hs])).2⟩
    have hr' : ∀ n, has l n = true → r.2 + 2 ≤ n := fun n h => by
      obtain ⟨s, hs, a, _⟩ := (has_iff l n).1 h
      have := h2 s hs; omega
    have ec : ∀ n, has (r :: l) n = ((decide (r.1 ≤ n) && decide (n ≤ r.2)) || has l n) := fun n => by simp [has]
    unfold restFrom
    split
    · rename_i h
      refine ⟨Nrm.mk (by show f ≤ r.1 - 1; omega) (fun s hs => by have := ih.2.1 s hs; show r.1 - 1 + 2 ≤ s.1; omega) ih.1, fun s hs => ?_, fun n => ?_⟩
      · simp at hs
        rcases hs with rfl | hs
        · show f ≤ f; omega
        · have := ih.2.1 s hs; omega
      · rw [show has ((f, r.1 - 1) :: restFrom M (r.2 + 1) l) n = ((decide (f ≤ n) && decide (n ≤ r.1 - 1)) || has (restFrom M (r.2 + 1) l) n) by simp [has], ih.2.2, ec]
        have := hr' n
        rw [Bool.eq_iff_iff]
        cases hl : has l n <;> simp [hl] at this ⊢ <;> omega
    · rename_i h
      refine ⟨ih.1, fun s hs => by have := ih.2.1 s hs; omega, fun n => ?_⟩
      rw [ih.2.2, ec]
      have := hr' n
      rw [Bool.eq_iff_iff]
      cases hl : has l n <;> simp [hl] at this ⊢ <;> omega
end Go.Nr

namespace Go.Gn

/-- The parts into which the byte c divides a text. -/
def parts (c : UInt8) : List UInt8 → List (List UInt8)
  | [] => [[]]
  | b :: s => if b = c then [] :: parts c s else (b :: (parts c s).headD []) :: (parts c s).tail

theorem parts_cons_ne {b c : UInt8} (h : b ≠ c) (s : List UInt8) : parts c (b :: s) = (b :: (parts c s).headD []) :: (parts c s).tail := by simp [parts, h]
theorem parts_cons_eq (c : UInt8) (s : List UInt8) : parts c (c :: s) = [] :: parts c s := by simp [parts]
theorem parts_ne_nil (c : UInt8) : ∀ s, parts c s ≠ []
  | [] => by simp [parts]
  | b :: s => by by_cases h : b = c <;> simp [parts, h]
theorem parts_pos (c : UInt8) (s : List UInt8) : 0 < (parts c s).length := List.length_pos_iff.2 (parts_ne_nil c s)
theorem parts_length_le (c : UInt8) : ∀ s, (parts c s).length ≤ s.length + 1
  | [] => by simp [parts]
  | b :: s => by
    have ih := parts_length_le c s
    have := parts_pos c s
    by_cases h : b = c <;> simp [parts, h] <;> omega
theorem parts_length (c : UInt8) : ∀ s, (parts c s).length = s.count c + 1
  | [] => by simp [parts]
  | b :: s => by
    have ih := parts_length c s
    by_cases h : b = c
    · subst h; simp [parts, ih]
    · simp [parts, h, ih]
/-- One more byte: the separator. -/
theorem parts_snoc_sep (c : UInt8) : ∀ s, parts c (s ++ [c]) = parts c s ++ [[]]
  | [] => by simp [parts]
  | b :: s => by
    have ih := parts_snoc_sep c s
    obtain ⟨x, r, hx⟩ := List.exists_cons_of_ne_nil (parts_ne_nil c s)
    by_cases h : b = c
    · simp [parts, h, ih]
    · simp [parts, h, ih, hx]
/-- One more byte: another one. -/
theorem parts_snoc {b c : UInt8} (hb : b ≠ c) : ∀ (s : List UInt8) (out : List (List UInt8)) (p : List UInt8), parts c s = out ++ [p] → parts c (s ++ [b]) = out ++ [p ++ [b]]
  | [], out, p, h => by
    have h1 : out = [] ∧ p = [] := by
      cases out with
      | nil => simp [parts] at h; exact ⟨rfl, h⟩
      | cons x o => simp [parts] at h
    obtain ⟨rfl, rfl⟩ := h1
    simp [parts, hb]
  | a :: s, out, p, h => by
    obtain ⟨x, r, hx⟩ := List.exists_cons_of_ne_nil (parts_ne_nil c s)
    by_cases ha : a = c
    · subst ha
      rw [parts_cons_eq] at h
      cases out with
      | nil => simp at h; exact absurd h.2 (parts_ne_nil _ _)
      | cons y o =>
        simp at h
        have ih := parts_snoc hb s o p h.2
        rw [List.cons_append, parts_cons_eq, ih, ← h.1]; rfl
    · rw [parts_cons_ne ha, hx] at h
      simp at h
      cases out with
      | nil =>
        simp at h
        have ih := parts_snoc hb s [] x (by rw [hx, h.2]; rfl)
        rw [List.cons_append, parts_cons_ne ha, ih, ← h.1]; rfl
      | cons y o =>
        simp at h
        have ih := parts_snoc hb s (x :: o) p (by rw [hx, h.2]; rfl)
        rw [List.cons_append, parts_cons_ne ha, ih, ← h.1]; rfl
/-- No part holds the separator. -/
theorem parts_free (c : UInt8) : ∀ (s : List UInt8), ∀ x ∈ parts c s, c ∉ x
  | [], x, h => by simp [parts] at h; subst h; simp
  | b :: s, x, h => by
    have ih := parts_free c s
    obtain ⟨y, r, hy⟩ := List.exists_cons_of_ne_nil (parts_ne_nil c s)
    by_cases hb : b = c
    · rw [hb, parts_cons_eq] at h
      simp at h
      rcases h with rfl | h
      · simp
      · exact ih x h
    · rw [parts_cons_ne hb, hy] at h
      simp at h
      rcases h with rfl | h
      · have := ih y (by rw [hy]; simp)
        simp; exact ⟨fun e => hb e.symm, this⟩
      · exact ih x (by rw [hy]; simp [h])
/-- Each part is no longer than the text. -/
theorem parts_le (c : UInt8) : ∀ (s : List UInt8), ∀ x ∈ parts c s, x.length ≤ s.length
  | [], x, h => by simp [parts] at h; subst h; simp
  | b :: s, x, h => by
    have ih := parts_le c s
    obtain ⟨y, r, hy⟩ := List.exists_cons_of_ne_nil (parts_ne_nil c s)
    by_cases hb : b = c
    · rw [hb, parts_cons_eq] at h
      simp at h
      rcases h with rfl | h
      · simp
      · have := ih x h; simp; omega
    · rw [parts_cons_ne hb, hy] at h
      simp at h
      rcases h with rfl | h
      · have := ih y (by rw [hy]; simp)
        simp; omega
      · have := ih x (by rw [hy]; simp [h]); simp; omega

/-- The text of parts. -/
def text (c : UInt8) (xs : List (List UInt8)) : List UInt8 := Lib.join xs [c]
theorem text_nil (c : UInt8) : text c [] = [] := rfl
theorem text_one (c : UInt8) (x : List UInt8) : text c [x] = x := Lib.join_one x [c]
theorem text_cons (c : UInt8) (x y : List UInt8) (r : List (List UInt8)) : text c (x :: y :: r) = x ++ c :: text c (y :: r) := by
  unfold text
  rw [Lib.join_cons, Lib.join_cons]
  simp [Lib.joinTail]
theorem text_cons' (c : UInt8) (x : List UInt8) (r : List (List UInt8)) (h : r ≠ []) : text c (x :: r) = x ++ c :: text c r := by
  cases r with
  | nil => exact absurd rfl h
  | cons y r => exact text_cons c x y r
theorem text_snoc (c : UInt8) (x : List UInt8) : ∀ (r : List (List UInt8)), r ≠ [] → text c (r ++ [x]) = text c r ++ c :: x
  | [], h => absurd rfl h
  | [y], _ => by rw [List.singleton_append, text_cons, text_one, text_one]
  | y :: z :: r, _ => by
    have ih := text_snoc c x (z :: r) (by simp)
    rw [List.cons_append, text_cons' c y _ (by simp), ih, text_cons]
    simp
theorem text_parts (c : UInt8) : ∀ s, text c (parts c s) = s
  | [] => by simp [parts, text_one]
  | b :: s => by
    have ih := text_parts c s
    obtain ⟨x, r, hx⟩ := List.exists_cons_of_ne_nil (parts_ne_nil c s)
    by_cases h : b = c
    · rw [h, parts_cons_eq, text_cons' _ _ _ (parts_ne_nil c s), ih]; rfl
    · rw [parts_cons_ne h, hx]
      rw [hx] at ih
      simp only [List.headD_cons, List.tail_cons]
      cases r with
      | nil => rw [text_one] at ih ⊢; rw [ih]
      | cons y r => rw [text_cons] at ih ⊢; rw [← ih]; rfl
theorem parts_inj {c : UInt8} {a b : List UInt8} (h : parts c a = parts c b) : a = b := by rw [← text_parts c a, h, text_parts]
theorem parts_app (c : UInt8) (s : List UInt8) : ∀ (x : List UInt8), c ∉ x → parts c (x ++ c :: s) = x :: parts c s
  | [], _ => by simp [parts]
  | b :: x, h => by
    simp at h
    have ih := parts_app c s x h.2
    rw [List.cons_append, parts_cons_ne (fun e => h.1 e.symm), ih]; rfl
theorem parts_plain (c : UInt8) : ∀ (x : List UInt8), c ∉ x → parts c x = [x]
  | [], _ => rfl
  | b :: x, h => by
    simp at h
    have ih := parts_plain c x h.2
    rw [parts_cons_ne (fun e => h.1 e.symm), ih]; rfl
theorem parts_text (c : UInt8) : ∀ (xs : List (List UInt8)), xs ≠ [] → (∀ x ∈ xs, c ∉ x) → parts c (text c xs) = xs
  | [], h, _ => absurd rfl h
  | [x], _, h => by rw [text_one]; exact parts_plain c x (h x (by simp))
  | x :: y :: r, _, h => by
    rw [text_cons, parts_app c _ x (h x (by simp)), parts_text c (y :: r) (by simp) (fun z hz => h z (by simp [hz]))]
theorem text_length_take (c : UInt8) (xs : List (List UInt8)) (k : Nat) : (text c (xs.take k)).length ≤ (text c xs).length := by
  induction xs generalizing k with
  | nil => simp
  | cons x r ih =>
    cases k with
    | zero => simp [text_nil]
    | succ k =>
      rw [List.take_succ_cons]
      cases hr : r.take k with
      | nil =>
        rw [text_one]
        cases r with
        | nil => rw [text_one]; exact Nat.le_refl _
        | cons y r => rw [text_cons]; simp
      | cons z q =>
        have h1 := ih k
        rw [hr] at h1
        rw [text_cons]
        cases r with
        | nil => simp at hr
        | cons y r => rw [text_cons]; simp at h1 ⊢; omega

/-- The library's cut at every separator of one byte. -/
theorem index_one_ne {b c : UInt8} (h : b ≠ c) (s : List UInt8) : Lib.index (b :: s) [c] = if Lib.index s [c] == -1 then -1 else Lib.index s [c] + 1 := by
  have hp : ([c] : List UInt8).isPrefixOf (b :: s) = false := by simp [List.isPrefixOf]; exact fun e => h e.symm
  rw [Lib.index]
  simp [hp]
theorem index_one_eq (c : UInt8) (s : List UInt8) : Lib.index (c :: s) [c] = 0 := by
  simp [Lib.index, List.isPrefixOf]
theorem split_parts (c : UInt8) : ∀ s, Lib.split s [c] = parts c s := by
  have key : ∀ (n : Nat) (s : List UInt8), s.length ≤ n → Lib.splitK [c] 0 (s.count c) s = parts c s := by
    intro n
    induction n with
    | zero => intro s hs; cases s with
      | nil => rfl
      | cons _ _ => simp at hs
    | succ n ih =>
      intro s hs
      cases s with
      | nil => rfl
      | cons b s =>
        simp at hs
        have ih' := ih s hs
        by_cases hb : b = c
        · subst hb
          rw [List.count_cons_self, parts_cons_eq, Lib.splitK, index_one_eq]
          simp
          exact ih'
        · rw [List.count_cons_of_ne hb, parts_cons_ne hb, ← ih']
          cases hk : s.count c with
          | zero => simp [Lib.splitK]
          | succ k =>
            rw [Lib.splitK, Lib.splitK, index_one_ne hb]
            rcases Lib.index_spec s [c] with ⟨h1, _⟩ | ⟨i, h1, _⟩
            · simp [h1]
            · have e1 : ¬ ((i : Int) = -1) := by omega
              have e2 : ¬ ((i : Int) + 1 = -1) := by omega
              rw [h1]
              simp [e1, e2]
  intro s
  rw [Lib.split, Lib.count_one]
  exact key s.length s (Nat.le_refl _)
end Go.Gn

namespace Go.Gn

structure Lin {α : Type} (c : α → α → Int) : Prop where
  zero : ∀ a b, c a b = 0 ↔ a = b
  anti : ∀ a b, c b a = - c a b
  trans : ∀ a b d, c a b ≤ 0 → c b d ≤ 0 → c a d ≤ 0
  lo : ∀ a b, -1 ≤ c a b
  hi : ∀ a b, c a b ≤ 1

theorem Lin.self {α : Type} {c : α → α → Int} (h : Lin c) (a : α) : c a a = 0 := (h.zero a a).2 rfl
theorem Lin.lt_le {α : Type} {c : α → α → Int} (h : Lin c) {a b d : α} (h1 : c a b < 0) (h2 : c b d ≤ 0) : c a d < 0 := by
  have h3 := h.trans a b d (by omega) h2
  by_cases e : c a d = 0
  · obtain rfl := (h.zero a d).1 e
    have := h.anti a b
    omega
  · omega
theorem Lin.le_lt {α : Type} {c : α → α → Int} (h : Lin c) {a b d : α} (h1 : c a b ≤ 0) (h2 : c b d < 0) : c a d < 0 := by
  have h3 := h.trans a b d h1 (by omega)
  by_cases e : c a d = 0
  · obtain rfl := (h.zero a d).1 e
    have := h.anti a b
    omega
  · omega

def lex {α : Type} (c : α → α → Int) : List α → List α → Int
  | [], [] => 0
  | [], _ :: _ => -1
  | _ :: _, [] => 1
  | a :: x, b :: y => if c a b = 0 then lex c x y else c a b

theorem lex_lin {α : Type} {c : α → α → Int} (h : Lin c) : Lin (lex c) where
  zero := by
    intro a
    induction a with
    | nil => intro b; cases b <;> simp [lex]
    | cons a x ih =>
      intro b
      cases b with
      | nil => simp [lex]
      | cons b y =>
        unfold lex
        have z := h.zero a b
        split
        · rename_i e; rw [ih y]; simp [z.1 e]
        · rename_i e; simp only [List.cons.injEq]
          constructor
          · intro e'; exact absurd e' e
          · intro e'; exact absurd (z.2 e'.1) e
  anti := by
    intro a
    induction a with
    | nil => intro b; cases b <;> simp [lex]
    | cons a x ih =>
      intro b
      cases b with
      | nil => simp [lex]
      | cons b y =>
        unfold lex
        have z := h.anti a b
        have := ih y
        split <;> split <;> omega
  trans := by
    intro a
    induction a with
    | nil => intro b d; cases b <;> cases d <;> simp [lex]
    | cons a x ih =>
      intro b d
      cases b with
      | nil => simp [lex]
      | cons b y =>
        cases d with
        | nil => simp [lex]
        | cons d z =>
          unfold lex
          intro h1 h2
          have t := h.trans a b d
          have i := ih y z
          by_cases e1 : c a b = 0
          · obtain rfl := (h.zero a b).1 e1
            rw [if_pos e1] at h1
            split at h2
            · rename_i e2; rw [if_pos e2]; exact i h1 h2
            · rename_i e2; rw [if_neg e2]; exact h2
          · rw [if_neg e1] at h1
            by_cases e2 : c b d = 0
            · obtain rfl := (h.zero b d).1 e2
              rw [if_neg e1]; exact h1
            · rw [if_neg e2] at h2
              have l := h.lt_le (a := a) (b := b) (d := d) (by omega) h2
              rw [if_neg (by omega)]; omega
  lo := by
    intro a
    induction a with
    | nil => intro b; cases b <;> simp [lex]
    | cons a x ih =>
      intro b
      cases b with
      | nil => simp [lex]
      | cons b y => unfold lex; split; exact ih y; exact h.lo a b
  hi := by
    intro a
    induction a with
    | nil => intro b; cases b <;> simp [lex]
    | cons a x ih =>
      intro b
      cases b with
      | nil => simp [lex]
      | cons b y => unfold lex; split; exact ih y; exact h.hi a b

def bcmp (a b : UInt8) : Int := if a < b then -1 else if b < a then 1 else 0
theorem bcmp_nat (a b : UInt8) : bcmp a b = if a.toNat < b.toNat then -1 else if b.toNat < a.toNat then 1 else 0 := by
  unfold bcmp; simp only [UInt8.lt_iff_toNat_lt]
theorem bcmp_lin : Lin bcmp where
  zero a b := by rw [bcmp_nat, ← UInt8.toNat_inj]; split <;> (try split) <;> omega
  anti a b := by rw [bcmp_nat, bcmp_nat]; split <;> split <;> (try split) <;> omega
  trans a b d := by rw [bcmp_nat, bcmp_nat, bcmp_nat]; repeat' split
                    all_goals omega
  lo a b := by rw [bcmp_nat]; split <;> (try split) <;> omega
  hi a b := by rw [bcmp_nat]; split <;> (try split) <;> omega
/-- The order of texts. -/
def scmp : List UInt8 → List UInt8 → Int := lex bcmp
theorem scmp_lin : Lin scmp := lex_lin bcmp_lin
theorem scmp_lt : ∀ a b : List UInt8, scmp a b < 0 ↔ a < b
  | [], [] => by simp [scmp, lex]
  | [], _ :: _ => by simp [scmp, lex]
  | _ :: _, [] => by simp [scmp, lex]
  | a :: x, b :: y => by
    have ih := scmp_lt x y
    rw [List.cons_lt_cons_iff]
    unfold scmp at ih ⊢
    unfold lex
    have z := bcmp_lin.zero a b
    split
    · rename_i e
      rw [ih]
      have := z.1 e
      subst this
      simp
    · rename_i e
      have e' : a ≠ b := fun h => e (z.2 h)
      simp only [e', false_and, or_false]
      unfold bcmp at e ⊢
      split <;> (try split) <;> simp_all
theorem scmp_gt (a b : List UInt8) : 0 < scmp a b ↔ b < a := by
  rw [← scmp_lt b a, scmp_lin.anti a b]; omega
theorem scmp_eq (a b : List UInt8) : scmp a b = if a < b then -1 else if b < a then 1 else 0 := by
  have h1 := scmp_lt a b
  have h2 := scmp_gt a b
  have := scmp_lin.lo a b
  have := scmp_lin.hi a b
  split
  · rename_i h; have := h1.2 h; omega
  · rename_i h
    have n1 : ¬ scmp a b < 0 := fun e => h (h1.1 e)
    split
    · rename_i g; have := h2.2 g; omega
    · rename_i g
      have n2 : ¬ 0 < scmp a b := fun e => g (h2.1 e)
      omega

/-- In increasing order, without repetitions. -/
def Inc {α : Type} (c : α → α → Int) (l : List α) : Prop := l.Pairwise fun a b => c a b < 0
theorem inc_uniq {α : Type} {c : α → α → Int} (h : Lin c) : ∀ (l m : List α), Inc c l → Inc c m → (∀ x, x ∈ l ↔ x ∈ m) → l = m
  | [], [], _, _, _ => rfl
  | [], y :: m, _, _, e => absurd ((e y).2 (by simp)) (by simp)
  | x :: l, [], _, _, e => absurd ((e x).1 (by simp)) (by simp)
  | x :: l, y :: m, i, j, e => by
    have i' := List.pairwise_cons.1 i
    have j' := List.pairwise_cons.1 j
    have exy : x = y := by
      have hx := (e x).1 (by simp)
      have hy := (e y).2 (by simp)
      simp at hx hy
      rcases hx with hx | hx
      · exact hx
      · rcases hy with hy | hy
        · exact hy.symm
        · have a1 := j'.1 x hx
          have a2 := i'.1 y hy
          have := h.anti x y
          omega
    subst exy
    have irr : ∀ (r : List α), (∀ z ∈ r, c x z < 0) → x ∉ r := fun r hr hx => by
      have := hr x hx; have := h.self x; omega
    rw [inc_uniq h l m i'.2 j'.2 (fun z => ?_)]
    constructor
    · intro hz
      have := (e z).1 (by simp [hz])
      simp at this
      rcases this with rfl | h1
      · exact absurd hz (irr l i'.1)
      · exact h1
    · intro hz
      have := (e z).2 (by simp [hz])
      simp at this
      rcases this with rfl | h1
      · exact absurd hz (irr m j'.1)
      · exact h1

/-- A value put into such a list. -/
def ins {α : Type} [DecidableEq α] (c : α → α → Int) (s : α) : List α → List α
  | [] => [s]
  | x :: r => if c x s < 0 then x :: ins c s r else if x = s then x :: r else s :: x :: r
theorem mem_ins {α : Type} [DecidableEq α] (c : α → α → Int) (s x : α) : ∀ l, x ∈ ins c s l ↔ x = s ∨ x ∈ l
  | [] => by simp [ins]
  | y :: r => by
    have ih := mem_ins c s x r
    unfold ins
    split
    · simp only [List.mem_cons, ih]
      constructor
      · rintro (h | h | h) <;> simp [h]
      · rintro (h | h | h) <;> simp [h]
    · split
      · rename_i e; subst e; simp
      · simp
theorem inc_ins {α : Type} [DecidableEq α] {c : α → α → Int} (h : Lin c) (s : α) : ∀ l, Inc c l → Inc c (ins c s l)
  | [], _ => by simp [ins, Inc]
  | y :: r, i => by
    have i' := List.pairwise_cons.1 i
    have ih := inc_ins h s r i'.2
    unfold ins
    split
    · rename_i e
      refine List.pairwise_cons.2 ⟨fun z hz => ?_, ih⟩
      rcases (mem_ins c s z r).1 hz with rfl | hz
      · exact e
      · exact i'.1 z hz
    · split
      · exact i
      · rename_i e1 e2
        have e3 : c y s ≠ 0 := fun e => e2 ((h.zero y s).1 e)
        have e4 : c s y < 0 := by have := h.anti y s; omega
        refine List.pairwise_cons.2 ⟨fun z hz => ?_, i⟩
        simp at hz
        rcases hz with rfl | hz
        · exact e4
        · exact h.lt_le e4 (by have := i'.1 z hz; omega)
def insAll {α : Type} [DecidableEq α] (c : α → α → Int) (l : List α) : List α := l.foldl (fun o s => ins c s o) []
theorem insAll_snoc {α : Type} [DecidableEq α] (c : α → α → Int) (l : List α) (x : α) : insAll c (l ++ [x]) = ins c x (insAll c l) := by simp [insAll]
theorem insFold {α : Type} [DecidableEq α] {c : α → α → Int} (h : Lin c) : ∀ (l o : List α), Inc c o → Inc c (l.foldl (fun o s => ins c s o) o) ∧ ∀ x, x ∈ l.foldl (fun o s => ins c s o) o ↔ x ∈ l ∨ x ∈ o
  | [], o, i => by simp [i]
  | y :: l, o, i => by
    have ih := insFold h l (ins c y o) (inc_ins h y o i)
    refine ⟨ih.1, fun x => ?_⟩
    have := ih.2 x
    simp only [List.foldl_cons]
    rw [this, mem_ins]
    simp only [List.mem_cons]
    constructor
    · rintro (h | h | h) <;> simp [h]
    · rintro ((h | h) | h) <;> simp [h]
theorem insAll_inc {α : Type} [DecidableEq α] {c : α → α → Int} (h : Lin c) (l : List α) : Inc c (insAll c l) := (insFold h l [] (by simp [Inc])).1
theorem mem_insAll {α : Type} [DecidableEq α] {c : α → α → Int} (h : Lin c) (l : List α) (x : α) : x ∈ insAll c l ↔ x ∈ l := by
  have := (insFold h l [] (by simp [Inc])).2 x
  rw [insAll, this]; simp
theorem insAll_length {α : Type} [DecidableEq α] (c : α → α → Int) (l : List α) : (insAll c l).length ≤ l.length := by
  have one : ∀ (s : α) (o : List α), (ins c s o).length ≤ o.length + 1 := by
    intro s o
    induction o with
    | nil => simp [ins]
    | cons x r ih => unfold ins; split <;> (try split) <;> simp <;> omega
  have : ∀ (l o : List α), (l.foldl (fun o s => ins c s o) o).length ≤ l.length + o.length := by
    intro l
    induction l with
    | nil => intro o; simp
    | cons y l ih => intro o; have := ih (ins c y o); have := one y o; simp at *; omega
  have := this l []
  simpa [insAll] using this
/-- Where a value is put: behind all that are less. -/
def insAt {α : Type} (c : α → α → Int) (s : α) : List α → Nat
  | [] => 0
  | x :: r => if c x s < 0 then insAt c s r + 1 else 0
theorem insAt_le {α : Type} (c : α → α → Int) (s : α) : ∀ l, insAt c s l ≤ l.length
  | [] => by simp [insAt]
  | x :: r => by have := insAt_le c s r; unfold insAt; split <;> simp <;> omega
theorem insAt_lt {α : Type} (c : α → α → Int) (s : α) : ∀ (l : List α) (j : Nat) (x : α), j < insAt c s l → l[j]? = some x → c x s < 0
  | [], j, x, h, _ => by simp [insAt] at h
  | y :: r, j, x, h, e => by
    unfold insAt at h
    split at h
    · rename_i hy
      cases j with
      | zero => simp at e; rw [← e]; exact hy
      | succ j => exact insAt_lt c s r j x (by omega) (by simpa using e)
    · omega
theorem insAt_stop {α : Type} (c : α → α → Int) (s : α) : ∀ (l : List α) (x : α), l[insAt c s l]? = some x → ¬ c x s < 0
  | [], x, e => by simp at e
  | y :: r, x, e => by
    unfold insAt at e
    split at e
    · exact insAt_stop c s r x (by simpa using e)
    · rename_i hy; simp at e; rw [← e]; exact hy
theorem insAt_eq {α : Type} (c : α → α → Int) (s : α) : ∀ (l : List α) (k : Nat), k ≤ l.length → (∀ (j : Nat) (x : α), j < k → l[j]? = some x → c x s < 0) → (∀ x, l[k]? = some x → ¬ c x s < 0) → insAt c s l = k
  | [], k, hk, _, _ => by simp at hk; simp [insAt, hk]
  | y :: r, k, hk, h1, h2 => by
    unfold insAt
    cases k with
    | zero => rw [if_neg (h2 y (by simp))]
    | succ k =>
      rw [if_pos (h1 0 y (by omega) (by simp)), insAt_eq c s r k (by simpa using hk) (fun j x hj e => h1 (j + 1) x (by omega) (by simpa using e)) (fun x e => h2 x (by simpa using e))]
theorem ins_at {α : Type} [DecidableEq α] (c : α → α → Int) (s : α) : ∀ l, ins c s l = if l[insAt c s l]? = some s then l else l.take (insAt c s l) ++ s :: l.drop (insAt c s l)
  | [] => by simp [ins, insAt]
  | x :: r => by
    have ih := ins_at c s r
    unfold ins insAt
    split
    · rw [ih]; simp only [List.getElem?_cons_succ, List.take_succ_cons, List.drop_succ_cons]
      split <;> simp
    · simp

/-- A sorted list without its repetitions. -/
theorem compact_inc {α : Type} [DecidableEq α] [Inhabited α] {c : α → α → Int} (h : Lin c) (zs : List α) (hs : zs.Pairwise fun a b => c a b ≤ 0) : Inc c (Lib.compact zs) ∧ ∀ x, x ∈ Lib.compact zs ↔ x ∈ zs := by
  have hg : ∀ i j : Nat, i ≤ j → j < zs.length → c (zs.toArray[i]!) (zs.toArray[j]!) ≤ 0 := by
    intro i j hij hj
    rcases Nat.lt_or_ge i j with h1 | h1
    · have := List.pairwise_iff_getElem.1 hs i j (by omega) hj h1
      simpa [getElem!_def, show i < zs.length by omega, hj] using this
    · obtain rfl : i = j := by omega
      rw [h.self]; omega
  constructor
  · unfold Inc Lib.compact Lib.compactUpTo
    rw [List.pairwise_map]
    have hp : ((List.range zs.length).filter (Lib.keeps zs.toArray)).Pairwise (fun i j => i < j) := List.Pairwise.filter _ List.pairwise_lt_range
    refine List.Pairwise.imp_of_mem ?_ hp
    intro i j _ hj hij
    simp only [List.mem_filter, List.mem_range] at hj
    obtain ⟨hj1, hj2⟩ := hj
    simp only [Lib.keeps, decide_eq_true_eq] at hj2
    rcases hj2 with hj2 | hj2
    · omega
    · have a1 := hg i (j - 1) (by omega) (by omega)
      have a2 := hg (j - 1) j (by omega) hj1
      have a3 : c (zs.toArray[j - 1]!) (zs.toArray[j]!) ≠ 0 := fun e => hj2 ((h.zero _ _).1 e).symm
      exact h.le_lt a1 (by omega)
  · intro x
    unfold Lib.compact Lib.compactUpTo
    simp only [List.mem_map, List.mem_filter, List.mem_range]
    constructor
    · rintro ⟨j, ⟨h1, _⟩, rfl⟩
      simp [h1]
    · intro hx
      obtain ⟨k, hk, e⟩ := List.mem_iff_getElem.1 hx
      have : ∀ (k : Nat) (hk : k < zs.length), zs[k] = x → ∃ a, (a < zs.length ∧ Lib.keeps zs.toArray a = true) ∧ zs.toArray[a]! = x := by
        intro k
        induction k with
        | zero => intro hk e; exact ⟨0, ⟨hk, by simp [Lib.keeps]⟩, by simpa [getElem!_def, hk] using e⟩
        | succ k ih =>
          intro hk e
          by_cases e2 : zs[k]'(by omega) = x
          · exact ih (by omega) e2
          · refine ⟨k + 1, ⟨hk, ?_⟩, by simpa [getElem!_def, hk] using e⟩
            simp only [Lib.keeps, decide_eq_true_eq]
            right
            simp [hk, show k < zs.length by omega]
            rw [e]; exact fun h => e2 h.symm
      exact this k hk e
end Go.Gn

namespace Go.Gn

def isLow (c : UInt8) : Bool := decide (97 ≤ c.toNat) && decide (c.toNat ≤ 122)
def okB (c : UInt8) : Bool := isLow c || (decide (48 ≤ c.toNat) && decide (c.toNat ≤ 57)) || decide (c.toNat = 45) || decide (c.toNat = 43) || decide (c.toNat = 95)
/-- A component of a name. -/
def comp (s : List UInt8) : Bool := decide (1 ≤ s.length) && decide (s.length ≤ 20) && isLow (s.getD 0 0) && s.all okB
theorem comp_iff (s : List UInt8) : comp s = true ↔ 1 ≤ s.length ∧ s.length ≤ 20 ∧ isLow (s.getD 0 0) = true ∧ s.all okB = true := by simp [comp, and_assoc]
theorem okB_low {c : UInt8} (h : isLow c = true) : okB c = true := by simp [okB, h]
theorem comp_pos {s : List UInt8} (h : comp s = true) : 1 ≤ s.length := ((comp_iff s).1 h).1
theorem comp_free {s : List UInt8} {c : UInt8} (hc : okB c = false) (h : comp s = true) : c ∉ s := fun hm => by
  have := List.all_eq_true.1 ((comp_iff s).1 h).2.2.2 c hm
  rw [hc] at this; cases this
theorem comp_dot {s : List UInt8} (h : comp s = true) : (46 : UInt8) ∉ s := comp_free (by decide) h
theorem comp_comma {s : List UInt8} (h : comp s = true) : (44 : UInt8) ∉ s := comp_free (by decide) h

/-- The error of a name. -/
def check (s : List UInt8) : Nat := if 80 < s.length then 5 else if (parts 46 s).any (fun p => !comp p) then 12 else if 10 < (parts 46 s).length then 9 else 0
theorem check_zero (s : List UInt8) : check s = 0 ↔ s.length ≤ 80 ∧ (∀ p ∈ parts 46 s, comp p = true) ∧ (parts 46 s).length ≤ 10 := by
  unfold check
  have e : (parts 46 s).any (fun p => !comp p) = true ↔ ¬ ∀ p ∈ parts 46 s, comp p = true := by
    simp only [List.any_eq_true, Bool.not_eq_true', Classical.not_forall, Bool.not_eq_true, exists_prop]
  split
  · simp; omega
  · split
    · rename_i h; have := e.1 h; simp; intro _ h2; exact absurd h2 this
    · rename_i h
      have h2 : ∀ p ∈ parts 46 s, comp p = true := Classical.byContradiction fun hn => h (e.2 hn)
      split
      · simp; omega
      · simp; exact ⟨by omega, h2, by omega⟩
theorem check_cases (s : List UInt8) : check s = 0 ∨ check s = 5 ∨ check s = 12 ∨ check s = 9 := by
  unfold check; split <;> (try split) <;> (try split) <;> simp
theorem check_comma {s : List UInt8} (h : check s = 0) : (44 : UInt8) ∉ s := fun hm => by
  have h2 := ((check_zero s).1 h).2.1
  rw [← text_parts 46 s] at hm
  have : ∀ (xs : List (List UInt8)), (∀ p ∈ xs, comp p = true) → (44 : UInt8) ∉ text 46 xs := by
    intro xs
    induction xs with
    | nil => intro _; simp [text_nil]
    | cons x r ih =>
      intro hp
      cases r with
      | nil => rw [text_one]; exact comp_comma (hp x (by simp))
      | cons y r =>
        rw [text_cons]
        have := comp_comma (hp x (by simp))
        have := ih (fun p hp' => hp p (by simp [hp']))
        simp [*]
  exact this _ h2 hm
theorem check_nil : check [] = 12 := by decide
theorem check_pos {s : List UInt8} (h : check s = 0) : 1 ≤ s.length := by
  cases s with
  | nil => rw [check_nil] at h; cases h
  | cons _ _ => simp

/-- The order of names. -/
def gcmp (a b : List UInt8) : Int := lex scmp (parts 46 a) (parts 46 b)
theorem gcmp_lin : Lin gcmp where
  zero a b := by
    unfold gcmp
    rw [(lex_lin scmp_lin).zero]
    exact ⟨fun h => parts_inj h, fun h => by rw [h]⟩
  anti a b := (lex_lin scmp_lin).anti _ _
  trans a b d := (lex_lin scmp_lin).trans _ _ _
  lo a b := (lex_lin scmp_lin).lo _ _
  hi a b := (lex_lin scmp_lin).hi _ _

/-- A name belongs to a hierarchy. -/
def within (a h : List UInt8) : Bool := decide (check a = 0) && decide (check h = 0) && (parts 46 h).isPrefixOf (parts 46 a)
theorem within_iff (a h : List UInt8) : within a h = true ↔ check a = 0 ∧ check h = 0 ∧ parts 46 h <+: parts 46 a := by simp [within, and_assoc]
theorem within_refl {a : List UInt8} (h : check a = 0) : within a a = true := (within_iff a a).2 ⟨h, h, List.prefix_refl _⟩
theorem within_anti {a b : List UInt8} (h : within a b = true) (k : within b a = true) : a = b := by
  have h1 := ((within_iff a b).1 h).2.2
  have h2 := ((within_iff b a).1 k).2.2
  exact parts_inj (h2.eq_of_length_le h1.length_le)
theorem within_trans {a b c : List UInt8} (h : within a b = true) (k : within b c = true) : within a c = true := by
  have h1 := (within_iff a b).1 h
  have h2 := (within_iff b c).1 k
  exact (within_iff a c).2 ⟨h1.1, h2.2.1, h2.2.2.trans h1.2.2⟩
/-- The code's test: the same name, or the hierarchy and a dot ahead. -/
theorem dot_prefix (a h : List UInt8) : (a = h ∨ (h ++ [46]) <+: a) ↔ parts 46 h <+: parts 46 a := by
  constructor
  · rintro (rfl | ⟨t, rfl⟩)
    · exact List.prefix_refl _
    · have : ∀ (s : List UInt8), parts 46 s <+: parts 46 (s ++ [46] ++ t) := by
        intro s
        induction s with
        | nil => simp [parts]
        | cons b s ih =>
          obtain ⟨r, hr⟩ := ih
          obtain ⟨x, q, hx⟩ := List.exists_cons_of_ne_nil (parts_ne_nil 46 s)
          by_cases hb : b = 46
          · rw [hb, List.cons_append, List.cons_append, parts_cons_eq, parts_cons_eq]; exact ⟨r, by rw [← hr]; rfl⟩
          · rw [List.cons_append, List.cons_append, parts_cons_ne hb, parts_cons_ne hb]; exact ⟨r, by rw [← hr, hx]; rfl⟩
      exact this h
  · rintro ⟨r, hr⟩
    cases r with
    | nil => left; rw [List.append_nil] at hr; exact (parts_inj hr).symm
    | cons x r =>
      right
      have e := text_parts 46 a
      rw [← hr] at e
      have : ∀ (xs : List (List UInt8)), xs ≠ [] → ∃ t, text 46 (xs ++ x :: r) = text 46 xs ++ [46] ++ t := by
        intro xs hne
        induction xs with
        | nil => exact absurd rfl hne
        | cons y q ih =>
          cases q with
          | nil => refine ⟨text 46 (x :: r), ?_⟩; rw [List.singleton_append, text_cons, text_one]; simp
          | cons z q =>
            obtain ⟨t, ht⟩ := ih (by simp)
            refine ⟨t, ?_⟩
            rw [List.cons_append, text_cons' _ _ _ (by simp), ht, text_cons]; simp
      obtain ⟨t, ht⟩ := this _ (parts_ne_nil 46 h)
      rw [text_parts] at ht
      exact ⟨t, by rw [← ht, e]⟩
/-- The reference's test: the text of as many parts as the hierarchy has. -/
theorem take_text (a h : List UInt8) (hl : (parts 46 h).length ≤ (parts 46 a).length) : (text 46 ((parts 46 a).take (parts 46 h).length) = h) ↔ parts 46 h <+: parts 46 a := by
  rw [List.prefix_iff_eq_take]
  constructor
  · intro e
    have hp := parts_pos 46 h
    have := parts_text 46 ((parts 46 a).take (parts 46 h).length) (by
      intro e'
      have := congrArg List.length e'
      simp only [List.length_take, List.length_nil] at this; omega) (fun x hx => parts_free 46 a x (List.mem_of_mem_take hx))
    rw [e] at this
    exact this
  · intro e; rw [← e, text_parts]

/-- What precedes the last dot. -/
theorem check_text {xs : List (List UInt8)} (h0 : xs ≠ []) (h1 : ∀ p ∈ xs, comp p = true) (h2 : xs.length ≤ 10) (h3 : (text 46 xs).length ≤ 80) : check (text 46 xs) = 0 := by
  rw [check_zero, parts_text 46 xs h0 (fun x hx => comp_dot (h1 x hx))]
  exact ⟨h3, h1, h2⟩
theorem check_take {a : List UInt8} (h : check a = 0) (k : Nat) (hk : 1 ≤ k) : check (text 46 ((parts 46 a).take k)) = 0 := by
  have h' := (check_zero a).1 h
  have hp := parts_pos 46 a
  refine check_text ?_ (fun p hp => h'.2.1 p (List.mem_of_mem_take hp)) ?_ ?_
  · intro e; have := congrArg List.length e; simp only [List.length_take, List.length_nil] at this; omega
  · simp; omega
  · have := text_length_take 46 (parts 46 a) k; rw [text_parts] at this; omega
theorem parts_take {a : List UInt8} (k : Nat) (hk : 1 ≤ k) : parts 46 (text 46 ((parts 46 a).take k)) = (parts 46 a).take k := by
  have hp := parts_pos 46 a
  refine parts_text 46 _ ?_ (fun x hx => parts_free 46 a x (List.mem_of_mem_take hx))
  intro e; have := congrArg List.length e; simp only [List.length_take, List.length_nil] at this; omega
theorem within_take {a : List UInt8} (h : check a = 0) (k : Nat) (hk : 1 ≤ k) : within a (text 46 ((parts 46 a).take k)) = true :=
  (within_iff _ _).2 ⟨h, check_take h k hk, by rw [parts_take k hk]; exact List.take_prefix _ _⟩

/-- How many components two lists have in common at their beginning. -/
def same0 : List (List UInt8) → List (List UInt8) → Nat
  | a :: x, b :: y => if a = b then same0 x y + 1 else 0
  | _, _ => 0
theorem same0_le : ∀ x y, same0 x y ≤ x.length ∧ same0 x y ≤ y.length
  | [], y => by simp [same0]
  | _ :: _, [] => by simp [same0]
  | a :: x, b :: y => by have := same0_le x y; unfold same0; split <;> simp <;> omega
theorem same0_take : ∀ x y : List (List UInt8), x.take (same0 x y) = y.take (same0 x y)
  | [], y => by simp [same0]
  | _ :: _, [] => by simp [same0]
  | a :: x, b :: y => by
    have ih := same0_take x y
    unfold same0
    split
    · rename_i e; subst e; simp [ih]
    · simp
theorem same0_most : ∀ (x y p : List (List UInt8)), p <+: x → p <+: y → p.length ≤ same0 x y
  | _, _, [], _, _ => by simp
  | [], _, c :: p, h, _ => by have := h.length_le; simp at this
  | _ :: _, [], c :: p, _, h => by have := h.length_le; simp at this
  | a :: x, b :: y, c :: p, h1, h2 => by
    rw [List.cons_prefix_cons] at h1 h2
    have ih := same0_most x y p h1.2 h2.2
    unfold same0
    rw [if_pos (h1.1.symm.trans h2.1)]
    simp; omega
theorem same0_eq : ∀ (x y : List (List UInt8)) (k : Nat), k ≤ x.length → k ≤ y.length → (∀ j, j < k → x[j]? = y[j]?) → (k < x.length → k < y.length → x[k]? ≠ y[k]?) → same0 x y = k
  | [], y, k, h1, _, _, _ => by simp at h1; simp [same0, h1]
  | _ :: _, [], k, _, h2, _, _ => by simp at h2; simp [same0, h2]
  | a :: x, b :: y, k, h1, h2, h3, h4 => by
    unfold same0
    cases k with
    | zero => have := h4 (by simp) (by simp); simp at this; rw [if_neg this]
    | succ k =>
      have e := h3 0 (by omega)
      simp at e
      rw [if_pos e, same0_eq x y k (by simpa using h1) (by simpa using h2) (fun j hj => by simpa using h3 (j + 1) (by omega)) (fun a b => by simpa using h4 (by simpa using a) (by simpa using b))]
/-- The smallest hierarchy to which both belong; empty: none. -/
def common (a b : List UInt8) : List UInt8 := text 46 ((parts 46 a).take (same0 (parts 46 a) (parts 46 b)))
theorem common_spec {a b : List UInt8} (ha : check a = 0) (hb : check b = 0) (k : Nat) (hk : 1 ≤ k) (hl : k ≤ (parts 46 a).length) :
    (within a (text 46 ((parts 46 a).take k)) && within b (text 46 ((parts 46 a).take k))) = decide (k ≤ same0 (parts 46 a) (parts 46 b)) := by
  rw [within_take ha k hk, Bool.true_and, Bool.eq_iff_iff, within_iff, parts_take k hk, decide_eq_true_eq]
  constructor
  · intro ⟨_, _, h⟩
    have := same0_most _ _ _ (List.take_prefix k (parts 46 a)) h
    simp at this; omega
  · intro h
    refine ⟨hb, check_take ha k hk, ?_⟩
    have e : (parts 46 a).take k = (parts 46 b).take k := by
      have := congrArg (List.take k) (same0_take (parts 46 a) (parts 46 b))
      rw [List.take_take, List.take_take, Nat.min_eq_left h] at this
      exact this
    rw [e]; exact List.take_prefix _ _
theorem common_ne {a b : List UInt8} (ha : check a = 0) : common a b = [] ↔ same0 (parts 46 a) (parts 46 b) = 0 := by
  unfold common
  constructor
  · intro e
    rcases Nat.eq_zero_or_pos (same0 (parts 46 a) (parts 46 b)) with h | h
    · exact h
    · have := check_take ha _ h
      rw [e, check_nil] at this; cases this
  · intro e; rw [e]; rfl
theorem common_within {a b c : List UInt8} (h1 : within a c = true) (h2 : within b c = true) : within (common a b) c = true := by
  have a1 := (within_iff a c).1 h1
  have b1 := (within_iff b c).1 h2
  have hm := same0_most _ _ _ a1.2.2 b1.2.2
  have hp := parts_pos 46 c
  unfold common
  refine (within_iff _ _).2 ⟨check_take a1.1 _ (by omega), a1.2.1, ?_⟩
  rw [parts_take _ (by omega)]
  exact List.prefix_take_iff.2 ⟨a1.2.2, hm⟩
theorem common_pos {a b c : List UInt8} (h1 : within a c = true) (h2 : within b c = true) : common a b ≠ [] := by
  have a1 := (within_iff a c).1 h1
  have b1 := (within_iff b c).1 h2
  have hm := same0_most _ _ _ a1.2.2 b1.2.2
  have hp := parts_pos 46 c
  rw [Ne, common_ne a1.1]; omega

/-- A hierarchy precedes what belongs to it; what lies between belongs to it as well. -/
theorem lex_prefix {α : Type} {c : α → α → Int} (h : Lin c) : ∀ (x y : List α), x <+: y → lex c x y ≤ 0
  | [], [], _ => by simp [lex]
  | [], _ :: _, _ => by simp [lex]
  | _ :: _, [], e => by have := e.length_le; simp at this
  | a :: x, b :: y, e => by
    rw [List.cons_prefix_cons] at e
    unfold lex
    rw [if_pos ((h.zero a b).2 e.1)]
    exact lex_prefix h x y e.2
theorem lex_between {α : Type} {c : α → α → Int} (h : Lin c) : ∀ (p x y z : List α), p <+: x → p <+: z → lex c x y ≤ 0 → lex c y z ≤ 0 → p <+: y
  | [], _, y, _, _, _, _, _ => List.nil_prefix
  | q :: p, x, y, z, h1, h2, h3, h4 => by
    obtain ⟨x', rfl⟩ := h1
    obtain ⟨z', rfl⟩ := h2
    cases y with
    | nil => simp [lex] at h3
    | cons b y =>
      simp only [List.cons_append] at h3 h4
      unfold lex at h3 h4
      have an := h.anti q b
      by_cases e : c q b = 0
      · obtain rfl := (h.zero q b).1 e
        rw [if_pos e] at h3 h4
        rw [List.cons_prefix_cons]
        exact ⟨rfl, lex_between h p _ y _ (List.prefix_append _ _) (List.prefix_append _ _) h3 h4⟩
      · rw [if_neg e] at h3
        rw [if_neg (by omega)] at h4
        omega
theorem within_le {a h : List UInt8} (e : within a h = true) : gcmp h a ≤ 0 := lex_prefix scmp_lin _ _ ((within_iff a h).1 e).2.2
theorem within_between {a b c h : List UInt8} (hb : check b = 0) (h1 : gcmp a b ≤ 0) (h2 : gcmp b c ≤ 0) (ha : within a h = true) (hc : within c h = true) : within b h = true := by
  have a1 := (within_iff a h).1 ha
  have c1 := (within_iff c h).1 hc
  exact (within_iff b h).2 ⟨hb, a1.2.1, lex_between scmp_lin _ _ _ _ a1.2.2 c1.2.2 h1 h2⟩
end Go.Gn

namespace Go.Nr
open Go.Lib Go.Gn

def M : Int := 1099511627776
theorem M_lt : M < 10 ^ 13 := by decide
/-- A range that contains article numbers. -/
def ok (r : Rg) : Prop := 1 ≤ r.1 ∧ r.1 ≤ r.2 ∧ r.2 ≤ M
instance (r : Rg) : Decidable (ok r) := inferInstanceAs (Decidable (_ ∧ _ ∧ _))
/-- The text of a range. -/
def itemT (r : Rg) : List UInt8 := if r.1 = r.2 then decDigits r.1.toNat else decDigits r.1.toNat ++ 45 :: decDigits r.2.toNat
/-- The text of a set. -/
def setT (l : List Rg) : List UInt8 := text 44 (l.map itemT)
/-- What stands ahead of a hyphen, and behind it. -/
def cutA (s : List UInt8) : List UInt8 := s.takeWhile (· != 45)
def cutB (s : List UInt8) : Option (List UInt8) := match s.dropWhile (· != 45) with | [] => none | _ :: t => some t
theorem cut_none {s : List UInt8} (h : (45 : UInt8) ∉ s) : cutA s = s ∧ cutB s = none := by
  have h1 : ∀ c ∈ s, (c != 45) = true := fun c hc => by
    have : c ≠ 45 := fun e => h (e ▸ hc)
    simpa using this
  have e1 : s.takeWhile (· != 45) = s := by
    induction s with
    | nil => rfl
    | cons a t ih => rw [List.takeWhile_cons, if_pos (h1 a (by simp)), ih (fun hh => h (by simp [hh])) fun c hc => h1 c (by simp [hc])]
  have e2 : s.dropWhile (· != 45) = [] := by
    have := List.takeWhile_append_dropWhile (p := (· != (45 : UInt8))) (l := s)
    rw [e1] at this
    simpa using this
  unfold cutA cutB
  rw [e1, e2]; exact ⟨rfl, rfl⟩
theorem cut_some (a b : List UInt8) (h : (45 : UInt8) ∉ a) : cutA (a ++ 45 :: b) = a ∧ cutB (a ++ 45 :: b) = some b := by
  unfold cutA cutB
  induction a with
  | nil => simp
  | cons x a ih =>
    have hx : (x != 45) = true := by
      have : x ≠ 45 := fun e => h (by simp [e])
      simpa using this
    have := ih fun hh => h (by simp [hh])
    simp only [List.cons_append, List.takeWhile_cons, hx, if_true, List.dropWhile_cons]
    exact ⟨by rw [this.1], this.2⟩
theorem cut_inv (s : List UInt8) : (∃ b, cutB s = some b ∧ s = cutA s ++ 45 :: b) ∨ (cutB s = none ∧ cutA s = s) := by
  by_cases h : (45 : UInt8) ∈ s
  · left
    obtain ⟨a, b, e, hn⟩ := List.append_of_mem h |>.elim fun a ⟨b, e⟩ => (by
      have : ∀ (s : List UInt8), (45 : UInt8) ∈ s → ∃ a b, s = a ++ 45 :: b ∧ (45 : UInt8) ∉ a := by
        intro s
        induction s with
        | nil => intro h; simp at h
        | cons x t ih =>
          intro h
          by_cases hx : x = 45
          · subst hx; exact ⟨[], t, rfl, by simp⟩
          · have ht : (45 : UInt8) ∈ t := by
              simp at h
              rcases h with h | h
              · exact absurd h.symm hx
              · exact h
            obtain ⟨a, b, e, hn⟩ := ih ht
            refine ⟨x :: a, b, by rw [e]; rfl, ?_⟩
            simp; exact ⟨fun e => hx e.symm, hn⟩
      exact this s h)
    have := cut_some a b hn
    rw [e]
    exact ⟨b, this.2, by rw [this.1]⟩
  · right
    have := cut_none h
    exact ⟨this.2, this.1⟩
/-- The range of an item, or the number of its error. -/
def pitem (s : List UInt8) : Rg ⊕ Nat :=
  let a := cutA s
  let b := (cutB s).getD a
  if okNum a = true ∧ okNum b = true then
    if (val a : Int) ≤ M ∧ (val b : Int) ≤ M ∧ ((cutB s).isSome = true → (val a : Int) < val b) then .inl ((val a : Int), (val b : Int)) else .inr 2
  else .inr 3
theorem dig_hyphen {s : List UInt8} (h : s.all isDig = true) : (45 : UInt8) ∉ s := fun hm => by
  have := List.all_eq_true.1 h 45 hm
  simp [isDig] at this
theorem dig_comma {s : List UInt8} (h : s.all isDig = true) : (44 : UInt8) ∉ s := fun hm => by
  have := List.all_eq_true.1 h 44 hm
  simp [isDig] at this
theorem pitem_text {r : Rg} (h : ok r) : pitem (itemT r) = .inl r := by
  obtain ⟨h1, h2, h3⟩ := h
  have hM := M_lt
  have e1 := digits_val r.1.toNat
  have e2 := digits_val r.2.toNat
  have o1 := okNum_digits (n := r.1.toNat) (by omega) (by omega)
  have o2 := okNum_digits (n := r.2.toNat) (by omega) (by omega)
  unfold itemT
  split
  · rename_i he
    have := cut_none (dig_hyphen (digits_all r.1.toNat))
    unfold pitem
    rw [this.1, this.2]
    simp only [Option.getD_none, Option.isSome_none, o1, e1, and_self, if_true]
    rw [if_pos ⟨by omega, by omega, by simp⟩]
    congr 1
    exact Prod.ext (by show ((r.1.toNat : Nat) : Int) = r.1; omega) (by show ((r.1.toNat : Nat) : Int) = r.2; omega)
  · rename_i he
    have := cut_some (decDigits r.1.toNat) (decDigits r.2.toNat) (dig_hyphen (digits_all r.1.toNat))
    unfold pitem
    rw [this.1, this.2]
    simp only [Option.getD_some, Option.isSome_some, o1, o2, e1, e2, and_self, if_true]
    rw [if_pos ⟨by omega, by omega, by intro _; omega⟩]
    congr 1
    exact Prod.ext (by show ((r.1.toNat : Nat) : Int) = r.1; omega) (by show ((r.2.toNat : Nat) : Int) = r.2; omega)
theorem pitem_inv {s : List UInt8} {r : Rg} (h : pitem s = .inl r) : ok r ∧ itemT r = s := by
  unfold pitem at h
  simp only at h
  split at h
  · rename_i ho
    split at h
    · rename_i hc
      cases h
      obtain ⟨a1, a2, a3⟩ := okNum_val ho.1
      obtain ⟨b1, b2, b3⟩ := okNum_val ho.2
      rcases cut_inv s with ⟨b, eb, es⟩ | ⟨eb, es⟩
      · rw [eb] at b1 b2 b3 hc ⊢
        simp only [Option.getD_some, Option.isSome_some, forall_const] at b1 b2 b3 hc ⊢
        refine ⟨⟨?_, ?_, ?_⟩, ?_⟩
        · show 1 ≤ (val (cutA s) : Int); omega
        · show (val (cutA s) : Int) ≤ (val b : Int); omega
        · exact hc.2.1
        · unfold itemT
          simp only [Int.toNat_natCast]
          rw [if_neg (by omega), a1, b1, ← es]
      · rw [eb] at hc ⊢
        simp only [Option.getD_none] at hc ⊢
        refine ⟨⟨?_, ?_, ?_⟩, ?_⟩
        · show 1 ≤ (val (cutA s) : Int); omega
        · show (val (cutA s) : Int) ≤ (val (cutA s) : Int); omega
        · exact hc.2.1
        · unfold itemT
          simp only [Int.toNat_natCast, if_true]
          rw [a1, es]
    · cases h
  · cases h
/-- The ranges of items, or the offset and the number of the first error; last: the last number before them, 0: none. -/
def pitems : List (List UInt8) → Nat → Int → List Rg ⊕ (Nat × Nat)
  | [], _, _ => .inl []
  | s :: t, at_, last => match pitem s with
    | .inr e => .inr (at_, e)
    | .inl r => if 0 < last ∧ r.1 < last + 2 then .inr (at_, 30) else
      match pitems t (at_ + s.length + 1) r.2 with
      | .inl l => .inl (r :: l)
      | .inr e => .inr e
theorem pitems_text : ∀ (l : List Rg) (at_ : Nat) (last : Int), Nrm l → (∀ r ∈ l, ok r) → (0 < last → ∀ r ∈ l, last + 2 ≤ r.1) → pitems (l.map itemT) at_ last = .inl l
  | [], _, _, _, _, _ => rfl
  | r :: l, at_, last, hn, ho, hl => by
    obtain ⟨h1, h2, h3⟩ := hn.cons
    rw [List.map_cons, pitems, pitem_text (ho r (by simp))]
    simp only
    rw [if_neg (fun ⟨a, b⟩ => by have := hl a r (by simp); omega), pitems_text l _ r.2 h3 (fun s hs => ho s (by simp [hs])) (fun _ s hs => h2 s hs)]
theorem pitems_inv : ∀ (t : List (List UInt8)) (at_ : Nat) (last : Int) (l : List Rg), pitems t at_ last = .inl l → l.map itemT = t ∧ Nrm l ∧ (∀ r ∈ l, ok r) ∧ (0 < last → ∀ r ∈ l, last + 2 ≤ r.1)
  | [], _, _, l, h => by
    rw [pitems] at h
    cases h
    exact ⟨rfl, Nrm.nil, by simp, by simp⟩
  | s :: t, at_, last, l, h => by
    rw [pitems] at h
    split at h
    · cases h
    · rename_i r hr
      split at h
      · cases h
      · rename_i hc
        split at h
        · rename_i l' hl'
          cases h
          obtain ⟨a, b⟩ := pitem_inv hr
          obtain ⟨c, d, e, f⟩ := pitems_inv t _ _ l' hl'
          have hr1 := a.1
          have hr2 := a.2.1
          have f' := f (by omega)
          refine ⟨by rw [List.map_cons, b, c], Nrm.mk hr2 f' d, fun q hq => ?_, fun hp q hq => ?_⟩
          · simp at hq
            rcases hq with rfl | hq
            · exact a
            · exact e q hq
          · simp at hq
            rcases hq with rfl | hq
            · have : ¬ q.1 < last + 2 := fun k => hc ⟨hp, k⟩
              omega
            · have := f' q hq
              have : ¬ r.1 < last + 2 := fun k => hc ⟨hp, k⟩
              omega
        · cases h
/-- The set of a text, or the offset and the number of the first error. -/
def pset (s : List UInt8) : List Rg ⊕ (Nat × Nat) := if s = [] then .inl [] else pitems (parts 44 s) 0 0
theorem itemT_comma (r : Rg) : (44 : UInt8) ∉ itemT r := by
  unfold itemT
  split
  · exact dig_comma (digits_all _)
  · intro h
    rcases List.mem_append.1 h with h | h
    · exact dig_comma (digits_all _) h
    · simp at h
      exact dig_comma (digits_all _) h
theorem itemT_ne (r : Rg) : itemT r ≠ [] := by
  unfold itemT
  split
  · exact digits_ne _
  · simp
theorem setT_nil {l : List Rg} : setT l = [] ↔ l = [] := by
  constructor
  · intro h
    cases l with
    | nil => rfl
    | cons r l =>
      exfalso
      have := parts_text 44 ((r :: l).map itemT) (by simp) (fun x hx => by obtain ⟨q, _, rfl⟩ := List.mem_map.1 hx; exact itemT_comma q)
      unfold setT at h
      rw [h] at this
      have h1 : parts 44 [] = [[]] := rfl
      rw [h1] at this
      simp at this
      exact itemT_ne r this.1
  · rintro rfl; rfl
/-- **Parsing the text of a set returns the set.** -/
theorem pset_text {l : List Rg} (hn : Nrm l) (ho : ∀ r ∈ l, ok r) : pset (setT l) = .inl l := by
  unfold pset
  split
  · rename_i h
    rw [setT_nil.1 h]
  · rename_i h
    have hl : l ≠ [] := fun e => h (setT_nil.2 e)
    unfold setT
    rw [parts_text 44 _ (by simpa using hl) (fun x hx => by obtain ⟨q, _, rfl⟩ := List.mem_map.1 hx; exact itemT_comma q)]
    exact pitems_text l 0 0 hn ho (fun h => by omega)
/-- **A text that is accepted is that of the set.** -/
theorem pset_inv {s : List UInt8} {l : List Rg} (h : pset s = .inl l) : setT l = s ∧ Nrm l ∧ ∀ r ∈ l, ok r := by
  unfold pset at h
  split at h
  · rename_i hs
    cases h
    exact ⟨by rw [hs]; rfl, Nrm.nil, by simp⟩
  · obtain ⟨a, b, c, _⟩ := pitems_inv _ _ _ _ h
    exact ⟨by unfold setT; rw [a, text_parts], b, c⟩
end Go.Nr

namespace Go.Nr
open Go.Gn

/-- What is kept of a group: its name, whether it is subscribed, the numbers. -/
abbrev G := List UInt8 × Bool × List Rg
/-- The index of a group, or how many there are. -/
def gidx : List G → List UInt8 → Nat
  | [], _ => 0
  | g :: m, s => if g.1 = s then 0 else gidx m s + 1
theorem gidx_le : ∀ (m : List G) (s : List UInt8), gidx m s ≤ m.length
  | [], _ => by simp [gidx]
  | g :: m, s => by have := gidx_le m s; unfold gidx; split <;> simp; omega
theorem gidx_at : ∀ (m : List G) (s : List UInt8) (g : G), m[gidx m s]? = some g → g.1 = s
  | [], _, g, h => by simp at h
  | q :: m, s, g, h => by
    unfold gidx at h
    split at h
    · rename_i e; simp at h; rw [← h]; exact e
    · exact gidx_at m s g (by simpa using h)
theorem gidx_before : ∀ (m : List G) (s : List UInt8) (j : Nat) (g : G), j < gidx m s → m[j]? = some g → g.1 ≠ s
  | [], _, j, g, h, _ => by simp [gidx] at h
  | q :: m, s, j, g, h, e => by
    unfold gidx at h
    split at h
    · omega
    · rename_i hq
      cases j with
      | zero => simp at e; rw [← e]; exact hq
      | succ j => exact gidx_before m s j g (by omega) (by simpa using e)
theorem gidx_eq : ∀ (m : List G) (s : List UInt8) (k : Nat), k ≤ m.length → (∀ (j : Nat) (g : G), j < k → m[j]? = some g → g.1 ≠ s) → (∀ g, m[k]? = some g → g.1 = s) → gidx m s = k
  | [], _, k, h, _, _ => by simp at h; simp [gidx, h]
  | q :: m, s, k, h, h1, h2 => by
    unfold gidx
    cases k with
    | zero => rw [if_pos (h2 q (by simp))]
    | succ k =>
      rw [if_neg (h1 0 q (by omega) (by simp)), gidx_eq m s k (by simpa using h) (fun j g hj e => h1 (j + 1) g (by omega) (by simpa using e)) (fun g e => h2 g (by simpa using e))]
theorem gidx_mem (m : List G) (s : List UInt8) : gidx m s < m.length ↔ s ∈ m.map (·.1) := by
  constructor
  · intro h
    have e := gidx_at m s m[gidx m s] (List.getElem?_eq_getElem h)
    exact List.mem_map.2 ⟨_, List.getElem_mem h, e⟩
  · intro h
    obtain ⟨g, hg, e⟩ := List.mem_map.1 h
    obtain ⟨j, hj, ej⟩ := List.mem_iff_getElem.1 hg
    rcases Nat.lt_or_ge (gidx m s) m.length with h1 | h1
    · exact h1
    · have := gidx_before m s j g (by omega) (by rw [List.getElem?_eq_getElem hj, ej])
      exact absurd e this
/-- The group with another mark of a subscription. -/
def setSub (m : List G) (i : Nat) (b : Bool) : List G := m.modify i fun g => (g.1, b, g.2.2)
def setSet (m : List G) (i : Nat) (l : List Rg) : List G := m.modify i fun g => (g.1, g.2.1, l)
theorem setSub_length (m : List G) (i : Nat) (b : Bool) : (setSub m i b).length = m.length := by simp [setSub]
theorem setSet_length (m : List G) (i : Nat) (l : List Rg) : (setSet m i l).length = m.length := by simp [setSet]
theorem setSub_names (m : List G) (i : Nat) (b : Bool) : (setSub m i b).map (·.1) = m.map (·.1) := by
  apply List.ext_getElem?
  intro j
  simp only [setSub, List.getElem?_map, List.getElem?_modify]
  cases m[j]? with
  | none => rfl
  | some g => simp; split <;> rfl
theorem setSet_names (m : List G) (i : Nat) (l : List Rg) : (setSet m i l).map (·.1) = m.map (·.1) := by
  apply List.ext_getElem?
  intro j
  simp only [setSet, List.getElem?_map, List.getElem?_modify]
  cases m[j]? with
  | none => rfl
  | some g => simp; split <;> rfl
/-- The union and the difference of sets. -/
def orS (a b : List Rg) : List Rg := norm (a ++ b)
def minusS (a b : List Rg) : List Rg := norm (bothL a (restFrom M 1 b))
/-- Subscribe: the marks, and the error. -/
def subM (m : List G) (s : List UInt8) : List G := if check s ≠ 0 then m else if gidx m s < m.length then setSub m (gidx m s) true else m ++ [(s, true, [])]
def subE (s : List UInt8) : Nat := if check s ≠ 0 then 12 else 0
/-- Unsubscribe: the marks, and the error. -/
def unsubM (m : List G) (s : List UInt8) : List G := if check s ≠ 0 then m else if gidx m s < m.length then setSub m (gidx m s) false else m
def unsubE (m : List G) (s : List UInt8) : Nat := if check s ≠ 0 then 12 else if gidx m s < m.length then 0 else 8
/-- The set of a group, no numbers where it is not there. -/
def gset (m : List G) (s : List UInt8) : List Rg := match m[gidx m s]? with | some g => g.2.2 | none => []
/-- Read (0), Unread (1), CatchUp (2): the error, the new set, the marks. -/
def chgE (m : List G) (k : Nat) (s : List UInt8) (n : Int) : Nat := if gidx m s < m.length then (if n < 0 ∨ M < n ∨ (n = 0 ∧ k ≠ 2) then 2 else 0) else 8
def chgS (l : List Rg) (k : Nat) (n : Int) : List Rg := if k = 0 then orS l [(n, n)] else if k = 1 then minusS l [(n, n)] else if n = 0 then l else orS l [(1, n)]
def chgM (m : List G) (k : Nat) (s : List UInt8) (n : Int) : List G := if chgE m k s n = 0 then setSet m (gidx m s) (chgS (gset m s) k n) else m
/-- A set of article numbers. -/
def Okset (l : List Rg) : Prop := Nrm l ∧ ∀ r ∈ l, ok r
theorem Okset.nil : Okset [] := ⟨Nrm.nil, by simp⟩
/-- A set is one of article numbers if its numbers are. -/
theorem okset_of {l : List Rg} (h : Nrm l) (hn : ∀ n, has l n = true → 1 ≤ n ∧ n ≤ M) : Okset l := by
  refine ⟨h, fun r hr => ?_⟩
  have h1 := h.1 r hr
  have a := hn r.1 ((has_iff _ _).2 ⟨r, hr, by omega, h1⟩)
  have b := hn r.2 ((has_iff _ _).2 ⟨r, hr, h1, by omega⟩)
  exact ⟨a.1, h1, b.2⟩
theorem Okset.rng {l : List Rg} (h : Okset l) {n : Int} (hn : has l n = true) : 1 ≤ n ∧ n ≤ M := by
  obtain ⟨r, hr, a, b⟩ := (has_iff _ _).1 hn
  obtain ⟨c, _, d⟩ := h.2 r hr
  exact ⟨by omega, by omega⟩
theorem norm_okset {l : List Rg} (h : ∀ r ∈ l, ok r) : Okset (norm l) :=
  okset_of (norm_spec fun r hr => (h r hr).2.1).1 fun n hn => by
    rw [norm_has (fun r hr => (h r hr).2.1)] at hn
    obtain ⟨r, hr, a, b⟩ := (has_iff _ _).1 hn
    obtain ⟨c, _, d⟩ := h r hr
    exact ⟨by omega, by omega⟩
theorem has_append (l m : List Rg) (n : Int) : has (l ++ m) n = (has l n || has m n) := by simp [has]
theorem orS_spec {a b : List Rg} (ha : ∀ r ∈ a, r.1 ≤ r.2) (hb : ∀ r ∈ b, r.1 ≤ r.2) : Nrm (orS a b) ∧ ∀ n, has (orS a b) n = (has a n || has b n) := by
  have h : ∀ r ∈ a ++ b, r.1 ≤ r.2 := fun r hr => by
    rcases List.mem_append.1 hr with hr | hr
    · exact ha r hr
    · exact hb r hr
  exact ⟨(norm_spec h).1, fun n => by rw [orS, norm_has h, has_append]⟩
theorem minusS_spec {a b : List Rg} (ha : Okset a) (hb : Okset b) : Nrm (minusS a b) ∧ ∀ n, has (minusS a b) n = (has a n && !has b n) := by
  have hr := restFrom_spec M b 1 hb.1 fun r hr => ⟨(hb.2 r hr).1, (hb.2 r hr).2.2⟩
  have h := bothL_ok a (restFrom M 1 b)
  refine ⟨(norm_spec h).1, fun n => ?_⟩
  rw [minusS, norm_has h, bothL_has, hr.2.2]
  cases hn : has a n with
  | false => rfl
  | true =>
    have := ha.rng hn
    simp [this.1, this.2]
theorem orS_ok {a b : List Rg} (ha : Okset a) (hb : Okset b) : Okset (orS a b) := by
  have h := orS_spec ha.1.1 hb.1.1
  refine okset_of h.1 fun n hn => ?_
  rw [h.2] at hn
  simp at hn
  rcases hn with hn | hn
  · exact ha.rng hn
  · exact hb.rng hn
theorem minusS_ok {a b : List Rg} (ha : Okset a) (hb : Okset b) : Okset (minusS a b) := by
  have h := minusS_spec ha hb
  refine okset_of h.1 fun n hn => ?_
  rw [h.2] at hn
  simp at hn
  exact ha.rng hn.1
theorem one_ok {a b : Int} (h1 : 1 ≤ a) (h2 : a ≤ b) (h3 : b ≤ M) : Okset [(a, b)] := ⟨Nrm.one h2, fun r hr => by simp at hr; rw [hr]; exact ⟨h1, h2, h3⟩⟩
theorem orS_length (a b : List Rg) : (orS a b).length ≤ a.length + b.length := by
  have := norm_length (a ++ b)
  unfold orS; simpa using this
theorem chgS_ok {l : List Rg} {k : Nat} {n : Int} (hl : Okset l) (h1 : 0 ≤ n) (h2 : n ≤ M) (h3 : n = 0 → k = 2) : Okset (chgS l k n) := by
  unfold chgS
  by_cases h0 : n = 0
  · have := h3 h0
    subst this
    simp [h0]; exact hl
  · split
    · exact orS_ok hl (one_ok (by omega) (Int.le_refl _) h2)
    · split
      · exact minusS_ok hl (one_ok (by omega) (Int.le_refl _) h2)
      · exact orS_ok hl (one_ok (by omega) (by omega) h2)
/-- Marks that can have come about. -/
structure Okm (m : List G) : Prop where
  names : ∀ g ∈ m, check g.1 = 0
  uniq : (m.map (·.1)).Nodup
  sets : ∀ g ∈ m, Okset g.2.2
theorem Okm.nil : Okm [] := ⟨by simp, by simp, by simp⟩
theorem Okm.subs {m : List G} (h : Okm m) (i : Nat) (b : Bool) : Okm (setSub m i b) := by
  refine ⟨fun g hg => ?_, by rw [setSub_names]; exact h.uniq, fun g hg => ?_⟩
  all_goals
    obtain ⟨j, hj, e⟩ := List.mem_iff_getElem.1 hg
    have e' : (setSub m i b)[j]? = some g := by rw [List.getElem?_eq_getElem hj, e]
    unfold setSub at e'
    rw [List.getElem?_modify] at e'
    cases hm : m[j]? with
    | none => rw [hm] at e'; simp at e'
    | some q =>
      rw [hm] at e'
      have hq := List.mem_of_getElem? hm
      simp at e'
      have a := h.names q hq
      have c := h.sets q hq
      split at e' <;> (rw [← e']; assumption)
theorem Okm.sets_ {m : List G} (h : Okm m) (i : Nat) {l : List Rg} (hl : Okset l) : Okm (setSet m i l) := by
  refine ⟨fun g hg => ?_, by rw [setSet_names]; exact h.uniq, fun g hg => ?_⟩
  all_goals
    obtain ⟨j, hj, e⟩ := List.mem_iff_getElem.1 hg
    have e' : (setSet m i l)[j]? = some g := by rw [List.getElem?_eq_getElem hj, e]
    unfold setSet at e'
    rw [List.getElem?_modify] at e'
    cases hm : m[j]? with
    | none => rw [hm] at e'; simp at e'
    | some q =>
      rw [hm] at e'
      have hq := List.mem_of_getElem? hm
      simp at e'
      have a := h.names q hq
      have c := h.sets q hq
      split at e' <;> (rw [← e']; first | assumption | exact hl)
theorem Okm.sub {m : List G} (h : Okm m) (s : List UInt8) : Okm (subM m s) := by
  unfold subM
  split
  · exact h
  · rename_i hc
    split
    · exact h.subs _ _
    · rename_i hn
      have hs : s ∉ m.map (·.1) := fun hm => hn ((gidx_mem m s).2 hm)
      refine ⟨fun g hg => ?_, ?_, fun g hg => ?_⟩
      · rcases List.mem_append.1 hg with hg | hg
        · exact h.names g hg
        · simp at hg; rw [hg]; simpa using hc
      · rw [List.map_append, List.nodup_append]
        refine ⟨h.uniq, by simp, fun a ha b hb => ?_⟩
        simp at hb; rw [hb]
        intro e; exact hs (e ▸ ha)
      · rcases List.mem_append.1 hg with hg | hg
        · exact h.sets g hg
        · simp at hg; rw [hg]; exact Okset.nil
theorem Okm.unsub {m : List G} (h : Okm m) (s : List UInt8) : Okm (unsubM m s) := by
  unfold unsubM
  split
  · exact h
  · split
    · exact h.subs _ _
    · exact h
theorem gset_ok {m : List G} (h : Okm m) (s : List UInt8) : Okset (gset m s) := by
  unfold gset
  cases hm : m[gidx m s]? with
  | none => exact Okset.nil
  | some g => exact h.sets g (List.mem_of_getElem? hm)
theorem Okm.chg {m : List G} (h : Okm m) (k : Nat) (s : List UInt8) (n : Int) : Okm (chgM m k s n) := by
  unfold chgM
  split
  · rename_i he
    unfold chgE at he
    split at he
    · split at he
      · cases he
      · rename_i hc
        refine h.sets_ _ (chgS_ok (gset_ok h s) (by omega) (by omega) (fun h0 => ?_))
        rcases Nat.decEq k 2 with hk | hk
        · exact absurd (.inr (.inr ⟨h0, hk⟩)) hc
        · exact hk
    · cases he
  · exact h
theorem subM_length (m : List G) (s : List UInt8) : (subM m s).length ≤ m.length + 1 := by
  unfold subM; split
  · omega
  · split
    · rw [setSub_length]; omega
    · simp
theorem unsubM_length (m : List G) (s : List UInt8) : (unsubM m s).length = m.length := by
  unfold unsubM; split
  · rfl
  · split
    · rw [setSub_length]
    · rfl
theorem chgM_length (m : List G) (k : Nat) (s : List UInt8) (n : Int) : (chgM m k s n).length = m.length := by
  unfold chgM; split
  · rw [setSet_length]
  · rfl
end Go.Nr
