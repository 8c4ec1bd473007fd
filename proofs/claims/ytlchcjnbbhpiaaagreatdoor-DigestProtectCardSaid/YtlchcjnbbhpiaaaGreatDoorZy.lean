/- Group names as lists of bytes: the parts of a text at a byte, and the text of parts. Of no program.
   Restoring: the pieces of a text that ends with a line feed. Of no program.
   Lines of a text read byte by byte; what the reference's loops have put together. Of no program. -/
import Derived.Lib.SplitLaws
import Derived.Lib.Join
import Derived.Test.YtlchcjnbbhpiaaaGreatDoorZa
import Derived.Lib.Strings
namespace Go.Gn

/-- The parts into which the byte c divides a text. -/
def parts (c : UInt8) : List UInt8 → List (List UInt8)
  | [] => [[]]
  | b :: s => if b = c then [] :: parts c s else (b :: (parts c s).headD []) :: (parts c s).tail

theorem parts_cons_ne {b c : UInt8} (h : b ≠ c) (s : List UInt8) : parts c (b :: s) = (b :: (parts c s).headD []) :: (parts c s).tail := by simp [parts, h]
theorem parts_cons_eq (c : UInt8) (s : List UInt8) : parts c (c :: s) = [] :: parts c s := by simp [parts]
theorem parts_ne_nil (c : UInt8) : ∀ s, parts c s ≠ []
  | [] => by simp [parts]
  | b :: s => by by_cases h : b = c <;> simp [parts, h]
theorem parts_pos (c : UInt8) (s : List UInt8) : 0 < (parts c s).length := List.length_pos_iff.2 (parts_ne_nil c s)
theorem parts_length_le (c : UInt8) : ∀ s, (parts c s).length ≤ s.length + 1
  | [] => by simp [parts]
  | b :: s => by
    have ih := parts_length_le c s
    have := parts_pos c s
    by_cases h : b = c <;> simp [parts, h] <;> omega
theorem parts_length (c : UInt8) : ∀ s, (parts c s).length = s.count c + 1
  | [] => by simp [parts]
  | b :: s => by
    have ih := parts_length c s
    by_cases h : b = c
    · subst h; simp [parts, ih]
    · simp [parts, h, ih]
/-- One more byte: the separator. -/
theorem parts_snoc_sep (c : UInt8) : ∀ s, parts c (s ++ [c]) = parts c s ++ [[]]
  | [] => by simp [parts]
  | b :: s => by
    have ih := parts_snoc_sep c s
    obtain ⟨x, r, hx⟩ := List.exists_cons_of_ne_nil (parts_ne_nil c s)
    by_cases h : b = c
    · simp [parts, h, ih]
    · simp [parts, h, ih, hx]
/-- One more byte: another one. -/
theorem parts_snoc {b c : UInt8} (hb : b ≠ c) : ∀ (s : List UInt8) (out : List (List UInt8)) (p : List UInt8), parts c s = out ++ [p] → parts c (s ++ [b]) = out ++ [p ++ [b]]
  | [], out, p, h => by
    have h1 : out = [] ∧ p = [] := by
      cases out with
      | nil => simp [parts] at h; exact ⟨rfl, h⟩
      | cons x o => simp [parts] at h
    obtain ⟨rfl, rfl⟩ := h1
    simp [parts, hb]
  | a :: s, out, p, h => by
    obtain ⟨x, r, hx⟩ := List.exists_cons_of_ne_nil (parts_ne_nil c s)
    by_cases ha : a = c
    · subst ha
      rw [parts_cons_eq] at h
      cases out with
      | nil => simp at h; exact absurd h.2 (parts_ne_nil _ _)
      | cons y o =>
        simp at h
        have ih := parts_snoc hb s o p h.2
        rw [List.cons_append, parts_cons_eq, ih, ← h.1]; rfl
    · rw [parts_cons_ne ha, hx] at h
      simp at h
      cases out with
      | nil =>
        simp at h
        have ih := parts_snoc hb s [] x (by rw [hx, h.2]; rfl)
        rw [List.cons_append, parts_cons_ne ha, ih, ← h.1]; rfl
      | cons y o =>
        simp at h
        have ih := parts_snoc hb s (x :: o) p (by rw [hx, h.2]; rfl)
        rw [List.cons_append, parts_cons_ne ha, ih, ← h.1]; rfl
/-- No part holds the separator. -/
theorem parts_free (c : UInt8) : ∀ (s : List UInt8), ∀ x ∈ parts c s, c ∉ x
  | [], x, h => by simp [parts] at h; subst h; simp
  | b :: s, x, h => by
    have ih := parts_free c s
    obtain ⟨y, r, hy⟩ := List.exists_cons_of_ne_nil (parts_ne_nil c s)
    by_cases hb : b = c
    · rw [hb, parts_cons_eq] at h
      simp at h
      rcases h with rfl | h
      · simp
      · exact ih x h
    · rw [parts_cons_ne hb, hy] at h
      simp at h
      rcases h with rfl | h
      · have := ih y (by rw [hy]; simp)
        simp; exact ⟨fun e => hb e.symm, this⟩
      · exact ih x (by rw [hy]; simp [h])
/-- Each part is no longer than the text. -/
theorem parts_le (c : UInt8) : ∀ (s : List UInt8), ∀ x ∈ parts c s, x.length ≤ s.length
  | [], x, h => by simp [parts] at h; subst h; simp
  | b :: s, x, h => by
    have ih := parts_le c s
    obtain ⟨y, r, hy⟩ := List.exists_cons_of_ne_nil (parts_ne_nil c s)
    by_cases hb : b = c
    · rw [hb, parts_cons_eq] at h
      simp at h
      rcases h with rfl | h
      · simp
      · have := ih x h; simp; omega
    · rw [parts_cons_ne hb, hy] at h
      simp at h
      rcases h with rfl | h
      · have := ih y (by rw [hy]; simp)
        simp; omega
      · have := ih x (by rw [hy]; simp [h]); simp; omega

/-- The text of parts. -/
def text (c : UInt8) (xs : List (List UInt8)) : List UInt8 := Lib.join xs [c]
theorem text_nil (c : UInt8) : text c [] = [] := rfl
theorem text_one (c : UInt8) (x : List UInt8) : text c [x] = x := Lib.join_one x [c]
theorem text_cons (c : UInt8) (x y : List UInt8) (r : List (List UInt8)) : text c (x :: y :: r) = x ++ c :: text c (y :: r) := by
  unfold text
  rw [Lib.join_cons, Lib.join_cons]
  simp [Lib.joinTail]
theorem text_cons' (c : UInt8) (x : List UInt8) (r : List (List UInt8)) (h : r ≠ []) : text c (x :: r) = x ++ c :: text c r := by
  cases r with
  | nil => exact absurd rfl h
  | cons y r => exact text_cons c x y r
theorem text_snoc (c : UInt8) (x : List UInt8) : ∀ (r : List (List UInt8)), r ≠ [] → text c (r ++ [x]) = text c r ++ c :: x
  | [], h => absurd rfl h
  | [y], _ => by rw [List.singleton_append, text_cons, text_one, text_one]
  | y :: z :: r, _ => by
    have ih := text_snoc c x (z :: r) (by simp)
    rw [List.cons_append, text_cons' c y _ (by simp), ih, text_cons]
    simp
theorem text_parts (c : UInt8) : ∀ s, text c (parts c s) = s
  | [] => by simp [parts, text_one]
  | b :: s => by
    have ih := text_parts c s
    obtain ⟨x, r, hx⟩ := List.exists_cons_of_ne_nil (parts_ne_nil c s)
    by_cases h : b = c
    · rw [h, parts_cons_eq, text_cons' _ _ _ (parts_ne_nil c s), ih]; rfl
    · rw [parts_cons_ne h, hx]
      rw [hx] at ih
      simp only [List.headD_cons, List.tail_cons]
      cases r with
      | nil => rw [text_one] at ih ⊢; rw [ih]
      | cons y r => rw [text_cons] at ih ⊢; rw [← ih]; rfl
theorem parts_inj {c : UInt8} {a b : List UInt8} (h : parts c a = parts c b) : a = b := by rw [← text_parts c a, h, text_parts]
theorem parts_app (c : UInt8) (s : List UInt8) : ∀ (x : List UInt8), c ∉ x → parts c (x ++ c :: s) = x :: parts c s
  | [], _ => by simp [parts]
  | b :: x, h => by
    simp at h
    have ih := parts_app c s x h.2
    rw [List.cons_append, parts_cons_ne (fun e => h.1 e.symm), ih]; rfl
theorem parts_plain (c : UInt8) : ∀ (x : List UInt8), c ∉ x → parts c x = [x]
  | [], _ => rfl
  | b :: x, h => by
    simp at h
    have ih := parts_plain c x h.2
    rw [parts_cons_ne (fun e => h.1 e.symm), ih]; rfl
theorem parts_text (c : UInt8) : ∀ (xs : List (List UInt8)), xs ≠ [] → (∀ x ∈ xs, c ∉ x) → parts c (text c xs) = xs
  | [], h, _ => absurd rfl h
  | [x], _, h => by rw [text_one]; exact parts_plain c x (h x (by simp))
  | x :: y :: r, _, h => by
    rw [text_cons, parts_app c _ x (h x (by simp)), parts_text c (y :: r) (by simp) (fun z hz => h z (by simp [hz]))]
theorem text_length_take (c : UInt8) (xs : List (List UInt8)) (k : Nat) : (text c (xs.take k)).length ≤ (text c xs).length := by
  induction xs generalizing k with
  | nil => simp
  | cons x r ih =>
    cases k with
    | zero => simp [text_nil]
    | succ k =>
      rw [List.take_succ_cons]
      cases hr : r.take k with
      | nil =>
        rw [text_one]
        cases r with
        | nil => rw [text_one]; exact Nat.le_refl _
        | cons y r => rw [text_cons]; simp
      | cons z q =>
        have h1 := ih k
        rw [hr] at h1
        rw [text_cons]
        cases r with
        | nil => simp at hr
        | cons y r => rw [text_cons]; simp at h1 ⊢; omega

/-- The library's cut at every separator of one byte. -/
theorem index_one_ne {b c : UInt8} (h : b ≠ c) (s : List UInt8) : Lib.index (b :: s) [c] = if Lib.index s [c] == -1 then -1 else Lib.index s [c] + 1 := by
  have hp : ([c] : List UInt8).isPrefixOf (b :: s) = false := by simp [List.isPrefixOf]; exact fun e => h e.symm
  rw [Lib.index]
  simp [hp]
theorem index_one_eq (c : UInt8) (s : List UInt8) : Lib.index (c :: s) [c] = 0 := by
  simp [Lib.index, List.isPrefixOf]
theorem split_parts (c : UInt8) : ∀ s, Lib.split s [c] = parts c s := by
  have key : ∀ (n : Nat) (s : List UInt8), s.length ≤ n → Lib.splitK [c] 0 (s.count c) s = parts c s := by
    intro n
    induction n with
    | zero => intro s hs; cases s with
      | nil => rfl
      | cons _ _ => simp at hs
    | succ n ih =>
      intro s hs
      cases s with
      | nil => rfl
      | cons b s =>
        simp at hs
        have ih' := ih s hs
        by_cases hb : b = c
        · subst hb
          rw [List.count_cons_self, parts_cons_eq, Lib.splitK, index_one_eq]
          simp
          exact ih'
        · rw [List.count_cons_of_ne hb, parts_cons_ne hb, ← ih']
          cases hk : s.count c with
          | zero => simp [Lib.splitK]
          | succ k =>
            rw [Lib.splitK, Lib.splitK, index_one_ne hb]
            rcases Lib.index_spec s [c] with ⟨h1, _⟩ | ⟨i, h1, _⟩
            · simp [h1]
            · have e1 : ¬ ((i : Int) = -1) := by omega
              have e2 : ¬ ((i : Int) + 1 = -1) := by omega
              rw [h1]
              simp [e1, e2]
  intro s
  rw [Lib.split, Lib.count_one]
  exact key s.length s (Nat.le_refl _)
end Go.Gn

namespace Go.Dg
open Go.Lib

theorem parts_pcs : ∀ s : List UInt8, Go.Gn.parts 10 s = pcs s
  | [] => rfl
  | c :: s => by
    have ih := parts_pcs s
    unfold pcs at ih ⊢
    by_cases h : c = 10
    · subst h
      rw [Go.Gn.parts_cons_eq, ih, lns, if_pos rfl]
      rfl
    · rw [Go.Gn.parts_cons_ne h, ih, lns, if_neg h]
      cases hl : (lns s).1 with
      | nil => rfl
      | cons l ls => rfl
theorem lns_snoc : ∀ t : List UInt8, lns (t ++ [10]) = (pcs t, [])
  | [] => rfl
  | c :: t => by
    have ih := lns_snoc t
    unfold pcs at ih ⊢
    rw [List.cons_append, lns, ih, lns]
    by_cases h : c = 10
    · rw [if_pos h, if_pos h]; rfl
    · rw [if_neg h, if_neg h]
      cases hl : (lns t).1 with
      | nil => rfl
      | cons l ls => rfl
theorem ends_iff {s : List UInt8} : s.getLast? = some 10 ↔ ∃ t, s = t ++ [10] := by
  constructor
  · intro h
    obtain ⟨t, e⟩ := List.getLast?_eq_some_iff.1 h
    exact ⟨t, e⟩
  · rintro ⟨t, rfl⟩; simp
theorem suffix_nl (s : List UInt8) : hasSuffix s [10] = decide (s.getLast? = some 10) := by
  rw [Bool.eq_iff_iff, decide_eq_true_eq]
  unfold hasSuffix
  rw [List.isSuffixOf_iff_suffix, ends_iff]
  constructor
  · rintro ⟨t, e⟩; exact ⟨t, e.symm⟩
  · rintro ⟨t, rfl⟩; exact ⟨t, rfl⟩
theorem trim_nl (t : List UInt8) : trimSuffix (t ++ [10]) [10] = t := by
  unfold trimSuffix
  rw [suffix_nl, if_pos (by simp)]
  simp
/-- Restoring a text that ends with a line feed. -/
theorem restF_snoc {t : List UInt8} (h1 : ¬ 2097152 < (t ++ [10]).length) (h2 : has13 (t ++ [10]) = false) : restF (t ++ [10]) = match unprotA (pcs t) with | some ps => (join ps [10], 0) | none => ([], 3) := by
  unfold restF
  rw [if_neg h1, if_neg (by simp), h2, if_neg (by decide), lns_snoc]
  rfl
theorem unprotA_snoc : ∀ (ls : List (List UInt8)) (x : List UInt8) (us : List (List UInt8)), unprotA ls = some us → unprotA (ls ++ [x]) = (unprot x).map fun p => us ++ [p]
  | [], x, us, h => by
    simp only [unprotA, Option.some.injEq] at h
    subst h
    cases hu : unprot x <;> simp [unprotA, hu]
  | l :: ls, x, us, h => by
    unfold unprotA at h
    rw [List.cons_append, unprotA]
    cases hl : unprot l with
    | none => rw [hl] at h; simp at h
    | some p =>
      cases hr : unprotA ls with
      | none => rw [hl, hr] at h; simp at h
      | some ps =>
        rw [hl, hr] at h
        simp only [Option.some.injEq] at h
        subst h
        rw [unprotA_snoc ls x ps hr]
        cases unprot x <;> simp
theorem unprotA_none : ∀ (ls rs : List (List UInt8)), unprotA ls = none → unprotA (ls ++ rs) = none
  | [], _, h => by simp [unprotA] at h
  | l :: ls, rs, h => by
    unfold unprotA at h
    rw [List.cons_append, unprotA]
    cases hl : unprot l with
    | none => rfl
    | some p =>
      cases hr : unprotA ls with
      | none => rw [unprotA_none ls rs hr]
      | some ps => rw [hl, hr] at h; simp at h
theorem unprotA_len : ∀ (ls us : List (List UInt8)), unprotA ls = some us → us.length = ls.length
  | [], us, h => by simp [unprotA] at h; subst h; rfl
  | l :: ls, us, h => by
    unfold unprotA at h
    cases hl : unprot l with
    | none => rw [hl] at h; simp at h
    | some p =>
      cases hr : unprotA ls with
      | none => rw [hl, hr] at h; simp at h
      | some ps =>
        rw [hl, hr] at h
        simp only [Option.some.injEq] at h
        subst h
        simp [unprotA_len ls ps hr]
theorem unprot_le {l p : List UInt8} (h : unprot l = some p) : p.length ≤ l.length := by
  unfold unprot at h
  split at h
  · split at h
    · simp only [Option.some.injEq] at h; subst h; simp
    · cases h
  · simp only [Option.some.injEq] at h; subst h; exact Nat.le_refl _
theorem unprotA_lens : ∀ (ls us : List (List UInt8)), unprotA ls = some us → lens us ≤ lens ls
  | [], us, h => by simp [unprotA] at h; subst h; exact Nat.le_refl _
  | l :: ls, us, h => by
    unfold unprotA at h
    cases hl : unprot l with
    | none => rw [hl] at h; simp at h
    | some p =>
      cases hr : unprotA ls with
      | none => rw [hl, hr] at h; simp at h
      | some ps =>
        rw [hl, hr] at h
        simp only [Option.some.injEq] at h
        subst h
        have := unprotA_lens ls ps hr
        have := unprot_le hl
        simp only [lens, List.map_cons, List.sum_cons] at *
        omega
end Go.Dg

namespace Go.Dg
open Go.Lib

theorem lns_cat : ∀ (t r : List UInt8), lns (t ++ 10 :: r) = (pcs t ++ (lns r).1, (lns r).2)
  | [], r => by
    rw [List.nil_append, lns, if_pos rfl]
    rfl
  | c :: t, r => by
    have ih := lns_cat t r
    unfold pcs at ih ⊢
    rw [List.cons_append, lns, ih, lns]
    by_cases h : c = 10
    · rw [if_pos h, if_pos h]; rfl
    · rw [if_neg h, if_neg h]
      cases hl : (lns t).1 with
      | nil => rfl
      | cons l ls => rfl
theorem lns_snoc_ne : ∀ (t : List UInt8) {c : UInt8}, c ≠ 10 → lns (t ++ [c]) = ((lns t).1, (lns t).2 ++ [c])
  | [], c, h => by
    show lns [c] = ([], [c])
    simp [lns, h]
  | b :: t, c, h => by
    have ih := lns_snoc_ne t h
    rw [List.cons_append, lns, ih, lns]
    by_cases hb : b = 10
    · rw [if_pos hb, if_pos hb]
    · rw [if_neg hb, if_neg hb]
      cases hl : (lns t).1 with
      | nil => rfl
      | cons l ls => rfl
/-- The place where the line under way begins, the line. -/
def frm (t : List UInt8) : Nat := (unl (lns t).1).length
def curL (t : List UInt8) : List UInt8 := (lns t).2
def outP (t : List UInt8) : List UInt8 := unl ((lns t).1.map fun p => dash p ++ p)
theorem frm_le (t : List UInt8) : frm t + (curL t).length = t.length := by
  have h := congrArg List.length (lns_eq t)
  rw [List.length_append] at h
  exact h
theorem cur_eq (t : List UInt8) : t.drop (frm t) = curL t := by
  have h : t.drop (frm t) = (unl (lns t).1 ++ (lns t).2).drop (unl (lns t).1).length := by rw [lns_eq]; rfl
  rw [h, List.drop_left]
  rfl
theorem outP_end (t : List UInt8) : prot t = outP t ++ (dash (curL t) ++ curL t ++ [10]) := by
  unfold prot protL pcs outP curL
  rw [List.map_append, List.map_singleton]
  have e : ∀ a b : List (List UInt8), unl (a ++ b) = unl a ++ unl b := fun a b => by simp [unl]
  rw [e]
  congr 1
  simp [unl]
theorem frm_nl (t : List UInt8) : frm (t ++ [10]) = t.length + 1 := by
  have h := frm_le (t ++ [10])
  have e : curL (t ++ [10]) = [] := by unfold curL; rw [lns_snoc]
  rw [e] at h
  simpa using h
theorem frm_ne (t : List UInt8) {c : UInt8} (h : c ≠ 10) : frm (t ++ [c]) = frm t := by unfold frm; rw [lns_snoc_ne t h]
theorem outP_nl (t : List UInt8) : outP (t ++ [10]) = outP t ++ (dash (curL t) ++ curL t ++ [10]) := by
  rw [← outP_end]
  unfold outP
  rw [lns_snoc]
  rfl
theorem outP_ne (t : List UInt8) {c : UInt8} (h : c ≠ 10) : outP (t ++ [c]) = outP t := by unfold outP; rw [lns_snoc_ne t h]
theorem outP_len (t : List UInt8) : (outP t).length ≤ 3 * t.length + 3 := by
  have h := prot_length t
  rw [outP_end, List.length_append] at h
  omega
/-- Restoring so far. -/
def outR (t : List UInt8) : Option (List UInt8) := (unprotA (lns t).1).map fun us => join us [10]
theorem outR_ne (t : List UInt8) {c : UInt8} (h : c ≠ 10) : outR (t ++ [c]) = outR t := by unfold outR; rw [lns_snoc_ne t h]
theorem outR_nl {t o : List UInt8} (h : outR t = some o) : outR (t ++ [10]) = (unprot (curL t)).map fun p => (if 0 < frm t then o ++ [10] else o) ++ p := by
  unfold outR at h ⊢
  rw [lns_snoc]
  unfold pcs
  cases hu : unprotA (lns t).1 with
  | none => rw [hu] at h; simp at h
  | some us =>
    rw [hu] at h
    simp only [Option.map_some, Option.some.injEq] at h
    rw [unprotA_snoc _ _ _ hu]
    unfold curL
    cases unprot (lns t).2 with
    | none => rfl
    | some p =>
      simp only [Option.map_some, Option.some.injEq]
      have hl := unprotA_len _ _ hu
      by_cases he : us = []
      · subst he
        have e0 : (lns t).1 = [] := List.eq_nil_of_length_eq_zero (by rw [← hl]; rfl)
        have f0 : frm t = 0 := by unfold frm; rw [e0]; rfl
        rw [f0, if_neg (by decide), ← h]
        simp [join_cons, joinTail, join_nil]
      · have hpos : 0 < frm t := by
          unfold frm
          rw [unl_length_le]
          have : 0 < us.length := List.length_pos_iff.2 he
          omega
        rw [if_pos hpos, join_snoc he, h]
theorem outR_bad {t r : List UInt8} {o : List UInt8} (h : outR t = some o) (hb : unprot (curL t) = none) : unprotA (lns (t ++ 10 :: r)).1 = none := by
  unfold outR at h
  rw [lns_cat]
  unfold pcs
  cases hu : unprotA (lns t).1 with
  | none => rw [hu] at h; simp at h
  | some us =>
    refine unprotA_none _ _ ?_
    rw [unprotA_snoc _ _ _ hu]
    unfold curL at hb
    rw [hb]
    rfl
theorem outR_end {s o : List UInt8} (h : outR s = some o) (h1 : ¬ 2097152 < s.length) (h2 : s.getLast? = some 10) (h3 : has13 s = false) : restF s = (o, 0) := by
  unfold outR at h
  unfold restF
  rw [if_neg h1, if_neg (by simpa using h2), h3, if_neg (by decide)]
  cases hu : unprotA (lns s).1 with
  | none => rw [hu] at h; simp at h
  | some us =>
    rw [hu] at h
    simp only [Option.map_some, Option.some.injEq] at h
    simp only
    rw [h]
theorem outR_fail {s t r : List UInt8} {o : List UInt8} (h : outR t = some o) (hb : unprot (curL t) = none) (e : s = t ++ 10 :: r) (h1 : ¬ 2097152 < s.length) (h2 : s.getLast? = some 10) (h3 : has13 s = false) : restF s = ([], 3) := by
  unfold restF
  rw [if_neg h1, if_neg (by simpa using h2), h3, if_neg (by decide), e, outR_bad h hb]
theorem outR_len {t o : List UInt8} (h : outR t = some o) : o.length ≤ t.length := by
  unfold outR at h
  cases hu : unprotA (lns t).1 with
  | none => rw [hu] at h; simp at h
  | some us =>
    rw [hu] at h
    simp only [Option.map_some, Option.some.injEq] at h
    have h1 := unprotA_lens _ _ hu
    have h2 := unprotA_len _ _ hu
    have h3 := frm_le t
    unfold frm at h3
    rw [unl_length_le] at h3
    rw [← h]
    cases us with
    | nil => simp [join_nil]
    | cons u us =>
      rw [join_length]
      simp only [List.length_cons, List.length_nil] at h2 ⊢
      omega
end Go.Dg
