/- Group names as lists of bytes: the parts of a text at a byte, and the text of parts. Of no program. -/
import Derived.Lib.SplitLaws
import Derived.Lib.Join
namespace Go.Gn

/-- The parts into which the byte c divides a text. -/
def parts (c : UInt8) : List UInt8 → List (List UInt8)
  | [] => [[]]
  | b :: s => if b = c then [] :: parts c s else (b :: (parts c s).headD []) :: (parts c s).tail

theorem parts_cons_ne {b c : UInt8} (h : b ≠ c) (s : List UInt8) : parts c (b :: s) = (b :: (parts c s).headD []) :: (parts c s).tail := by simp [parts, h]
theorem parts_cons_eq (c : UInt8) (s : List UInt8) : parts c (c :: s) = [] :: parts c s := by simp [parts]
theorem parts_ne_nil (c : UInt8) : ∀ s, parts c s ≠ []
  | [] => by simp [parts]
  | b :: s => by by_cases h : b = c <;> simp [parts, h]
theorem parts_pos (c : UInt8) (s : List UInt8) : 0 < (parts c s).length := List.length_pos_iff.2 (parts_ne_nil c s)
theorem parts_length_le (c : UInt8) : ∀ s, (parts c s).length ≤ s.length + 1
  | [] => by simp [parts]
  | b :: s => by
    have ih := parts_length_le c s
    have := parts_pos c s
    by_cases h : b = c <;> simp [parts, h] <;> omega
theorem parts_length (c : UInt8) : ∀ s, (parts c s).length = s.count c + 1
  | [] => by simp [parts]
  | b :: s => by
    have ih := parts_length c s
    by_cases h : b = c
    · subst h; simp [parts, ih]
    · simp [parts, h, ih]
/-- One more byte: the separator. -/
theorem parts_snoc_sep (c : UInt8) : ∀ s, parts c (s ++ [c]) = parts c s ++ [[]]
  | [] => by simp [parts]
  | b :: s => by
    have ih := parts_snoc_sep c s
    obtain ⟨x, r, hx⟩ := List.exists_cons_of_ne_nil (parts_ne_nil c s)
    by_cases h : b = c
    · simp [parts, h, ih]
    · simp [parts, h, ih, hx]
/-- One more byte: another one. -/
theorem parts_snoc {b c : UInt8} (hb : b ≠ c) : ∀ (s : List UInt8) (out : List (List UInt8)) (p : List UInt8), parts c s = out ++ [p] → parts c (s ++ [b]) = out ++ [p ++ [b]]
  | [], out, p, h => by
    have h1 : out = [] ∧ p = [] := by
      cases out with
      | nil => simp [parts] at h; exact ⟨rfl, h⟩
      | cons x o => simp [parts] at h
    obtain ⟨rfl, rfl⟩ := h1
    simp [parts, hb]
  | a :: s, out, p, h => by
    obtain ⟨x, r, hx⟩ := List.exists_cons_of_ne_nil (parts_ne_nil c s)
    by_cases ha : a = c
    · subst ha
      rw [parts_cons_eq] at h
      cases out with
      | nil => simp at h; exact absurd h.2 (parts_ne_nil _ _)
      | cons y o =>
        simp at h
        have ih := parts_snoc hb s o p h.2
        rw [List.cons_append, parts_cons_eq, ih, ← h.1]; rfl
    · rw [parts_cons_ne ha, hx] at h
      simp at h
      cases out with
      | nil =>
        simp at h
        have ih := parts_snoc hb s [] x (by rw [hx, h.2]; rfl)
        rw [List.cons_append, parts_cons_ne ha, ih, ← h.1]; rfl
      | cons y o =>
        simp at h
        have ih := parts_snoc hb s (x :: o) p (by rw [hx, h.2]; rfl)
        rw [List.cons_append, parts_cons_ne ha, ih, ← h.1]; rfl
/-- No part holds the separator. -/
theorem parts_free (c : UInt8) : ∀ (s : List UInt8), ∀ x ∈ parts c s, c ∉ x
  | [], x, h => by simp [parts] at h; subst h; simp
  | b :: s, x, h => by
    have ih := parts_free c s
    obtain ⟨y, r, hy⟩ := List.exists_cons_of_ne_nil (parts_ne_nil c s)
    by_cases hb : b = c
    · rw [hb, parts_cons_eq] at h
      simp at h
      rcases h with rfl | h
      · simp
      · exact ih x h
    · rw [parts_cons_ne hb, hy] at h
      simp at h
      rcases h with rfl | h
      · have := ih y (by rw [hy]; simp)
        simp; exact ⟨fun e => hb e.symm, this⟩
      · exact ih x (by rw [hy]; simp [h])
/-- Each part is no longer than the text. -/
theorem parts_le (c : UInt8) : ∀ (s : List UInt8), ∀ x ∈ parts c s, x.length ≤ s.length
  | [], x, h => by simp [parts] at h; subst h; simp
  | b :: s, x, h => by
    have ih := parts_le c s
    obtain ⟨y, r, hy⟩ := List.exists_cons_of_ne_nil (parts_ne_nil c s)
    by_cases hb : b = c
    · rw [hb, parts_cons_eq] at h
      simp at h
      rcases h with rfl | h
      · simp
      · have := ih x h; simp; omega
    · rw [parts_cons_ne hb, hy] at h
      simp at h
      rcases h with rfl | h
      · have := ih y (by rw [hy]; simp)
        simp; omega
      · have := ih x (by rw [hy]; simp [h]); simp; omega

/-- The text of parts. -/
def text (c : UInt8) (xs : List (List UInt8)) : List UInt8 := Lib.join xs [c]
theorem text_nil (c : UInt8) : text c [] = [] := rfl
theorem text_one (c : UInt8) (x : List UInt8) : text c [x] = x := Lib.join_one x [c]
theorem text_cons (c : UInt8) (x y : List UInt8) (r : List (List UInt8)) : text c (x :: y :: r) = x ++ c :: text c (y :: r) := by
  unfold text
  rw [Lib.join_cons, Lib.join_cons]
  simp [Lib.joinTail]
theorem text_cons' (c : UInt8) (x : List UInt8) (r : List (List UInt8)) (h : r ≠ []) : text c (x :: r) = x ++ c :: text c r := by
  cases r with
  | nil => exact absurd rfl h
  | cons y r => exact text_cons c x y r
theorem text_snoc (c : UInt8) (x : List UInt8) : ∀ (r : List (List UInt8)), r ≠ [] → text c (r ++ [x]) = text c r ++ c :: x
  | [], h => absurd rfl h
  | [y], _ => by rw [List.singleton_append, text_cons, text_one, text_one]
  | y :: z :: r, _ => by
    have ih := text_snoc c x (z :: r) (by simp)
    rw [List.cons_append, text_cons' c y _ (by simp), ih, text_cons]
    simp
theorem text_parts (c : UInt8) : ∀ s, text c (parts c s) = s
  | [] => by simp [parts, text_one]
  | b :: s => by
    have ih := text_parts c s
    obtain ⟨x, r, hx⟩ := List.exists_cons_of_ne_nil (parts_ne_nil c s)
    by_cases h : b = c
    · rw [h, parts_cons_eq, text_cons' _ _ _ (parts_ne_nil c s), ih]; rfl
    · rw [parts_cons_ne h, hx]
      rw [hx] at ih
      simp only [List.headD_cons, List.tail_cons]
      cases r with
      | nil => rw [text_one] at ih ⊢; rw [ih]
      | cons y r => rw [text_cons] at ih ⊢; rw [← ih]; rfl
theorem parts_inj {c : UInt8} {a b : List UInt8} (h : parts c a = parts c b) : a = b := by rw [← text_parts c a, h, text_parts]
theorem parts_app (c : UInt8) (s : List UInt8) : ∀ (x : List UInt8), c ∉ x → parts c (x ++ c :: s) = x :: parts c s
  | [], _ => by simp [parts]
  | b :: x, h => by
    simp at h
    have ih := parts_app c s x h.2
    rw [List.cons_append, parts_cons_ne (fun e => h.1 e.symm), ih]; rfl
theorem parts_plain (c : UInt8) : ∀ (x : List UInt8), c ∉ x → parts c x = [x]
  | [], _ => rfl
  | b :: x, h => by
    simp at h
    have ih := parts_plain c x h.2
    rw [parts_cons_ne (fun e => h.1 e.symm), ih]; rfl
theorem parts_text (c : UInt8) : ∀ (xs : List (List UInt8)), xs ≠ [] → (∀ x ∈ xs, c ∉ x) → parts c (text c xs) = xs
  | [], h, _ => absurd rfl h
  | [x], _, h => by rw [text_one]; exact parts_plain c x (h x (by simp))
  | x :: y :: r, _, h => by
    rw [text_cons, parts_app c _ x (h x (by simp)), parts_text c (y :: r) (by simp) (fun z hz => h z (by simp [hz]))]
theorem text_length_take (c : UInt8) (xs : List (List UInt8)) (k : Nat) : (text c (xs.take k)).length ≤ (text c xs).length := by
  induction xs generalizing k with
  | nil => simp
  | cons x r ih =>
    cases k with
    | zero => simp [text_nil]
    | succ k =>
      rw [List.take_succ_cons]
      cases hr : r.take k with
      | nil =>
        rw [text_one]
        cases r with
        | nil => rw [text_one]; exact Nat.le_refl _
        | cons y r => rw [text_cons]; simp
      | cons z q =>
        have h1 := ih k
        rw [hr] at h1
        rw [text_cons]
        cases r with
        | nil => simp at hr
        | cons y r => rw [text_cons]; simp at h1 ⊢; omega

/-- The library's cut at every separator of one byte. -/
theorem index_one_ne {b c : UInt8} (h : b ≠ c) (s : List UInt8) : Lib.index (b :: s) [c] = if Lib.index s [c] == -1 then -1 else Lib.index s [c] + 1 := by
  have hp : ([c] : List UInt8).isPrefixOf (b :: s) = false := by simp [List.isPrefixOf]; exact fun e => h e.symm
  rw [Lib.index]
  simp [hp]
theorem index_one_eq (c : UInt8) (s : List UInt8) : Lib.index (c :: s) [c] = 0 := by
  simp [Lib.index, List.isPrefixOf]
theorem split_parts (c : UInt8) : ∀ s, Lib.split s [c] = parts c s := by
  have key : ∀ (n : Nat) (s : List UInt8), s.length ≤ n → Lib.splitK [c] 0 (s.count c) s = parts c s := by
    intro n
    induction n with
    | zero => intro s hs; cases s with
      | nil => rfl
      | cons _ _ => simp at hs
    | succ n ih =>
      intro s hs
      cases s with
      | nil => rfl
      | cons b s =>
        simp at hs
        have ih' := ih s hs
        by_cases hb : b = c
        · subst hb
          rw [List.count_cons_self, parts_cons_eq, Lib.splitK, index_one_eq]
          simp
          exact ih'
        · rw [List.count_cons_of_ne hb, parts_cons_ne hb, ← ih']
          cases hk : s.count c with
          | zero => simp [Lib.splitK]
          | succ k =>
            rw [Lib.splitK, Lib.splitK, index_one_ne hb]
            rcases Lib.index_spec s [c] with ⟨h1, _⟩ | ⟨i, h1, _⟩
            · simp [h1]
            · have e1 : ¬ ((i : Int) = -1) := by omega
              have e2 : ¬ ((i : Int) + 1 = -1) := by omega
              rw [h1]
              simp [e1, e2]
  intro s
  rw [Lib.split, Lib.count_one]
  exact key s.length s (Nat.le_refl _)
end Go.Gn
