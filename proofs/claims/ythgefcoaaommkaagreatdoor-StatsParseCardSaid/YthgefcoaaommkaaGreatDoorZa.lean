/- Group names as lists of bytes: the parts of a text at a byte, and the text of parts. Of no program.
   Total orders given by a comparison with the results -1, 0 and 1; lists in increasing order without repetitions. Of no program.
   A map with keys and elements of any shape, as the list of its entries: made, stored, looked up, deleted from, ranged over.
   Counts of articles by day and by name, as lists of entries that grow event by event. Of no program.
   The sorted lists of days, of names and of the most frequent names; sizes. Of no program.
   The text of statistics: what the program writes of its maps is what the model writes of the events. Of no program.
   Numbers as decimal digits, and back. Of no program.
   Statistics merged, and events in another order: plain laws. Of no program.
   Sorting by a linear order, as slices.SortFunc answers. Of no program.
   A law's frame, of no program: what was laid before a call that only lays new blocks reads behind it as it read before.
   The rest of a function's body behind its first statements, so that a long walk may be parted into theorems. Of no program.
   A region that draws its order and holds calls, walked once along a schedule of one's own: what yields a value and leaves the world alone is taken as early as it may come up, in every later world alike; a call is carried out where nothing else may come up. Of no program.
   Flow's law for a schedule that forks: two operations that change the world may come up in either order. Of no program.
   A region that draws its order, reads cells, calls, and at its end writes cells that it has read: walked once along a schedule. What reads is held as long as nothing of the tail has come up; the tail waits for it. Of no program.
   slices.SortFunc at structs in a row of the call's own: what the row holds behind it. Of no program. -/
import Derived.Lib.SplitLaws
import Derived.Lib.Join
import Derived.Lib.SlicesCompact
import Derived.Maps.RangeWalk
import Derived.DeepKeys4
import Derived.BigQuiet
import Derived.Lib.ItoaNum
import Derived.Shelf.SlSortCmp.Insertion
import Derived.Below
import Derived.ReadAgain
import Derived.ChangeOld
import Derived.ChangeShapes
import Derived.OpenShut
import Derived.WalkKit
import Derived.Deep.QuietTactic
import Derived.OrdersHeld
import Derived.Shelf.SlSortCmp.WholeK
import Derived.Shelf.SlSortCmp.NoneTotal
import Derived.Sort.OwnSorted
namespace Go.Gn

/-- The parts into which the byte c divides a text. -/
def parts (c : UInt8) : List UInt8 → List (List UInt8)
  | [] => [[]]
  | b :: s => if b = c then [] :: parts c s else (b :: (parts c s).headD []) :: (parts c s).tail

theorem parts_cons_ne {b c : UInt8} (h : b ≠ c) (s : List UInt8) : parts c (b :: s) = (b :: (parts c s).headD []) :: (parts c s).tail := by simp [parts, h]
theorem parts_cons_eq (c : UInt8) (s : List UInt8) : parts c (c :: s) = [] :: parts c s := by simp [parts]
theorem parts_ne_nil (c : UInt8) : ∀ s, parts c s ≠ []
  | [] => by simp [parts]
  | b :: s => by by_cases h : b = c <;> simp [parts, h]
theorem parts_pos (c : UInt8) (s : List UInt8) : 0 < (parts c s).length := List.length_pos_iff.2 (parts_ne_nil c s)
theorem parts_length_le (c : UInt8) : ∀ s, (parts c s).length ≤ s.length + 1
  | [] => by simp [parts]
  | b :: s => by
    have ih := parts_length_le c s
    have := parts_pos c s
    by_cases h : b = c <;> simp [parts, h] <;> omega
theorem parts_length (c : UInt8) : ∀ s, (parts c s).length = s.count c + 1
  | [] => by simp [parts]
  | b :: s => by
    have ih := parts_length c s
    by_cases h : b = c
    · subst h; simp [parts, ih]
    · simp [parts, h, ih]
/-- One more byte: the separator. -/
theorem parts_snoc_sep (c : UInt8) : ∀ s, parts c (s ++ [c]) = parts c s ++ [[]]
  | [] => by simp [parts]
  | b :: s => by
    have ih := parts_snoc_sep c s
    obtain ⟨x, r, hx⟩ := List.exists_cons_of_ne_nil (parts_ne_nil c s)
    by_cases h : b = c
    · simp [parts, h, ih]
    · simp [parts, h, ih, hx]
/-- One more byte: another one. -/
theorem parts_snoc {b c : UInt8} (hb : b ≠ c) : ∀ (s : List UInt8) (out : List (List UInt8)) (p : List UInt8), parts c s = out ++ [p] → parts c (s ++ [b]) = out ++ [p ++ [b]]
  | [], out, p, h => by
    have h1 : out = [] ∧ p = [] := by
      cases out with
      | nil => simp [parts] at h; exact ⟨rfl, h⟩
      | cons x o => simp [parts] at h
    obtain ⟨rfl, rfl⟩ := h1
    simp [parts, hb]
  | a :: s, out, p, h => by
    obtain ⟨x, r, hx⟩ := List.exists_cons_of_ne_nil (parts_ne_nil c s)
    by_cases ha : a = c
    · subst ha
      rw [parts_cons_eq] at h
      cases out with
      | nil => simp at h; exact absurd h.2 (parts_ne_nil _ _)
      | cons y o =>
        simp at h
        have ih := parts_snoc hb s o p h.2
        rw [List.cons_append, parts_cons_eq, ih, ← h.1]; rfl
    · rw [parts_cons_ne ha, hx] at h
      simp at h
      cases out with
      | nil =>
        simp at h
        have ih := parts_snoc hb s [] x (by rw [hx, h.2]; rfl)
        rw [List.cons_append, parts_cons_ne ha, ih, ← h.1]; rfl
      | cons y o =>
        simp at h
        have ih := parts_snoc hb s (x :: o) p (by rw [hx, h.2]; rfl)
        rw [List.cons_append, parts_cons_ne ha, ih, ← h.1]; rfl
/-- No part holds the separator. -/
theorem parts_free (c : UInt8) : ∀ (s : List UInt8), ∀ x ∈ parts c s, c ∉ x
  | [], x, h => by simp [parts] at h; subst h; simp
  | b :: s, x, h => by
    have ih := parts_free c s
    obtain ⟨y, r, hy⟩ := List.exists_cons_of_ne_nil (parts_ne_nil c s)
    by_cases hb : b = c
    · rw [hb, parts_cons_eq] at h
      simp at h
      rcases h with rfl | h
      · simp
      · exact ih x h
    · rw [parts_cons_ne hb, hy] at h
      simp at h
      rcases h with rfl | h
      · have := ih y (by rw [hy]; simp)
        simp; exact ⟨fun e => hb e.symm, this⟩
      · exact ih x (by rw [hy]; simp [h])
/-- Each part is no longer than the text. -/
theorem parts_le (c : UInt8) : ∀ (s : List UInt8), ∀ x ∈ parts c s, x.length ≤ s.length
  | [], x, h => by simp [parts] at h; subst h; simp
  | b :: s, x, h => by
    have ih := parts_le c s
    obtain ⟨y, r, hy⟩ := List.exists_cons_of_ne_nil (parts_ne_nil c s)
    by_cases hb : b = c
    · rw [hb, parts_cons_eq] at h
      simp at h
      rcases h with rfl | h
      · simp
      · have := ih x h; simp; omega
    · rw [parts_cons_ne hb, hy] at h
      simp at h
      rcases h with rfl | h
      · have := ih y (by rw [hy]; simp)
        simp; omega
      · have := ih x (by rw [hy]; simp [h]); simp; omega

/-- The text of parts. -/
def text (c : UInt8) (xs : List (List UInt8)) : List UInt8 := Lib.join xs [c]
theorem text_nil (c : UInt8) : text c [] = [] := rfl
theorem text_one (c : UInt8) (x : List UInt8) : text c [x] = x := Lib.join_one x [c]
theorem text_cons (c : UInt8) (x y : List UInt8) (r : List (List UInt8)) : text c (x :: y :: r) = x ++ c :: text c (y :: r) := by
  unfold text
  rw [Lib.join_cons, Lib.join_cons]
  simp [Lib.joinTail]
theorem text_cons' (c : UInt8) (x : List UInt8) (r : List (List UInt8)) (h : r ≠ []) : text c (x :: r) = x ++ c :: text c r := by
  cases r with
  | nil => exact absurd rfl h
  | cons y r => exact text_cons c x y r
theorem text_snoc (c : UInt8) (x : List UInt8) : ∀ (r : List (List UInt8)), r ≠ [] → text c (r ++ [x]) = text c r ++ c :: x
  | [], h => absurd rfl h
  | [y], _ => by rw [List.singleton_append, text_cons, text_one, text_one]
  | y :: z :: r, _ => by
    have ih := text_snoc c x (z :: r) (by simp)
    rw [List.cons_append, text_cons' c y _ (by simp), ih, text_cons]
    simp
theorem text_parts (c : UInt8) : ∀ s, text c (parts c s) = s
  | [] => by simp [parts, text_one]
  | b :: s => by
    have ih := text_parts c s
    obtain ⟨x, r, hx⟩ := List.exists_cons_of_ne_nil (parts_ne_nil c s)
    by_cases h : b = c
    · rw [h, parts_cons_eq, text_cons' _ _ _ (parts_ne_nil c s), ih]; rfl
    · rw [parts_cons_ne h, hx]
      rw [hx] at ih
      simp only [List.headD_cons, List.tail_cons]
      cases r with
      | nil => rw [text_one] at ih ⊢; rw [ih]
      | cons y r => rw [text_cons] at ih ⊢; rw [← ih]; rfl
theorem parts_inj {c : UInt8} {a b : List UInt8} (h : parts c a = parts c b) : a = b := by rw [← text_parts c a, h, text_parts]
theorem parts_app (c : UInt8) (s : List UInt8) : ∀ (x : List UInt8), c ∉ x → parts c (x ++ c :: s) = x :: parts c s
  | [], _ => by simp [parts]
  | b :: x, h => by
    simp at h
    have ih := parts_app c s x h.2
    rw [List.cons_append, parts_cons_ne (fun e => h.1 e.symm), ih]; rfl
theorem parts_plain (c : UInt8) : ∀ (x : List UInt8), c ∉ x → parts c x = [x]
  | [], _ => rfl
  | b :: x, h => by
    simp at h
    have ih := parts_plain c x h.2
    rw [parts_cons_ne (fun e => h.1 e.symm), ih]; rfl
theorem parts_text (c : UInt8) : ∀ (xs : List (List UInt8)), xs ≠ [] → (∀ x ∈ xs, c ∉ x) → parts c (text c xs) = xs
  | [], h, _ => absurd rfl h
  | [x], _, h => by rw [text_one]; exact parts_plain c x (h x (by simp))
  | x :: y :: r, _, h => by
    rw [text_cons, parts_app c _ x (h x (by simp)), parts_text c (y :: r) (by simp) (fun z hz => h z (by simp [hz]))]
theorem text_length_take (c : UInt8) (xs : List (List UInt8)) (k : Nat) : (text c (xs.take k)).length ≤ (text c xs).length := by
  induction xs generalizing k with
  | nil => simp
  | cons x r ih =>
    cases k with
    | zero => simp [text_nil]
    | succ k =>
      rw [List.take_succ_cons]
      cases hr : r.take k with
      | nil =>
        rw [text_one]
        cases r with
        | nil => rw [text_one]; exact Nat.le_refl _
        | cons y r => rw [text_cons]; simp
      | cons z q =>
        have h1 := ih k
        rw [hr] at h1
        rw [text_cons]
        cases r with
        | nil => simp at hr
        | cons y r => rw [text_cons]; simp at h1 ⊢; omega

/-- The library's cut at every separator of one byte. -/
theorem index_one_ne {b c : UInt8} (h : b ≠ c) (s : List UInt8) : Lib.index (b :: s) [c] = if Lib.index s [c] == -1 then -1 else Lib.index s [c] + 1 := by
  have hp : ([c] : List UInt8).isPrefixOf (b :: s) = false := by simp [List.isPrefixOf]; exact fun e => h e.symm
  rw [Lib.index]
  simp [hp]
theorem index_one_eq (c : UInt8) (s : List UInt8) : Lib.index (c :: s) [c] = 0 := by
  simp [Lib.index, List.isPrefixOf]
theorem split_parts (c : UInt8) : ∀ s, Lib.split s [c] = parts c s := by
  have key : ∀ (n : Nat) (s : List UInt8), s.length ≤ n → Lib.splitK [c] 0 (s.count c) s = parts c s := by
    intro n
    induction n with
    | zero => intro s hs; cases s with
      | nil => rfl
      | cons _ _ => simp at hs
    | succ n ih =>
      intro s hs
      cases s with
      | nil => rfl
      | cons b s =>
        simp at hs
        have ih' := ih s hs
        by_cases hb : b = c
        · subst hb
          rw [List.count_cons_self, parts_cons_eq, Lib.splitK, index_one_eq]
          simp
          exact ih'
        · rw [List.count_cons_of_ne hb, parts_cons_ne hb, ← ih']
          cases hk : s.count c with
          | zero => simp [Lib.splitK]
          | succ k =>
            rw [Lib.splitK, Lib.splitK, index_one_ne hb]
            rcases Lib.index_spec s [c] with ⟨h1, _⟩ | ⟨i, h1, _⟩
            · simp [h1]
            · have e1 : ¬ ((i : Int) = -1) := by omega
              have e2 : ¬ ((i : Int) + 1 = -1) := by omega
              rw [h1]
              simp [e1, e2]
  intro s
  rw [Lib.split, Lib.count_one]
  exact key s.length s (Nat.le_refl _)
end Go.Gn

namespace Go.Gn

structure Lin {α : Type} (c : α → α → Int) : Prop where
  zero : ∀ a b, c a b = 0 ↔ a = b
  anti : ∀ a b, c b a = - c a b
  trans : ∀ a b d, c a b ≤ 0 → c b d ≤ 0 → c a d ≤ 0
  lo : ∀ a b, -1 ≤ c a b
  hi : ∀ a b, c a b ≤ 1

theorem Lin.self {α : Type} {c : α → α → Int} (h : Lin c) (a : α) : c a a = 0 := (h.zero a a).2 rfl
theorem Lin.lt_le {α : Type} {c : α → α → Int} (h : Lin c) {a b d : α} (h1 : c a b < 0) (h2 : c b d ≤ 0) : c a d < 0 := by
  have h3 := h.trans a b d (by omega) h2
  by_cases e : c a d = 0
  · obtain rfl := (h.zero a d).1 e
    have := h.anti a b
    omega
  · omega
theorem Lin.le_lt {α : Type} {c : α → α → Int} (h : Lin c) {a b d : α} (h1 : c a b ≤ 0) (h2 : c b d < 0) : c a d < 0 := by
  have h3 := h.trans a b d h1 (by omega)
  by_cases e : c a d = 0
  · obtain rfl := (h.zero a d).1 e
    have := h.anti a b
    omega
  · omega

def lex {α : Type} (c : α → α → Int) : List α → List α → Int
  | [], [] => 0
  | [], _ :: _ => -1
  | _ :: _, [] => 1
  | a :: x, b :: y => if c a b = 0 then lex c x y else c a b

theorem lex_lin {α : Type} {c : α → α → Int} (h : Lin c) : Lin (lex c) where
  zero := by
    intro a
    induction a with
    | nil => intro b; cases b <;> simp [lex]
    | cons a x ih =>
      intro b
      cases b with
      | nil => simp [lex]
      | cons b y =>
        unfold lex
        have z := h.zero a b
        split
        · rename_i e; rw [ih y]; simp [z.1 e]
        · rename_i e; simp only [List.cons.injEq]
          constructor
          · intro e'; exact absurd e' e
          · intro e'; exact absurd (z.2 e'.1) e
  anti := by
    intro a
    induction a with
    | nil => intro b; cases b <;> simp [lex]
    | cons a x ih =>
      intro b
      cases b with
      | nil => simp [lex]
      | cons b y =>
        unfold lex
        have z := h.anti a b
        have := ih y
        split <;> split <;> omega
  trans := by
    intro a
    induction a with
    | nil => intro b d; cases b <;> cases d <;> simp [lex]
    | cons a x ih =>
      intro b d
      cases b with
      | nil => simp [lex]
      | cons b y =>
        cases d with
        | nil => simp [lex]
        | cons d z =>
          unfold lex
          intro h1 h2
          have t := h.trans a b d
          have i := ih y z
          by_cases e1 : c a b = 0
          · obtain rfl := (h.zero a b).1 e1
            rw [if_pos e1] at h1
            split at h2
            · rename_i e2; rw [if_pos e2]; exact i h1 h2
            · rename_i e2; rw [if_neg e2]; exact h2
          · rw [if_neg e1] at h1
            by_cases e2 : c b d = 0
            · obtain rfl := (h.zero b d).1 e2
              rw [if_neg e1]; exact h1
            · rw [if_neg e2] at h2
              have l := h.lt_le (a := a) (b := b) (d := d) (by omega) h2
              rw [if_neg (by omega)]; omega
  lo := by
    intro a
    induction a with
    | nil => intro b; cases b <;> simp [lex]
    | cons a x ih =>
      intro b
      cases b with
      | nil => simp [lex]
      | cons b y => unfold lex; split; exact ih y; exact h.lo a b
  hi := by
    intro a
    induction a with
    | nil => intro b; cases b <;> simp [lex]
    | cons a x ih =>
      intro b
      cases b with
      | nil => simp [lex]
      | cons b y => unfold lex; split; exact ih y; exact h.hi a b

def bcmp (a b : UInt8) : Int := if a < b then -1 else if b < a then 1 else 0
theorem bcmp_nat (a b : UInt8) : bcmp a b = if a.toNat < b.toNat then -1 else if b.toNat < a.toNat then 1 else 0 := by
  unfold bcmp; simp only [UInt8.lt_iff_toNat_lt]
theorem bcmp_lin : Lin bcmp where
  zero a b := by rw [bcmp_nat, ← UInt8.toNat_inj]; split <;> (try split) <;> omega
  anti a b := by rw [bcmp_nat, bcmp_nat]; split <;> split <;> (try split) <;> omega
  trans a b d := by rw [bcmp_nat, bcmp_nat, bcmp_nat]; repeat' split
                    all_goals omega
  lo a b := by rw [bcmp_nat]; split <;> (try split) <;> omega
  hi a b := by rw [bcmp_nat]; split <;> (try split) <;> omega
/-- The order of texts. -/
def scmp : List UInt8 → List UInt8 → Int := lex bcmp
theorem scmp_lin : Lin scmp := lex_lin bcmp_lin
theorem scmp_lt : ∀ a b : List UInt8, scmp a b < 0 ↔ a < b
  | [], [] => by simp [scmp, lex]
  | [], _ :: _ => by simp [scmp, lex]
  | _ :: _, [] => by simp [scmp, lex]
  | a :: x, b :: y => by
    have ih := scmp_lt x y
    rw [List.cons_lt_cons_iff]
    unfold scmp at ih ⊢
    unfold lex
    have z := bcmp_lin.zero a b
    split
    · rename_i e
      rw [ih]
      have := z.1 e
      subst this
      simp
    · rename_i e
      have e' : a ≠ b := fun h => e (z.2 h)
      simp only [e', false_and, or_false]
      unfold bcmp at e ⊢
      split <;> (try split) <;> simp_all
theorem scmp_gt (a b : List UInt8) : 0 < scmp a b ↔ b < a := by
  rw [← scmp_lt b a, scmp_lin.anti a b]; omega
theorem scmp_eq (a b : List UInt8) : scmp a b = if a < b then -1 else if b < a then 1 else 0 := by
  have h1 := scmp_lt a b
  have h2 := scmp_gt a b
  have := scmp_lin.lo a b
  have := scmp_lin.hi a b
  split
  · rename_i h; have := h1.2 h; omega
  · rename_i h
    have n1 : ¬ scmp a b < 0 := fun e => h (h1.1 e)
    split
    · rename_i g; have := h2.2 g; omega
    · rename_i g
      have n2 : ¬ 0 < scmp a b := fun e => g (h2.1 e)
      omega

/-- In increasing order, without repetitions. -/
def Inc {α : Type} (c : α → α → Int) (l : List α) : Prop := l.Pairwise fun a b => c a b < 0
theorem inc_uniq {α : Type} {c : α → α → Int} (h : Lin c) : ∀ (l m : List α), Inc c l → Inc c m → (∀ x, x ∈ l ↔ x ∈ m) → l = m
  | [], [], _, _, _ => rfl
  | [], y :: m, _, _, e => absurd ((e y).2 (by simp)) (by simp)
  | x :: l, [], _, _, e => absurd ((e x).1 (by simp)) (by simp)
  | x :: l, y :: m, i, j, e => by
    have i' := List.pairwise_cons.1 i
    have j' := List.pairwise_cons.1 j
    have exy : x = y := by
      have hx := (e x).1 (by simp)
      have hy := (e y).2 (by simp)
      simp at hx hy
      rcases hx with hx | hx
      · exact hx
      · rcases hy with hy | hy
        · exact hy.symm
        · have a1 := j'.1 x hx
          have a2 := i'.1 y hy
          have := h.anti x y
          omega
    subst exy
    have irr : ∀ (r : List α), (∀ z ∈ r, c x z < 0) → x ∉ r := fun r hr hx => by
      have := hr x hx; have := h.self x; omega
    rw [inc_uniq h l m i'.2 j'.2 (fun z => ?_)]
    constructor
    · intro hz
      have := (e z).1 (by simp [hz])
      simp at this
      rcases this with rfl | h1
      · exact absurd hz (irr l i'.1)
      · exact h1
    · intro hz
      have := (e z).2 (by simp [hz])
      simp at this
      rcases this with rfl | h1
      · exact absurd hz (irr m j'.1)
      · exact h1

/-- A value put into such a list. -/
def ins {α : Type} [DecidableEq α] (c : α → α → Int) (s : α) : List α → List α
  | [] => [s]
  | x :: r => if c x s < 0 then x :: ins c s r else if x = s then x :: r else s :: x :: r
theorem mem_ins {α : Type} [DecidableEq α] (c : α → α → Int) (s x : α) : ∀ l, x ∈ ins c s l ↔ x = s ∨ x ∈ l
  | [] => by simp [ins]
  | y :: r => by
    have ih := mem_ins c s x r
    unfold ins
    split
    · simp only [List.mem_cons, ih]
      constructor
      · rintro (h | h | h) <;> simp [h]
      · rintro (h | h | h) <;> simp [h]
    · split
      · rename_i e; subst e; simp
      · simp
theorem inc_ins {α : Type} [DecidableEq α] {c : α → α → Int} (h : Lin c) (s : α) : ∀ l, Inc c l → Inc c (ins c s l)
  | [], _ => by simp [ins, Inc]
  | y :: r, i => by
    have i' := List.pairwise_cons.1 i
    have ih := inc_ins h s r i'.2
    unfold ins
    split
    · rename_i e
      refine List.pairwise_cons.2 ⟨fun z hz => ?_, ih⟩
      rcases (mem_ins c s z r).1 hz with rfl | hz
      · exact e
      · exact i'.1 z hz
    · split
      · exact i
      · rename_i e1 e2
        have e3 : c y s ≠ 0 := fun e => e2 ((h.zero y s).1 e)
        have e4 : c s y < 0 := by have := h.anti y s; omega
        refine List.pairwise_cons.2 ⟨fun z hz => ?_, i⟩
        simp at hz
        rcases hz with rfl | hz
        · exact e4
        · exact h.lt_le e4 (by have := i'.1 z hz; omega)
def insAll {α : Type} [DecidableEq α] (c : α → α → Int) (l : List α) : List α := l.foldl (fun o s => ins c s o) []
theorem insAll_snoc {α : Type} [DecidableEq α] (c : α → α → Int) (l : List α) (x : α) : insAll c (l ++ [x]) = ins c x (insAll c l) := by simp [insAll]
theorem insFold {α : Type} [DecidableEq α] {c : α → α → Int} (h : Lin c) : ∀ (l o : List α), Inc c o → Inc c (l.foldl (fun o s => ins c s o) o) ∧ ∀ x, x ∈ l.foldl (fun o s => ins c s o) o ↔ x ∈ l ∨ x ∈ o
  | [], o, i => by simp [i]
  | y :: l, o, i => by
    have ih := insFold h l (ins c y o) (inc_ins h y o i)
    refine ⟨ih.1, fun x => ?_⟩
    have := ih.2 x
    simp only [List.foldl_cons]
    rw [this, mem_ins]
    simp only [List.mem_cons]
    constructor
    · rintro (h | h | h) <;> simp [h]
    · rintro ((h | h) | h) <;> simp [h]
theorem insAll_inc {α : Type} [DecidableEq α] {c : α → α → Int} (h : Lin c) (l : List α) : Inc c (insAll c l) := (insFold h l [] (by simp [Inc])).1
theorem mem_insAll {α : Type} [DecidableEq α] {c : α → α → Int} (h : Lin c) (l : List α) (x : α) : x ∈ insAll c l ↔ x ∈ l := by
  have := (insFold h l [] (by simp [Inc])).2 x
  rw [insAll, this]; simp
theorem insAll_length {α : Type} [DecidableEq α] (c : α → α → Int) (l : List α) : (insAll c l).length ≤ l.length := by
  have one : ∀ (s : α) (o : List α), (ins c s o).length ≤ o.length + 1 := by
    intro s o
    induction o with
    | nil => simp [ins]
    | cons x r ih => unfold ins; split <;> (try split) <;> simp <;> omega
  have : ∀ (l o : List α), (l.foldl (fun o s => ins c s o) o).length ≤ l.length + o.length := by
    intro l
    induction l with
    | nil => intro o; simp
    | cons y l ih => intro o; have := ih (ins c y o); have := one y o; simp at *; omega
  have := this l []
  simpa [insAll] using this
/-- Where a value is put: behind all that are less. -/
def insAt {α : Type} (c : α → α → Int) (s : α) : List α → Nat
  | [] => 0
  | x :: r => if c x s < 0 then insAt c s r + 1 else 0
theorem insAt_le {α : Type} (c : α → α → Int) (s : α) : ∀ l, insAt c s l ≤ l.length
  | [] => by simp [insAt]
  | x :: r => by have := insAt_le c s r; unfold insAt; split <;> simp <;> omega
theorem insAt_lt {α : Type} (c : α → α → Int) (s : α) : ∀ (l : List α) (j : Nat) (x : α), j < insAt c s l → l[j]? = some x → c x s < 0
  | [], j, x, h, _ => by simp [insAt] at h
  | y :: r, j, x, h, e => by
    unfold insAt at h
    split at h
    · rename_i hy
      cases j with
      | zero => simp at e; rw [← e]; exact hy
      | succ j => exact insAt_lt c s r j x (by omega) (by simpa using e)
    · omega
theorem insAt_stop {α : Type} (c : α → α → Int) (s : α) : ∀ (l : List α) (x : α), l[insAt c s l]? = some x → ¬ c x s < 0
  | [], x, e => by simp at e
  | y :: r, x, e => by
    unfold insAt at e
    split at e
    · exact insAt_stop c s r x (by simpa using e)
    · rename_i hy; simp at e; rw [← e]; exact hy
theorem insAt_eq {α : Type} (c : α → α → Int) (s : α) : ∀ (l : List α) (k : Nat), k ≤ l.length → (∀ (j : Nat) (x : α), j < k → l[j]? = some x → c x s < 0) → (∀ x, l[k]? = some x → ¬ c x s < 0) → insAt c s l = k
  | [], k, hk, _, _ => by simp at hk; simp [insAt, hk]
  | y :: r, k, hk, h1, h2 => by
    unfold insAt
    cases k with
    | zero => rw [if_neg (h2 y (by simp))]
    | succ k =>
      rw [if_pos (h1 0 y (by omega) (by simp)), insAt_eq c s r k (by simpa using hk) (fun j x hj e => h1 (j + 1) x (by omega) (by simpa using e)) (fun x e => h2 x (by simpa using e))]
theorem ins_at {α : Type} [DecidableEq α] (c : α → α → Int) (s : α) : ∀ l, ins c s l = if l[insAt c s l]? = some s then l else l.take (insAt c s l) ++ s :: l.drop (insAt c s l)
  | [] => by simp [ins, insAt]
  | x :: r => by
    have ih := ins_at c s r
    unfold ins insAt
    split
    · rw [ih]; simp only [List.getElem?_cons_succ, List.take_succ_cons, List.drop_succ_cons]
      split <;> simp
    · simp

/-- A sorted list without its repetitions. -/
theorem compact_inc {α : Type} [DecidableEq α] [Inhabited α] {c : α → α → Int} (h : Lin c) (zs : List α) (hs : zs.Pairwise fun a b => c a b ≤ 0) : Inc c (Lib.compact zs) ∧ ∀ x, x ∈ Lib.compact zs ↔ x ∈ zs := by
  have hg : ∀ i j : Nat, i ≤ j → j < zs.length → c (zs.toArray[i]!) (zs.toArray[j]!) ≤ 0 := by
    intro i j hij hj
    rcases Nat.lt_or_ge i j with h1 | h1
    · have := List.pairwise_iff_getElem.1 hs i j (by omega) hj h1
      simpa [getElem!_def, show i < zs.length by omega, hj] using this
    · obtain rfl : i = j := by omega
      rw [h.self]; omega
  constructor
  · unfold Inc Lib.compact Lib.compactUpTo
    rw [List.pairwise_map]
    have hp : ((List.range zs.length).filter (Lib.keeps zs.toArray)).Pairwise (fun i j => i < j) := List.Pairwise.filter _ List.pairwise_lt_range
    refine List.Pairwise.imp_of_mem ?_ hp
    intro i j _ hj hij
    simp only [List.mem_filter, List.mem_range] at hj
    obtain ⟨hj1, hj2⟩ := hj
    simp only [Lib.keeps, decide_eq_true_eq] at hj2
    rcases hj2 with hj2 | hj2
    · omega
    · have a1 := hg i (j - 1) (by omega) (by omega)
      have a2 := hg (j - 1) j (by omega) hj1
      have a3 : c (zs.toArray[j - 1]!) (zs.toArray[j]!) ≠ 0 := fun e => hj2 ((h.zero _ _).1 e).symm
      exact h.le_lt a1 (by omega)
  · intro x
    unfold Lib.compact Lib.compactUpTo
    simp only [List.mem_map, List.mem_filter, List.mem_range]
    constructor
    · rintro ⟨j, ⟨h1, _⟩, rfl⟩
      simp [h1]
    · intro hx
      obtain ⟨k, hk, e⟩ := List.mem_iff_getElem.1 hx
      have : ∀ (k : Nat) (hk : k < zs.length), zs[k] = x → ∃ a, (a < zs.length ∧ Lib.keeps zs.toArray a = true) ∧ zs.toArray[a]! = x := by
        intro k
        induction k with
        | zero => intro hk e; exact ⟨0, ⟨hk, by simp [Lib.keeps]⟩, by simpa [getElem!_def, hk] using e⟩
        | succ k ih =>
          intro hk e
          by_cases e2 : zs[k]'(by omega) = x
          · exact ih (by omega) e2
          · refine ⟨k + 1, ⟨hk, ?_⟩, by simpa [getElem!_def, hk] using e⟩
            simp only [Lib.keeps, decide_eq_true_eq]
            right
            simp [hk, show k < zs.length by omega]
            rw [e]; exact fun h => e2 h.symm
      exact this k hk e
end Go.Gn

namespace Go.Proofs.YthgefcoaaommkaaGreatDoor
open Go.Maps

/-! ### plain lists of entries -/
section
variable {κ β : Type}
def getA [DecidableEq κ] (L : List (κ × β)) (x : κ) : Option β := (L.find? fun p => decide (p.1 = x)).map (·.2)
def putA [DecidableEq κ] (L : List (κ × β)) (x : κ) (c : β) : List (κ × β) := if x ∈ L.map (·.1) then L.map (fun p => if p.1 = x then (x, c) else p) else L ++ [(x, c)]
def NoTwo (L : List (κ × β)) : Prop := (L.map (·.1)).Nodup
theorem len_le_nodup {α : Type} : ∀ (t l : List α), t.Nodup → (∀ x ∈ t, x ∈ l) → t.length ≤ l.length
  | [], l, _, _ => by simp
  | a :: t, l, hn, h => by
    have hn' := List.nodup_cons.1 hn
    obtain ⟨l1, l2, rfl⟩ := List.append_of_mem (h a (by simp))
    have := len_le_nodup t (l1 ++ l2) hn'.2 fun x hx => by
      have h1 := h x (by simp [hx])
      have hne : x ≠ a := fun e => hn'.1 (e ▸ hx)
      simp only [List.mem_append, List.mem_cons] at h1 ⊢
      rcases h1 with h | h | h
      · exact .inl h
      · exact absurd h hne
      · exact .inr h
    simp only [List.length_append, List.length_cons] at this ⊢
    omega
theorem NoTwo.nil : NoTwo ([] : List (κ × β)) := by simp [NoTwo]
theorem NoTwo.uniq : ∀ {L : List (κ × β)}, NoTwo L → ∀ {p q : κ × β}, p ∈ L → q ∈ L → p.1 = q.1 → p = q
  | [], _, _, _, h, _, _ => by simp at h
  | a :: r, hn, p, q, hp, hq, e => by
    have hn' := List.nodup_cons.1 (show ((a :: r).map (·.1)).Nodup from hn)
    rcases List.mem_cons.1 hp with rfl | hp' <;> rcases List.mem_cons.1 hq with rfl | hq'
    · rfl
    · exact absurd (List.mem_map.2 ⟨q, hq', e.symm⟩) hn'.1
    · exact absurd (List.mem_map.2 ⟨p, hp', e⟩) hn'.1
    · exact NoTwo.uniq hn'.2 hp' hq' e
theorem getA_some [DecidableEq κ] {L : List (κ × β)} {x : κ} {c : β} (h : getA L x = some c) : (x, c) ∈ L := by
  unfold getA at h
  obtain ⟨p, hp, rfl⟩ := Option.map_eq_some_iff.1 h
  have h1 := List.mem_of_find?_eq_some hp
  have h2 := List.find?_some hp
  simp only [decide_eq_true_eq] at h2
  subst h2
  exact h1
theorem getA_none [DecidableEq κ] {L : List (κ × β)} {x : κ} (h : getA L x = none) : x ∉ L.map (·.1) := by
  unfold getA at h
  rw [Option.map_eq_none_iff, List.find?_eq_none] at h
  intro hx
  obtain ⟨p, hp, rfl⟩ := List.mem_map.1 hx
  have := h p hp
  simp at this
theorem getA_iff [DecidableEq κ] {L : List (κ × β)} (hn : NoTwo L) (x : κ) (c : β) : getA L x = some c ↔ (x, c) ∈ L := by
  refine ⟨getA_some, fun h => ?_⟩
  cases hg : getA L x with
  | none => exact absurd (List.mem_map.2 ⟨_, h, rfl⟩) (getA_none hg)
  | some d =>
    have := NoTwo.uniq hn (getA_some hg) h rfl
    rw [Prod.mk.injEq] at this
    rw [this.2]
theorem getA_mem [DecidableEq κ] {L : List (κ × β)} (x : κ) : (getA L x).isSome = decide (x ∈ L.map (·.1)) := by
  cases hg : getA L x with
  | none => simp only [Option.isSome_none]; rw [decide_eq_false (getA_none hg)]
  | some d => simp only [Option.isSome_some]; rw [decide_eq_true (List.mem_map.2 ⟨_, getA_some hg, rfl⟩)]
theorem getA_ext [DecidableEq κ] {L M : List (κ × β)} (hL : NoTwo L) (_hM : NoTwo M) (h : ∀ p, p ∈ L ↔ p ∈ M) (x : κ) : getA L x = getA M x := by
  cases hg : getA M x with
  | none =>
    cases hl : getA L x with
    | none => rfl
    | some c => exact absurd (List.mem_map.2 ⟨_, (h _).1 (getA_some hl), rfl⟩) (getA_none hg)
  | some c => exact (getA_iff hL x c).2 ((h _).2 (getA_some hg))
theorem mem_ext [DecidableEq κ] {L M : List (κ × β)} (hL : NoTwo L) (hM : NoTwo M) (h : ∀ x, getA L x = getA M x) (p : κ × β) : p ∈ L ↔ p ∈ M := by
  obtain ⟨x, c⟩ := p
  rw [← getA_iff hL, ← getA_iff hM, h]
theorem perm_of_mem {L M : List (κ × β)} (hL : NoTwo L) (hM : NoTwo M) (h : ∀ p, p ∈ L ↔ p ∈ M) : L.Perm M := by
  have n1 : L.Nodup := List.Pairwise.of_map (S := (· ≠ ·)) (·.1) (fun a b h e => h (congrArg Prod.fst e)) hL
  have n2 : M.Nodup := List.Pairwise.of_map (S := (· ≠ ·)) (·.1) (fun a b h e => h (congrArg Prod.fst e)) hM
  exact (List.perm_ext_iff_of_nodup n1 n2).2 h
theorem keys_putA [DecidableEq κ] (L : List (κ × β)) (x : κ) (c : β) : (putA L x c).map (·.1) = if x ∈ L.map (·.1) then L.map (·.1) else L.map (·.1) ++ [x] := by
  unfold putA
  split
  · rw [List.map_map]
    refine List.map_congr_left fun p _ => ?_
    simp only [Function.comp]
    by_cases e : p.1 = x
    · rw [if_pos e]; exact e.symm
    · rw [if_neg e]
  · simp
theorem NoTwo.put [DecidableEq κ] {L : List (κ × β)} (h : NoTwo L) (x : κ) (c : β) : NoTwo (putA L x c) := by
  unfold NoTwo
  rw [keys_putA]
  split
  · exact h
  · rename_i hx
    exact List.nodup_append.2 ⟨h, by simp, fun a ha b hb => by simp at hb; subst hb; intro e; subst e; exact hx ha⟩
theorem mem_putA [DecidableEq κ] {L : List (κ × β)} {x : κ} {c : β} (p : κ × β) : p ∈ putA L x c ↔ p = (x, c) ∨ (p ∈ L ∧ p.1 ≠ x) := by
  unfold putA
  split
  · rename_i hx
    rw [List.mem_map]
    constructor
    · rintro ⟨q, hq, rfl⟩
      by_cases e : q.1 = x
      · rw [if_pos e]; exact .inl rfl
      · rw [if_neg e]; exact .inr ⟨hq, e⟩
    · rintro (rfl | ⟨h1, h2⟩)
      · obtain ⟨q, hq, rfl⟩ := List.mem_map.1 hx
        exact ⟨q, hq, by rw [if_pos rfl]⟩
      · exact ⟨p, h1, by rw [if_neg h2]⟩
  · rename_i hx
    rw [List.mem_append, List.mem_singleton]
    constructor
    · rintro (h | h)
      · exact .inr ⟨h, fun e => hx (List.mem_map.2 ⟨p, h, e⟩)⟩
      · exact .inl h
    · rintro (h | ⟨h, _⟩)
      · exact .inr h
      · exact .inl h
theorem getA_put [DecidableEq κ] {L : List (κ × β)} (h : NoTwo L) (x y : κ) (c : β) : getA (putA L x c) y = if y = x then some c else getA L y := by
  by_cases e : y = x
  · subst e
    rw [if_pos rfl]
    exact (getA_iff (h.put y c) y c).2 ((mem_putA _).2 (.inl rfl))
  · rw [if_neg e]
    cases hg : getA L y with
    | none =>
      cases hp : getA (putA L x c) y with
      | none => rfl
      | some d =>
        rcases (mem_putA _).1 (getA_some hp) with h1 | ⟨h1, _⟩
        · rw [Prod.mk.injEq] at h1; exact absurd h1.1 e
        · exact absurd (List.mem_map.2 ⟨_, h1, rfl⟩) (getA_none hg)
    | some d => exact (getA_iff (h.put x c) y d).2 ((mem_putA _).2 (.inr ⟨getA_some hg, e⟩))
theorem putA_length [DecidableEq κ] (L : List (κ × β)) (x : κ) (c : β) : (putA L x c).length = if x ∈ L.map (·.1) then L.length else L.length + 1 := by
  have := congrArg List.length (keys_putA L x c)
  rw [List.length_map] at this
  rw [this]
  split <;> simp
theorem NoTwo.filter {L : List (κ × β)} (h : NoTwo L) (f : κ × β → Bool) : NoTwo (L.filter f) := List.Sublist.nodup ((List.filter_sublist (l := L)).map _) h
theorem NoTwo.perm {L M : List (κ × β)} (h : NoTwo L) (p : L.Perm M) : NoTwo M := (p.map _).nodup_iff.1 h
end

/-! ### in memory -/
/-- How keys and elements of a map are laid. -/
structure KV (P : Program) (k : TypeId) (κ β : Type) where
  K : Keyed P k
  kv : κ → Value
  kl : κ → Lit
  vv : β → Value
  ok : κ → Prop
  key : ∀ x, ok x → keyOf P k (kv x) = some (kl x)
  inj : ∀ x y, ok x → ok y → kl x = kl y → x = y
  vinj : ∀ a b, vv a = vv b → a = b

def heldR (v : Value) : Option (DataW Value × List MemPlace) := some (.held v, [])

section
variable {P : Program} {k : TypeId} {κ β : Type} {S : KV P k κ β}
theorem KV.lit (S : KV P k κ β) {x : κ} (h : S.ok x) : WideAt.IsKeyLit (S.kl x) := S.K.key (S.key x h)

/-- Out of a key's law alone. -/
noncomputable def KV.of {P : Program} {k : TypeId} {κ β : Type} (K : Keyed P k) (kv : κ → Value) (ok : κ → Prop) (hs : ∀ x, ok x → (keyOf P k (kv x)).isSome = true) (hi : ∀ x y, kv x = kv y → x = y) (vv : β → Value) (vi : ∀ a b, vv a = vv b → a = b) : KV P k κ β where
  K := K
  kv := kv
  kl x := (keyOf P k (kv x)).getD (.bool false)
  vv := vv
  ok := ok
  key x h := by
    obtain ⟨l, hl⟩ := Option.isSome_iff_exists.1 (hs x h)
    rw [hl]; rfl
  inj x y hx hy h := by
    obtain ⟨l, hl⟩ := Option.isSome_iff_exists.1 (hs x hx)
    obtain ⟨m, hm⟩ := Option.isSome_iff_exists.1 (hs y hy)
    rw [hl, hm] at h
    simp only [Option.getD_some] at h
    subst h
    exact hi x y (K.inj hl hm)
  vinj := vi

/-- The datum D holds just the entries L. -/
structure Ent (S : KV P k κ β) (D : DataW Value) (L : List (κ × β)) : Prop where
  tidy : Tidy D
  two : NoTwo L
  ok : ∀ p ∈ L, S.ok p.1
  at_ : ∀ p ∈ L, ∀ z, D.atKey (S.kl p.1) z = .held (S.vv p.2)
  has : ∀ l, Maps.has D l = true → ∃ p ∈ L, l = S.kl p.1
  size : Maps.size D = L.length
theorem Ent.nil : Ent S (.map []) [] := ⟨tidy_empty, NoTwo.nil, by simp, by simp, fun l h => by simp [has_eq] at h, rfl⟩
theorem Ent.has_iff [DecidableEq κ] {D : DataW Value} {L : List (κ × β)} (h : Ent S D L) {x : κ} (hx : S.ok x) : Maps.has D (S.kl x) = decide (x ∈ L.map (·.1)) := by
  rw [Bool.eq_iff_iff, decide_eq_true_eq, List.mem_map]
  constructor
  · intro hh
    obtain ⟨p, hp, e⟩ := h.has _ hh
    exact ⟨p, hp, (S.inj _ _ hx (h.ok p hp) e).symm⟩
  · rintro ⟨p, hp, rfl⟩
    exact has_true_of_atKey (h.at_ p hp)
theorem Ent.at_get [DecidableEq κ] {D : DataW Value} {L : List (κ × β)} (h : Ent S D L) {x : κ} (hx : S.ok x) (z : DataW Value) : D.atKey (S.kl x) z = ((getA L x).map fun c => DataW.held (S.vv c)).getD z := by
  cases hg : getA L x with
  | some c => exact h.at_ (x, c) (getA_some hg) z
  | none =>
    have := h.has_iff hx
    rw [decide_eq_false (getA_none hg)] at this
    exact atKey_of_not_has this z
theorem Ent.put [DecidableEq κ] {D : DataW Value} {L : List (κ × β)} (h : Ent S D L) {x : κ} (hx : S.ok x) (c : β) : Ent S (D.put (S.kl x) (.held (S.vv c))) (putA L x c) := by
  refine ⟨h.tidy.put (S.lit hx) _, h.two.put x c, fun p hp => ?_, fun p hp z => ?_, fun l hl => ?_, ?_⟩
  · rcases (mem_putA p).1 hp with rfl | ⟨hp, _⟩
    · exact hx
    · exact h.ok p hp
  · rcases (mem_putA p).1 hp with rfl | ⟨hp, hne⟩
    · exact atKey_put_same h.tidy.isMap (S.lit hx) _ _
    · rw [atKey_put_other fun e => hne (S.inj _ _ (h.ok p hp) hx e)]; exact h.at_ p hp z
  · by_cases e : l = S.kl x
    · exact ⟨(x, c), (mem_putA _).2 (.inl rfl), e⟩
    · rw [has_put_other e] at hl
      obtain ⟨p, hp, rfl⟩ := h.has l hl
      exact ⟨p, (mem_putA _).2 (.inr ⟨hp, fun e' => e (by rw [e'])⟩), rfl⟩
  · rw [size_put h.tidy, h.has_iff hx, putA_length, h.size]
    simp only [decide_eq_true_eq]
theorem Ent.del [DecidableEq κ] {D : DataW Value} {L : List (κ × β)} (h : Ent S D L) {x : κ} (hx : S.ok x) : Ent S (D.del (S.kl x)) (L.filter fun p => !decide (p.1 = x)) := by
  have hm : ∀ p, p ∈ L.filter (fun p => !decide (p.1 = x)) ↔ p ∈ L ∧ p.1 ≠ x := fun p => by simp [List.mem_filter]
  refine ⟨h.tidy.del _, h.two.filter _, fun p hp => h.ok p ((hm p).1 hp).1, fun p hp z => ?_, fun l hl => ?_, ?_⟩
  · obtain ⟨hp, hne⟩ := (hm p).1 hp
    rw [atKey_del_other fun e => hne (S.inj _ _ (h.ok p hp) hx e)]; exact h.at_ p hp z
  · by_cases e : l = S.kl x
    · subst e; rw [has_del_same] at hl; cases hl
    · rw [has_del_other e] at hl
      obtain ⟨p, hp, rfl⟩ := h.has l hl
      exact ⟨p, (hm p).2 ⟨hp, fun e' => e (by rw [e'])⟩, rfl⟩
  · have h1 := size_del (k := S.kl x) h.tidy
    rw [h.has_iff hx, h.size] at h1
    have h2 : ∀ M : List (κ × β), NoTwo M → (M.filter fun p => !decide (p.1 = x)).length + (if x ∈ M.map (·.1) then 1 else 0) = M.length := by
      intro M
      induction M with
      | nil => intro _; simp
      | cons a r ih =>
        intro hn
        have hn' := List.nodup_cons.1 (show ((a :: r).map (·.1)).Nodup from hn)
        have ih' := ih hn'.2
        rw [List.filter_cons, List.map_cons]
        by_cases e : a.1 = x
        · subst e
          rw [if_neg hn'.1] at ih'
          simp only [decide_true, Bool.not_true, Bool.false_eq_true, if_false, List.mem_cons, true_or, if_true, List.length_cons]
          omega
        · have e' : ¬ x = a.1 := fun h => e h.symm
          simp only [decide_eq_false e, Bool.not_false, if_true, List.length_cons, List.mem_cons, e', false_or]
          omega
    have h3 := h2 L h.two
    simp only [decide_eq_true_eq] at h1
    omega

/-- Block b is a map with just the entries L. -/
def MapA (S : KV P k κ β) (w : World) (b : Nat) (L : List (κ × β)) : Prop := ∃ D, w.ownsMap P k heldR b L.length D ∧ Ent S D L
theorem MapA.perm [DecidableEq κ] {w : World} {b : Nat} {L M : List (κ × β)} (h : MapA S w b L) (p : L.Perm M) : MapA S w b M := h.elim fun D h =>
  ⟨D, by rw [← p.length_eq]; exact h.1, ⟨h.2.tidy, h.2.two.perm p, fun q hq => h.2.ok q (p.mem_iff.2 hq), fun q hq => h.2.at_ q (p.mem_iff.2 hq), fun l hl => (h.2.has l hl).imp fun q hq => ⟨p.mem_iff.1 hq.1, hq.2⟩, by rw [h.2.size, p.length_eq]⟩⟩
theorem own_tight {w : World} {b n : Nat} {D : DataW Value} (h : w.ownsMap P k heldR b n D) : w.ownsMap P k heldR b (Maps.size D) D := by
  obtain ⟨es, clock, hb, F, hs, rfl⟩ := h
  exact ⟨es, clock, hb, F, by simp [Maps.size, length_sorted], rfl⟩
theorem MapA.made (S : KV P k κ β) (w : World) : MapA S (w.alloc (.map #[] 0)) w.heap.size [] := ⟨_, World.ownsMap_made w P k _, Ent.nil⟩
theorem MapA.two {w : World} {b : Nat} {L : List (κ × β)} (h : MapA S w b L) : NoTwo L := h.elim fun _ h => h.2.two
theorem MapA.ok {w : World} {b : Nat} {L : List (κ × β)} (h : MapA S w b L) : ∀ p ∈ L, S.ok p.1 := h.elim fun _ h => h.2.ok
theorem MapA.kept {w w' : World} {b : Nat} {L : List (κ × β)} {row : Option Nat} (h : MapA S w b L) (hg : w.grownBy w' row) (hne : some b ≠ row) : MapA S w' b L := h.elim fun D h => ⟨D, h.1.kept hg hne, h.2⟩
theorem MapA.lt {w : World} {b : Nat} {L : List (κ × β)} (h : MapA S w b L) : b < w.heap.size := h.elim fun _ h => h.1.lt
theorem MapA.keep {w w' : World} {b : Nat} {L : List (κ × β)} (h : MapA S w b L) (e1 : w'.heap[b]? = w.heap[b]?) : MapA S w' b L := by
  obtain ⟨D, ⟨es, clock, hb, r⟩, h2⟩ := h
  exact ⟨D, ⟨es, clock, e1.trans hb, r⟩, h2⟩
theorem MapA.below {w w' : World} {b : Nat} {L : List (κ × β)} (h : MapA S w b L) (hb : RowKit.Below w.heap.size w w') : MapA S w' b L := h.keep (hb.block b h.lt)

/-- A range over the map b by the iterator r: the entries done, in the order in which they came. -/
def RngA (S : KV P k κ β) (w : World) (b r : Nat) (L done : List (κ × β)) : Prop :=
  ∃ D n left cnt, w.ranges P k heldR b r n D left cnt ∧ Ent S D L ∧ NoTwo done ∧ (∀ p ∈ done, p ∈ L) ∧ ∀ l, left l = true ↔ ∃ p ∈ L, l = S.kl p.1 ∧ p.1 ∉ done.map (·.1)
theorem RngA.map {w : World} {b r : Nat} {L done : List (κ × β)} (h : RngA S w b r L done) : MapA S w b L := by
  obtain ⟨D, n, left, cnt, h1, h2, _⟩ := h
  exact ⟨D, by rw [← h2.size]; exact own_tight h1.owns, h2⟩
theorem RngA.ne {w : World} {b r : Nat} {L done : List (κ × β)} (h : RngA S w b r L done) : r ≠ b := by
  obtain ⟨D, n, left, cnt, h1, _⟩ := h
  exact h1.ne
theorem RngA.lt {w : World} {b r : Nat} {L done : List (κ × β)} (h : RngA S w b r L done) : r < w.heap.size := by
  obtain ⟨D, n, left, cnt, h1, _⟩ := h
  exact h1.lt
theorem RngA.kept {w w' : World} {b r : Nat} {L done : List (κ × β)} {row : Option Nat} (h : RngA S w b r L done) (hg : w.grownBy w' row) (hb : some b ≠ row) (hr : some r ≠ row) : RngA S w' b r L done := by
  obtain ⟨D, n, left, cnt, h1, h2⟩ := h
  exact ⟨D, n, left, cnt, h1.kept hg hb hr, h2⟩
theorem RngA.keep {w w' : World} {b r : Nat} {L done : List (κ × β)} (h : RngA S w b r L done) (e1 : w'.heap[b]? = w.heap[b]?) (e2 : w'.heap[r]? = w.heap[r]?) : RngA S w' b r L done := by
  obtain ⟨D, n, left, cnt, ⟨es, clock, since, seen, c0, hb, F, hs, hD, hr, rest⟩, h2⟩ := h
  exact ⟨D, n, left, cnt, ⟨es, clock, since, seen, c0, e1.trans hb, F, hs, hD, e2.trans hr, rest⟩, h2⟩
theorem RngA.below {w w' : World} {b r : Nat} {L done : List (κ × β)} (h : RngA S w b r L done) (hb : RowKit.Below w.heap.size w w') : RngA S w' b r L done := h.keep (hb.block b h.map.lt) (hb.block r h.lt)
theorem RngA.len {w : World} {b r : Nat} {L done : List (κ × β)} (h : RngA S w b r L done) : done.length ≤ L.length := by
  obtain ⟨D, n, left, cnt, h1, h2, h3, h4, _⟩ := h
  have n1 : done.Nodup := List.Pairwise.of_map (S := (· ≠ ·)) (·.1) (fun a b h e => h (congrArg Prod.fst e)) h3
  exact len_le_nodup _ _ n1 h4

variable (w : World) {ops : Array Oper} {rest : List Oper} {o : Oper} {a : Act} {Q : Exit → Act → World → Prop}
/-- m[x]. -/
theorem wpList_lookup_a [DecidableEq κ] (hg : o.guard = none) (m x : Operand) (t : TypeId) (hop : o.op = Op.lookup t m x false)
    (S : KV P k κ β) (e : TypeId) (ht : P.underlying t = some (.map k e)) (z : Value) (hz : (zeroValue e).run P w = .ok z w) (b : Nat) (L : List (κ × β))
    (hm : a.eval m = .map (some b)) (hown : MapA S w b L) (y : κ) (hy : S.ok y) (hx : a.eval x = S.kv y)
    (hK : wpList P ops Q rest (a.put o.dst (((getA L y).map S.vv).getD z)) w) : wpList P ops Q (o :: rest) a w := by
  refine wpList_plain hg fun K' hK' => ?_
  obtain ⟨D, h1, h2⟩ := hown
  obtain ⟨v, ps, hrun, hv⟩ := h1.lookup S.K ht hz (R := heldR) rfl (S.key y hy)
  rw [h2.at_get hy] at hv
  have e1 : v = ((getA L y).map S.vv).getD z := by
    unfold heldR at hv
    cases hg : getA L y <;> rw [hg] at hv <;> simp at hv <;> simp [hv.1]
  rw [← e1] at hK
  unfold Oper.wp
  simp [execOp, hop, hm, hx, hrun, Result.andThen]
  exact hK' _ _ hK
/-- v, ok := m[x]. -/
theorem wpList_lookup_a_ok [DecidableEq κ] (hg : o.guard = none) (m x : Operand) (t : TypeId) (hop : o.op = Op.lookup t m x true)
    (S : KV P k κ β) (e : TypeId) (ht : P.underlying t = some (.map k e)) (z : Value) (hz : (zeroValue e).run P w = .ok z w) (b : Nat) (L : List (κ × β))
    (hm : a.eval m = .map (some b)) (hown : MapA S w b L) (y : κ) (hy : S.ok y) (hx : a.eval x = S.kv y)
    (hK : wpList P ops Q rest (a.put o.dst (.tuple #[((getA L y).map S.vv).getD z, .bool (getA L y).isSome])) w) : wpList P ops Q (o :: rest) a w := by
  refine wpList_plain hg fun K' hK' => ?_
  obtain ⟨D, h1, h2⟩ := hown
  obtain ⟨v, ps, hrun, hv⟩ := h1.look_ok S.K ht hz (R := heldR) rfl (S.key y hy)
  rw [h2.at_get hy] at hv
  rw [h2.has_iff hy, ← getA_mem] at hrun
  have e1 : v = ((getA L y).map S.vv).getD z := by
    unfold heldR at hv
    cases hg : getA L y <;> rw [hg] at hv <;> simp at hv <;> simp [hv.1]
  rw [← e1] at hK
  unfold Oper.wp
  simp [execOp, hop, hm, hx, hrun, Result.andThen]
  exact hK' _ _ hK
/-- m[x] = c. -/
theorem wpList_mapUpdate_a [DecidableEq κ] (hg : o.guard = none) (m x v : Operand) (t : TypeId) (hop : o.op = Op.mapUpdate t m x v)
    (S : KV P k κ β) (e : TypeId) (ht : P.underlying t = some (.map k e)) (b : Nat) (L : List (κ × β))
    (hm : a.eval m = .map (some b)) (hown : MapA S w b L) (hn : L.length < maxLen) (y : κ) (hy : S.ok y) (c : β) (hx : a.eval x = S.kv y) (hv : a.eval v = S.vv c)
    (hK : ∀ w', MapA S w' b (putA L y c) → w.grownBy w' (some b) → wpList P ops Q rest (a.put o.dst undef) w') : wpList P ops Q (o :: rest) a w := by
  obtain ⟨D, h1, h2⟩ := hown
  exact wpList_mapUpdate_own w hg m x v t hop k e S.K ht heldR b L.length D hm h1 hn (S.kv y) (S.vv c) (S.kl y) hx hv (S.key y hy) (.held (S.vv c)) [] rfl fun w' g1 g2 =>
    hK w' ⟨_, by rw [← (h2.put hy c).size]; exact own_tight g1, h2.put hy c⟩ g2
theorem MapA.run_lookup [DecidableEq κ] {w : World} {S : KV P k κ β} {t e : TypeId} (ht : P.underlying t = some (.map k e)) {z : Value} (hz : (zeroValue e).run P w = .ok z w) {b : Nat} {L : List (κ × β)} (hown : MapA S w b L) {y : κ} (hy : S.ok y) :
    (Instr.lookup t (.map (some b)) (S.kv y) false).run P w = .ok (((getA L y).map S.vv).getD z) w := by
  obtain ⟨D, h1, h2⟩ := hown
  obtain ⟨v, ps, hrun, hv⟩ := h1.lookup S.K ht hz (R := heldR) rfl (S.key y hy)
  rw [h2.at_get hy] at hv
  have e1 : v = ((getA L y).map S.vv).getD z := by
    unfold heldR at hv
    cases hg : getA L y <;> rw [hg] at hv <;> simp at hv <;> simp [hv.1]
  rw [← e1]; exact hrun
/-- m[x] in a quiet walk. -/
theorem quiet_lookup_a [DecidableEq κ] {C : World → Prop} {K : Act → Prop} (m x : Operand) (t : TypeId) (ho : o.op = .lookup t m x false)
    (S : KV P k κ β) (e : TypeId) (ht : P.underlying t = some (.map k e)) (z : Value) (hz : ∀ w, (zeroValue e).run P w = .ok z w) (b : Nat) (L : List (κ × β))
    (hm : a.eval m = .map (some b)) (hown : ∀ w, C w → MapA S w b L) (y : κ) (hy : S.ok y) (hx : a.eval x = S.kv y) (hk : K (a.put o.dst (((getA L y).map S.vv).getD z))) : o.quiet P a C K :=
  ⟨_, fun w hw => by
    unfold Oper.quietAt execOp
    simp only [ho, hm, hx, Sem.run_bind, Sem.run_pure, MapA.run_lookup ht (hz w) (hown w hw) hy, Result.andThen_ok]
    exact ⟨rfl, rfl⟩, hk⟩
/-- m[x] = c, an operation by itself. -/
theorem wp_mapUpdate_a [DecidableEq κ] {K : Act → World → Prop} (m x v : Operand) (t : TypeId) (hop : o.op = Op.mapUpdate t m x v)
    (S : KV P k κ β) (e : TypeId) (ht : P.underlying t = some (.map k e)) (b : Nat) (L : List (κ × β))
    (hm : a.eval m = .map (some b)) (hown : MapA S w b L) (hn : L.length < maxLen) (y : κ) (hy : S.ok y) (c : β) (hx : a.eval x = S.kv y) (hv : a.eval v = S.vv c)
    (hK : ∀ w', MapA S w' b (putA L y c) → w.grownBy w' (some b) → K (a.put o.dst undef) w') : o.wp P a w K Q := by
  obtain ⟨D, h1, h2⟩ := hown
  obtain ⟨w', hrun, r1, r2⟩ := h1.update S.K ht hn (S.key y hy) (R := heldR) (val := S.vv c) rfl
  have hr := hK w' ⟨_, by rw [← (h2.put hy c).size]; exact own_tight r1, h2.put hy c⟩ r2
  unfold Oper.wp
  simp [execOp, hop, hm, hx, hv, hrun, Result.andThen]
  exact hr
/-- len(m). -/
theorem wpList_len_a (hg : o.guard = none) (m : Operand) (t : TypeId) (hop : o.op = Op.call { callee := Callee.builtin Builtin.len, args := #[m], argTypes := #[t] })
    (S : KV P k κ β) (e : TypeId) (ht : P.underlying t = some (.map k e)) (b : Nat) (L : List (κ × β)) (hm : a.eval m = .map (some b)) (hown : MapA S w b L)
    (hK : wpList P ops Q rest (a.put o.dst (.int .i64 L.length)) w) : wpList P ops Q (o :: rest) a w := by
  obtain ⟨D, h1, h2⟩ := hown
  rw [← h2.size] at hK
  exact wpList_len_own w hg m t hop k e ht heldR b L.length D hm h1 hK
/-- range m. -/
theorem wpList_range_a [DecidableEq κ] (hg : o.guard = none) (m : Operand) (t : TypeId) (hop : o.op = Op.range t m) (S : KV P k κ β) (e : TypeId) (ht : P.underlying t = some (.map k e)) (b : Nat) (L : List (κ × β))
    (hm : a.eval m = .map (some b)) (hown : MapA S w b L)
    (hK : ∀ w', RngA S w' b w.heap.size L [] → w.grownBy w' none → w'.heap.size = w.heap.size + 1 → wpList P ops Q rest (a.put o.dst (.pointer (some ⟨w.heap.size, 0, none⟩))) w') :
    wpList P ops Q (o :: rest) a w := by
  obtain ⟨D, h1, h2⟩ := hown
  refine wpList_range_own w hg m t hop k e S.K ht heldR b L.length D hm h1 fun w' g1 g2 g3 => hK w' ⟨D, _, _, _, g1, h2, NoTwo.nil, by simp, fun l => ⟨fun h => ?_, fun ⟨p, hp, e, _⟩ => ?_⟩⟩ g2 g3
  · obtain ⟨p, hp, e⟩ := h2.has l h
    exact ⟨p, hp, e, by simp⟩
  · rw [e, h2.has_iff (h2.ok p hp)]
    exact decide_eq_true (List.mem_map.2 ⟨p, hp, rfl⟩)
/-- The step of a range. -/
theorem wpList_next_a [DecidableEq κ] (hg : o.guard = none) (it : Operand) (hop : o.op = Op.next it false) (S : KV P k κ β) (b r : Nat) (L done : List (κ × β))
    (hit : a.eval it = .pointer (some ⟨r, 0, none⟩)) (h : RngA S w b r L done)
    (hDone : done.Perm L → wpList P ops Q rest (a.put o.dst (.tuple #[.bool false])) w)
    (hMore : ∀ x c w', (x, c) ∈ L → x ∉ done.map (·.1) → S.ok x → RngA S w' b r L (done ++ [(x, c)]) → w.grownBy w' (some r) → w'.heap.size = w.heap.size →
      (Instr.entry (.pointer (some ⟨r, 0, none⟩))).run P w' = .ok (.tuple #[S.kv x, S.vv c]) w' → wpList P ops Q rest (a.put o.dst (.tuple #[.bool true, S.kv x, S.vv c])) w') :
    wpList P ops Q (o :: rest) a w := by
  refine wpList_plain hg fun K' hK' => ?_
  obtain ⟨D, n, left, cnt, h1, h2, h3, h4, h5⟩ := h
  unfold Oper.wp
  rcases h1.next S.K o.type with ⟨h0, hl, hrun⟩ | ⟨key, v, kl, y, w', cnt', hkey, hlk, hv, hat, hrun, hrg, hlt, hgr, hsz, hen⟩
  · simp [execOp, hop, hit, hrun, Result.andThen]
    refine hK' _ _ (hDone (perm_of_mem h3 h2.two fun p => ⟨h4 p, fun hp => ?_⟩))
    have := mt (h5 (S.kl p.1)).2 (by rw [hl]; exact Bool.false_ne_true)
    have hin : p.1 ∈ done.map (·.1) := Classical.byContradiction fun hc => this ⟨p, hp, rfl, hc⟩
    obtain ⟨q, hq, e⟩ := List.mem_map.1 hin
    rw [← NoTwo.uniq h2.two (h4 q hq) hp e]
    exact hq
  · obtain ⟨⟨x, c⟩, hp, rfl, hnd⟩ := (h5 kl).1 hlk
    have hok := h2.ok _ hp
    obtain rfl : key = S.kv x := S.K.inj hkey (S.key x hok)
    have hv2 : v = S.vv c := by
      have := hat (.held v)
      rw [h2.at_ _ hp] at this
      unfold heldR at hv
      rw [Option.some.injEq] at hv
      rw [← hv] at this
      injection this with this
      exact this.symm
    subst hv2
    simp [execOp, hop, hit, hrun, Result.andThen]
    refine hK' _ _ (hMore x c w' hp hnd hok ⟨D, n, _, cnt', hrg, h2, ?_, ?_, fun l => ?_⟩ hgr hsz hen)
    · unfold NoTwo
      rw [List.map_append]
      exact List.nodup_append.2 ⟨h3, by simp, fun a ha b hb => by simp at hb; subst hb; intro e; subst e; exact hnd ha⟩
    · intro p hp'
      rcases List.mem_append.1 hp' with h | h
      · exact h4 p h
      · rw [List.mem_singleton.1 h]; exact hp
    · rw [Bool.and_eq_true, h5 l, Bool.not_eq_true']
      constructor
      · rintro ⟨⟨p, hp', rfl, hn⟩, hs⟩
        refine ⟨p, hp', rfl, ?_⟩
        rw [List.map_append, List.mem_append]
        rintro (h | h)
        · exact hn h
        · simp at h
          rw [h, WideAt.sameKey_self (S.lit hok)] at hs
          cases hs
      · rintro ⟨p, hp', rfl, hn⟩
        rw [List.map_append, List.mem_append] at hn
        refine ⟨⟨p, hp', rfl, fun h => hn (.inl h)⟩, sameKey_ne fun e => hn (.inr ?_)⟩
        rw [S.inj _ _ (h2.ok p hp') hok e]
        simp
/-- delete(m, x) in a range, at an entry that has come. -/
theorem wpList_delete_a [DecidableEq κ] (hg : o.guard = none) (m x : Operand) (t : TypeId) (hop : o.op = Op.call { callee := Callee.builtin Builtin.delete, args := #[m, x], argTypes := #[t, k] })
    (S : KV P k κ β) (e : TypeId) (ht : P.underlying t = some (.map k e)) (b r : Nat) (L done : List (κ × β)) (hm : a.eval m = .map (some b)) (h : RngA S w b r L done) (y : κ) (hy : S.ok y) (hx : a.eval x = S.kv y)
    (hK : ∀ w', RngA S w' b r (L.filter fun p => !decide (p.1 = y)) (done.filter fun p => !decide (p.1 = y)) → w.grownBy w' (some b) → wpList P ops Q rest (a.put o.dst (.tuple #[])) w') : wpList P ops Q (o :: rest) a w := by
  obtain ⟨D, n, left, cnt, h1, h2, h3, h4, h5⟩ := h
  refine wpList_plain hg fun K' hK' => ?_
  obtain ⟨w', cnt', hrun, hrg, _, htn⟩ := h1.drop S.K ht (S.key y hy) o.type
  unfold Oper.wp
  simp [execOp, hop, hm, hx, resolve, invoke, builtin, hrun, Result.andThen]
  refine hK' _ _ (hK w' ⟨_, n, _, cnt', hrg, h2.del hy, h3.filter _, fun p hp => ?_, fun l => ?_⟩ htn.grown)
  · obtain ⟨a1, a2⟩ := List.mem_filter.1 hp
    exact List.mem_filter.2 ⟨h4 p a1, a2⟩
  · rw [Bool.and_eq_true, h5 l, Bool.not_eq_true']
    constructor
    · rintro ⟨⟨p, hp', rfl, hn⟩, hs⟩
      have hne : p.1 ≠ y := fun e => by rw [e, WideAt.sameKey_self (S.lit hy)] at hs; cases hs
      refine ⟨p, List.mem_filter.2 ⟨hp', by simp [hne]⟩, rfl, fun h => hn ?_⟩
      obtain ⟨q, hq, e⟩ := List.mem_map.1 h
      exact List.mem_map.2 ⟨q, (List.mem_filter.1 hq).1, e⟩
    · rintro ⟨p, hp', rfl, hn⟩
      obtain ⟨a1, a2⟩ := List.mem_filter.1 hp'
      have hne : p.1 ≠ y := by simpa using a2
      refine ⟨⟨p, a1, rfl, fun h => hn ?_⟩, sameKey_ne fun e => hne (S.inj _ _ (h2.ok p a1) hy e)⟩
      obtain ⟨q, hq, e⟩ := List.mem_map.1 h
      exact List.mem_map.2 ⟨q, List.mem_filter.2 ⟨hq, by simp [e, hne]⟩, e⟩
end
end Go.Proofs.YthgefcoaaommkaaGreatDoor

namespace Go.Sr
open Go.Proofs.YthgefcoaaommkaaGreatDoor

abbrev C := Int × Int
def plus (a b : C) : C := (a.1 + b.1, a.2 + b.2)
theorem plus_zero (a : C) : plus a (0, 0) = a := by simp [plus]
theorem zero_plus (a : C) : plus (0, 0) a = a := by simp [plus]
theorem plus_comm (a b : C) : plus a b = plus b a := by simp [plus, Int.add_comm]
theorem plus_assoc (a b c : C) : plus (plus a b) c = plus a (plus b c) := by simp [plus, Int.add_assoc]
/-- The sum of a list of counts. -/
def sumC (l : List C) : C := l.foldl plus (0, 0)
theorem foldl_plus (l : List C) : ∀ a, l.foldl plus a = plus a (sumC l) := by
  unfold sumC
  induction l with
  | nil => intro a; simp [plus_zero]
  | cons x r ih => intro a; rw [List.foldl_cons, ih, List.foldl_cons, ih (plus (0, 0) x), zero_plus, plus_assoc]
theorem sumC_cons (a : C) (l : List C) : sumC (a :: l) = plus a (sumC l) := by
  show (a :: l).foldl plus (0, 0) = _
  rw [List.foldl_cons, foldl_plus, zero_plus]
theorem sumC_nil : sumC [] = (0, 0) := rfl
theorem sumC_append (l m : List C) : sumC (l ++ m) = plus (sumC l) (sumC m) := by
  show (l ++ m).foldl plus (0, 0) = _
  rw [List.foldl_append, foldl_plus]; rfl
theorem sumC_perm {l m : List C} (h : l.Perm m) : sumC l = sumC m := by
  induction h with
  | nil => rfl
  | cons x _ ih => rw [sumC_cons, sumC_cons, ih]
  | swap x y l => rw [sumC_cons, sumC_cons, sumC_cons, sumC_cons, ← plus_assoc, ← plus_assoc, plus_comm y x]
  | trans _ _ h1 h2 => rw [h1, h2]

section
variable {κ : Type}
/-- A count added to that of a key. -/
def addA [DecidableEq κ] (L : List (κ × C)) (k : κ) (c : C) : List (κ × C) := putA L k (plus ((getA L k).getD (0, 0)) c)
theorem getA_add [DecidableEq κ] {L : List (κ × C)} (h : NoTwo L) (k y : κ) (c : C) : getA (addA L k c) y = if y = k then some (plus ((getA L k).getD (0, 0)) c) else getA L y := getA_put h _ _ _
theorem addA_two [DecidableEq κ] {L : List (κ × C)} (h : NoTwo L) (k : κ) (c : C) : NoTwo (addA L k c) := h.put _ _
/-- The sum over the entries whose key has a property. -/
def sumP (p : κ → Bool) (L : List (κ × C)) : C := sumC ((L.filter fun e => p e.1).map (·.2))
theorem sumP_nil (p : κ → Bool) : sumP p ([] : List (κ × C)) = (0, 0) := rfl
theorem sumP_cons (p : κ → Bool) (a : κ × C) (L : List (κ × C)) : sumP p (a :: L) = plus (if p a.1 then a.2 else (0, 0)) (sumP p L) := by
  unfold sumP
  rw [List.filter_cons]
  cases p a.1
  · simp [zero_plus]
  · simp [sumC_cons]
theorem sumP_perm (p : κ → Bool) {L M : List (κ × C)} (h : L.Perm M) : sumP p L = sumP p M := sumC_perm ((h.filter _).map _)
theorem sumP_append (p : κ → Bool) (L M : List (κ × C)) : sumP p (L ++ M) = plus (sumP p L) (sumP p M) := by
  unfold sumP; rw [List.filter_append, List.map_append, sumC_append]
theorem sumP_put [DecidableEq κ] (p : κ → Bool) (k : κ) (c : C) : ∀ {L : List (κ × C)}, NoTwo L → k ∈ L.map (·.1) → sumP p (L.map fun e => if e.1 = k then (k, plus ((getA L k).getD (0, 0)) c) else e) = plus (sumP p L) (if p k then c else (0, 0))
  | [], _, h => by simp at h
  | a :: L, hn, h => by
    have hn' := List.nodup_cons.1 (show ((a :: L).map (·.1)).Nodup from hn)
    rw [List.map_cons, sumP_cons, sumP_cons]
    by_cases e : a.1 = k
    · subst e
      have e1 : getA (a :: L) a.1 = some a.2 := (getA_iff hn _ _).2 (by simp)
      have e2 : (L.map fun e => if e.1 = a.1 then (a.1, plus ((getA (a :: L) a.1).getD (0, 0)) c) else e) = L := by
        have : ∀ e ∈ L, (if e.1 = a.1 then (a.1, plus ((getA (a :: L) a.1).getD (0, 0)) c) else e) = id e := fun e he => by
          rw [if_neg fun h => hn'.1 (List.mem_map.2 ⟨e, he, h⟩)]; rfl
        rw [List.map_congr_left this, List.map_id]
      rw [e2, if_pos rfl, e1]
      simp only [Option.getD_some]
      cases p a.1
      · simp [zero_plus, plus_zero]
      · simp only [if_true]
        rw [plus_assoc, plus_assoc, plus_comm c]
    · have hk : k ∈ L.map (·.1) := by
        rw [List.map_cons, List.mem_cons] at h
        rcases h with h | h
        · exact absurd h.symm e
        · exact h
      have e1 : getA (a :: L) k = getA L k := by
        unfold getA
        rw [List.find?_cons]
        simp [e]
      rw [if_neg e, e1, sumP_put p k c hn'.2 hk, plus_assoc]
theorem sumP_add [DecidableEq κ] (p : κ → Bool) {L : List (κ × C)} (hn : NoTwo L) (k : κ) (c : C) : sumP p (addA L k c) = plus (sumP p L) (if p k then c else (0, 0)) := by
  unfold addA putA
  by_cases h : k ∈ L.map (·.1)
  · rw [if_pos h]; exact sumP_put p k c hn h
  · rw [if_neg h, sumP_append, sumP_cons, sumP_nil, plus_zero]
    have : getA L k = none := by
      cases hg : getA L k with
      | none => rfl
      | some d => exact absurd (List.mem_map.2 ⟨_, getA_some hg, rfl⟩) h
    rw [this]
    simp [zero_plus]
/-- A count added to those of many keys. -/
def addAll [DecidableEq κ] (ks : List κ) (c : C) (L : List (κ × C)) : List (κ × C) := ks.foldl (fun L k => addA L k c) L
theorem addAll_two [DecidableEq κ] (c : C) : ∀ (ks : List κ) {L : List (κ × C)}, NoTwo L → NoTwo (addAll ks c L)
  | [], _, h => h
  | k :: r, _, h => addAll_two c r (addA_two h k c)
theorem addAll_append [DecidableEq κ] (ks js : List κ) (c : C) (L : List (κ × C)) : addAll (ks ++ js) c L = addAll js c (addAll ks c L) := by unfold addAll; rw [List.foldl_append]
theorem sumP_addAll [DecidableEq κ] (p : κ → Bool) (c : C) : ∀ (ks : List κ) {L : List (κ × C)}, NoTwo L → sumP p (addAll ks c L) = plus (sumP p L) (sumC ((ks.filter p).map fun _ => c))
  | [], L, _ => by simp [addAll, sumC_nil, plus_zero]
  | k :: r, L, h => by
    show sumP p (addAll r c (addA L k c)) = _
    rw [sumP_addAll p c r (addA_two h k c), sumP_add p h, List.filter_cons]
    cases p k
    · simp [plus_zero]
    · simp only [if_true, List.map_cons, sumC_cons, plus_assoc]
theorem getA_addAll [DecidableEq κ] (c : C) : ∀ (ks : List κ), ks.Nodup → ∀ {L : List (κ × C)}, NoTwo L → ∀ y, getA (addAll ks c L) y = if y ∈ ks then some (plus ((getA L y).getD (0, 0)) c) else getA L y
  | [], _, L, _, y => by simp [addAll]
  | k :: r, hk, L, h, y => by
    have hk' := List.nodup_cons.1 hk
    show getA (addAll r c (addA L k c)) y = _
    rw [getA_addAll c r hk'.2 (addA_two h k c), getA_add h]
    by_cases e : y = k
    · subst e
      rw [if_neg hk'.1, if_pos rfl, if_pos (by simp)]
    · rw [if_neg e]
      simp [e]
end

/-! ### events -/
structure Ev where
  minute : Int
  author : List UInt8
  groups : List (List UInt8)
  sites : List (List UInt8)
  bytes : Int
abbrev Ky := Int × Int × List UInt8
def dayE (e : Ev) : Int := e.minute / 1440
def hexL : List UInt8 := [48, 49, 50, 51, 52, 53, 54, 55, 56, 57, 97, 98, 99, 100, 101, 102]
def hexd (n : Nat) : UInt8 := hexL.getD n 0
def hexT (a : List UInt8) : List UInt8 := a.flatMap fun (b : UInt8) => [hexd (b.toNat / 16), hexd (b.toNat % 16)]
def oneE (e : Ev) : C := (1, e.bytes)
def keysE (e : Ev) : List Ky := e.groups.map (fun g => (dayE e, 1, g)) ++ e.sites.map (fun g => (dayE e, 2, g)) ++ [(dayE e, 3, hexT e.author)]
/-- The counts of the days and of the names of some events, counted one after another. -/
def daysL (l : List Ev) : List (Int × C) := l.foldl (fun L e => addA L (dayE e) (oneE e)) []
def namesL (l : List Ev) : List (Ky × C) := l.foldl (fun L e => addAll (keysE e) (oneE e) L) []
def sumE (l : List Ev) : C := sumC (l.map oneE)
/-- What an event is counted for: the list of a kind. -/
def ofKind (e : Ev) (k : Int) : List (List UInt8) := if k = 3 then [hexT e.author] else if k = 2 then e.sites else e.groups
def hasE (e : Ev) (k : Int) (n : List UInt8) : Bool := decide (1 ≤ k ∧ k ≤ 3) && decide (n ∈ ofKind e k)
theorem daysL_snoc (l : List Ev) (e : Ev) : daysL (l ++ [e]) = addA (daysL l) (dayE e) (oneE e) := by unfold daysL; rw [List.foldl_append]; rfl
theorem namesL_snoc (l : List Ev) (e : Ev) : namesL (l ++ [e]) = addAll (keysE e) (oneE e) (namesL l) := by unfold namesL; rw [List.foldl_append]; rfl
theorem snoc_ind {α : Type} {p : List α → Prop} (h0 : p []) (h1 : ∀ l a, p l → p (l ++ [a])) (l : List α) : p l := by
  rw [← List.reverse_reverse l]
  induction l.reverse with
  | nil => exact h0
  | cons a r ih => rw [List.reverse_cons]; exact h1 _ _ ih
theorem daysL_two (l : List Ev) : NoTwo (daysL l) := snoc_ind (p := fun l => NoTwo (daysL l)) NoTwo.nil (fun l e h => by rw [daysL_snoc]; exact addA_two h _ _) l
theorem namesL_two (l : List Ev) : NoTwo (namesL l) := snoc_ind (p := fun l => NoTwo (namesL l)) NoTwo.nil (fun l e h => by rw [namesL_snoc]; exact addAll_two _ _ h) l
/-- An event that names nothing twice. -/
def Apart (e : Ev) : Prop := e.groups.Nodup ∧ e.sites.Nodup
theorem keysE_nodup {e : Ev} (h : Apart e) : (keysE e).Nodup := by
  have hi : ∀ (n : Int) (l : List (List UInt8)), l.Nodup → (l.map fun g => ((dayE e, n, g) : Ky)).Nodup := fun n l hl =>
    (List.nodup_iff_pairwise_ne.2 (List.pairwise_map.2 (hl.imp fun {a b} h e => h (by injection e with _ e; injection e))))
  unfold keysE
  refine List.nodup_append.2 ⟨List.nodup_append.2 ⟨hi 1 _ h.1, hi 2 _ h.2, fun a ha b hb => ?_⟩, by simp, fun a ha b hb => ?_⟩
  · obtain ⟨x, _, rfl⟩ := List.mem_map.1 ha
    obtain ⟨y, _, rfl⟩ := List.mem_map.1 hb
    intro e; injection e with _ e; injection e with e; exact absurd e (by decide)
  · obtain rfl := List.mem_singleton.1 hb
    intro e
    rcases List.mem_append.1 ha with h | h <;> obtain ⟨x, _, rfl⟩ := List.mem_map.1 h <;> (injection e with _ e; injection e with e; exact absurd e (by decide))
theorem mem_keysE (e : Ev) (d k : Int) (n : List UInt8) : (d, k, n) ∈ keysE e ↔ d = dayE e ∧ hasE e k n = true := by
  unfold keysE hasE ofKind
  simp only [List.mem_append, List.mem_map, List.mem_singleton, Prod.mk.injEq, Bool.and_eq_true, decide_eq_true_eq]
  constructor
  · rintro ((⟨x, hx, rfl, rfl, rfl⟩ | ⟨x, hx, rfl, rfl, rfl⟩) | ⟨rfl, rfl, rfl⟩)
    · exact ⟨rfl, by omega, by rw [if_neg (by omega), if_neg (by omega)]; exact hx⟩
    · exact ⟨rfl, by omega, by rw [if_neg (by omega), if_pos rfl]; exact hx⟩
    · exact ⟨rfl, by omega, by simp⟩
  · rintro ⟨rfl, ⟨h1, h2⟩, h⟩
    by_cases e3 : k = 3
    · subst e3; simp at h; exact .inr ⟨rfl, rfl, h⟩
    · by_cases e2 : k = 2
      · subst e2; simp at h; exact .inl (.inr ⟨n, h, rfl, rfl, rfl⟩)
      · rw [if_neg e3, if_neg e2] at h
        exact .inl (.inl ⟨n, h, rfl, by omega, rfl⟩)
/-- The key that an event has among those with a kind, a name and days from a to b: at most one. -/
theorem keys_pick {e : Ev} (h : Apart e) (k : Int) (n : List UInt8) (a b : Int) :
    (keysE e).filter (fun x => decide (x.2.1 = k) && decide (x.2.2 = n) && decide (a ≤ x.1) && decide (x.1 ≤ b)) = if hasE e k n && decide (a ≤ dayE e) && decide (dayE e ≤ b) then [(dayE e, k, n)] else [] := by
  have hn := (keysE_nodup h).filter (fun x => decide (x.2.1 = k) && decide (x.2.2 = n) && decide (a ≤ x.1) && decide (x.1 ≤ b))
  have hm : ∀ x, x ∈ (keysE e).filter (fun x => decide (x.2.1 = k) && decide (x.2.2 = n) && decide (a ≤ x.1) && decide (x.1 ≤ b)) ↔ x = (dayE e, k, n) ∧ (hasE e k n && decide (a ≤ dayE e) && decide (dayE e ≤ b)) = true := by
    rintro ⟨x1, x2, x3⟩
    rw [List.mem_filter, mem_keysE]
    simp only [Bool.and_eq_true, decide_eq_true_eq, Prod.mk.injEq]
    constructor
    · rintro ⟨⟨rfl, h1⟩, ⟨⟨rfl, rfl⟩, h2⟩, h3⟩; exact ⟨⟨rfl, rfl, rfl⟩, ⟨h1, h2⟩, h3⟩
    · rintro ⟨⟨rfl, rfl, rfl⟩, ⟨h1, h2⟩, h3⟩; exact ⟨⟨rfl, h1⟩, ⟨⟨rfl, rfl⟩, h2⟩, h3⟩
  generalize (keysE e).filter _ = l at hn hm
  split
  · rename_i hc
    cases l with
    | nil => have := (hm _).2 ⟨rfl, hc⟩; simp at this
    | cons x r =>
      obtain ⟨rfl, _⟩ := (hm x).1 (by simp)
      cases r with
      | nil => rfl
      | cons y r =>
        obtain ⟨rfl, _⟩ := (hm y).1 (by simp)
        simp at hn
  · rename_i hc
    cases l with
    | nil => rfl
    | cons x r => exact absurd ((hm x).1 (by simp)).2 hc
/-- **The count of a name from a day to a day.** -/
theorem of_names {l : List Ev} (h : ∀ e ∈ l, Apart e) (k : Int) (n : List UInt8) (a b : Int) :
    sumP (fun x : Ky => decide (x.2.1 = k) && decide (x.2.2 = n) && decide (a ≤ x.1) && decide (x.1 ≤ b)) (namesL l) = sumE (l.filter fun e => hasE e k n && decide (a ≤ dayE e) && decide (dayE e ≤ b)) := by
  revert h
  refine snoc_ind (p := fun l => (∀ e ∈ l, Apart e) → sumP (fun x : Ky => decide (x.2.1 = k) && decide (x.2.2 = n) && decide (a ≤ x.1) && decide (x.1 ≤ b)) (namesL l) = sumE (l.filter fun e => hasE e k n && decide (a ≤ dayE e) && decide (dayE e ≤ b))) (fun _ => rfl) (fun l e ih h => ?_) l
  rw [namesL_snoc, sumP_addAll _ _ _ (namesL_two l), ih fun x hx => h x (by simp [hx]), keys_pick (h e (by simp)), List.filter_append]
  unfold sumE
  rw [List.map_append, sumC_append]
  congr 1
  rw [List.filter_cons]
  split <;> simp [sumC_cons, sumC_nil, oneE]
/-- The count of all articles from a day to a day. -/
theorem of_days (l : List Ev) (p : Int → Bool) : sumP p (daysL l) = sumE (l.filter fun e => p (dayE e)) := by
  refine snoc_ind (p := fun l => sumP p (daysL l) = sumE (l.filter fun e => p (dayE e))) rfl (fun l e ih => ?_) l
  rw [daysL_snoc, sumP_add _ (daysL_two l), ih, List.filter_append]
  unfold sumE
  rw [List.map_append, sumC_append]
  congr 1
  rw [List.filter_cons]
  split <;> simp [sumC_cons, sumC_nil, plus_zero]
theorem sumP_true {κ : Type} (L : List (κ × C)) : sumP (fun _ => true) L = sumC (L.map (·.2)) := by unfold sumP; rw [List.filter_eq_self.2 (by simp)]
theorem total_days (l : List Ev) : sumC ((daysL l).map (·.2)) = sumE l := by
  rw [← sumP_true, of_days, List.filter_eq_self.2 (by simp)]
theorem sumE_fst (l : List Ev) : (sumE l).1 = l.length := by
  unfold sumE
  induction l with
  | nil => rfl
  | cons e r ih => rw [List.map_cons, sumC_cons]; simp only [plus, oneE, List.length_cons]; omega
theorem getA_days (l : List Ev) (d : Int) : getA (daysL l) d = if l.any (fun e => decide (dayE e = d)) then some (sumE (l.filter fun e => decide (dayE e = d))) else none := by
  refine snoc_ind (p := fun l => getA (daysL l) d = if l.any (fun e => decide (dayE e = d)) then some (sumE (l.filter fun e => decide (dayE e = d))) else none) (by simp [daysL, getA]) (fun l e ih => ?_) l
  rw [daysL_snoc, getA_add (daysL_two l), List.any_append, List.filter_append, List.any_cons, List.any_nil, Bool.or_false]
  by_cases he : dayE e = d
  · subst he
    rw [if_pos rfl, decide_eq_true rfl, Bool.or_true, if_pos rfl, ih]
    unfold sumE
    rw [List.map_append, sumC_append, List.filter_cons, if_pos (decide_eq_true rfl), List.filter_nil, List.map_cons, List.map_nil, sumC_cons, sumC_nil, plus_zero]
    split
    · rfl
    · rename_i hn
      have : l.filter (fun x => decide (dayE x = dayE e)) = [] := List.filter_eq_nil_iff.2 fun x hx hd => hn (List.any_eq_true.2 ⟨x, hx, hd⟩)
      rw [this]; rfl
  · rw [if_neg fun h => he h.symm, ih, decide_eq_false he, Bool.or_false, List.filter_cons_of_neg (l := []) (by rw [decide_eq_false he]; exact Bool.false_ne_true), List.filter_nil, List.append_nil]
theorem getA_names {l : List Ev} (h : ∀ e ∈ l, Apart e) (x : Ky) : getA (namesL l) x = if l.any (fun e => decide (x ∈ keysE e)) then some (sumE (l.filter fun e => decide (x ∈ keysE e))) else none := by
  revert h
  refine snoc_ind (p := fun l => (∀ e ∈ l, Apart e) → getA (namesL l) x = if l.any (fun e => decide (x ∈ keysE e)) then some (sumE (l.filter fun e => decide (x ∈ keysE e))) else none) (fun _ => by simp [namesL, getA]) (fun l e ih h => ?_) l
  rw [namesL_snoc, getA_addAll _ _ (keysE_nodup (h e (by simp))) (namesL_two l), List.any_append, List.filter_append, List.any_cons, List.any_nil, Bool.or_false, ih fun x hx => h x (by simp [hx])]
  by_cases he : x ∈ keysE e
  · rw [if_pos he, decide_eq_true he, Bool.or_true, if_pos rfl]
    unfold sumE
    rw [List.map_append, sumC_append, List.filter_cons, if_pos (decide_eq_true he), List.filter_nil, List.map_cons, List.map_nil, sumC_cons, sumC_nil, plus_zero]
    split
    · rfl
    · rename_i hn
      have : l.filter (fun y => decide (x ∈ keysE y)) = [] := List.filter_eq_nil_iff.2 fun y hy hd => hn (List.any_eq_true.2 ⟨y, hy, hd⟩)
      rw [this]; rfl
  · rw [if_neg he, decide_eq_false he, Bool.or_false, List.filter_cons_of_neg (l := []) (by rw [decide_eq_false he]; exact Bool.false_ne_true), List.filter_nil, List.append_nil]
end Go.Sr

namespace Go.Sr
open Go.Proofs.YthgefcoaaommkaaGreatDoor Go.Gn

/-! ### orders -/
def icmp (a b : Int) : Int := if a < b then -1 else if b < a then 1 else 0
theorem icmp_lt (a b : Int) : icmp a b < 0 ↔ a < b := by unfold icmp; split <;> (try split) <;> omega
theorem icmp_lin : Lin icmp where
  zero a b := by unfold icmp; split <;> (try split) <;> omega
  anti a b := by unfold icmp; split <;> (try split) <;> (try split) <;> omega
  trans a b d := by unfold icmp; split <;> (try split) <;> (try split) <;> (try split) <;> (try split) <;> (try split) <;> omega
  lo a b := by unfold icmp; split <;> (try split) <;> omega
  hi a b := by unfold icmp; split <;> (try split) <;> omega
def or2 (a b : Int) : Int := if a ≠ 0 then a else b
def lex2 {α β : Type} (c : α → α → Int) (d : β → β → Int) (x y : α × β) : Int := or2 (c x.1 y.1) (d x.2 y.2)
theorem lex2_lin {α β : Type} {c : α → α → Int} {d : β → β → Int} (hc : Lin c) (hd : Lin d) : Lin (lex2 c d) where
  zero a b := by
    unfold lex2 or2
    have h1 := hc.zero a.1 b.1
    have h2 := hd.zero a.2 b.2
    rw [Prod.ext_iff]
    split
    · rename_i h; exact ⟨fun h' => absurd h' h, fun h' => absurd (h1.2 h'.1) h⟩
    · rename_i h
      have h := Classical.byContradiction h
      exact ⟨fun h' => ⟨h1.1 h, h2.1 h'⟩, fun h' => h2.2 h'.2⟩
  anti a b := by
    unfold lex2 or2
    have h1 := hc.anti a.1 b.1
    have h2 := hd.anti a.2 b.2
    split <;> split <;> omega
  trans a b e := by
    unfold lex2 or2
    intro x y
    by_cases h1 : c a.1 b.1 = 0
    · rw [if_neg (by simp [h1])] at x
      have e1 := (hc.zero _ _).1 h1
      rw [e1]
      by_cases h2 : c b.1 e.1 = 0
      · rw [if_neg (by simp [h2])] at y ⊢
        exact hd.trans _ _ _ x y
      · rw [if_pos h2] at y ⊢; exact y
    · rw [if_pos h1] at x
      by_cases h2 : c b.1 e.1 = 0
      · rw [← (hc.zero _ _).1 h2, if_pos h1]; exact x
      · rw [if_pos h2] at y
        have : c a.1 e.1 < 0 := hc.lt_le (b := b.1) (by omega) y
        rw [if_pos (by omega)]; omega
  lo a b := by unfold lex2 or2; have := hc.lo a.1 b.1; have := hd.lo a.2 b.2; split <;> omega
  hi a b := by unfold lex2 or2; have := hc.hi a.1 b.1; have := hd.hi a.2 b.2; split <;> omega
theorem rev_lin {α : Type} {c : α → α → Int} (hc : Lin c) : Lin (fun a b => c b a) where
  zero a b := by rw [hc.zero]; exact eq_comm
  anti a b := hc.anti b a
  trans a b d h1 h2 := hc.trans d b a h2 h1
  lo a b := hc.lo b a
  hi a b := hc.hi b a
theorem pull_lin {α β : Type} {c : β → β → Int} (hc : Lin c) (f : α → β) (hf : ∀ a b, f a = f b → a = b) : Lin (fun a b => c (f a) (f b)) where
  zero a b := by rw [hc.zero]; exact ⟨hf a b, fun h => by rw [h]⟩
  anti a b := hc.anti _ _
  trans a b d := hc.trans _ _ _
  lo a b := hc.lo _ _
  hi a b := hc.hi _ _
theorem ins_mem {α : Type} {c : α → α → Int} (h : Lin c) (s : α) : ∀ {l : List α}, Inc c l → (l[insAt c s l]? = some s ↔ s ∈ l)
  | [], _ => by simp
  | x :: r, hi => by
    have hi' := List.pairwise_cons.1 hi
    have ih := ins_mem h s hi'.2
    unfold insAt
    by_cases hx : c x s < 0
    · rw [if_pos hx, List.getElem?_cons_succ, ih, List.mem_cons]
      refine ⟨.inr, fun h' => h'.resolve_left fun e => ?_⟩
      rw [e, h.self] at hx; omega
    · rw [if_neg hx, List.getElem?_cons_zero, List.mem_cons, Option.some.injEq]
      refine ⟨fun e => .inl e.symm, fun h' => ?_⟩
      rcases h' with e | h'
      · exact e.symm
      · exact absurd (hi'.1 s h') hx
theorem ins_mem_at {α : Type} [DecidableEq α] {c : α → α → Int} (h : Lin c) (s : α) {l : List α} (hi : Inc c l) : ins c s l = if s ∈ l then l else l.take (insAt c s l) ++ s :: l.drop (insAt c s l) := by
  rw [ins_at]
  by_cases hm : s ∈ l
  · rw [if_pos hm, if_pos ((ins_mem h s hi).2 hm)]
  · rw [if_neg hm, if_neg fun e => hm ((ins_mem h s hi).1 e)]
theorem lt_insAt {α : Type} {c : α → α → Int} (h : Lin c) (s : α) {l : List α} (hi : Inc c l) {k : Nat} {x : α} (hk : l[k]? = some x) : c x s < 0 ↔ k < insAt c s l := by
  constructor
  · intro hx
    refine Classical.byContradiction fun hc => ?_
    have hl := (List.getElem?_eq_some_iff.1 hk).1
    have hlt : insAt c s l < l.length := by omega
    have h2 := insAt_stop c s l _ (List.getElem?_eq_getElem hlt)
    by_cases e : insAt c s l = k
    · have : l[insAt c s l] = x := by
        obtain ⟨h3, h4⟩ := List.getElem?_eq_some_iff.1 hk
        simp only [e, h4]
      rw [this] at h2; exact h2 hx
    · have h5 := List.pairwise_iff_getElem.1 hi _ _ hlt hl (by omega)
      rw [(List.getElem?_eq_some_iff.1 hk).2] at h5
      have := h.lt_le h5 (by omega : c x s ≤ 0)
      exact h2 this
  · intro hx; exact insAt_lt c s l k x hx hk
/-- A sorted list without repetitions is the one that is made by putting in its members. -/
theorem sorted_insAll {α : Type} [DecidableEq α] {c : α → α → Int} (h : Lin c) {zs l : List α} (hs : zs.Pairwise fun a b => c a b ≤ 0) (hn : zs.Nodup) (hm : ∀ x, x ∈ zs ↔ x ∈ l) : zs = insAll c l := by
  refine inc_uniq h _ _ ?_ (insAll_inc h l) fun x => by rw [hm, mem_insAll h]
  refine List.Pairwise.imp₂ (R := fun a b => c a b ≤ 0) (S := fun a b => a ≠ b) (fun a b h1 h2 => ?_) hs hn
  have : c a b ≠ 0 := fun e => h2 ((h.zero a b).1 e)
  omega
theorem insAll_perm {α : Type} [DecidableEq α] {c : α → α → Int} (h : Lin c) {l m : List α} (hm : ∀ x, x ∈ l ↔ x ∈ m) : insAll c l = insAll c m :=
  inc_uniq h _ _ (insAll_inc h l) (insAll_inc h m) fun x => by rw [mem_insAll h, mem_insAll h, hm]

/-! ### days, names, the most frequent names -/
/-- The days with articles, in order. -/
def daysM (l : List Ev) : List Int := insAll icmp (l.map dayE)
theorem daysM_snoc (l : List Ev) (e : Ev) : daysM (l ++ [e]) = ins icmp (dayE e) (daysM l) := by unfold daysM; rw [List.map_append, List.map_singleton, insAll_snoc]
theorem daysM_inc (l : List Ev) : Inc icmp (daysM l) := insAll_inc icmp_lin _
theorem mem_daysM (l : List Ev) (d : Int) : d ∈ daysM l ↔ ∃ e ∈ l, dayE e = d := by unfold daysM; rw [mem_insAll icmp_lin, List.mem_map]
theorem keys_daysL (l : List Ev) (d : Int) : d ∈ (daysL l).map (·.1) ↔ d ∈ daysM l := by
  have h := getA_mem (L := daysL l) d
  rw [getA_days] at h
  rw [mem_daysM]
  by_cases he : (l.any fun e => decide (dayE e = d)) = true
  · rw [if_pos he] at h
    simp only [Option.isSome_some] at h
    obtain ⟨e, he1, he2⟩ := List.any_eq_true.1 he
    exact ⟨fun _ => ⟨e, he1, of_decide_eq_true he2⟩, fun _ => of_decide_eq_true h.symm⟩
  · rw [if_neg he] at h
    simp only [Option.isSome_none] at h
    exact ⟨fun h' => absurd h' (of_decide_eq_false h.symm), fun ⟨e, h1, h2⟩ => absurd (List.any_eq_true.2 ⟨e, h1, decide_eq_true h2⟩) he⟩
/-- The names of a kind from a day to a day, in order. -/
def namesK (l : List Ev) (k a b : Int) : List (List UInt8) := (l.filter fun e => decide (a ≤ dayE e) && decide (dayE e ≤ b)).flatMap fun e => ofKind e k
def namesM (l : List Ev) (k a b : Int) : List (List UInt8) := insAll scmp (namesK l k a b)
theorem namesK_snoc (l : List Ev) (e : Ev) (k a b : Int) : namesK (l ++ [e]) k a b = namesK l k a b ++ if (decide (a ≤ dayE e) && decide (dayE e ≤ b)) = true then ofKind e k else [] := by
  unfold namesK
  rw [List.filter_append, List.flatMap_append, List.filter_cons, List.filter_nil]
  split <;> simp
theorem mem_namesM (l : List Ev) (k a b : Int) (n : List UInt8) : n ∈ namesM l k a b ↔ ∃ e ∈ l, (a ≤ dayE e ∧ dayE e ≤ b) ∧ n ∈ ofKind e k := by
  unfold namesM
  rw [mem_insAll scmp_lin]
  unfold namesK
  simp only [List.mem_flatMap, List.mem_filter, Bool.and_eq_true, decide_eq_true_eq]
  constructor
  · rintro ⟨e, ⟨h1, h2⟩, h3⟩; exact ⟨e, h1, h2, h3⟩
  · rintro ⟨e, h1, h2, h3⟩; exact ⟨e, ⟨h1, h2⟩, h3⟩
/-- The count of a name of a kind from a day to a day. -/
def cntM (l : List Ev) (k : Int) (n : List UInt8) (a b : Int) : C := sumE (l.filter fun e => hasE e k n && decide (a ≤ dayE e) && decide (dayE e ≤ b))
abbrev Ent1 := List UInt8 × C
def ecmp (x y : Ent1) : Int := or2 (icmp y.2.1 x.2.1) (or2 (icmp y.2.2 x.2.2) (scmp x.1 y.1))
theorem ecmp_lin : Lin ecmp := pull_lin (c := lex2 (fun a b => icmp b a) (lex2 (fun a b => icmp b a) scmp)) (lex2_lin (rev_lin icmp_lin) (lex2_lin (rev_lin icmp_lin) scmp_lin)) (fun x : Ent1 => (x.2.1, x.2.2, x.1)) fun a b h => by
  obtain ⟨a1, a2, a3⟩ := a; obtain ⟨b1, b2, b3⟩ := b
  simp only [Prod.mk.injEq] at h ⊢
  exact ⟨h.2.2, h.1, h.2.1⟩
/-- All names of a kind with their counts, the most frequent first. -/
def topM (l : List Ev) (k a b : Int) : List Ent1 := insAll ecmp ((namesM l k a b).map fun n => (n, cntM l k n a b))
/-- The key of a name within a day, as the text orders them. -/
def kcmp : Int × List UInt8 → Int × List UInt8 → Int := lex2 icmp scmp
theorem kcmp_lin : Lin kcmp := lex2_lin icmp_lin scmp_lin

/-! ### sizes -/
def blen (n : Int) : Nat := if n ≤ 0 then 0 else n.toNat.log2 + 1
def upAt (z : List Int) (k : Nat) : List Int := z.set k (z.getD k 0 + 1)
def sizesL (l : List Ev) : List Int := l.foldl (fun z e => upAt z (blen e.bytes)) (List.replicate 18 0)
theorem sizesL_snoc (l : List Ev) (e : Ev) : sizesL (l ++ [e]) = upAt (sizesL l) (blen e.bytes) := by unfold sizesL; rw [List.foldl_append]; rfl
theorem upAt_length (z : List Int) (k : Nat) : (upAt z k).length = z.length := by simp [upAt]
theorem sizesL_length (l : List Ev) : (sizesL l).length = 18 := snoc_ind (p := fun l => (sizesL l).length = 18) (by simp [sizesL]) (fun l e ih => by rw [sizesL_snoc, upAt_length, ih]) l
theorem blen_le {n : Int} (h0 : 0 ≤ n) (h : n ≤ 65536) : blen n ≤ 17 := by
  unfold blen
  split
  · omega
  · have : n.toNat.log2 ≤ Nat.log2 65536 := by
      rw [Nat.le_log2 (by decide)]
      refine Nat.le_trans (Nat.log2_self_le (by omega)) (by omega)
    have e : Nat.log2 65536 = 16 := by decide +kernel
    omega
theorem shr_pos {n : Int} (h0 : 0 < n) (k : Nat) : 0 < n / 2 ^ k ↔ k < blen n := by
  unfold blen
  rw [if_neg (by omega)]
  have e1 : n / 2 ^ k = ((n.toNat / 2 ^ k : Nat) : Int) := by
    rw [Int.natCast_ediv, Int.toNat_of_nonneg (by omega)]; simp
  rw [e1]
  have e2 : 0 < n.toNat / 2 ^ k ↔ 2 ^ k ≤ n.toNat := by
    rw [Nat.div_pos_iff]
    exact ⟨fun h => h.2, fun h => ⟨Nat.pos_of_ne_zero (by simp), h⟩⟩
  have e3 := Nat.le_log2 (n := n.toNat) (k := k) (by omega)
  omega
theorem sum_upAt : ∀ (z : List Int) (k : Nat), k < z.length → (upAt z k).foldl (· + ·) 0 = z.foldl (· + ·) 0 + 1 := by
  have hf : ∀ (z : List Int) (a : Int), z.foldl (· + ·) a = a + z.foldl (· + ·) 0 := by
    intro z
    induction z with
    | nil => intro a; simp
    | cons x r ih => intro a; rw [List.foldl_cons, ih, List.foldl_cons, ih (0 + x)]; omega
  intro z
  induction z with
  | nil => intro k h; simp at h
  | cons x r ih =>
    intro k h
    cases k with
    | zero => simp only [upAt, List.set_cons_zero, List.getD_cons_zero, List.foldl_cons]; rw [hf, hf r (0 + x)]; omega
    | succ k =>
      have := ih k (by simpa using h)
      simp only [upAt, List.set_cons_succ, List.getD_cons_succ, List.foldl_cons] at this ⊢
      rw [hf, hf r (0 + x), this]; omega
theorem sum_sizes {l : List Ev} (h : ∀ e ∈ l, 0 ≤ e.bytes ∧ e.bytes ≤ 65536) : (sizesL l).foldl (· + ·) 0 = (l.length : Int) := by
  revert h
  refine snoc_ind (p := fun l => (∀ e ∈ l, 0 ≤ e.bytes ∧ e.bytes ≤ 65536) → (sizesL l).foldl (· + ·) 0 = (l.length : Int)) (fun _ => by decide +kernel) (fun l e ih h => ?_) l
  have he := h e (by simp)
  rw [sizesL_snoc, sum_upAt _ _ (by rw [sizesL_length]; have := blen_le he.1 he.2; omega), ih fun x hx => h x (by simp [hx])]
  simp
end Go.Sr

namespace Go.Sr
open Go.Lib Go.Gn Go.Maps Go.Proofs.YthgefcoaaommkaaGreatDoor

def dg (n : Int) : List UInt8 := decDigits n.toNat
def wordT (k : Int) : List UInt8 := if k = 0 then [100, 97, 121] else if k = 1 then [103, 114, 111, 117, 112] else if k = 2 then [115, 105, 116, 101] else if k = 3 then [97, 117, 116, 104, 111, 114] else [115, 105, 122, 101]
/-- A line: words, a count. -/
def lineC (s : List UInt8) (c : C) : List UInt8 := s ++ 32 :: dg c.1 ++ 32 :: dg c.2 ++ [10]
def lineN (k : Int) (n : List UInt8) (c : C) : List UInt8 := lineC (wordT k ++ 32 :: n) c
def sizeLn (k : Nat) (n : Int) : List UInt8 := if n = 0 then [] else wordT 4 ++ 32 :: dg k ++ 32 :: dg n ++ [10]
def sizesT (zs : List Int) : List UInt8 := (List.range zs.length).flatMap fun k => sizeLn k (zs.getD k 0)
abbrev Nk := Int × List UInt8
/-- The names of a day, in the text's order. -/
def dayNames (ns : List (Ky × C)) (d : Int) : List Nk := insAll kcmp ((ns.filter fun q => decide (q.1.1 = d)).map (·.1.2))
def dayText (ds : List (Int × C)) (ns : List (Ky × C)) (d : Int) : List UInt8 :=
  lineN 0 (dg d) ((getA ds d).getD (0, 0)) ++ (dayNames ns d).flatMap fun q => lineN q.1 q.2 ((getA ns (d, q)).getD (0, 0))
/-- What the program writes. -/
def textP (ds : List (Int × C)) (ns : List (Ky × C)) (zs : List Int) : List UInt8 := (insAll icmp (ds.map (·.1))).flatMap (dayText ds ns) ++ sizesT zs
/-- What the model writes. -/
def kindM (l : List Ev) (d k : Int) : List UInt8 := (namesM l k d d).flatMap fun n => lineN k n (cntM l k n d d)
def dayM (l : List Ev) (before d : Int) : List UInt8 :=
  lineN 0 (dg d) (sumE (l.filter fun e => decide (dayE e = d))) ++ if before ≤ d then [1, 2, 3].flatMap (kindM l d) else []
def textM (l : List Ev) (before : Int) : List UInt8 := (daysM l).flatMap (dayM l before) ++ sizesT (sizesL l)
/-- The names that Forget leaves. -/
def fromDay (b : Int) (ns : List (Ky × C)) : List (Ky × C) := ns.filter fun q => decide (b ≤ q.1.1)

theorem flatMap_same {α β : Type} {f g : α → List β} : ∀ {l : List α}, (∀ x ∈ l, f x = g x) → l.flatMap f = l.flatMap g
  | [], _ => rfl
  | a :: l, h => by
    rw [List.flatMap_cons, List.flatMap_cons, h a (by simp), flatMap_same fun x hx => h x (by simp [hx])]
theorem kinds_inc (l : List Ev) (d : Int) : Inc kcmp ([1, 2, 3].flatMap fun k => (namesM l k d d).map fun n => ((k : Int), n)) := by
  have one : ∀ k : Int, Inc kcmp ((namesM l k d d).map fun n => (k, n)) := fun k => by
    unfold Inc
    rw [List.pairwise_map]
    refine (insAll_inc scmp_lin _).imp fun {a b} h => ?_
    unfold kcmp lex2 or2
    have : icmp k k = 0 := by unfold icmp; simp
    simp [this, h]
  have two : ∀ (a b : Int), a < b → ∀ x ∈ (namesM l a d d).map fun n => (a, n), ∀ y ∈ (namesM l b d d).map fun n => (b, n), kcmp x y < 0 := fun a b hab x hx y hy => by
    obtain ⟨x, _, rfl⟩ := List.mem_map.1 hx
    obtain ⟨y, _, rfl⟩ := List.mem_map.1 hy
    unfold kcmp lex2 or2
    have : icmp a b = -1 := by unfold icmp; simp [hab]
    simp [this]
  unfold Inc at *
  simp only [List.flatMap_cons, List.flatMap_nil, List.append_nil]
  rw [List.pairwise_append, List.pairwise_append]
  refine ⟨one 1, ⟨one 2, one 3, two 2 3 (by omega)⟩, fun x hx y hy => ?_⟩
  rcases List.mem_append.1 hy with hy | hy
  · exact two 1 2 (by omega) x hx y hy
  · exact two 1 3 (by omega) x hx y hy
theorem mem_keysL {l : List Ev} (h : ∀ e ∈ l, Apart e) (x : Ky) : x ∈ (namesL l).map (·.1) ↔ ∃ e ∈ l, x ∈ keysE e := by
  have h1 := getA_mem (L := namesL l) x
  rw [getA_names h] at h1
  constructor
  · intro hx
    simp only [hx, decide_true] at h1
    split at h1
    · rename_i h2
      simpa using h2
    · simp at h1
  · rintro ⟨e, he, hx⟩
    rw [if_pos (by simpa using ⟨e, he, hx⟩)] at h1
    simpa using h1.symm
theorem dayNames_eq {l : List Ev} (h : ∀ e ∈ l, Apart e) (d : Int) : dayNames (namesL l) d = [1, 2, 3].flatMap fun k => (namesM l k d d).map fun n => ((k : Int), n) := by
  unfold dayNames
  refine inc_uniq kcmp_lin _ _ (insAll_inc kcmp_lin _) (kinds_inc l d) fun x => ?_
  obtain ⟨k, n⟩ := x
  rw [mem_insAll kcmp_lin]
  have e1 : (k, n) ∈ ((namesL l).filter fun q => decide (q.1.1 = d)).map (·.1.2) ↔ (d, k, n) ∈ (namesL l).map (·.1) := by
    simp only [List.mem_map, List.mem_filter, decide_eq_true_eq]
    constructor
    · rintro ⟨⟨⟨a, b⟩, c⟩, ⟨h1, h2⟩, h3⟩
      simp only at h2 h3
      subst h2; subst h3
      exact ⟨_, h1, rfl⟩
    · rintro ⟨⟨⟨a, b⟩, c⟩, h1, h2⟩
      simp only [Prod.mk.injEq] at h2
      obtain ⟨rfl, rfl⟩ := h2
      exact ⟨_, ⟨h1, rfl⟩, rfl⟩
  rw [e1, mem_keysL h]
  simp only [mem_keysE, List.mem_flatMap, List.mem_map, Prod.mk.injEq, mem_namesM]
  constructor
  · rintro ⟨e, he, rfl, hk⟩
    unfold hasE at hk
    simp only [Bool.and_eq_true, decide_eq_true_eq] at hk
    have hk1 : k = 1 ∨ k = 2 ∨ k = 3 := by have := hk.1; omega
    exact ⟨k, by simpa using hk1, n, ⟨e, he, ⟨by omega, by omega⟩, hk.2⟩, rfl, rfl⟩
  · rintro ⟨k', hk, n', ⟨e, he, ⟨h1, h2⟩, h3⟩, rfl, rfl⟩
    refine ⟨e, he, by omega, ?_⟩
    unfold hasE
    simp only [List.mem_cons, List.not_mem_nil, or_false] at hk
    have hk : 1 ≤ k' ∧ k' ≤ 3 := by rcases hk with rfl | rfl | rfl <;> decide
    simp only [Bool.and_eq_true, decide_eq_true_eq]
    exact ⟨hk, h3⟩
theorem cnt_names {l : List Ev} (h : ∀ e ∈ l, Apart e) {d k : Int} {n : List UInt8} (hn : n ∈ namesM l k d d) (hk : 1 ≤ k ∧ k ≤ 3) : (getA (namesL l) (d, k, n)).getD (0, 0) = cntM l k n d d := by
  rw [getA_names h]
  obtain ⟨e, he, ⟨h1, h2⟩, h3⟩ := (mem_namesM ..).1 hn
  rw [if_pos]
  · simp only [Option.getD_some]
    unfold cntM
    congr 1
    refine List.filter_congr fun e _ => ?_
    rw [Bool.eq_iff_iff]
    simp only [mem_keysE, decide_eq_true_eq, Bool.and_eq_true]
    exact ⟨fun ⟨h1, h2⟩ => ⟨⟨h2, by omega⟩, by omega⟩, fun ⟨⟨h1, h2⟩, h3⟩ => ⟨by omega, h1⟩⟩
  · simp only [List.any_eq_true, decide_eq_true_eq, mem_keysE]
    refine ⟨e, he, by omega, ?_⟩
    unfold hasE
    simp only [Bool.and_eq_true, decide_eq_true_eq]
    exact ⟨hk, h3⟩
theorem getA_filter {κ β : Type} [DecidableEq κ] (p : κ → Bool) : ∀ (L : List (κ × β)) (x : κ), p x = true → getA (L.filter fun q => p q.1) x = getA L x
  | [], _, _ => rfl
  | a :: L, x, hx => by
    have ih := getA_filter p L x hx
    unfold getA at ih ⊢
    by_cases h : p a.1 = true
    · rw [List.filter_cons_of_pos (by exact h)]
      simp only [List.find?_cons]
      split
      · rfl
      · exact ih
    · rw [List.filter_cons_of_neg (by exact h)]
      simp only [List.find?_cons]
      split
      · rename_i h2
        rw [of_decide_eq_true h2] at h
        exact absurd hx h
      · exact ih
theorem text_eq {l : List Ev} (h : ∀ e ∈ l, Apart e) (before : Int) : textP (daysL l) (fromDay before (namesL l)) (sizesL l) = textM l before := by
  have e1 : insAll icmp ((daysL l).map (·.1)) = daysM l := insAll_perm icmp_lin fun x => by rw [keys_daysL, mem_daysM, List.mem_map]
  unfold textP textM
  rw [e1]
  congr 1
  refine flatMap_same fun d hd => ?_
  obtain ⟨e, he, hd⟩ := (mem_daysM ..).1 hd
  unfold dayText dayM
  have e2 : (getA (daysL l) d).getD (0, 0) = sumE (l.filter fun e => decide (dayE e = d)) := by
    rw [getA_days, if_pos (by simpa using ⟨e, he, hd⟩)]; rfl
  rw [e2]
  congr 1
  have e3 : dayNames (fromDay before (namesL l)) d = if before ≤ d then dayNames (namesL l) d else [] := by
    unfold dayNames fromDay
    rw [List.filter_filter]
    split
    · rename_i hb
      rw [List.filter_congr (q := fun q => decide (q.1.1 = d)) fun q _ => ?_]
      rw [Bool.eq_iff_iff]
      simp only [Bool.and_eq_true, decide_eq_true_eq]
      exact ⟨fun h => h.1, fun h => ⟨h, by omega⟩⟩
    · rename_i hb
      rw [List.filter_eq_nil_iff.2 fun q _ => ?_]
      · rfl
      · simp only [Bool.and_eq_true, decide_eq_true_eq]
        omega
  rw [e3]
  split
  · rename_i hb
    rw [dayNames_eq h, List.flatMap_assoc]
    refine flatMap_same fun k hk => ?_
    have hk : 1 ≤ k ∧ k ≤ 3 := by simp at hk; omega
    unfold kindM
    rw [List.flatMap_map]
    refine flatMap_same fun n hn => ?_
    simp only
    unfold fromDay
    rw [getA_filter (fun x : Ky => decide (before ≤ x.1)) _ _ (by simpa using hb), cnt_names h hn hk]
  · rfl
/-! ### the most frequent names -/
/-- The sums by name that Top gathers from a list of names in any order. -/
def pickT (kind a b : Int) (x : Ky) : Bool := decide (x.2.1 = kind) && decide (a ≤ x.1) && decide (x.1 ≤ b)
def sumsT (kind a b : Int) (L : List (Ky × C)) : List (List UInt8 × C) := L.foldl (fun o q => if pickT kind a b q.1 = true then addA o q.1.2.2 q.2 else o) []
theorem sumsT_snoc (kind a b : Int) (L : List (Ky × C)) (q : Ky × C) : sumsT kind a b (L ++ [q]) = if pickT kind a b q.1 = true then addA (sumsT kind a b L) q.1.2.2 q.2 else sumsT kind a b L := by unfold sumsT; rw [List.foldl_append]; rfl
theorem sumsT_two (kind a b : Int) (L : List (Ky × C)) : NoTwo (sumsT kind a b L) := snoc_ind (p := fun L => NoTwo (sumsT kind a b L)) NoTwo.nil (fun L q h => by
  rw [sumsT_snoc]; split
  · exact addA_two h _ _
  · exact h) L
theorem getA_sumsT (kind a b : Int) (n : List UInt8) (L : List (Ky × C)) : getA (sumsT kind a b L) n = if L.any (fun q => pickT kind a b q.1 && decide (q.1.2.2 = n)) then some (sumP (fun x => pickT kind a b x && decide (x.2.2 = n)) L) else none := by
  refine snoc_ind (p := fun L => getA (sumsT kind a b L) n = if L.any (fun q => pickT kind a b q.1 && decide (q.1.2.2 = n)) then some (sumP (fun x => pickT kind a b x && decide (x.2.2 = n)) L) else none) (by rfl) (fun L q ih => ?_) L
  have hs : sumP (fun x => pickT kind a b x && decide (x.2.2 = n)) (L ++ [q]) = plus (sumP (fun x => pickT kind a b x && decide (x.2.2 = n)) L) (if (pickT kind a b q.1 && decide (q.1.2.2 = n)) = true then q.2 else (0, 0)) := by
    rw [sumP_append, sumP_cons, sumP_nil, plus_zero]
  rw [sumsT_snoc, List.any_append, hs]
  by_cases hp : pickT kind a b q.1 = true
  · rw [if_pos hp, getA_add (sumsT_two ..)]
    by_cases hn : n = q.1.2.2
    · subst hn
      rw [if_pos rfl, ih]
      simp only [hp, List.any_cons, List.any_nil, decide_true, Bool.and_true, Bool.or_false, Bool.or_true, if_true, Option.some.injEq]
      split
      · rfl
      · rename_i h0
        rw [show sumP (fun x => pickT kind a b x && decide (x.2.2 = q.1.2.2)) L = (0, 0) from ?_]
        · rfl
        · unfold sumP
          rw [List.filter_eq_nil_iff.2]
          · rfl
          · intro x hx h1
            exact h0 (List.any_eq_true.2 ⟨x, hx, h1⟩)
    · rw [if_neg hn, ih]
      have : decide (q.1.2.2 = n) = false := decide_eq_false fun e => hn e.symm
      simp only [this, Bool.and_false, List.any_cons, List.any_nil, Bool.or_false, Bool.false_eq_true, if_false, plus_zero]
  · rw [if_neg hp, ih]
    simp only [hp, Bool.false_and, List.any_cons, List.any_nil, Bool.or_false, Bool.false_eq_true, if_false, plus_zero]
theorem mem_sumsT {l : List Ev} (h : ∀ e ∈ l, Apart e) {kind : Int} (hk : 1 ≤ kind ∧ kind ≤ 3) (a b : Int) {L : List (Ky × C)} (hL : L.Perm (namesL l)) (x : List UInt8 × C) : x ∈ sumsT kind a b L ↔ x ∈ (namesM l kind a b).map fun n => (n, cntM l kind n a b) := by
  obtain ⟨n, c⟩ := x
  rw [← getA_iff (sumsT_two ..), getA_sumsT]
  have hm : (L.any fun q => pickT kind a b q.1 && decide (q.1.2.2 = n)) = true ↔ n ∈ namesM l kind a b := by
    rw [mem_namesM, List.any_eq_true]
    constructor
    · rintro ⟨⟨⟨d, k, m⟩, c⟩, hq, hp⟩
      have hq := hL.mem_iff.1 hq
      obtain ⟨e, he, hx⟩ := (mem_keysL h _).1 (List.mem_map.2 ⟨_, hq, rfl⟩)
      rw [mem_keysE] at hx
      obtain ⟨rfl, hx⟩ := hx
      unfold pickT at hp
      simp only [Bool.and_eq_true, decide_eq_true_eq] at hp
      obtain ⟨⟨⟨rfl, h1⟩, h2⟩, rfl⟩ := hp
      unfold hasE at hx
      simp only [Bool.and_eq_true, decide_eq_true_eq] at hx
      exact ⟨e, he, ⟨h1, h2⟩, hx.2⟩
    · rintro ⟨e, he, ⟨h1, h2⟩, h3⟩
      have hx : (dayE e, kind, n) ∈ (namesL l).map (·.1) := (mem_keysL h _).2 ⟨e, he, (mem_keysE ..).2 ⟨rfl, by
        unfold hasE
        simp only [Bool.and_eq_true, decide_eq_true_eq]
        exact ⟨hk, h3⟩⟩⟩
      obtain ⟨q, hq, e1⟩ := List.mem_map.1 hx
      refine ⟨q, hL.mem_iff.2 hq, ?_⟩
      rw [e1]
      unfold pickT
      simp only [Bool.and_eq_true, decide_eq_true_eq]
      simp [h1, h2]
  have hc : sumP (fun x => pickT kind a b x && decide (x.2.2 = n)) L = cntM l kind n a b := by
    rw [sumP_perm _ hL]
    unfold cntM
    rw [← of_names h kind n a b]
    unfold sumP
    congr 2
    refine List.filter_congr fun q _ => ?_
    unfold pickT
    rw [Bool.eq_iff_iff]
    simp only [Bool.and_eq_true, decide_eq_true_eq]
    exact ⟨fun ⟨⟨⟨h1, h2⟩, h3⟩, h4⟩ => ⟨⟨⟨h1, h4⟩, h2⟩, h3⟩, fun ⟨⟨⟨h1, h4⟩, h2⟩, h3⟩ => ⟨⟨⟨h1, h2⟩, h3⟩, h4⟩⟩
  rw [hc]
  simp only [List.mem_map, Prod.mk.injEq]
  constructor
  · intro h1
    split at h1
    · rename_i h2
      exact ⟨n, hm.1 h2, rfl, by simpa using h1⟩
    · simp at h1
  · rintro ⟨m, h1, rfl, rfl⟩
    rw [if_pos (hm.2 h1)]
/-- What the program sorts is what the model inserts. -/
theorem top_eq {l : List Ev} (h : ∀ e ∈ l, Apart e) {kind : Int} (hk : 1 ≤ kind ∧ kind ≤ 3) (a b : Int) {L : List (Ky × C)} (hL : L.Perm (namesL l)) {xs : List Ent1} (hx : xs.Perm (sumsT kind a b L)) (hs : xs.Pairwise fun x y => ecmp x y ≤ 0) : xs = topM l kind a b := by
  unfold topM
  refine sorted_insAll ecmp_lin hs ?_ fun x => ?_
  · refine hx.nodup_iff.2 ?_
    have := sumsT_two kind a b L
    unfold NoTwo at this
    exact (List.pairwise_map.1 this).imp fun {a b} hab e => hab (by rw [e])
  · rw [hx.mem_iff, mem_sumsT h hk a b hL]
end Go.Sr

namespace Go.Nr
open Go.Lib

theorem rev_ind {α : Type} {P : List α → Prop} (h0 : P []) (h1 : ∀ s c, P s → P (s ++ [c])) (l : List α) : P l := by
  have : ∀ n (l : List α), l.length = n → P l := by
    intro n
    induction n with
    | zero => intro l h; rw [List.length_eq_zero_iff.1 h]; exact h0
    | succ n ih =>
      intro l h
      rcases List.eq_nil_or_concat l with rfl | ⟨s, c, rfl⟩
      · exact h0
      · rw [List.concat_eq_append] at *
        exact h1 s c (ih s (by simpa using h))
  exact this _ l rfl
theorem digits_zero : decDigits 0 = [48] := by rw [decDigits_one (by omega)]; rfl
def isDig (c : UInt8) : Bool := decide (48 ≤ c.toNat) && decide (c.toNat ≤ 57)
/-- The number of digits, the first ahead. -/
def val (s : List UInt8) : Nat := s.foldl (fun n c => 10 * n + (c.toNat - 48)) 0
theorem val_snoc (s : List UInt8) (c : UInt8) : val (s ++ [c]) = 10 * val s + (c.toNat - 48) := by simp [val]
theorem val_nil : val [] = 0 := rfl
theorem val_lt : ∀ (s : List UInt8), s.all isDig = true → val s < 10 ^ s.length := by
  intro s
  refine rev_ind (P := fun s => s.all isDig = true → val s < 10 ^ s.length) ?_ ?_ s
  · intro _; simp [val_nil]
  · intro s c ih h
    rw [List.all_append, Bool.and_eq_true] at h
    have h1 := ih h.1
    have h2 : isDig c = true := by simpa using h.2
    unfold isDig at h2
    simp only [Bool.and_eq_true, decide_eq_true_eq] at h2
    rw [val_snoc, List.length_append, List.length_singleton, Nat.pow_succ]
    omega
theorem dig_ofNat {d : Nat} (h : d < 10) : (UInt8.ofNat (48 + d)).toNat = 48 + d := by
  rw [UInt8.toNat_ofNat']; omega
theorem digits_all (n : Nat) : (decDigits n).all isDig = true := by
  induction n using Nat.strongRecOn with
  | ind n ih =>
    unfold decDigits
    split
    · rename_i h
      simp [isDig]; omega
    · rename_i h
      have := dig_ofNat (show n % 10 < 10 by omega)
      rw [List.all_append, ih (n / 10) (by omega)]
      simp [isDig]; omega
theorem digits_val (n : Nat) : val (decDigits n) = n := by
  induction n using Nat.strongRecOn with
  | ind n ih =>
    unfold decDigits
    split
    · rename_i h
      show val ([] ++ [_]) = n
      rw [val_snoc, dig_ofNat h, val_nil]; omega
    · rename_i h
      rw [val_snoc, ih (n / 10) (by omega), dig_ofNat (show n % 10 < 10 by omega)]; omega
theorem digits_ne (n : Nat) : decDigits n ≠ [] := by
  unfold decDigits
  split <;> simp
theorem digits_head {n : Nat} (h : 1 ≤ n) : ∃ c t, decDigits n = c :: t ∧ c ≠ 48 := by
  induction n using Nat.strongRecOn with
  | ind n ih =>
    unfold decDigits
    split
    · rename_i h1
      refine ⟨_, _, rfl, fun e => ?_⟩
      have := congrArg UInt8.toNat e
      rw [dig_ofNat h1] at this
      simp at this; omega
    · rename_i h1
      obtain ⟨c, t, e, hc⟩ := ih (n / 10) (by omega) (by omega)
      rw [e]
      exact ⟨c, t ++ [_], rfl, hc⟩
theorem digits_len (n : Nat) : ∀ k, n < 10 ^ k → 1 ≤ k → (decDigits n).length ≤ k := by
  induction n using Nat.strongRecOn with
  | ind n ih =>
    intro k h hk
    unfold decDigits
    split
    · simpa using hk
    · rename_i h1
      cases k with
      | zero => omega
      | succ k =>
        rw [Nat.pow_succ] at h
        have hk1 : 1 ≤ k := by
          cases k with
          | zero => simp at h; omega
          | succ k => omega
        have := ih (n / 10) (by omega) k (by omega) hk1
        simp; omega
/-- Digits without a leading zero are those of their number. -/
theorem digits_of : ∀ (s : List UInt8), s.all isDig = true → s ≠ [] → (s.head? ≠ some 48 ∨ s.length = 1) → decDigits (val s) = s := by
  intro s
  refine rev_ind (P := fun s => s.all isDig = true → s ≠ [] → (s.head? ≠ some 48 ∨ s.length = 1) → decDigits (val s) = s) ?_ ?_ s
  · intro _ h; exact absurd rfl h
  · intro s c ih h _ hz
    rw [List.all_append, Bool.and_eq_true] at h
    have h2 : isDig c = true := by simpa using h.2
    unfold isDig at h2
    simp only [Bool.and_eq_true, decide_eq_true_eq] at h2
    have hc : UInt8.ofNat (48 + (c.toNat - 48)) = c := by
      apply UInt8.toNat_inj.1
      rw [UInt8.toNat_ofNat']
      have := c.toNat_lt
      omega
    rw [val_snoc]
    cases s with
    | nil =>
      rw [val_nil, decDigits, dif_pos (by omega)]
      simp only [Nat.mul_zero, Nat.zero_add]
      rw [hc]; rfl
    | cons a t =>
      have hh : (a :: t).head? ≠ some 48 := by
        rcases hz with hz | hz
        · simpa using hz
        · simp at hz
      have e := ih h.1 (by simp) (.inl hh)
      have hpos : 1 ≤ val (a :: t) := by
        rcases Nat.eq_zero_or_pos (val (a :: t)) with h0 | h0
        · rw [h0] at e
          rw [digits_zero] at e
          cases e
          simp at hh
        · exact h0
      rw [decDigits, dif_neg (by omega)]
      rw [show (10 * val (a :: t) + (c.toNat - 48)) / 10 = val (a :: t) by omega, show (10 * val (a :: t) + (c.toNat - 48)) % 10 = c.toNat - 48 by omega, e, hc]
/-- 1 to 13 digits without a leading zero. -/
def okNum (s : List UInt8) : Bool := decide (1 ≤ s.length) && decide (s.length ≤ 13) && decide (s.getD 0 0 ≠ 48) && s.all isDig
theorem okNum_digits {n : Nat} (h1 : 1 ≤ n) (h2 : n < 10 ^ 13) : okNum (decDigits n) = true := by
  obtain ⟨c, t, e, hc⟩ := digits_head h1
  have h3 := digits_len n 13 h2 (by omega)
  have h4 := digits_all n
  unfold okNum
  rw [h4]
  rw [e] at h3 ⊢
  simp at h3
  simp [hc]; omega
theorem okNum_val {s : List UInt8} (h : okNum s = true) : decDigits (val s) = s ∧ val s < 10 ^ 13 ∧ 1 ≤ val s := by
  unfold okNum at h
  simp only [Bool.and_eq_true, decide_eq_true_eq] at h
  obtain ⟨⟨⟨h1, h2⟩, h3⟩, h4⟩ := h
  have hne : s ≠ [] := fun e => by subst e; simp at h1
  have hh : s.head? ≠ some 48 := by
    cases s with
    | nil => exact absurd rfl hne
    | cons a t => simpa using h3
  have e := digits_of s h4 hne (.inl hh)
  have hlt := val_lt s h4
  have hle : 10 ^ s.length ≤ 10 ^ 13 := Nat.pow_le_pow_right (by omega) h2
  refine ⟨e, by omega, ?_⟩
  rcases Nat.eq_zero_or_pos (val s) with h0 | h0
  · rw [h0] at e
    rw [digits_zero] at e
    rw [← e] at h3
    exact absurd rfl h3
  · exact h0
end Go.Nr

namespace Go.Sr
open Go.Lib Go.Gn Go.Maps Go.Proofs.YthgefcoaaommkaaGreatDoor

/-- What Merge makes of a map: each count of the other is added. -/
def mergeA {κ : Type} [DecidableEq κ] (L M : List (κ × C)) : List (κ × C) := M.foldl (fun o q => addA o q.1 q.2) L
theorem mergeA_snoc {κ : Type} [DecidableEq κ] (L M : List (κ × C)) (q : κ × C) : mergeA L (M ++ [q]) = addA (mergeA L M) q.1 q.2 := by unfold mergeA; rw [List.foldl_append]; rfl
theorem mergeA_two {κ : Type} [DecidableEq κ] : ∀ (M : List (κ × C)) {L : List (κ × C)}, NoTwo L → NoTwo (mergeA L M)
  | [], _, h => h
  | q :: M, L, h => mergeA_two M (L := addA L q.1 q.2) (addA_two h _ _)
theorem getA_cons {κ β : Type} [DecidableEq κ] (q : κ × β) (M : List (κ × β)) (x : κ) : getA (q :: M) x = if q.1 = x then some q.2 else getA M x := by
  unfold getA
  rw [List.find?_cons]
  by_cases h : q.1 = x <;> simp [h]
theorem getA_not {κ β : Type} [DecidableEq κ] {L : List (κ × β)} {x : κ} (h : x ∉ L.map (·.1)) : getA L x = none := by
  have := getA_mem (L := L) x
  rw [decide_eq_false h] at this
  exact Option.isNone_iff_eq_none.1 (by rw [Option.isNone_iff_eq_none]; cases e : getA L x <;> simp_all)
def plusO (a : Option C) (b : Option C) : Option C := match b with
  | none => a
  | some c => some (plus (a.getD (0, 0)) c)
theorem getA_merge {κ : Type} [DecidableEq κ] : ∀ (M : List (κ × C)) {L : List (κ × C)}, NoTwo L → NoTwo M → ∀ x, getA (mergeA L M) x = plusO (getA L x) (getA M x)
  | [], L, _, _, x => rfl
  | q :: M, L, hL, hM, x => by
    have h1 := List.nodup_cons.1 (show (q.1 :: M.map (·.1)).Nodup from hM)
    have ih := getA_merge M (L := addA L q.1 q.2) (addA_two hL _ _) h1.2 x
    show getA (mergeA (addA L q.1 q.2) M) x = _
    rw [ih, getA_cons, getA_add hL]
    by_cases e : q.1 = x
    · subst e
      rw [if_pos rfl, if_pos rfl, getA_not h1.1]
      rfl
    · rw [if_neg e, if_neg (fun h => e h.symm)]
theorem sumE_append (l m : List Ev) : sumE (l ++ m) = plus (sumE l) (sumE m) := by unfold sumE; rw [List.map_append, sumC_append]
theorem sumE_perm {l m : List Ev} (h : l.Perm m) : sumE l = sumE m := sumC_perm (h.map _)
theorem any_perm {α : Type} {l m : List α} (h : l.Perm m) (p : α → Bool) : l.any p = m.any p := by
  rw [Bool.eq_iff_iff, List.any_eq_true, List.any_eq_true]
  exact ⟨fun ⟨x, hx, hp⟩ => ⟨x, h.mem_iff.1 hx, hp⟩, fun ⟨x, hx, hp⟩ => ⟨x, h.mem_iff.2 hx, hp⟩⟩
theorem getA_days_perm {l m : List Ev} (h : l.Perm m) (d : Int) : getA (daysL l) d = getA (daysL m) d := by
  rw [getA_days, getA_days, any_perm h, sumE_perm (h.filter _)]
theorem getA_names_perm {l m : List Ev} (hl : ∀ e ∈ l, Apart e) (h : l.Perm m) (x : Ky) : getA (namesL l) x = getA (namesL m) x := by
  rw [getA_names hl, getA_names fun e he => hl e (h.mem_iff.2 he), any_perm h, sumE_perm (h.filter _)]
theorem getA_perm {κ β : Type} [DecidableEq κ] {L M : List (κ × β)} (hL : NoTwo L) (h : L.Perm M) (x : κ) : getA L x = getA M x := getA_ext hL (hL.perm h) (fun _ => h.mem_iff) x
theorem sum_filter_none {l : List Ev} {p : Ev → Bool} (h : ¬ l.any p = true) : sumE (l.filter p) = (0, 0) := by
  rw [List.filter_eq_nil_iff.2 fun x hx hp => h (List.any_eq_true.2 ⟨x, hx, hp⟩)]; rfl
theorem merged_sum (l m : List Ev) (p : Ev → Bool) : plusO (if m.any p = true then some (sumE (m.filter p)) else none) (if l.any p = true then some (sumE (l.filter p)) else none) = if (l ++ m).any p = true then some (sumE ((l ++ m).filter p)) else none := by
  rw [List.any_append, List.filter_append, sumE_append]
  by_cases h1 : l.any p = true
  · rw [if_pos h1, if_pos (show (l.any p || m.any p) = true by rw [h1]; rfl)]
    by_cases h2 : m.any p = true
    · rw [if_pos h2, plus_comm]; rfl
    · rw [if_neg h2, sum_filter_none h2, plus_zero]
      show some (plus (0, 0) _) = _
      rw [zero_plus]
  · rw [if_neg h1, sum_filter_none h1, zero_plus]
    have h1 := Bool.eq_false_iff.2 h1
    rw [h1, Bool.false_or]
    rfl
theorem merge_days (x y : List Ev) {L : List (Int × C)} (hL : L.Perm (daysL x)) (d : Int) : getA (mergeA (daysL y) L) d = getA (daysL (x ++ y)) d := by
  rw [getA_merge L (daysL_two y) ((daysL_two x).perm hL.symm), getA_perm ((daysL_two x).perm hL.symm) hL, getA_days, getA_days, getA_days, merged_sum]
theorem merge_names {x y : List Ev} (hx : ∀ e ∈ x, Apart e) (hy : ∀ e ∈ y, Apart e) {L : List (Ky × C)} (hL : L.Perm (namesL x)) (k : Ky) : getA (mergeA (namesL y) L) k = getA (namesL (x ++ y)) k := by
  rw [getA_merge L (namesL_two y) ((namesL_two x).perm hL.symm), getA_perm ((namesL_two x).perm hL.symm) hL, getA_names hx, getA_names hy, getA_names (fun e he => (List.mem_append.1 he).elim (hx e) (hy e)), merged_sum]
/-! ### sizes -/
def addZ (a z : List Int) : List Int := List.zipWith (· + ·) a z
theorem addZ_comm (a z : List Int) : addZ a z = addZ z a := by unfold addZ; exact List.zipWith_comm_of_comm fun x y => Int.add_comm x y
theorem addZ_up {a z : List Int} {k : Nat} (h : a.length = z.length) : addZ a (upAt z k) = upAt (addZ a z) k := by
  unfold addZ upAt
  apply List.ext_getElem?
  intro i
  by_cases hik : k = i
  · subst hik
    by_cases hk : k < z.length
    · simp [hk, h, List.getD_eq_getElem?_getD, Int.add_assoc]
    · simp [hk, h]
  · simp [List.getElem?_zipWith, hik]
theorem addZ_sizes (x : List Ev) : ∀ y : List Ev, addZ (sizesL x) (sizesL y) = sizesL (x ++ y) := snoc_ind (p := fun y => addZ (sizesL x) (sizesL y) = sizesL (x ++ y)) (by
    unfold addZ
    rw [List.append_nil]
    apply List.ext_getElem?
    intro i
    have := sizesL_length x
    by_cases hi : i < 18
    · have e : (sizesL ([] : List Ev))[i]? = some 0 := by
        show (List.replicate 18 (0 : Int))[i]? = some 0
        rw [List.getElem?_replicate, if_pos hi]
      rw [List.getElem?_zipWith, e]
      cases (sizesL x)[i]? <;> simp
    · rw [List.getElem?_eq_none (by rw [List.length_zipWith]; omega), List.getElem?_eq_none (by omega)]) fun y e ih => by
  rw [sizesL_snoc, addZ_up (by rw [sizesL_length, sizesL_length]), ih, ← List.append_assoc, sizesL_snoc]
theorem upAt_swap (z : List Int) (a b : Nat) : upAt (upAt z a) b = upAt (upAt z b) a := by
  unfold upAt
  apply List.ext_getElem?
  intro i
  simp only [List.getElem?_set, List.length_set, List.getD_eq_getElem?_getD]
  by_cases h1 : a = b
  · subst h1; rfl
  · by_cases h2 : b = i
    · subst h2
      by_cases h3 : b < z.length <;> simp [h1, h3]
    · by_cases h3 : a = i
      · subst h3
        have h1' : ¬ b = a := fun h => h1 h.symm
        by_cases h4 : a < z.length <;> simp [h1', h4]
      · simp [h2, h3]
theorem sizes_perm {l m : List Ev} (h : l.Perm m) : sizesL l = sizesL m := by
  unfold sizesL
  exact h.foldl_eq' (fun x _ y _ z => upAt_swap z _ _) _
/-! ### the text looks at what the maps hold, not at their order -/
theorem keys_same {κ β : Type} [DecidableEq κ] {L M : List (κ × β)} (h : ∀ x, getA L x = getA M x) (x : κ) : x ∈ L.map (·.1) ↔ x ∈ M.map (·.1) := by
  have h1 := getA_mem (L := L) x
  rw [h x, getA_mem (L := M) x] at h1
  simpa using h1.symm
theorem dayNames_same {ns ns' : List (Ky × C)} (h : ∀ x, getA ns x = getA ns' x) (d : Int) : dayNames ns d = dayNames ns' d := by
  unfold dayNames
  refine insAll_perm kcmp_lin fun x => ?_
  have e : ∀ L : List (Ky × C), x ∈ ((L.filter fun q => decide (q.1.1 = d)).map (·.1.2)) ↔ (d, x) ∈ L.map (·.1) := fun L => by
    simp only [List.mem_map, List.mem_filter, decide_eq_true_eq]
    constructor
    · rintro ⟨⟨⟨a, b⟩, c⟩, ⟨h1, h2⟩, h3⟩
      simp only at h2 h3
      subst h2; subst h3
      exact ⟨_, h1, rfl⟩
    · rintro ⟨⟨⟨a, b⟩, c⟩, h1, h2⟩
      simp only [Prod.mk.injEq] at h2
      obtain ⟨rfl, rfl⟩ := h2
      exact ⟨_, ⟨h1, rfl⟩, rfl⟩
  rw [e, e, keys_same h]
theorem textP_same {ds ds' : List (Int × C)} {ns ns' : List (Ky × C)} (zs : List Int) (hd : ∀ x, getA ds x = getA ds' x) (hn : ∀ x, getA ns x = getA ns' x) : textP ds ns zs = textP ds' ns' zs := by
  unfold textP
  rw [insAll_perm icmp_lin (keys_same hd)]
  congr 1
  refine flatMap_same fun d _ => ?_
  unfold dayText
  rw [hd, dayNames_same hn]
  congr 1
  exact flatMap_same fun q _ => by rw [hn]
theorem textP_perm {l m : List Ev} (hl : ∀ e ∈ l, Apart e) (h : l.Perm m) : textP (daysL l) (namesL l) (sizesL l) = textP (daysL m) (namesL m) (sizesL m) := by
  rw [sizes_perm h]
  exact textP_same _ (getA_days_perm h) (getA_names_perm hl h)
/-- All names of the events' days lie at or behind day 0. -/
theorem fromDay_all {b : Int} {ns : List (Ky × C)} (h : ∀ q ∈ ns, b ≤ q.1.1) : fromDay b ns = ns := List.filter_eq_self.2 fun q hq => by simpa using h q hq
end Go.Sr

namespace Go.Sr
open Go.Proofs Go.Lib Go.Gn Go.Maps Go.Proofs.YthgefcoaaommkaaGreatDoor Go.Sort Go.Shelf

theorem lin_swo {α : Type} {c : α → α → Int} (h : Lin c) {β : Type} [Inhabited β] (f : β → α) : SWO (ltOf fun x y => c (f x) (f y)) where
  irrefl x := by
    have := h.self (f x)
    have h2 : ¬ c (f x) (f x) < 0 := by omega
    exact decide_eq_false h2
  trans x y z h1 h2 := by
    unfold ltOf at *
    simp only [decide_eq_true_eq] at *
    exact h.lt_le h1 (by omega)
  ntrans x y z h1 h2 := by
    unfold ltOf at *
    simp only [decide_eq_false_iff_not] at *
    have a1 := h.anti (f x) (f y)
    have a2 := h.anti (f y) (f z)
    have a3 := h.anti (f x) (f z)
    have := h.trans (f z) (f y) (f x) (by omega) (by omega)
    omega
/-- What is sorted by a linear order of a picture without repetitions is the ordered list. -/
theorem sorted_by {α β : Type} [Inhabited α] [DecidableEq β] {c : β → β → Int} (h : Lin c) (f : α → β) {m l : List α} (hp : m.Perm l) (hs : m.Pairwise fun x y => ltOf (fun a b => c (f a) (f b)) y x = false) (hn : (l.map f).Nodup) : m.map f = insAll c (l.map f) := by
  refine sorted_insAll h ?_ ((hp.map f).nodup_iff.2 hn) (fun x => (hp.map f).mem_iff)
  rw [List.pairwise_map]
  refine hs.imp fun {a b} hab => ?_
  unfold ltOf at hab
  have h1 : ¬ c (f b) (f a) < 0 := of_decide_eq_false hab
  have h2 := h.anti (f a) (f b)
  show c (f a) (f b) ≤ 0
  omega
end Go.Sr

namespace Go.Keep
open Go.RowKit Go.ChangeShapes

section
variable {H : Type} {enc : TypeId × Value → H} {P : Program} {W W' : World}
theorem trodAll_carry (hb : Below W.heap.size W W') {base : Nat} {sp : Nat → Bool} {held : Bool} : ∀ {ts : List TypeId} {vs : List Value} {ds : List (DataW H)} {ps : List MemPlace},
    DataW.TrodAll enc P W base sp held ts vs ds ps → DataW.TrodAll enc P W' base sp held ts vs ds ps
  | [], [], [], _, h => h
  | _ :: _, _ :: _, _ :: _, _, ⟨p, q, ⟨n, h1⟩, h2, e⟩ => ⟨p, q, ⟨n, DataW.trod_carry n _ _ _ h1 (fun x hx => hb.same (DataW.trod_lt n _ _ _ h1 x hx))⟩, trodAll_carry hb h2, e⟩
/-- The arguments behind the call. -/
theorem args_keep (hl : laidOutB P = true) (hm : mapsRowed P = true)
    (hz : ((List.range P.types.size).all fun t => match P.underlying t with | some (.slice e) => decide (0 < P.cellsOf e) | _ => true) = true)
    {ts : List TypeId} {vs : List Value} {ds : List (DataW H)} {p : List MemPlace} (hts : (ts.all fun t => decide (t < P.types.size)) = true)
    (h : DataW.TrodAll enc P W 0 (fun _ => true) true ts vs ds p) (hb : Below W.heap.size W W') :
    DataW.TrodAll enc P W' 0 (fun b => decide (b < W.heap.size)) true ts vs ds p :=
  trodAll_carry hb (DataW.TrodAll.respare (kids_rows hl hm) (slices_full_of P hz) (fun t ht => by simpa using List.all_eq_true.1 hts t ht) h (fun x hx => by simpa using h.lt x hx))
end
end Go.Keep

namespace Go.Flow

def restO : Nat → Option Code → Option Code
  | 0, c => c
  | n + 1, some (.seq _ b) => restO n (some b)
  | _ + 1, _ => none
/-- A function's body without its first n statements. -/
def rest (n : Nat) (f : Func) : Code := (restO n f.body).getD .skip
theorem wp_rest {n : Nat} {f : Func} {c : Code} {P : Program} {Q : Exit → Act → World → Prop} {a : Act} {w : World} (h : restO n f.body = some c) (H : c.wp P Q a w) : (rest n f).wp P Q a w := by
  unfold rest; rw [h]; exact H
theorem wp_of_rest {n : Nat} {f : Func} {c : Code} {P : Program} {Q : Exit → Act → World → Prop} {a : Act} {w : World} (h : restO n f.body = some c) (H : (rest n f).wp P Q a w) : c.wp P Q a w := by
  unfold rest at H; rw [h] at H; exact H
end Go.Flow

namespace Go.Flow
open Go.RowKit

/-- The worlds that meet S, as a type: its members are handed to the walk as variables. -/
structure Cls (S : World → Prop) where
  val : World
  ok : S val

/-- Operations that yield a value if they yield at all. -/
def isVal (o : Oper) : Bool :=
  match o.op with
  | .move _ | .assign _ | .pick .. | .load .. | .nilCheck _ | .binOp .. | .unOp .. | .convert .. | .slice .. | .fieldAddr .. | .field .. | .indexAddr .. | .index .. | .extract .. | .lookup .. | .build .. => true
  | .call { callee := .builtin b, .. } => match b with | .len | .cap | .max | .min => true | _ => false
  | _ => false

theorem run_v {s : Sem Value} {P : Program} {w : World} {n : Next} {w' : World} (h : (do let x ← s; pure (Next.value x) : Sem Next).run P w = .ok n w') : ∃ u, n = .value u := by
  simp at h
  cases hs : s.run P w with
  | ok x w1 => rw [hs] at h; simp [Result.andThen] at h; exact ⟨x, h.1.symm⟩
  | halt x w1 => rw [hs] at h; simp [Result.andThen] at h

theorem run_pure_v {x : Value} {P : Program} {w : World} {n : Next} {w' : World} (h : (pure (Next.value x) : Sem Next).run P w = .ok n w') : ∃ u, n = .value u := by
  simp at h; exact ⟨x, h.1.symm⟩
theorem andThen_ok_inv {α β : Type} {r : Result α} {f : α → World → Result β} {b : β} {w' : World} (h : r.andThen f = .ok b w') : ∃ x w1, r = .ok x w1 ∧ f x w1 = .ok b w' := by
  cases r with
  | ok x w1 => exact ⟨x, w1, rfl, by simpa [Result.andThen] using h⟩
  | halt x w1 => simp [Result.andThen] at h

theorem no_nil {P : Program} {w w' : World} {n : Next} (h : (runtimePanic .nilDeref : Sem Next).run P w = .ok n w') : False := by
  simp [runtimePanic, goPanic] at h

theorem isVal_run {ρ : Operand → Value} {o : Oper} {P : Program} {w w' : World} {n : Next} (hv : isVal o = true) (h : (execOp ρ o).run P w = .ok n w') : ∃ u, n = .value u := by
  unfold isVal at hv
  unfold execOp at h
  split at hv
  all_goals first | cases hv | skip
  all_goals rename_i heq
  all_goals simp only [heq] at h
  all_goals first
    | exact run_v h
    | exact run_pure_v h
    | skip
  · rw [Sem.run_bind] at h
    obtain ⟨x, w1, _, h2⟩ := andThen_ok_inv h
    exact run_pure_v h2
  · split at h
    · exact (no_nil h).elim
    · exact (no_nil h).elim
    · exact (no_nil h).elim
    · split at h
      · exact (no_nil h).elim
      · simp only [Sem.run_bind] at h
        obtain ⟨x, w1, _, h2⟩ := andThen_ok_inv h
        obtain ⟨y, w2, _, h3⟩ := andThen_ok_inv h2
        split at h3
        · rw [Sem.run_bind] at h3
          obtain ⟨z, w3, _, h4⟩ := andThen_ok_inv h3
          exact run_pure_v h4
        · exact run_pure_v h3
      · exact run_pure_v h
    · exact run_pure_v h
  · simp only [resolve, Sem.run_bind, Sem.run_pure, Result.andThen_ok, invoke] at h
    split at hv
    all_goals first | cases hv | skip
    all_goals (simp only [builtin] at h; exact run_v h)

/-- The operations of these numbers. -/
def pick (ops : Array Oper) : List Nat → List Oper
  | [] => []
  | i :: is => match ops[i]? with
    | some o => o :: pick ops is
    | none => pick ops is

section
variable {P : Program} {ops : Array Oper} {Q : Exit → Act → World → Prop}

/-- What is asked of an operation that is carried out where nothing else may come up. -/
def callAt (P : Program) (ops : Array Oper) (L : World → World → Prop) (i : Nat) (next : Act → World → Prop) (a : Act) (w : World) : Prop :=
  match ops[i]? with
  | none => False
  | some o => if Region.wanted o (yielded ops a.tmps) then o.wp P a w (fun a' w' => L w w' ∧ next a' w') (fun _ _ _ => False) else next (a.put o.dst undef) w

theorem callAt_want {L : World → World → Prop} {i : Nat} {next : Act → World → Prop} {a : Act} {w : World} (o : Oper) (ho : ops[i]? = some o) (hw : Region.wanted o (yielded ops a.tmps) = true)
    (h : ∀ K : Act → World → Prop, (∀ a' w', L w w' ∧ next a' w' → K a' w') → o.wp P a w K (fun _ _ _ => False)) : callAt P ops L i next a w := by
  unfold callAt
  simp only [ho, hw, if_true]
  exact h _ (fun _ _ h => h)
theorem callAt_skip {L : World → World → Prop} {i : Nat} {next : Act → World → Prop} {a : Act} {w : World} (o : Oper) (ho : ops[i]? = some o) (hw : Region.wanted o (yielded ops a.tmps) = false)
    (h : next (a.put o.dst undef) w) : callAt P ops L i next a w := by
  unfold callAt
  simp only [ho, hw, Bool.false_eq_true, if_false]
  exact h

/-- The walk along a schedule: quiet operations, one that is carried out, quiet ones, and so on. -/
def wpSegs (P : Program) (ops : Array Oper) (L : World → World → Prop) (Q : Act → World → Prop) : List (List Nat × Nat) → List Nat → Act → World → Prop
  | [], last, a, w => wpQuiet P ops (fun w' => ∃ t : Cls (L w), w' = t.val) (fun a' => Q a' w) (pick ops last) a
  | (seg, i) :: more, last, a, w => wpQuiet P ops (fun w' => ∃ t : Cls (L w), w' = t.val) (fun a' => callAt P ops L i (wpSegs P ops L Q more last) a' w) (pick ops seg) a

/-- Every operation of a list may be taken first when its turn comes. -/
def takeAll (ops : Array Oper) : List Nat → Array Bool → Option (Array Bool)
  | [], l => some l
  | i :: is, l => match ops[i]? with
    | none => none
    | some o => if isVal o && Region.free .any ops l i && (Region.ready .any ops l).contains i then takeAll ops is (l.setIfInBounds i true) else none
def segsOk (ops : Array Oper) : List (List Nat × Nat) → List Nat → Array Bool → Bool
  | [], last, l => match takeAll ops last l with
    | none => false
    | some l' => (Region.ready .any ops l').isEmpty
  | (seg, i) :: more, last, l => match takeAll ops seg l with
    | none => false
    | some l' => (Region.ready .any ops l' == [i]) && segsOk ops more last (l'.setIfInBounds i true)
def total : List (List Nat × Nat) → List Nat → Nat
  | [], last => last.length
  | (seg, _) :: more, last => seg.length + 1 + total more last

theorem wpAnyH_mono {md : Region.Mode} {S S' : World → Prop} (h : ∀ w, S w → S' w) : ∀ (fuel : Nat) (listed : Array Bool) (a : Act) (w : World), wpAnyH P md ops Q S fuel listed a w → wpAnyH P md ops Q S' fuel listed a w
  | 0, _, _, _, hh => hh
  | fuel + 1, _, _, _, hh => ⟨hh.1, fun i hi => wpOp_mono (fun a' w' h' => ⟨h _ h'.1, wpAnyH_mono h fuel _ a' w' h'.2⟩) (hh.2 i hi)⟩

theorem seg_sound {L : World → World → Prop} {w : World} (hL : L w w) (hs : Region.noSelect ops = true) (hQ : ∀ c a w, ¬ Q (.panic c) a w) {K : Act → Prop} {fuel : Nat} {l' : Array Bool}
    (hK : ∀ a', K a' → wpAnyH P .any ops Q (L w) fuel l' a' w) : ∀ (is : List Nat) (l : Array Bool) (a : Act), takeAll ops is l = some l' →
      wpQuiet P ops (fun w' => ∃ t : Cls (L w), w' = t.val) K (pick ops is) a → wpAnyH P .any ops Q (L w) (fuel + is.length) l a w
  | [], l, a, ht, h => by
    simp only [takeAll, Option.some.injEq] at ht
    subst ht
    exact hK a h
  | i :: is, l, a, ht, h => by
    unfold takeAll at ht
    split at ht
    · cases ht
    · rename_i o ho
      split at ht
      · rename_i hb
        simp only [Bool.and_eq_true] at hb
        have hp : pick ops (i :: is) = o :: pick ops is := by simp only [pick, ho]
        rw [hp] at h
        unfold wpQuiet at h
        rw [show fuel + (i :: is).length = (fuel + is.length) + 1 from rfl]
        by_cases hw : Region.wanted o (yielded ops a.tmps) = true
        · rw [if_pos hw] at h
          obtain ⟨v, hv, hn⟩ := h
          refine wpAnyH_take ho hs hb.1.2 hb.2 (fun c a w h => (hQ c _ w h).elim) (.inl ⟨hw, fun x hx => ?_⟩) hL (seg_sound hL hs hQ hK is _ _ ht hn)
          have h1 := hv x ⟨⟨x, hx⟩, rfl⟩
          unfold Oper.quietAt at h1
          cases hr : (execOp a.eval o).run P x with
          | ok n w' =>
            obtain ⟨u, rfl⟩ := isVal_run hb.1.1 hr
            rw [hr] at h1
            obtain ⟨e1, e2⟩ := h1
            rw [e1, e2]
          | halt y w' => rw [hr] at h1; exact h1.elim
        · rw [if_neg hw] at h
          exact wpAnyH_take ho hs hb.1.2 hb.2 (fun c a w h => (hQ c _ w h).elim) (.inr ⟨by simpa using hw, rfl⟩) hL (seg_sound hL hs hQ hK is _ _ ht h)
      · cases ht

theorem segs_sound {L : World → World → Prop} (hL : ∀ w, L w w) (hT : ∀ u v w, L u v → L v w → L u w) (hs : Region.noSelect ops = true) (hQ : ∀ c a w, ¬ Q (.panic c) a w) :
    ∀ (segs : List (List Nat × Nat)) (last : List Nat) (l : Array Bool) (a : Act) (w : World), segsOk ops segs last l = true → wpSegs P ops L (fun a w => Q .normal a w) segs last a w → wpAnyH P .any ops Q (L w) (total segs last) l a w
  | [], last, l, a, w, hok, h => by
    unfold segsOk at hok
    split at hok
    · cases hok
    · rename_i l' ht
      have := seg_sound (fuel := 0) (hL w) hs hQ (K := fun a' => Q .normal a' w) (fun a' hk => wpAnyH_done (by simpa using hok) hk 0) last l a ht h
      simpa [total] using this
  | (seg, i) :: more, last, l, a, w, hok, h => by
    unfold segsOk at hok
    split at hok
    · cases hok
    · rename_i l' ht
      simp only [Bool.and_eq_true, beq_iff_eq] at hok
      unfold wpSegs at h
      have := seg_sound (fuel := total more last + 1) (hL w) hs hQ (K := fun a' => callAt P ops L i (wpSegs P ops L (fun a w => Q .normal a w) more last) a' w) (fun a' hk => by
        refine wpAnyH_all hok.1 (by simp) (fun j hj => ?_)
        obtain rfl := List.mem_singleton.1 hj
        unfold callAt at hk
        unfold wpOp
        cases ho : ops[j]? with
        | none => rw [ho] at hk; exact hk.elim
        | some o =>
          rw [ho] at hk
          simp only at hk ⊢
          by_cases hw : Region.wanted o (yielded ops a'.tmps) = true
          · rw [if_pos hw] at hk ⊢
            refine .inl ?_
            unfold Oper.wp at hk ⊢
            generalize (execOp a'.eval o).run P w = r at hk ⊢
            have step : ∀ a2 w2, (L w w2 ∧ wpSegs P ops L (fun a w => Q .normal a w) more last a2 w2) → (L w w2 ∧ wpAnyH P .any ops Q (L w) (total more last) (l'.setIfInBounds j true) a2 w2) := fun a2 w2 ⟨h1, h2⟩ =>
              ⟨h1, wpAnyH_mono (fun x hx => hT _ _ _ h1 hx) _ _ _ _ (segs_sound hL hT hs hQ more last _ a2 w2 hok.2 h2)⟩
            cases r with
            | ok n w' =>
              cases n <;> simp only [Oper.upon] at hk ⊢
              case value u => exact step _ _ hk
              case skip => exact step _ _ hk
              case defer d => exact step _ _ hk
              case enter f args =>
                refine Calls.mono hk fun e w'' he => ?_
                cases e with
                | returned u => exact step _ _ he
                | panicked c => exact he.elim
                | outgrown => obtain ⟨_, _, he⟩ := he; exact he.elim
              case row row args => exact Rows.mono hk fun u w'' he => step _ _ he
            | halt x w' => cases x <;> simp only [Oper.upon] at hk
          · rw [if_neg hw] at hk ⊢
            exact ⟨hL w, segs_sound hL hT hs hQ more last _ _ w hok.2 hk⟩) seg l a ht h
      rw [show total ((seg, i) :: more) last = total more last + 1 + seg.length by simp [total]; omega]
      exact this
end

/-- Q at a way's plain end alone. -/
def Plain (Q : Exit → Act → World → Prop) : Exit → Act → World → Prop
  | .normal, a, w => Q .normal a w
  | _, _, _ => False

/-- **THE LAW.** -/
theorem wp_region_segs (L : World → World → Prop) (hL : ∀ w, L w w) (hT : ∀ u v w, L u v → L v w → L u w) (segs : List (List Nat × Nat)) (last : List Nat)
    {P : Program} {id : Nat} {Q : Exit → Act → World → Prop} {a : Act} {w : World} {ops : Array Oper} (hm : P.follows .mixedOrders = true)
    (hok : (Region.noSelect ops && segsOk ops segs last (Array.replicate ops.size false) && total segs last == ops.size) = true)
    (h : wpSegs P ops L (fun a w => Q .normal a w) segs last a w.drew) : (Code.region id ops true).wp P Q a w := by
  simp only [Bool.and_eq_true, beq_iff_eq] at hok
  have h1 : (Code.region id ops true).wp P (Plain Q) a w := by
    refine wp_region_held (S := L w.drew) hm ?_
    have := segs_sound (Q := Plain Q) hL hT hok.1.1 (fun _ _ _ h => h) segs last _ a w.drew hok.1.2 h
    rw [hok.2] at this
    exact this
  exact Code.wp_mono (fun e a w h => by cases e <;> first | exact h | exact h.elim) h1

theorem wpSegs_nil {P : Program} {ops : Array Oper} {L : World → World → Prop} {Q : Act → World → Prop} {last : List Nat} {a : Act} {w : World} : wpSegs P ops L Q [] last a w = wpQuiet P ops (fun w' => ∃ t : Cls (L w), w' = t.val) (fun a' => Q a' w) (pick ops last) a := rfl
theorem wpSegs_cons {P : Program} {ops : Array Oper} {L : World → World → Prop} {Q : Act → World → Prop} {seg : List Nat} {i : Nat} {more : List (List Nat × Nat)} {last : List Nat} {a : Act} {w : World} :
    wpSegs P ops L Q ((seg, i) :: more) last a w = wpQuiet P ops (fun w' => ∃ t : Cls (L w), w' = t.val) (fun a' => callAt P ops L i (wpSegs P ops L Q more last) a' w) (pick ops seg) a := rfl
theorem callAt_eq {P : Program} {ops : Array Oper} {L : World → World → Prop} {i : Nat} {next : Act → World → Prop} {a : Act} {w : World} :
    callAt P ops L i next a w = (match ops[i]? with | none => False | some o => if Region.wanted o (yielded ops a.tmps) then o.wp P a w (fun a' w' => L w w' ∧ next a' w') (fun _ _ _ => False) else next (a.put o.dst undef) w) := rfl
/-- The operation is carried out: its end behind a variable. -/
theorem wp_behind {P : Program} {o : Oper} {N : Act → World → Prop} {a : Act} {w : World}
    (h : ∀ K : Act → World → Prop, Hid (∀ a' w', N a' w' → K a' w') → o.wp P a w K (fun _ _ _ => False)) : o.wp P a w N (fun _ _ _ => False) :=
  h _ (fun _ _ h => h)

/-- A later world: every block that was there is as it was. -/
def Later (w x : World) : Prop := Below w.heap.size w x
theorem Later.refl (w : World) : Later w w := Below.refl _ _
theorem Later.trans (u v w : World) (h : Later u v) (k : Later v w) : Later u w := Below.trans h (Below.mono k h.size)
theorem cls_nonempty (w : World) : Nonempty (Cls (Later w)) := ⟨⟨w, Later.refl w⟩⟩
/-- A cell that is there, in every later world. -/
theorem cls_cell {w : World} {p : Addr} {v : Value} (h : w.cell? p = some v) (t : Cls (Later w)) : t.val.cell? p = some v := by
  have hl := World.block_lt_of_cell? w p h
  have hb : Below w.heap.size w t.val := t.ok
  rw [hb.cell hl]; exact h

/-- A schedule: what yields a value is taken as soon as it may come up; else what alone may come up. -/
def plan (ops : Array Oper) : Nat → Array Bool → List Nat → List (List Nat × Nat) × List Nat
  | 0, _, acc => ([], acc.reverse)
  | n + 1, l, acc =>
    let rs := Region.ready .any ops l
    match rs.find? fun i => ((ops[i]?).map isVal).getD false && Region.free .any ops l i with
    | some i => plan ops n (l.setIfInBounds i true) (i :: acc)
    | none => match rs with
      | i :: _ => let r := plan ops n (l.setIfInBounds i true) []; ((acc.reverse, i) :: r.1, r.2)
      | [] => ([], acc.reverse)
end Go.Flow

namespace Go.Flow
open Go.RowKit

/-- A schedule: quiet operations and the end · quiet ones, then one that is carried out · quiet ones, then two that may come up, whichever comes first. -/
inductive Sched where
  | done (last : List Nat)
  | step (seg : List Nat) (i : Nat) (s : Sched)
  | fork (seg : List Nat) (i j : Nat) (s1 s2 : Sched)

def wpSched (P : Program) (ops : Array Oper) (L : World → World → Prop) (Q : Act → World → Prop) : Sched → Act → World → Prop
  | .done last, a, w => wpQuiet P ops (fun w' => ∃ t : Cls (L w), w' = t.val) (fun a' => Q a' w) (pick ops last) a
  | .step seg i s, a, w => wpQuiet P ops (fun w' => ∃ t : Cls (L w), w' = t.val) (fun a' => callAt P ops L i (wpSched P ops L Q s) a' w) (pick ops seg) a
  | .fork seg i j s1 s2, a, w => wpQuiet P ops (fun w' => ∃ t : Cls (L w), w' = t.val) (fun a' => callAt P ops L i (wpSched P ops L Q s1) a' w ∧ callAt P ops L j (wpSched P ops L Q s2) a' w) (pick ops seg) a

def schedOk (ops : Array Oper) : Sched → Nat → Array Bool → Bool
  | .done last, n, l => match takeAll ops last l with
    | none => false
    | some l' => (Region.ready .any ops l').isEmpty && n == last.length
  | .step seg i s, n, l => match takeAll ops seg l with
    | none => false
    | some l' => (Region.ready .any ops l' == [i]) && decide (seg.length + 1 ≤ n) && schedOk ops s (n - (seg.length + 1)) (l'.setIfInBounds i true)
  | .fork seg i j s1 s2, n, l => match takeAll ops seg l with
    | none => false
    | some l' => (Region.ready .any ops l' == [i, j]) && decide (seg.length + 1 ≤ n) && schedOk ops s1 (n - (seg.length + 1)) (l'.setIfInBounds i true) && schedOk ops s2 (n - (seg.length + 1)) (l'.setIfInBounds j true)

section
variable {P : Program} {ops : Array Oper} {Q : Exit → Act → World → Prop}
theorem callAt_sound {L : World → World → Prop} (hL : ∀ w, L w w) (hT : ∀ u v w, L u v → L v w → L u w) {j fuel : Nat} {l : Array Bool} {next : Act → World → Prop} {a : Act} {w : World}
    (hnext : ∀ a2 w2, next a2 w2 → wpAnyH P .any ops Q (L w2) fuel l a2 w2) (hk : callAt P ops L j next a w) :
    wpOp P ops Q j (fun a' w' => L w w' ∧ wpAnyH P .any ops Q (L w) fuel l a' w') a w := by
  unfold callAt at hk
  unfold wpOp
  cases ho : ops[j]? with
  | none => rw [ho] at hk; exact hk.elim
  | some o =>
    rw [ho] at hk
    simp only at hk ⊢
    have step : ∀ a2 w2, (L w w2 ∧ next a2 w2) → (L w w2 ∧ wpAnyH P .any ops Q (L w) fuel l a2 w2) := fun a2 w2 ⟨h1, h2⟩ =>
      ⟨h1, wpAnyH_mono (fun x hx => hT _ _ _ h1 hx) _ _ _ _ (hnext a2 w2 h2)⟩
    by_cases hw : Region.wanted o (yielded ops a.tmps) = true
    · rw [if_pos hw] at hk ⊢
      refine .inl ?_
      unfold Oper.wp at hk ⊢
      generalize (execOp a.eval o).run P w = r at hk ⊢
      cases r with
      | ok n w' =>
        cases n <;> simp only [Oper.upon] at hk ⊢
        case value u => exact step _ _ hk
        case skip => exact step _ _ hk
        case defer d => exact step _ _ hk
        case enter f args =>
          refine Calls.mono hk fun e w'' he => ?_
          cases e with
          | returned u => exact step _ _ he
          | panicked c => exact he.elim
          | outgrown => obtain ⟨_, _, he⟩ := he; exact he.elim
        case row row args => exact Rows.mono hk fun u w'' he => step _ _ he
      | halt x w' => cases x <;> simp only [Oper.upon] at hk
    · rw [if_neg hw] at hk ⊢
      exact step _ _ ⟨hL w, hk⟩

theorem sched_sound {L : World → World → Prop} (hL : ∀ w, L w w) (hT : ∀ u v w, L u v → L v w → L u w) (hs : Region.noSelect ops = true) (hQ : ∀ c a w, ¬ Q (.panic c) a w) :
    ∀ (s : Sched) (n : Nat) (l : Array Bool) (a : Act) (w : World), schedOk ops s n l = true → wpSched P ops L (fun a w => Q .normal a w) s a w → wpAnyH P .any ops Q (L w) n l a w
  | .done last, n, l, a, w, hok, h => by
    unfold schedOk at hok
    split at hok
    · cases hok
    · rename_i l' ht
      simp only [Bool.and_eq_true, beq_iff_eq] at hok
      have := seg_sound (fuel := 0) (hL w) hs hQ (K := fun a' => Q .normal a' w) (fun a' hk => wpAnyH_done (by simpa using hok.1) hk 0) last l a ht h
      rw [Nat.zero_add, ← hok.2] at this
      exact this
  | .step seg i s, n, l, a, w, hok, h => by
    unfold schedOk at hok
    split at hok
    · cases hok
    · rename_i l' ht
      simp only [Bool.and_eq_true, beq_iff_eq, decide_eq_true_eq] at hok
      unfold wpSched at h
      have := seg_sound (fuel := n - (seg.length + 1) + 1) (hL w) hs hQ (K := fun a' => callAt P ops L i (wpSched P ops L (fun a w => Q .normal a w) s) a' w) (fun a' hk => by
        refine wpAnyH_all hok.1.1 (by simp) (fun j hj => ?_)
        obtain rfl := List.mem_singleton.1 hj
        exact callAt_sound hL hT (fun a2 w2 h2 => sched_sound hL hT hs hQ s _ _ a2 w2 hok.2 h2) hk) seg l a ht h
      rw [show n - (seg.length + 1) + 1 + seg.length = n by omega] at this
      exact this
  | .fork seg i j s1 s2, n, l, a, w, hok, h => by
    unfold schedOk at hok
    split at hok
    · cases hok
    · rename_i l' ht
      simp only [Bool.and_eq_true, beq_iff_eq, decide_eq_true_eq] at hok
      unfold wpSched at h
      have := seg_sound (fuel := n - (seg.length + 1) + 1) (hL w) hs hQ (K := fun a' => callAt P ops L i (wpSched P ops L (fun a w => Q .normal a w) s1) a' w ∧ callAt P ops L j (wpSched P ops L (fun a w => Q .normal a w) s2) a' w) (fun a' hk => by
        refine wpAnyH_all hok.1.1.1 (by simp) (fun k hk2 => ?_)
        rcases List.mem_cons.1 hk2 with e | e
        · rw [e]; exact callAt_sound hL hT (fun a2 w2 h2 => sched_sound hL hT hs hQ s1 _ _ a2 w2 hok.1.2 h2) hk.1
        · rw [List.mem_singleton.1 e]; exact callAt_sound hL hT (fun a2 w2 h2 => sched_sound hL hT hs hQ s2 _ _ a2 w2 hok.2 h2) hk.2) seg l a ht h
      rw [show n - (seg.length + 1) + 1 + seg.length = n by omega] at this
      exact this
end

/-- **THE LAW, FOR A SCHEDULE THAT FORKS.** -/
theorem wp_region_sched (L : World → World → Prop) (hL : ∀ w, L w w) (hT : ∀ u v w, L u v → L v w → L u w) (s : Sched)
    {P : Program} {id : Nat} {Q : Exit → Act → World → Prop} {a : Act} {w : World} {ops : Array Oper} (hm : P.follows .mixedOrders = true)
    (hok : (Region.noSelect ops && schedOk ops s ops.size (Array.replicate ops.size false)) = true)
    (h : wpSched P ops L (fun a w => Q .normal a w) s a w.drew) : (Code.region id ops true).wp P Q a w := by
  simp only [Bool.and_eq_true] at hok
  have h1 : (Code.region id ops true).wp P (Plain Q) a w := by
    refine wp_region_held (S := L w.drew) hm ?_
    exact sched_sound (Q := Plain Q) hL hT hok.1 (fun _ _ _ h => h) s _ _ a w.drew hok.2 h
  exact Code.wp_mono (fun e a w h => by cases e <;> first | exact h | exact h.elim) h1

theorem wpSched_done {P : Program} {ops : Array Oper} {L : World → World → Prop} {Q : Act → World → Prop} {last : List Nat} {a : Act} {w : World} : wpSched P ops L Q (.done last) a w = wpQuiet P ops (fun w' => ∃ t : Cls (L w), w' = t.val) (fun a' => Q a' w) (pick ops last) a := rfl
theorem wpSched_step {P : Program} {ops : Array Oper} {L : World → World → Prop} {Q : Act → World → Prop} {seg : List Nat} {i : Nat} {s : Sched} {a : Act} {w : World} :
    wpSched P ops L Q (.step seg i s) a w = wpQuiet P ops (fun w' => ∃ t : Cls (L w), w' = t.val) (fun a' => callAt P ops L i (wpSched P ops L Q s) a' w) (pick ops seg) a := rfl
theorem wpSched_fork {P : Program} {ops : Array Oper} {L : World → World → Prop} {Q : Act → World → Prop} {seg : List Nat} {i j : Nat} {s1 s2 : Sched} {a : Act} {w : World} :
    wpSched P ops L Q (.fork seg i j s1 s2) a w = wpQuiet P ops (fun w' => ∃ t : Cls (L w), w' = t.val) (fun a' => callAt P ops L i (wpSched P ops L Q s1) a' w ∧ callAt P ops L j (wpSched P ops L Q s2) a' w) (pick ops seg) a := rfl
end Go.Flow

namespace Go.Flow
open Go.RowKit

/-- k waits for i. -/
def waits (ops : Array Oper) (k i : Nat) : Bool := match ops[k]? with
  | none => false
  | some o => o.after.any fun e => Region.binds .any e && e.on == i

section
variable {P : Program} {ops : Array Oper} {Q : Exit → Act → World → Prop}

/-- Whatever order is picked from here on; S holds behind each operation until one of the tail has come up. -/
def wpAnyT (P : Program) (ops : Array Oper) (Q : Exit → Act → World → Prop) (KS : List Nat) (S : World → Prop) : Nat → Array Bool → Act → World → Prop
  | 0, l, a, w => Region.ready .any ops l = [] ∧ Q .normal a w
  | f + 1, l, a, w => (Region.ready .any ops l = [] → Q .normal a w) ∧ ∀ i ∈ Region.ready .any ops l,
      (KS.contains i = true → wpOp P ops Q i (fun a' w' => wpAnyH P .any ops Q (fun _ => True) f (l.setIfInBounds i true) a' w') a w) ∧
      (KS.contains i = false → wpOp P ops Q i (fun a' w' => S w' ∧ wpAnyT P ops Q KS S f (l.setIfInBounds i true) a' w') a w)

theorem wpAny_of_tail {KS : List Nat} {S : World → Prop} : ∀ (f : Nat) (l : Array Bool) (a : Act) (w : World), wpAnyT P ops Q KS S f l a w → wpAnyH P .any ops Q (fun _ => True) f l a w
  | 0, _, _, _, h => h
  | f + 1, l, a, w, h => ⟨h.1, fun i hi => by
      cases hk : KS.contains i with
      | true => exact wpOp_mono (fun _ _ h' => ⟨trivial, h'⟩) ((h.2 i hi).1 hk)
      | false => exact wpOp_mono (fun a' w' h' => ⟨trivial, wpAny_of_tail f _ a' w' h'.2⟩) ((h.2 i hi).2 hk)⟩
theorem wpAnyT_mono {KS : List Nat} {S S' : World → Prop} (hS : ∀ w, S w → S' w) : ∀ (f : Nat) (l : Array Bool) (a : Act) (w : World), wpAnyT P ops Q KS S f l a w → wpAnyT P ops Q KS S' f l a w
  | 0, _, _, _, h => h
  | f + 1, _, _, _, h => ⟨h.1, fun i hi => ⟨fun hk => (h.2 i hi).1 hk, fun hk => wpOp_mono (fun a' w' h' => ⟨hS _ h'.1, wpAnyT_mono hS f _ a' w' h'.2⟩) ((h.2 i hi).2 hk)⟩⟩
/-- Only the tail may come up. -/
theorem wpAnyT_tail {KS : List Nat} {S : World → Prop} {f : Nat} {l : Array Bool} {a : Act} {w : World} (hr : ∀ i ∈ Region.ready .any ops l, KS.contains i = true) (h : wpAnyH P .any ops Q (fun _ => True) f l a w) : wpAnyT P ops Q KS S f l a w := by
  cases f with
  | zero => exact h
  | succ f => exact ⟨h.1, fun i hi => ⟨fun _ => wpOp_mono (fun _ _ h' => h'.2) (h.2 i hi), fun hk => by rw [hr i hi] at hk; cases hk⟩⟩

theorem waits_spec {k i : Nat} (h : waits ops k i = true) {l : Array Bool} (hi : l.getD i false = false) : k ∉ Region.ready .any ops l := by
  intro hk
  obtain ⟨_, o, ho, hall⟩ := mem_ready.1 hk
  unfold waits at h
  rw [ho] at h
  obtain ⟨e, he, hb⟩ := Array.any_eq_true'.1 h
  simp only [Bool.and_eq_true, beq_iff_eq] at hb
  have := hall e he hb.1
  rw [hb.2, hi] at this
  cases this

/-- An operation that may come up now is taken first: what it yields is the same in every world that meets T; the tail waits for it, or every world meets T. -/
theorem wpAnyT_first {KS : List Nat} {S T : World → Prop} (hST : ∀ w, S w → T w) {i : Nat} {oi : Oper} {v : Value} (hi : ops[i]? = some oi) (hs : Region.noSelect ops = true) (hQ : ∀ c a w, ¬ Q (.panic c) a w) (hik : KS.contains i = false)
    (hw : (∀ k, KS.contains k = true → waits ops k i = true) ∨ ∀ w, T w) :
    ∀ (f : Nat) (l : Array Bool) (a : Act) (w : World), Region.free .any ops l i = true → i ∈ Region.ready .any ops l → YieldsIf P ops T oi v a → S w →
      wpAnyT P ops Q KS S f (l.setIfInBounds i true) (a.put oi.dst v) w → wpAnyT P ops Q KS S (f + 1) l a w := by
  have hsel := Region.noSelect_spec hs
  have hQ' : ∀ c a w, Q (.panic c) (a.put oi.dst v) w → Q (.panic c) a w := fun c a w h => (hQ c _ w h).elim
  intro f
  induction f with
  | zero =>
    intro l a w _ hr hy hS H
    refine ⟨fun h => (by rw [h] at hr; cases hr), fun j hj => ?_⟩
    by_cases hji : j = i
    · subst hji
      exact ⟨(fun hk => by rw [hik] at hk; cases hk), fun _ => hy.wpOp hi (hST w hS) ⟨hS, H⟩⟩
    · have := ready_mono hj hji
      rw [H.1] at this
      cases this
  | succ f ih =>
    intro l a w hfree hr hy hS H
    refine ⟨fun h => (by rw [h] at hr; cases hr), fun j hj => ?_⟩
    by_cases hji : j = i
    · subst hji
      exact ⟨(fun hk => by rw [hik] at hk; cases hk), fun _ => hy.wpOp hi (hST w hS) ⟨hS, H⟩⟩
    · have h1 := H.2 j (ready_mono hj hji)
      obtain ⟨hjun, oj, hoj, hall⟩ := mem_ready.1 hj
      have h0 := (mem_ready.1 hr).1
      have hif : l.getD i false = false := by
        rcases Nat.lt_or_ge i l.size with h' | h'
        · simpa [h'] using h0
        · simp [Array.getElem?_eq_none h']
      have hnot : ∀ e ∈ oj.after, Region.binds .any e = true → e.on ≠ i := fun e he hb heq => by
        have h1 := hall e he hb
        rw [heq, hif] at h1
        cases h1
      have hap := Region.free_spec hi hfree j oj hoj hji hjun hnot
      have hfree' : Region.free .any ops (l.setIfInBounds j true) i = true := by
        unfold Region.free at hfree ⊢
        rw [hi] at hfree ⊢
        simp only [List.all_eq_true] at hfree ⊢
        intro x hx
        have := hfree x hx
        simp only [Bool.or_eq_true] at this ⊢
        rcases this with (h | h) | h
        · exact .inl (.inl h)
        · refine .inl (.inr ?_)
          by_cases hjx : j = x
          · subst hjx; rw [hjun] at h; cases h
          · rw [getD_set_ne true hjx]; exact h
        · exact .inr h
      constructor
      · intro hk
        rcases hw with hw | hw
        · exact absurd hj (waits_spec (hw j hk) hif)
        · have h2 := wpOp_putIf hoj hap (fun cs b => hsel i oi cs b hi) (fun cs b => hsel j oj cs b hoj) hQ' hy (h1.1 hk)
          refine wpOp_mono (fun a' w' h3 => ?_) h2
          have hy3 : YieldsIf P ops (fun _ => True) oi v a' := h3.1.imp (fun ⟨g1, g2⟩ => ⟨g1, fun x _ => g2 x (hw x)⟩) id
          refine wpAnyH_take hi hs hfree' (by simpa using ready_mono hr (Ne.symm hji)) hQ' hy3 trivial ?_
          rw [Array.setIfInBounds_comm _ _ hji]
          exact h3.2
      · intro hk
        have h2 := wpOp_putIf hoj hap (fun cs b => hsel i oi cs b hi) (fun cs b => hsel j oj cs b hoj) hQ' hy (h1.2 hk)
        refine wpOp_mono (fun a' w' h3 => ⟨h3.2.1, ih (l.setIfInBounds j true) a' w' hfree' (ready_mono hr (Ne.symm hji)) h3.1 h3.2.1 ?_⟩) h2
        rw [Array.setIfInBounds_comm _ _ hji]
        exact h3.2.2

/-- A schedule with a tail: operations that read, for which the tail waits · operations that look at no world · one that is carried out · the tail. -/
inductive Pre where
  | held (seg : List Nat) (s : Pre)
  | pure (seg : List Nat) (s : Pre)
  | call (i : Nat) (s : Pre)
  | tail (s : Sched)
def wpPre (P : Program) (ops : Array Oper) (L : World → World → Prop) (Q : Act → World → Prop) : Pre → Act → World → Prop
  | .held seg s, a, w => wpQuiet P ops (fun w' => ∃ t : Cls (L w), w' = t.val) (fun a' => wpPre P ops L Q s a' w) (pick ops seg) a
  | .pure seg s, a, w => wpQuiet P ops (fun w' => ∃ t : Cls (fun _ => True), w' = t.val) (fun a' => wpPre P ops L Q s a' w) (pick ops seg) a
  | .call i s, a, w => callAt P ops L i (wpPre P ops L Q s) a w
  | .tail s, a, w => wpSched P ops (fun _ _ => True) Q s a w
def preOk (ops : Array Oper) (KS : List Nat) : Pre → Nat → Array Bool → Bool
  | .held seg s, n, l => match takeAll ops seg l with
    | none => false
    | some l' => (seg.all fun i => !KS.contains i && KS.all fun k => waits ops k i) && decide (seg.length ≤ n) && preOk ops KS s (n - seg.length) l'
  | .pure seg s, n, l => match takeAll ops seg l with
    | none => false
    | some l' => (seg.all fun i => !KS.contains i) && decide (seg.length ≤ n) && preOk ops KS s (n - seg.length) l'
  | .call i s, n, l => (Region.ready .any ops l == [i]) && !KS.contains i && decide (1 ≤ n) && preOk ops KS s (n - 1) (l.setIfInBounds i true)
  | .tail s, n, l => ((Region.ready .any ops l).all fun i => KS.contains i) && schedOk ops s n l

theorem quiet_sound {KS : List Nat} {S T : World → Prop} (hST : ∀ w, S w → T w) {w : World} (hS : S w) (hs : Region.noSelect ops = true) (hQ : ∀ c a w, ¬ Q (.panic c) a w) {K : Act → Prop} {fuel : Nat} {l' : Array Bool}
    (hK : ∀ a', K a' → wpAnyT P ops Q KS S fuel l' a' w) : ∀ (is : List Nat) (l : Array Bool) (a : Act), takeAll ops is l = some l' → (∀ i ∈ is, KS.contains i = false) → ((∀ i ∈ is, ∀ k, KS.contains k = true → waits ops k i = true) ∨ ∀ w, T w) →
      wpQuiet P ops (fun w' => ∃ t : Cls T, w' = t.val) K (pick ops is) a → wpAnyT P ops Q KS S (fuel + is.length) l a w
  | [], l, a, ht, _, _, h => by
    simp only [takeAll, Option.some.injEq] at ht
    subst ht
    exact hK a h
  | i :: is, l, a, ht, hn, hw, h => by
    unfold takeAll at ht
    split at ht
    · cases ht
    · rename_i o ho
      split at ht
      · rename_i hb
        simp only [Bool.and_eq_true] at hb
        have hp : pick ops (i :: is) = o :: pick ops is := by simp only [pick, ho]
        rw [hp] at h
        unfold wpQuiet at h
        rw [show fuel + (i :: is).length = (fuel + is.length) + 1 from rfl]
        have hw1 : (∀ k, KS.contains k = true → waits ops k i = true) ∨ ∀ w, T w := hw.imp (fun g => g i (List.mem_cons_self ..)) id
        have hw2 : (∀ j ∈ is, ∀ k, KS.contains k = true → waits ops k j = true) ∨ ∀ w, T w := hw.imp (fun g j hj => g j (List.mem_cons_of_mem _ hj)) id
        have hn2 : ∀ j ∈ is, KS.contains j = false := fun j hj => hn j (List.mem_cons_of_mem _ hj)
        by_cases hwd : Region.wanted o (yielded ops a.tmps) = true
        · rw [if_pos hwd] at h
          obtain ⟨v, hv, hnx⟩ := h
          refine wpAnyT_first hST ho hs hQ (hn i (List.mem_cons_self ..)) hw1 _ l a w hb.1.2 (by simpa using hb.2) (.inl ⟨hwd, fun x hx => ?_⟩) hS (quiet_sound hST hS hs hQ hK is _ _ ht hn2 hw2 hnx)
          have h1 := hv x ⟨⟨x, hx⟩, rfl⟩
          unfold Oper.quietAt at h1
          cases hr : (execOp a.eval o).run P x with
          | ok n w' =>
            obtain ⟨u, rfl⟩ := isVal_run hb.1.1 hr
            rw [hr] at h1
            obtain ⟨e1, e2⟩ := h1
            rw [e1, e2]
          | halt y w' => rw [hr] at h1; exact h1.elim
        · rw [if_neg hwd] at h
          exact wpAnyT_first hST ho hs hQ (hn i (List.mem_cons_self ..)) hw1 _ l a w hb.1.2 (by simpa using hb.2) (.inr ⟨by simpa using hwd, rfl⟩) hS (quiet_sound hST hS hs hQ hK is _ _ ht hn2 hw2 h)
      · cases ht

theorem pre_sound {KS : List Nat} {L : World → World → Prop} (hL : ∀ w, L w w) (hT : ∀ u v w, L u v → L v w → L u w) (hs : Region.noSelect ops = true) (hQ : ∀ c a w, ¬ Q (.panic c) a w) :
    ∀ (s : Pre) (n : Nat) (l : Array Bool) (a : Act) (w : World), preOk ops KS s n l = true → wpPre P ops L (fun a w => Q .normal a w) s a w → wpAnyT P ops Q KS (L w) n l a w
  | .held seg s, n, l, a, w, hok, h => by
    unfold preOk at hok
    split at hok
    · cases hok
    · rename_i l' ht
      simp only [Bool.and_eq_true, List.all_eq_true, decide_eq_true_eq, Bool.not_eq_true'] at hok
      obtain ⟨⟨h1, h2⟩, h3⟩ := hok
      have := quiet_sound (KS := KS) (S := L w) (T := L w) (fun _ h => h) (hL w) hs hQ (K := fun a' => wpPre P ops L (fun a w => Q .normal a w) s a' w) (fuel := n - seg.length) (l' := l')
        (fun a' hk => pre_sound hL hT hs hQ s _ _ a' w h3 hk) seg l a ht (fun i hi => (h1 i hi).1) (.inl fun i hi k hk => (h1 i hi).2 k (by simpa using hk)) h
      rw [show n - seg.length + seg.length = n by omega] at this
      exact this
  | .pure seg s, n, l, a, w, hok, h => by
    unfold preOk at hok
    split at hok
    · cases hok
    · rename_i l' ht
      simp only [Bool.and_eq_true, List.all_eq_true, decide_eq_true_eq, Bool.not_eq_true'] at hok
      obtain ⟨⟨h1, h2⟩, h3⟩ := hok
      have := quiet_sound (KS := KS) (S := L w) (T := fun _ => True) (fun _ _ => trivial) (hL w) hs hQ (K := fun a' => wpPre P ops L (fun a w => Q .normal a w) s a' w) (fuel := n - seg.length) (l' := l')
        (fun a' hk => pre_sound hL hT hs hQ s _ _ a' w h3 hk) seg l a ht (fun i hi => h1 i hi) (.inr fun _ => trivial) h
      rw [show n - seg.length + seg.length = n by omega] at this
      exact this
  | .call i s, n, l, a, w, hok, h => by
    unfold preOk at hok
    simp only [Bool.and_eq_true, beq_iff_eq, decide_eq_true_eq, Bool.not_eq_true'] at hok
    obtain ⟨⟨⟨h1, h2⟩, h3⟩, h4⟩ := hok
    obtain ⟨m, rfl⟩ : ∃ m, n = m + 1 := ⟨n - 1, by omega⟩
    refine ⟨fun h0 => (by rw [h1] at h0; cases h0), fun j hj => ?_⟩
    rw [h1] at hj
    obtain rfl := List.mem_singleton.1 hj
    refine ⟨(fun hk => by rw [h2] at hk; cases hk), fun _ => ?_⟩
    have h : callAt P ops L j (wpPre P ops L (fun a w => Q .normal a w) s) a w := h
    unfold callAt at h
    unfold wpOp
    cases ho : ops[j]? with
    | none => rw [ho] at h; exact h.elim
    | some o =>
      rw [ho] at h
      simp only at h ⊢
      have step : ∀ a2 w2, (L w w2 ∧ wpPre P ops L (fun a w => Q .normal a w) s a2 w2) → (L w w2 ∧ wpAnyT P ops Q KS (L w) m (l.setIfInBounds j true) a2 w2) := fun a2 w2 ⟨g1, g2⟩ =>
        ⟨g1, wpAnyT_mono (fun x hx => hT _ _ _ g1 hx) _ _ _ _ (pre_sound hL hT hs hQ s m _ a2 w2 h4 g2)⟩
      by_cases hw : Region.wanted o (yielded ops a.tmps) = true
      · rw [if_pos hw] at h ⊢
        refine .inl ?_
        unfold Oper.wp at h ⊢
        generalize (execOp a.eval o).run P w = r at h ⊢
        cases r with
        | ok n w' =>
          cases n <;> simp only [Oper.upon] at h ⊢
          case value u => exact step _ _ h
          case skip => exact step _ _ h
          case defer d => exact step _ _ h
          case enter f args =>
            refine Calls.mono h fun e w'' he => ?_
            cases e with
            | returned u => exact step _ _ he
            | panicked c => exact he.elim
            | outgrown => obtain ⟨_, _, he⟩ := he; exact he.elim
          case row row args => exact Rows.mono h fun u w'' he => step _ _ he
        | halt x w' => cases x <;> simp only [Oper.upon] at h
      · rw [if_neg hw] at h ⊢
        exact step _ _ ⟨hL w, h⟩
  | .tail s, n, l, a, w, hok, h => by
    unfold preOk at hok
    simp only [Bool.and_eq_true, List.all_eq_true] at hok
    exact wpAnyT_tail hok.1 (sched_sound (L := fun _ _ => True) (fun _ => trivial) (fun _ _ _ _ _ => trivial) hs hQ s n l a w hok.2 h)
end

/-- **THE LAW, FOR A SCHEDULE WITH A TAIL.** -/
theorem wp_region_pre (L : World → World → Prop) (hL : ∀ w, L w w) (hT : ∀ u v w, L u v → L v w → L u w) (KS : List Nat) (s : Pre)
    {P : Program} {id : Nat} {Q : Exit → Act → World → Prop} {a : Act} {w : World} {ops : Array Oper} (hm : P.follows .mixedOrders = true)
    (hok : (Region.noSelect ops && preOk ops KS s ops.size (Array.replicate ops.size false)) = true)
    (h : wpPre P ops L (fun a w => Q .normal a w) s a w.drew) : (Code.region id ops true).wp P Q a w := by
  simp only [Bool.and_eq_true] at hok
  have h1 : (Code.region id ops true).wp P (Plain Q) a w := by
    refine wp_region_held (S := fun _ => True) hm ?_
    exact wpAny_of_tail _ _ _ _ (pre_sound (Q := Plain Q) hL hT hok.1 (fun _ _ _ h => h) s _ _ a w.drew hok.2 h)
  exact Code.wp_mono (fun e a w h => by cases e <;> first | exact h | exact h.elim) h1

theorem wpPre_held {P : Program} {ops : Array Oper} {L : World → World → Prop} {Q : Act → World → Prop} {seg : List Nat} {s : Pre} {a : Act} {w : World} :
    wpPre P ops L Q (.held seg s) a w = wpQuiet P ops (fun w' => ∃ t : Cls (L w), w' = t.val) (fun a' => wpPre P ops L Q s a' w) (pick ops seg) a := rfl
theorem wpPre_pure {P : Program} {ops : Array Oper} {L : World → World → Prop} {Q : Act → World → Prop} {seg : List Nat} {s : Pre} {a : Act} {w : World} :
    wpPre P ops L Q (.pure seg s) a w = wpQuiet P ops (fun w' => ∃ t : Cls (fun _ => True), w' = t.val) (fun a' => wpPre P ops L Q s a' w) (pick ops seg) a := rfl
theorem wpPre_call {P : Program} {ops : Array Oper} {L : World → World → Prop} {Q : Act → World → Prop} {i : Nat} {s : Pre} {a : Act} {w : World} :
    wpPre P ops L Q (.call i s) a w = callAt P ops L i (wpPre P ops L Q s) a w := rfl
theorem wpPre_tail {P : Program} {ops : Array Oper} {L : World → World → Prop} {Q : Act → World → Prop} {s : Sched} {a : Act} {w : World} :
    wpPre P ops L Q (.tail s) a w = wpSched P ops (fun _ _ => True) Q s a w := rfl
theorem cls_nonempty_true : Nonempty (Cls (fun _ => True)) := ⟨⟨default, trivial⟩⟩
end Go.Flow

namespace Go.Proofs.YthgefcoaaommkaaGreatDoor
open Go.RowKit Go.Shelf Go.Sort Go.Lib

theorem flat_get {α : Type} [Inhabited α] (enc : α → List Value) {k : Nat} (hk : ∀ x, (enc x).length = k) : ∀ (l : List α) (t : Nat), t < l.length * k → (l.flatMap enc)[t]? = some ((enc l.toArray[t / k]!)[t % k]!)
  | [], t, h => by simp at h
  | a :: l, t, h => by
    have hk0 : 0 < k := by rcases Nat.eq_zero_or_pos k with h0 | h0; · subst h0; simp at h
                           · exact h0
    rw [List.flatMap_cons]
    by_cases ht : t < k
    · rw [List.getElem?_append_left (by rw [hk]; exact ht), Nat.div_eq_of_lt ht, Nat.mod_eq_of_lt ht]
      have hl : t < (enc a).length := by rw [hk]; exact ht
      simp [hl]
    · rw [List.getElem?_append_right (by rw [hk]; omega), hk, flat_get enc hk l (t - k) (by rw [List.length_cons, Nat.add_mul] at h; omega)]
      have e1 : t / k = (t - k) / k + 1 := by
        rw [← Nat.add_div_right _ hk0]; congr 1; omega
      have e2 : t % k = (t - k) % k := by
        rw [← Nat.add_mod_right (t - k) k]; congr 1; omega
      rw [e1, e2]
      simp
theorem flatMap_len {α : Type} (enc : α → List Value) {k : Nat} (hk : ∀ x, (enc x).length = k) : ∀ (l : List α), (l.flatMap enc).length = l.length * k
  | [] => by simp
  | a :: l => by rw [List.flatMap_cons, List.length_append, hk, flatMap_len enc hk l, List.length_cons, Nat.add_mul]; omega
theorem flatK_list {α : Type} [Inhabited α] (enc : α → List Value) {k : Nat} (hk : ∀ x, (enc x).length = k) (l : List α) : flatK enc k l.toArray = (l.flatMap enc).toArray := by
  refine ext_get! (by simp [flatMap_len enc hk]) fun t ht => ?_
  have ht' : t < l.length * k := by simpa using ht
  rw [get_flatK _ _ _ t (by simpa using ht')]
  have h := flat_get enc hk l t ht'
  have e : (l.flatMap enc).toArray[t]! = ((l.flatMap enc)[t]?).getD default := by simp
  rw [e, h]
  rfl
theorem heap_sortedG {w : World} {g n : Nat} {os : Array Obj} {cur : Array Value} {e : TypeId} {fr : Nat × Nat} (d : Array Value) (hb : w.heap[g]? = some (.cells cur e fr)) :
    (grow (putRow id (Sort.ahead w n) g 0 d) os).heap[g]? = some (.cells (putCells id 0 d cur) e fr) := by
  have hg : g < w.heap.size := (Array.getElem?_eq_some_iff.1 hb).1
  rw [heap_grow_old _ _ (by simpa using hg)]
  simp [putRow, mapBlock, Sort.ahead, Array.getElem?_modify, hb, onCells]
theorem grownBy_sortedG {w : World} {g n : Nat} {os : Array Obj} (d : Array Value) : w.grownBy (grow (putRow id (Sort.ahead w n) g 0 d) os) (some g) := by
  refine ⟨rfl, rfl, rfl, by simp, fun k hk hne => ?_⟩
  rw [heap_grow_old _ _ (by simpa using hk)]
  have : g ≠ k := fun e => hne (by rw [e])
  simp [putRow, mapBlock, Sort.ahead, Array.getElem?_modify, this]
theorem take_putCellsG (cur : Array Value) (ts : List Value) (h : ts.length ≤ cur.size) : (putCells id 0 ts.toArray cur).toList.take ts.length = ts := by
  apply List.ext_getElem?
  intro j
  by_cases hj : j < ts.length
  · rw [List.getElem?_take_of_lt hj, Array.getElem?_toList]
    simp [putCells, hj, show j < cur.size by omega]
  · rw [List.getElem?_take_eq_none (by omega), List.getElem?_eq_none (by omega)]
theorem holdsG_of_block {w : World} {g m : Nat} {cur : Array Value} {e : TypeId} {xs : List Value} (hb : w.heap[g]? = some (.cells cur e (0, 0))) (hm : m = xs.length) (ht : cur.toList.take m = xs) : Holds id w g 0 xs.toArray := by
  intro j hj
  have hj' : j < xs.length := by simpa using hj
  refine ⟨?_, by simp [World.frozen?, hb]⟩
  have h1 : (cur.toList.take m)[j]? = xs[j]? := by rw [ht]
  rw [List.getElem?_take_of_lt (by omega)] at h1
  simp only [World.cell?, hb, Nat.zero_add]
  simp only [Option.isSome_none, Bool.false_eq_true, if_false]
  rw [← Array.getElem?_toList, h1]
  simp [hj']
theorem sortG {P : Program} {ρ : Ren} {α : Type} [Inhabited α] (L : SlLaysF0.n6 P ρ) (k : Nat) (aE : ∀ w, (isAgg (ρ.t 24)).run P w = .ok true w) (zE : ∀ w, (Go.sizeOf (ρ.t 24)).run P w = .ok k w) (enc : α → List Value) (hk : ∀ x, (enc x).length = k) (h1 : ∀ x, ∀ v ∈ enc x, v.oneCell' = true) (cf : α → α → Int) (hO : SWO (ltOf cf)) (f : Nat) (cb : Array Value)
    (eg : ∀ args w, (callFunc f args).run P w = .ok (.enter f args) w) (hf : ∀ x y W, Calls P f (#[.agg (enc x).toArray, .agg (enc y).toArray] ++ cb) W fun e w' => e = .returned (.int .i64 (cf x y)) ∧ ∃ q os', w' = grow (W.drewN q) os')
    (base : Nat) (e : TypeId) (A : Option Addr) (c : Nat) (l : List α) (w : World) (hown : w.ownsRow base e k (.slice A l.length c) l.length (l.flatMap enc)) (hn : l.length ≤ 1000000) :
    Calls P (ρ.f 6) #[.slice A l.length c, .func (.func f) #[] cb] w fun e' w' => e' = .returned (.tuple #[]) ∧
      ∃ m : List α, m.Perm l ∧ (m.Pairwise fun x y => ltOf cf y x = false) ∧ w'.ownsRow base e k (.slice A l.length c) l.length (m.flatMap enc) ∧ w.grownBy w' (Value.slice A l.length c).ownBlock := by
  rcases hown.2 with ⟨e1, e2⟩ | ⟨g, cap, cur, e1, hbase, hb, h2, h3, h4, h5⟩
  · have hl : l = [] := List.eq_nil_of_length_eq_zero (by omega)
    subst hl
    cases e1
    refine (AnyF.slices_SortFunc_none L none 0 (.func (.func f) #[] cb) w).mono fun e' w' ⟨h1, h2⟩ => ⟨h1, [], List.Perm.refl _, by simp, by rw [h2]; exact hown, by rw [h2]; exact ⟨rfl, rfl, rfl, Nat.le_refl _, fun _ _ _ => rfl⟩⟩
  · cases e1
    have hg : g < w.heap.size := (Array.getElem?_eq_some_iff.1 hb).1
    have hlen := flatMap_len enc hk l
    have hH : Holds id w g 0 (l.flatMap enc).toArray := holdsG_of_block hb hlen.symm h5
    have hHK : HoldsK enc k w g 0 l.toArray := by unfold HoldsK; rw [flatK_list enc hk]; exact hH
    have h := AnyQ.slices_SortFunc L k aE zE enc hk h1 cf hO f cb g 0 c l.toArray w eg (fun _ _ _ _ x y => hf x y _) hHK hg (by simp; omega)
    rw [show l.toArray.size = l.length by simp] at h
    refine h.mono fun e' w' ⟨h1, d, n, os, hp, hs, hw⟩ => ?_
    have hds : d.size = l.length := by have := hp.1; simpa using this
    have hF : flatK enc k d = (d.toList.flatMap enc).toArray := flatK_list enc hk d.toList
    refine ⟨h1, d.toList, ?_, ?_, ?_, ?_⟩
    · have h3 := hp.2.2
      have e1 : (d.extract 0 l.length).toList = d.toList := by rw [← hds]; simp
      have e2 : (l.toArray.extract 0 l.length).toList = l := by simp
      rw [e1, e2] at h3
      exact h3
    · rw [List.pairwise_iff_getElem]
      intro i j hi hj hij
      have hi' : i < d.size := by simpa using hi
      have hj' : j < d.size := by simpa using hj
      have := hs i j (Nat.zero_le _) hij (by omega)
      simp [hi', hj'] at this
      simpa using this
    · rw [hw]
      unfold sortWorldK putRowK
      rw [hF]
      have hdl : (d.toList.flatMap enc).length = l.length * k := by rw [flatMap_len enc hk]; simp [hds]
      refine ⟨hdl, .inr ⟨g, c, _, rfl, hbase, heap_sortedG _ hb, h2, h3, by simp [putCells, h4], ?_⟩⟩
      rw [← hdl]
      exact take_putCellsG cur _ (by rw [hdl, h4]; exact Nat.mul_le_mul_right _ h2)
    · rw [hw]; exact grownBy_sortedG _
end Go.Proofs.YthgefcoaaommkaaGreatDoor
