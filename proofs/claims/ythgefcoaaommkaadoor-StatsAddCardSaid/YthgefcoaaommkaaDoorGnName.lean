/- Group names: components, the check of a name, hierarchies, lists of names. Of no program. -/
import Derived.Test.YthgefcoaaommkaaDoorGnParts
import Derived.Test.YthgefcoaaommkaaDoorGnOrder
namespace Go.Gn

def isLow (c : UInt8) : Bool := decide (97 ≤ c.toNat) && decide (c.toNat ≤ 122)
def okB (c : UInt8) : Bool := isLow c || (decide (48 ≤ c.toNat) && decide (c.toNat ≤ 57)) || decide (c.toNat = 45) || decide (c.toNat = 43) || decide (c.toNat = 95)
/-- A component of a name. -/
def comp (s : List UInt8) : Bool := decide (1 ≤ s.length) && decide (s.length ≤ 20) && isLow (s.getD 0 0) && s.all okB
theorem comp_iff (s : List UInt8) : comp s = true ↔ 1 ≤ s.length ∧ s.length ≤ 20 ∧ isLow (s.getD 0 0) = true ∧ s.all okB = true := by simp [comp, and_assoc]
theorem okB_low {c : UInt8} (h : isLow c = true) : okB c = true := by simp [okB, h]
theorem comp_pos {s : List UInt8} (h : comp s = true) : 1 ≤ s.length := ((comp_iff s).1 h).1
theorem comp_free {s : List UInt8} {c : UInt8} (hc : okB c = false) (h : comp s = true) : c ∉ s := fun hm => by
  have := List.all_eq_true.1 ((comp_iff s).1 h).2.2.2 c hm
  rw [hc] at this; cases this
theorem comp_dot {s : List UInt8} (h : comp s = true) : (46 : UInt8) ∉ s := comp_free (by decide) h
theorem comp_comma {s : List UInt8} (h : comp s = true) : (44 : UInt8) ∉ s := comp_free (by decide) h

/-- The error of a name. -/
def check (s : List UInt8) : Nat := if 80 < s.length then 5 else if (parts 46 s).any (fun p => !comp p) then 12 else if 10 < (parts 46 s).length then 9 else 0
theorem check_zero (s : List UInt8) : check s = 0 ↔ s.length ≤ 80 ∧ (∀ p ∈ parts 46 s, comp p = true) ∧ (parts 46 s).length ≤ 10 := by
  unfold check
  have e : (parts 46 s).any (fun p => !comp p) = true ↔ ¬ ∀ p ∈ parts 46 s, comp p = true := by
    simp only [List.any_eq_true, Bool.not_eq_true', Classical.not_forall, Bool.not_eq_true, exists_prop]
  split
  · simp; omega
  · split
    · rename_i h; have := e.1 h; simp; intro _ h2; exact absurd h2 this
    · rename_i h
      have h2 : ∀ p ∈ parts 46 s, comp p = true := Classical.byContradiction fun hn => h (e.2 hn)
      split
      · simp; omega
      · simp; exact ⟨by omega, h2, by omega⟩
theorem check_cases (s : List UInt8) : check s = 0 ∨ check s = 5 ∨ check s = 12 ∨ check s = 9 := by
  unfold check; split <;> (try split) <;> (try split) <;> simp
theorem check_comma {s : List UInt8} (h : check s = 0) : (44 : UInt8) ∉ s := fun hm => by
  have h2 := ((check_zero s).1 h).2.1
  rw [← text_parts 46 s] at hm
  have : ∀ (xs : List (List UInt8)), (∀ p ∈ xs, comp p = true) → (44 : UInt8) ∉ text 46 xs := by
    intro xs
    induction xs with
    | nil => intro _; simp [text_nil]
    | cons x r ih =>
      intro hp
      cases r with
      | nil => rw [text_one]; exact comp_comma (hp x (by simp))
      | cons y r =>
        rw [text_cons]
        have := comp_comma (hp x (by simp))
        have := ih (fun p hp' => hp p (by simp [hp']))
        simp [*]
  exact this _ h2 hm
theorem check_nil : check [] = 12 := by decide
theorem check_pos {s : List UInt8} (h : check s = 0) : 1 ≤ s.length := by
  cases s with
  | nil => rw [check_nil] at h; cases h
  | cons _ _ => simp

/-- The order of names. -/
def gcmp (a b : List UInt8) : Int := lex scmp (parts 46 a) (parts 46 b)
theorem gcmp_lin : Lin gcmp where
  zero a b := by
    unfold gcmp
    rw [(lex_lin scmp_lin).zero]
    exact ⟨fun h => parts_inj h, fun h => by rw [h]⟩
  anti a b := (lex_lin scmp_lin).anti _ _
  trans a b d := (lex_lin scmp_lin).trans _ _ _
  lo a b := (lex_lin scmp_lin).lo _ _
  hi a b := (lex_lin scmp_lin).hi _ _

/-- A name belongs to a hierarchy. -/
def within (a h : List UInt8) : Bool := decide (check a = 0) && decide (check h = 0) && (parts 46 h).isPrefixOf (parts 46 a)
theorem within_iff (a h : List UInt8) : within a h = true ↔ check a = 0 ∧ check h = 0 ∧ parts 46 h <+: parts 46 a := by simp [within, and_assoc]
theorem within_refl {a : List UInt8} (h : check a = 0) : within a a = true := (within_iff a a).2 ⟨h, h, List.prefix_refl _⟩
theorem within_anti {a b : List UInt8} (h : within a b = true) (k : within b a = true) : a = b := by
  have h1 := ((within_iff a b).1 h).2.2
  have h2 := ((within_iff b a).1 k).2.2
  exact parts_inj (h2.eq_of_length_le h1.length_le)
theorem within_trans {a b c : List UInt8} (h : within a b = true) (k : within b c = true) : within a c = true := by
  have h1 := (within_iff a b).1 h
  have h2 := (within_iff b c).1 k
  exact (within_iff a c).2 ⟨h1.1, h2.2.1, h2.2.2.trans h1.2.2⟩
/-- The code's test: the same name, or the hierarchy and a dot ahead. -/
theorem dot_prefix (a h : List UInt8) : (a = h ∨ (h ++ [46]) <+: a) ↔ parts 46 h <+: parts 46 a := by
  constructor
  · rintro (rfl | ⟨t, rfl⟩)
    · exact List.prefix_refl _
    · have : ∀ (s : List UInt8), parts 46 s <+: parts 46 (s ++ [46] ++ t) := by
        intro s
        induction s with
        | nil => simp [parts]
        | cons b s ih =>
          obtain ⟨r, hr⟩ := ih
          obtain ⟨x, q, hx⟩ := List.exists_cons_of_ne_nil (parts_ne_nil 46 s)
          by_cases hb : b = 46
          · rw [hb, List.cons_append, List.cons_append, parts_cons_eq, parts_cons_eq]; exact ⟨r, by rw [← hr]; rfl⟩
          · rw [List.cons_append, List.cons_append, parts_cons_ne hb, parts_cons_ne hb]; exact ⟨r, by rw [← hr, hx]; rfl⟩
      exact this h
  · rintro ⟨r, hr⟩
    cases r with
    | nil => left; rw [List.append_nil] at hr; exact (parts_inj hr).symm
    | cons x r =>
      right
      have e := text_parts 46 a
      rw [← hr] at e
      have : ∀ (xs : List (List UInt8)), xs ≠ [] → ∃ t, text 46 (xs ++ x :: r) = text 46 xs ++ [46] ++ t := by
        intro xs hne
        induction xs with
        | nil => exact absurd rfl hne
        | cons y q ih =>
          cases q with
          | nil => refine ⟨text 46 (x :: r), ?_⟩; rw [List.singleton_append, text_cons, text_one]; simp
          | cons z q =>
            obtain ⟨t, ht⟩ := ih (by simp)
            refine ⟨t, ?_⟩
            rw [List.cons_append, text_cons' _ _ _ (by simp), ht, text_cons]; simp
      obtain ⟨t, ht⟩ := this _ (parts_ne_nil 46 h)
      rw [text_parts] at ht
      exact ⟨t, by rw [← ht, e]⟩
/-- The reference's test: the text of as many parts as the hierarchy has. -/
theorem take_text (a h : List UInt8) (hl : (parts 46 h).length ≤ (parts 46 a).length) : (text 46 ((parts 46 a).take (parts 46 h).length) = h) ↔ parts 46 h <+: parts 46 a := by
  rw [List.prefix_iff_eq_take]
  constructor
  · intro e
    have hp := parts_pos 46 h
    have := parts_text 46 ((parts 46 a).take (parts 46 h).length) (by
      intro e'
      have := congrArg List.length e'
      simp only [List.length_take, List.length_nil] at this; omega) (fun x hx => parts_free 46 a x (List.mem_of_mem_take hx))
    rw [e] at this
    exact this
  · intro e; rw [← e, text_parts]

/-- What precedes the last dot. -/
theorem check_text {xs : List (List UInt8)} (h0 : xs ≠ []) (h1 : ∀ p ∈ xs, comp p = true) (h2 : xs.length ≤ 10) (h3 : (text 46 xs).length ≤ 80) : check (text 46 xs) = 0 := by
  rw [check_zero, parts_text 46 xs h0 (fun x hx => comp_dot (h1 x hx))]
  exact ⟨h3, h1, h2⟩
theorem check_take {a : List UInt8} (h : check a = 0) (k : Nat) (hk : 1 ≤ k) : check (text 46 ((parts 46 a).take k)) = 0 := by
  have h' := (check_zero a).1 h
  have hp := parts_pos 46 a
  refine check_text ?_ (fun p hp => h'.2.1 p (List.mem_of_mem_take hp)) ?_ ?_
  · intro e; have := congrArg List.length e; simp only [List.length_take, List.length_nil] at this; omega
  · simp; omega
  · have := text_length_take 46 (parts 46 a) k; rw [text_parts] at this; omega
theorem parts_take {a : List UInt8} (k : Nat) (hk : 1 ≤ k) : parts 46 (text 46 ((parts 46 a).take k)) = (parts 46 a).take k := by
  have hp := parts_pos 46 a
  refine parts_text 46 _ ?_ (fun x hx => parts_free 46 a x (List.mem_of_mem_take hx))
  intro e; have := congrArg List.length e; simp only [List.length_take, List.length_nil] at this; omega
theorem within_take {a : List UInt8} (h : check a = 0) (k : Nat) (hk : 1 ≤ k) : within a (text 46 ((parts 46 a).take k)) = true :=
  (within_iff _ _).2 ⟨h, check_take h k hk, by rw [parts_take k hk]; exact List.take_prefix _ _⟩

/-- How many components two lists have in common at their beginning. -/
def same0 : List (List UInt8) → List (List UInt8) → Nat
  | a :: x, b :: y => if a = b then same0 x y + 1 else 0
  | _, _ => 0
theorem same0_le : ∀ x y, same0 x y ≤ x.length ∧ same0 x y ≤ y.length
  | [], y => by simp [same0]
  | _ :: _, [] => by simp [same0]
  | a :: x, b :: y => by have := same0_le x y; unfold same0; split <;> simp <;> omega
theorem same0_take : ∀ x y : List (List UInt8), x.take (same0 x y) = y.take (same0 x y)
  | [], y => by simp [same0]
  | _ :: _, [] => by simp [same0]
  | a :: x, b :: y => by
    have ih := same0_take x y
    unfold same0
    split
    · rename_i e; subst e; simp [ih]
    · simp
theorem same0_most : ∀ (x y p : List (List UInt8)), p <+: x → p <+: y → p.length ≤ same0 x y
  | _, _, [], _, _ => by simp
  | [], _, c :: p, h, _ => by have := h.length_le; simp at this
  | _ :: _, [], c :: p, _, h => by have := h.length_le; simp at this
  | a :: x, b :: y, c :: p, h1, h2 => by
    rw [List.cons_prefix_cons] at h1 h2
    have ih := same0_most x y p h1.2 h2.2
    unfold same0
    rw [if_pos (h1.1.symm.trans h2.1)]
    simp; omega
theorem same0_eq : ∀ (x y : List (List UInt8)) (k : Nat), k ≤ x.length → k ≤ y.length → (∀ j, j < k → x[j]? = y[j]?) → (k < x.length → k < y.length → x[k]? ≠ y[k]?) → same0 x y = k
  | [], y, k, h1, _, _, _ => by simp at h1; simp [same0, h1]
  | _ :: _, [], k, _, h2, _, _ => by simp at h2; simp [same0, h2]
  | a :: x, b :: y, k, h1, h2, h3, h4 => by
    unfold same0
    cases k with
    | zero => have := h4 (by simp) (by simp); simp at this; rw [if_neg this]
    | succ k =>
      have e := h3 0 (by omega)
      simp at e
      rw [if_pos e, same0_eq x y k (by simpa using h1) (by simpa using h2) (fun j hj => by simpa using h3 (j + 1) (by omega)) (fun a b => by simpa using h4 (by simpa using a) (by simpa using b))]
/-- The smallest hierarchy to which both belong; empty: none. -/
def common (a b : List UInt8) : List UInt8 := text 46 ((parts 46 a).take (same0 (parts 46 a) (parts 46 b)))
theorem common_spec {a b : List UInt8} (ha : check a = 0) (hb : check b = 0) (k : Nat) (hk : 1 ≤ k) (hl : k ≤ (parts 46 a).length) :
    (within a (text 46 ((parts 46 a).take k)) && within b (text 46 ((parts 46 a).take k))) = decide (k ≤ same0 (parts 46 a) (parts 46 b)) := by
  rw [within_take ha k hk, Bool.true_and, Bool.eq_iff_iff, within_iff, parts_take k hk, decide_eq_true_eq]
  constructor
  · intro ⟨_, _, h⟩
    have := same0_most _ _ _ (List.take_prefix k (parts 46 a)) h
    simp at this; omega
  · intro h
    refine ⟨hb, check_take ha k hk, ?_⟩
    have e : (parts 46 a).take k = (parts 46 b).take k := by
      have := congrArg (List.take k) (same0_take (parts 46 a) (parts 46 b))
      rw [List.take_take, List.take_take, Nat.min_eq_left h] at this
      exact this
    rw [e]; exact List.take_prefix _ _
theorem common_ne {a b : List UInt8} (ha : check a = 0) : common a b = [] ↔ same0 (parts 46 a) (parts 46 b) = 0 := by
  unfold common
  constructor
  · intro e
    rcases Nat.eq_zero_or_pos (same0 (parts 46 a) (parts 46 b)) with h | h
    · exact h
    · have := check_take ha _ h
      rw [e, check_nil] at this; cases this
  · intro e; rw [e]; rfl
theorem common_within {a b c : List UInt8} (h1 : within a c = true) (h2 : within b c = true) : within (common a b) c = true := by
  have a1 := (within_iff a c).1 h1
  have b1 := (within_iff b c).1 h2
  have hm := same0_most _ _ _ a1.2.2 b1.2.2
  have hp := parts_pos 46 c
  unfold common
  refine (within_iff _ _).2 ⟨check_take a1.1 _ (by omega), a1.2.1, ?_⟩
  rw [parts_take _ (by omega)]
  exact List.prefix_take_iff.2 ⟨a1.2.2, hm⟩
theorem common_pos {a b c : List UInt8} (h1 : within a c = true) (h2 : within b c = true) : common a b ≠ [] := by
  have a1 := (within_iff a c).1 h1
  have b1 := (within_iff b c).1 h2
  have hm := same0_most _ _ _ a1.2.2 b1.2.2
  have hp := parts_pos 46 c
  rw [Ne, common_ne a1.1]; omega

/-- A hierarchy precedes what belongs to it; what lies between belongs to it as well. -/
theorem lex_prefix {α : Type} {c : α → α → Int} (h : Lin c) : ∀ (x y : List α), x <+: y → lex c x y ≤ 0
  | [], [], _ => by simp [lex]
  | [], _ :: _, _ => by simp [lex]
  | _ :: _, [], e => by have := e.length_le; simp at this
  | a :: x, b :: y, e => by
    rw [List.cons_prefix_cons] at e
    unfold lex
    rw [if_pos ((h.zero a b).2 e.1)]
    exact lex_prefix h x y e.2
theorem lex_between {α : Type} {c : α → α → Int} (h : Lin c) : ∀ (p x y z : List α), p <+: x → p <+: z → lex c x y ≤ 0 → lex c y z ≤ 0 → p <+: y
  | [], _, y, _, _, _, _, _ => List.nil_prefix
  | q :: p, x, y, z, h1, h2, h3, h4 => by
    obtain ⟨x', rfl⟩ := h1
    obtain ⟨z', rfl⟩ := h2
    cases y with
    | nil => simp [lex] at h3
    | cons b y =>
      simp only [List.cons_append] at h3 h4
      unfold lex at h3 h4
      have an := h.anti q b
      by_cases e : c q b = 0
      · obtain rfl := (h.zero q b).1 e
        rw [if_pos e] at h3 h4
        rw [List.cons_prefix_cons]
        exact ⟨rfl, lex_between h p _ y _ (List.prefix_append _ _) (List.prefix_append _ _) h3 h4⟩
      · rw [if_neg e] at h3
        rw [if_neg (by omega)] at h4
        omega
theorem within_le {a h : List UInt8} (e : within a h = true) : gcmp h a ≤ 0 := lex_prefix scmp_lin _ _ ((within_iff a h).1 e).2.2
theorem within_between {a b c h : List UInt8} (hb : check b = 0) (h1 : gcmp a b ≤ 0) (h2 : gcmp b c ≤ 0) (ha : within a h = true) (hc : within c h = true) : within b h = true := by
  have a1 := (within_iff a h).1 ha
  have c1 := (within_iff c h).1 hc
  exact (within_iff b h).2 ⟨hb, a1.2.1, lex_between scmp_lin _ _ _ _ a1.2.2 c1.2.2 h1 h2⟩
end Go.Gn
