/- Total orders given by a comparison with the results -1, 0 and 1; lists in increasing order without repetitions. Of no program. -/
import Derived.Lib.SlicesCompact
namespace Go.Gn

structure Lin {α : Type} (c : α → α → Int) : Prop where
  zero : ∀ a b, c a b = 0 ↔ a = b
  anti : ∀ a b, c b a = - c a b
  trans : ∀ a b d, c a b ≤ 0 → c b d ≤ 0 → c a d ≤ 0
  lo : ∀ a b, -1 ≤ c a b
  hi : ∀ a b, c a b ≤ 1

theorem Lin.self {α : Type} {c : α → α → Int} (h : Lin c) (a : α) : c a a = 0 := (h.zero a a).2 rfl
theorem Lin.lt_le {α : Type} {c : α → α → Int} (h : Lin c) {a b d : α} (h1 : c a b < 0) (h2 : c b d ≤ 0) : c a d < 0 := by
  have h3 := h.trans a b d (by omega) h2
  by_cases e : c a d = 0
  · obtain rfl := (h.zero a d).1 e
    have := h.anti a b
    omega
  · omega
theorem Lin.le_lt {α : Type} {c : α → α → Int} (h : Lin c) {a b d : α} (h1 : c a b ≤ 0) (h2 : c b d < 0) : c a d < 0 := by
  have h3 := h.trans a b d h1 (by omega)
  by_cases e : c a d = 0
  · obtain rfl := (h.zero a d).1 e
    have := h.anti a b
    omega
  · omega

def lex {α : Type} (c : α → α → Int) : List α → List α → Int
  | [], [] => 0
  | [], _ :: _ => -1
  | _ :: _, [] => 1
  | a :: x, b :: y => if c a b = 0 then lex c x y else c a b

theorem lex_lin {α : Type} {c : α → α → Int} (h : Lin c) : Lin (lex c) where
  zero := by
    intro a
    induction a with
    | nil => intro b; cases b <;> simp [lex]
    | cons a x ih =>
      intro b
      cases b with
      | nil => simp [lex]
      | cons b y =>
        unfold lex
        have z := h.zero a b
        split
        · rename_i e; rw [ih y]; simp [z.1 e]
        · rename_i e; simp only [List.cons.injEq]
          constructor
          · intro e'; exact absurd e' e
          · intro e'; exact absurd (z.2 e'.1) e
  anti := by
    intro a
    induction a with
    | nil => intro b; cases b <;> simp [lex]
    | cons a x ih =>
      intro b
      cases b with
      | nil => simp [lex]
      | cons b y =>
        unfold lex
        have z := h.anti a b
        have := ih y
        split <;> split <;> omega
  trans := by
    intro a
    induction a with
    | nil => intro b d; cases b <;> cases d <;> simp [lex]
    | cons a x ih =>
      intro b d
      cases b with
      | nil => simp [lex]
      | cons b y =>
        cases d with
        | nil => simp [lex]
        | cons d z =>
          unfold lex
          intro h1 h2
          have t := h.trans a b d
          have i := ih y z
          by_cases e1 : c a b = 0
          · obtain rfl := (h.zero a b).1 e1
            rw [if_pos e1] at h1
            split at h2
            · rename_i e2; rw [if_pos e2]; exact i h1 h2
            · rename_i e2; rw [if_neg e2]; exact h2
          · rw [if_neg e1] at h1
            by_cases e2 : c b d = 0
            · obtain rfl := (h.zero b d).1 e2
              rw [if_neg e1]; exact h1
            · rw [if_neg e2] at h2
              have l := h.lt_le (a := a) (b := b) (d := d) (by omega) h2
              rw [if_neg (by omega)]; omega
  lo := by
    intro a
    induction a with
    | nil => intro b; cases b <;> simp [lex]
    | cons a x ih =>
      intro b
      cases b with
      | nil => simp [lex]
      | cons b y => unfold lex; split; exact ih y; exact h.lo a b
  hi := by
    intro a
    induction a with
    | nil => intro b; cases b <;> simp [lex]
    | cons a x ih =>
      intro b
      cases b with
      | nil => simp [lex]
      | cons b y => unfold lex; split; exact ih y; exact h.hi a b

def bcmp (a b : UInt8) : Int := if a < b then -1 else if b < a then 1 else 0
theorem bcmp_nat (a b : UInt8) : bcmp a b = if a.toNat < b.toNat then -1 else if b.toNat < a.toNat then 1 else 0 := by
  unfold bcmp; simp only [UInt8.lt_iff_toNat_lt]
theorem bcmp_lin : Lin bcmp where
  zero a b := by rw [bcmp_nat, ← UInt8.toNat_inj]; split <;> (try split) <;> omega
  anti a b := by rw [bcmp_nat, bcmp_nat]; split <;> split <;> (try split) <;> omega
  trans a b d := by rw [bcmp_nat, bcmp_nat, bcmp_nat]; repeat' split
                    all_goals omega
  lo a b := by rw [bcmp_nat]; split <;> (try split) <;> omega
  hi a b := by rw [bcmp_nat]; split <;> (try split) <;> omega
/-- The order of texts. -/
def scmp : List UInt8 → List UInt8 → Int := lex bcmp
theorem scmp_lin : Lin scmp := lex_lin bcmp_lin
theorem scmp_lt : ∀ a b : List UInt8, scmp a b < 0 ↔ a < b
  | [], [] => by simp [scmp, lex]
  | [], _ :: _ => by simp [scmp, lex]
  | _ :: _, [] => by simp [scmp, lex]
  | a :: x, b :: y => by
    have ih := scmp_lt x y
    rw [List.cons_lt_cons_iff]
    unfold scmp at ih ⊢
    unfold lex
    have z := bcmp_lin.zero a b
    split
    · rename_i e
      rw [ih]
      have := z.1 e
      subst this
      simp
    · rename_i e
      have e' : a ≠ b := fun h => e (z.2 h)
      simp only [e', false_and, or_false]
      unfold bcmp at e ⊢
      split <;> (try split) <;> simp_all
theorem scmp_gt (a b : List UInt8) : 0 < scmp a b ↔ b < a := by
  rw [← scmp_lt b a, scmp_lin.anti a b]; omega
theorem scmp_eq (a b : List UInt8) : scmp a b = if a < b then -1 else if b < a then 1 else 0 := by
  have h1 := scmp_lt a b
  have h2 := scmp_gt a b
  have := scmp_lin.lo a b
  have := scmp_lin.hi a b
  split
  · rename_i h; have := h1.2 h; omega
  · rename_i h
    have n1 : ¬ scmp a b < 0 := fun e => h (h1.1 e)
    split
    · rename_i g; have := h2.2 g; omega
    · rename_i g
      have n2 : ¬ 0 < scmp a b := fun e => g (h2.1 e)
      omega

/-- In increasing order, without repetitions. -/
def Inc {α : Type} (c : α → α → Int) (l : List α) : Prop := l.Pairwise fun a b => c a b < 0
theorem inc_uniq {α : Type} {c : α → α → Int} (h : Lin c) : ∀ (l m : List α), Inc c l → Inc c m → (∀ x, x ∈ l ↔ x ∈ m) → l = m
  | [], [], _, _, _ => rfl
  | [], y :: m, _, _, e => absurd ((e y).2 (by simp)) (by simp)
  | x :: l, [], _, _, e => absurd ((e x).1 (by simp)) (by simp)
  | x :: l, y :: m, i, j, e => by
    have i' := List.pairwise_cons.1 i
    have j' := List.pairwise_cons.1 j
    have exy : x = y := by
      have hx := (e x).1 (by simp)
      have hy := (e y).2 (by simp)
      simp at hx hy
      rcases hx with hx | hx
      · exact hx
      · rcases hy with hy | hy
        · exact hy.symm
        · have a1 := j'.1 x hx
          have a2 := i'.1 y hy
          have := h.anti x y
          omega
    subst exy
    have irr : ∀ (r : List α), (∀ z ∈ r, c x z < 0) → x ∉ r := fun r hr hx => by
      have := hr x hx; have := h.self x; omega
    rw [inc_uniq h l m i'.2 j'.2 (fun z => ?_)]
    constructor
    · intro hz
      have := (e z).1 (by simp [hz])
      simp at this
      rcases this with rfl | h1
      · exact absurd hz (irr l i'.1)
      · exact h1
    · intro hz
      have := (e z).2 (by simp [hz])
      simp at this
      rcases this with rfl | h1
      · exact absurd hz (irr m j'.1)
      · exact h1

/-- A value put into such a list. -/
def ins {α : Type} [DecidableEq α] (c : α → α → Int) (s : α) : List α → List α
  | [] => [s]
  | x :: r => if c x s < 0 then x :: ins c s r else if x = s then x :: r else s :: x :: r
theorem mem_ins {α : Type} [DecidableEq α] (c : α → α → Int) (s x : α) : ∀ l, x ∈ ins c s l ↔ x = s ∨ x ∈ l
  | [] => by simp [ins]
  | y :: r => by
    have ih := mem_ins c s x r
    unfold ins
    split
    · simp only [List.mem_cons, ih]
      constructor
      · rintro (h | h | h) <;> simp [h]
      · rintro (h | h | h) <;> simp [h]
    · split
      · rename_i e; subst e; simp
      · simp
theorem inc_ins {α : Type} [DecidableEq α] {c : α → α → Int} (h : Lin c) (s : α) : ∀ l, Inc c l → Inc c (ins c s l)
  | [], _ => by simp [ins, Inc]
  | y :: r, i => by
    have i' := List.pairwise_cons.1 i
    have ih := inc_ins h s r i'.2
    unfold ins
    split
    · rename_i e
      refine List.pairwise_cons.2 ⟨fun z hz => ?_, ih⟩
      rcases (mem_ins c s z r).1 hz with rfl | hz
      · exact e
      · exact i'.1 z hz
    · split
      · exact i
      · rename_i e1 e2
        have e3 : c y s ≠ 0 := fun e => e2 ((h.zero y s).1 e)
        have e4 : c s y < 0 := by have := h.anti y s; omega
        refine List.pairwise_cons.2 ⟨fun z hz => ?_, i⟩
        simp at hz
        rcases hz with rfl | hz
        · exact e4
        · exact h.lt_le e4 (by have := i'.1 z hz; omega)
def insAll {α : Type} [DecidableEq α] (c : α → α → Int) (l : List α) : List α := l.foldl (fun o s => ins c s o) []
theorem insAll_snoc {α : Type} [DecidableEq α] (c : α → α → Int) (l : List α) (x : α) : insAll c (l ++ [x]) = ins c x (insAll c l) := by simp [insAll]
theorem insFold {α : Type} [DecidableEq α] {c : α → α → Int} (h : Lin c) : ∀ (l o : List α), Inc c o → Inc c (l.foldl (fun o s => ins c s o) o) ∧ ∀ x, x ∈ l.foldl (fun o s => ins c s o) o ↔ x ∈ l ∨ x ∈ o
  | [], o, i => by simp [i]
  | y :: l, o, i => by
    have ih := insFold h l (ins c y o) (inc_ins h y o i)
    refine ⟨ih.1, fun x => ?_⟩
    have := ih.2 x
    simp only [List.foldl_cons]
    rw [this, mem_ins]
    simp only [List.mem_cons]
    constructor
    · rintro (h | h | h) <;> simp [h]
    · rintro ((h | h) | h) <;> simp [h]
theorem insAll_inc {α : Type} [DecidableEq α] {c : α → α → Int} (h : Lin c) (l : List α) : Inc c (insAll c l) := (insFold h l [] (by simp [Inc])).1
theorem mem_insAll {α : Type} [DecidableEq α] {c : α → α → Int} (h : Lin c) (l : List α) (x : α) : x ∈ insAll c l ↔ x ∈ l := by
  have := (insFold h l [] (by simp [Inc])).2 x
  rw [insAll, this]; simp
theorem insAll_length {α : Type} [DecidableEq α] (c : α → α → Int) (l : List α) : (insAll c l).length ≤ l.length := by
  have one : ∀ (s : α) (o : List α), (ins c s o).length ≤ o.length + 1 := by
    intro s o
    induction o with
    | nil => simp [ins]
    | cons x r ih => unfold ins; split <;> (try split) <;> simp <;> omega
  have : ∀ (l o : List α), (l.foldl (fun o s => ins c s o) o).length ≤ l.length + o.length := by
    intro l
    induction l with
    | nil => intro o; simp
    | cons y l ih => intro o; have := ih (ins c y o); have := one y o; simp at *; omega
  have := this l []
  simpa [insAll] using this
/-- Where a value is put: behind all that are less. -/
def insAt {α : Type} (c : α → α → Int) (s : α) : List α → Nat
  | [] => 0
  | x :: r => if c x s < 0 then insAt c s r + 1 else 0
theorem insAt_le {α : Type} (c : α → α → Int) (s : α) : ∀ l, insAt c s l ≤ l.length
  | [] => by simp [insAt]
  | x :: r => by have := insAt_le c s r; unfold insAt; split <;> simp <;> omega
theorem insAt_lt {α : Type} (c : α → α → Int) (s : α) : ∀ (l : List α) (j : Nat) (x : α), j < insAt c s l → l[j]? = some x → c x s < 0
  | [], j, x, h, _ => by simp [insAt] at h
  | y :: r, j, x, h, e => by
    unfold insAt at h
    split at h
    · rename_i hy
      cases j with
      | zero => simp at e; rw [← e]; exact hy
      | succ j => exact insAt_lt c s r j x (by omega) (by simpa using e)
    · omega
theorem insAt_stop {α : Type} (c : α → α → Int) (s : α) : ∀ (l : List α) (x : α), l[insAt c s l]? = some x → ¬ c x s < 0
  | [], x, e => by simp at e
  | y :: r, x, e => by
    unfold insAt at e
    split at e
    · exact insAt_stop c s r x (by simpa using e)
    · rename_i hy; simp at e; rw [← e]; exact hy
theorem insAt_eq {α : Type} (c : α → α → Int) (s : α) : ∀ (l : List α) (k : Nat), k ≤ l.length → (∀ (j : Nat) (x : α), j < k → l[j]? = some x → c x s < 0) → (∀ x, l[k]? = some x → ¬ c x s < 0) → insAt c s l = k
  | [], k, hk, _, _ => by simp at hk; simp [insAt, hk]
  | y :: r, k, hk, h1, h2 => by
    unfold insAt
    cases k with
    | zero => rw [if_neg (h2 y (by simp))]
    | succ k =>
      rw [if_pos (h1 0 y (by omega) (by simp)), insAt_eq c s r k (by simpa using hk) (fun j x hj e => h1 (j + 1) x (by omega) (by simpa using e)) (fun x e => h2 x (by simpa using e))]
theorem ins_at {α : Type} [DecidableEq α] (c : α → α → Int) (s : α) : ∀ l, ins c s l = if l[insAt c s l]? = some s then l else l.take (insAt c s l) ++ s :: l.drop (insAt c s l)
  | [] => by simp [ins, insAt]
  | x :: r => by
    have ih := ins_at c s r
    unfold ins insAt
    split
    · rw [ih]; simp only [List.getElem?_cons_succ, List.take_succ_cons, List.drop_succ_cons]
      split <;> simp
    · simp

/-- A sorted list without its repetitions. -/
theorem compact_inc {α : Type} [DecidableEq α] [Inhabited α] {c : α → α → Int} (h : Lin c) (zs : List α) (hs : zs.Pairwise fun a b => c a b ≤ 0) : Inc c (Lib.compact zs) ∧ ∀ x, x ∈ Lib.compact zs ↔ x ∈ zs := by
  have hg : ∀ i j : Nat, i ≤ j → j < zs.length → c (zs.toArray[i]!) (zs.toArray[j]!) ≤ 0 := by
    intro i j hij hj
    rcases Nat.lt_or_ge i j with h1 | h1
    · have := List.pairwise_iff_getElem.1 hs i j (by omega) hj h1
      simpa [getElem!_def, show i < zs.length by omega, hj] using this
    · obtain rfl : i = j := by omega
      rw [h.self]; omega
  constructor
  · unfold Inc Lib.compact Lib.compactUpTo
    rw [List.pairwise_map]
    have hp : ((List.range zs.length).filter (Lib.keeps zs.toArray)).Pairwise (fun i j => i < j) := List.Pairwise.filter _ List.pairwise_lt_range
    refine List.Pairwise.imp_of_mem ?_ hp
    intro i j _ hj hij
    simp only [List.mem_filter, List.mem_range] at hj
    obtain ⟨hj1, hj2⟩ := hj
    simp only [Lib.keeps, decide_eq_true_eq] at hj2
    rcases hj2 with hj2 | hj2
    · omega
    · have a1 := hg i (j - 1) (by omega) (by omega)
      have a2 := hg (j - 1) j (by omega) hj1
      have a3 : c (zs.toArray[j - 1]!) (zs.toArray[j]!) ≠ 0 := fun e => hj2 ((h.zero _ _).1 e).symm
      exact h.le_lt a1 (by omega)
  · intro x
    unfold Lib.compact Lib.compactUpTo
    simp only [List.mem_map, List.mem_filter, List.mem_range]
    constructor
    · rintro ⟨j, ⟨h1, _⟩, rfl⟩
      simp [h1]
    · intro hx
      obtain ⟨k, hk, e⟩ := List.mem_iff_getElem.1 hx
      have : ∀ (k : Nat) (hk : k < zs.length), zs[k] = x → ∃ a, (a < zs.length ∧ Lib.keeps zs.toArray a = true) ∧ zs.toArray[a]! = x := by
        intro k
        induction k with
        | zero => intro hk e; exact ⟨0, ⟨hk, by simp [Lib.keeps]⟩, by simpa [getElem!_def, hk] using e⟩
        | succ k ih =>
          intro hk e
          by_cases e2 : zs[k]'(by omega) = x
          · exact ih (by omega) e2
          · refine ⟨k + 1, ⟨hk, ?_⟩, by simpa [getElem!_def, hk] using e⟩
            simp only [Lib.keeps, decide_eq_true_eq]
            right
            simp [hk, show k < zs.length by omega]
            rw [e]; exact fun h => e2 h.symm
      exact this k hk e
end Go.Gn
