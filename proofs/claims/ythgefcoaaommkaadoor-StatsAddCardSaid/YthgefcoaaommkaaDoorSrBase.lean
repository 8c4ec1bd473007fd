/- Counts of articles by day and by name, as lists of entries that grow event by event. Of no program. -/
import Derived.Test.YthgefcoaaommkaaDoorMapA
namespace Go.Sr
open Go.Proofs.YthgefcoaaommkaaDoor

abbrev C := Int × Int
def plus (a b : C) : C := (a.1 + b.1, a.2 + b.2)
theorem plus_zero (a : C) : plus a (0, 0) = a := by simp [plus]
theorem zero_plus (a : C) : plus (0, 0) a = a := by simp [plus]
theorem plus_comm (a b : C) : plus a b = plus b a := by simp [plus, Int.add_comm]
theorem plus_assoc (a b c : C) : plus (plus a b) c = plus a (plus b c) := by simp [plus, Int.add_assoc]
/-- The sum of a list of counts. -/
def sumC (l : List C) : C := l.foldl plus (0, 0)
theorem foldl_plus (l : List C) : ∀ a, l.foldl plus a = plus a (sumC l) := by
  unfold sumC
  induction l with
  | nil => intro a; simp [plus_zero]
  | cons x r ih => intro a; rw [List.foldl_cons, ih, List.foldl_cons, ih (plus (0, 0) x), zero_plus, plus_assoc]
theorem sumC_cons (a : C) (l : List C) : sumC (a :: l) = plus a (sumC l) := by
  show (a :: l).foldl plus (0, 0) = _
  rw [List.foldl_cons, foldl_plus, zero_plus]
theorem sumC_nil : sumC [] = (0, 0) := rfl
theorem sumC_append (l m : List C) : sumC (l ++ m) = plus (sumC l) (sumC m) := by
  show (l ++ m).foldl plus (0, 0) = _
  rw [List.foldl_append, foldl_plus]; rfl
theorem sumC_perm {l m : List C} (h : l.Perm m) : sumC l = sumC m := by
  induction h with
  | nil => rfl
  | cons x _ ih => rw [sumC_cons, sumC_cons, ih]
  | swap x y l => rw [sumC_cons, sumC_cons, sumC_cons, sumC_cons, ← plus_assoc, ← plus_assoc, plus_comm y x]
  | trans _ _ h1 h2 => rw [h1, h2]

section
variable {κ : Type}
/-- A count added to that of a key. -/
def addA [DecidableEq κ] (L : List (κ × C)) (k : κ) (c : C) : List (κ × C) := putA L k (plus ((getA L k).getD (0, 0)) c)
theorem getA_add [DecidableEq κ] {L : List (κ × C)} (h : NoTwo L) (k y : κ) (c : C) : getA (addA L k c) y = if y = k then some (plus ((getA L k).getD (0, 0)) c) else getA L y := getA_put h _ _ _
theorem addA_two [DecidableEq κ] {L : List (κ × C)} (h : NoTwo L) (k : κ) (c : C) : NoTwo (addA L k c) := h.put _ _
/-- The sum over the entries whose key has a property. -/
def sumP (p : κ → Bool) (L : List (κ × C)) : C := sumC ((L.filter fun e => p e.1).map (·.2))
theorem sumP_nil (p : κ → Bool) : sumP p ([] : List (κ × C)) = (0, 0) := rfl
theorem sumP_cons (p : κ → Bool) (a : κ × C) (L : List (κ × C)) : sumP p (a :: L) = plus (if p a.1 then a.2 else (0, 0)) (sumP p L) := by
  unfold sumP
  rw [List.filter_cons]
  cases p a.1
  · simp [zero_plus]
  · simp [sumC_cons]
theorem sumP_perm (p : κ → Bool) {L M : List (κ × C)} (h : L.Perm M) : sumP p L = sumP p M := sumC_perm ((h.filter _).map _)
theorem sumP_append (p : κ → Bool) (L M : List (κ × C)) : sumP p (L ++ M) = plus (sumP p L) (sumP p M) := by
  unfold sumP; rw [List.filter_append, List.map_append, sumC_append]
theorem sumP_put [DecidableEq κ] (p : κ → Bool) (k : κ) (c : C) : ∀ {L : List (κ × C)}, NoTwo L → k ∈ L.map (·.1) → sumP p (L.map fun e => if e.1 = k then (k, plus ((getA L k).getD (0, 0)) c) else e) = plus (sumP p L) (if p k then c else (0, 0))
  | [], _, h => by simp at h
  | a :: L, hn, h => by
    have hn' := List.nodup_cons.1 (show ((a :: L).map (·.1)).Nodup from hn)
    rw [List.map_cons, sumP_cons, sumP_cons]
    by_cases e : a.1 = k
    · subst e
      have e1 : getA (a :: L) a.1 = some a.2 := (getA_iff hn _ _).2 (by simp)
      have e2 : (L.map fun e => if e.1 = a.1 then (a.1, plus ((getA (a :: L) a.1).getD (0, 0)) c) else e) = L := by
        have : ∀ e ∈ L, (if e.1 = a.1 then (a.1, plus ((getA (a :: L) a.1).getD (0, 0)) c) else e) = id e := fun e he => by
          rw [if_neg fun h => hn'.1 (List.mem_map.2 ⟨e, he, h⟩)]; rfl
        rw [List.map_congr_left this, List.map_id]
      rw [e2, if_pos rfl, e1]
      simp only [Option.getD_some]
      cases p a.1
      · simp [zero_plus, plus_zero]
      · simp only [if_true]
        rw [plus_assoc, plus_assoc, plus_comm c]
    · have hk : k ∈ L.map (·.1) := by
        rw [List.map_cons, List.mem_cons] at h
        rcases h with h | h
        · exact absurd h.symm e
        · exact h
      have e1 : getA (a :: L) k = getA L k := by
        unfold getA
        rw [List.find?_cons]
        simp [e]
      rw [if_neg e, e1, sumP_put p k c hn'.2 hk, plus_assoc]
theorem sumP_add [DecidableEq κ] (p : κ → Bool) {L : List (κ × C)} (hn : NoTwo L) (k : κ) (c : C) : sumP p (addA L k c) = plus (sumP p L) (if p k then c else (0, 0)) := by
  unfold addA putA
  by_cases h : k ∈ L.map (·.1)
  · rw [if_pos h]; exact sumP_put p k c hn h
  · rw [if_neg h, sumP_append, sumP_cons, sumP_nil, plus_zero]
    have : getA L k = none := by
      cases hg : getA L k with
      | none => rfl
      | some d => exact absurd (List.mem_map.2 ⟨_, getA_some hg, rfl⟩) h
    rw [this]
    simp [zero_plus]
/-- A count added to those of many keys. -/
def addAll [DecidableEq κ] (ks : List κ) (c : C) (L : List (κ × C)) : List (κ × C) := ks.foldl (fun L k => addA L k c) L
theorem addAll_two [DecidableEq κ] (c : C) : ∀ (ks : List κ) {L : List (κ × C)}, NoTwo L → NoTwo (addAll ks c L)
  | [], _, h => h
  | k :: r, _, h => addAll_two c r (addA_two h k c)
theorem addAll_append [DecidableEq κ] (ks js : List κ) (c : C) (L : List (κ × C)) : addAll (ks ++ js) c L = addAll js c (addAll ks c L) := by unfold addAll; rw [List.foldl_append]
theorem sumP_addAll [DecidableEq κ] (p : κ → Bool) (c : C) : ∀ (ks : List κ) {L : List (κ × C)}, NoTwo L → sumP p (addAll ks c L) = plus (sumP p L) (sumC ((ks.filter p).map fun _ => c))
  | [], L, _ => by simp [addAll, sumC_nil, plus_zero]
  | k :: r, L, h => by
    show sumP p (addAll r c (addA L k c)) = _
    rw [sumP_addAll p c r (addA_two h k c), sumP_add p h, List.filter_cons]
    cases p k
    · simp [plus_zero]
    · simp only [if_true, List.map_cons, sumC_cons, plus_assoc]
theorem getA_addAll [DecidableEq κ] (c : C) : ∀ (ks : List κ), ks.Nodup → ∀ {L : List (κ × C)}, NoTwo L → ∀ y, getA (addAll ks c L) y = if y ∈ ks then some (plus ((getA L y).getD (0, 0)) c) else getA L y
  | [], _, L, _, y => by simp [addAll]
  | k :: r, hk, L, h, y => by
    have hk' := List.nodup_cons.1 hk
    show getA (addAll r c (addA L k c)) y = _
    rw [getA_addAll c r hk'.2 (addA_two h k c), getA_add h]
    by_cases e : y = k
    · subst e
      rw [if_neg hk'.1, if_pos rfl, if_pos (by simp)]
    · rw [if_neg e]
      simp [e]
end

/-! ### events -/
structure Ev where
  minute : Int
  author : List UInt8
  groups : List (List UInt8)
  sites : List (List UInt8)
  bytes : Int
abbrev Ky := Int × Int × List UInt8
def dayE (e : Ev) : Int := e.minute / 1440
def hexL : List UInt8 := [48, 49, 50, 51, 52, 53, 54, 55, 56, 57, 97, 98, 99, 100, 101, 102]
def hexd (n : Nat) : UInt8 := hexL.getD n 0
def hexT (a : List UInt8) : List UInt8 := a.flatMap fun (b : UInt8) => [hexd (b.toNat / 16), hexd (b.toNat % 16)]
def oneE (e : Ev) : C := (1, e.bytes)
def keysE (e : Ev) : List Ky := e.groups.map (fun g => (dayE e, 1, g)) ++ e.sites.map (fun g => (dayE e, 2, g)) ++ [(dayE e, 3, hexT e.author)]
/-- The counts of the days and of the names of some events, counted one after another. -/
def daysL (l : List Ev) : List (Int × C) := l.foldl (fun L e => addA L (dayE e) (oneE e)) []
def namesL (l : List Ev) : List (Ky × C) := l.foldl (fun L e => addAll (keysE e) (oneE e) L) []
def sumE (l : List Ev) : C := sumC (l.map oneE)
/-- What an event is counted for: the list of a kind. -/
def ofKind (e : Ev) (k : Int) : List (List UInt8) := if k = 3 then [hexT e.author] else if k = 2 then e.sites else e.groups
def hasE (e : Ev) (k : Int) (n : List UInt8) : Bool := decide (1 ≤ k ∧ k ≤ 3) && decide (n ∈ ofKind e k)
theorem daysL_snoc (l : List Ev) (e : Ev) : daysL (l ++ [e]) = addA (daysL l) (dayE e) (oneE e) := by unfold daysL; rw [List.foldl_append]; rfl
theorem namesL_snoc (l : List Ev) (e : Ev) : namesL (l ++ [e]) = addAll (keysE e) (oneE e) (namesL l) := by unfold namesL; rw [List.foldl_append]; rfl
theorem snoc_ind {α : Type} {p : List α → Prop} (h0 : p []) (h1 : ∀ l a, p l → p (l ++ [a])) (l : List α) : p l := by
  rw [← List.reverse_reverse l]
  induction l.reverse with
  | nil => exact h0
  | cons a r ih => rw [List.reverse_cons]; exact h1 _ _ ih
theorem daysL_two (l : List Ev) : NoTwo (daysL l) := snoc_ind (p := fun l => NoTwo (daysL l)) NoTwo.nil (fun l e h => by rw [daysL_snoc]; exact addA_two h _ _) l
theorem namesL_two (l : List Ev) : NoTwo (namesL l) := snoc_ind (p := fun l => NoTwo (namesL l)) NoTwo.nil (fun l e h => by rw [namesL_snoc]; exact addAll_two _ _ h) l
/-- An event that names nothing twice. -/
def Apart (e : Ev) : Prop := e.groups.Nodup ∧ e.sites.Nodup
theorem keysE_nodup {e : Ev} (h : Apart e) : (keysE e).Nodup := by
  have hi : ∀ (n : Int) (l : List (List UInt8)), l.Nodup → (l.map fun g => ((dayE e, n, g) : Ky)).Nodup := fun n l hl =>
    (List.nodup_iff_pairwise_ne.2 (List.pairwise_map.2 (hl.imp fun {a b} h e => h (by injection e with _ e; injection e))))
  unfold keysE
  refine List.nodup_append.2 ⟨List.nodup_append.2 ⟨hi 1 _ h.1, hi 2 _ h.2, fun a ha b hb => ?_⟩, by simp, fun a ha b hb => ?_⟩
  · obtain ⟨x, _, rfl⟩ := List.mem_map.1 ha
    obtain ⟨y, _, rfl⟩ := List.mem_map.1 hb
    intro e; injection e with _ e; injection e with e; exact absurd e (by decide)
  · obtain rfl := List.mem_singleton.1 hb
    intro e
    rcases List.mem_append.1 ha with h | h <;> obtain ⟨x, _, rfl⟩ := List.mem_map.1 h <;> (injection e with _ e; injection e with e; exact absurd e (by decide))
theorem mem_keysE (e : Ev) (d k : Int) (n : List UInt8) : (d, k, n) ∈ keysE e ↔ d = dayE e ∧ hasE e k n = true := by
  unfold keysE hasE ofKind
  simp only [List.mem_append, List.mem_map, List.mem_singleton, Prod.mk.injEq, Bool.and_eq_true, decide_eq_true_eq]
  constructor
  · rintro ((⟨x, hx, rfl, rfl, rfl⟩ | ⟨x, hx, rfl, rfl, rfl⟩) | ⟨rfl, rfl, rfl⟩)
    · exact ⟨rfl, by omega, by rw [if_neg (by omega), if_neg (by omega)]; exact hx⟩
    · exact ⟨rfl, by omega, by rw [if_neg (by omega), if_pos rfl]; exact hx⟩
    · exact ⟨rfl, by omega, by simp⟩
  · rintro ⟨rfl, ⟨h1, h2⟩, h⟩
    by_cases e3 : k = 3
    · subst e3; simp at h; exact .inr ⟨rfl, rfl, h⟩
    · by_cases e2 : k = 2
      · subst e2; simp at h; exact .inl (.inr ⟨n, h, rfl, rfl, rfl⟩)
      · rw [if_neg e3, if_neg e2] at h
        exact .inl (.inl ⟨n, h, rfl, by omega, rfl⟩)
/-- The key that an event has among those with a kind, a name and days from a to b: at most one. -/
theorem keys_pick {e : Ev} (h : Apart e) (k : Int) (n : List UInt8) (a b : Int) :
    (keysE e).filter (fun x => decide (x.2.1 = k) && decide (x.2.2 = n) && decide (a ≤ x.1) && decide (x.1 ≤ b)) = if hasE e k n && decide (a ≤ dayE e) && decide (dayE e ≤ b) then [(dayE e, k, n)] else [] := by
  have hn := (keysE_nodup h).filter (fun x => decide (x.2.1 = k) && decide (x.2.2 = n) && decide (a ≤ x.1) && decide (x.1 ≤ b))
  have hm : ∀ x, x ∈ (keysE e).filter (fun x => decide (x.2.1 = k) && decide (x.2.2 = n) && decide (a ≤ x.1) && decide (x.1 ≤ b)) ↔ x = (dayE e, k, n) ∧ (hasE e k n && decide (a ≤ dayE e) && decide (dayE e ≤ b)) = true := by
    rintro ⟨x1, x2, x3⟩
    rw [List.mem_filter, mem_keysE]
    simp only [Bool.and_eq_true, decide_eq_true_eq, Prod.mk.injEq]
    constructor
    · rintro ⟨⟨rfl, h1⟩, ⟨⟨rfl, rfl⟩, h2⟩, h3⟩; exact ⟨⟨rfl, rfl, rfl⟩, ⟨h1, h2⟩, h3⟩
    · rintro ⟨⟨rfl, rfl, rfl⟩, ⟨h1, h2⟩, h3⟩; exact ⟨⟨rfl, h1⟩, ⟨⟨rfl, rfl⟩, h2⟩, h3⟩
  generalize (keysE e).filter _ = l at hn hm
  split
  · rename_i hc
    cases l with
    | nil => have := (hm _).2 ⟨rfl, hc⟩; simp at this
    | cons x r =>
      obtain ⟨rfl, _⟩ := (hm x).1 (by simp)
      cases r with
      | nil => rfl
      | cons y r =>
        obtain ⟨rfl, _⟩ := (hm y).1 (by simp)
        simp at hn
  · rename_i hc
    cases l with
    | nil => rfl
    | cons x r => exact absurd ((hm x).1 (by simp)).2 hc
/-- **The count of a name from a day to a day.** -/
theorem of_names {l : List Ev} (h : ∀ e ∈ l, Apart e) (k : Int) (n : List UInt8) (a b : Int) :
    sumP (fun x : Ky => decide (x.2.1 = k) && decide (x.2.2 = n) && decide (a ≤ x.1) && decide (x.1 ≤ b)) (namesL l) = sumE (l.filter fun e => hasE e k n && decide (a ≤ dayE e) && decide (dayE e ≤ b)) := by
  revert h
  refine snoc_ind (p := fun l => (∀ e ∈ l, Apart e) → sumP (fun x : Ky => decide (x.2.1 = k) && decide (x.2.2 = n) && decide (a ≤ x.1) && decide (x.1 ≤ b)) (namesL l) = sumE (l.filter fun e => hasE e k n && decide (a ≤ dayE e) && decide (dayE e ≤ b))) (fun _ => rfl) (fun l e ih h => ?_) l
  rw [namesL_snoc, sumP_addAll _ _ _ (namesL_two l), ih fun x hx => h x (by simp [hx]), keys_pick (h e (by simp)), List.filter_append]
  unfold sumE
  rw [List.map_append, sumC_append]
  congr 1
  rw [List.filter_cons]
  split <;> simp [sumC_cons, sumC_nil, oneE]
/-- The count of all articles from a day to a day. -/
theorem of_days (l : List Ev) (p : Int → Bool) : sumP p (daysL l) = sumE (l.filter fun e => p (dayE e)) := by
  refine snoc_ind (p := fun l => sumP p (daysL l) = sumE (l.filter fun e => p (dayE e))) rfl (fun l e ih => ?_) l
  rw [daysL_snoc, sumP_add _ (daysL_two l), ih, List.filter_append]
  unfold sumE
  rw [List.map_append, sumC_append]
  congr 1
  rw [List.filter_cons]
  split <;> simp [sumC_cons, sumC_nil, plus_zero]
theorem sumP_true {κ : Type} (L : List (κ × C)) : sumP (fun _ => true) L = sumC (L.map (·.2)) := by unfold sumP; rw [List.filter_eq_self.2 (by simp)]
theorem total_days (l : List Ev) : sumC ((daysL l).map (·.2)) = sumE l := by
  rw [← sumP_true, of_days, List.filter_eq_self.2 (by simp)]
theorem sumE_fst (l : List Ev) : (sumE l).1 = l.length := by
  unfold sumE
  induction l with
  | nil => rfl
  | cons e r ih => rw [List.map_cons, sumC_cons]; simp only [plus, oneE, List.length_cons]; omega
theorem getA_days (l : List Ev) (d : Int) : getA (daysL l) d = if l.any (fun e => decide (dayE e = d)) then some (sumE (l.filter fun e => decide (dayE e = d))) else none := by
  refine snoc_ind (p := fun l => getA (daysL l) d = if l.any (fun e => decide (dayE e = d)) then some (sumE (l.filter fun e => decide (dayE e = d))) else none) (by simp [daysL, getA]) (fun l e ih => ?_) l
  rw [daysL_snoc, getA_add (daysL_two l), List.any_append, List.filter_append, List.any_cons, List.any_nil, Bool.or_false]
  by_cases he : dayE e = d
  · subst he
    rw [if_pos rfl, decide_eq_true rfl, Bool.or_true, if_pos rfl, ih]
    unfold sumE
    rw [List.map_append, sumC_append, List.filter_cons, if_pos (decide_eq_true rfl), List.filter_nil, List.map_cons, List.map_nil, sumC_cons, sumC_nil, plus_zero]
    split
    · rfl
    · rename_i hn
      have : l.filter (fun x => decide (dayE x = dayE e)) = [] := List.filter_eq_nil_iff.2 fun x hx hd => hn (List.any_eq_true.2 ⟨x, hx, hd⟩)
      rw [this]; rfl
  · rw [if_neg fun h => he h.symm, ih, decide_eq_false he, Bool.or_false, List.filter_cons_of_neg (l := []) (by rw [decide_eq_false he]; exact Bool.false_ne_true), List.filter_nil, List.append_nil]
theorem getA_names {l : List Ev} (h : ∀ e ∈ l, Apart e) (x : Ky) : getA (namesL l) x = if l.any (fun e => decide (x ∈ keysE e)) then some (sumE (l.filter fun e => decide (x ∈ keysE e))) else none := by
  revert h
  refine snoc_ind (p := fun l => (∀ e ∈ l, Apart e) → getA (namesL l) x = if l.any (fun e => decide (x ∈ keysE e)) then some (sumE (l.filter fun e => decide (x ∈ keysE e))) else none) (fun _ => by simp [namesL, getA]) (fun l e ih h => ?_) l
  rw [namesL_snoc, getA_addAll _ _ (keysE_nodup (h e (by simp))) (namesL_two l), List.any_append, List.filter_append, List.any_cons, List.any_nil, Bool.or_false, ih fun x hx => h x (by simp [hx])]
  by_cases he : x ∈ keysE e
  · rw [if_pos he, decide_eq_true he, Bool.or_true, if_pos rfl]
    unfold sumE
    rw [List.map_append, sumC_append, List.filter_cons, if_pos (decide_eq_true he), List.filter_nil, List.map_cons, List.map_nil, sumC_cons, sumC_nil, plus_zero]
    split
    · rfl
    · rename_i hn
      have : l.filter (fun y => decide (x ∈ keysE y)) = [] := List.filter_eq_nil_iff.2 fun y hy hd => hn (List.any_eq_true.2 ⟨y, hy, hd⟩)
      rw [this]; rfl
  · rw [if_neg he, decide_eq_false he, Bool.or_false, List.filter_cons_of_neg (l := []) (by rw [decide_eq_false he]; exact Bool.false_ne_true), List.filter_nil, List.append_nil]
end Go.Sr
