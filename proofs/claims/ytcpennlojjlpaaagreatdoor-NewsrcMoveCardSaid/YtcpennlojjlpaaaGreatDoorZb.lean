/- Marks moved to other numbers by identity; there and back. Of no program.
   The text of marks, and the marks of a text. Of no program.
   The smallest free number, found in two ways. Of no program.
   A row into which an element is moved. Of no program.
   How many ranges a combination of sets has. Of no program.
   The numbers of a set, one by one. Of no program. -/
import Derived.Test.YtcpennlojjlpaaaGreatDoorZa
namespace Go.Nr

abbrev N := List UInt8 × Int
/-- What is known by identity: read under its number here. -/
def knownN (read : List Rg) (here : List N) (i : List UInt8) : Bool := here.any fun y => y.1 == i && has read y.2
def pts (l : List Int) : List Rg := l.map fun n => (n, n)
/-- The numbers there of what was read here. -/
def movedL (read : List Rg) (here there : List N) : List Int := (there.filter fun x => knownN read here x.1).map (·.2)
def moved (read : List Rg) (here there : List N) : List Rg := norm (pts (movedL read here there))
theorem pts_ok (l : List Int) : ∀ r ∈ pts l, r.1 ≤ r.2 := fun r hr => by
  obtain ⟨n, _, rfl⟩ := List.mem_map.1 hr
  exact Int.le_refl _
theorem has_pts (l : List Int) (n : Int) : has (pts l) n = decide (n ∈ l) := by
  rw [Bool.eq_iff_iff, has_iff, decide_eq_true_eq]
  constructor
  · rintro ⟨r, hr, a, b⟩
    obtain ⟨m, hm, rfl⟩ := List.mem_map.1 hr
    have : n = m := by omega
    rw [this]; exact hm
  · intro h; exact ⟨(n, n), List.mem_map.2 ⟨n, h, rfl⟩, by omega, by omega⟩
theorem norm_congr {l m : List Rg} (hl : ∀ r ∈ l, r.1 ≤ r.2) (h : ∀ r, r ∈ l ↔ r ∈ m) : norm l = norm m :=
  norm_eq hl (norm_spec fun r hr => hl r ((h r).2 hr)).1 fun n => by
    rw [(norm_spec fun r hr => hl r ((h r).2 hr)).2, mem_congr h]
theorem mem_pts {l m : List Int} (h : ∀ n, n ∈ l ↔ n ∈ m) (r : Rg) : r ∈ pts l ↔ r ∈ pts m := by
  simp only [pts, List.mem_map, h]
/-- The reference's numbers: one for each pair. -/
def pairsL (read : List Rg) (here there : List N) : List Int := there.flatMap fun x => (here.filter fun y => y.1 == x.1 && has read y.2).map fun _ => x.2
theorem pairs_mem (read : List Rg) (here there : List N) (n : Int) : n ∈ pairsL read here there ↔ n ∈ movedL read here there := by
  simp only [pairsL, movedL, List.mem_flatMap, List.mem_map, List.mem_filter, knownN, List.any_eq_true]
  constructor
  · rintro ⟨x, hx, y, ⟨hy, h⟩, rfl⟩; exact ⟨x, ⟨hx, y, hy, h⟩, rfl⟩
  · rintro ⟨x, ⟨hx, y, hy, h⟩, rfl⟩; exact ⟨x, hx, y, ⟨hy, h⟩, rfl⟩
theorem pairs_moved (read : List Rg) (here there : List N) : norm (pts (pairsL read here there)) = moved read here there :=
  norm_congr (pts_ok _) fun r => mem_pts (pairs_mem read here there) r

/-- How many numbers a list without repetitions has, counted up to a bound. -/
theorem card_list (B : Nat) : ∀ (l : List Int), l.Nodup → (∀ n ∈ l, 1 ≤ n ∧ n ≤ B) → (card (fun n => decide (n ∈ l)) B : Int) = l.length
  | [], _, _ => by
    have : (fun n : Int => decide (n ∈ ([] : List Int))) = fun _ => false := by funext n; simp
    rw [this, card_false]; rfl
  | a :: l, hn, hb => by
    have hn' := List.nodup_cons.1 hn
    have ih := card_list B l hn'.2 fun n h => hb n (by simp [h])
    have ha := hb a (by simp)
    have e := card_or_and (fun n => decide (a ≤ n) && decide (n ≤ a)) (fun n => decide (n ∈ l)) B
    have e1 : card (fun n => (decide (a ≤ n) && decide (n ≤ a)) && decide (n ∈ l)) B = 0 := by
      rw [← card_false B]
      refine card_congr B fun n _ _ => ?_
      by_cases h : a ≤ n ∧ n ≤ a
      · have : n = a := by omega
        subst this; simp [hn'.1]
      · rw [← Bool.decide_and, decide_eq_false h, Bool.false_and]
    have e2 : card (fun n => decide (n ∈ a :: l)) B = card (fun n => (decide (a ≤ n) && decide (n ≤ a)) || decide (n ∈ l)) B := card_congr B fun n _ _ => by
      rw [Bool.eq_iff_iff]; simp
      constructor
      · rintro (h | h)
        · exact .inl ⟨by omega, by omega⟩
        · exact .inr h
      · rintro (h | h)
        · exact .inl (by omega)
        · exact .inr h
    have e3 := card_range a a ha.1 (Int.le_refl _) B ha.2
    rw [e2]
    simp only [List.length_cons]
    omega
theorem count_pts {l : List Int} (hn : l.Nodup) (h1 : ∀ n ∈ l, 1 ≤ n) (B : Nat) (hB : ∀ n ∈ l, n ≤ B) : count (norm (pts l)) = l.length := by
  have ho : ∀ n, has (norm (pts l)) n = decide (n ∈ l) := fun n => by rw [norm_has (pts_ok l), has_pts]
  have hN := (norm_spec (pts_ok l)).1
  rw [count_card hN B, card_congr B (fun n _ _ => ho n), card_list B l hn fun n h => ⟨h1 n h, hB n h⟩]
  intro r hr
  have hr' := hN.1 r hr
  have a := (ho r.1).symm.trans ((has_iff _ _).2 ⟨r, hr, by omega, hr'⟩)
  have b := (ho r.2).symm.trans ((has_iff _ _).2 ⟨r, hr, hr', by omega⟩)
  simp only [decide_eq_true_eq] at a b
  exact ⟨h1 _ a, hB _ b⟩

/-- An identity. -/
def idn (k : Nat) : List UInt8 := UInt8.ofNat (k + 1) :: List.replicate 31 0
theorem idn_inj {i j : Nat} (hi : i < 200) (hj : j < 200) (h : idn i = idn j) : i = j := by
  unfold idn at h
  have h1 := congrArg UInt8.toNat (List.cons.inj h).1
  rw [UInt8.toNat_ofNat', UInt8.toNat_ofNat'] at h1
  omega
/-- The numbers here: in order; there: ks.getD i 0 says which article has the i-th number. -/
def hereL (n : Nat) : List N := (List.range n).map fun i => (idn i, (i : Int) + 1)
def thereL (g : Int) (ks : List Nat) : List N := (List.range ks.length).map fun i => (idn (ks.getD i 0), 1 + (i : Int) * g)
theorem thereL_snoc (g : Int) (ks : List Nat) (k : Nat) : thereL g (ks ++ [k]) = thereL g ks ++ [(idn k, 1 + (ks.length : Int) * g)] := by
  unfold thereL
  rw [List.length_append, List.length_singleton, List.range_succ, List.map_append]
  congr 1
  · refine List.map_congr_left fun i hi => ?_
    have := List.mem_range.1 hi
    simp [List.getD, List.getElem?_append_left this]
  · simp [List.getD]
theorem hereL_succ (n : Nat) : hereL (n + 1) = hereL n ++ [(idn n, (n : Int) + 1)] := by
  unfold hereL
  rw [List.range_succ]; simp
/-- A permutation of the numbers below n. -/
structure Perm (n : Nat) (ks : List Nat) : Prop where
  len : ks.length = n
  nodup : ks.Nodup
  lt : ∀ k ∈ ks, k < n
theorem len_le_of_sub : ∀ (t l : List Nat), t.Nodup → (∀ x ∈ t, x ∈ l) → t.length ≤ l.length
  | [], _, _, _ => by simp
  | a :: t, l, hn, h => by
    have hn' := List.nodup_cons.1 hn
    have ha := h a (by simp)
    have := len_le_of_sub t (l.erase a) hn'.2 (fun x hx => by
      have hne : x ≠ a := fun e => hn'.1 (e ▸ hx)
      exact (List.mem_erase_of_ne hne).2 (h x (by simp [hx])))
    rw [List.length_erase_of_mem ha] at this
    have hpos : 0 < l.length := List.length_pos_iff.2 (fun e => by rw [e] at ha; simp at ha)
    simp; omega
/-- Fewer than n numbers below n leave one out. -/
theorem free_one {n : Nat} {ks : List Nat} (_hn : ks.Nodup) (hl : ks.length < n) : ∃ u, u < n ∧ u ∉ ks := by
  refine Classical.byContradiction fun hc => ?_
  have : ∀ x ∈ List.range n, x ∈ ks := fun x hx => Classical.byContradiction fun hx' => hc ⟨x, List.mem_range.1 hx, hx'⟩
  have := len_le_of_sub (List.range n) ks List.nodup_range this
  simp at this; omega
theorem Perm.onto {n : Nat} {ks : List Nat} (h : Perm n ks) {j : Nat} (hj : j < n) : j ∈ ks := by
  refine Classical.byContradiction fun hc => ?_
  have h2 : (j :: ks).Nodup := List.nodup_cons.2 ⟨hc, h.nodup⟩
  have := len_le_of_sub (j :: ks) (List.range n) h2 fun x hx => by
    simp at hx
    rcases hx with rfl | hx
    · exact List.mem_range.2 hj
    · exact List.mem_range.2 (h.lt x hx)
  have := h.len
  simp at *; omega
theorem known_here {read : List Rg} {n k : Nat} (hn : n < 200) (hk : k < n) : knownN read (hereL n) (idn k) = has read ((k : Int) + 1) := by
  rw [Bool.eq_iff_iff]
  simp only [knownN, hereL, List.any_eq_true, List.mem_map, List.mem_range, Bool.and_eq_true, beq_iff_eq]
  constructor
  · rintro ⟨y, ⟨i, hi, rfl⟩, e, h⟩
    have := idn_inj (by omega) (by omega) e
    subst this; exact h
  · intro h; exact ⟨_, ⟨k, hk, rfl⟩, rfl, h⟩
/-- The numbers there that are marked behind the move. -/
theorem moved_there {read : List Rg} {n : Nat} {ks : List Nat} {g : Int} (hg : 1 ≤ g) (hn : n < 200) (hp : Perm n ks) (i : Nat) (hi : i < n) :
    has (moved read (hereL n) (thereL g ks)) (1 + (i : Int) * g) = has read ((ks.getD i 0 : Nat) + 1) := by
  unfold moved
  rw [norm_has (pts_ok _), has_pts, Bool.eq_iff_iff, decide_eq_true_eq]
  simp only [movedL, List.mem_map, List.mem_filter, thereL, List.mem_range]
  have hlt : ∀ i, i < n → ks.getD i 0 < n := fun i hi => by
    have hl : i < ks.length := by rw [hp.len]; exact hi
    rw [List.getD_eq_getElem?_getD, List.getElem?_eq_getElem hl]
    exact hp.lt _ (List.getElem_mem hl)
  constructor
  · rintro ⟨x, ⟨⟨j, hj, rfl⟩, h⟩, e⟩
    rw [hp.len] at hj
    have hij : j = i := by
      have e' : (j : Int) * g = (i : Int) * g := by simp only at e; omega
      have := Int.eq_of_mul_eq_mul_right (by omega) e'
      omega
    subst hij
    rw [known_here hn (hlt j hj)] at h
    exact h
  · intro h
    refine ⟨_, ⟨⟨i, by rw [hp.len]; exact hi, rfl⟩, ?_⟩, rfl⟩
    rw [known_here hn (hlt i hi)]; exact h
/-- **There and back: the marks of the articles.** -/
theorem there_back {read : List Rg} {n : Nat} {ks : List Nat} {g : Int} (hg : 1 ≤ g) (hn : n < 200) (hp : Perm n ks) (m : Int) :
    has (moved (moved read (hereL n) (thereL g ks)) (thereL g ks) (hereL n)) m = (has read m && decide (1 ≤ m ∧ m ≤ n)) := by
  have hmt := @moved_there read n ks g hg hn hp
  generalize moved read (hereL n) (thereL g ks) = t at *
  have hlt : ∀ i, i < n → ks.getD i 0 < n := fun i hi => by
    have hl : i < ks.length := by rw [hp.len]; exact hi
    rw [List.getD_eq_getElem?_getD, List.getElem?_eq_getElem hl]
    exact hp.lt _ (List.getElem_mem hl)
  unfold moved
  rw [norm_has (pts_ok _), has_pts, Bool.eq_iff_iff, decide_eq_true_eq, Bool.and_eq_true, decide_eq_true_eq]
  simp only [movedL, List.mem_map, List.mem_filter, hereL, List.mem_range, knownN, List.any_eq_true, Bool.and_eq_true, beq_iff_eq, thereL]
  constructor
  · rintro ⟨x, ⟨⟨j, hj, rfl⟩, y, ⟨i, hi, rfl⟩, e, h⟩, rfl⟩
    rw [hp.len] at hi
    have := idn_inj (by have := hlt i hi; omega) (by omega) e
    rw [hmt i hi, this] at h
    exact ⟨h, by simp only; omega, by simp only; omega⟩
  · rintro ⟨h, h1, h2⟩
    have hj : (m - 1).toNat < n := by omega
    obtain ⟨i, hi, ei⟩ := List.mem_iff_getElem.1 (hp.onto hj)
    have eg : ks.getD i 0 = (m - 1).toNat := by
      rw [List.getD_eq_getElem?_getD, List.getElem?_eq_getElem hi, ei]; rfl
    refine ⟨_, ⟨⟨(m - 1).toNat, hj, rfl⟩, _, ⟨i, hi, rfl⟩, by rw [eg], ?_⟩, by simp only; omega⟩
    rw [hmt i (by rw [← hp.len]; exact hi), eg, show (((m - 1).toNat : Nat) : Int) + 1 = m by omega]
    exact h
theorem filter_perm_len {p : Nat → Bool} {n : Nat} {ks : List Nat} (hp : Perm n ks) : (ks.filter p).length = ((List.range n).filter p).length := by
  apply Nat.le_antisymm
  · refine len_le_of_sub _ _ (hp.nodup.filter _) fun x hx => ?_
    obtain ⟨a, b⟩ := List.mem_filter.1 hx
    exact List.mem_filter.2 ⟨List.mem_range.2 (hp.lt x a), b⟩
  · refine len_le_of_sub _ _ (List.nodup_range.filter _) fun x hx => ?_
    obtain ⟨a, b⟩ := List.mem_filter.1 hx
    exact List.mem_filter.2 ⟨hp.onto (List.mem_range.1 a), b⟩
theorem filter_getD (p : Nat → Bool) : ∀ ks : List Nat, ((List.range ks.length).filter fun i => p (ks.getD i 0)).length = (ks.filter p).length := by
  intro ks
  have e : ks = (List.range ks.length).map fun i => ks.getD i 0 := by
    apply List.ext_getElem
    · simp
    · intro i h1 h2
      simp [List.getD, List.getElem?_eq_getElem h1]
  conv => rhs; rw [e]
  rw [List.filter_map, List.length_map]; rfl
/-- **As many numbers are marked there as here among the articles.** -/
theorem there_count {read : List Rg} {n : Nat} {ks : List Nat} {g : Int} (hg : 1 ≤ g) (hn : n < 200) (hp : Perm n ks) {want : List Rg} (hw : Nrm want) (hww : ∀ m, has want m = (has read m && decide (1 ≤ m ∧ m ≤ n))) :
    count (moved read (hereL n) (thereL g ks)) = count want := by
  have hlt : ∀ i, i < n → ks.getD i 0 < n := fun i hi => by
    have hl : i < ks.length := by rw [hp.len]; exact hi
    rw [List.getD_eq_getElem?_getD, List.getElem?_eq_getElem hl]
    exact hp.lt _ (List.getElem_mem hl)
  have e1 : movedL read (hereL n) (thereL g ks) = ((List.range n).filter fun i => has read ((ks.getD i 0 : Nat) + 1)).map fun i : Nat => 1 + (i : Int) * g := by
    unfold movedL thereL
    rw [List.filter_map, List.map_map, hp.len]
    have : (List.range n).filter ((fun x : N => knownN read (hereL n) x.1) ∘ fun i => (idn (ks.getD i 0), 1 + (i : Int) * g)) = (List.range n).filter fun i => has read ((ks.getD i 0 : Nat) + 1) := by
      refine List.filter_congr fun i hi => ?_
      exact known_here hn (hlt i (List.mem_range.1 hi))
    rw [this]; rfl
  have c1 : count (moved read (hereL n) (thereL g ks)) = ((List.range n).filter fun i => has read ((ks.getD i 0 : Nat) + 1)).length := by
    unfold moved
    rw [e1]
    have hpos : ∀ m ∈ (((List.range n).filter fun i => has read ((ks.getD i 0 : Nat) + 1)).map fun i : Nat => 1 + (i : Int) * g), 1 ≤ m ∧ m ≤ ((1 + n * g.toNat : Nat) : Int) := by
      intro m hm
      obtain ⟨i, hi, rfl⟩ := List.mem_map.1 hm
      have hi' := List.mem_range.1 (List.mem_filter.1 hi).1
      have h1 : 0 ≤ (i : Int) * g := Int.mul_nonneg (by omega) (by omega)
      have h2 : (i : Int) * g ≤ (n : Int) * g := Int.mul_le_mul_of_nonneg_right (by omega) (by omega)
      have h3 : ((1 + n * g.toNat : Nat) : Int) = 1 + (n : Int) * g := by
        rw [Int.natCast_add, Int.natCast_mul, Int.toNat_of_nonneg (by omega)]; rfl
      omega
    rw [count_pts ?_ (fun m hm => (hpos m hm).1) _ (fun m hm => (hpos m hm).2), List.length_map]
    rw [List.nodup_iff_pairwise_ne, List.pairwise_map]
    refine ((List.nodup_range (n := n)).filter _).imp fun {a b} h e => h ?_
    have := Int.eq_of_mul_eq_mul_right (a := g) (b := a) (c := b) (by omega) (by omega)
    omega
  have e2 : want = norm (pts (((List.range n).filter fun i : Nat => has read ((i : Int) + 1)).map fun i : Nat => (i : Int) + 1)) := by
    refine has_uniq hw (norm_spec (pts_ok _)).1 fun m => ?_
    rw [norm_has (pts_ok _), has_pts, hww, Bool.eq_iff_iff, Bool.and_eq_true, decide_eq_true_eq, decide_eq_true_eq]
    simp only [List.mem_map, List.mem_filter, List.mem_range]
    constructor
    · rintro ⟨h, h1, h2⟩
      refine ⟨(m - 1).toNat, ⟨by omega, ?_⟩, by omega⟩
      rw [show (((m - 1).toNat : Nat) : Int) + 1 = m by omega]; exact h
    · rintro ⟨i, ⟨hi, h⟩, rfl⟩
      exact ⟨h, by omega, by omega⟩
  rw [c1, e2, count_pts (B := n) ?_ ?_ ?_, List.length_map, ← hp.len, filter_getD (fun k => has read ((k : Int) + 1)), filter_perm_len hp, hp.len]
  · rw [List.nodup_iff_pairwise_ne, List.pairwise_map]
    exact ((List.nodup_range (n := n)).filter _).imp fun {a b} h e => h (by omega)
  · intro m hm
    obtain ⟨i, _, rfl⟩ := List.mem_map.1 hm
    omega
  · intro m hm
    obtain ⟨i, hi, rfl⟩ := List.mem_map.1 hm
    have := List.mem_range.1 (List.mem_filter.1 hi).1
    omega
end Go.Nr

namespace Go.Nr
open Go.Lib Go.Gn

/-- The line of a group, without its end. -/
def lineT (g : G) : List UInt8 := g.1 ++ (if g.2.1 then 58 else 33) :: (if g.2.2 = [] then [] else 32 :: setT g.2.2)
/-- The text of marks. -/
def fileT (m : List G) : List UInt8 := m.flatMap fun g => lineT g ++ [10]
theorem fileT_cons (g : G) (m : List G) : fileT (g :: m) = lineT g ++ 10 :: fileT m := by simp [fileT]
theorem fileT_snoc (g : G) (m : List G) : fileT (m ++ [g]) = fileT m ++ (lineT g ++ [10]) := by simp [fileT]
def nb (c : UInt8) : Bool := c != 58 && c != 33
def nl (c : UInt8) : Bool := c != 10
/-- The marks of a group from a line; seen: the names before. -/
def pmark (seen : List (List UInt8)) (l : List UInt8) : G ⊕ Nat :=
  match l.dropWhile nb with
  | [] => .inr 3
  | c :: rest =>
    if check (l.takeWhile nb) ≠ 0 then .inr 12 else if l.takeWhile nb ∈ seen then .inr 7 else
    if rest = [] then .inl (l.takeWhile nb, c == 58, []) else if rest.head? ≠ some 32 ∨ rest.length = 1 then .inr 3 else
    match pset (rest.drop 1) with
    | .inl l' => .inl (l.takeWhile nb, c == 58, l')
    | .inr e => .inr e.2
theorem drop_lt {p : UInt8 → Bool} {s : List UInt8} {c : UInt8} {rest : List UInt8} (h : s.dropWhile p = c :: rest) : rest.length < s.length := by
  have := congrArg List.length (List.takeWhile_append_dropWhile (p := p) (l := s))
  rw [h] at this
  simp at this; omega
/-- The marks of a text, or the line and the error. -/
def pfile (out : List G) (line : Nat) (s : List UInt8) : List G ⊕ (Nat × Nat) :=
  if s = [] then .inl out else
  match _h : s.dropWhile nl with
  | [] => .inr (line, 4)
  | _ :: rest =>
    match pmark (out.map (·.1)) (s.takeWhile nl) with
    | .inr e => .inr (line, e)
    | .inl g => pfile (out ++ [g]) (line + 1) rest
termination_by s.length
decreasing_by exact drop_lt _h
theorem cut_at {p : UInt8 → Bool} {a b : List UInt8} {c : UInt8} (ha : ∀ x ∈ a, p x = true) (hc : p c = false) : (a ++ c :: b).takeWhile p = a ∧ (a ++ c :: b).dropWhile p = c :: b := by
  induction a with
  | nil => simp [hc]
  | cons x a ih =>
    have hx := ha x (by simp)
    have := ih fun y hy => ha y (by simp [hy])
    simp [hx, this.1, this.2]
theorem cut_is {p : UInt8 → Bool} {s : List UInt8} {c : UInt8} {rest : List UInt8} (h : s.dropWhile p = c :: rest) : s = s.takeWhile p ++ c :: rest ∧ p c = false ∧ ∀ x ∈ s.takeWhile p, p x = true := by
  refine ⟨?_, ?_, fun x hx => ?_⟩
  · have := List.takeWhile_append_dropWhile (p := p) (l := s)
    rw [h] at this; exact this.symm
  · have : ∀ (s : List UInt8), s.dropWhile p = c :: rest → p c = false := by
      intro s
      induction s with
      | nil => intro h; simp at h
      | cons a s ih =>
        intro h
        rw [List.dropWhile_cons] at h
        split at h
        · exact ih h
        · rename_i hp; cases h; simpa using hp
    exact this s h
  · have : ∀ (s : List UInt8), x ∈ s.takeWhile p → p x = true := by
      intro s
      induction s with
      | nil => intro h; simp at h
      | cons a s ih =>
        intro h
        rw [List.takeWhile_cons] at h
        split at h
        · rename_i hp
          simp at h
          rcases h with rfl | h
          · exact hp
          · exact ih h
        · simp at h
    exact this s hx
theorem text_free {c d : UInt8} (hd : d ≠ c) : ∀ (xs : List (List UInt8)), (∀ p ∈ xs, d ∉ p) → d ∉ text c xs
  | [], _ => by simp [text_nil]
  | [x], h => by rw [text_one]; exact h x (by simp)
  | x :: y :: r, h => by
    have ih := text_free hd (y :: r) fun p hp => h p (by simp [hp])
    have hx := h x (by simp)
    rw [text_cons]
    simp [hx, hd, ih]
theorem check_free {s : List UInt8} {d : UInt8} (hd : okB d = false) (h46 : d ≠ 46) (h : check s = 0) : d ∉ s := by
  have h2 := ((check_zero s).1 h).2.1
  rw [← text_parts 46 s]
  exact text_free h46 _ fun p hp => comp_free hd (h2 p hp)
theorem dig_free {s : List UInt8} {d : UInt8} (hd : isDig d = false) (h : s.all isDig = true) : d ∉ s := fun hm => by
  have := List.all_eq_true.1 h d hm
  rw [hd] at this; cases this
theorem setT_free {l : List Rg} {d : UInt8} (hd : isDig d = false) (h44 : d ≠ 44) (h45 : d ≠ 45) : d ∉ setT l := by
  refine text_free h44 _ fun p hp => ?_
  obtain ⟨r, _, rfl⟩ := List.mem_map.1 hp
  unfold itemT
  split
  · exact dig_free hd (digits_all _)
  · intro h
    rcases List.mem_append.1 h with h | h
    · exact dig_free hd (digits_all _) h
    · simp at h
      rcases h with h | h
      · exact h45 h
      · exact dig_free hd (digits_all _) h
theorem lineT_nl {g : G} (h : check g.1 = 0) : ∀ x ∈ lineT g, nl x = true := by
  have h1 : (10 : UInt8) ∉ g.1 := check_free (by decide) (by decide) h
  have h2 : (10 : UInt8) ∉ setT g.2.2 := setT_free (by decide) (by decide) (by decide)
  have h3 : (10 : UInt8) ∉ lineT g := by
    unfold lineT
    intro hm
    rcases List.mem_append.1 hm with hm | hm
    · exact h1 hm
    · rcases List.mem_cons.1 hm with hm | hm
      · split at hm <;> cases hm
      · split at hm
        · simp at hm
        · rcases List.mem_cons.1 hm with hm | hm
          · cases hm
          · exact h2 hm
  intro x hx
  have : x ≠ 10 := fun e => h3 (e ▸ hx)
  simpa [nl] using this
theorem pmark_text {g : G} {seen : List (List UInt8)} (hc : check g.1 = 0) (hs : g.1 ∉ seen) (hset : Okset g.2.2) : pmark seen (lineT g) = .inl g := by
  have h1 : ∀ x ∈ g.1, nb x = true := fun x hx => by
    have a : x ≠ 58 := fun e => check_free (d := 58) (by decide) (by decide) hc (e ▸ hx)
    have b : x ≠ 33 := fun e => check_free (d := 33) (by decide) (by decide) hc (e ▸ hx)
    simp [nb, a, b]
  obtain ⟨s, b, l⟩ := g
  have hcut := cut_at (p := nb) (a := s) (b := if l = [] then [] else 32 :: setT l) (c := if b then 58 else 33) h1 (by cases b <;> rfl)
  unfold pmark
  unfold lineT
  simp only at hcut hc hs hset ⊢
  rw [hcut.2]
  simp only
  rw [hcut.1, if_neg (by omega), if_neg hs]
  have hb : ((if b = true then (58 : UInt8) else 33) == 58) = b := by cases b <;> rfl
  by_cases hl : l = []
  · subst hl
    simp [hb]
  · have hne : setT l ≠ [] := fun e => hl (setT_nil.1 e)
    rw [if_neg hl, if_neg (by simp), if_neg (by simp [hne])]
    simp only [List.drop_succ_cons, List.drop_zero]
    rw [pset_text hset.1 hset.2, hb]
theorem pmark_inv {l : List UInt8} {seen : List (List UInt8)} {g : G} (h : pmark seen l = .inl g) : lineT g = l ∧ check g.1 = 0 ∧ g.1 ∉ seen ∧ Okset g.2.2 := by
  unfold pmark at h
  split at h
  · cases h
  · rename_i c rest hd
    obtain ⟨e1, e2, _⟩ := cut_is hd
    split at h
    · cases h
    · rename_i hck
      split at h
      · cases h
      · rename_i hseen
        have hcc : (if (c == 58) = true then (58 : UInt8) else 33) = c := by
          unfold nb at e2
          by_cases h58 : c = 58
          · subst h58; rfl
          · have : c = 33 := by simpa [h58] using e2
            subst this; rfl
        split at h
        · rename_i hr
          cases h
          refine ⟨?_, by simpa using hck, hseen, Okset.nil⟩
          show l.takeWhile nb ++ (if (c == 58) = true then 58 else 33) :: [] = l
          rw [hcc, ← hr]; exact e1.symm
        · rename_i hr
          split at h
          · cases h
          · rename_i hsp
            split at h
            · rename_i l' hl'
              cases h
              obtain ⟨a, b, d⟩ := pset_inv hl'
              refine ⟨?_, by simpa using hck, hseen, ⟨b, d⟩⟩
              have h32 : rest.head? = some 32 := Classical.byContradiction fun hn => hsp (.inl hn)
              have hlen : rest.length ≠ 1 := fun hn => hsp (.inr hn)
              cases rest with
              | nil => exact absurd rfl hr
              | cons q t =>
                simp at h32; subst h32
                simp only [List.drop_succ_cons, List.drop_zero] at a
                have hne : l' ≠ [] := fun e => by
                  subst e
                  have : t = [] := a.symm
                  subst this; simp at hlen
                show l.takeWhile nb ++ (if (c == 58) = true then 58 else 33) :: (if l' = [] then [] else 32 :: setT l') = l
                rw [hcc, if_neg hne, a]; exact e1.symm
            · cases h
theorem Okm.head {out : List G} {g : G} {m : List G} (h : Okm (out ++ g :: m)) : check g.1 = 0 ∧ g.1 ∉ out.map (·.1) ∧ Okset g.2.2 := by
  refine ⟨h.names g (by simp), fun hm => ?_, h.sets g (by simp)⟩
  have := h.uniq
  rw [List.map_append, List.nodup_append] at this
  exact this.2.2 g.1 hm g.1 (by simp) rfl
theorem Okm.snoc {out : List G} {g : G} (h : Okm out) (hc : check g.1 = 0) (hs : g.1 ∉ out.map (·.1)) (hset : Okset g.2.2) : Okm (out ++ [g]) := by
  refine ⟨fun q hq => ?_, ?_, fun q hq => ?_⟩
  · rcases List.mem_append.1 hq with hq | hq
    · exact h.names q hq
    · simp at hq; rw [hq]; exact hc
  · rw [List.map_append, List.nodup_append]
    refine ⟨h.uniq, by simp, fun a ha b hb => ?_⟩
    simp at hb; rw [hb]
    intro e; exact hs (e ▸ ha)
  · rcases List.mem_append.1 hq with hq | hq
    · exact h.sets q hq
    · simp at hq; rw [hq]; exact hset
theorem pfile_step (out : List G) (line : Nat) (a b : List UInt8) (h : ∀ x ∈ a, nl x = true) : pfile out line (a ++ 10 :: b) = match pmark (out.map (·.1)) a with | .inr e => .inr (line, e) | .inl g => pfile (out ++ [g]) (line + 1) b := by
  have hcut := cut_at (p := nl) (a := a) (b := b) (c := 10) h rfl
  rw [pfile, if_neg (by simp)]
  split
  · rename_i hd; rw [hcut.2] at hd; cases hd
  · rename_i c rest hd
    rw [hcut.2] at hd
    cases hd
    rw [hcut.1]
theorem pfile_nil (out : List G) (line : Nat) : pfile out line [] = .inl out := by rw [pfile, if_pos rfl]
theorem pfile_short (out : List G) (line : Nat) (s : List UInt8) (h0 : s ≠ []) (h : ∀ x ∈ s, nl x = true) : pfile out line s = .inr (line, 4) := by
  rw [pfile, if_neg h0]
  split
  · rfl
  · rename_i c rest hd
    obtain ⟨e, hc, _⟩ := cut_is hd
    have := h c (by rw [e]; simp)
    rw [hc] at this; cases this
/-- **Parsing the text of marks returns the marks.** -/
theorem pfile_text : ∀ (m out : List G) (line : Nat), Okm (out ++ m) → pfile out line (fileT m) = .inl (out ++ m)
  | [], out, line, _ => by rw [show fileT [] = [] from rfl, pfile_nil, List.append_nil]
  | g :: m, out, line, h => by
    obtain ⟨h1, h2, h3⟩ := h.head
    rw [fileT_cons, pfile_step out line _ _ (lineT_nl h1), pmark_text h1 h2 h3]
    simp only
    rw [pfile_text m (out ++ [g]) (line + 1) (by simpa using h)]
    simp
/-- **A text that is accepted is that of the marks.** -/
theorem pfile_inv (s : List UInt8) : ∀ (out : List G) (line : Nat) (m' : List G), Okm out → pfile out line s = .inl m' → Okm m' ∧ ∃ m, m' = out ++ m ∧ fileT m = s := by
  intro out line m' ho h
  by_cases h0 : s = []
  · subst h0
    rw [pfile_nil] at h
    cases h
    exact ⟨ho, [], by simp, rfl⟩
  · rw [pfile, if_neg h0] at h
    split at h
    · cases h
    · rename_i c rest hd
      obtain ⟨e1, e2, _⟩ := cut_is hd
      have hc : c = 10 := by simpa [nl] using e2
      subst hc
      split at h
      · cases h
      · rename_i g hg
        obtain ⟨a1, a2, a3, a4⟩ := pmark_inv hg
        have hlt := drop_lt hd
        obtain ⟨k1, m, k2, k3⟩ := pfile_inv rest (out ++ [g]) (line + 1) m' (ho.snoc a2 a3 a4) h
        refine ⟨k1, g :: m, by rw [k2]; simp, ?_⟩
        rw [fileT_cons, k3, a1]; exact e1.symm
termination_by s.length
end Go.Nr

namespace Go.Nr

/-- The smallest free number from n on, as the rest of a set has it. -/
def nextR (rs : List Rg) (n : Int) : Int := match rs.find? fun r => decide (n ≤ r.2) with | some r => max n r.1 | none => 0
/-- .. as the set itself has it. -/
def nextV (l : List Rg) (n : Int) : Int :=
  let k := match l[find l (max n 1)]? with | some r => if r.1 ≤ max n 1 then r.2 + 1 else max n 1 | none => max n 1
  if M < k then 0 else k
/-- What the smallest free number is. -/
def IsNext (l : List Rg) (n v : Int) : Prop := (v = 0 ∧ ∀ m, 1 ≤ m → n ≤ m → m ≤ M → has l m = true) ∨ (1 ≤ v ∧ n ≤ v ∧ v ≤ M ∧ has l v = false ∧ ∀ m, 1 ≤ m → n ≤ m → m < v → has l m = true)
theorem IsNext.uniq {l : List Rg} {n v u : Int} (h : IsNext l n v) (k : IsNext l n u) : v = u := by
  rcases h with ⟨h1, h2⟩ | ⟨h1, h2, h3, h4, h5⟩
  · rcases k with ⟨k1, _⟩ | ⟨k1, k2, k3, k4, _⟩
    · omega
    · have := h2 u k1 k2 k3
      rw [k4] at this; cases this
  · rcases k with ⟨k1, k2⟩ | ⟨k1, k2, k3, k4, k5⟩
    · have := k2 v h1 h2 h3
      rw [h4] at this; cases this
    · rcases Int.lt_trichotomy v u with h | h | h
      · have := k5 v h1 h2 h
        rw [h4] at this; cases this
      · exact h
      · have := h5 u k1 k2 h
        rw [k4] at this; cases this
theorem nextR_is {l : List Rg} (hl : Okset l) (n : Int) : IsNext l n (nextR (restFrom M 1 l) n) := by
  obtain ⟨h1, h2, h3⟩ := restFrom_spec M l 1 hl.1 fun r hr => ⟨(hl.2 r hr).1, (hl.2 r hr).2.2⟩
  generalize restFrom M 1 l = rs at *
  have key : ∀ m, 1 ≤ m → m ≤ M → has rs m = false → has l m = true := fun m a b c => by
    rw [h3] at c
    simp [a, b] at c
    exact c
  unfold nextR
  cases hf : rs.find? fun r => decide (n ≤ r.2) with
  | none =>
    left
    refine ⟨rfl, fun m a b c => key m a c ?_⟩
    cases hh : has rs m with
    | false => rfl
    | true =>
      obtain ⟨r, hr, e1, e2⟩ := (has_iff _ _).1 hh
      have := List.find?_eq_none.1 hf r hr
      simp at this
      omega
  | some r =>
    show IsNext l n (max n r.1)
    obtain ⟨hr, as, bs, e, hb⟩ := List.find?_eq_some_iff_append.1 hf
    have hr' : n ≤ r.2 := by simpa using hr
    have hmem : r ∈ rs := by rw [e]; simp
    have hle := h1.1 r hmem
    have hv : has rs (max n r.1) = true := (has_iff _ _).2 ⟨r, hmem, by omega, by omega⟩
    have hv3 := hv
    rw [h3] at hv3
    simp only [Bool.and_eq_true, decide_eq_true_eq, Bool.not_eq_true'] at hv3
    right
    refine ⟨hv3.1.1, by omega, hv3.1.2, hv3.2, fun m a b c => key m a (by omega) ?_⟩
    cases hh : has rs m with
    | false => rfl
    | true =>
      obtain ⟨q, hq, e1, e2⟩ := (has_iff _ _).1 hh
      rw [e] at hq
      rcases List.mem_append.1 hq with hq | hq
      · have := hb q hq
        simp at this
        omega
      · rcases List.mem_cons.1 hq with rfl | hq
        · omega
        · have hp := h1.2
          rw [e] at hp
          have := (List.pairwise_cons.1 (List.pairwise_append.1 hp).2.1).1 q hq
          omega
theorem nextV_is {l : List Rg} (hl : Okset l) (n : Int) : IsNext l n (nextV l n) := by
  have hM : (1 : Int) ≤ M := by decide
  have hb : ∀ (m : Int), m < max n 1 ∨ max n 1 ≤ m := fun m => by omega
  have hfind : ∀ m r, max n 1 ≤ m → r ∈ l → r.1 ≤ m → m ≤ r.2 → ∃ j : Nat, find l (max n 1) ≤ j ∧ l[j]? = some r := fun m r hm hr h1 h2 => by
    obtain ⟨j, hj, e⟩ := List.mem_iff_getElem.1 hr
    have hj' : l[j]? = some r := by rw [← e]; exact List.getElem?_eq_getElem hj
    refine ⟨j, ?_, hj'⟩
    rcases Nat.lt_or_ge j (find l (max n 1)) with h | h
    · have := find_lt l (max n 1) j r h hj'
      omega
    · exact h
  unfold nextV
  cases hk : l[find l (max n 1)]? with
  | none =>
    have hno : ∀ m, max n 1 ≤ m → has l m = false := fun m hm => by
      cases hh : has l m with
      | false => rfl
      | true =>
        obtain ⟨r, hr, e1, e2⟩ := (has_iff _ _).1 hh
        obtain ⟨j, hj, ej⟩ := hfind m r hm hr e1 e2
        have h1 := List.getElem?_eq_none_iff.1 hk
        have h2 := (List.getElem?_eq_some_iff.1 ej).1
        omega
    simp only
    split
    · left; exact ⟨rfl, fun m a b c => by omega⟩
    · right; exact ⟨by omega, by omega, by omega, hno _ (by omega), fun m a b c => by omega⟩
  | some r =>
    have hmem := List.mem_of_getElem? hk
    obtain ⟨o1, o2, o3⟩ := hl.2 r hmem
    have hge := find_at l (max n 1) r hk
    simp only
    by_cases h1 : r.1 ≤ max n 1
    · rw [if_pos h1]
      have hin : ∀ m, max n 1 ≤ m → m ≤ r.2 → has l m = true := fun m a b => (has_iff _ _).2 ⟨r, hmem, by omega, b⟩
      have hout : has l (r.2 + 1) = false := by
        cases hh : has l (r.2 + 1) with
        | false => rfl
        | true =>
          obtain ⟨q, hq, e1, e2⟩ := (has_iff _ _).1 hh
          obtain ⟨j, hj, ej⟩ := List.mem_iff_getElem.1 hq
          have hj' : l[j]? = some q := by rw [← ej]; exact List.getElem?_eq_getElem hj
          rcases Nat.lt_trichotomy j (find l (max n 1)) with h | h | h
          · have := find_lt l (max n 1) j q h hj'
            omega
          · rw [h] at hj'; rw [hk] at hj'; cases hj'; omega
          · have hp := List.pairwise_iff_getElem.1 hl.1.2 (find l (max n 1)) j (List.getElem?_eq_some_iff.1 hk).1 hj h
            rw [(List.getElem?_eq_some_iff.1 hk).2, ej] at hp
            omega
      split
      · left; exact ⟨rfl, fun m a b c => hin m (by omega) (by omega)⟩
      · right; exact ⟨by omega, by omega, by omega, hout, fun m a b c => hin m (by omega) (by omega)⟩
    · rw [if_neg h1]
      have hout : has l (max n 1) = false := by
        rw [has_find hl.1, hk]
        simp; omega
      split
      · omega
      · right; exact ⟨by omega, by omega, by omega, hout, fun m a b c => by omega⟩
theorem nextR_eq {l : List Rg} (hl : Okset l) (n : Int) : nextR (restFrom M 1 l) n = nextV l n := (nextR_is hl n).uniq (nextV_is hl n)
end Go.Nr

namespace Go.Nr

/-- s with x at place k. -/
def rowK (s : List Rg) (k : Nat) (x : Rg) : List Rg := s.take k ++ x :: s.drop k
theorem rowK_length {s : List Rg} {k : Nat} (h : k ≤ s.length) (x : Rg) : (rowK s k x).length = s.length + 1 := by simp [rowK]; omega
theorem rowK_end (s : List Rg) (x : Rg) : rowK s s.length x = s ++ [x] := by simp [rowK]
theorem rowK_pred {s : List Rg} {k : Nat} (h : k + 1 ≤ s.length) (x : Rg) : (rowK s (k + 1) x)[k]? = s[k]? := by
  unfold rowK
  rw [List.getElem?_append_left (by simp; omega), List.getElem?_take_of_lt (by omega)]
theorem rowK_self {s : List Rg} {k : Nat} (h : k ≤ s.length) (x r : Rg) : (rowK s k x).set k r = rowK s k r := by
  unfold rowK
  rw [List.set_append_right _ _ (by simp; omega)]
  simp [Nat.min_eq_left h]
theorem rowK_step {s : List Rg} {k : Nat} {y : Rg} (h : s[k]? = some y) (x : Rg) : (rowK s (k + 1) x).set (k + 1) y = rowK s k y := by
  obtain ⟨hl, e⟩ := List.getElem?_eq_some_iff.1 h
  rw [rowK_self (by omega)]
  unfold rowK
  rw [List.take_succ_eq_append_getElem hl, List.drop_eq_getElem_cons hl, e]
  simp
theorem rowK_put : ∀ {s : List Rg} {k : Nat} {r : Rg}, k ≤ s.length → s.Pairwise (fun a b => a.1 ≤ b.1) → (∀ (j : Nat) (q : Rg), k ≤ j → s[j]? = some q → r.1 < q.1) → (∀ q, 0 < k → s[k - 1]? = some q → q.1 ≤ r.1) → rowK s k r = put r s
  | [], k, r, h, _, _, _ => by simp at h; subst h; rfl
  | a :: s, 0, r, _, _, h2, _ => by
    have := h2 0 a (Nat.le_refl _) rfl
    show r :: a :: s = _
    unfold put
    rw [if_neg (by omega)]
  | a :: s, k + 1, r, h, hp, h2, h3 => by
    have hp' := List.pairwise_cons.1 hp
    have ih := rowK_put (s := s) (k := k) (r := r) (by simpa using h) hp'.2 (fun j q hj hq => h2 (j + 1) q (by omega) (by simpa using hq)) (fun q hk hq => h3 q (by omega) (by
      obtain ⟨m, rfl⟩ : ∃ m, k = m + 1 := ⟨k - 1, by omega⟩
      simpa using hq))
    have ha : a.1 ≤ r.1 := by
      rcases Nat.eq_zero_or_pos k with h0 | h0
      · subst h0; exact h3 a (by omega) rfl
      · have hk : k - 1 < s.length := by simp at h; omega
        have := h3 s[k - 1] (by omega) (by
          obtain ⟨m, rfl⟩ : ∃ m, k = m + 1 := ⟨k - 1, by omega⟩
          simp at hk ⊢)
        have := hp'.1 s[k - 1] (List.getElem_mem _)
        omega
    show a :: rowK s k r = _
    rw [ih]
    conv => rhs; unfold put
    rw [if_pos ha]
end Go.Nr

namespace Go.Nr

/-- Where a range of a set begins. -/
theorem start_has {S : List Rg} (hS : Nrm S) {r : Rg} (hr : r ∈ S) : has S r.1 = true ∧ has S (r.1 - 1) = false := by
  refine ⟨(has_iff _ _).2 ⟨r, hr, by omega, hS.1 r hr⟩, ?_⟩
  rw [Bool.eq_false_iff]
  intro h
  obtain ⟨s, hs, h1, h2⟩ := (has_iff _ _).1 h
  obtain ⟨i, hi⟩ := List.getElem?_of_mem hr
  obtain ⟨j, hj⟩ := List.getElem?_of_mem hs
  have hrr := hS.1 r hr
  obtain ⟨hil, hie⟩ := List.getElem?_eq_some_iff.1 hi
  obtain ⟨hjl, hje⟩ := List.getElem?_eq_some_iff.1 hj
  rcases Nat.lt_trichotomy i j with h | h | h
  · have := List.pairwise_iff_getElem.1 hS.2 i j hil hjl h
    rw [hie, hje] at this; omega
  · subst h; rw [hi] at hj; cases hj; omega
  · have := List.pairwise_iff_getElem.1 hS.2 j i hjl hil h
    rw [hie, hje] at this; omega
theorem starts_nodup {S : List Rg} (hS : Nrm S) : (S.map (·.1)).Nodup := by
  unfold List.Nodup
  rw [List.pairwise_map]
  refine (List.Pairwise.and_mem.1 hS.2).imp ?_
  intro a b h
  have := hS.1 a h.1
  omega
theorem nodup_len : ∀ (t l : List Int), t.Nodup → (∀ x ∈ t, x ∈ l) → t.length ≤ l.length
  | [], _, _, _ => by simp
  | a :: t, l, hn, h => by
    have hn' := List.nodup_cons.1 hn
    have ha := h a (by simp)
    have ih := nodup_len t (l.erase a) hn'.2 fun x hx => (List.mem_erase_of_ne (fun e => hn'.1 (by rw [← e]; exact hx))).2 (h x (by simp [hx]))
    rw [List.length_erase_of_mem ha] at ih
    have := List.length_pos_of_mem ha
    simp only [List.length_cons]; omega
/-- **As many ranges as places where the numbers begin.** -/
theorem starts_len {S : List Rg} (hS : Nrm S) (xs : List Int) (h : ∀ n, has S n = true → has S (n - 1) = false → n ∈ xs) : S.length ≤ xs.length := by
  have := nodup_len (S.map (·.1)) xs (starts_nodup hS) fun x hx => by
    obtain ⟨r, hr, rfl⟩ := List.mem_map.1 hx
    exact h r.1 (start_has hS hr).1 (start_has hS hr).2
  simpa using this
theorem has_start {l : List Rg} {n : Int} (h1 : has l n = true) (h0 : has l (n - 1) = false) : n ∈ l.map (·.1) := by
  obtain ⟨r, hr, a, b⟩ := (has_iff _ _).1 h1
  refine List.mem_map.2 ⟨r, hr, ?_⟩
  rcases Int.lt_or_le (n - 1) r.1 with h | h
  · omega
  · rw [(has_iff _ _).2 ⟨r, hr, h, by omega⟩] at h0; cases h0
theorem has_behind {l : List Rg} {n : Int} (h1 : has l n = false) (h0 : has l (n - 1) = true) : n ∈ l.map fun r => r.2 + 1 := by
  obtain ⟨r, hr, a, b⟩ := (has_iff _ _).1 h0
  refine List.mem_map.2 ⟨r, hr, ?_⟩
  rcases Int.lt_or_le r.2 n with h | h
  · omega
  · rw [(has_iff _ _).2 ⟨r, hr, by omega, h⟩] at h1; cases h1
/-- A combination has at most as many ranges as both sets. -/
theorem minus_len {S a b : List Rg} (hS : Nrm S) (h : ∀ n, has S n = (has a n && !has b n)) : S.length ≤ a.length + b.length := by
  have := starts_len hS (a.map (·.1) ++ b.map fun r => r.2 + 1) fun n h1 h0 => by
    rw [h] at h1 h0
    simp only [Bool.and_eq_true, Bool.not_eq_true'] at h1
    rw [List.mem_append]
    cases ha : has a (n - 1) with
    | false => exact .inl (has_start h1.1 ha)
    | true =>
      rw [ha] at h0
      simp at h0
      exact .inr (has_behind h1.2 h0)
  simpa using this
theorem and_len {S a b : List Rg} (hS : Nrm S) (h : ∀ n, has S n = (has a n && has b n)) : S.length ≤ a.length + b.length := by
  have := starts_len hS (a.map (·.1) ++ b.map (·.1)) fun n h1 h0 => by
    rw [h] at h1 h0
    simp only [Bool.and_eq_true] at h1
    rw [List.mem_append]
    cases ha : has a (n - 1) with
    | false => exact .inl (has_start h1.1 ha)
    | true =>
      rw [ha] at h0
      simp at h0
      exact .inr (has_start h1.2 h0)
  simpa using this
theorem minusS_len {a b : List Rg} (ha : Okset a) (hb : Okset b) : (minusS a b).length ≤ a.length + b.length := minus_len (minusS_spec ha hb).1 (minusS_spec ha hb).2
/-- A change makes a set longer by one at most. -/
theorem chgS_len {l : List Rg} {k : Nat} {n : Int} (hl : Okset l) (h0 : 0 ≤ n) (h1 : n ≤ M) (h2 : n = 0 → k = 2) : (chgS l k n).length ≤ l.length + 1 := by
  unfold chgS
  split
  · have := orS_length l [(n, n)]; simpa using this
  · rename_i hk0
    split
    · rename_i hk
      have hn : 1 ≤ n := by
        rcases Int.lt_or_le 0 n with h | h
        · omega
        · have := h2 (by omega); omega
      have := minusS_len hl (one_ok hn (Int.le_refl _) h1)
      simpa using this
    · split
      · omega
      · have := orS_length l [(1, n)]; simpa using this
/-- No set of the marks has more ranges than a bound. -/
def Lens (B : Nat) (m : List G) : Prop := ∀ g ∈ m, g.2.2.length ≤ B
theorem Lens.mono {B C : Nat} {m : List G} (h : Lens B m) (hBC : B ≤ C) : Lens C m := fun g hg => Nat.le_trans (h g hg) hBC
theorem Lens.nil {B : Nat} : Lens B [] := fun _ h => by simp at h
theorem mem_modify46 {α : Type} {f : α → α} : ∀ {xs : List α} {i : Nat} {y : α}, y ∈ xs.modify i f → ∃ x ∈ xs, y = x ∨ y = f x
  | [], _, y, h => by simp at h
  | x :: xs, 0, y, h => by
    simp at h
    rcases h with rfl | h
    · exact ⟨x, by simp, .inr rfl⟩
    · exact ⟨y, by simp [h], .inl rfl⟩
  | x :: xs, i + 1, y, h => by
    rw [List.modify_succ_cons] at h
    simp at h
    rcases h with rfl | h
    · exact ⟨_, by simp, .inl rfl⟩
    · obtain ⟨z, hz, e⟩ := mem_modify46 h
      exact ⟨z, by simp [hz], e⟩
theorem Lens.subs {B : Nat} {m : List G} (h : Lens B m) (i : Nat) (b : Bool) : Lens B (setSub m i b) := fun g hg => by
  obtain ⟨x, hx, e | e⟩ := mem_modify46 hg <;> rw [e] <;> exact h x hx
theorem Lens.sub {B : Nat} {m : List G} (h : Lens B m) (s : List UInt8) : Lens B (subM m s) := by
  unfold subM
  split
  · exact h
  · split
    · exact h.subs _ _
    · intro g hg
      rcases List.mem_append.1 hg with hg | hg
      · exact h g hg
      · simp at hg; rw [hg]; simp
theorem Lens.unsub {B : Nat} {m : List G} (h : Lens B m) (s : List UInt8) : Lens B (unsubM m s) := by
  unfold unsubM
  split
  · exact h
  · split
    · exact h.subs _ _
    · exact h
theorem gset_len {B : Nat} {m : List G} (h : Lens B m) (s : List UInt8) : (gset m s).length ≤ B := by
  unfold gset
  split
  · rename_i g hg; exact h g (List.mem_of_getElem? hg)
  · simp
theorem Lens.chg {B : Nat} {m : List G} (h : Lens B m) (hm : Okm m) (k : Nat) (s : List UInt8) (n : Int) : Lens (B + 1) (chgM m k s n) := by
  unfold chgM
  split
  · rename_i he
    have hn : ¬ (n < 0 ∨ M < n ∨ (n = 0 ∧ k ≠ 2)) := by
      intro hc
      unfold chgE at he
      by_cases hg : gidx m s < m.length
      · rw [if_pos hg, if_pos hc] at he; cases he
      · rw [if_neg hg] at he; cases he
    have := chgS_len (l := gset m s) (k := k) (n := n) (gset_ok hm s) (by omega) (by omega) (fun e => by
      rcases Nat.decEq k 2 with hk | hk
      · exact absurd (Or.inr (Or.inr ⟨e, hk⟩)) hn
      · exact hk)
    have hg := gset_len h s
    intro g hgm
    obtain ⟨x, hx, e | e⟩ := mem_modify46 hgm
    · rw [e]; exact Nat.le_succ_of_le (h x hx)
    · rw [e]; show (chgS (gset m s) k n).length ≤ B + 1; omega
  · exact h.mono (by omega)
end Go.Nr

namespace Go.Nr

/-- The numbers of a range from its first one on. -/
def span (r : Rg) : List Int := (List.range (r.2 - r.1 + 1).toNat).map fun k : Nat => r.1 + (k : Int)
/-- The numbers of a set. -/
def nums (l : List Rg) : List Int := l.flatMap span
theorem span_length (r : Rg) : (span r).length = (r.2 - r.1 + 1).toNat := by simp [span]
theorem mem_span (r : Rg) (n : Int) : n ∈ span r ↔ r.1 ≤ n ∧ n ≤ r.2 := by
  simp only [span, List.mem_map, List.mem_range]
  constructor
  · rintro ⟨k, hk, rfl⟩; omega
  · intro h; exact ⟨(n - r.1).toNat, by omega, by omega⟩
theorem span_take (r : Rg) (k : Nat) (hk : (k : Int) ≤ r.2 - r.1 + 1) : (span r).take k = (List.range k).map fun k : Nat => r.1 + (k : Int) := by
  unfold span
  rw [← List.map_take, List.take_range, Nat.min_eq_left (by omega)]
theorem span_snoc (r : Rg) (k : Nat) (hk : r.1 + (k : Int) ≤ r.2) : (span r).take (k + 1) = (span r).take k ++ [r.1 + (k : Int)] := by
  rw [span_take r (k + 1) (by omega), span_take r k (by omega), List.range_succ]; simp
theorem span_all (r : Rg) (k : Nat) (hk : r.2 < r.1 + (k : Int)) : (span r).take k = span r := by
  rw [List.take_of_length_le]; rw [span_length]; omega
theorem nums_snoc (l : List Rg) (k : Nat) (r : Rg) (h : l[k]? = some r) : nums (l.take (k + 1)) = nums (l.take k) ++ span r := by
  obtain ⟨hl, hx⟩ := List.getElem?_eq_some_iff.1 h
  rw [List.take_succ_eq_append_getElem hl, hx]
  simp [nums]
theorem mem_nums (l : List Rg) (n : Int) : n ∈ nums l ↔ mem l n := by
  simp only [nums, List.mem_flatMap, mem_span, mem]
theorem nums_length {l : List Rg} (h : ∀ r ∈ l, r.1 ≤ r.2) : ((nums l).length : Int) = count l := by
  induction l with
  | nil => rfl
  | cons r l ih =>
    have := h r (by simp)
    have := ih fun s hs => h s (by simp [hs])
    rw [count_cons]
    simp only [nums, List.flatMap_cons, List.length_append, span_length] at this ⊢
    omega
theorem span_inc (r : Rg) : (span r).Pairwise (· < ·) := by
  unfold span
  rw [List.pairwise_map]
  exact List.pairwise_lt_range.imp fun h => by omega
theorem nums_inc : ∀ {l : List Rg}, Nrm l → (nums l).Pairwise (· < ·)
  | [], _ => by simp [nums]
  | r :: l, h => by
    obtain ⟨_, h2, h3⟩ := h.cons
    show (span r ++ nums l).Pairwise _
    rw [List.pairwise_append]
    refine ⟨span_inc r, nums_inc h3, fun a ha b hb => ?_⟩
    obtain ⟨s, hs, k1, _⟩ := (mem_nums l b).1 hb
    have := (mem_span r a).1 ha
    have := h2 s hs
    omega
/-- How many numbers of a set are at most a number. -/
def upto (l : List Rg) (b : Int) : Int := (l.map fun r => if r.1 ≤ b then min r.2 b - r.1 + 1 else 0).sum
theorem upto_snoc (l : List Rg) (r : Rg) (b : Int) : upto (l ++ [r]) b = upto l b + if r.1 ≤ b then min r.2 b - r.1 + 1 else 0 := by simp [upto]
theorem upto_nil (b : Int) : upto [] b = 0 := rfl
theorem upto_rng {l : List Rg} (h : ∀ r ∈ l, r.1 ≤ r.2) (b : Int) : 0 ≤ upto l b ∧ upto l b ≤ count l := by
  induction l with
  | nil => rw [upto_nil, count_nil]; omega
  | cons r l ih =>
    have h1 := h r (by simp)
    have h2 := ih fun s hs => h s (by simp [hs])
    have e : upto (r :: l) b = (if r.1 ≤ b then min r.2 b - r.1 + 1 else 0) + upto l b := rfl
    rw [e, count_cons]
    split <;> omega
theorem span_upto (r : Rg) (b : Int) (h : r.1 ≤ r.2) : (((span r).filter fun x => decide (x ≤ b)).length : Int) = if r.1 ≤ b then min r.2 b - r.1 + 1 else 0 := by
  have key : ∀ (m : Nat), (((List.range m).map fun k : Nat => r.1 + (k : Int)).filter fun x => decide (x ≤ b)).length = min m (b - r.1 + 1).toNat := by
    intro m
    induction m with
    | zero => simp
    | succ m ih =>
      rw [List.range_succ, List.map_append, List.filter_append, List.length_append, ih]
      by_cases hm : r.1 + (m : Int) ≤ b
      · simp [hm]; omega
      · simp [hm]; omega
  unfold span
  rw [key]
  split <;> omega
theorem nums_upto {l : List Rg} (h : ∀ r ∈ l, r.1 ≤ r.2) (b : Int) : (((nums l).filter fun x => decide (x ≤ b)).length : Int) = upto l b := by
  induction l with
  | nil => rfl
  | cons r l ih =>
    have h1 := span_upto r b (h r (by simp))
    have h2 := ih fun s hs => h s (by simp [hs])
    have e : upto (r :: l) b = (if r.1 ≤ b then min r.2 b - r.1 + 1 else 0) + upto l b := rfl
    rw [e, ← h1, ← h2]
    simp [nums]
theorem inc_upto : ∀ (l : List Int), l.Pairwise (· < ·) → ∀ (n : Nat) (x : Int), l[n]? = some x → (l.filter fun y => decide (y ≤ x)).length = n + 1
  | [], _, n, x, h => by simp at h
  | a :: l, hp, 0, x, h => by
    have hp' := List.pairwise_cons.1 hp
    simp at h; subst h
    have : (l.filter fun y => decide (y ≤ a)) = [] := by
      rw [List.filter_eq_nil_iff]
      intro y hy; have := hp'.1 y hy; simp; omega
    simp [this]
  | a :: l, hp, n + 1, x, h => by
    have hp' := List.pairwise_cons.1 hp
    simp at h
    have ih := inc_upto l hp'.2 n x h
    have := hp'.1 x (List.mem_of_getElem? h)
    simp [show a ≤ x by omega, ih]
/-- **The numbers up to the last one that came are as many as came.** -/
theorem upto_last {l : List Rg} (h : Nrm l) (n : Nat) (x : Int) (hx : (nums l)[n]? = some x) : upto l x = (n : Int) + 1 := by
  rw [← nums_upto h.1, inc_upto _ (nums_inc h) n x hx]; omega
theorem upto_zero {l : List Rg} (h : ∀ r ∈ l, 1 ≤ r.1) : upto l 0 = 0 := by
  induction l with
  | nil => rfl
  | cons r l ih =>
    have := h r (by simp)
    have e : upto (r :: l) 0 = (if r.1 ≤ 0 then min r.2 0 - r.1 + 1 else 0) + upto l 0 := rfl
    rw [e, ih fun s hs => h s (by simp [hs]), if_neg (by omega)]; rfl
theorem nums_has {l : List Rg} {n : Nat} {x : Int} (hx : (nums l)[n]? = some x) : has l x = true := by
  rw [has_iff, ← mem_nums]; exact List.mem_of_getElem? hx
theorem nums_lt {l : List Rg} (h : Nrm l) {n m : Nat} {x y : Int} (hlt : n < m) (hx : (nums l)[n]? = some x) (hy : (nums l)[m]? = some y) : x < y := by
  obtain ⟨a1, a2⟩ := List.getElem?_eq_some_iff.1 hx
  obtain ⟨b1, b2⟩ := List.getElem?_eq_some_iff.1 hy
  have := List.pairwise_iff_getElem.1 (nums_inc h) n m a1 b1 hlt
  rwa [a2, b2] at this
end Go.Nr
