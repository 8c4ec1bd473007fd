/- A map with keys and elements of any shape, as the list of its entries: made, stored, looked up, deleted from, ranged over. -/
import Derived.Maps.RangeWalk
import Derived.DeepKeys4
import Derived.BigQuiet
namespace Go.Proofs.YthgefcoaaommkaaDoor
open Go.Maps

/-! ### plain lists of entries -/
section
variable {κ β : Type}
def getA [DecidableEq κ] (L : List (κ × β)) (x : κ) : Option β := (L.find? fun p => decide (p.1 = x)).map (·.2)
def putA [DecidableEq κ] (L : List (κ × β)) (x : κ) (c : β) : List (κ × β) := if x ∈ L.map (·.1) then L.map (fun p => if p.1 = x then (x, c) else p) else L ++ [(x, c)]
def NoTwo (L : List (κ × β)) : Prop := (L.map (·.1)).Nodup
theorem len_le_nodup {α : Type} : ∀ (t l : List α), t.Nodup → (∀ x ∈ t, x ∈ l) → t.length ≤ l.length
  | [], l, _, _ => by simp
  | a :: t, l, hn, h => by
    have hn' := List.nodup_cons.1 hn
    obtain ⟨l1, l2, rfl⟩ := List.append_of_mem (h a (by simp))
    have := len_le_nodup t (l1 ++ l2) hn'.2 fun x hx => by
      have h1 := h x (by simp [hx])
      have hne : x ≠ a := fun e => hn'.1 (e ▸ hx)
      simp only [List.mem_append, List.mem_cons] at h1 ⊢
      rcases h1 with h | h | h
      · exact .inl h
      · exact absurd h hne
      · exact .inr h
    simp only [List.length_append, List.length_cons] at this ⊢
    omega
theorem NoTwo.nil : NoTwo ([] : List (κ × β)) := by simp [NoTwo]
theorem NoTwo.uniq : ∀ {L : List (κ × β)}, NoTwo L → ∀ {p q : κ × β}, p ∈ L → q ∈ L → p.1 = q.1 → p = q
  | [], _, _, _, h, _, _ => by simp at h
  | a :: r, hn, p, q, hp, hq, e => by
    have hn' := List.nodup_cons.1 (show ((a :: r).map (·.1)).Nodup from hn)
    rcases List.mem_cons.1 hp with rfl | hp' <;> rcases List.mem_cons.1 hq with rfl | hq'
    · rfl
    · exact absurd (List.mem_map.2 ⟨q, hq', e.symm⟩) hn'.1
    · exact absurd (List.mem_map.2 ⟨p, hp', e⟩) hn'.1
    · exact NoTwo.uniq hn'.2 hp' hq' e
theorem getA_some [DecidableEq κ] {L : List (κ × β)} {x : κ} {c : β} (h : getA L x = some c) : (x, c) ∈ L := by
  unfold getA at h
  obtain ⟨p, hp, rfl⟩ := Option.map_eq_some_iff.1 h
  have h1 := List.mem_of_find?_eq_some hp
  have h2 := List.find?_some hp
  simp only [decide_eq_true_eq] at h2
  subst h2
  exact h1
theorem getA_none [DecidableEq κ] {L : List (κ × β)} {x : κ} (h : getA L x = none) : x ∉ L.map (·.1) := by
  unfold getA at h
  rw [Option.map_eq_none_iff, List.find?_eq_none] at h
  intro hx
  obtain ⟨p, hp, rfl⟩ := List.mem_map.1 hx
  have := h p hp
  simp at this
theorem getA_iff [DecidableEq κ] {L : List (κ × β)} (hn : NoTwo L) (x : κ) (c : β) : getA L x = some c ↔ (x, c) ∈ L := by
  refine ⟨getA_some, fun h => ?_⟩
  cases hg : getA L x with
  | none => exact absurd (List.mem_map.2 ⟨_, h, rfl⟩) (getA_none hg)
  | some d =>
    have := NoTwo.uniq hn (getA_some hg) h rfl
    rw [Prod.mk.injEq] at this
    rw [this.2]
theorem getA_mem [DecidableEq κ] {L : List (κ × β)} (x : κ) : (getA L x).isSome = decide (x ∈ L.map (·.1)) := by
  cases hg : getA L x with
  | none => simp only [Option.isSome_none]; rw [decide_eq_false (getA_none hg)]
  | some d => simp only [Option.isSome_some]; rw [decide_eq_true (List.mem_map.2 ⟨_, getA_some hg, rfl⟩)]
theorem getA_ext [DecidableEq κ] {L M : List (κ × β)} (hL : NoTwo L) (_hM : NoTwo M) (h : ∀ p, p ∈ L ↔ p ∈ M) (x : κ) : getA L x = getA M x := by
  cases hg : getA M x with
  | none =>
    cases hl : getA L x with
    | none => rfl
    | some c => exact absurd (List.mem_map.2 ⟨_, (h _).1 (getA_some hl), rfl⟩) (getA_none hg)
  | some c => exact (getA_iff hL x c).2 ((h _).2 (getA_some hg))
theorem mem_ext [DecidableEq κ] {L M : List (κ × β)} (hL : NoTwo L) (hM : NoTwo M) (h : ∀ x, getA L x = getA M x) (p : κ × β) : p ∈ L ↔ p ∈ M := by
  obtain ⟨x, c⟩ := p
  rw [← getA_iff hL, ← getA_iff hM, h]
theorem perm_of_mem {L M : List (κ × β)} (hL : NoTwo L) (hM : NoTwo M) (h : ∀ p, p ∈ L ↔ p ∈ M) : L.Perm M := by
  have n1 : L.Nodup := List.Pairwise.of_map (S := (· ≠ ·)) (·.1) (fun a b h e => h (congrArg Prod.fst e)) hL
  have n2 : M.Nodup := List.Pairwise.of_map (S := (· ≠ ·)) (·.1) (fun a b h e => h (congrArg Prod.fst e)) hM
  exact (List.perm_ext_iff_of_nodup n1 n2).2 h
theorem keys_putA [DecidableEq κ] (L : List (κ × β)) (x : κ) (c : β) : (putA L x c).map (·.1) = if x ∈ L.map (·.1) then L.map (·.1) else L.map (·.1) ++ [x] := by
  unfold putA
  split
  · rw [List.map_map]
    refine List.map_congr_left fun p _ => ?_
    simp only [Function.comp]
    by_cases e : p.1 = x
    · rw [if_pos e]; exact e.symm
    · rw [if_neg e]
  · simp
theorem NoTwo.put [DecidableEq κ] {L : List (κ × β)} (h : NoTwo L) (x : κ) (c : β) : NoTwo (putA L x c) := by
  unfold NoTwo
  rw [keys_putA]
  split
  · exact h
  · rename_i hx
    exact List.nodup_append.2 ⟨h, by simp, fun a ha b hb => by simp at hb; subst hb; intro e; subst e; exact hx ha⟩
theorem mem_putA [DecidableEq κ] {L : List (κ × β)} {x : κ} {c : β} (p : κ × β) : p ∈ putA L x c ↔ p = (x, c) ∨ (p ∈ L ∧ p.1 ≠ x) := by
  unfold putA
  split
  · rename_i hx
    rw [List.mem_map]
    constructor
    · rintro ⟨q, hq, rfl⟩
      by_cases e : q.1 = x
      · rw [if_pos e]; exact .inl rfl
      · rw [if_neg e]; exact .inr ⟨hq, e⟩
    · rintro (rfl | ⟨h1, h2⟩)
      · obtain ⟨q, hq, rfl⟩ := List.mem_map.1 hx
        exact ⟨q, hq, by rw [if_pos rfl]⟩
      · exact ⟨p, h1, by rw [if_neg h2]⟩
  · rename_i hx
    rw [List.mem_append, List.mem_singleton]
    constructor
    · rintro (h | h)
      · exact .inr ⟨h, fun e => hx (List.mem_map.2 ⟨p, h, e⟩)⟩
      · exact .inl h
    · rintro (h | ⟨h, _⟩)
      · exact .inr h
      · exact .inl h
theorem getA_put [DecidableEq κ] {L : List (κ × β)} (h : NoTwo L) (x y : κ) (c : β) : getA (putA L x c) y = if y = x then some c else getA L y := by
  by_cases e : y = x
  · subst e
    rw [if_pos rfl]
    exact (getA_iff (h.put y c) y c).2 ((mem_putA _).2 (.inl rfl))
  · rw [if_neg e]
    cases hg : getA L y with
    | none =>
      cases hp : getA (putA L x c) y with
      | none => rfl
      | some d =>
        rcases (mem_putA _).1 (getA_some hp) with h1 | ⟨h1, _⟩
        · rw [Prod.mk.injEq] at h1; exact absurd h1.1 e
        · exact absurd (List.mem_map.2 ⟨_, h1, rfl⟩) (getA_none hg)
    | some d => exact (getA_iff (h.put x c) y d).2 ((mem_putA _).2 (.inr ⟨getA_some hg, e⟩))
theorem putA_length [DecidableEq κ] (L : List (κ × β)) (x : κ) (c : β) : (putA L x c).length = if x ∈ L.map (·.1) then L.length else L.length + 1 := by
  have := congrArg List.length (keys_putA L x c)
  rw [List.length_map] at this
  rw [this]
  split <;> simp
theorem NoTwo.filter {L : List (κ × β)} (h : NoTwo L) (f : κ × β → Bool) : NoTwo (L.filter f) := List.Sublist.nodup ((List.filter_sublist (l := L)).map _) h
theorem NoTwo.perm {L M : List (κ × β)} (h : NoTwo L) (p : L.Perm M) : NoTwo M := (p.map _).nodup_iff.1 h
end

/-! ### in memory -/
/-- How keys and elements of a map are laid. -/
structure KV (P : Program) (k : TypeId) (κ β : Type) where
  K : Keyed P k
  kv : κ → Value
  kl : κ → Lit
  vv : β → Value
  ok : κ → Prop
  key : ∀ x, ok x → keyOf P k (kv x) = some (kl x)
  inj : ∀ x y, ok x → ok y → kl x = kl y → x = y
  vinj : ∀ a b, vv a = vv b → a = b

def heldR (v : Value) : Option (DataW Value × List MemPlace) := some (.held v, [])

section
variable {P : Program} {k : TypeId} {κ β : Type} {S : KV P k κ β}
theorem KV.lit (S : KV P k κ β) {x : κ} (h : S.ok x) : WideAt.IsKeyLit (S.kl x) := S.K.key (S.key x h)

/-- Out of a key's law alone. -/
noncomputable def KV.of {P : Program} {k : TypeId} {κ β : Type} (K : Keyed P k) (kv : κ → Value) (ok : κ → Prop) (hs : ∀ x, ok x → (keyOf P k (kv x)).isSome = true) (hi : ∀ x y, kv x = kv y → x = y) (vv : β → Value) (vi : ∀ a b, vv a = vv b → a = b) : KV P k κ β where
  K := K
  kv := kv
  kl x := (keyOf P k (kv x)).getD (.bool false)
  vv := vv
  ok := ok
  key x h := by
    obtain ⟨l, hl⟩ := Option.isSome_iff_exists.1 (hs x h)
    rw [hl]; rfl
  inj x y hx hy h := by
    obtain ⟨l, hl⟩ := Option.isSome_iff_exists.1 (hs x hx)
    obtain ⟨m, hm⟩ := Option.isSome_iff_exists.1 (hs y hy)
    rw [hl, hm] at h
    simp only [Option.getD_some] at h
    subst h
    exact hi x y (K.inj hl hm)
  vinj := vi

/-- The datum D holds just the entries L. -/
structure Ent (S : KV P k κ β) (D : DataW Value) (L : List (κ × β)) : Prop where
  tidy : Tidy D
  two : NoTwo L
  ok : ∀ p ∈ L, S.ok p.1
  at_ : ∀ p ∈ L, ∀ z, D.atKey (S.kl p.1) z = .held (S.vv p.2)
  has : ∀ l, Maps.has D l = true → ∃ p ∈ L, l = S.kl p.1
  size : Maps.size D = L.length
theorem Ent.nil : Ent S (.map []) [] := ⟨tidy_empty, NoTwo.nil, by simp, by simp, fun l h => by simp [has_eq] at h, rfl⟩
theorem Ent.has_iff [DecidableEq κ] {D : DataW Value} {L : List (κ × β)} (h : Ent S D L) {x : κ} (hx : S.ok x) : Maps.has D (S.kl x) = decide (x ∈ L.map (·.1)) := by
  rw [Bool.eq_iff_iff, decide_eq_true_eq, List.mem_map]
  constructor
  · intro hh
    obtain ⟨p, hp, e⟩ := h.has _ hh
    exact ⟨p, hp, (S.inj _ _ hx (h.ok p hp) e).symm⟩
  · rintro ⟨p, hp, rfl⟩
    exact has_true_of_atKey (h.at_ p hp)
theorem Ent.at_get [DecidableEq κ] {D : DataW Value} {L : List (κ × β)} (h : Ent S D L) {x : κ} (hx : S.ok x) (z : DataW Value) : D.atKey (S.kl x) z = ((getA L x).map fun c => DataW.held (S.vv c)).getD z := by
  cases hg : getA L x with
  | some c => exact h.at_ (x, c) (getA_some hg) z
  | none =>
    have := h.has_iff hx
    rw [decide_eq_false (getA_none hg)] at this
    exact atKey_of_not_has this z
theorem Ent.put [DecidableEq κ] {D : DataW Value} {L : List (κ × β)} (h : Ent S D L) {x : κ} (hx : S.ok x) (c : β) : Ent S (D.put (S.kl x) (.held (S.vv c))) (putA L x c) := by
  refine ⟨h.tidy.put (S.lit hx) _, h.two.put x c, fun p hp => ?_, fun p hp z => ?_, fun l hl => ?_, ?_⟩
  · rcases (mem_putA p).1 hp with rfl | ⟨hp, _⟩
    · exact hx
    · exact h.ok p hp
  · rcases (mem_putA p).1 hp with rfl | ⟨hp, hne⟩
    · exact atKey_put_same h.tidy.isMap (S.lit hx) _ _
    · rw [atKey_put_other fun e => hne (S.inj _ _ (h.ok p hp) hx e)]; exact h.at_ p hp z
  · by_cases e : l = S.kl x
    · exact ⟨(x, c), (mem_putA _).2 (.inl rfl), e⟩
    · rw [has_put_other e] at hl
      obtain ⟨p, hp, rfl⟩ := h.has l hl
      exact ⟨p, (mem_putA _).2 (.inr ⟨hp, fun e' => e (by rw [e'])⟩), rfl⟩
  · rw [size_put h.tidy, h.has_iff hx, putA_length, h.size]
    simp only [decide_eq_true_eq]
theorem Ent.del [DecidableEq κ] {D : DataW Value} {L : List (κ × β)} (h : Ent S D L) {x : κ} (hx : S.ok x) : Ent S (D.del (S.kl x)) (L.filter fun p => !decide (p.1 = x)) := by
  have hm : ∀ p, p ∈ L.filter (fun p => !decide (p.1 = x)) ↔ p ∈ L ∧ p.1 ≠ x := fun p => by simp [List.mem_filter]
  refine ⟨h.tidy.del _, h.two.filter _, fun p hp => h.ok p ((hm p).1 hp).1, fun p hp z => ?_, fun l hl => ?_, ?_⟩
  · obtain ⟨hp, hne⟩ := (hm p).1 hp
    rw [atKey_del_other fun e => hne (S.inj _ _ (h.ok p hp) hx e)]; exact h.at_ p hp z
  · by_cases e : l = S.kl x
    · subst e; rw [has_del_same] at hl; cases hl
    · rw [has_del_other e] at hl
      obtain ⟨p, hp, rfl⟩ := h.has l hl
      exact ⟨p, (hm p).2 ⟨hp, fun e' => e (by rw [e'])⟩, rfl⟩
  · have h1 := size_del (k := S.kl x) h.tidy
    rw [h.has_iff hx, h.size] at h1
    have h2 : ∀ M : List (κ × β), NoTwo M → (M.filter fun p => !decide (p.1 = x)).length + (if x ∈ M.map (·.1) then 1 else 0) = M.length := by
      intro M
      induction M with
      | nil => intro _; simp
      | cons a r ih =>
        intro hn
        have hn' := List.nodup_cons.1 (show ((a :: r).map (·.1)).Nodup from hn)
        have ih' := ih hn'.2
        rw [List.filter_cons, List.map_cons]
        by_cases e : a.1 = x
        · subst e
          rw [if_neg hn'.1] at ih'
          simp only [decide_true, Bool.not_true, Bool.false_eq_true, if_false, List.mem_cons, true_or, if_true, List.length_cons]
          omega
        · have e' : ¬ x = a.1 := fun h => e h.symm
          simp only [decide_eq_false e, Bool.not_false, if_true, List.length_cons, List.mem_cons, e', false_or]
          omega
    have h3 := h2 L h.two
    simp only [decide_eq_true_eq] at h1
    omega

/-- Block b is a map with just the entries L. -/
def MapA (S : KV P k κ β) (w : World) (b : Nat) (L : List (κ × β)) : Prop := ∃ D, w.ownsMap P k heldR b L.length D ∧ Ent S D L
theorem MapA.perm [DecidableEq κ] {w : World} {b : Nat} {L M : List (κ × β)} (h : MapA S w b L) (p : L.Perm M) : MapA S w b M := h.elim fun D h =>
  ⟨D, by rw [← p.length_eq]; exact h.1, ⟨h.2.tidy, h.2.two.perm p, fun q hq => h.2.ok q (p.mem_iff.2 hq), fun q hq => h.2.at_ q (p.mem_iff.2 hq), fun l hl => (h.2.has l hl).imp fun q hq => ⟨p.mem_iff.1 hq.1, hq.2⟩, by rw [h.2.size, p.length_eq]⟩⟩
theorem own_tight {w : World} {b n : Nat} {D : DataW Value} (h : w.ownsMap P k heldR b n D) : w.ownsMap P k heldR b (Maps.size D) D := by
  obtain ⟨es, clock, hb, F, hs, rfl⟩ := h
  exact ⟨es, clock, hb, F, by simp [Maps.size, length_sorted], rfl⟩
theorem MapA.made (S : KV P k κ β) (w : World) : MapA S (w.alloc (.map #[] 0)) w.heap.size [] := ⟨_, World.ownsMap_made w P k _, Ent.nil⟩
theorem MapA.two {w : World} {b : Nat} {L : List (κ × β)} (h : MapA S w b L) : NoTwo L := h.elim fun _ h => h.2.two
theorem MapA.ok {w : World} {b : Nat} {L : List (κ × β)} (h : MapA S w b L) : ∀ p ∈ L, S.ok p.1 := h.elim fun _ h => h.2.ok
theorem MapA.kept {w w' : World} {b : Nat} {L : List (κ × β)} {row : Option Nat} (h : MapA S w b L) (hg : w.grownBy w' row) (hne : some b ≠ row) : MapA S w' b L := h.elim fun D h => ⟨D, h.1.kept hg hne, h.2⟩
theorem MapA.lt {w : World} {b : Nat} {L : List (κ × β)} (h : MapA S w b L) : b < w.heap.size := h.elim fun _ h => h.1.lt
theorem MapA.keep {w w' : World} {b : Nat} {L : List (κ × β)} (h : MapA S w b L) (e1 : w'.heap[b]? = w.heap[b]?) : MapA S w' b L := by
  obtain ⟨D, ⟨es, clock, hb, r⟩, h2⟩ := h
  exact ⟨D, ⟨es, clock, e1.trans hb, r⟩, h2⟩
theorem MapA.below {w w' : World} {b : Nat} {L : List (κ × β)} (h : MapA S w b L) (hb : RowKit.Below w.heap.size w w') : MapA S w' b L := h.keep (hb.block b h.lt)

/-- A range over the map b by the iterator r: the entries done, in the order in which they came. -/
def RngA (S : KV P k κ β) (w : World) (b r : Nat) (L done : List (κ × β)) : Prop :=
  ∃ D n left cnt, w.ranges P k heldR b r n D left cnt ∧ Ent S D L ∧ NoTwo done ∧ (∀ p ∈ done, p ∈ L) ∧ ∀ l, left l = true ↔ ∃ p ∈ L, l = S.kl p.1 ∧ p.1 ∉ done.map (·.1)
theorem RngA.map {w : World} {b r : Nat} {L done : List (κ × β)} (h : RngA S w b r L done) : MapA S w b L := by
  obtain ⟨D, n, left, cnt, h1, h2, _⟩ := h
  exact ⟨D, by rw [← h2.size]; exact own_tight h1.owns, h2⟩
theorem RngA.ne {w : World} {b r : Nat} {L done : List (κ × β)} (h : RngA S w b r L done) : r ≠ b := by
  obtain ⟨D, n, left, cnt, h1, _⟩ := h
  exact h1.ne
theorem RngA.lt {w : World} {b r : Nat} {L done : List (κ × β)} (h : RngA S w b r L done) : r < w.heap.size := by
  obtain ⟨D, n, left, cnt, h1, _⟩ := h
  exact h1.lt
theorem RngA.kept {w w' : World} {b r : Nat} {L done : List (κ × β)} {row : Option Nat} (h : RngA S w b r L done) (hg : w.grownBy w' row) (hb : some b ≠ row) (hr : some r ≠ row) : RngA S w' b r L done := by
  obtain ⟨D, n, left, cnt, h1, h2⟩ := h
  exact ⟨D, n, left, cnt, h1.kept hg hb hr, h2⟩
theorem RngA.keep {w w' : World} {b r : Nat} {L done : List (κ × β)} (h : RngA S w b r L done) (e1 : w'.heap[b]? = w.heap[b]?) (e2 : w'.heap[r]? = w.heap[r]?) : RngA S w' b r L done := by
  obtain ⟨D, n, left, cnt, ⟨es, clock, since, seen, c0, hb, F, hs, hD, hr, rest⟩, h2⟩ := h
  exact ⟨D, n, left, cnt, ⟨es, clock, since, seen, c0, e1.trans hb, F, hs, hD, e2.trans hr, rest⟩, h2⟩
theorem RngA.below {w w' : World} {b r : Nat} {L done : List (κ × β)} (h : RngA S w b r L done) (hb : RowKit.Below w.heap.size w w') : RngA S w' b r L done := h.keep (hb.block b h.map.lt) (hb.block r h.lt)
theorem RngA.len {w : World} {b r : Nat} {L done : List (κ × β)} (h : RngA S w b r L done) : done.length ≤ L.length := by
  obtain ⟨D, n, left, cnt, h1, h2, h3, h4, _⟩ := h
  have n1 : done.Nodup := List.Pairwise.of_map (S := (· ≠ ·)) (·.1) (fun a b h e => h (congrArg Prod.fst e)) h3
  exact len_le_nodup _ _ n1 h4

variable (w : World) {ops : Array Oper} {rest : List Oper} {o : Oper} {a : Act} {Q : Exit → Act → World → Prop}
/-- m[x]. -/
theorem wpList_lookup_a [DecidableEq κ] (hg : o.guard = none) (m x : Operand) (t : TypeId) (hop : o.op = Op.lookup t m x false)
    (S : KV P k κ β) (e : TypeId) (ht : P.underlying t = some (.map k e)) (z : Value) (hz : (zeroValue e).run P w = .ok z w) (b : Nat) (L : List (κ × β))
    (hm : a.eval m = .map (some b)) (hown : MapA S w b L) (y : κ) (hy : S.ok y) (hx : a.eval x = S.kv y)
    (hK : wpList P ops Q rest (a.put o.dst (((getA L y).map S.vv).getD z)) w) : wpList P ops Q (o :: rest) a w := by
  refine wpList_plain hg fun K' hK' => ?_
  obtain ⟨D, h1, h2⟩ := hown
  obtain ⟨v, ps, hrun, hv⟩ := h1.lookup S.K ht hz (R := heldR) rfl (S.key y hy)
  rw [h2.at_get hy] at hv
  have e1 : v = ((getA L y).map S.vv).getD z := by
    unfold heldR at hv
    cases hg : getA L y <;> rw [hg] at hv <;> simp at hv <;> simp [hv.1]
  rw [← e1] at hK
  unfold Oper.wp
  simp [execOp, hop, hm, hx, hrun, Result.andThen]
  exact hK' _ _ hK
/-- v, ok := m[x]. -/
theorem wpList_lookup_a_ok [DecidableEq κ] (hg : o.guard = none) (m x : Operand) (t : TypeId) (hop : o.op = Op.lookup t m x true)
    (S : KV P k κ β) (e : TypeId) (ht : P.underlying t = some (.map k e)) (z : Value) (hz : (zeroValue e).run P w = .ok z w) (b : Nat) (L : List (κ × β))
    (hm : a.eval m = .map (some b)) (hown : MapA S w b L) (y : κ) (hy : S.ok y) (hx : a.eval x = S.kv y)
    (hK : wpList P ops Q rest (a.put o.dst (.tuple #[((getA L y).map S.vv).getD z, .bool (getA L y).isSome])) w) : wpList P ops Q (o :: rest) a w := by
  refine wpList_plain hg fun K' hK' => ?_
  obtain ⟨D, h1, h2⟩ := hown
  obtain ⟨v, ps, hrun, hv⟩ := h1.look_ok S.K ht hz (R := heldR) rfl (S.key y hy)
  rw [h2.at_get hy] at hv
  rw [h2.has_iff hy, ← getA_mem] at hrun
  have e1 : v = ((getA L y).map S.vv).getD z := by
    unfold heldR at hv
    cases hg : getA L y <;> rw [hg] at hv <;> simp at hv <;> simp [hv.1]
  rw [← e1] at hK
  unfold Oper.wp
  simp [execOp, hop, hm, hx, hrun, Result.andThen]
  exact hK' _ _ hK
/-- m[x] = c. -/
theorem wpList_mapUpdate_a [DecidableEq κ] (hg : o.guard = none) (m x v : Operand) (t : TypeId) (hop : o.op = Op.mapUpdate t m x v)
    (S : KV P k κ β) (e : TypeId) (ht : P.underlying t = some (.map k e)) (b : Nat) (L : List (κ × β))
    (hm : a.eval m = .map (some b)) (hown : MapA S w b L) (hn : L.length < maxLen) (y : κ) (hy : S.ok y) (c : β) (hx : a.eval x = S.kv y) (hv : a.eval v = S.vv c)
    (hK : ∀ w', MapA S w' b (putA L y c) → w.grownBy w' (some b) → wpList P ops Q rest (a.put o.dst undef) w') : wpList P ops Q (o :: rest) a w := by
  obtain ⟨D, h1, h2⟩ := hown
  exact wpList_mapUpdate_own w hg m x v t hop k e S.K ht heldR b L.length D hm h1 hn (S.kv y) (S.vv c) (S.kl y) hx hv (S.key y hy) (.held (S.vv c)) [] rfl fun w' g1 g2 =>
    hK w' ⟨_, by rw [← (h2.put hy c).size]; exact own_tight g1, h2.put hy c⟩ g2
theorem MapA.run_lookup [DecidableEq κ] {w : World} {S : KV P k κ β} {t e : TypeId} (ht : P.underlying t = some (.map k e)) {z : Value} (hz : (zeroValue e).run P w = .ok z w) {b : Nat} {L : List (κ × β)} (hown : MapA S w b L) {y : κ} (hy : S.ok y) :
    (Instr.lookup t (.map (some b)) (S.kv y) false).run P w = .ok (((getA L y).map S.vv).getD z) w := by
  obtain ⟨D, h1, h2⟩ := hown
  obtain ⟨v, ps, hrun, hv⟩ := h1.lookup S.K ht hz (R := heldR) rfl (S.key y hy)
  rw [h2.at_get hy] at hv
  have e1 : v = ((getA L y).map S.vv).getD z := by
    unfold heldR at hv
    cases hg : getA L y <;> rw [hg] at hv <;> simp at hv <;> simp [hv.1]
  rw [← e1]; exact hrun
/-- m[x] in a quiet walk. -/
theorem quiet_lookup_a [DecidableEq κ] {C : World → Prop} {K : Act → Prop} (m x : Operand) (t : TypeId) (ho : o.op = .lookup t m x false)
    (S : KV P k κ β) (e : TypeId) (ht : P.underlying t = some (.map k e)) (z : Value) (hz : ∀ w, (zeroValue e).run P w = .ok z w) (b : Nat) (L : List (κ × β))
    (hm : a.eval m = .map (some b)) (hown : ∀ w, C w → MapA S w b L) (y : κ) (hy : S.ok y) (hx : a.eval x = S.kv y) (hk : K (a.put o.dst (((getA L y).map S.vv).getD z))) : o.quiet P a C K :=
  ⟨_, fun w hw => by
    unfold Oper.quietAt execOp
    simp only [ho, hm, hx, Sem.run_bind, Sem.run_pure, MapA.run_lookup ht (hz w) (hown w hw) hy, Result.andThen_ok]
    exact ⟨rfl, rfl⟩, hk⟩
/-- m[x] = c, an operation by itself. -/
theorem wp_mapUpdate_a [DecidableEq κ] {K : Act → World → Prop} (m x v : Operand) (t : TypeId) (hop : o.op = Op.mapUpdate t m x v)
    (S : KV P k κ β) (e : TypeId) (ht : P.underlying t = some (.map k e)) (b : Nat) (L : List (κ × β))
    (hm : a.eval m = .map (some b)) (hown : MapA S w b L) (hn : L.length < maxLen) (y : κ) (hy : S.ok y) (c : β) (hx : a.eval x = S.kv y) (hv : a.eval v = S.vv c)
    (hK : ∀ w', MapA S w' b (putA L y c) → w.grownBy w' (some b) → K (a.put o.dst undef) w') : o.wp P a w K Q := by
  obtain ⟨D, h1, h2⟩ := hown
  obtain ⟨w', hrun, r1, r2⟩ := h1.update S.K ht hn (S.key y hy) (R := heldR) (val := S.vv c) rfl
  have hr := hK w' ⟨_, by rw [← (h2.put hy c).size]; exact own_tight r1, h2.put hy c⟩ r2
  unfold Oper.wp
  simp [execOp, hop, hm, hx, hv, hrun, Result.andThen]
  exact hr
/-- len(m). -/
theorem wpList_len_a (hg : o.guard = none) (m : Operand) (t : TypeId) (hop : o.op = Op.call { callee := Callee.builtin Builtin.len, args := #[m], argTypes := #[t] })
    (S : KV P k κ β) (e : TypeId) (ht : P.underlying t = some (.map k e)) (b : Nat) (L : List (κ × β)) (hm : a.eval m = .map (some b)) (hown : MapA S w b L)
    (hK : wpList P ops Q rest (a.put o.dst (.int .i64 L.length)) w) : wpList P ops Q (o :: rest) a w := by
  obtain ⟨D, h1, h2⟩ := hown
  rw [← h2.size] at hK
  exact wpList_len_own w hg m t hop k e ht heldR b L.length D hm h1 hK
/-- range m. -/
theorem wpList_range_a [DecidableEq κ] (hg : o.guard = none) (m : Operand) (t : TypeId) (hop : o.op = Op.range t m) (S : KV P k κ β) (e : TypeId) (ht : P.underlying t = some (.map k e)) (b : Nat) (L : List (κ × β))
    (hm : a.eval m = .map (some b)) (hown : MapA S w b L)
    (hK : ∀ w', RngA S w' b w.heap.size L [] → w.grownBy w' none → w'.heap.size = w.heap.size + 1 → wpList P ops Q rest (a.put o.dst (.pointer (some ⟨w.heap.size, 0, none⟩))) w') :
    wpList P ops Q (o :: rest) a w := by
  obtain ⟨D, h1, h2⟩ := hown
  refine wpList_range_own w hg m t hop k e S.K ht heldR b L.length D hm h1 fun w' g1 g2 g3 => hK w' ⟨D, _, _, _, g1, h2, NoTwo.nil, by simp, fun l => ⟨fun h => ?_, fun ⟨p, hp, e, _⟩ => ?_⟩⟩ g2 g3
  · obtain ⟨p, hp, e⟩ := h2.has l h
    exact ⟨p, hp, e, by simp⟩
  · rw [e, h2.has_iff (h2.ok p hp)]
    exact decide_eq_true (List.mem_map.2 ⟨p, hp, rfl⟩)
/-- The step of a range. -/
theorem wpList_next_a [DecidableEq κ] (hg : o.guard = none) (it : Operand) (hop : o.op = Op.next it false) (S : KV P k κ β) (b r : Nat) (L done : List (κ × β))
    (hit : a.eval it = .pointer (some ⟨r, 0, none⟩)) (h : RngA S w b r L done)
    (hDone : done.Perm L → wpList P ops Q rest (a.put o.dst (.tuple #[.bool false])) w)
    (hMore : ∀ x c w', (x, c) ∈ L → x ∉ done.map (·.1) → S.ok x → RngA S w' b r L (done ++ [(x, c)]) → w.grownBy w' (some r) → w'.heap.size = w.heap.size →
      (Instr.entry (.pointer (some ⟨r, 0, none⟩))).run P w' = .ok (.tuple #[S.kv x, S.vv c]) w' → wpList P ops Q rest (a.put o.dst (.tuple #[.bool true, S.kv x, S.vv c])) w') :
    wpList P ops Q (o :: rest) a w := by
  refine wpList_plain hg fun K' hK' => ?_
  obtain ⟨D, n, left, cnt, h1, h2, h3, h4, h5⟩ := h
  unfold Oper.wp
  rcases h1.next S.K o.type with ⟨h0, hl, hrun⟩ | ⟨key, v, kl, y, w', cnt', hkey, hlk, hv, hat, hrun, hrg, hlt, hgr, hsz, hen⟩
  · simp [execOp, hop, hit, hrun, Result.andThen]
    refine hK' _ _ (hDone (perm_of_mem h3 h2.two fun p => ⟨h4 p, fun hp => ?_⟩))
    have := mt (h5 (S.kl p.1)).2 (by rw [hl]; exact Bool.false_ne_true)
    have hin : p.1 ∈ done.map (·.1) := Classical.byContradiction fun hc => this ⟨p, hp, rfl, hc⟩
    obtain ⟨q, hq, e⟩ := List.mem_map.1 hin
    rw [← NoTwo.uniq h2.two (h4 q hq) hp e]
    exact hq
  · obtain ⟨⟨x, c⟩, hp, rfl, hnd⟩ := (h5 kl).1 hlk
    have hok := h2.ok _ hp
    obtain rfl : key = S.kv x := S.K.inj hkey (S.key x hok)
    have hv2 : v = S.vv c := by
      have := hat (.held v)
      rw [h2.at_ _ hp] at this
      unfold heldR at hv
      rw [Option.some.injEq] at hv
      rw [← hv] at this
      injection this with this
      exact this.symm
    subst hv2
    simp [execOp, hop, hit, hrun, Result.andThen]
    refine hK' _ _ (hMore x c w' hp hnd hok ⟨D, n, _, cnt', hrg, h2, ?_, ?_, fun l => ?_⟩ hgr hsz hen)
    · unfold NoTwo
      rw [List.map_append]
      exact List.nodup_append.2 ⟨h3, by simp, fun a ha b hb => by simp at hb; subst hb; intro e; subst e; exact hnd ha⟩
    · intro p hp'
      rcases List.mem_append.1 hp' with h | h
      · exact h4 p h
      · rw [List.mem_singleton.1 h]; exact hp
    · rw [Bool.and_eq_true, h5 l, Bool.not_eq_true']
      constructor
      · rintro ⟨⟨p, hp', rfl, hn⟩, hs⟩
        refine ⟨p, hp', rfl, ?_⟩
        rw [List.map_append, List.mem_append]
        rintro (h | h)
        · exact hn h
        · simp at h
          rw [h, WideAt.sameKey_self (S.lit hok)] at hs
          cases hs
      · rintro ⟨p, hp', rfl, hn⟩
        rw [List.map_append, List.mem_append] at hn
        refine ⟨⟨p, hp', rfl, fun h => hn (.inl h)⟩, sameKey_ne fun e => hn (.inr ?_)⟩
        rw [S.inj _ _ (h2.ok p hp') hok e]
        simp
/-- delete(m, x) in a range, at an entry that has come. -/
theorem wpList_delete_a [DecidableEq κ] (hg : o.guard = none) (m x : Operand) (t : TypeId) (hop : o.op = Op.call { callee := Callee.builtin Builtin.delete, args := #[m, x], argTypes := #[t, k] })
    (S : KV P k κ β) (e : TypeId) (ht : P.underlying t = some (.map k e)) (b r : Nat) (L done : List (κ × β)) (hm : a.eval m = .map (some b)) (h : RngA S w b r L done) (y : κ) (hy : S.ok y) (hx : a.eval x = S.kv y)
    (hK : ∀ w', RngA S w' b r (L.filter fun p => !decide (p.1 = y)) (done.filter fun p => !decide (p.1 = y)) → w.grownBy w' (some b) → wpList P ops Q rest (a.put o.dst (.tuple #[])) w') : wpList P ops Q (o :: rest) a w := by
  obtain ⟨D, n, left, cnt, h1, h2, h3, h4, h5⟩ := h
  refine wpList_plain hg fun K' hK' => ?_
  obtain ⟨w', cnt', hrun, hrg, _, htn⟩ := h1.drop S.K ht (S.key y hy) o.type
  unfold Oper.wp
  simp [execOp, hop, hm, hx, resolve, invoke, builtin, hrun, Result.andThen]
  refine hK' _ _ (hK w' ⟨_, n, _, cnt', hrg, h2.del hy, h3.filter _, fun p hp => ?_, fun l => ?_⟩ htn.grown)
  · obtain ⟨a1, a2⟩ := List.mem_filter.1 hp
    exact List.mem_filter.2 ⟨h4 p a1, a2⟩
  · rw [Bool.and_eq_true, h5 l, Bool.not_eq_true']
    constructor
    · rintro ⟨⟨p, hp', rfl, hn⟩, hs⟩
      have hne : p.1 ≠ y := fun e => by rw [e, WideAt.sameKey_self (S.lit hy)] at hs; cases hs
      refine ⟨p, List.mem_filter.2 ⟨hp', by simp [hne]⟩, rfl, fun h => hn ?_⟩
      obtain ⟨q, hq, e⟩ := List.mem_map.1 h
      exact List.mem_map.2 ⟨q, (List.mem_filter.1 hq).1, e⟩
    · rintro ⟨p, hp', rfl, hn⟩
      obtain ⟨a1, a2⟩ := List.mem_filter.1 hp'
      have hne : p.1 ≠ y := by simpa using a2
      refine ⟨⟨p, a1, rfl, fun h => hn ?_⟩, sameKey_ne fun e => hne (S.inj _ _ (h2.ok p a1) hy e)⟩
      obtain ⟨q, hq, e⟩ := List.mem_map.1 h
      exact List.mem_map.2 ⟨q, List.mem_filter.2 ⟨hq, by simp [e, hne]⟩, e⟩
end
end Go.Proofs.YthgefcoaaommkaaDoor
