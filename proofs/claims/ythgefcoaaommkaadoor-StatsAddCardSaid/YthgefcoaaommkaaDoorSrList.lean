/- The sorted lists of days, of names and of the most frequent names; sizes. Of no program. -/
import Derived.Test.YthgefcoaaommkaaDoorSrBase
import Derived.Test.YthgefcoaaommkaaDoorGnOrder
namespace Go.Sr
open Go.Proofs.YthgefcoaaommkaaDoor Go.Gn

/-! ### orders -/
def icmp (a b : Int) : Int := if a < b then -1 else if b < a then 1 else 0
theorem icmp_lt (a b : Int) : icmp a b < 0 ↔ a < b := by unfold icmp; split <;> (try split) <;> omega
theorem icmp_lin : Lin icmp where
  zero a b := by unfold icmp; split <;> (try split) <;> omega
  anti a b := by unfold icmp; split <;> (try split) <;> (try split) <;> omega
  trans a b d := by unfold icmp; split <;> (try split) <;> (try split) <;> (try split) <;> (try split) <;> (try split) <;> omega
  lo a b := by unfold icmp; split <;> (try split) <;> omega
  hi a b := by unfold icmp; split <;> (try split) <;> omega
def or2 (a b : Int) : Int := if a ≠ 0 then a else b
def lex2 {α β : Type} (c : α → α → Int) (d : β → β → Int) (x y : α × β) : Int := or2 (c x.1 y.1) (d x.2 y.2)
theorem lex2_lin {α β : Type} {c : α → α → Int} {d : β → β → Int} (hc : Lin c) (hd : Lin d) : Lin (lex2 c d) where
  zero a b := by
    unfold lex2 or2
    have h1 := hc.zero a.1 b.1
    have h2 := hd.zero a.2 b.2
    rw [Prod.ext_iff]
    split
    · rename_i h; exact ⟨fun h' => absurd h' h, fun h' => absurd (h1.2 h'.1) h⟩
    · rename_i h
      have h := Classical.byContradiction h
      exact ⟨fun h' => ⟨h1.1 h, h2.1 h'⟩, fun h' => h2.2 h'.2⟩
  anti a b := by
    unfold lex2 or2
    have h1 := hc.anti a.1 b.1
    have h2 := hd.anti a.2 b.2
    split <;> split <;> omega
  trans a b e := by
    unfold lex2 or2
    intro x y
    by_cases h1 : c a.1 b.1 = 0
    · rw [if_neg (by simp [h1])] at x
      have e1 := (hc.zero _ _).1 h1
      rw [e1]
      by_cases h2 : c b.1 e.1 = 0
      · rw [if_neg (by simp [h2])] at y ⊢
        exact hd.trans _ _ _ x y
      · rw [if_pos h2] at y ⊢; exact y
    · rw [if_pos h1] at x
      by_cases h2 : c b.1 e.1 = 0
      · rw [← (hc.zero _ _).1 h2, if_pos h1]; exact x
      · rw [if_pos h2] at y
        have : c a.1 e.1 < 0 := hc.lt_le (b := b.1) (by omega) y
        rw [if_pos (by omega)]; omega
  lo a b := by unfold lex2 or2; have := hc.lo a.1 b.1; have := hd.lo a.2 b.2; split <;> omega
  hi a b := by unfold lex2 or2; have := hc.hi a.1 b.1; have := hd.hi a.2 b.2; split <;> omega
theorem rev_lin {α : Type} {c : α → α → Int} (hc : Lin c) : Lin (fun a b => c b a) where
  zero a b := by rw [hc.zero]; exact eq_comm
  anti a b := hc.anti b a
  trans a b d h1 h2 := hc.trans d b a h2 h1
  lo a b := hc.lo b a
  hi a b := hc.hi b a
theorem pull_lin {α β : Type} {c : β → β → Int} (hc : Lin c) (f : α → β) (hf : ∀ a b, f a = f b → a = b) : Lin (fun a b => c (f a) (f b)) where
  zero a b := by rw [hc.zero]; exact ⟨hf a b, fun h => by rw [h]⟩
  anti a b := hc.anti _ _
  trans a b d := hc.trans _ _ _
  lo a b := hc.lo _ _
  hi a b := hc.hi _ _
theorem ins_mem {α : Type} {c : α → α → Int} (h : Lin c) (s : α) : ∀ {l : List α}, Inc c l → (l[insAt c s l]? = some s ↔ s ∈ l)
  | [], _ => by simp
  | x :: r, hi => by
    have hi' := List.pairwise_cons.1 hi
    have ih := ins_mem h s hi'.2
    unfold insAt
    by_cases hx : c x s < 0
    · rw [if_pos hx, List.getElem?_cons_succ, ih, List.mem_cons]
      refine ⟨.inr, fun h' => h'.resolve_left fun e => ?_⟩
      rw [e, h.self] at hx; omega
    · rw [if_neg hx, List.getElem?_cons_zero, List.mem_cons, Option.some.injEq]
      refine ⟨fun e => .inl e.symm, fun h' => ?_⟩
      rcases h' with e | h'
      · exact e.symm
      · exact absurd (hi'.1 s h') hx
theorem ins_mem_at {α : Type} [DecidableEq α] {c : α → α → Int} (h : Lin c) (s : α) {l : List α} (hi : Inc c l) : ins c s l = if s ∈ l then l else l.take (insAt c s l) ++ s :: l.drop (insAt c s l) := by
  rw [ins_at]
  by_cases hm : s ∈ l
  · rw [if_pos hm, if_pos ((ins_mem h s hi).2 hm)]
  · rw [if_neg hm, if_neg fun e => hm ((ins_mem h s hi).1 e)]
theorem lt_insAt {α : Type} {c : α → α → Int} (h : Lin c) (s : α) {l : List α} (hi : Inc c l) {k : Nat} {x : α} (hk : l[k]? = some x) : c x s < 0 ↔ k < insAt c s l := by
  constructor
  · intro hx
    refine Classical.byContradiction fun hc => ?_
    have hl := (List.getElem?_eq_some_iff.1 hk).1
    have hlt : insAt c s l < l.length := by omega
    have h2 := insAt_stop c s l _ (List.getElem?_eq_getElem hlt)
    by_cases e : insAt c s l = k
    · have : l[insAt c s l] = x := by
        obtain ⟨h3, h4⟩ := List.getElem?_eq_some_iff.1 hk
        simp only [e, h4]
      rw [this] at h2; exact h2 hx
    · have h5 := List.pairwise_iff_getElem.1 hi _ _ hlt hl (by omega)
      rw [(List.getElem?_eq_some_iff.1 hk).2] at h5
      have := h.lt_le h5 (by omega : c x s ≤ 0)
      exact h2 this
  · intro hx; exact insAt_lt c s l k x hx hk
/-- A sorted list without repetitions is the one that is made by putting in its members. -/
theorem sorted_insAll {α : Type} [DecidableEq α] {c : α → α → Int} (h : Lin c) {zs l : List α} (hs : zs.Pairwise fun a b => c a b ≤ 0) (hn : zs.Nodup) (hm : ∀ x, x ∈ zs ↔ x ∈ l) : zs = insAll c l := by
  refine inc_uniq h _ _ ?_ (insAll_inc h l) fun x => by rw [hm, mem_insAll h]
  refine List.Pairwise.imp₂ (R := fun a b => c a b ≤ 0) (S := fun a b => a ≠ b) (fun a b h1 h2 => ?_) hs hn
  have : c a b ≠ 0 := fun e => h2 ((h.zero a b).1 e)
  omega
theorem insAll_perm {α : Type} [DecidableEq α] {c : α → α → Int} (h : Lin c) {l m : List α} (hm : ∀ x, x ∈ l ↔ x ∈ m) : insAll c l = insAll c m :=
  inc_uniq h _ _ (insAll_inc h l) (insAll_inc h m) fun x => by rw [mem_insAll h, mem_insAll h, hm]

/-! ### days, names, the most frequent names -/
/-- The days with articles, in order. -/
def daysM (l : List Ev) : List Int := insAll icmp (l.map dayE)
theorem daysM_snoc (l : List Ev) (e : Ev) : daysM (l ++ [e]) = ins icmp (dayE e) (daysM l) := by unfold daysM; rw [List.map_append, List.map_singleton, insAll_snoc]
theorem daysM_inc (l : List Ev) : Inc icmp (daysM l) := insAll_inc icmp_lin _
theorem mem_daysM (l : List Ev) (d : Int) : d ∈ daysM l ↔ ∃ e ∈ l, dayE e = d := by unfold daysM; rw [mem_insAll icmp_lin, List.mem_map]
theorem keys_daysL (l : List Ev) (d : Int) : d ∈ (daysL l).map (·.1) ↔ d ∈ daysM l := by
  have h := getA_mem (L := daysL l) d
  rw [getA_days] at h
  rw [mem_daysM]
  by_cases he : (l.any fun e => decide (dayE e = d)) = true
  · rw [if_pos he] at h
    simp only [Option.isSome_some] at h
    obtain ⟨e, he1, he2⟩ := List.any_eq_true.1 he
    exact ⟨fun _ => ⟨e, he1, of_decide_eq_true he2⟩, fun _ => of_decide_eq_true h.symm⟩
  · rw [if_neg he] at h
    simp only [Option.isSome_none] at h
    exact ⟨fun h' => absurd h' (of_decide_eq_false h.symm), fun ⟨e, h1, h2⟩ => absurd (List.any_eq_true.2 ⟨e, h1, decide_eq_true h2⟩) he⟩
/-- The names of a kind from a day to a day, in order. -/
def namesK (l : List Ev) (k a b : Int) : List (List UInt8) := (l.filter fun e => decide (a ≤ dayE e) && decide (dayE e ≤ b)).flatMap fun e => ofKind e k
def namesM (l : List Ev) (k a b : Int) : List (List UInt8) := insAll scmp (namesK l k a b)
theorem namesK_snoc (l : List Ev) (e : Ev) (k a b : Int) : namesK (l ++ [e]) k a b = namesK l k a b ++ if (decide (a ≤ dayE e) && decide (dayE e ≤ b)) = true then ofKind e k else [] := by
  unfold namesK
  rw [List.filter_append, List.flatMap_append, List.filter_cons, List.filter_nil]
  split <;> simp
theorem mem_namesM (l : List Ev) (k a b : Int) (n : List UInt8) : n ∈ namesM l k a b ↔ ∃ e ∈ l, (a ≤ dayE e ∧ dayE e ≤ b) ∧ n ∈ ofKind e k := by
  unfold namesM
  rw [mem_insAll scmp_lin]
  unfold namesK
  simp only [List.mem_flatMap, List.mem_filter, Bool.and_eq_true, decide_eq_true_eq]
  constructor
  · rintro ⟨e, ⟨h1, h2⟩, h3⟩; exact ⟨e, h1, h2, h3⟩
  · rintro ⟨e, h1, h2, h3⟩; exact ⟨e, ⟨h1, h2⟩, h3⟩
/-- The count of a name of a kind from a day to a day. -/
def cntM (l : List Ev) (k : Int) (n : List UInt8) (a b : Int) : C := sumE (l.filter fun e => hasE e k n && decide (a ≤ dayE e) && decide (dayE e ≤ b))
abbrev Ent1 := List UInt8 × C
def ecmp (x y : Ent1) : Int := or2 (icmp y.2.1 x.2.1) (or2 (icmp y.2.2 x.2.2) (scmp x.1 y.1))
theorem ecmp_lin : Lin ecmp := pull_lin (c := lex2 (fun a b => icmp b a) (lex2 (fun a b => icmp b a) scmp)) (lex2_lin (rev_lin icmp_lin) (lex2_lin (rev_lin icmp_lin) scmp_lin)) (fun x : Ent1 => (x.2.1, x.2.2, x.1)) fun a b h => by
  obtain ⟨a1, a2, a3⟩ := a; obtain ⟨b1, b2, b3⟩ := b
  simp only [Prod.mk.injEq] at h ⊢
  exact ⟨h.2.2, h.1, h.2.1⟩
/-- All names of a kind with their counts, the most frequent first. -/
def topM (l : List Ev) (k a b : Int) : List Ent1 := insAll ecmp ((namesM l k a b).map fun n => (n, cntM l k n a b))
/-- The key of a name within a day, as the text orders them. -/
def kcmp : Int × List UInt8 → Int × List UInt8 → Int := lex2 icmp scmp
theorem kcmp_lin : Lin kcmp := lex2_lin icmp_lin scmp_lin

/-! ### sizes -/
def blen (n : Int) : Nat := if n ≤ 0 then 0 else n.toNat.log2 + 1
def upAt (z : List Int) (k : Nat) : List Int := z.set k (z.getD k 0 + 1)
def sizesL (l : List Ev) : List Int := l.foldl (fun z e => upAt z (blen e.bytes)) (List.replicate 18 0)
theorem sizesL_snoc (l : List Ev) (e : Ev) : sizesL (l ++ [e]) = upAt (sizesL l) (blen e.bytes) := by unfold sizesL; rw [List.foldl_append]; rfl
theorem upAt_length (z : List Int) (k : Nat) : (upAt z k).length = z.length := by simp [upAt]
theorem sizesL_length (l : List Ev) : (sizesL l).length = 18 := snoc_ind (p := fun l => (sizesL l).length = 18) (by simp [sizesL]) (fun l e ih => by rw [sizesL_snoc, upAt_length, ih]) l
theorem blen_le {n : Int} (h0 : 0 ≤ n) (h : n ≤ 65536) : blen n ≤ 17 := by
  unfold blen
  split
  · omega
  · have : n.toNat.log2 ≤ Nat.log2 65536 := by
      rw [Nat.le_log2 (by decide)]
      refine Nat.le_trans (Nat.log2_self_le (by omega)) (by omega)
    have e : Nat.log2 65536 = 16 := by decide +kernel
    omega
theorem shr_pos {n : Int} (h0 : 0 < n) (k : Nat) : 0 < n / 2 ^ k ↔ k < blen n := by
  unfold blen
  rw [if_neg (by omega)]
  have e1 : n / 2 ^ k = ((n.toNat / 2 ^ k : Nat) : Int) := by
    rw [Int.natCast_ediv, Int.toNat_of_nonneg (by omega)]; simp
  rw [e1]
  have e2 : 0 < n.toNat / 2 ^ k ↔ 2 ^ k ≤ n.toNat := by
    rw [Nat.div_pos_iff]
    exact ⟨fun h => h.2, fun h => ⟨Nat.pos_of_ne_zero (by simp), h⟩⟩
  have e3 := Nat.le_log2 (n := n.toNat) (k := k) (by omega)
  omega
theorem sum_upAt : ∀ (z : List Int) (k : Nat), k < z.length → (upAt z k).foldl (· + ·) 0 = z.foldl (· + ·) 0 + 1 := by
  have hf : ∀ (z : List Int) (a : Int), z.foldl (· + ·) a = a + z.foldl (· + ·) 0 := by
    intro z
    induction z with
    | nil => intro a; simp
    | cons x r ih => intro a; rw [List.foldl_cons, ih, List.foldl_cons, ih (0 + x)]; omega
  intro z
  induction z with
  | nil => intro k h; simp at h
  | cons x r ih =>
    intro k h
    cases k with
    | zero => simp only [upAt, List.set_cons_zero, List.getD_cons_zero, List.foldl_cons]; rw [hf, hf r (0 + x)]; omega
    | succ k =>
      have := ih k (by simpa using h)
      simp only [upAt, List.set_cons_succ, List.getD_cons_succ, List.foldl_cons] at this ⊢
      rw [hf, hf r (0 + x), this]; omega
theorem sum_sizes {l : List Ev} (h : ∀ e ∈ l, 0 ≤ e.bytes ∧ e.bytes ≤ 65536) : (sizesL l).foldl (· + ·) 0 = (l.length : Int) := by
  revert h
  refine snoc_ind (p := fun l => (∀ e ∈ l, 0 ≤ e.bytes ∧ e.bytes ≤ 65536) → (sizesL l).foldl (· + ·) 0 = (l.length : Int)) (fun _ => by decide +kernel) (fun l e ih h => ?_) l
  have he := h e (by simp)
  rw [sizesL_snoc, sum_upAt _ _ (by rw [sizesL_length]; have := blen_le he.1 he.2; omega), ih fun x hx => h x (by simp [hx])]
  simp
end Go.Sr
