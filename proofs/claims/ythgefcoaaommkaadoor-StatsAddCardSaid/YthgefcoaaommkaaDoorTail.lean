/- A region that draws its order, reads cells, calls, and at its end writes cells that it has read: walked once along a schedule. What reads is held as long as nothing of the tail has come up; the tail waits for it. Of no program. -/
import Derived.Test.YthgefcoaaommkaaDoorFork
namespace Go.Flow
open Go.RowKit

/-- k waits for i. -/
def waits (ops : Array Oper) (k i : Nat) : Bool := match ops[k]? with
  | none => false
  | some o => o.after.any fun e => Region.binds .any e && e.on == i

section
variable {P : Program} {ops : Array Oper} {Q : Exit → Act → World → Prop}

/-- Whatever order is picked from here on; S holds behind each operation until one of the tail has come up. -/
def wpAnyT (P : Program) (ops : Array Oper) (Q : Exit → Act → World → Prop) (KS : List Nat) (S : World → Prop) : Nat → Array Bool → Act → World → Prop
  | 0, l, a, w => Region.ready .any ops l = [] ∧ Q .normal a w
  | f + 1, l, a, w => (Region.ready .any ops l = [] → Q .normal a w) ∧ ∀ i ∈ Region.ready .any ops l,
      (KS.contains i = true → wpOp P ops Q i (fun a' w' => wpAnyH P .any ops Q (fun _ => True) f (l.setIfInBounds i true) a' w') a w) ∧
      (KS.contains i = false → wpOp P ops Q i (fun a' w' => S w' ∧ wpAnyT P ops Q KS S f (l.setIfInBounds i true) a' w') a w)

theorem wpAny_of_tail {KS : List Nat} {S : World → Prop} : ∀ (f : Nat) (l : Array Bool) (a : Act) (w : World), wpAnyT P ops Q KS S f l a w → wpAnyH P .any ops Q (fun _ => True) f l a w
  | 0, _, _, _, h => h
  | f + 1, l, a, w, h => ⟨h.1, fun i hi => by
      cases hk : KS.contains i with
      | true => exact wpOp_mono (fun _ _ h' => ⟨trivial, h'⟩) ((h.2 i hi).1 hk)
      | false => exact wpOp_mono (fun a' w' h' => ⟨trivial, wpAny_of_tail f _ a' w' h'.2⟩) ((h.2 i hi).2 hk)⟩
theorem wpAnyT_mono {KS : List Nat} {S S' : World → Prop} (hS : ∀ w, S w → S' w) : ∀ (f : Nat) (l : Array Bool) (a : Act) (w : World), wpAnyT P ops Q KS S f l a w → wpAnyT P ops Q KS S' f l a w
  | 0, _, _, _, h => h
  | f + 1, _, _, _, h => ⟨h.1, fun i hi => ⟨fun hk => (h.2 i hi).1 hk, fun hk => wpOp_mono (fun a' w' h' => ⟨hS _ h'.1, wpAnyT_mono hS f _ a' w' h'.2⟩) ((h.2 i hi).2 hk)⟩⟩
/-- Only the tail may come up. -/
theorem wpAnyT_tail {KS : List Nat} {S : World → Prop} {f : Nat} {l : Array Bool} {a : Act} {w : World} (hr : ∀ i ∈ Region.ready .any ops l, KS.contains i = true) (h : wpAnyH P .any ops Q (fun _ => True) f l a w) : wpAnyT P ops Q KS S f l a w := by
  cases f with
  | zero => exact h
  | succ f => exact ⟨h.1, fun i hi => ⟨fun _ => wpOp_mono (fun _ _ h' => h'.2) (h.2 i hi), fun hk => by rw [hr i hi] at hk; cases hk⟩⟩

theorem waits_spec {k i : Nat} (h : waits ops k i = true) {l : Array Bool} (hi : l.getD i false = false) : k ∉ Region.ready .any ops l := by
  intro hk
  obtain ⟨_, o, ho, hall⟩ := mem_ready.1 hk
  unfold waits at h
  rw [ho] at h
  obtain ⟨e, he, hb⟩ := Array.any_eq_true'.1 h
  simp only [Bool.and_eq_true, beq_iff_eq] at hb
  have := hall e he hb.1
  rw [hb.2, hi] at this
  cases this

/-- An operation that may come up now is taken first: what it yields is the same in every world that meets T; the tail waits for it, or every world meets T. -/
theorem wpAnyT_first {KS : List Nat} {S T : World → Prop} (hST : ∀ w, S w → T w) {i : Nat} {oi : Oper} {v : Value} (hi : ops[i]? = some oi) (hs : Region.noSelect ops = true) (hQ : ∀ c a w, ¬ Q (.panic c) a w) (hik : KS.contains i = false)
    (hw : (∀ k, KS.contains k = true → waits ops k i = true) ∨ ∀ w, T w) :
    ∀ (f : Nat) (l : Array Bool) (a : Act) (w : World), Region.free .any ops l i = true → i ∈ Region.ready .any ops l → YieldsIf P ops T oi v a → S w →
      wpAnyT P ops Q KS S f (l.setIfInBounds i true) (a.put oi.dst v) w → wpAnyT P ops Q KS S (f + 1) l a w := by
  have hsel := Region.noSelect_spec hs
  have hQ' : ∀ c a w, Q (.panic c) (a.put oi.dst v) w → Q (.panic c) a w := fun c a w h => (hQ c _ w h).elim
  intro f
  induction f with
  | zero =>
    intro l a w _ hr hy hS H
    refine ⟨fun h => (by rw [h] at hr; cases hr), fun j hj => ?_⟩
    by_cases hji : j = i
    · subst hji
      exact ⟨(fun hk => by rw [hik] at hk; cases hk), fun _ => hy.wpOp hi (hST w hS) ⟨hS, H⟩⟩
    · have := ready_mono hj hji
      rw [H.1] at this
      cases this
  | succ f ih =>
    intro l a w hfree hr hy hS H
    refine ⟨fun h => (by rw [h] at hr; cases hr), fun j hj => ?_⟩
    by_cases hji : j = i
    · subst hji
      exact ⟨(fun hk => by rw [hik] at hk; cases hk), fun _ => hy.wpOp hi (hST w hS) ⟨hS, H⟩⟩
    · have h1 := H.2 j (ready_mono hj hji)
      obtain ⟨hjun, oj, hoj, hall⟩ := mem_ready.1 hj
      have h0 := (mem_ready.1 hr).1
      have hif : l.getD i false = false := by
        rcases Nat.lt_or_ge i l.size with h' | h'
        · simpa [h'] using h0
        · simp [Array.getElem?_eq_none h']
      have hnot : ∀ e ∈ oj.after, Region.binds .any e = true → e.on ≠ i := fun e he hb heq => by
        have h1 := hall e he hb
        rw [heq, hif] at h1
        cases h1
      have hap := Region.free_spec hi hfree j oj hoj hji hjun hnot
      have hfree' : Region.free .any ops (l.setIfInBounds j true) i = true := by
        unfold Region.free at hfree ⊢
        rw [hi] at hfree ⊢
        simp only [List.all_eq_true] at hfree ⊢
        intro x hx
        have := hfree x hx
        simp only [Bool.or_eq_true] at this ⊢
        rcases this with (h | h) | h
        · exact .inl (.inl h)
        · refine .inl (.inr ?_)
          by_cases hjx : j = x
          · subst hjx; rw [hjun] at h; cases h
          · rw [getD_set_ne true hjx]; exact h
        · exact .inr h
      constructor
      · intro hk
        rcases hw with hw | hw
        · exact absurd hj (waits_spec (hw j hk) hif)
        · have h2 := wpOp_putIf hoj hap (fun cs b => hsel i oi cs b hi) (fun cs b => hsel j oj cs b hoj) hQ' hy (h1.1 hk)
          refine wpOp_mono (fun a' w' h3 => ?_) h2
          have hy3 : YieldsIf P ops (fun _ => True) oi v a' := h3.1.imp (fun ⟨g1, g2⟩ => ⟨g1, fun x _ => g2 x (hw x)⟩) id
          refine wpAnyH_take hi hs hfree' (by simpa using ready_mono hr (Ne.symm hji)) hQ' hy3 trivial ?_
          rw [Array.setIfInBounds_comm _ _ hji]
          exact h3.2
      · intro hk
        have h2 := wpOp_putIf hoj hap (fun cs b => hsel i oi cs b hi) (fun cs b => hsel j oj cs b hoj) hQ' hy (h1.2 hk)
        refine wpOp_mono (fun a' w' h3 => ⟨h3.2.1, ih (l.setIfInBounds j true) a' w' hfree' (ready_mono hr (Ne.symm hji)) h3.1 h3.2.1 ?_⟩) h2
        rw [Array.setIfInBounds_comm _ _ hji]
        exact h3.2.2

/-- A schedule with a tail: operations that read, for which the tail waits · operations that look at no world · one that is carried out · the tail. -/
inductive Pre where
  | held (seg : List Nat) (s : Pre)
  | pure (seg : List Nat) (s : Pre)
  | call (i : Nat) (s : Pre)
  | tail (s : Sched)
def wpPre (P : Program) (ops : Array Oper) (L : World → World → Prop) (Q : Act → World → Prop) : Pre → Act → World → Prop
  | .held seg s, a, w => wpQuiet P ops (fun w' => ∃ t : Cls (L w), w' = t.val) (fun a' => wpPre P ops L Q s a' w) (pick ops seg) a
  | .pure seg s, a, w => wpQuiet P ops (fun w' => ∃ t : Cls (fun _ => True), w' = t.val) (fun a' => wpPre P ops L Q s a' w) (pick ops seg) a
  | .call i s, a, w => callAt P ops L i (wpPre P ops L Q s) a w
  | .tail s, a, w => wpSched P ops (fun _ _ => True) Q s a w
def preOk (ops : Array Oper) (KS : List Nat) : Pre → Nat → Array Bool → Bool
  | .held seg s, n, l => match takeAll ops seg l with
    | none => false
    | some l' => (seg.all fun i => !KS.contains i && KS.all fun k => waits ops k i) && decide (seg.length ≤ n) && preOk ops KS s (n - seg.length) l'
  | .pure seg s, n, l => match takeAll ops seg l with
    | none => false
    | some l' => (seg.all fun i => !KS.contains i) && decide (seg.length ≤ n) && preOk ops KS s (n - seg.length) l'
  | .call i s, n, l => (Region.ready .any ops l == [i]) && !KS.contains i && decide (1 ≤ n) && preOk ops KS s (n - 1) (l.setIfInBounds i true)
  | .tail s, n, l => ((Region.ready .any ops l).all fun i => KS.contains i) && schedOk ops s n l

theorem quiet_sound {KS : List Nat} {S T : World → Prop} (hST : ∀ w, S w → T w) {w : World} (hS : S w) (hs : Region.noSelect ops = true) (hQ : ∀ c a w, ¬ Q (.panic c) a w) {K : Act → Prop} {fuel : Nat} {l' : Array Bool}
    (hK : ∀ a', K a' → wpAnyT P ops Q KS S fuel l' a' w) : ∀ (is : List Nat) (l : Array Bool) (a : Act), takeAll ops is l = some l' → (∀ i ∈ is, KS.contains i = false) → ((∀ i ∈ is, ∀ k, KS.contains k = true → waits ops k i = true) ∨ ∀ w, T w) →
      wpQuiet P ops (fun w' => ∃ t : Cls T, w' = t.val) K (pick ops is) a → wpAnyT P ops Q KS S (fuel + is.length) l a w
  | [], l, a, ht, _, _, h => by
    simp only [takeAll, Option.some.injEq] at ht
    subst ht
    exact hK a h
  | i :: is, l, a, ht, hn, hw, h => by
    unfold takeAll at ht
    split at ht
    · cases ht
    · rename_i o ho
      split at ht
      · rename_i hb
        simp only [Bool.and_eq_true] at hb
        have hp : pick ops (i :: is) = o :: pick ops is := by simp only [pick, ho]
        rw [hp] at h
        unfold wpQuiet at h
        rw [show fuel + (i :: is).length = (fuel + is.length) + 1 from rfl]
        have hw1 : (∀ k, KS.contains k = true → waits ops k i = true) ∨ ∀ w, T w := hw.imp (fun g => g i (List.mem_cons_self ..)) id
        have hw2 : (∀ j ∈ is, ∀ k, KS.contains k = true → waits ops k j = true) ∨ ∀ w, T w := hw.imp (fun g j hj => g j (List.mem_cons_of_mem _ hj)) id
        have hn2 : ∀ j ∈ is, KS.contains j = false := fun j hj => hn j (List.mem_cons_of_mem _ hj)
        by_cases hwd : Region.wanted o (yielded ops a.tmps) = true
        · rw [if_pos hwd] at h
          obtain ⟨v, hv, hnx⟩ := h
          refine wpAnyT_first hST ho hs hQ (hn i (List.mem_cons_self ..)) hw1 _ l a w hb.1.2 (by simpa using hb.2) (.inl ⟨hwd, fun x hx => ?_⟩) hS (quiet_sound hST hS hs hQ hK is _ _ ht hn2 hw2 hnx)
          have h1 := hv x ⟨⟨x, hx⟩, rfl⟩
          unfold Oper.quietAt at h1
          cases hr : (execOp a.eval o).run P x with
          | ok n w' =>
            obtain ⟨u, rfl⟩ := isVal_run hb.1.1 hr
            rw [hr] at h1
            obtain ⟨e1, e2⟩ := h1
            rw [e1, e2]
          | halt y w' => rw [hr] at h1; exact h1.elim
        · rw [if_neg hwd] at h
          exact wpAnyT_first hST ho hs hQ (hn i (List.mem_cons_self ..)) hw1 _ l a w hb.1.2 (by simpa using hb.2) (.inr ⟨by simpa using hwd, rfl⟩) hS (quiet_sound hST hS hs hQ hK is _ _ ht hn2 hw2 h)
      · cases ht

theorem pre_sound {KS : List Nat} {L : World → World → Prop} (hL : ∀ w, L w w) (hT : ∀ u v w, L u v → L v w → L u w) (hs : Region.noSelect ops = true) (hQ : ∀ c a w, ¬ Q (.panic c) a w) :
    ∀ (s : Pre) (n : Nat) (l : Array Bool) (a : Act) (w : World), preOk ops KS s n l = true → wpPre P ops L (fun a w => Q .normal a w) s a w → wpAnyT P ops Q KS (L w) n l a w
  | .held seg s, n, l, a, w, hok, h => by
    unfold preOk at hok
    split at hok
    · cases hok
    · rename_i l' ht
      simp only [Bool.and_eq_true, List.all_eq_true, decide_eq_true_eq, Bool.not_eq_true'] at hok
      obtain ⟨⟨h1, h2⟩, h3⟩ := hok
      have := quiet_sound (KS := KS) (S := L w) (T := L w) (fun _ h => h) (hL w) hs hQ (K := fun a' => wpPre P ops L (fun a w => Q .normal a w) s a' w) (fuel := n - seg.length) (l' := l')
        (fun a' hk => pre_sound hL hT hs hQ s _ _ a' w h3 hk) seg l a ht (fun i hi => (h1 i hi).1) (.inl fun i hi k hk => (h1 i hi).2 k (by simpa using hk)) h
      rw [show n - seg.length + seg.length = n by omega] at this
      exact this
  | .pure seg s, n, l, a, w, hok, h => by
    unfold preOk at hok
    split at hok
    · cases hok
    · rename_i l' ht
      simp only [Bool.and_eq_true, List.all_eq_true, decide_eq_true_eq, Bool.not_eq_true'] at hok
      obtain ⟨⟨h1, h2⟩, h3⟩ := hok
      have := quiet_sound (KS := KS) (S := L w) (T := fun _ => True) (fun _ _ => trivial) (hL w) hs hQ (K := fun a' => wpPre P ops L (fun a w => Q .normal a w) s a' w) (fuel := n - seg.length) (l' := l')
        (fun a' hk => pre_sound hL hT hs hQ s _ _ a' w h3 hk) seg l a ht (fun i hi => h1 i hi) (.inr fun _ => trivial) h
      rw [show n - seg.length + seg.length = n by omega] at this
      exact this
  | .call i s, n, l, a, w, hok, h => by
    unfold preOk at hok
    simp only [Bool.and_eq_true, beq_iff_eq, decide_eq_true_eq, Bool.not_eq_true'] at hok
    obtain ⟨⟨⟨h1, h2⟩, h3⟩, h4⟩ := hok
    obtain ⟨m, rfl⟩ : ∃ m, n = m + 1 := ⟨n - 1, by omega⟩
    refine ⟨fun h0 => (by rw [h1] at h0; cases h0), fun j hj => ?_⟩
    rw [h1] at hj
    obtain rfl := List.mem_singleton.1 hj
    refine ⟨(fun hk => by rw [h2] at hk; cases hk), fun _ => ?_⟩
    have h : callAt P ops L j (wpPre P ops L (fun a w => Q .normal a w) s) a w := h
    unfold callAt at h
    unfold wpOp
    cases ho : ops[j]? with
    | none => rw [ho] at h; exact h.elim
    | some o =>
      rw [ho] at h
      simp only at h ⊢
      have step : ∀ a2 w2, (L w w2 ∧ wpPre P ops L (fun a w => Q .normal a w) s a2 w2) → (L w w2 ∧ wpAnyT P ops Q KS (L w) m (l.setIfInBounds j true) a2 w2) := fun a2 w2 ⟨g1, g2⟩ =>
        ⟨g1, wpAnyT_mono (fun x hx => hT _ _ _ g1 hx) _ _ _ _ (pre_sound hL hT hs hQ s m _ a2 w2 h4 g2)⟩
      by_cases hw : Region.wanted o (yielded ops a.tmps) = true
      · rw [if_pos hw] at h ⊢
        refine .inl ?_
        unfold Oper.wp at h ⊢
        generalize (execOp a.eval o).run P w = r at h ⊢
        cases r with
        | ok n w' =>
          cases n <;> simp only [Oper.upon] at h ⊢
          case value u => exact step _ _ h
          case skip => exact step _ _ h
          case defer d => exact step _ _ h
          case enter f args =>
            refine Calls.mono h fun e w'' he => ?_
            cases e with
            | returned u => exact step _ _ he
            | panicked c => exact he.elim
            | outgrown => obtain ⟨_, _, he⟩ := he; exact he.elim
          case row row args => exact Rows.mono h fun u w'' he => step _ _ he
        | halt x w' => cases x <;> simp only [Oper.upon] at h
      · rw [if_neg hw] at h ⊢
        exact step _ _ ⟨hL w, h⟩
  | .tail s, n, l, a, w, hok, h => by
    unfold preOk at hok
    simp only [Bool.and_eq_true, List.all_eq_true] at hok
    exact wpAnyT_tail hok.1 (sched_sound (L := fun _ _ => True) (fun _ => trivial) (fun _ _ _ _ _ => trivial) hs hQ s n l a w hok.2 h)
end

/-- **THE LAW, FOR A SCHEDULE WITH A TAIL.** -/
theorem wp_region_pre (L : World → World → Prop) (hL : ∀ w, L w w) (hT : ∀ u v w, L u v → L v w → L u w) (KS : List Nat) (s : Pre)
    {P : Program} {id : Nat} {Q : Exit → Act → World → Prop} {a : Act} {w : World} {ops : Array Oper} (hm : P.follows .mixedOrders = true)
    (hok : (Region.noSelect ops && preOk ops KS s ops.size (Array.replicate ops.size false)) = true)
    (h : wpPre P ops L (fun a w => Q .normal a w) s a w.drew) : (Code.region id ops true).wp P Q a w := by
  simp only [Bool.and_eq_true] at hok
  have h1 : (Code.region id ops true).wp P (Plain Q) a w := by
    refine wp_region_held (S := fun _ => True) hm ?_
    exact wpAny_of_tail _ _ _ _ (pre_sound (Q := Plain Q) hL hT hok.1 (fun _ _ _ h => h) s _ _ a w.drew hok.2 h)
  exact Code.wp_mono (fun e a w h => by cases e <;> first | exact h | exact h.elim) h1

theorem wpPre_held {P : Program} {ops : Array Oper} {L : World → World → Prop} {Q : Act → World → Prop} {seg : List Nat} {s : Pre} {a : Act} {w : World} :
    wpPre P ops L Q (.held seg s) a w = wpQuiet P ops (fun w' => ∃ t : Cls (L w), w' = t.val) (fun a' => wpPre P ops L Q s a' w) (pick ops seg) a := rfl
theorem wpPre_pure {P : Program} {ops : Array Oper} {L : World → World → Prop} {Q : Act → World → Prop} {seg : List Nat} {s : Pre} {a : Act} {w : World} :
    wpPre P ops L Q (.pure seg s) a w = wpQuiet P ops (fun w' => ∃ t : Cls (fun _ => True), w' = t.val) (fun a' => wpPre P ops L Q s a' w) (pick ops seg) a := rfl
theorem wpPre_call {P : Program} {ops : Array Oper} {L : World → World → Prop} {Q : Act → World → Prop} {i : Nat} {s : Pre} {a : Act} {w : World} :
    wpPre P ops L Q (.call i s) a w = callAt P ops L i (wpPre P ops L Q s) a w := rfl
theorem wpPre_tail {P : Program} {ops : Array Oper} {L : World → World → Prop} {Q : Act → World → Prop} {s : Sched} {a : Act} {w : World} :
    wpPre P ops L Q (.tail s) a w = wpSched P ops (fun _ _ => True) Q s a w := rfl
theorem cls_nonempty_true : Nonempty (Cls (fun _ => True)) := ⟨⟨default, trivial⟩⟩
end Go.Flow
