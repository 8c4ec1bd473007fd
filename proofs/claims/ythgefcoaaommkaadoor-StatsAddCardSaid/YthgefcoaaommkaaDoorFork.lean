/- Flow's law for a schedule that forks: two operations that change the world may come up in either order. Of no program. -/
import Derived.Test.YthgefcoaaommkaaDoorFlow
namespace Go.Flow
open Go.RowKit

/-- A schedule: quiet operations and the end · quiet ones, then one that is carried out · quiet ones, then two that may come up, whichever comes first. -/
inductive Sched where
  | done (last : List Nat)
  | step (seg : List Nat) (i : Nat) (s : Sched)
  | fork (seg : List Nat) (i j : Nat) (s1 s2 : Sched)

def wpSched (P : Program) (ops : Array Oper) (L : World → World → Prop) (Q : Act → World → Prop) : Sched → Act → World → Prop
  | .done last, a, w => wpQuiet P ops (fun w' => ∃ t : Cls (L w), w' = t.val) (fun a' => Q a' w) (pick ops last) a
  | .step seg i s, a, w => wpQuiet P ops (fun w' => ∃ t : Cls (L w), w' = t.val) (fun a' => callAt P ops L i (wpSched P ops L Q s) a' w) (pick ops seg) a
  | .fork seg i j s1 s2, a, w => wpQuiet P ops (fun w' => ∃ t : Cls (L w), w' = t.val) (fun a' => callAt P ops L i (wpSched P ops L Q s1) a' w ∧ callAt P ops L j (wpSched P ops L Q s2) a' w) (pick ops seg) a

def schedOk (ops : Array Oper) : Sched → Nat → Array Bool → Bool
  | .done last, n, l => match takeAll ops last l with
    | none => false
    | some l' => (Region.ready .any ops l').isEmpty && n == last.length
  | .step seg i s, n, l => match takeAll ops seg l with
    | none => false
    | some l' => (Region.ready .any ops l' == [i]) && decide (seg.length + 1 ≤ n) && schedOk ops s (n - (seg.length + 1)) (l'.setIfInBounds i true)
  | .fork seg i j s1 s2, n, l => match takeAll ops seg l with
    | none => false
    | some l' => (Region.ready .any ops l' == [i, j]) && decide (seg.length + 1 ≤ n) && schedOk ops s1 (n - (seg.length + 1)) (l'.setIfInBounds i true) && schedOk ops s2 (n - (seg.length + 1)) (l'.setIfInBounds j true)

section
variable {P : Program} {ops : Array Oper} {Q : Exit → Act → World → Prop}
theorem callAt_sound {L : World → World → Prop} (hL : ∀ w, L w w) (hT : ∀ u v w, L u v → L v w → L u w) {j fuel : Nat} {l : Array Bool} {next : Act → World → Prop} {a : Act} {w : World}
    (hnext : ∀ a2 w2, next a2 w2 → wpAnyH P .any ops Q (L w2) fuel l a2 w2) (hk : callAt P ops L j next a w) :
    wpOp P ops Q j (fun a' w' => L w w' ∧ wpAnyH P .any ops Q (L w) fuel l a' w') a w := by
  unfold callAt at hk
  unfold wpOp
  cases ho : ops[j]? with
  | none => rw [ho] at hk; exact hk.elim
  | some o =>
    rw [ho] at hk
    simp only at hk ⊢
    have step : ∀ a2 w2, (L w w2 ∧ next a2 w2) → (L w w2 ∧ wpAnyH P .any ops Q (L w) fuel l a2 w2) := fun a2 w2 ⟨h1, h2⟩ =>
      ⟨h1, wpAnyH_mono (fun x hx => hT _ _ _ h1 hx) _ _ _ _ (hnext a2 w2 h2)⟩
    by_cases hw : Region.wanted o (yielded ops a.tmps) = true
    · rw [if_pos hw] at hk ⊢
      refine .inl ?_
      unfold Oper.wp at hk ⊢
      generalize (execOp a.eval o).run P w = r at hk ⊢
      cases r with
      | ok n w' =>
        cases n <;> simp only [Oper.upon] at hk ⊢
        case value u => exact step _ _ hk
        case skip => exact step _ _ hk
        case defer d => exact step _ _ hk
        case enter f args =>
          refine Calls.mono hk fun e w'' he => ?_
          cases e with
          | returned u => exact step _ _ he
          | panicked c => exact he.elim
          | outgrown => obtain ⟨_, _, he⟩ := he; exact he.elim
        case row row args => exact Rows.mono hk fun u w'' he => step _ _ he
      | halt x w' => cases x <;> simp only [Oper.upon] at hk
    · rw [if_neg hw] at hk ⊢
      exact step _ _ ⟨hL w, hk⟩

theorem sched_sound {L : World → World → Prop} (hL : ∀ w, L w w) (hT : ∀ u v w, L u v → L v w → L u w) (hs : Region.noSelect ops = true) (hQ : ∀ c a w, ¬ Q (.panic c) a w) :
    ∀ (s : Sched) (n : Nat) (l : Array Bool) (a : Act) (w : World), schedOk ops s n l = true → wpSched P ops L (fun a w => Q .normal a w) s a w → wpAnyH P .any ops Q (L w) n l a w
  | .done last, n, l, a, w, hok, h => by
    unfold schedOk at hok
    split at hok
    · cases hok
    · rename_i l' ht
      simp only [Bool.and_eq_true, beq_iff_eq] at hok
      have := seg_sound (fuel := 0) (hL w) hs hQ (K := fun a' => Q .normal a' w) (fun a' hk => wpAnyH_done (by simpa using hok.1) hk 0) last l a ht h
      rw [Nat.zero_add, ← hok.2] at this
      exact this
  | .step seg i s, n, l, a, w, hok, h => by
    unfold schedOk at hok
    split at hok
    · cases hok
    · rename_i l' ht
      simp only [Bool.and_eq_true, beq_iff_eq, decide_eq_true_eq] at hok
      unfold wpSched at h
      have := seg_sound (fuel := n - (seg.length + 1) + 1) (hL w) hs hQ (K := fun a' => callAt P ops L i (wpSched P ops L (fun a w => Q .normal a w) s) a' w) (fun a' hk => by
        refine wpAnyH_all hok.1.1 (by simp) (fun j hj => ?_)
        obtain rfl := List.mem_singleton.1 hj
        exact callAt_sound hL hT (fun a2 w2 h2 => sched_sound hL hT hs hQ s _ _ a2 w2 hok.2 h2) hk) seg l a ht h
      rw [show n - (seg.length + 1) + 1 + seg.length = n by omega] at this
      exact this
  | .fork seg i j s1 s2, n, l, a, w, hok, h => by
    unfold schedOk at hok
    split at hok
    · cases hok
    · rename_i l' ht
      simp only [Bool.and_eq_true, beq_iff_eq, decide_eq_true_eq] at hok
      unfold wpSched at h
      have := seg_sound (fuel := n - (seg.length + 1) + 1) (hL w) hs hQ (K := fun a' => callAt P ops L i (wpSched P ops L (fun a w => Q .normal a w) s1) a' w ∧ callAt P ops L j (wpSched P ops L (fun a w => Q .normal a w) s2) a' w) (fun a' hk => by
        refine wpAnyH_all hok.1.1.1 (by simp) (fun k hk2 => ?_)
        rcases List.mem_cons.1 hk2 with e | e
        · rw [e]; exact callAt_sound hL hT (fun a2 w2 h2 => sched_sound hL hT hs hQ s1 _ _ a2 w2 hok.1.2 h2) hk.1
        · rw [List.mem_singleton.1 e]; exact callAt_sound hL hT (fun a2 w2 h2 => sched_sound hL hT hs hQ s2 _ _ a2 w2 hok.2 h2) hk.2) seg l a ht h
      rw [show n - (seg.length + 1) + 1 + seg.length = n by omega] at this
      exact this
end

/-- **THE LAW, FOR A SCHEDULE THAT FORKS.** -/
theorem wp_region_sched (L : World → World → Prop) (hL : ∀ w, L w w) (hT : ∀ u v w, L u v → L v w → L u w) (s : Sched)
    {P : Program} {id : Nat} {Q : Exit → Act → World → Prop} {a : Act} {w : World} {ops : Array Oper} (hm : P.follows .mixedOrders = true)
    (hok : (Region.noSelect ops && schedOk ops s ops.size (Array.replicate ops.size false)) = true)
    (h : wpSched P ops L (fun a w => Q .normal a w) s a w.drew) : (Code.region id ops true).wp P Q a w := by
  simp only [Bool.and_eq_true] at hok
  have h1 : (Code.region id ops true).wp P (Plain Q) a w := by
    refine wp_region_held (S := L w.drew) hm ?_
    exact sched_sound (Q := Plain Q) hL hT hok.1 (fun _ _ _ h => h) s _ _ a w.drew hok.2 h
  exact Code.wp_mono (fun e a w h => by cases e <;> first | exact h | exact h.elim) h1

theorem wpSched_done {P : Program} {ops : Array Oper} {L : World → World → Prop} {Q : Act → World → Prop} {last : List Nat} {a : Act} {w : World} : wpSched P ops L Q (.done last) a w = wpQuiet P ops (fun w' => ∃ t : Cls (L w), w' = t.val) (fun a' => Q a' w) (pick ops last) a := rfl
theorem wpSched_step {P : Program} {ops : Array Oper} {L : World → World → Prop} {Q : Act → World → Prop} {seg : List Nat} {i : Nat} {s : Sched} {a : Act} {w : World} :
    wpSched P ops L Q (.step seg i s) a w = wpQuiet P ops (fun w' => ∃ t : Cls (L w), w' = t.val) (fun a' => callAt P ops L i (wpSched P ops L Q s) a' w) (pick ops seg) a := rfl
theorem wpSched_fork {P : Program} {ops : Array Oper} {L : World → World → Prop} {Q : Act → World → Prop} {seg : List Nat} {i j : Nat} {s1 s2 : Sched} {a : Act} {w : World} :
    wpSched P ops L Q (.fork seg i j s1 s2) a w = wpQuiet P ops (fun w' => ∃ t : Cls (L w), w' = t.val) (fun a' => callAt P ops L i (wpSched P ops L Q s1) a' w ∧ callAt P ops L j (wpSched P ops L Q s2) a' w) (pick ops seg) a := rfl
end Go.Flow
