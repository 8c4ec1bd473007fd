/- A region that draws its order, with a tail of stores to cells that it has read, in which two operations that change the world may come up in either order. Of no program.
   A region that draws its order, in which three operations that change the world may come up in any order behind what reads. Of no program.
   The builder in memory; contracts: NewBuilder, Len, Issue, Due.
   Contract: Add of a builder. -/
import Derived.Test.YtlchcjnbbhpiaaaGreatDoorZb
import Derived.Test.YtlchcjnbbhpiaaaGreatDoorZv
import Derived.Test.YtlchcjnbbhpiaaaGreatDoorZa
namespace Go.Flow
open Go.RowKit
/-- A schedule with a tail and forks. -/
inductive PreF where
 | held (seg : List Nat) (s : PreF)
 | pure (seg : List Nat) (s : PreF)
 | call (i : Nat) (s : PreF)
 | fork (i j : Nat) (s1 s2 : PreF)
 | tail (s : Sched)
def wpPreF (P : Program) (ops : Array Oper) (L : World → World → Prop) (Q : Act → World → Prop) : PreF → Act → World → Prop
 | .held seg s, a, w => wpQuiet P ops (fun w' => ∃ t : Cls (L w), w' = t.val) (fun a' => wpPreF P ops L Q s a' w) (pick ops seg) a
 | .pure seg s, a, w => wpQuiet P ops (fun w' => ∃ t : Cls (fun _ => True), w' = t.val) (fun a' => wpPreF P ops L Q s a' w) (pick ops seg) a
 | .call i s, a, w => callAt P ops L i (wpPreF P ops L Q s) a w
 | .fork i j s1 s2, a, w => callAt P ops L i (wpPreF P ops L Q s1) a w ∧ callAt P ops L j (wpPreF P ops L Q s2) a w
 | .tail s, a, w => wpSched P ops (fun _ _ => True) Q s a w
def preFOk (ops : Array Oper) (KS : List Nat) : PreF → Nat → Array Bool → Bool
 | .held seg s, n, l => match takeAll ops seg l with
  | none => false
  | some l' => (seg.all fun i => !KS.contains i && KS.all fun k => waits ops k i) && decide (seg.length ≤ n) && preFOk ops KS s (n - seg.length) l'
 | .pure seg s, n, l => match takeAll ops seg l with
  | none => false
  | some l' => (seg.all fun i => !KS.contains i) && decide (seg.length ≤ n) && preFOk ops KS s (n - seg.length) l'
 | .call i s, n, l => (Region.ready .any ops l == [i]) && !KS.contains i && decide (1 ≤ n) && preFOk ops KS s (n - 1) (l.setIfInBounds i true)
 | .fork i j s1 s2, n, l => (Region.ready .any ops l == [i, j]) && !KS.contains i && !KS.contains j && decide (1 ≤ n) && preFOk ops KS s1 (n - 1) (l.setIfInBounds i true) && preFOk ops KS s2 (n - 1) (l.setIfInBounds j true)
 | .tail s, n, l => ((Region.ready .any ops l).all fun i => KS.contains i) && schedOk ops s n l
section
variable {P : Program} {ops : Array Oper} {Q : Exit → Act → World → Prop}
theorem callT_sound {KS : List Nat} {L : World → World → Prop} (hL : ∀ w, L w w) (hT : ∀ u v w, L u v → L v w → L u w) {j m : Nat} {l : Array Bool} {next : Act → World → Prop} {a : Act} {w : World}
  (hnext : ∀ a2 w2, next a2 w2 → wpAnyT P ops Q KS (L w2) m l a2 w2) (h : callAt P ops L j next a w) :
  wpOp P ops Q j (fun a' w' => L w w' ∧ wpAnyT P ops Q KS (L w) m l a' w') a w := by
 unfold callAt at h
 unfold wpOp
 cases ho : ops[j]? with
 | none => rw [ho] at h; exact h.elim
 | some o =>
  rw [ho] at h
  simp only at h ⊢
  have step : ∀ a2 w2, (L w w2 ∧ next a2 w2) → (L w w2 ∧ wpAnyT P ops Q KS (L w) m l a2 w2) := fun a2 w2 ⟨g1, g2⟩ =>
   ⟨g1, wpAnyT_mono (fun x hx => hT _ _ _ g1 hx) _ _ _ _ (hnext a2 w2 g2)⟩
  by_cases hw : Region.wanted o (yielded ops a.tmps) = true
  ·rw [if_pos hw] at h ⊢
   refine .inl ?_
   unfold Oper.wp at h ⊢
   generalize (execOp a.eval o).run P w = r at h ⊢
   cases r with
   | ok n w' =>
    cases n <;> simp only [Oper.upon] at h ⊢
    case value u => exact step _ _ h
    case skip => exact step _ _ h
    case defer d => exact step _ _ h
    case enter f args =>
     refine Calls.mono h fun e w'' he => ?_
     cases e with
     | returned u => exact step _ _ he
     | panicked c => exact he.elim
     | outgrown => obtain ⟨_, _, he⟩ := he; exact he.elim
    case row row args => exact Rows.mono h fun u w'' he => step _ _ he
   | halt x w' => cases x <;> simp only [Oper.upon] at h
  ·rw [if_neg hw] at h ⊢
   exact step _ _ ⟨hL w, h⟩
theorem preF_sound {KS : List Nat} {L : World → World → Prop} (hL : ∀ w, L w w) (hT : ∀ u v w, L u v → L v w → L u w) (hs : Region.noSelect ops = true) (hQ : ∀ c a w, ¬ Q (.panic c) a w) :
  ∀ (s : PreF) (n : Nat) (l : Array Bool) (a : Act) (w : World), preFOk ops KS s n l = true → wpPreF P ops L (fun a w => Q .normal a w) s a w → wpAnyT P ops Q KS (L w) n l a w
 | .held seg s, n, l, a, w, hok, h => by
  unfold preFOk at hok
  split at hok
  ·cases hok
  ·rename_i l' ht
   simp only [Bool.and_eq_true, List.all_eq_true, decide_eq_true_eq, Bool.not_eq_true'] at hok
   obtain ⟨⟨h1, h2⟩, h3⟩ := hok
   have := quiet_sound (KS := KS) (S := L w) (T := L w) (fun _ h => h) (hL w) hs hQ (K := fun a' => wpPreF P ops L (fun a w => Q .normal a w) s a' w) (fuel := n - seg.length) (l' := l')
    (fun a' hk => preF_sound hL hT hs hQ s _ _ a' w h3 hk) seg l a ht (fun i hi => (h1 i hi).1) (.inl fun i hi k hk => (h1 i hi).2 k (by simpa using hk)) h
   rw [show n - seg.length + seg.length = n by omega] at this
   exact this
 | .pure seg s, n, l, a, w, hok, h => by
  unfold preFOk at hok
  split at hok
  ·cases hok
  ·rename_i l' ht
   simp only [Bool.and_eq_true, List.all_eq_true, decide_eq_true_eq, Bool.not_eq_true'] at hok
   obtain ⟨⟨h1, h2⟩, h3⟩ := hok
   have := quiet_sound (KS := KS) (S := L w) (T := fun _ => True) (fun _ _ => trivial) (hL w) hs hQ (K := fun a' => wpPreF P ops L (fun a w => Q .normal a w) s a' w) (fuel := n - seg.length) (l' := l')
    (fun a' hk => preF_sound hL hT hs hQ s _ _ a' w h3 hk) seg l a ht (fun i hi => h1 i hi) (.inr fun _ => trivial) h
   rw [show n - seg.length + seg.length = n by omega] at this
   exact this
 | .call i s, n, l, a, w, hok, h => by
  unfold preFOk at hok
  simp only [Bool.and_eq_true, beq_iff_eq, decide_eq_true_eq, Bool.not_eq_true'] at hok
  obtain ⟨⟨⟨h1, h2⟩, h3⟩, h4⟩ := hok
  obtain ⟨m, rfl⟩ : ∃ m, n = m + 1 := ⟨n - 1, by omega⟩
  refine ⟨fun h0 => (by rw [h1] at h0; cases h0), fun j hj => ?_⟩
  rw [h1] at hj
  obtain rfl := List.mem_singleton.1 hj
  refine ⟨(fun hk => by rw [h2] at hk; cases hk), fun _ => ?_⟩
  exact callT_sound hL hT (fun a2 w2 g => preF_sound hL hT hs hQ s m _ a2 w2 h4 g) h
 | .fork i j s1 s2, n, l, a, w, hok, h => by
  unfold preFOk at hok
  simp only [Bool.and_eq_true, beq_iff_eq, decide_eq_true_eq, Bool.not_eq_true'] at hok
  obtain ⟨⟨⟨⟨⟨h1, h2⟩, h2'⟩, h3⟩, h4⟩, h5⟩ := hok
  obtain ⟨m, rfl⟩ : ∃ m, n = m + 1 := ⟨n - 1, by omega⟩
  refine ⟨fun h0 => (by rw [h1] at h0; cases h0), fun k hk => ?_⟩
  rw [h1] at hk
  rcases List.mem_cons.1 hk with e | e
  ·subst e
   refine ⟨(fun hk => by rw [h2] at hk; cases hk), fun _ => ?_⟩
   exact callT_sound hL hT (fun a2 w2 g => preF_sound hL hT hs hQ s1 m _ a2 w2 h4 g) h.1
  ·obtain rfl := List.mem_singleton.1 e
   refine ⟨(fun hk => by rw [h2'] at hk; cases hk), fun _ => ?_⟩
   exact callT_sound hL hT (fun a2 w2 g => preF_sound hL hT hs hQ s2 m _ a2 w2 h5 g) h.2
 | .tail s, n, l, a, w, hok, h => by
  unfold preFOk at hok
  simp only [Bool.and_eq_true, List.all_eq_true] at hok
  exact wpAnyT_tail hok.1 (sched_sound (L := fun _ _ => True) (fun _ => trivial) (fun _ _ _ _ _ => trivial) hs hQ s n l a w hok.2 h)
end
/-- **THE LAW, FOR A SCHEDULE WITH A TAIL AND FORKS.** -/
theorem wp_region_preF (L : World → World → Prop) (hL : ∀ w, L w w) (hT : ∀ u v w, L u v → L v w → L u w) (KS : List Nat) (s : PreF)
  {P : Program} {id : Nat} {Q : Exit → Act → World → Prop} {a : Act} {w : World} {ops : Array Oper} (hm : P.follows .mixedOrders = true)
  (hok : (Region.noSelect ops && preFOk ops KS s ops.size (Array.replicate ops.size false)) = true)
  (h : wpPreF P ops L (fun a w => Q .normal a w) s a w.drew) : (Code.region id ops true).wp P Q a w := by
 simp only [Bool.and_eq_true] at hok
 have h1 : (Code.region id ops true).wp P (Plain Q) a w := by
  refine wp_region_held (S := fun _ => True) hm ?_
  exact wpAny_of_tail _ _ _ _ (preF_sound (Q := Plain Q) hL hT hok.1 (fun _ _ _ h => h) s _ _ a w.drew hok.2 h)
 exact Code.wp_mono (fun e a w h => by cases e <;> first | exact h | exact h.elim) h1
theorem wpPreF_held {P : Program} {ops : Array Oper} {L : World → World → Prop} {Q : Act → World → Prop} {seg : List Nat} {s : PreF} {a : Act} {w : World} :
  wpPreF P ops L Q (.held seg s) a w = wpQuiet P ops (fun w' => ∃ t : Cls (L w), w' = t.val) (fun a' => wpPreF P ops L Q s a' w) (pick ops seg) a := rfl
theorem wpPreF_call {P : Program} {ops : Array Oper} {L : World → World → Prop} {Q : Act → World → Prop} {i : Nat} {s : PreF} {a : Act} {w : World} :
  wpPreF P ops L Q (.call i s) a w = callAt P ops L i (wpPreF P ops L Q s) a w := rfl
theorem wpPreF_fork {P : Program} {ops : Array Oper} {L : World → World → Prop} {Q : Act → World → Prop} {i j : Nat} {s1 s2 : PreF} {a : Act} {w : World} :
  wpPreF P ops L Q (.fork i j s1 s2) a w = (callAt P ops L i (wpPreF P ops L Q s1) a w ∧ callAt P ops L j (wpPreF P ops L Q s2) a w) := rfl
theorem wpPreF_tail {P : Program} {ops : Array Oper} {L : World → World → Prop} {Q : Act → World → Prop} {s : Sched} {a : Act} {w : World} :
  wpPreF P ops L Q (.tail s) a w = wpSched P ops (fun _ _ => True) Q s a w := rfl
end Go.Flow
namespace Go.Proofs.YtlchcjnbbhpiaaaGreatDoor
open Go.RowKit Go.Shelf Go.Dg Go.Maps
end Go.Proofs.YtlchcjnbbhpiaaaGreatDoor
