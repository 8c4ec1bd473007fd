/- A region that draws its order and holds calls, walked once along a schedule of one's own: what yields a value and leaves the world alone is taken as early as it may come up, in every later world alike; a call is carried out where nothing else may come up. Of no program. -/
import Derived.WalkKit
import Derived.Deep.QuietTactic
import Derived.BigQuiet
import Derived.OrdersHeld
namespace Go.Flow
open Go.RowKit

/-- The worlds that meet S, as a type: its members are handed to the walk as variables. -/
structure Cls (S : World → Prop) where
  val : World
  ok : S val

/-- Operations that yield a value if they yield at all. -/
def isVal (o : Oper) : Bool :=
  match o.op with
  | .move _ | .assign _ | .pick .. | .load .. | .nilCheck _ | .binOp .. | .unOp .. | .convert .. | .slice .. | .fieldAddr .. | .field .. | .indexAddr .. | .index .. | .extract .. | .lookup .. | .build .. => true
  | .call { callee := .builtin b, .. } => match b with | .len | .cap | .max | .min => true | _ => false
  | _ => false

theorem run_v {s : Sem Value} {P : Program} {w : World} {n : Next} {w' : World} (h : (do let x ← s; pure (Next.value x) : Sem Next).run P w = .ok n w') : ∃ u, n = .value u := by
  simp at h
  cases hs : s.run P w with
  | ok x w1 => rw [hs] at h; simp [Result.andThen] at h; exact ⟨x, h.1.symm⟩
  | halt x w1 => rw [hs] at h; simp [Result.andThen] at h

theorem run_pure_v {x : Value} {P : Program} {w : World} {n : Next} {w' : World} (h : (pure (Next.value x) : Sem Next).run P w = .ok n w') : ∃ u, n = .value u := by
  simp at h; exact ⟨x, h.1.symm⟩
theorem andThen_ok_inv {α β : Type} {r : Result α} {f : α → World → Result β} {b : β} {w' : World} (h : r.andThen f = .ok b w') : ∃ x w1, r = .ok x w1 ∧ f x w1 = .ok b w' := by
  cases r with
  | ok x w1 => exact ⟨x, w1, rfl, by simpa [Result.andThen] using h⟩
  | halt x w1 => simp [Result.andThen] at h

theorem no_nil {P : Program} {w w' : World} {n : Next} (h : (runtimePanic .nilDeref : Sem Next).run P w = .ok n w') : False := by
  simp [runtimePanic, goPanic] at h

theorem isVal_run {ρ : Operand → Value} {o : Oper} {P : Program} {w w' : World} {n : Next} (hv : isVal o = true) (h : (execOp ρ o).run P w = .ok n w') : ∃ u, n = .value u := by
  unfold isVal at hv
  unfold execOp at h
  split at hv
  all_goals first | cases hv | skip
  all_goals rename_i heq
  all_goals simp only [heq] at h
  all_goals first
    | exact run_v h
    | exact run_pure_v h
    | skip
  · rw [Sem.run_bind] at h
    obtain ⟨x, w1, _, h2⟩ := andThen_ok_inv h
    exact run_pure_v h2
  · split at h
    · exact (no_nil h).elim
    · exact (no_nil h).elim
    · exact (no_nil h).elim
    · split at h
      · exact (no_nil h).elim
      · simp only [Sem.run_bind] at h
        obtain ⟨x, w1, _, h2⟩ := andThen_ok_inv h
        obtain ⟨y, w2, _, h3⟩ := andThen_ok_inv h2
        split at h3
        · rw [Sem.run_bind] at h3
          obtain ⟨z, w3, _, h4⟩ := andThen_ok_inv h3
          exact run_pure_v h4
        · exact run_pure_v h3
      · exact run_pure_v h
    · exact run_pure_v h
  · simp only [resolve, Sem.run_bind, Sem.run_pure, Result.andThen_ok, invoke] at h
    split at hv
    all_goals first | cases hv | skip
    all_goals (simp only [builtin] at h; exact run_v h)

/-- The operations of these numbers. -/
def pick (ops : Array Oper) : List Nat → List Oper
  | [] => []
  | i :: is => match ops[i]? with
    | some o => o :: pick ops is
    | none => pick ops is

section
variable {P : Program} {ops : Array Oper} {Q : Exit → Act → World → Prop}

/-- What is asked of an operation that is carried out where nothing else may come up. -/
def callAt (P : Program) (ops : Array Oper) (L : World → World → Prop) (i : Nat) (next : Act → World → Prop) (a : Act) (w : World) : Prop :=
  match ops[i]? with
  | none => False
  | some o => if Region.wanted o (yielded ops a.tmps) then o.wp P a w (fun a' w' => L w w' ∧ next a' w') (fun _ _ _ => False) else next (a.put o.dst undef) w

theorem callAt_want {L : World → World → Prop} {i : Nat} {next : Act → World → Prop} {a : Act} {w : World} (o : Oper) (ho : ops[i]? = some o) (hw : Region.wanted o (yielded ops a.tmps) = true)
    (h : ∀ K : Act → World → Prop, (∀ a' w', L w w' ∧ next a' w' → K a' w') → o.wp P a w K (fun _ _ _ => False)) : callAt P ops L i next a w := by
  unfold callAt
  simp only [ho, hw, if_true]
  exact h _ (fun _ _ h => h)
theorem callAt_skip {L : World → World → Prop} {i : Nat} {next : Act → World → Prop} {a : Act} {w : World} (o : Oper) (ho : ops[i]? = some o) (hw : Region.wanted o (yielded ops a.tmps) = false)
    (h : next (a.put o.dst undef) w) : callAt P ops L i next a w := by
  unfold callAt
  simp only [ho, hw, Bool.false_eq_true, if_false]
  exact h

/-- The walk along a schedule: quiet operations, one that is carried out, quiet ones, and so on. -/
def wpSegs (P : Program) (ops : Array Oper) (L : World → World → Prop) (Q : Act → World → Prop) : List (List Nat × Nat) → List Nat → Act → World → Prop
  | [], last, a, w => wpQuiet P ops (fun w' => ∃ t : Cls (L w), w' = t.val) (fun a' => Q a' w) (pick ops last) a
  | (seg, i) :: more, last, a, w => wpQuiet P ops (fun w' => ∃ t : Cls (L w), w' = t.val) (fun a' => callAt P ops L i (wpSegs P ops L Q more last) a' w) (pick ops seg) a

/-- Every operation of a list may be taken first when its turn comes. -/
def takeAll (ops : Array Oper) : List Nat → Array Bool → Option (Array Bool)
  | [], l => some l
  | i :: is, l => match ops[i]? with
    | none => none
    | some o => if isVal o && Region.free .any ops l i && (Region.ready .any ops l).contains i then takeAll ops is (l.setIfInBounds i true) else none
def segsOk (ops : Array Oper) : List (List Nat × Nat) → List Nat → Array Bool → Bool
  | [], last, l => match takeAll ops last l with
    | none => false
    | some l' => (Region.ready .any ops l').isEmpty
  | (seg, i) :: more, last, l => match takeAll ops seg l with
    | none => false
    | some l' => (Region.ready .any ops l' == [i]) && segsOk ops more last (l'.setIfInBounds i true)
def total : List (List Nat × Nat) → List Nat → Nat
  | [], last => last.length
  | (seg, _) :: more, last => seg.length + 1 + total more last

theorem wpAnyH_mono {md : Region.Mode} {S S' : World → Prop} (h : ∀ w, S w → S' w) : ∀ (fuel : Nat) (listed : Array Bool) (a : Act) (w : World), wpAnyH P md ops Q S fuel listed a w → wpAnyH P md ops Q S' fuel listed a w
  | 0, _, _, _, hh => hh
  | fuel + 1, _, _, _, hh => ⟨hh.1, fun i hi => wpOp_mono (fun a' w' h' => ⟨h _ h'.1, wpAnyH_mono h fuel _ a' w' h'.2⟩) (hh.2 i hi)⟩

theorem seg_sound {L : World → World → Prop} {w : World} (hL : L w w) (hs : Region.noSelect ops = true) (hQ : ∀ c a w, ¬ Q (.panic c) a w) {K : Act → Prop} {fuel : Nat} {l' : Array Bool}
    (hK : ∀ a', K a' → wpAnyH P .any ops Q (L w) fuel l' a' w) : ∀ (is : List Nat) (l : Array Bool) (a : Act), takeAll ops is l = some l' →
      wpQuiet P ops (fun w' => ∃ t : Cls (L w), w' = t.val) K (pick ops is) a → wpAnyH P .any ops Q (L w) (fuel + is.length) l a w
  | [], l, a, ht, h => by
    simp only [takeAll, Option.some.injEq] at ht
    subst ht
    exact hK a h
  | i :: is, l, a, ht, h => by
    unfold takeAll at ht
    split at ht
    · cases ht
    · rename_i o ho
      split at ht
      · rename_i hb
        simp only [Bool.and_eq_true] at hb
        have hp : pick ops (i :: is) = o :: pick ops is := by simp only [pick, ho]
        rw [hp] at h
        unfold wpQuiet at h
        rw [show fuel + (i :: is).length = (fuel + is.length) + 1 from rfl]
        by_cases hw : Region.wanted o (yielded ops a.tmps) = true
        · rw [if_pos hw] at h
          obtain ⟨v, hv, hn⟩ := h
          refine wpAnyH_take ho hs hb.1.2 hb.2 (fun c a w h => (hQ c _ w h).elim) (.inl ⟨hw, fun x hx => ?_⟩) hL (seg_sound hL hs hQ hK is _ _ ht hn)
          have h1 := hv x ⟨⟨x, hx⟩, rfl⟩
          unfold Oper.quietAt at h1
          cases hr : (execOp a.eval o).run P x with
          | ok n w' =>
            obtain ⟨u, rfl⟩ := isVal_run hb.1.1 hr
            rw [hr] at h1
            obtain ⟨e1, e2⟩ := h1
            rw [e1, e2]
          | halt y w' => rw [hr] at h1; exact h1.elim
        · rw [if_neg hw] at h
          exact wpAnyH_take ho hs hb.1.2 hb.2 (fun c a w h => (hQ c _ w h).elim) (.inr ⟨by simpa using hw, rfl⟩) hL (seg_sound hL hs hQ hK is _ _ ht h)
      · cases ht

theorem segs_sound {L : World → World → Prop} (hL : ∀ w, L w w) (hT : ∀ u v w, L u v → L v w → L u w) (hs : Region.noSelect ops = true) (hQ : ∀ c a w, ¬ Q (.panic c) a w) :
    ∀ (segs : List (List Nat × Nat)) (last : List Nat) (l : Array Bool) (a : Act) (w : World), segsOk ops segs last l = true → wpSegs P ops L (fun a w => Q .normal a w) segs last a w → wpAnyH P .any ops Q (L w) (total segs last) l a w
  | [], last, l, a, w, hok, h => by
    unfold segsOk at hok
    split at hok
    · cases hok
    · rename_i l' ht
      have := seg_sound (fuel := 0) (hL w) hs hQ (K := fun a' => Q .normal a' w) (fun a' hk => wpAnyH_done (by simpa using hok) hk 0) last l a ht h
      simpa [total] using this
  | (seg, i) :: more, last, l, a, w, hok, h => by
    unfold segsOk at hok
    split at hok
    · cases hok
    · rename_i l' ht
      simp only [Bool.and_eq_true, beq_iff_eq] at hok
      unfold wpSegs at h
      have := seg_sound (fuel := total more last + 1) (hL w) hs hQ (K := fun a' => callAt P ops L i (wpSegs P ops L (fun a w => Q .normal a w) more last) a' w) (fun a' hk => by
        refine wpAnyH_all hok.1 (by simp) (fun j hj => ?_)
        obtain rfl := List.mem_singleton.1 hj
        unfold callAt at hk
        unfold wpOp
        cases ho : ops[j]? with
        | none => rw [ho] at hk; exact hk.elim
        | some o =>
          rw [ho] at hk
          simp only at hk ⊢
          by_cases hw : Region.wanted o (yielded ops a'.tmps) = true
          · rw [if_pos hw] at hk ⊢
            refine .inl ?_
            unfold Oper.wp at hk ⊢
            generalize (execOp a'.eval o).run P w = r at hk ⊢
            have step : ∀ a2 w2, (L w w2 ∧ wpSegs P ops L (fun a w => Q .normal a w) more last a2 w2) → (L w w2 ∧ wpAnyH P .any ops Q (L w) (total more last) (l'.setIfInBounds j true) a2 w2) := fun a2 w2 ⟨h1, h2⟩ =>
              ⟨h1, wpAnyH_mono (fun x hx => hT _ _ _ h1 hx) _ _ _ _ (segs_sound hL hT hs hQ more last _ a2 w2 hok.2 h2)⟩
            cases r with
            | ok n w' =>
              cases n <;> simp only [Oper.upon] at hk ⊢
              case value u => exact step _ _ hk
              case skip => exact step _ _ hk
              case defer d => exact step _ _ hk
              case enter f args =>
                refine Calls.mono hk fun e w'' he => ?_
                cases e with
                | returned u => exact step _ _ he
                | panicked c => exact he.elim
                | outgrown => obtain ⟨_, _, he⟩ := he; exact he.elim
              case row row args => exact Rows.mono hk fun u w'' he => step _ _ he
            | halt x w' => cases x <;> simp only [Oper.upon] at hk
          · rw [if_neg hw] at hk ⊢
            exact ⟨hL w, segs_sound hL hT hs hQ more last _ _ w hok.2 hk⟩) seg l a ht h
      rw [show total ((seg, i) :: more) last = total more last + 1 + seg.length by simp [total]; omega]
      exact this
end

/-- Q at a way's plain end alone. -/
def Plain (Q : Exit → Act → World → Prop) : Exit → Act → World → Prop
  | .normal, a, w => Q .normal a w
  | _, _, _ => False

/-- **THE LAW.** -/
theorem wp_region_segs (L : World → World → Prop) (hL : ∀ w, L w w) (hT : ∀ u v w, L u v → L v w → L u w) (segs : List (List Nat × Nat)) (last : List Nat)
    {P : Program} {id : Nat} {Q : Exit → Act → World → Prop} {a : Act} {w : World} {ops : Array Oper} (hm : P.follows .mixedOrders = true)
    (hok : (Region.noSelect ops && segsOk ops segs last (Array.replicate ops.size false) && total segs last == ops.size) = true)
    (h : wpSegs P ops L (fun a w => Q .normal a w) segs last a w.drew) : (Code.region id ops true).wp P Q a w := by
  simp only [Bool.and_eq_true, beq_iff_eq] at hok
  have h1 : (Code.region id ops true).wp P (Plain Q) a w := by
    refine wp_region_held (S := L w.drew) hm ?_
    have := segs_sound (Q := Plain Q) hL hT hok.1.1 (fun _ _ _ h => h) segs last _ a w.drew hok.1.2 h
    rw [hok.2] at this
    exact this
  exact Code.wp_mono (fun e a w h => by cases e <;> first | exact h | exact h.elim) h1

theorem wpSegs_nil {P : Program} {ops : Array Oper} {L : World → World → Prop} {Q : Act → World → Prop} {last : List Nat} {a : Act} {w : World} : wpSegs P ops L Q [] last a w = wpQuiet P ops (fun w' => ∃ t : Cls (L w), w' = t.val) (fun a' => Q a' w) (pick ops last) a := rfl
theorem wpSegs_cons {P : Program} {ops : Array Oper} {L : World → World → Prop} {Q : Act → World → Prop} {seg : List Nat} {i : Nat} {more : List (List Nat × Nat)} {last : List Nat} {a : Act} {w : World} :
    wpSegs P ops L Q ((seg, i) :: more) last a w = wpQuiet P ops (fun w' => ∃ t : Cls (L w), w' = t.val) (fun a' => callAt P ops L i (wpSegs P ops L Q more last) a' w) (pick ops seg) a := rfl
theorem callAt_eq {P : Program} {ops : Array Oper} {L : World → World → Prop} {i : Nat} {next : Act → World → Prop} {a : Act} {w : World} :
    callAt P ops L i next a w = (match ops[i]? with | none => False | some o => if Region.wanted o (yielded ops a.tmps) then o.wp P a w (fun a' w' => L w w' ∧ next a' w') (fun _ _ _ => False) else next (a.put o.dst undef) w) := rfl
/-- The operation is carried out: its end behind a variable. -/
theorem wp_behind {P : Program} {o : Oper} {N : Act → World → Prop} {a : Act} {w : World}
    (h : ∀ K : Act → World → Prop, Hid (∀ a' w', N a' w' → K a' w') → o.wp P a w K (fun _ _ _ => False)) : o.wp P a w N (fun _ _ _ => False) :=
  h _ (fun _ _ h => h)

/-- A later world: every block that was there is as it was. -/
def Later (w x : World) : Prop := Below w.heap.size w x
theorem Later.refl (w : World) : Later w w := Below.refl _ _
theorem Later.trans (u v w : World) (h : Later u v) (k : Later v w) : Later u w := Below.trans h (Below.mono k h.size)
theorem cls_nonempty (w : World) : Nonempty (Cls (Later w)) := ⟨⟨w, Later.refl w⟩⟩
/-- A cell that is there, in every later world. -/
theorem cls_cell {w : World} {p : Addr} {v : Value} (h : w.cell? p = some v) (t : Cls (Later w)) : t.val.cell? p = some v := by
  have hl := World.block_lt_of_cell? w p h
  have hb : Below w.heap.size w t.val := t.ok
  rw [hb.cell hl]; exact h

/-- A schedule: what yields a value is taken as soon as it may come up; else what alone may come up. -/
def plan (ops : Array Oper) : Nat → Array Bool → List Nat → List (List Nat × Nat) × List Nat
  | 0, _, acc => ([], acc.reverse)
  | n + 1, l, acc =>
    let rs := Region.ready .any ops l
    match rs.find? fun i => ((ops[i]?).map isVal).getD false && Region.free .any ops l i with
    | some i => plan ops n (l.setIfInBounds i true) (i :: acc)
    | none => match rs with
      | i :: _ => let r := plan ops n (l.setIfInBounds i true) []; ((acc.reverse, i) :: r.1, r.2)
      | [] => ([], acc.reverse)
end Go.Flow
