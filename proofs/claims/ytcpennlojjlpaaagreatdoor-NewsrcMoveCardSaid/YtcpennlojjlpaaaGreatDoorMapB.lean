/- A map to bools that a call makes: the set of the keys that were stored with true; storing and looking up. -/
import Derived.Maps.OwnSet
namespace Go.Proofs.YtcpennlojjlpaaaGreatDoor
open Go.Maps

/-- A key's datum stands on a list. -/
def onL (ks : List Lit) (k : Lit) : Bool := ks.any fun x => x.sameKey k
theorem onL_iff {ks : List Lit} (h : ∀ x ∈ ks, WideAt.IsKeyLit x) (k : Lit) : onL ks k = true ↔ k ∈ ks := by
  unfold onL
  rw [List.any_eq_true]
  constructor
  · rintro ⟨x, hx, e⟩
    rw [← WideAt.sameKey_eq e]; exact hx
  · intro hk
    exact ⟨k, hk, WideAt.sameKey_self (h k hk)⟩
theorem at_fold (u z : DataW Unit) (k : Lit) : ∀ (acc : List Lit) (m : DataW Unit), IsMap m → (∀ x ∈ acc, WideAt.IsKeyLit x) → (acc.foldl (fun m x => m.put x u) m).atKey k z = if onL acc k then u else m.atKey k z
  | [], m, _, _ => by simp [onL]
  | x :: r, m, hm, h => by
    rw [List.foldl_cons, at_fold u z k r (m.put x u) (hm.put x u) (fun y hy => h y (by simp [hy]))]
    unfold onL
    rw [List.any_cons]
    by_cases e : k = x
    · subst e
      rw [atKey_put_same hm (h k (by simp)), WideAt.sameKey_self (h k (by simp))]
      simp
    · rw [atKey_put_other e, sameKey_ne (fun e' => e e'.symm)]
      simp
theorem at_setOf (u z : DataW Unit) (k : Lit) (acc : List Lit) (h : ∀ x ∈ acc, WideAt.IsKeyLit x) : (setOf u acc).atKey k z = if onL acc k then u else z := by
  rw [setOf, at_fold u z k acc _ isMap_empty h]
  rfl
/-- Block b is a map to bools of just the keys ks, each with true. -/
def MapB (P : Program) (k e : TypeId) (w : World) (b : Nat) (ks : List Lit) : Prop := (∀ x ∈ ks, WideAt.IsKeyLit x) ∧ w.ownsMap (H := Unit) P k (plainElem P e) b ks.length (setOf (.lit (.bool true)) ks)
theorem MapB.made (P : Program) (k e : TypeId) (w : World) : MapB P k e (w.alloc (.map #[] 0)) w.heap.size [] := ⟨by simp, World.ownsMap_made w P k _⟩
theorem MapB.kept {P : Program} {k e : TypeId} {w w' : World} {b : Nat} {ks : List Lit} {row : Option Nat} (h : MapB P k e w b ks) (hg : w.grownBy w' row) (hne : some b ≠ row) : MapB P k e w' b ks := ⟨h.1, h.2.kept hg hne⟩
theorem MapB.lt {P : Program} {k e : TypeId} {w : World} {b : Nat} {ks : List Lit} (h : MapB P k e w b ks) : b < w.heap.size := h.2.lt
theorem MapB.keep {P : Program} {k e : TypeId} {w w' : World} {b : Nat} {ks : List Lit} (h : MapB P k e w b ks) (e1 : w'.heap[b]? = w.heap[b]?) : MapB P k e w' b ks := by
  obtain ⟨es, clock, hb, r⟩ := h.2
  exact ⟨h.1, es, clock, e1.trans hb, r⟩
theorem MapB.below {P : Program} {k e : TypeId} {w w' : World} {b : Nat} {ks : List Lit} (h : MapB P k e w b ks) (hb : RowKit.Below w.heap.size w w') : MapB P k e w' b ks := h.keep (hb.block b h.lt)
theorem plainElem_bool_inv {P : Program} {e : TypeId} (he : P.underlying e = some .bool) {v : Value} {z : DataW Unit × List MemPlace} (h : plainElem P e v = some z) : ∃ x : Bool, v = .bool x ∧ z = (.lit (.bool x), []) := by
  unfold plainElem at h
  rw [he] at h
  cases v <;> simp at h
  exact ⟨_, rfl, h.symm⟩

variable {P : Program} (w : World) {ops : Array Oper} {rest : List Oper} {o : Oper} {a : Act} {Q : Exit → Act → World → Prop}
/-- A look-up of the walk. -/
theorem wpList_lookup_b (hg : o.guard = none) (m x : Operand) (t : TypeId) (hop : o.op = Op.lookup t m x false)
    (k e : TypeId) (K : Keyed P k) (ht : P.underlying t = some (.map k e)) (he : P.underlying e = some .bool) (hz : (zeroValue e).run P w = .ok (.bool false) w) (b : Nat) (ks : List Lit)
    (hm : a.eval m = .map (some b)) (hown : MapB P k e w b ks) (key : Value) (kl : Lit) (hx : a.eval x = key) (hkey : keyOf P k key = some kl)
    (hK : wpList P ops Q rest (a.put o.dst (.bool (onL ks kl))) w) : wpList P ops Q (o :: rest) a w := by
  refine wpList_plain hg fun K' hK' => ?_
  obtain ⟨v, ps, hrun, hv⟩ := hown.2.lookup K ht hz (plainElem_bool he false) hkey
  obtain ⟨c, rfl, hc⟩ := plainElem_bool_inv he hv
  simp only [Prod.mk.injEq] at hc
  have hc1 := hc.1
  rw [at_setOf _ _ _ _ hown.1] at hc1
  have e1 : c = onL ks kl := by
    cases hq : onL ks kl <;> rw [hq] at hc1 <;> simp at hc1 <;> rw [hc1]
  rw [← e1] at hK
  unfold Oper.wp
  simp [execOp, hop, hm, hx, hrun, Result.andThen]
  exact hK' _ _ hK
/-- A store of true. -/
theorem wpList_mapUpdate_b (hg : o.guard = none) (m x v : Operand) (t : TypeId) (hop : o.op = Op.mapUpdate t m x v)
    (k e : TypeId) (K : Keyed P k) (ht : P.underlying t = some (.map k e)) (he : P.underlying e = some .bool) (b : Nat) (ks : List Lit)
    (hm : a.eval m = .map (some b)) (hown : MapB P k e w b ks) (hn : ks.length < maxLen) (key : Value) (kl : Lit) (hx : a.eval x = key) (hv : a.eval v = .bool true) (hkey : keyOf P k key = some kl) (hkl : WideAt.IsKeyLit kl)
    (hK : ∀ w', MapB P k e w' b (ks ++ [kl]) → w.grownBy w' (some b) → wpList P ops Q rest (a.put o.dst undef) w') : wpList P ops Q (o :: rest) a w :=
  wpList_mapUpdate_own w hg m x v t hop k e K ht (plainElem P e) b ks.length _ hm hown.2 hn key (.bool true) kl hx hv hkey (.lit (.bool true)) [] (plainElem_bool he true) fun w' h1 h2 => hK w' ⟨fun y hy => by
    rcases List.mem_append.1 hy with hy | hy
    · exact hown.1 y hy
    · simp at hy; rw [hy]; exact hkl, by
    rw [setOf_snoc, List.length_append]; exact h1⟩ h2
end Go.Proofs.YtcpennlojjlpaaaGreatDoor
