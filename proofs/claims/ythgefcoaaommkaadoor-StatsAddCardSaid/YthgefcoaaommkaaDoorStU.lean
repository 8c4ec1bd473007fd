/- Rows cut in two and put together again around a new element: slices of a slice, append as an operation of a region. -/
import Derived.Test.YthgefcoaaommkaaDoorStM
namespace Go.Proofs.YthgefcoaaommkaaDoor
open Go.RowKit

/-- One append as an operation of a region: rows of elements of any size. -/
theorem wp_appK {t E : TypeId} {i : TypeInfo} {z : Value} {size bytes : Nat} (ht : Tryd.prog.underlying t = some (.slice E)) (hi : Tryd.prog.info? E = some i) (hz0 : i.zero = some z) (hz1 : i.size = size) (hz2 : i.bytes = bytes) (hzs : z.cells.size = size) (hsz : 0 < size)
    {o : Oper} {a : Act} {w : World} {K : Act → World → Prop} {Q : Exit → Act → World → Prop} (s x : Operand) (ho : o.op = .call { callee := .builtin .append, args := #[s, x], argTypes := #[t, t] })
    (base : Nat) (v : Value) (n : Nat) (xs : List Value) (hown : w.ownsRow base E size v n xs) (A : Option Addr) (m c : Nat) (ys : List Value) (hm : ys.length = m * size) (hr : RdC w A ys) (h1 : ∀ u ∈ ys, u.oneCell' = true)
    (hs : a.eval s = v) (hx : a.eval x = .slice A m c) (hlen : n + m ≤ 1000000000) (hby : bytes ≤ 1000) (hbase : base ≤ w.heap.size)
    (h : ∀ v' w', w'.ownsRow base E size v' (n + m) (xs ++ ys) → Below base w w' → w.grownBy w' v.ownBlock → K (a.put o.dst v') w') : o.wp Tryd.prog a w K Q := by
  obtain ⟨v', w', hrun, h2, h3⟩ := run_appC ht hi hz0 hz1 hz2 hzs hsz w o.type base v n xs hown A m c ys hm hr h1 hlen hby hbase
  unfold Oper.wp execOp
  simp only [ho, resolve, invoke, builtin, Sem.run_bind, Sem.run_pure, Result.andThen_ok, List.map_toArray, List.map_cons, List.map_nil, hs, hx, hrun]
  exact h v' w' h2 ((Below.refl base w).grown h3 hbase fun k hk => (hown.lt k hk).1) h3
/-- Where s[:k] and s[k:] begin. -/
def toA (A : Option Addr) (c : Nat) : Option Addr := if c = 0 then A else A.map (·.add 0)
def fromA (A : Option Addr) (c k size : Nat) : Option Addr := if c = k then A else A.map (·.add (k * size))
theorem RdC.toA {w : World} {A : Option Addr} {xs : List Value} (h : RdC w A xs) (c k : Nat) : RdC w (toA A c) (xs.take k) := fun hl => by
  rw [List.length_take] at hl
  obtain ⟨b, o, e, hc⟩ := h (by omega)
  subst e
  refine ⟨b, o, ?_, fun j u hj => hc j u ?_⟩
  · unfold Proofs.YthgefcoaaommkaaDoor.toA
    split
    · rfl
    · rw [Option.map_some, addr_addN]; rfl
  · rw [List.getElem?_take] at hj
    split at hj
    · exact hj
    · cases hj
theorem RdC.fromA {w : World} {A : Option Addr} {xs : List Value} {n size : Nat} (h : RdC w A xs) (hl : xs.length = n * size) (c k : Nat) (hk : k ≤ n) (hn : n ≤ c) : RdC w (fromA A c k size) (xs.drop (k * size)) := fun hd => by
  rw [List.length_drop, hl] at hd
  have hkn : k ≠ n := fun e => by subst e; omega
  obtain ⟨b, o, e, hc⟩ := h (by omega)
  subst e
  refine ⟨b, o + k * size, ?_, fun j u hj => ?_⟩
  · unfold Proofs.YthgefcoaaommkaaDoor.fromA
    rw [if_neg (by omega), Option.map_some, addr_addN]
  · rw [List.getElem?_drop] at hj
    rw [Nat.add_assoc]
    exact hc _ u hj
section
variable {P : Program} {C : World → Prop} {a : Act} {o : Oper}
theorem quiet_sliceTo {K : Act → Prop} {t E : TypeId} {i : TypeInfo} (ht : P.underlying t = some (.slice E)) (hi : P.info? E = some i) (x y : Operand) (ho : o.op = .slice t x none (some y) none) (A : Option Addr) (n c k : Nat) (hx : a.eval x = .slice A n c) (hy : a.eval y = .int .i64 k) (hk : k ≤ c)
    (h : K (a.put o.dst (.slice (toA A c) k c))) : o.quiet P a C K :=
  ⟨_, fun w _ => by
    have e : (Instr.sliceAt t (.slice A n c) none (some (.int .i64 k)) none).run P w = .ok (.slice (toA A c) k c) w := by
      unfold Instr.sliceAt Instr.slice toA
      simp [run_underlying ht, Instr.sliceBounds, Instr.sliceBound, asIntOf, sizeOf, typeInfo, hi, hk]
    unfold Oper.quietAt execOp
    simp only [ho, hx, hy, Option.map_some, Option.map_none, Sem.run_bind, Sem.run_pure, e, Result.andThen_ok]
    exact ⟨rfl, rfl⟩, h⟩
theorem quiet_sliceFrom {K : Act → Prop} {t E : TypeId} {i : TypeInfo} {size : Nat} (ht : P.underlying t = some (.slice E)) (hi : P.info? E = some i) (hz : i.size = size) (x y : Operand) (ho : o.op = .slice t x (some y) none none) (A : Option Addr) (n c k : Nat) (hx : a.eval x = .slice A n c) (hy : a.eval y = .int .i64 k) (hk : k ≤ n)
    (h : K (a.put o.dst (.slice (fromA A c k size) (n - k) (c - k)))) : o.quiet P a C K :=
  ⟨_, fun w _ => by
    have e : (Instr.sliceAt t (.slice A n c) (some (.int .i64 k)) none none).run P w = .ok (.slice (fromA A c k size) (n - k) (c - k)) w := by
      unfold Instr.sliceAt Instr.slice fromA
      simp [run_underlying ht, Instr.sliceBounds, Instr.sliceBound, asIntOf, sizeOf, typeInfo, hi, hk, hz]
    unfold Oper.quietAt execOp
    simp only [ho, hx, hy, Option.map_some, Option.map_none, Sem.run_bind, Sem.run_pure, e, Result.andThen_ok]
    exact ⟨rfl, rfl⟩, h⟩
end
theorem own_base {w : World} {B B' e size n : Nat} {v : Value} {xs : List Value} (h : w.ownsRow B' e size v n xs) (hB : B ≤ B') : w.ownsRow B e size v n xs := by
  refine ⟨h.1, ?_⟩
  rcases h.2 with hl | ⟨g, cap, cur, e1, hb, hr⟩
  · exact .inl hl
  · exact .inr ⟨g, cap, cur, e1, Nat.le_trans hB hb, hr⟩
theorem RdC.of_own {w : World} {base n c size : Nat} {e : TypeId} {A : Option Addr} {xs : List Value} (h : w.ownsRow base e size (.slice A n c) n xs) : RdC w A xs := fun hl => by
  rcases h.2 with ⟨e1, e2⟩ | ⟨g, cap, cur, e1, _, hg, _, _, _, hx⟩
  · have := h.1
    rw [e2, Nat.zero_mul] at this; omega
  · injection e1 with a1 a2 a3
    subst a1
    refine ⟨g, 0, rfl, fun j u hj => ?_⟩
    rw [Nat.zero_add, blk_cell hg]
    rw [← hx, List.getElem?_take] at hj
    split at hj
    · simpa using hj
    · cases hj
theorem RdC.below {w w' : World} {A : Option Addr} {xs : List Value} (h : RdC w A xs) (hb : Below w.heap.size w w') : RdC w' A xs := fun hl => by
  obtain ⟨b, o, e, hc⟩ := h hl
  exact ⟨b, o, e, fun j u hj => Below.cellv hb (hc j u hj)⟩
theorem RdC.grown0 {w w' : World} {g : Nat} {ys : List Value} {row : Option Nat} (h : RdC w (some ⟨g, 0, none⟩) ys) (hg : w.grownBy w' row) (hne : some g ≠ row) : RdC w' (some ⟨g, 0, none⟩) ys := fun hl => by
  obtain ⟨b, o, e, hc⟩ := h hl
  cases e
  exact ⟨_, _, rfl, fun j u hj => hg.cell (hc j u hj) hne⟩
theorem take_snoc {α : Type} {l : List α} {k : Nat} {x : α} (h : l[k]? = some x) : l.take (k + 1) = l.take k ++ [x] := by
  obtain ⟨hl, e⟩ := List.getElem?_eq_some_iff.1 h
  rw [List.take_succ_eq_append_getElem hl, e]
theorem one_map_i64 (l : List Int) : ∀ u ∈ l.map i64, u.oneCell' = true := fun u hu => by
  obtain ⟨x, _, rfl⟩ := List.mem_map.1 hu
  rfl
theorem RdC.cell {w : World} {A : Option Addr} {xs : List Value} (h : RdC w A xs) {j : Nat} {v : Value} (hj : xs[j]? = some v) : ∃ b o, A = some ⟨b, o, none⟩ ∧ w.cell? ⟨b, o + j, none⟩ = some v := by
  obtain ⟨b, o, e, hc⟩ := h (Nat.lt_of_le_of_lt (Nat.zero_le _) (List.getElem?_eq_some_iff.1 hj).1)
  exact ⟨b, o, e, hc j v hj⟩
theorem cls_ne {N : Nat} (w : World) : Nonempty (Flow.Cls (Below N w)) := ⟨⟨w, Below.refl N w⟩⟩
end Go.Proofs.YthgefcoaaommkaaDoor
