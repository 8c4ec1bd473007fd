/- The walk of the statement DigestJoin, the program's Join as a contract. -/
import Derived.Test.YtlchcjnbbhpiaaaGreatDoorZx
import Derived.Test.YtlchcjnbbhpiaaaGreatDoorZv
import Derived.Test.YtlchcjnbbhpiaaaGreatDoorDzB
import Derived.Test.YtlchcjnbbhpiaaaGreatDoorYad
namespace Go.Dg
end Go.Dg
namespace Go.Proofs.YtlchcjnbbhpiaaaGreatDoor
open Go.RowKit Go.Shelf Go.Dg Go.Maps
section
variable {ops : Array Oper} {rest : List Oper} {o : Oper} {a : Act} {w : World} {Q : Exit → Act → World → Prop}
set_option maxRecDepth 100000 in
theorem wpList_one_dg (hg : o.guard = none) (X : Operand) (ho : o.op = .buildSlice 83 1 #[(0, X)]) (d : Dg) (A : Option Addr) (c : Nat) (hx : a.eval X = dgA d A c)
  (h : wpList Tryz.prog ops Q rest (a.put o.dst (.slice (some ⟨w.heap.size, 0, none⟩) 1 1)) (w.alloc (.cells (dgxL (d, A, c)).toArray 32))) : wpList Tryz.prog ops Q (o :: rest) a w := by
 obtain ⟨i0, hi, hz0, hz1, hz2⟩ := info_parts dg_info
 refine wpList_buildSlice hg _ _ 1 _ ho (dgxL (d, A, c)).toArray i0 _ Tryz.underlying83 hi hz0 (by rw [hz1]; omega) (by rw [hz1]; omega) ?_ h
 rw [hz1]
 have h2 := Great.fill_whole (s := 5) (by decide) [dgA d A c] ((Array.range (1 * 5)).map ((Value.agg #[enS [], i64 0, i64 0, i64 0, .slice none 0 0]).cells[· % (Value.agg #[enS [], i64 0, i64 0, i64 0, .slice none 0 0]).cells.size]!)) (fun v hv => by
  obtain rfl := List.mem_singleton.1 hv
  rfl) (by simp)
 have e1 : ((#[(0, X)] : Array (Nat × Operand)).map fun (i, y) => (i, a.eval y)).toList = [(0, dgA d A c)] := by
  simp [hx]
 rw [e1]
 refine Eq.trans h2 ?_
 show some (List.flatMap (fun v => v.cells.toList) [dgA d A c]).toArray = _
 rw [List.flatMap_cons, List.flatMap_nil, List.append_nil]
 rfl
theorem wpList_app_dg (hgd : o.guard = none) (s x : Operand) (ho : o.op = .call { callee := .builtin .append, args := #[s, x], argTypes := #[83, 83] })
  (v : Value) (l : List DgX) (hs : a.eval s = v) (hown : w.ownsRow 0 32 5 v l.length (l.flatMap dgxL)) (b : Nat) (y : DgX) (hx : a.eval x = .slice (some ⟨b, 0, none⟩) 1 1) (hr : w.rangeAt b 0 (dgxL y)) (hlen : l.length ≤ 1000000)
  (h : ∀ v' w', w'.ownsRow 0 32 5 v' (l.length + 1) (l.flatMap dgxL ++ dgxL y) → w.grownBy w' v.ownBlock → (v'.ownBlock = v.ownBlock ∨ ∃ g, v'.ownBlock = some g ∧ w.heap.size ≤ g) → wpList Tryz.prog ops Q rest (a.put o.dst v') w') : wpList Tryz.prog ops Q (o :: rest) a w := by
 obtain ⟨i0, hi, hz0, hz1, hz2⟩ := info_parts dg_info
 refine wpList_append_far w hgd s x 83 ho 32 i0 _ 5 64 Tryz.underlying83 hi hz0 hz1 hz2 rfl (by decide) v l.length _ hs hown ⟨b, 0, none⟩ 1 1 (dgxL y) hx (by rw [dgxL_length]) (fun j u hu => ?_) (one_dgxL y) (by unfold maxLen; omega) (by omega) h
 rw [addr_addN]
 exact hr j u hu
end
/-- The digests that the law has laid in its own row. -/
structure LjS (w W : World) (v : Value) (l : List DgX) : Prop where
 bel : Below w.heap.size w W
 ow : W.ownsRow 0 32 5 v l.length (l.flatMap dgxL)
 lw : ∀ g, v.ownBlock = some g → w.heap.size ≤ g
 ok : ∀ x ∈ l, OkX W x ∧ (0 < x.1.its.length → ∀ p, x.2.1 = some p → v.ownBlock ≠ some p.block)
section
variable {w W W' : World} {v v' : Value} {l : List DgX}
theorem LjS.below (h : LjS w W v l) (hb : Below W.heap.size W W') : LjS w W' v l :=
 ⟨h.bel.tr hb, own_below h.ow hb, h.lw, fun x hx => ⟨(h.ok x hx).1.below hb, (h.ok x hx).2⟩⟩
theorem OkX.grown {x : DgX} {row : Option Nat} (h : OkX W x) (hg : W.grownBy W' row) (hn : 0 < x.1.its.length → ∀ p, x.2.1 = some p → row ≠ some p.block) : OkX W' x :=
 ⟨⟨fun hp => by
  obtain ⟨b, o, e, hlt, hc⟩ := h.rd.rd hp
  have hk := hg.block b hlt (fun e2 => hn hp _ e e2.symm)
  exact ⟨b, o, e, Nat.lt_of_lt_of_le hlt hg.size, fun j x hj i u hu => by rw [World.cell?_of_block hk]; exact hc j x hj i u hu⟩, h.rd.ky⟩, h.cap⟩
theorem LjS.app (h : LjS w W v l) {y : DgX} (hy : OkX W y) (hf : 0 < y.1.its.length → ∀ p, y.2.1 = some p → v.ownBlock ≠ some p.block) (ho : W'.ownsRow 0 32 5 v' (l.length + 1) (l.flatMap dgxL ++ dgxL y)) (hg : W.grownBy W' v.ownBlock) (hv : v'.ownBlock = v.ownBlock ∨ ∃ g, v'.ownBlock = some g ∧ W.heap.size ≤ g) : LjS w W' v' (l ++ [y]) := by
 have hs := h.bel.size
 refine ⟨h.bel.trans ((Below.refl w.heap.size W).grown hg hs fun k hk => h.lw k hk), ?_, fun g e => ?_, fun x hx => ?_⟩
 ·rw [List.length_append, List.flatMap_append, List.flatMap_cons, List.flatMap_nil, List.append_nil]; exact ho
 ·rcases hv with hv | ⟨g', e', hl⟩
  ·exact h.lw g (hv ▸ e)
  ·rw [e'] at e; cases e; omega
 ·have hx2 : OkX W x ∧ (0 < x.1.its.length → ∀ p, x.2.1 = some p → v.ownBlock ≠ some p.block) := by
   rcases List.mem_append.1 hx with hx | hx
   ·exact h.ok x hx
   ·rw [List.mem_singleton.1 hx]; exact ⟨hy, hf⟩
  refine ⟨hx2.1.grown hg hx2.2, fun hp p e => ?_⟩
  rcases hv with hv | ⟨g', e', hl⟩
  ·rw [hv]; exact hx2.2 hp p e
  ·obtain ⟨b, o, e2, hlt, _⟩ := hx2.1.rd.rd hp
   rw [e2] at e; cases e
   rw [e']
   intro e3
   have e4 : g' = b := Option.some.inj e3
   omega
end
end Go.Proofs.YtlchcjnbbhpiaaaGreatDoor
