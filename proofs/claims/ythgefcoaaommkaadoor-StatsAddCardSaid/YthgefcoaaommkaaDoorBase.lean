/- Small laws that all walks of this seat share: a region that draws its order walked once in the order of the text, in a class of worlds; worlds that part in one old block alone. -/
import Derived.Test.YthgefcoaaommkaaDoorProg
import Derived.WalkKit
import Derived.WalkSpells
import Derived.WalkLawsBesides
import Derived.Lib.Hide
import Derived.Deep.QuietTactic
import Derived.BigQuiet
namespace Go.Proofs.YthgefcoaaommkaaDoor
open Go.RowKit

/-- The worlds that meet S, as a type: its members are handed to the walk as variables. -/
structure Cls (S : World → Prop) where
  val : World
  ok : S val
/-- A region that draws its order, walked once in the order of the text, in the class of the worlds that meet S. -/
theorem wp_region_class (S : World → Prop) {P : Program} {id : Nat} {Q : Exit → Act → World → Prop} {a : Act} {w : World} {l : List Oper} (hm : P.follows .mixedOrders = true) (hB : Region.lexB .any l.toArray = true)
    (hS : S w.drew)
    (h : wpQuiet P l.toArray (fun w' => ∃ t : Cls S, w' = t.val) (fun a' => ∀ w', (∃ t : Cls S, w' = t.val) → Q .normal a' w') l a) : (Code.region id l.toArray true).wp P Q a w :=
  wp_region_quiet (C := fun w' => ∃ t : Cls S, w' = t.val) hm hB ⟨⟨_, hS⟩, rfl⟩ (by simpa using h)

/-- A callee's contract in a world of the class. -/
theorem Calls.class_of {S : World → Prop} {P : Program} {f : FuncId} {args : Array Value} {t : Cls S} {v : Value}
    (h : Calls P f args t.val fun e w' => e = .returned v ∧ S w') : Calls P f args t.val fun e w'' => e = .returned v ∧ ∃ t' : Cls S, w'' = t'.val :=
  h.mono fun _ w' ⟨he, hw⟩ => ⟨he, ⟨w', hw⟩, rfl⟩
/-- A callee's contract that lays blocks, in the class of the worlds that lie above W. -/
theorem Calls.class_below {W : World} {P : Program} {f : FuncId} {args : Array Value} {t : Cls (fun x => Below W.heap.size W x)} {v : Value}
    (h : Calls P f args t.val fun e w' => e = .returned v ∧ Below t.val.heap.size t.val w') : Calls P f args t.val fun e w'' => e = .returned v ∧ ∃ t' : Cls (fun x => Below W.heap.size W x), w'' = t'.val :=
  h.mono fun _ w' ⟨he, hw⟩ => ⟨he, ⟨w', t.ok.trans (hw.mono t.ok.size)⟩, rfl⟩
/-- A callee's contract that leaves the world alone, in a class. -/
theorem Calls.class_same {S : World → Prop} {P : Program} {f : FuncId} {args : Array Value} {t : Cls S} {v : Value}
    (h : Calls P f args t.val fun e w' => e = .returned v ∧ t.val = w') : Calls P f args t.val fun e w'' => e = .returned v ∧ ∃ t' : Cls S, w'' = t'.val :=
  h.mono fun _ _ ⟨he, hw⟩ => ⟨he, t, hw.symm⟩

/-- Every old block but b is as it was. -/
structure But (b : Nat) (w w' : World) : Prop where
  os : w'.os = w.os
  tape : w'.tape = w.tape
  output : w'.output = w.output
  size : w.heap.size ≤ w'.heap.size
  block : ∀ k, k < w.heap.size → k ≠ b → w'.heap[k]? = w.heap[k]?

theorem But.refl (b : Nat) (w : World) : But b w w := ⟨rfl, rfl, rfl, Nat.le_refl _, fun _ _ _ => rfl⟩
theorem But.trans {b : Nat} {u v w : World} (h : But b u v) (k : But b v w) : But b u w :=
  ⟨k.os.trans h.os, k.tape.trans h.tape, k.output.trans h.output, Nat.le_trans h.size k.size, fun i hi hb => (k.block i (Nat.lt_of_lt_of_le hi h.size) hb).trans (h.block i hi hb)⟩
theorem But.of_below {b : Nat} {u v : World} (h : Below u.heap.size u v) : But b u v := ⟨h.os, h.tape, h.output, h.size, fun i hi _ => h.block i hi⟩
theorem But.below {b B : Nat} {u v : World} (h : But b u v) (hB : B ≤ b) (hu : B ≤ u.heap.size) : Below B u v := ⟨h.os, h.tape, h.output, h.size, fun i hi => h.block i (by omega) (by omega)⟩
theorem But.drew {b : Nat} {u v : World} (h : But b u v) : But b u v.drew := ⟨h.os, h.tape, h.output, h.size, h.block⟩
theorem But.drewN {b : Nat} {u v : World} (n : Nat) (h : But b u v) : But b u (v.drewN n) := ⟨h.os, h.tape, h.output, h.size, h.block⟩
theorem But.alloc {b : Nat} {u v : World} (h : But b u v) (o : Obj) : But b u (v.alloc o) :=
  ⟨h.os, h.tape, h.output, by have := h.size; simp; omega, fun i hi hb => by rw [Below.heap_alloc _ _ _ (Nat.lt_of_lt_of_le hi h.size)]; exact h.block i hi hb⟩
theorem But.setCell {b o : Nat} {u v : World} (h : But b u v) (x : Value) : But b u (v.setCell ⟨b, o, none⟩ x) :=
  ⟨h.os, h.tape, h.output, by have := h.size; simpa [World.setCell] using this, fun i hi hb => by rw [Below.heap_setCell _ _ _ _ hb]; exact h.block i hi hb⟩
theorem _root_.Go.RowKit.Below.drewN {B : Nat} {a w : World} (n : Nat) (h : Below B a w) : Below B a (w.drewN n) := ⟨h.os, h.tape, h.output, h.size, h.block⟩

theorem bcell {W w1 : World} (hb : Below W.heap.size W w1) : (∀ b o, b < W.heap.size → w1.cell? ⟨b, o, none⟩ = W.cell? ⟨b, o, none⟩) ∧ (∀ b o, b < W.heap.size → w1.frozen? ⟨b, o, none⟩ = W.frozen? ⟨b, o, none⟩) :=
  ⟨fun b o h => hb.cell (p := ⟨b, o, none⟩) h, fun b o h => hb.frozen (p := ⟨b, o, none⟩) h⟩
theorem blk_cell {w : World} {b : Nat} {cs : Array Value} {t : TypeId} {fr : Nat × Nat} (h : w.heap[b]? = some (.cells cs t fr)) (i : Nat) : w.cell? ⟨b, i, none⟩ = cs[i]? := by
  simp [World.cell?, h]
theorem blk_free {w : World} {b : Nat} {cs : Array Value} {t : TypeId} (h : w.heap[b]? = some (.cells cs t (0, 0))) (i : Nat) : w.frozen? ⟨b, i, none⟩ = false := by
  simp [World.frozen?, h]
theorem blk_lt {w : World} {b : Nat} {o : Obj} (h : w.heap[b]? = some o) : b < w.heap.size := by
  rcases Nat.lt_or_ge b w.heap.size with h' | h'
  · exact h'
  · rw [Array.getElem?_eq_none h'] at h; cases h
theorem blk_set {w : World} {b : Nat} {cs : Array Value} {t : TypeId} {fr : Nat × Nat} (h : w.heap[b]? = some (.cells cs t fr)) (i : Nat) (v : Value) : (w.setCell ⟨b, i, none⟩ v).heap[b]? = some (.cells (cs.setIfInBounds i v) t fr) := by
  simp [World.setCell, Array.getElem?_modify, h]
theorem blk_set_ne {w : World} {b c : Nat} (i : Nat) (v : Value) (hne : b ≠ c) : (w.setCell ⟨c, i, none⟩ v).heap[b]? = w.heap[b]? := Below.heap_setCell _ _ _ _ hne
theorem blk_new (w : World) (o : Obj) : (w.alloc o).heap[w.heap.size]? = some o := by
  show (w.heap.push o)[w.heap.size]? = _
  simp
theorem blk_old {w : World} {b : Nat} {x : Obj} (o : Obj) (h : w.heap[b]? = some x) : (w.alloc o).heap[b]? = some x := by
  rw [Below.heap_alloc _ _ _ (blk_lt h)]; exact h
theorem blk_below {w w' : World} {b : Nat} {x : Obj} (hb : Below w.heap.size w w') (h : w.heap[b]? = some x) : w'.heap[b]? = some x := by
  rw [hb.block b (blk_lt h)]; exact h
theorem blk_but {w w' : World} {b c : Nat} {x : Obj} (hb : But c w w') (hne : b ≠ c) (h : w.heap[b]? = some x) : w'.heap[b]? = some x := by
  rw [hb.block b (blk_lt h) hne]; exact h

theorem ret_bool {a b : Bool} (h : a = b) : Ending.returned (.bool a) = .returned (.bool b) := by rw [h]
theorem ret_int {k : IntKind} {a b : Int} (h : a = b) : Ending.returned (.int k a) = .returned (.int k b) := by rw [h]
end Go.Proofs.YthgefcoaaommkaaDoor
