/- Small laws that all walks of this seat share: a region that draws its order walked once in the order of the text, in a class of worlds; worlds that part in one old block alone.
   What the walks over slices of texts share: a slice that reads as a list of texts, the library's variable that a search reads.
   An append to a slice of texts of the call's own: one new text; the elements of a slice that is read.
   Contracts: isLower, isComponent and their closure; slices.ContainsFunc at bytes and at texts; parts; Check.
   Contracts: isComponent, parts, the closure of Check, Check, Split.
   Contracts of the reference: Parts, Component, Check, Text; and of the statements' own same and short.
   Contracts of the reference: Component, Check, Text; and of the statements' own same and short.
   Contracts of strings.Builder over this dump: copyCheck, WriteByte, WriteString. Condition: the new length takes at most 2^47 bytes.
   A region that draws its order: reads first, walked once in the order of the text in one world, then a tail (a store, an append, an allocation) that waits for them.
   A region that draws its order and holds calls, walked once along a schedule of one's own: what yields a value and leaves the world alone is taken as early as it may come up, in every later world alike; a call is carried out where nothing else may come up. Of no program.
   Ranges in memory: a slice of ranges that reads as a list, rows of the call's own; an append of whole rows. -/
import Derived.Test.YtcpennlojjlpaaaGreatDoorProg
import Derived.WalkKit
import Derived.WalkSpells
import Derived.WalkLawsBesides
import Derived.Lib.Hide
import Derived.Deep.QuietTactic
import Derived.BigQuiet
import Derived.Laws.AppendOwn
import Derived.Deep.LoopGhost
import Derived.Deep.Draws
import Derived.OwnWalk
import Derived.Test.YtcpennlojjlpaaaGreatDoorZa
import Derived.Lib.ConvBytes
import Derived.Shelf.Abstract
import Derived.Test.YtcpennlojjlpaaaGreatDoorShelf
import Derived.Shelf.Strings.Builder1
import Derived.Lib.OthersKept
import Derived.StillTailTactics
import Derived.OrdersHeld
import Derived.Laws.Rows
import Derived.Deep.DeepCutAuto
namespace Go.Proofs.YtcpennlojjlpaaaGreatDoor
open Go.RowKit

/-- The worlds that meet S, as a type: its members are handed to the walk as variables. -/
structure Cls (S : World → Prop) where
  val : World
  ok : S val
/-- A region that draws its order, walked once in the order of the text, in the class of the worlds that meet S. -/
theorem wp_region_class (S : World → Prop) {P : Program} {id : Nat} {Q : Exit → Act → World → Prop} {a : Act} {w : World} {l : List Oper} (hm : P.follows .mixedOrders = true) (hB : Region.lexB .any l.toArray = true)
    (hS : S w.drew)
    (h : wpQuiet P l.toArray (fun w' => ∃ t : Cls S, w' = t.val) (fun a' => ∀ w', (∃ t : Cls S, w' = t.val) → Q .normal a' w') l a) : (Code.region id l.toArray true).wp P Q a w :=
  wp_region_quiet (C := fun w' => ∃ t : Cls S, w' = t.val) hm hB ⟨⟨_, hS⟩, rfl⟩ (by simpa using h)

/-- A callee's contract in a world of the class. -/
theorem Calls.class_of {S : World → Prop} {P : Program} {f : FuncId} {args : Array Value} {t : Cls S} {v : Value}
    (h : Calls P f args t.val fun e w' => e = .returned v ∧ S w') : Calls P f args t.val fun e w'' => e = .returned v ∧ ∃ t' : Cls S, w'' = t'.val :=
  h.mono fun _ w' ⟨he, hw⟩ => ⟨he, ⟨w', hw⟩, rfl⟩
/-- A callee's contract that lays blocks, in the class of the worlds that lie above W. -/
theorem Calls.class_below {W : World} {P : Program} {f : FuncId} {args : Array Value} {t : Cls (fun x => Below W.heap.size W x)} {v : Value}
    (h : Calls P f args t.val fun e w' => e = .returned v ∧ Below t.val.heap.size t.val w') : Calls P f args t.val fun e w'' => e = .returned v ∧ ∃ t' : Cls (fun x => Below W.heap.size W x), w'' = t'.val :=
  h.mono fun _ w' ⟨he, hw⟩ => ⟨he, ⟨w', t.ok.trans (hw.mono t.ok.size)⟩, rfl⟩
/-- A callee's contract that leaves the world alone, in a class. -/
theorem Calls.class_same {S : World → Prop} {P : Program} {f : FuncId} {args : Array Value} {t : Cls S} {v : Value}
    (h : Calls P f args t.val fun e w' => e = .returned v ∧ t.val = w') : Calls P f args t.val fun e w'' => e = .returned v ∧ ∃ t' : Cls S, w'' = t'.val :=
  h.mono fun _ _ ⟨he, hw⟩ => ⟨he, t, hw.symm⟩

/-- Every old block but b is as it was. -/
structure But (b : Nat) (w w' : World) : Prop where
  os : w'.os = w.os
  tape : w'.tape = w.tape
  output : w'.output = w.output
  size : w.heap.size ≤ w'.heap.size
  block : ∀ k, k < w.heap.size → k ≠ b → w'.heap[k]? = w.heap[k]?

theorem But.refl (b : Nat) (w : World) : But b w w := ⟨rfl, rfl, rfl, Nat.le_refl _, fun _ _ _ => rfl⟩
theorem But.trans {b : Nat} {u v w : World} (h : But b u v) (k : But b v w) : But b u w :=
  ⟨k.os.trans h.os, k.tape.trans h.tape, k.output.trans h.output, Nat.le_trans h.size k.size, fun i hi hb => (k.block i (Nat.lt_of_lt_of_le hi h.size) hb).trans (h.block i hi hb)⟩
theorem But.of_below {b : Nat} {u v : World} (h : Below u.heap.size u v) : But b u v := ⟨h.os, h.tape, h.output, h.size, fun i hi _ => h.block i hi⟩
theorem But.below {b B : Nat} {u v : World} (h : But b u v) (hB : B ≤ b) (hu : B ≤ u.heap.size) : Below B u v := ⟨h.os, h.tape, h.output, h.size, fun i hi => h.block i (by omega) (by omega)⟩
theorem But.drew {b : Nat} {u v : World} (h : But b u v) : But b u v.drew := ⟨h.os, h.tape, h.output, h.size, h.block⟩
theorem But.drewN {b : Nat} {u v : World} (n : Nat) (h : But b u v) : But b u (v.drewN n) := ⟨h.os, h.tape, h.output, h.size, h.block⟩
theorem But.alloc {b : Nat} {u v : World} (h : But b u v) (o : Obj) : But b u (v.alloc o) :=
  ⟨h.os, h.tape, h.output, by have := h.size; simp; omega, fun i hi hb => by rw [Below.heap_alloc _ _ _ (Nat.lt_of_lt_of_le hi h.size)]; exact h.block i hi hb⟩
theorem But.setCell {b o : Nat} {u v : World} (h : But b u v) (x : Value) : But b u (v.setCell ⟨b, o, none⟩ x) :=
  ⟨h.os, h.tape, h.output, by have := h.size; simpa [World.setCell] using this, fun i hi hb => by rw [Below.heap_setCell _ _ _ _ hb]; exact h.block i hi hb⟩
theorem _root_.Go.RowKit.Below.drewN {B : Nat} {a w : World} (n : Nat) (h : Below B a w) : Below B a (w.drewN n) := ⟨h.os, h.tape, h.output, h.size, h.block⟩

theorem bcell {W w1 : World} (hb : Below W.heap.size W w1) : (∀ b o, b < W.heap.size → w1.cell? ⟨b, o, none⟩ = W.cell? ⟨b, o, none⟩) ∧ (∀ b o, b < W.heap.size → w1.frozen? ⟨b, o, none⟩ = W.frozen? ⟨b, o, none⟩) :=
  ⟨fun b o h => hb.cell (p := ⟨b, o, none⟩) h, fun b o h => hb.frozen (p := ⟨b, o, none⟩) h⟩
theorem blk_cell {w : World} {b : Nat} {cs : Array Value} {t : TypeId} {fr : Nat × Nat} (h : w.heap[b]? = some (.cells cs t fr)) (i : Nat) : w.cell? ⟨b, i, none⟩ = cs[i]? := by
  simp [World.cell?, h]
theorem blk_free {w : World} {b : Nat} {cs : Array Value} {t : TypeId} (h : w.heap[b]? = some (.cells cs t (0, 0))) (i : Nat) : w.frozen? ⟨b, i, none⟩ = false := by
  simp [World.frozen?, h]
theorem blk_lt {w : World} {b : Nat} {o : Obj} (h : w.heap[b]? = some o) : b < w.heap.size := by
  rcases Nat.lt_or_ge b w.heap.size with h' | h'
  · exact h'
  · rw [Array.getElem?_eq_none h'] at h; cases h
theorem blk_set {w : World} {b : Nat} {cs : Array Value} {t : TypeId} {fr : Nat × Nat} (h : w.heap[b]? = some (.cells cs t fr)) (i : Nat) (v : Value) : (w.setCell ⟨b, i, none⟩ v).heap[b]? = some (.cells (cs.setIfInBounds i v) t fr) := by
  simp [World.setCell, Array.getElem?_modify, h]
theorem blk_set_ne {w : World} {b c : Nat} (i : Nat) (v : Value) (hne : b ≠ c) : (w.setCell ⟨c, i, none⟩ v).heap[b]? = w.heap[b]? := Below.heap_setCell _ _ _ _ hne
theorem blk_new (w : World) (o : Obj) : (w.alloc o).heap[w.heap.size]? = some o := by
  show (w.heap.push o)[w.heap.size]? = _
  simp
theorem blk_old {w : World} {b : Nat} {x : Obj} (o : Obj) (h : w.heap[b]? = some x) : (w.alloc o).heap[b]? = some x := by
  rw [Below.heap_alloc _ _ _ (blk_lt h)]; exact h
theorem blk_below {w w' : World} {b : Nat} {x : Obj} (hb : Below w.heap.size w w') (h : w.heap[b]? = some x) : w'.heap[b]? = some x := by
  rw [hb.block b (blk_lt h)]; exact h
theorem blk_but {w w' : World} {b c : Nat} {x : Obj} (hb : But c w w') (hne : b ≠ c) (h : w.heap[b]? = some x) : w'.heap[b]? = some x := by
  rw [hb.block b (blk_lt h) hne]; exact h

theorem ret_bool {a b : Bool} (h : a = b) : Ending.returned (.bool a) = .returned (.bool b) := by rw [h]
theorem ret_int {k : IntKind} {a b : Int} (h : a = b) : Ending.returned (.int k a) = .returned (.int k b) := by rw [h]
end Go.Proofs.YtcpennlojjlpaaaGreatDoor

namespace Go.Proofs.YtcpennlojjlpaaaGreatDoor
open Go.RowKit

theorem bcat (a b : List UInt8) : (⟨a.toArray⟩ : ByteArray) ++ ⟨b.toArray⟩ = ⟨(a ++ b).toArray⟩ := by
  apply ByteArray.ext; simp
theorem str_congr {a b : ByteArray} (h : a = b) : Value.string a = Value.string b := by rw [h]
theorem ret_str {a b : List UInt8} (h : a = b) : Ending.returned (.string ⟨a.toArray⟩) = .returned (.string ⟨b.toArray⟩) := by rw [h]
theorem bget {t : List UInt8} {p : Nat} (h : p < (⟨t.toArray⟩ : ByteArray).size) (hp : p < t.length) : (⟨t.toArray⟩ : ByteArray)[p]'h = t.getD p 0 := by
  show t.toArray[p] = t.getD p 0
  simp [hp]
theorem _root_.Go.RowKit.Below.cellv {w w' : World} (h : Below w.heap.size w w') {p : Addr} {v : Value} (hv : w.cell? p = some v) : w'.cell? p = some v := by
  have hl := World.block_lt_of_cell? w p hv
  rw [h.cell hl]; exact hv
theorem _root_.Go.RowKit.Below.tr {u v w : World} (h : Below u.heap.size u v) (k : Below v.heap.size v w) : Below u.heap.size u w := h.trans (k.mono h.size)

/-- A text as a value. -/
abbrev enS (x : List UInt8) : Value := .string ⟨x.toArray⟩

/-- The slice with the address A and as many elements as xs has reads as xs. -/
def Rd (w : World) (A : Option Addr) (xs : List (List UInt8)) : Prop :=
  0 < xs.length → ∃ b o, A = some ⟨b, o, none⟩ ∧ b < w.heap.size ∧ ∀ j x, xs[j]? = some x → w.cell? ⟨b, o + j, none⟩ = some (enS x)
theorem Rd.nil {w : World} {A : Option Addr} : Rd w A [] := fun h => absurd h (by simp)
theorem Rd.below {w w' : World} {A : Option Addr} {xs : List (List UInt8)} (h : Rd w A xs) (hb : Below w.heap.size w w') : Rd w' A xs := fun hl => by
  obtain ⟨b, o, e, hlt, hc⟩ := h hl
  exact ⟨b, o, e, Nat.lt_of_lt_of_le hlt hb.size, fun j x hj => Below.cellv hb (hc j x hj)⟩
theorem Rd.at_ {w : World} {A : Option Addr} {xs : List (List UInt8)} {k : Nat} (h : Rd w A xs) (hk : k < xs.length) : ∃ b o x, A = some ⟨b, o, none⟩ ∧ b < w.heap.size ∧ xs[k]? = some x ∧ w.cell? ⟨b, o + k, none⟩ = some (enS x) := by
  obtain ⟨b, o, e, hlt, hc⟩ := h (by omega)
  exact ⟨b, o, xs[k], e, hlt, List.getElem?_eq_getElem hk, hc k _ (List.getElem?_eq_getElem hk)⟩
theorem Rd.take {w : World} {A : Option Addr} {xs : List (List UInt8)} (h : Rd w A xs) (k : Nat) : Rd w A (xs.take k) := fun hl => by
  obtain ⟨b, o, e, hlt, hc⟩ := h (by rw [List.length_take] at hl; omega)
  refine ⟨b, o, e, hlt, fun j x hj => hc j x ?_⟩
  rw [List.getElem?_take] at hj
  split at hj
  · exact hj
  · cases hj
/-- A slice in memory of the call's own reads as what it holds. -/
theorem Rd.of_own {w : World} {base n c : Nat} {e : TypeId} {A : Option Addr} {xs : List (List UInt8)} (h : w.ownsRow base e 1 (.slice A n c) n (xs.map enS)) : Rd w A xs ∧ n = xs.length ∧ n ≤ c := by
  obtain ⟨h1, h2⟩ := h
  have hn : n = xs.length := by simpa using h1.symm
  rcases h2 with ⟨e1, e2⟩ | ⟨g, cap, cur, e1, hb, hg, hcap, hml, hsz, ht⟩
  · injection e1 with a1 a2 a3
    subst a1
    refine ⟨fun hl => absurd hl (by omega), hn, by omega⟩
  · injection e1 with a1 a2 a3
    subst a1 a3
    refine ⟨fun hl => ⟨g, 0, rfl, blk_lt hg, fun j x hj => ?_⟩, hn, hcap⟩
    rw [Nat.zero_add, blk_cell hg j]
    have hj' : (xs.map enS)[j]? = some (enS x) := by rw [List.getElem?_map, hj]; rfl
    rw [← ht, List.getElem?_take] at hj'
    split at hj'
    · simpa using hj'
    · cases hj'
/-- The value of a slice of the call's own. -/
theorem own_slice {w : World} {base n : Nat} {e : TypeId} {v : Value} {xs : List Value} (h : w.ownsRow base e 1 v n xs) : ∃ A c, v = .slice A n c := by
  rcases h.2 with ⟨e1, e2⟩ | ⟨g, cap, cur, e1, _⟩
  · exact ⟨none, 0, by rw [e1, e2]⟩
  · exact ⟨_, cap, e1⟩

/-- What the searches of texts read: a variable of the library's, whatever number it holds. -/
def Env (w : World) : Prop := ∃ m, w.cell? ⟨0, 0, none⟩ = some (.int .i64 m)
theorem Env.below {w w' : World} (h : Env w) (hb : Below w.heap.size w w') : Env w' := h.imp fun _ hm => Below.cellv hb hm
theorem Env.drewN {w : World} (h : Env w) (n : Nat) : Env (w.drewN n) := h
theorem str_info : (Tryz.prog.info? 9).map (fun i => (i.zero, i.size, i.bytes)) = some (some (.string ByteArray.empty), 1, 16) := by kernel_rfl
end Go.Proofs.YtcpennlojjlpaaaGreatDoor

namespace Go.Proofs.YtcpennlojjlpaaaGreatDoor
open Go.RowKit

theorem texts_one (xs : List (List UInt8)) : ∀ u ∈ xs.map enS, u.oneCell' = true := by
  intro u hu
  obtain ⟨x, _, rfl⟩ := List.mem_map.1 hu
  rfl
theorem addr_add (b o j : Nat) : (⟨b, o, none⟩ : Addr).add j = ⟨b, o + j, none⟩ := by
  unfold Addr.add; split
  · rename_i h; subst h; rfl
  · rfl
/-- out = append(out, y). -/
theorem wpList_app1 (wr : World) {ops : Array Oper} {rest : List Oper} {o : Oper} {a : Act} {Q : Exit → Act → World → Prop} (hgd : o.guard = none) (s x : Operand)
    (ho : o.op = .call { callee := .builtin .append, args := #[s, x], argTypes := #[98, 98] })
    (base : Nat) (v : Value) (out : List (List UInt8)) (y : List UInt8) (hown : wr.ownsRow base 9 1 v out.length (out.map enS)) (hs : a.eval s = v) (hx : a.eval x = .slice (some ⟨wr.heap.size, 0, none⟩) 1 1)
    (hlen : out.length ≤ 1000000000) (hbase : base ≤ wr.heap.size)
    (h : ∀ v' w', w'.ownsRow base 9 1 v' (out ++ [y]).length ((out ++ [y]).map enS) → Below base wr w' → wpList Tryz.prog ops Q rest (a.put o.dst v') w') : wpList Tryz.prog ops Q (o :: rest) a (wr.alloc (.cells #[enS y] 9)) := by
  obtain ⟨i0, hi, hz0, hz1, hz2⟩ := info_parts str_info
  refine wpList_append_own (P := Tryz.prog) _ hgd s x 98 ho base 9 i0 (.string ByteArray.empty) 1 16 Tryz.underlying98 hi hz0 hz1 hz2 rfl (by decide) v out.length (out.map enS) hs (hown.alloc _) ⟨wr.heap.size, 0, none⟩ 1 1 [enS y] hx rfl ?_ ?_ ?_ ?_ ?_ ?_
  · intro j u hu
    cases j with
    | zero =>
      simp only [List.getElem?_cons_zero, Option.some.injEq] at hu
      subst hu
      rw [addr_add, blk_cell (blk_new wr _)]; rfl
    | succ j => simp at hu
  · exact texts_one [y]
  · simp only [maxLen]; omega
  · omega
  · simp; omega
  · intro v' w' h1 h2 _
    refine h v' w' (by simpa using h1) ?_
    refine (((Below.refl base wr).alloc hbase _).grown h2 (by simp; omega) ?_)
    intro k hk
    exact (hown.lt k hk).1
/-- out = append(out, xs...). -/
theorem run_appN (w : World) (ty : TypeId) (base : Nat) (v : Value) (out : List (List UInt8)) (hown : w.ownsRow base 9 1 v out.length (out.map enS)) (A : Option Addr) (c : Nat) (xs : List (List UInt8)) (hr : Rd w A xs)
    (hlen : out.length + xs.length ≤ 1000000000) (hbase : base ≤ w.heap.size) :
    ∃ v' w', (Builtin.append_ #[98, 98] ty #[v, .slice A xs.length c]).run Tryz.prog w = .ok v' w' ∧ w'.ownsRow base 9 1 v' (out ++ xs).length ((out ++ xs).map enS) ∧ Below base w w' := by
  obtain ⟨i0, hi, hz0, hz1, hz2⟩ := info_parts str_info
  by_cases hx : xs = []
  · subst hx
    rcases A with _ | ad
    · refine ⟨v, w, ?_, by simpa using hown, Below.refl _ _⟩
      rcases hown.2 with ⟨rfl, h0⟩ | ⟨g, cap, cur, rfl, _, _, hnc, _⟩
      · simp [Builtin.append_, run_underlying Tryz.underlying98, sizeOf, typeInfo, hi, Builtin.lenOf, Builtin.firstCells]
      · simp [Builtin.append_, run_underlying Tryz.underlying98, sizeOf, typeInfo, hi, Builtin.lenOf, Builtin.firstCells, hnc, storeCells]
    · obtain ⟨v', w', h1, h2, h3, _⟩ := run_append_own (P := Tryz.prog) w base 98 ty 9 i0 (.string ByteArray.empty) 1 16 Tryz.underlying98 hi hz0 hz1 hz2 rfl (by decide) v out.length (out.map enS) hown ad 0 c [] rfl (fun j u hu => by simp at hu) (fun u hu => by simp at hu) (by simp only [maxLen]; omega) (by omega) hbase
      refine ⟨v', w', h1, by simpa using h2, (Below.refl base w).grown h3 hbase ?_⟩
      intro k hk
      exact (hown.lt k hk).1
  · obtain ⟨b, o, rfl, hb, hc⟩ := hr (List.length_pos_iff.2 hx)
    obtain ⟨v', w', h1, h2, h3, _⟩ := run_append_own (P := Tryz.prog) w base 98 ty 9 i0 (.string ByteArray.empty) 1 16 Tryz.underlying98 hi hz0 hz1 hz2 rfl (by decide) v out.length (out.map enS) hown ⟨b, o, none⟩ xs.length c (xs.map enS) (by simp) (by
      intro j u hu
      rw [List.getElem?_map] at hu
      cases hj : xs[j]? with
      | none => rw [hj] at hu; cases hu
      | some x =>
        rw [hj] at hu
        cases hu
        rw [addr_add]; exact hc j x hj) (texts_one xs) (by simp only [maxLen]; omega) (by omega) hbase
    refine ⟨v', w', h1, by simpa using h2, (Below.refl base w).grown h3 hbase ?_⟩
    intro k hk
    exact (hown.lt k hk).1
theorem Rd.new (w : World) (xs : List (List UInt8)) (t : TypeId) : Rd (w.alloc (.cells (xs.map enS).toArray t)) (some ⟨w.heap.size, 0, none⟩) xs := fun _ => by
  refine ⟨w.heap.size, 0, rfl, by simp, fun j x hj => ?_⟩
  rw [Nat.zero_add, blk_cell (blk_new w _) j]
  simp [hj]
theorem below_new (w : World) (o : Obj) : Below w.heap.size w (w.alloc o) := (Below.refl _ _).alloc (Nat.le_refl _) o
end Go.Proofs.YtcpennlojjlpaaaGreatDoor

namespace Go.Proofs.YtcpennlojjlpaaaGreatDoor
open Go.RowKit Go.Gn

set_option maxHeartbeats 400000 in
theorem isLower_any (c : UInt8) (w : World) : Calls Tryz.prog 147 #[.int .u8 c.toNat] w fun e w' => e = .returned (.bool (isLow c)) ∧ w = w' := by
  have hc := c.toNat_lt
  by_cases a0 : 97 ≤ c.toNat <;> by_cases a1 : c.toNat ≤ 122
  all_goals
    first
      | (have V : Hid (isLow c = true) := by (show isLow c = true); simp only [isLow, Bool.and_eq_true, decide_eq_true_eq]; omega)
      | (have V : Hid (isLow c = false) := by (show isLow c = false); simp only [isLow, Bool.and_eq_false_iff, decide_eq_false_iff_not]; omega)
    generalize c.toNat = n at *
    go_enter Tryz.func147, Tryz.ntmps147
    go_wp2
    all_goals first | (exfalso; omega) | skip
    all_goals
      go_ret
      exact ⟨ret_bool (by first | (rw [V.out]; done) | (rw [V.out]; simp; done) | (rw [V.out]; simp; omega)), rfl⟩

set_option maxHeartbeats 1000000 in
theorem notOk_any (c : UInt8) (w : World) : Calls Tryz.prog 149 #[.int .u8 c.toNat] w fun e w' => e = .returned (.bool (!okB c)) ∧ w = w' := by
  have hc := c.toNat_lt
  cases hl : isLow c with
  | true =>
    have V : Hid ((!okB c) = false) := by (show (!okB c) = false); rw [okB_low hl]; rfl
    have h1 := isLower_any c w
    rw [hl] at h1
    generalize c.toNat = n at *
    clear hl
    go_enter Tryz.func149, Tryz.ntmps149
    go_wp2_with (go_at_call 147; refine h1.mono ?_; rintro e w1 ⟨rfl, rfl⟩)
    go_ret
    exact ⟨ret_bool (by rw [V.out]), rfl⟩
  | false =>
    have V : Hid ((!okB c) = decide ((c.toNat < 48 ∨ 57 < c.toNat) ∧ c.toNat ≠ 45 ∧ c.toNat ≠ 43 ∧ c.toNat ≠ 95)) := by
      show (!okB c) = _
      rw [Bool.eq_iff_iff]
      simp [okB, hl]
      omega
    have h1 := isLower_any c w
    rw [hl] at h1
    generalize c.toNat = n at *
    clear hl
    by_cases b0 : n < 48
    · have e1 : ¬ 57 < n := by omega
      by_cases b2 : n = 45
      · subst b2
        go_enter Tryz.func149, Tryz.ntmps149
        go_wp2_with (go_at_call 147; refine h1.mono ?_; rintro e w1 ⟨rfl, rfl⟩)
        go_ret
        exact ⟨ret_bool (by rw [V.out]; decide), rfl⟩
      · by_cases b3 : n = 43
        · subst b3
          go_enter Tryz.func149, Tryz.ntmps149
          go_wp2_with (go_at_call 147; refine h1.mono ?_; rintro e w1 ⟨rfl, rfl⟩)
          go_ret
          exact ⟨ret_bool (by rw [V.out]; decide), rfl⟩
        · have c2 : ((n : Int) != 45) = true := by simp; omega
          have c3 : ((n : Int) != 43) = true := by simp; omega
          have c4 : ((n : Int) != 95) = true := by simp; omega
          have c1 : (n : Int) < 48 := by omega
          have VV : Hid ((!okB c) = true) := by (show (!okB c) = true); rw [V.out]; simp; omega
          clear V b2 b3 b0
          go_enter Tryz.func149, Tryz.ntmps149
          go_wp2_with (go_at_call 147; refine h1.mono ?_; rintro e w1 ⟨rfl, rfl⟩)
          go_ret
          exact ⟨ret_bool (by rw [VV.out]), rfl⟩
    · by_cases b1 : 57 < n
      · by_cases b4 : n = 95
        · subst b4
          go_enter Tryz.func149, Tryz.ntmps149
          go_wp2_with (go_at_call 147; refine h1.mono ?_; rintro e w1 ⟨rfl, rfl⟩)
          go_ret
          exact ⟨ret_bool (by rw [V.out]; decide), rfl⟩
        · have c2 : ((n : Int) != 45) = true := by simp; omega
          have c3 : ((n : Int) != 43) = true := by simp; omega
          have c4 : ((n : Int) != 95) = true := by simp; omega
          have c1 : (57 : Int) < n := by omega
          have c0 : ¬ (n : Int) < 48 := by omega
          have VV : Hid ((!okB c) = true) := by (show (!okB c) = true); rw [V.out]; simp; omega
          clear V b4 b1 b0
          go_enter Tryz.func149, Tryz.ntmps149
          go_wp2_with (go_at_call 147; refine h1.mono ?_; rintro e w1 ⟨rfl, rfl⟩)
          go_ret
          exact ⟨ret_bool (by rw [VV.out]), rfl⟩
      · have c1 : ¬ (57 : Int) < n := by omega
        have c0 : ¬ (n : Int) < 48 := by omega
        have VV : Hid ((!okB c) = false) := by (show (!okB c) = false); rw [V.out]; simp; omega
        clear V b1 b0
        go_enter Tryz.func149, Tryz.ntmps149
        go_wp2_with (go_at_call 147; refine h1.mono ?_; rintro e w1 ⟨rfl, rfl⟩)
        go_ret
        exact ⟨ret_bool (by rw [VV.out]), rfl⟩

/-- The place of the first element of which p holds, or -1. -/
def idxP {α : Type} (p : α → Bool) (xs : List α) : Int := match xs.findIdx? p with | some i => i | none => -1
theorem idxP_hit {α : Type} {p : α → Bool} {xs : List α} {k : Nat} {x : α} (hk : xs[k]? = some x) (hp : p x = true) (hno : ∀ j y, j < k → xs[j]? = some y → p y = false) : idxP p xs = k := by
  have e : xs.findIdx? p = some k := by
    obtain ⟨hl, hx⟩ := List.getElem?_eq_some_iff.1 hk
    rw [List.findIdx?_eq_some_iff_getElem]
    refine ⟨hl, by rw [hx]; exact hp, fun j hj => ?_⟩
    have := hno j _ hj (List.getElem?_eq_getElem (by omega))
    simp [this]
  unfold idxP; rw [e]
theorem idxP_miss {α : Type} {p : α → Bool} {xs : List α} (hno : ∀ (j : Nat) y, xs[j]? = some y → p y = false) : idxP p xs = -1 := by
  have e : xs.findIdx? p = none := by
    rw [List.findIdx?_eq_none_iff]
    intro x hx
    obtain ⟨j, hj, rfl⟩ := List.getElem_of_mem hx
    exact hno j _ (List.getElem?_eq_getElem hj)
  unfold idxP; rw [e]
theorem idxP_any {α : Type} (p : α → Bool) (xs : List α) : decide (0 ≤ idxP p xs) = xs.any p := by
  unfold idxP
  cases h : xs.findIdx? p with
  | none =>
    rw [List.findIdx?_eq_none_iff] at h
    have : xs.any p = false := by rw [List.any_eq_false]; intro x hx; simp [h x hx]
    rw [this]; rfl
  | some i =>
    obtain ⟨hl, hx, _⟩ := List.findIdx?_eq_some_iff_getElem.1 h
    have : xs.any p = true := List.any_eq_true.2 ⟨_, List.getElem_mem hl, hx⟩
    rw [this]; simp
theorem idxP_rng {α : Type} (p : α → Bool) (xs : List α) : -1 ≤ idxP p xs ∧ idxP p xs < xs.length + 1 := by
  unfold idxP
  cases h : xs.findIdx? p with
  | none => simp only; omega
  | some i =>
    obtain ⟨hl, _⟩ := List.findIdx?_eq_some_iff_getElem.1 h
    simp only; omega

set_option maxRecDepth 100000 in
set_option maxHeartbeats 1000000 in
/-- slices.IndexFunc at texts, at a function value that may lay blocks. -/
theorem idxFunc_str (g : Nat) (eg : ∀ args w, (callFunc g args).run Tryz.prog w = .ok (.enter g args) w) (p : List UInt8 → Bool) (A : Option Addr) (c : Nat) (xs : List (List UInt8)) (w : World) (hl : xs.length ≤ 1000000000)
    (h : Rd w A xs) (hp : ∀ x ∈ xs, ∀ W, Below w.heap.size w W → Calls Tryz.prog g #[enS x] W fun e w' => e = .returned (.bool (p x)) ∧ Below W.heap.size W w') :
    Calls Tryz.prog 146 #[.slice A xs.length c, .func (.func g) #[] #[]] w fun e w' => e = .returned (.int .i64 (idxP p xs)) ∧ Below w.heap.size w w' := by
  have HP := Lib.hid hp; clear hp
  have HR := Lib.hid h; clear h
  go_enter Tryz.func146, Tryz.ntmps146
  go_wp2
  go_loopg [5, 8] xs.length (fun gg _ s8 wr => ∃ kk : Nat, kk ≤ xs.length ∧ xs.length - kk ≤ gg ∧ s8 = .int .i64 kk ∧ Below w.heap.size w wr ∧ Hid (∀ j y, j < kk → xs[j]? = some y → p y = false))
  case atStart => exact ⟨0, Nat.zero_le _, by omega, rfl, Below.refl _ _, fun j y hj => absurd hj (Nat.not_lt_zero _)⟩
  case round =>
    obtain ⟨kk, hkk, hg, rfl, hB, A0⟩ := hrel
    by_cases hlt : kk < xs.length
    · obtain ⟨b, o, x, rfl, _, hx, hcell⟩ := (HR.out.below hB).at_ hlt
      have hcall := HP.out x (List.mem_of_getElem? hx) wr hB
      have HX := Lib.hid hx; clear hx
      cases hq : p x with
      | true =>
        rw [hq] at hcall
        have HQ := Lib.hid hq; clear hq
        go_wp2_with (go_at_fn g; refine hcall.mono ?_; rintro e w1 ⟨rfl, b1⟩)
        go_ret
        exact ⟨ret_int (by rw [idxP_hit HX.out HQ.out A0.out]), hB.tr b1⟩
      | false =>
        rw [hq] at hcall
        have HQ := Lib.hid hq; clear hq
        go_wp2_with (go_at_fn g; refine hcall.mono ?_; rintro e w1 ⟨rfl, b1⟩)
        go_roundg (xs.length - (kk + 1))
        case measure => omega
        case rel =>
          refine ⟨kk + 1, by omega, by omega, by go_num, hB.tr b1, fun j y hj hy => ?_⟩
          rcases Nat.lt_succ_iff_lt_or_eq.1 hj with h | h
          · exact A0.out j y h hy
          · subst h; rw [HX.out] at hy; cases hy; exact HQ.out
    · obtain rfl : kk = xs.length := by omega
      go_wp2
      go_ret
      exact ⟨ret_int (by rw [idxP_miss (fun j y hy => A0.out j y (List.getElem?_eq_some_iff.1 hy).1 hy)]), hB⟩

set_option maxHeartbeats 400000 in
theorem contFunc_str (g : Nat) (eg : ∀ args w, (callFunc g args).run Tryz.prog w = .ok (.enter g args) w) (p : List UInt8 → Bool) (A : Option Addr) (c : Nat) (xs : List (List UInt8)) (w : World) (hl : xs.length ≤ 1000000000)
    (h : Rd w A xs) (hp : ∀ x ∈ xs, ∀ W, Below w.heap.size w W → Calls Tryz.prog g #[enS x] W fun e w' => e = .returned (.bool (p x)) ∧ Below W.heap.size W w') :
    Calls Tryz.prog 123 #[.slice A xs.length c, .func (.func g) #[] #[]] w fun e w' => e = .returned (.bool (xs.any p)) ∧ Below w.heap.size w w' := by
  have hi := idxFunc_str g eg p A c xs w hl h hp
  have ha := idxP_any p xs
  have HA := Lib.hid ha; clear ha
  clear h hp
  generalize idxP p xs = i at *
  go_enter Tryz.func123, Tryz.ntmps123
  go_wp2_with (go_at_call 146; refine hi.mono ?_; rintro e w1 ⟨rfl, b1⟩)
  go_ret
  exact ⟨ret_bool (by rw [← HA.out]), b1⟩

set_option maxRecDepth 100000 in
set_option maxHeartbeats 1000000 in
/-- slices.ContainsFunc at bytes with isComponent's closure. -/
theorem idxFunc_byte (b cap : Nat) (s : List UInt8) (w : World) (hl : s.length ≤ 1000000000)
    (hc : ∀ (j : Nat) x, s[j]? = some x → w.cell? ⟨b, j, none⟩ = some (.int .u8 x.toNat)) :
    Calls Tryz.prog 176 #[.slice (some ⟨b, 0, none⟩) s.length cap, .func (.func 149) #[] #[]] w fun e w' => e = .returned (.int .i64 (idxP (fun c => !okB c) s)) ∧ w = w' := by
  have HR := Lib.hid hc; clear hc
  go_enter Tryz.func176, Tryz.ntmps176
  go_wp2
  go_loopg [5, 8] s.length (fun gg _ s8 wr => ∃ kk : Nat, kk ≤ s.length ∧ s.length - kk ≤ gg ∧ s8 = .int .i64 kk ∧ w = wr ∧ Hid (∀ j y, j < kk → s[j]? = some y → (!okB y) = false))
  case atStart => exact ⟨0, Nat.zero_le _, by omega, rfl, rfl, fun j y hj => absurd hj (Nat.not_lt_zero _)⟩
  case round =>
    obtain ⟨kk, hkk, hg, rfl, rfl, A0⟩ := hrel
    by_cases hlt : kk < s.length
    · obtain ⟨x, hx⟩ : ∃ x, s[kk]? = some x := ⟨_, List.getElem?_eq_getElem hlt⟩
      have hcell := HR.out kk x hx
      have HX := Lib.hid hx; clear hx
      have hcall := notOk_any x w
      cases hq : (!okB x) with
      | true =>
        rw [hq] at hcall
        have HQ := Lib.hid hq; clear hq
        generalize x.toNat = n at *
        go_wp2_with (go_at_call 149; refine hcall.mono ?_; rintro e w1 ⟨rfl, rfl⟩)
        go_ret
        exact ⟨ret_int (by rw [idxP_hit (p := fun c => !okB c) HX.out HQ.out A0.out]), rfl⟩
      | false =>
        rw [hq] at hcall
        have HQ := Lib.hid hq; clear hq
        generalize x.toNat = n at *
        go_wp2_with (go_at_call 149; refine hcall.mono ?_; rintro e w1 ⟨rfl, rfl⟩)
        go_roundg (s.length - (kk + 1))
        case measure => omega
        case rel =>
          refine ⟨kk + 1, by omega, by omega, by go_num, rfl, fun j y hj hy => ?_⟩
          rcases Nat.lt_succ_iff_lt_or_eq.1 hj with h | h
          · exact A0.out j y h hy
          · subst h; rw [HX.out] at hy; cases hy; exact HQ.out
    · obtain rfl : kk = s.length := by omega
      go_wp2
      go_ret
      exact ⟨ret_int (by rw [idxP_miss (p := fun c => !okB c) (fun j y hy => A0.out j y (List.getElem?_eq_some_iff.1 hy).1 hy)]), rfl⟩

set_option maxHeartbeats 400000 in
theorem contFunc_byte (b cap : Nat) (s : List UInt8) (w : World) (hl : s.length ≤ 1000000000)
    (hc : ∀ (j : Nat) x, s[j]? = some x → w.cell? ⟨b, j, none⟩ = some (.int .u8 x.toNat)) :
    Calls Tryz.prog 148 #[.slice (some ⟨b, 0, none⟩) s.length cap, .func (.func 149) #[] #[]] w fun e w' => e = .returned (.bool (s.any (fun c => !okB c))) ∧ w = w' := by
  have hi := idxFunc_byte b cap s w hl hc
  have ha := idxP_any (fun c => !okB c) s
  have HA := Lib.hid ha; clear ha hc
  generalize idxP (fun c => !okB c) s = i at *
  go_enter Tryz.func148, Tryz.ntmps148
  go_wp2_with (go_at_call 176; refine hi.mono ?_; rintro e w1 ⟨rfl, rfl⟩)
  go_ret
  exact ⟨ret_bool (by rw [← HA.out]), rfl⟩
end Go.Proofs.YtcpennlojjlpaaaGreatDoor

namespace Go.Proofs.YtcpennlojjlpaaaGreatDoor
open Go.RowKit Go.Gn

theorem bytesWorld_below (w : World) (e : TypeId) (s : ByteArray) : Below w.heap.size w (Lib.bytesWorld w e s) :=
  ⟨rfl, rfl, rfl, by rw [Lib.bytesWorld_size]; omega, fun j hj => Lib.bytesWorld_at_old w e s j hj⟩
theorem bytesWorld_bytes (w : World) (e : TypeId) (s : List UInt8) : ∀ (j : Nat) x, s[j]? = some x → (Lib.bytesWorld w e ⟨s.toArray⟩).cell? ⟨w.heap.size, j, none⟩ = some (.int .u8 x.toNat) := fun j x hj => by
  obtain ⟨hl, hx⟩ := List.getElem?_eq_some_iff.1 hj
  rw [Lib.bytesWorld_cell w e ⟨s.toArray⟩ j (show j < s.toArray.size by simpa using hl)]
  simp [hl, hx]
theorem any_not_all {α : Type} (p : α → Bool) (l : List α) : (!l.any fun c => !p c) = l.all p := by
  induction l with
  | nil => rfl
  | cons a l ih => simp only [List.any_cons, List.all_cons, Bool.not_or, Bool.not_not, ih]

set_option maxRecDepth 100000 in
set_option maxHeartbeats 1000000 in
theorem isComponent_any (s : List UInt8) (w : World) (hl : s.length ≤ 1000000000) : Calls Tryz.prog 125 #[enS s] w fun e w' => e = .returned (.bool (comp s)) ∧ Below w.heap.size w w' := by
  by_cases h0 : s = []
  · subst h0
    have V : Hid (comp [] = false) := by (show comp [] = false); rfl
    go_enter Tryz.func125, Tryz.ntmps125
    go_wp2
    go_ret
    exact ⟨ret_bool V.out.symm, Below.refl _ _⟩
  · have hne : (!s.isEmpty) = true := by cases s with | nil => exact absurd rfl h0 | cons _ _ => rfl
    have hne2 : s.isEmpty = false := by cases s with | nil => exact absurd rfl h0 | cons _ _ => rfl
    have hpos : 0 < s.length := List.length_pos_iff.2 h0
    by_cases h20 : 20 < s.length
    · have V : Hid (comp s = false) := by (show comp s = false); unfold comp; rw [show decide (s.length ≤ 20) = false by simp; omega]; simp
      go_enter Tryz.func125, Tryz.ntmps125
      go_wp2
      go_ret
      exact ⟨ret_bool V.out.symm, Below.refl _ _⟩
    · have bg := bget (t := s) (p := 0) (show 0 < s.toArray.size by simpa using hpos) hpos
      obtain ⟨c, hc⟩ : ∃ c, s.getD 0 0 = c := ⟨_, rfl⟩
      rw [hc] at bg
      have HC := Lib.hid hc; clear hc
      have h1 := isLower_any c w
      cases hq : isLow c with
      | false =>
        have V : Hid (comp s = false) := by (show comp s = false); unfold comp; rw [HC.out, hq]; simp
        rw [hq] at h1
        clear hq HC
        go_enter Tryz.func125, Tryz.ntmps125
        go_wp2_with (go_at_call 147; refine h1.mono ?_; rintro e w1 ⟨rfl, rfl⟩)
        go_ret
        exact ⟨ret_bool V.out.symm, Below.refl _ _⟩
      | true =>
        have V : Hid (comp s = !s.any fun c => !okB c) := by
          show comp s = _
          rw [any_not_all]; unfold comp; rw [HC.out, hq, show decide (s.length ≤ 20) = true by simp; omega, show decide (1 ≤ s.length) = true by simp; omega]; rfl
        rw [hq] at h1
        clear hq HC
        have hconv := Lib.run_convert_string_bytes (P := Tryz.prog) w 9 64 5 ⟨s.toArray⟩ Tryz.underlying9 Tryz.underlying64 Tryz.underlying5
        have hcf := contFunc_byte w.heap.size (grownCap w s.length 0 5) s (Lib.bytesWorld w 5 ⟨s.toArray⟩) hl (bytesWorld_bytes w 5 s)
        have hb := bytesWorld_below w 5 ⟨s.toArray⟩
        generalize (s.any fun c => !okB c) = r at *
        go_enter Tryz.func125, Tryz.ntmps125
        go_wp2_with (go_at_call 147; refine h1.mono ?_; rintro e w1 ⟨rfl, rfl⟩)
        refine hcf.mono ?_; rintro e w1 ⟨rfl, rfl⟩
        go_wp2
        go_ret
        exact ⟨ret_bool V.out.symm, hb⟩

/-- strings.Split at one byte. -/
theorem split_eq (c : UInt8) (s : List UInt8) : Lib.countB ⟨s.toArray⟩ ⟨#[c]⟩ + 1 = (parts c s).length ∧ (Lib.splitB ⟨#[c]⟩ 0 (Lib.countB ⟨s.toArray⟩ ⟨#[c]⟩) ⟨s.toArray⟩).map Value.string = (parts c s).map enS := by
  have hd := Lib.splitB_data ⟨#[c]⟩ 0 (Lib.countB ⟨s.toArray⟩ ⟨#[c]⟩) ⟨s.toArray⟩
  have hs : Lib.splitK [c] 0 (Lib.countB ⟨s.toArray⟩ ⟨#[c]⟩) s = parts c s := by
    rw [← split_parts]; rfl
  have hd' : (Lib.splitB ⟨#[c]⟩ 0 (Lib.countB ⟨s.toArray⟩ ⟨#[c]⟩) ⟨s.toArray⟩).map (·.data.toList) = parts c s := by
    rw [hd, ← hs]
  refine ⟨?_, ?_⟩
  · have := Lib.splitB_all ⟨#[c]⟩ (Nat.le_refl 1) 0 _ ⟨s.toArray⟩ rfl
    rw [← this, ← hd', List.length_map]
  · rw [← hd', List.map_map]
    rfl
theorem split_any (c : UInt8) (s : List UInt8) (w : World) (hE : Env w) (hl : s.length ≤ 1000000000) :
    Calls Tryz.prog 85 #[enS s, .string ⟨#[c]⟩] w fun e w' => e = .returned (.slice (some ⟨w.heap.size, 0, none⟩) (parts c s).length (parts c s).length) ∧ w' = w.alloc (.cells ((parts c s).map enS).toArray 9) := by
  obtain ⟨m, hm⟩ := hE
  have h := Tryz.strings_Split ⟨s.toArray⟩ ⟨#[c]⟩ m w (show s.toArray.size < _ by simp; omega) hm (Nat.le_refl 1)
  rw [(split_eq c s).1, (split_eq c s).2] at h
  exact h

set_option maxHeartbeats 400000 in
theorem parts_any (s : List UInt8) (w : World) (hE : Env w) (hl : s.length ≤ 1000000000) :
    Calls Tryz.prog 122 #[enS s] w fun e w' => e = .returned (.slice (some ⟨w.heap.size, 0, none⟩) (parts 46 s).length (parts 46 s).length) ∧ w' = w.alloc (.cells ((parts 46 s).map enS).toArray 9) := by
  have h := split_any 46 s w hE hl
  generalize parts 46 s = ps at *
  go_enter Tryz.func122, Tryz.ntmps122
  go_wp2_with fail
  refine h.mono ?_; rintro e w1 ⟨rfl, rfl⟩
  go_wp2_with fail
  go_ret
  exact ⟨rfl, rfl⟩

set_option maxHeartbeats 400000 in
theorem check1_any (s : List UInt8) (w : World) (hl : s.length ≤ 1000000000) : Calls Tryz.prog 124 #[enS s] w fun e w' => e = .returned (.bool (!comp s)) ∧ Below w.heap.size w w' := by
  have h := isComponent_any s w hl
  generalize comp s = r at *
  go_enter Tryz.func124, Tryz.ntmps124
  go_wp2_with fail
  refine h.mono ?_; rintro e w1 ⟨rfl, b1⟩
  go_wp2_with fail
  go_ret
  exact ⟨rfl, b1⟩

set_option maxRecDepth 100000 in
set_option maxHeartbeats 1000000 in
theorem check_any (s : List UInt8) (w : World) (hE : Env w) (hl : s.length ≤ 9223372036854775807) : Calls Tryz.prog 103 #[enS s] w fun e w' => e = .returned (.int .i64 (check s)) ∧ Below w.heap.size w w' := by
  by_cases h80 : 80 < s.length
  · have V : Hid (check s = 5) := by (show check s = 5); unfold check; rw [if_pos h80]
    go_enter Tryz.func103, Tryz.ntmps103
    go_wp2
    go_ret
    exact ⟨ret_int (by rw [V.out]; rfl), Below.refl _ _⟩
  · have hl : s.length ≤ 1000000000 := by omega
    have hp := parts_any s w hE hl
    have hb := below_new w (.cells ((parts 46 s).map enS).toArray 9)
    have hn := parts_length_le 46 s
    have hcf := contFunc_str 124 (enters_of Tryz.func124 (by kernel_rfl) rfl) (fun p => !comp p) (some ⟨w.heap.size, 0, none⟩) (parts 46 s).length (parts 46 s) (w.alloc (.cells ((parts 46 s).map enS).toArray 9)) (by omega) (Rd.new w _ 9)
      (fun x hx W _ => check1_any x W (by have := parts_le 46 s x hx; omega))
    have V : Hid (check s = if (parts 46 s).any (fun p => !comp p) then 12 else if 10 < (parts 46 s).length then 9 else 0) := by (show check s = _); unfold check; rw [if_neg h80]
    generalize (parts 46 s).any (fun p => !comp p) = r at *
    generalize parts 46 s = ps at *
    cases r with
    | true =>
      go_enter Tryz.func103, Tryz.ntmps103
      go_wp2_with fail
      refine hp.mono ?_; rintro e w1 ⟨rfl, rfl⟩
      go_wp2_with fail
      refine hcf.mono ?_; rintro e w1 ⟨rfl, b1⟩
      go_wp2_with fail
      go_ret
      exact ⟨ret_int (by rw [V.out]; rfl), hb.tr b1⟩
    | false =>
      by_cases h10 : 10 < ps.length
      · go_enter Tryz.func103, Tryz.ntmps103
        go_wp2_with fail
        refine hp.mono ?_; rintro e w1 ⟨rfl, rfl⟩
        go_wp2_with fail
        refine hcf.mono ?_; rintro e w1 ⟨rfl, b1⟩
        go_wp2_with fail
        go_ret
        exact ⟨ret_int (by rw [V.out, if_neg Bool.false_ne_true, if_pos h10]; rfl), hb.tr b1⟩
      · go_enter Tryz.func103, Tryz.ntmps103
        go_wp2_with fail
        refine hp.mono ?_; rintro e w1 ⟨rfl, rfl⟩
        go_wp2_with fail
        refine hcf.mono ?_; rintro e w1 ⟨rfl, b1⟩
        go_wp2_with fail
        go_ret
        exact ⟨ret_int (by rw [V.out, if_neg Bool.false_ne_true, if_neg h10]; rfl), hb.tr b1⟩
end Go.Proofs.YtcpennlojjlpaaaGreatDoor

namespace Go.Proofs.YtcpennlojjlpaaaGreatDoor
open Go.RowKit Go.Gn

theorem ext1 {s : List UInt8} {k : Nat} {b : UInt8} (hk : k < s.length) (h : s.getD k 0 = b) : (⟨s.toArray⟩ : ByteArray).extract k (k + 1) = ⟨[b].toArray⟩ := by
  apply ByteArray.ext
  rw [ByteArray.data_extract]
  apply Array.toList_inj.1
  simp
  rw [List.take_drop, List.take_succ_eq_append_getElem hk]
  simp [hk] at h
  simp [h, Nat.min_eq_left (Nat.le_of_lt hk)]
/-- The call returns a slice that reads as xs; what was there is as it was. -/
def Gives (w : World) (xs : List (List UInt8)) (e : Ending) (w' : World) : Prop :=
  ∃ A c, e = .returned (.slice A xs.length c) ∧ Rd w' A xs ∧ xs.length ≤ c ∧ Below w.heap.size w w'
theorem gives_own {w w' : World} {v : Value} {xs : List (List UInt8)} (h : w'.ownsRow w.heap.size 9 1 v xs.length (xs.map enS)) (hb : Below w.heap.size w w') : Gives w xs (.returned v) w' := by
  obtain ⟨A, c, rfl⟩ := own_slice h
  obtain ⟨h1, h2, h3⟩ := Rd.of_own h
  exact ⟨A, c, rfl, h1, h3, hb⟩

set_option maxRecDepth 100000 in
set_option maxHeartbeats 1000000 in
theorem refParts_any (s : List UInt8) (c : UInt8) (w : World) (hl : s.length ≤ 100000000) :
    Calls Tryz.prog 128 #[enS s, .int .u8 c.toNat] w (Gives w (parts c s)) := by
  go_enter Tryz.func128, Tryz.ntmps128
  go_wp2
  go_loopg [5, 6, 7] s.length (fun gg ov pv iv wr => ∃ (k : Nat) (out : List (List UInt8)) (p : List UInt8), k ≤ s.length ∧ s.length - k ≤ gg ∧ iv = .int .i64 k ∧ pv = enS p ∧ out.length ≤ k ∧ wr.ownsRow w.heap.size 9 1 ov out.length (out.map enS) ∧ Below w.heap.size w wr ∧ Hid (parts c (s.take k) = out ++ [p]))
  case atStart => exact ⟨0, [], [], Nat.zero_le _, by omega, rfl, rfl, by simp, World.ownsRow_nil _ _ _ _, Below.refl _ _, (show parts c (s.take 0) = [] ++ [[]] from rfl)⟩
  case round =>
    obtain ⟨k, out, p, hk, hg, rfl, rfl, hok, hown, hB, V⟩ := hrel
    have hpl : p.length ≤ s.length := by
      have := parts_le c (s.take k) p (by rw [V.out]; simp)
      simp at this; omega
    by_cases hlt : k < s.length
    · have bg := bget (t := s) (p := k) (show k < s.toArray.size by simpa using hlt) hlt
      have hts : s.take (k + 1) = s.take k ++ [s.getD k 0] := by rw [List.take_succ_eq_append_getElem hlt]; simp [hlt]
      obtain ⟨b, hb⟩ : ∃ b, s.getD k 0 = b := ⟨_, rfl⟩
      rw [hb] at bg hts
      have HB := Lib.hid hb; clear hb
      have HT := Lib.hid hts; clear hts
      have HO := Lib.hid hown; clear hown
      by_cases hbc : b = c
      · subst hbc
        have V2 : Hid (parts b (s.take (k + 1)) = (out ++ [p]) ++ [[]]) := by
          show parts b (s.take (k + 1)) = _
          rw [HT.out, parts_snoc_sep, V.out]
        go_wp2_with (at_builtin; (refine wpList_app1 wr rfl _ _ rfl w.heap.size _ out p HO.out rfl rfl (by omega) hB.size ?_); intro v1 w1 hown1 hb1)
        have HO1 := Lib.hid hown1; clear hown1 HO
        go_wp2
        go_roundg (s.length - (k + 1))
        case measure => omega
        case rel => exact ⟨k + 1, out ++ [p], [], by omega, by omega, by go_num, rfl, by simp; omega, HO1.out, hB.trans hb1, V2.out⟩
      · have V2 : Hid (parts c (s.take (k + 1)) = out ++ [p ++ [b]]) := by
          show parts c (s.take (k + 1)) = _
          rw [HT.out, parts_snoc hbc _ _ _ V.out]
        have hne : ((b.toNat : Int) == (c.toNat : Int)) = false := by
          simp; intro e; exact hbc (UInt8.toNat_inj.1 (by omega))
        have hne2 : (b.toNat == c.toNat) = false := by
          simp; intro e; exact hbc (UInt8.toNat_inj.1 (by omega))
        have hne3 : ¬ b.toNat = c.toNat := fun e => hbc (UInt8.toNat_inj.1 e)
        have hx1 : (⟨s.toArray⟩ : ByteArray).extract k (k + 1) = ⟨[b].toArray⟩ := by
          exact ext1 hlt HB.out
        go_wp2
        go_roundg (s.length - (k + 1))
        case measure => omega
        case rel => exact ⟨k + 1, out, p ++ [b], by omega, by omega, by go_num, str_congr (bcat p [b]), by omega, HO.out, hB, V2.out⟩
    · obtain rfl : k = s.length := by omega
      rw [List.take_length] at V
      have HO := Lib.hid hown; clear hown
      go_wp2_with (at_builtin; (refine wpList_app1 wr rfl _ _ rfl w.heap.size _ out p HO.out rfl rfl (by omega) hB.size ?_); intro v1 w1 hown1 hb1)
      have HO1 := Lib.hid hown1; clear hown1 HO
      go_wp2
      go_ret
      rw [V.out]
      exact gives_own HO1.out (hB.trans hb1)
end Go.Proofs.YtcpennlojjlpaaaGreatDoor

namespace Go.Proofs.YtcpennlojjlpaaaGreatDoor
open Go.RowKit Go.Gn

/-- The cases of a byte of a component, as the reference tests them. -/
theorem okB_cases (c : UInt8) :
    (okB c = true ∧ (97 : Int) ≤ c.toNat ∧ (c.toNat : Int) ≤ 122) ∨
    (okB c = true ∧ (c.toNat : Int) < 97 ∧ (48 : Int) ≤ c.toNat ∧ (c.toNat : Int) ≤ 57) ∨
    (okB c = true ∧ (c.toNat : Int) < 97 ∧ (c.toNat : Int) < 48 ∧ ((c.toNat : Int) == 45) = true) ∨
    (okB c = true ∧ (c.toNat : Int) < 97 ∧ (c.toNat : Int) < 48 ∧ ((c.toNat : Int) == 45) = false ∧ ((c.toNat : Int) == 43) = true) ∨
    (okB c = true ∧ (c.toNat : Int) < 97 ∧ (48 : Int) ≤ c.toNat ∧ (57 : Int) < c.toNat ∧ ((c.toNat : Int) == 45) = false ∧ ((c.toNat : Int) == 43) = false ∧ ((c.toNat : Int) == 95) = true) ∨
    (okB c = false ∧ (c.toNat : Int) < 97 ∧ (c.toNat : Int) < 48 ∧ ((c.toNat : Int) == 45) = false ∧ ((c.toNat : Int) == 43) = false ∧ ((c.toNat : Int) == 95) = false) ∨
    (okB c = false ∧ (c.toNat : Int) < 97 ∧ (48 : Int) ≤ c.toNat ∧ (57 : Int) < c.toNat ∧ ((c.toNat : Int) == 45) = false ∧ ((c.toNat : Int) == 43) = false ∧ ((c.toNat : Int) == 95) = false) ∨
    (okB c = false ∧ (97 : Int) ≤ c.toNat ∧ (122 : Int) < c.toNat ∧ (48 : Int) ≤ c.toNat ∧ (57 : Int) < c.toNat ∧ ((c.toNat : Int) == 45) = false ∧ ((c.toNat : Int) == 43) = false ∧ ((c.toNat : Int) == 95) = false) := by
  have e : okB c = decide ((97 ≤ c.toNat ∧ c.toNat ≤ 122) ∨ (48 ≤ c.toNat ∧ c.toNat ≤ 57) ∨ c.toNat = 45 ∨ c.toNat = 43 ∨ c.toNat = 95) := by
    rw [Bool.eq_iff_iff]; simp only [okB, isLow, Bool.or_eq_true, Bool.and_eq_true, decide_eq_true_eq, or_assoc]
  rw [e]
  simp only [decide_eq_true_eq, decide_eq_false_iff_not, beq_iff_eq, beq_eq_false_iff_ne, ne_eq]
  omega
theorem isLow_cases (c : UInt8) :
    (isLow c = true ∧ (97 : Int) ≤ c.toNat ∧ (c.toNat : Int) ≤ 122) ∨ (isLow c = false ∧ (c.toNat : Int) < 97) ∨ (isLow c = false ∧ (97 : Int) ≤ c.toNat ∧ (122 : Int) < c.toNat) := by
  have e : isLow c = decide (97 ≤ c.toNat ∧ c.toNat ≤ 122) := by
    rw [Bool.eq_iff_iff]; simp only [isLow, Bool.and_eq_true, decide_eq_true_eq]
  rw [e]
  simp only [decide_eq_true_eq, decide_eq_false_iff_not]
  omega
theorem take_all_snoc {α : Type} (p : α → Bool) (s : List α) (k : Nat) (d : α) (hk : k < s.length) : (s.take (k + 1)).all p = ((s.take k).all p && p (s.getD k d)) := by
  rw [List.take_succ_eq_append_getElem hk, List.all_append]; simp [hk]

set_option maxRecDepth 100000 in
set_option maxHeartbeats 4000000 in
theorem refComponent_any (s : List UInt8) (w : World) (hl : s.length ≤ 1000000000) : Calls Tryz.prog 129 #[enS s] w fun e w' => e = .returned (.bool (comp s)) ∧ w = w' := by
  by_cases h0 : s.length < 1
  · have V : Hid (comp s = false) := by (show comp s = false); unfold comp; rw [decide_eq_false (show ¬ 1 ≤ s.length by omega)]; rfl
    have h1 : s.length = 0 := by omega
    clear h1
    go_enter Tryz.func129, Tryz.ntmps129
    go_wp2
    go_ret
    exact ⟨ret_bool V.out.symm, rfl⟩
  · have hpos : 0 < s.length := by omega
    by_cases h20 : 20 < s.length
    · have V : Hid (comp s = false) := by (show comp s = false); unfold comp; rw [show decide (s.length ≤ 20) = false by simp; omega]; simp
      go_enter Tryz.func129, Tryz.ntmps129
      go_wp2
      go_ret
      exact ⟨ret_bool V.out.symm, rfl⟩
    · have bg := bget (t := s) (p := 0) (show 0 < s.toArray.size by simpa using hpos) hpos
      obtain ⟨c, hc⟩ : ∃ c, s.getD 0 0 = c := ⟨_, rfl⟩
      rw [hc] at bg
      have HC := Lib.hid hc; clear hc
      rcases isLow_cases c with ⟨hq, c1, c2⟩ | ⟨hq, c1⟩ | ⟨hq, c1, c2⟩
      · have V : Hid (comp s = s.all okB) := by
          show comp s = _
          unfold comp; rw [HC.out, hq, show decide (s.length ≤ 20) = true by simp; omega, show decide (1 ≤ s.length) = true by simp; omega]; rfl
        have V0 : Hid ((s.take 1).all okB = true) := by
          show (s.take 1).all okB = true
          rw [take_all_snoc okB s 0 0 hpos, HC.out]; simp [okB_low hq]
        clear hq HC
        go_enter Tryz.func129, Tryz.ntmps129
        go_wp2
        clear bg c1 c2
        go_loopg [3, 4] s.length (fun gg iv _ wr => ∃ k : Nat, 1 ≤ k ∧ k ≤ s.length ∧ s.length - k ≤ gg ∧ iv = .int .i64 k ∧ w = wr ∧ Hid ((s.take k).all okB = true))
        case atStart => exact ⟨1, by omega, by omega, by omega, rfl, rfl, V0⟩
        case round =>
          obtain ⟨k, hk1, hk, hg, rfl, rfl, A0⟩ := hrel
          by_cases hlt : k < s.length
          · have bg := bget (t := s) (p := k) (show k < s.toArray.size by simpa using hlt) hlt
            have hsn := take_all_snoc okB s k 0 hlt
            obtain ⟨b, hb⟩ : ∃ b, s.getD k 0 = b := ⟨_, rfl⟩
            rw [hb] at bg hsn
            have HB := Lib.hid hb; clear hb
            have HS := Lib.hid hsn; clear hsn
            rcases okB_cases b with ⟨hq, q1, q2⟩ | ⟨hq, q1, q2, q3⟩ | ⟨hq, q1, q2, q3⟩ | ⟨hq, q1, q2, q3, q4⟩ | ⟨hq, q1, q2, q3, q4, q5, q6⟩ | ⟨hq, q1, q2, q3, q4, q5⟩ | ⟨hq, q1, q2, q3, q4, q5, q6⟩ | ⟨hq, q1, q2, q3, q4, q5, q6, q7⟩
            all_goals
              have HQ := Lib.hid hq; clear hq
              try (have d57 : decide ((b.toNat : Int) ≤ 57) = false := decide_eq_false (by omega))
              try (have d122 : decide ((b.toNat : Int) ≤ 122) = false := decide_eq_false (by omega))
              go_wp2
            all_goals first
              | (go_roundg (s.length - (k + 1))
                 case measure => omega
                 case rel => exact ⟨k + 1, by omega, by omega, by omega, by go_num, rfl, (show (s.take (k + 1)).all okB = true by rw [HS.out, A0.out, HQ.out]; rfl)⟩)
              | (go_ret
                 refine ⟨ret_bool ?_, rfl⟩
                 rw [V.out]
                 refine (List.all_eq_false.2 ⟨b, ?_, by rw [HQ.out]; simp⟩).symm
                 rw [← HB.out]
                 simp [hlt])
          · obtain rfl : k = s.length := by omega
            rw [List.take_length] at A0
            go_wp2
            go_ret
            exact ⟨ret_bool (by rw [V.out, A0.out]), rfl⟩
      all_goals
        have V : Hid (comp s = false) := by (show comp s = false); unfold comp; rw [HC.out, hq]; simp
        clear hq HC
        go_enter Tryz.func129, Tryz.ntmps129
        go_wp2
        go_ret
        exact ⟨ret_bool V.out.symm, rfl⟩
end Go.Proofs.YtcpennlojjlpaaaGreatDoor

namespace Go.Proofs.YtcpennlojjlpaaaGreatDoor
open Go.Shelf Go.RowKit

theorem bldSize : (Tryz.prog.info? 128).map (·.size) = some 2 := by kernel_rfl
theorem bldLies : liesAt Tryz.prog Tryz.prog.depth 128 (2 / Tryz.prog.cellsOf 128) 0 128 1 = true := by kernel_rfl
theorem byteInfo : (Tryz.prog.info? 5).map (fun i => (i.zero, i.size, i.bytes)) = some (some (.int .u8 0), 1, 1) := by kernel_rfl

theorem own_row {w : World} {base n size : Nat} {e : TypeId} {v : Value} {xs : List Value} (h : w.ownsRow base e size v n xs) : ∀ g, v.ownBlock = some g → ∃ c fz, w.heap[g]? = some (.cells c e fz) := by
  intro g hg
  rcases h.2 with ⟨e1, _⟩ | ⟨g', cap, cur, e1, _, hg', _⟩
  · subst e1; cases hg
  · subst e1; cases hg; exact ⟨_, _, hg'⟩

set_option maxHeartbeats 1000000 in
set_option maxRecDepth 100000 in
theorem bldCheck_used (b : Nat) (w : World) (h0 : w.cell? ⟨b, 0, none⟩ = some (.pointer (some ⟨b, 0, none⟩))) :
    Calls Tryz.prog 119 #[.pointer (some ⟨b, 0, none⟩)] w fun e w' => e = .returned (.tuple #[]) ∧ w' = w := by
  obtain ⟨j, hj, _⟩ := Option.map_eq_some_iff.1 bldSize
  go_enter Tryz.func119, Tryz.ntmps119
  go_wp2
  rw [Lib.run_neq_ptr_same w _ Tryz.underlying126 hj]
  go_wp2
  go_end0
  exact ⟨rfl, rfl⟩

set_option maxHeartbeats 1000000 in
set_option maxRecDepth 100000 in
theorem bldCheck_fresh (b : Nat) (w : World) (h0 : w.cell? ⟨b, 0, none⟩ = some (.pointer none)) (hsh : w.shape? b = some (128, 2)) (hfz : w.frozen? ⟨b, 0, none⟩ = false) :
    Calls Tryz.prog 119 #[.pointer (some ⟨b, 0, none⟩)] w fun e w' => e = .returned (.tuple #[]) ∧ w' = w.setCell ⟨b, 0, none⟩ (.pointer (some ⟨b, 0, none⟩)) := by
  obtain ⟨j, hj, hjs⟩ := Option.map_eq_some_iff.1 bldSize
  go_enter Tryz.func119, Tryz.ntmps119
  go_wp2
  rw [Lib.run_to_unsafe w ⟨b, 0, none⟩ Tryz.underlying126 Tryz.underlying187 hj (by rw [hjs]; decide) hsh (Nat.zero_lt_succ 1)]
  simp only [Result.andThen]
  rw [Oper.upon_value]
  go_wp2
  rw [run_callFunc_extern Tryz.func144 (by kernel_rfl) (by kernel_rfl) (by kernel_rfl) (e := Extern.AbiNoEscape.same) (by kernel_rfl)]
  rw [Lib.run_noEscape]
  simp only [Result.andThen]
  rw [Oper.upon_value]
  go_wp2
  rw [Lib.run_from_unsafe w ⟨b, 0, none⟩ Tryz.underlying187 Tryz.underlying126 hj hsh bldLies]
  simp only [Result.andThen]
  rw [Oper.upon_value]
  go_wp2
  go_end0
  exact ⟨rfl, rfl⟩

theorem bldCheck (B b : Nat) (bs : List Value) (w : World) (h : Lib.IsBuilder 128 5 B b bs w) :
    Calls Tryz.prog 119 #[.pointer (some ⟨b, 0, none⟩)] w fun e w' => e = .returned (.tuple #[]) ∧ (Lib.BuilderAt 128 5 B b (.pointer (some ⟨b, 0, none⟩)) bs w' ∧ Below B w w' ∧ Lib.OthersKept 5 (some b) w w') := by
  rcases h with h | h
  · refine (bldCheck_fresh b w h.cell0 h.shape h.frozen0).mono ?_
    rintro e w' ⟨rfl, rfl⟩
    exact ⟨rfl, h.used _, (Below.refl B w).setCell (p := ⟨b, 0, none⟩) h.1 _, (Lib.OthersKept.refl 5 (some b) w).setCell ⟨b, 0, none⟩ rfl _⟩
  · refine (bldCheck_used b w h.cell0).mono ?_
    rintro e w' ⟨rfl, rfl⟩
    exact ⟨rfl, h, Below.refl B _, Lib.OthersKept.refl 5 (some b) _⟩

set_option maxHeartbeats 2000000 in
set_option maxRecDepth 100000 in
theorem bldByte (B b : Nat) (bs : List Value) (c : Int) (w : World) (h : Lib.IsBuilder 128 5 B b bs w) (hlen : bs.length + 1 ≤ 140737488355328) (hBw : B ≤ w.heap.size) :
    Calls Tryz.prog 88 #[.pointer (some ⟨b, 0, none⟩), .int .u8 c] w fun e w' => e = .returned .nilIface ∧ (Lib.BuilderAt 128 5 B b (.pointer (some ⟨b, 0, none⟩)) (bs ++ [.int .u8 c]) w' ∧ Below B w w' ∧ Lib.OthersKept 5 (some b) w w') := by
  obtain ⟨i0, hi, hz0, hz1, hz2⟩ := info_parts byteInfo
  go_enter Tryz.func88, Tryz.ntmps88
  go_wp2_with fail
  refine (bldCheck B b bs _ h).mono ?_
  rintro e w1 ⟨rfl, h1, hb1, hk1⟩
  obtain ⟨hB, v, hbk, hown, hne⟩ := h1
  have c0 : w1.cell? ⟨b, 0, none⟩ = some (.pointer (some ⟨b, 0, none⟩)) := by rw [Lib.cell_of_heap hbk]; rfl
  have c1 : w1.cell? ⟨b, 1, none⟩ = some v := by rw [Lib.cell_of_heap hbk]; rfl
  go_wp2_with (at_builtin; refine wpList_append_own _ rfl _ _ 64 rfl B 5 i0 (.int .u8 0) 1 1 Tryz.underlying64 hi hz0 hz1 hz2 rfl (by decide) _ _ _ rfl (hown.alloc _) ⟨w1.heap.size, 0, none⟩ 1 1 [.int .u8 c] rfl rfl ?c1 ?c2 ?c3 ?c4 ?c5 ?_)
  case c1 =>
    intro j u hj
    match j, hj with
    | 0, hj => simp at hj; subst hj; simp [Addr.add]
  case c2 => intro u hu; simp at hu; subst hu; rfl
  case c3 => unfold maxLen; omega
  case c4 => omega
  case c5 => have := hb1.size; simp; omega
  intro v' w2 hown' hgrow _
  have hlt : b < w1.heap.size := blk_lt hbk
  have hb2 : w2.heap[b]? = some (.cells #[.pointer (some ⟨b, 0, none⟩), v] 128 (0, 0)) := by
    rw [hgrow.block b (by simp; omega) (fun e => hne e.symm), Lib.alloc_old w1 _ b hlt]
    exact hbk
  have d0 : w2.cell? ⟨b, 0, none⟩ = some (.pointer (some ⟨b, 0, none⟩)) := by rw [Lib.cell_of_heap hb2]; rfl
  have d1 : w2.cell? ⟨b, 1, none⟩ = some v := by rw [Lib.cell_of_heap hb2]; rfl
  have f1 : w2.frozen? ⟨b, 1, none⟩ = false := Lib.frozen_of_heap hb2 1
  obtain ⟨g, cap, rfl⟩ : ∃ g cap, v' = .slice (some ⟨g, 0, none⟩) (bs.length + 1) cap := by
    rcases hown'.2 with ⟨_, h0⟩ | ⟨g, cap, cur, hv, _⟩
    · omega
    · exact ⟨g, cap, hv⟩
  go_wp2
  go_ret
  refine ⟨rfl, ?_, ?_, ?_⟩
  · exact Lib.BuilderAt.put (T := 128) (e := 5) hB hb2 (bs' := bs ++ [.int .u8 c]) (by simpa using hown') (by decide)
  · exact ((hb1.alloc (by have := hb1.size; omega) _).grown hgrow (by have := hb1.size; simp; omega) (fun k hk => (hown.lt k hk).1)).setCell (p := ⟨b, 1, none⟩) hB _
  · exact ((hk1.alloc _).grown hgrow (own_row (hown.alloc _))).setCell ⟨b, 1, none⟩ rfl _

set_option maxHeartbeats 2000000 in
set_option maxRecDepth 100000 in
theorem bldStr (B b : Nat) (bs : List Value) (s : ByteArray) (w : World) (h : Lib.IsBuilder 128 5 B b bs w) (hlen : bs.length + s.size ≤ 140737488355328) (hBw : B ≤ w.heap.size) :
    Calls Tryz.prog 89 #[.pointer (some ⟨b, 0, none⟩), .string s] w fun e w' => e = .returned (.tuple #[.int .i64 s.size, .nilIface]) ∧ (Lib.BuilderAt 128 5 B b (.pointer (some ⟨b, 0, none⟩)) (bs ++ Lib.strCells s) w' ∧ Below B w w' ∧ Lib.OthersKept 5 (some b) w w') := by
  obtain ⟨i0, hi, hz0, hz1, hz2⟩ := info_parts byteInfo
  go_enter Tryz.func89, Tryz.ntmps89
  go_wp2_with fail
  refine (bldCheck B b bs _ h).mono ?_
  rintro e w1 ⟨rfl, h1, hb1, hk1⟩
  obtain ⟨hB, v, hbk, hown, hne⟩ := h1
  have c0 : w1.cell? ⟨b, 0, none⟩ = some (.pointer (some ⟨b, 0, none⟩)) := by rw [Lib.cell_of_heap hbk]; rfl
  have c1 : w1.cell? ⟨b, 1, none⟩ = some v := by rw [Lib.cell_of_heap hbk]; rfl
  go_wp2_with (at_builtin; refine Lib.wpList_append_own_string _ rfl _ _ 64 9 rfl B 5 i0 Tryz.underlying64 Tryz.underlying9 hi hz0 hz1 hz2 _ _ _ rfl hown s rfl ?c3 ?c4 ?c5 ?_)
  case c3 => unfold maxLen; omega
  case c4 => omega
  case c5 => have := hb1.size; omega
  intro v' w2 hown' hgrow _
  have hlt : b < w1.heap.size := blk_lt hbk
  have hb2 : w2.heap[b]? = some (.cells #[.pointer (some ⟨b, 0, none⟩), v] 128 (0, 0)) := by
    rw [hgrow.block b hlt (fun e => hne e.symm)]
    exact hbk
  have d0 : w2.cell? ⟨b, 0, none⟩ = some (.pointer (some ⟨b, 0, none⟩)) := by rw [Lib.cell_of_heap hb2]; rfl
  have d1 : w2.cell? ⟨b, 1, none⟩ = some v := by rw [Lib.cell_of_heap hb2]; rfl
  have f1 : w2.frozen? ⟨b, 1, none⟩ = false := Lib.frozen_of_heap hb2 1
  obtain ⟨ao, n', cap, rfl⟩ : ∃ ao n' cap, v' = .slice ao n' cap := by
    rcases hown'.2 with ⟨hv, _⟩ | ⟨g, cap, cur, hv, _⟩
    · exact ⟨_, _, _, hv⟩
    · exact ⟨_, _, _, hv⟩
  go_wp2
  go_ret2
  refine ⟨rfl, ?_, ?_, ?_⟩
  · exact Lib.BuilderAt.put (T := 128) (e := 5) hB hb2 (bs' := bs ++ Lib.strCells s) (by simpa [Lib.strCells_length] using hown') (by decide)
  · exact (hb1.grown hgrow (by have := hb1.size; omega) (fun k hk => (hown.lt k hk).1)).setCell (p := ⟨b, 1, none⟩) hB _
  · exact (hk1.grown hgrow (own_row hown)).setCell ⟨b, 1, none⟩ rfl _
end Go.Proofs.YtcpennlojjlpaaaGreatDoor

namespace Go.Proofs.YtcpennlojjlpaaaGreatDoor
open Go.RowKit

/-- The class of one world alone: its members are handed to the walk as variables. -/
abbrev One (W : World) : Type := Cls (fun x => x = W)
theorem One.cell {W : World} {p : Addr} {v : Value} (h : W.cell? p = some v) : ∀ t : One W, t.val.cell? p = some v := fun t => by rw [t.ok]; exact h
theorem one_nonempty (W : World) : Nonempty (One W) := ⟨⟨W, rfl⟩⟩
theorem still_of_quiet {P : Program} {ops : Array Oper} {W : World} {Q : Act → Prop} : ∀ (l : List Oper) (a : Act), wpQuiet P ops (fun w' => ∃ t : One W, w' = t.val) Q l a → wpStill P ops W Q l a
  | [], _, h => h
  | o :: rest, a, h => by
    unfold wpQuiet at h
    unfold wpStill
    split
    · rename_i hw
      rw [if_pos hw] at h
      obtain ⟨v, hv, hn⟩ := h
      have hq := hv W ⟨⟨W, rfl⟩, rfl⟩
      have ih := still_of_quiet rest (a.put o.dst v) hn
      unfold Oper.quietAt Oper.quietUpon at hq
      unfold Oper.still Oper.stillUpon
      split at hq
      · rename_i u w' e; rw [e]; obtain ⟨rfl, rfl⟩ := hq; exact ⟨rfl, ih⟩
      · rename_i w' e; rw [e]; obtain ⟨rfl, rfl⟩ := hq; exact ⟨rfl, ih⟩
      · rename_i f args w' e; rw [e]; obtain ⟨rfl, hc⟩ := hq
        exact ⟨rfl, v, hc.mono fun _ _ ⟨h1, t, h2⟩ => ⟨h1, by rw [h2, t.ok]⟩, ih⟩
      · exact hq.elim
    · rename_i hw
      rw [if_neg hw] at h
      exact still_of_quiet rest _ h
/-- **Reads first, then a tail in its order.** n: how many operations read. -/
theorem wp_region_calm {P : Program} {id : Nat} {Q : Exit → Act → World → Prop} {a : Act} {w : World} {l : List Oper} (n : Nat) (hm : P.follows .mixedOrders = true) (hB : Region.lexTailB .any l.toArray n = true)
    (h : wpQuiet P l.toArray (fun w' => ∃ t : One w.drew, w' = t.val) (fun a' => wpList P l.toArray Q (l.drop n) a' w.drew) (l.take n) a) : (Code.region id l.toArray true).wp P Q a w :=
  wp_region_still_tail n hm hB (still_of_quiet _ _ h)
end Go.Proofs.YtcpennlojjlpaaaGreatDoor

namespace Go.Flow
open Go.RowKit

/-- The worlds that meet S, as a type: its members are handed to the walk as variables. -/
structure Cls (S : World → Prop) where
  val : World
  ok : S val

/-- Operations that yield a value if they yield at all. -/
def isVal (o : Oper) : Bool :=
  match o.op with
  | .move _ | .assign _ | .pick .. | .load .. | .nilCheck _ | .binOp .. | .unOp .. | .convert .. | .slice .. | .fieldAddr .. | .field .. | .indexAddr .. | .index .. | .extract .. | .lookup .. | .build .. => true
  | .call { callee := .builtin b, .. } => match b with | .len | .cap | .max | .min => true | _ => false
  | _ => false

theorem run_v {s : Sem Value} {P : Program} {w : World} {n : Next} {w' : World} (h : (do let x ← s; pure (Next.value x) : Sem Next).run P w = .ok n w') : ∃ u, n = .value u := by
  simp at h
  cases hs : s.run P w with
  | ok x w1 => rw [hs] at h; simp [Result.andThen] at h; exact ⟨x, h.1.symm⟩
  | halt x w1 => rw [hs] at h; simp [Result.andThen] at h

theorem run_pure_v {x : Value} {P : Program} {w : World} {n : Next} {w' : World} (h : (pure (Next.value x) : Sem Next).run P w = .ok n w') : ∃ u, n = .value u := by
  simp at h; exact ⟨x, h.1.symm⟩
theorem andThen_ok_inv {α β : Type} {r : Result α} {f : α → World → Result β} {b : β} {w' : World} (h : r.andThen f = .ok b w') : ∃ x w1, r = .ok x w1 ∧ f x w1 = .ok b w' := by
  cases r with
  | ok x w1 => exact ⟨x, w1, rfl, by simpa [Result.andThen] using h⟩
  | halt x w1 => simp [Result.andThen] at h

theorem no_nil {P : Program} {w w' : World} {n : Next} (h : (runtimePanic .nilDeref : Sem Next).run P w = .ok n w') : False := by
  simp [runtimePanic, goPanic] at h

theorem isVal_run {ρ : Operand → Value} {o : Oper} {P : Program} {w w' : World} {n : Next} (hv : isVal o = true) (h : (execOp ρ o).run P w = .ok n w') : ∃ u, n = .value u := by
  unfold isVal at hv
  unfold execOp at h
  split at hv
  all_goals first | cases hv | skip
  all_goals rename_i heq
  all_goals simp only [heq] at h
  all_goals first
    | exact run_v h
    | exact run_pure_v h
    | skip
  · rw [Sem.run_bind] at h
    obtain ⟨x, w1, _, h2⟩ := andThen_ok_inv h
    exact run_pure_v h2
  · split at h
    · exact (no_nil h).elim
    · exact (no_nil h).elim
    · exact (no_nil h).elim
    · split at h
      · exact (no_nil h).elim
      · simp only [Sem.run_bind] at h
        obtain ⟨x, w1, _, h2⟩ := andThen_ok_inv h
        obtain ⟨y, w2, _, h3⟩ := andThen_ok_inv h2
        split at h3
        · rw [Sem.run_bind] at h3
          obtain ⟨z, w3, _, h4⟩ := andThen_ok_inv h3
          exact run_pure_v h4
        · exact run_pure_v h3
      · exact run_pure_v h
    · exact run_pure_v h
  · simp only [resolve, Sem.run_bind, Sem.run_pure, Result.andThen_ok, invoke] at h
    split at hv
    all_goals first | cases hv | skip
    all_goals (simp only [builtin] at h; exact run_v h)

/-- The operations of these numbers. -/
def pick (ops : Array Oper) : List Nat → List Oper
  | [] => []
  | i :: is => match ops[i]? with
    | some o => o :: pick ops is
    | none => pick ops is

section
variable {P : Program} {ops : Array Oper} {Q : Exit → Act → World → Prop}

/-- What is asked of an operation that is carried out where nothing else may come up. -/
def callAt (P : Program) (ops : Array Oper) (L : World → World → Prop) (i : Nat) (next : Act → World → Prop) (a : Act) (w : World) : Prop :=
  match ops[i]? with
  | none => False
  | some o => if Region.wanted o (yielded ops a.tmps) then o.wp P a w (fun a' w' => L w w' ∧ next a' w') (fun _ _ _ => False) else next (a.put o.dst undef) w

theorem callAt_want {L : World → World → Prop} {i : Nat} {next : Act → World → Prop} {a : Act} {w : World} (o : Oper) (ho : ops[i]? = some o) (hw : Region.wanted o (yielded ops a.tmps) = true)
    (h : ∀ K : Act → World → Prop, (∀ a' w', L w w' ∧ next a' w' → K a' w') → o.wp P a w K (fun _ _ _ => False)) : callAt P ops L i next a w := by
  unfold callAt
  simp only [ho, hw, if_true]
  exact h _ (fun _ _ h => h)
theorem callAt_skip {L : World → World → Prop} {i : Nat} {next : Act → World → Prop} {a : Act} {w : World} (o : Oper) (ho : ops[i]? = some o) (hw : Region.wanted o (yielded ops a.tmps) = false)
    (h : next (a.put o.dst undef) w) : callAt P ops L i next a w := by
  unfold callAt
  simp only [ho, hw, Bool.false_eq_true, if_false]
  exact h

/-- The walk along a schedule: quiet operations, one that is carried out, quiet ones, and so on. -/
def wpSegs (P : Program) (ops : Array Oper) (L : World → World → Prop) (Q : Act → World → Prop) : List (List Nat × Nat) → List Nat → Act → World → Prop
  | [], last, a, w => wpQuiet P ops (fun w' => ∃ t : Cls (L w), w' = t.val) (fun a' => Q a' w) (pick ops last) a
  | (seg, i) :: more, last, a, w => wpQuiet P ops (fun w' => ∃ t : Cls (L w), w' = t.val) (fun a' => callAt P ops L i (wpSegs P ops L Q more last) a' w) (pick ops seg) a

/-- Every operation of a list may be taken first when its turn comes. -/
def takeAll (ops : Array Oper) : List Nat → Array Bool → Option (Array Bool)
  | [], l => some l
  | i :: is, l => match ops[i]? with
    | none => none
    | some o => if isVal o && Region.free .any ops l i && (Region.ready .any ops l).contains i then takeAll ops is (l.setIfInBounds i true) else none
def segsOk (ops : Array Oper) : List (List Nat × Nat) → List Nat → Array Bool → Bool
  | [], last, l => match takeAll ops last l with
    | none => false
    | some l' => (Region.ready .any ops l').isEmpty
  | (seg, i) :: more, last, l => match takeAll ops seg l with
    | none => false
    | some l' => (Region.ready .any ops l' == [i]) && segsOk ops more last (l'.setIfInBounds i true)
def total : List (List Nat × Nat) → List Nat → Nat
  | [], last => last.length
  | (seg, _) :: more, last => seg.length + 1 + total more last

theorem wpAnyH_mono {md : Region.Mode} {S S' : World → Prop} (h : ∀ w, S w → S' w) : ∀ (fuel : Nat) (listed : Array Bool) (a : Act) (w : World), wpAnyH P md ops Q S fuel listed a w → wpAnyH P md ops Q S' fuel listed a w
  | 0, _, _, _, hh => hh
  | fuel + 1, _, _, _, hh => ⟨hh.1, fun i hi => wpOp_mono (fun a' w' h' => ⟨h _ h'.1, wpAnyH_mono h fuel _ a' w' h'.2⟩) (hh.2 i hi)⟩

theorem seg_sound {L : World → World → Prop} {w : World} (hL : L w w) (hs : Region.noSelect ops = true) (hQ : ∀ c a w, ¬ Q (.panic c) a w) {K : Act → Prop} {fuel : Nat} {l' : Array Bool}
    (hK : ∀ a', K a' → wpAnyH P .any ops Q (L w) fuel l' a' w) : ∀ (is : List Nat) (l : Array Bool) (a : Act), takeAll ops is l = some l' →
      wpQuiet P ops (fun w' => ∃ t : Cls (L w), w' = t.val) K (pick ops is) a → wpAnyH P .any ops Q (L w) (fuel + is.length) l a w
  | [], l, a, ht, h => by
    simp only [takeAll, Option.some.injEq] at ht
    subst ht
    exact hK a h
  | i :: is, l, a, ht, h => by
    unfold takeAll at ht
    split at ht
    · cases ht
    · rename_i o ho
      split at ht
      · rename_i hb
        simp only [Bool.and_eq_true] at hb
        have hp : pick ops (i :: is) = o :: pick ops is := by simp only [pick, ho]
        rw [hp] at h
        unfold wpQuiet at h
        rw [show fuel + (i :: is).length = (fuel + is.length) + 1 from rfl]
        by_cases hw : Region.wanted o (yielded ops a.tmps) = true
        · rw [if_pos hw] at h
          obtain ⟨v, hv, hn⟩ := h
          refine wpAnyH_take ho hs hb.1.2 hb.2 (fun c a w h => (hQ c _ w h).elim) (.inl ⟨hw, fun x hx => ?_⟩) hL (seg_sound hL hs hQ hK is _ _ ht hn)
          have h1 := hv x ⟨⟨x, hx⟩, rfl⟩
          unfold Oper.quietAt at h1
          cases hr : (execOp a.eval o).run P x with
          | ok n w' =>
            obtain ⟨u, rfl⟩ := isVal_run hb.1.1 hr
            rw [hr] at h1
            obtain ⟨e1, e2⟩ := h1
            rw [e1, e2]
          | halt y w' => rw [hr] at h1; exact h1.elim
        · rw [if_neg hw] at h
          exact wpAnyH_take ho hs hb.1.2 hb.2 (fun c a w h => (hQ c _ w h).elim) (.inr ⟨by simpa using hw, rfl⟩) hL (seg_sound hL hs hQ hK is _ _ ht h)
      · cases ht

theorem segs_sound {L : World → World → Prop} (hL : ∀ w, L w w) (hT : ∀ u v w, L u v → L v w → L u w) (hs : Region.noSelect ops = true) (hQ : ∀ c a w, ¬ Q (.panic c) a w) :
    ∀ (segs : List (List Nat × Nat)) (last : List Nat) (l : Array Bool) (a : Act) (w : World), segsOk ops segs last l = true → wpSegs P ops L (fun a w => Q .normal a w) segs last a w → wpAnyH P .any ops Q (L w) (total segs last) l a w
  | [], last, l, a, w, hok, h => by
    unfold segsOk at hok
    split at hok
    · cases hok
    · rename_i l' ht
      have := seg_sound (fuel := 0) (hL w) hs hQ (K := fun a' => Q .normal a' w) (fun a' hk => wpAnyH_done (by simpa using hok) hk 0) last l a ht h
      simpa [total] using this
  | (seg, i) :: more, last, l, a, w, hok, h => by
    unfold segsOk at hok
    split at hok
    · cases hok
    · rename_i l' ht
      simp only [Bool.and_eq_true, beq_iff_eq] at hok
      unfold wpSegs at h
      have := seg_sound (fuel := total more last + 1) (hL w) hs hQ (K := fun a' => callAt P ops L i (wpSegs P ops L (fun a w => Q .normal a w) more last) a' w) (fun a' hk => by
        refine wpAnyH_all hok.1 (by simp) (fun j hj => ?_)
        obtain rfl := List.mem_singleton.1 hj
        unfold callAt at hk
        unfold wpOp
        cases ho : ops[j]? with
        | none => rw [ho] at hk; exact hk.elim
        | some o =>
          rw [ho] at hk
          simp only at hk ⊢
          by_cases hw : Region.wanted o (yielded ops a'.tmps) = true
          · rw [if_pos hw] at hk ⊢
            refine .inl ?_
            unfold Oper.wp at hk ⊢
            generalize (execOp a'.eval o).run P w = r at hk ⊢
            have step : ∀ a2 w2, (L w w2 ∧ wpSegs P ops L (fun a w => Q .normal a w) more last a2 w2) → (L w w2 ∧ wpAnyH P .any ops Q (L w) (total more last) (l'.setIfInBounds j true) a2 w2) := fun a2 w2 ⟨h1, h2⟩ =>
              ⟨h1, wpAnyH_mono (fun x hx => hT _ _ _ h1 hx) _ _ _ _ (segs_sound hL hT hs hQ more last _ a2 w2 hok.2 h2)⟩
            cases r with
            | ok n w' =>
              cases n <;> simp only [Oper.upon] at hk ⊢
              case value u => exact step _ _ hk
              case skip => exact step _ _ hk
              case defer d => exact step _ _ hk
              case enter f args =>
                refine Calls.mono hk fun e w'' he => ?_
                cases e with
                | returned u => exact step _ _ he
                | panicked c => exact he.elim
                | outgrown => obtain ⟨_, _, he⟩ := he; exact he.elim
              case row row args => exact Rows.mono hk fun u w'' he => step _ _ he
            | halt x w' => cases x <;> simp only [Oper.upon] at hk
          · rw [if_neg hw] at hk ⊢
            exact ⟨hL w, segs_sound hL hT hs hQ more last _ _ w hok.2 hk⟩) seg l a ht h
      rw [show total ((seg, i) :: more) last = total more last + 1 + seg.length by simp [total]; omega]
      exact this
end

/-- Q at a way's plain end alone. -/
def Plain (Q : Exit → Act → World → Prop) : Exit → Act → World → Prop
  | .normal, a, w => Q .normal a w
  | _, _, _ => False

/-- **THE LAW.** -/
theorem wp_region_segs (L : World → World → Prop) (hL : ∀ w, L w w) (hT : ∀ u v w, L u v → L v w → L u w) (segs : List (List Nat × Nat)) (last : List Nat)
    {P : Program} {id : Nat} {Q : Exit → Act → World → Prop} {a : Act} {w : World} {ops : Array Oper} (hm : P.follows .mixedOrders = true)
    (hok : (Region.noSelect ops && segsOk ops segs last (Array.replicate ops.size false) && total segs last == ops.size) = true)
    (h : wpSegs P ops L (fun a w => Q .normal a w) segs last a w.drew) : (Code.region id ops true).wp P Q a w := by
  simp only [Bool.and_eq_true, beq_iff_eq] at hok
  have h1 : (Code.region id ops true).wp P (Plain Q) a w := by
    refine wp_region_held (S := L w.drew) hm ?_
    have := segs_sound (Q := Plain Q) hL hT hok.1.1 (fun _ _ _ h => h) segs last _ a w.drew hok.1.2 h
    rw [hok.2] at this
    exact this
  exact Code.wp_mono (fun e a w h => by cases e <;> first | exact h | exact h.elim) h1

theorem wpSegs_nil {P : Program} {ops : Array Oper} {L : World → World → Prop} {Q : Act → World → Prop} {last : List Nat} {a : Act} {w : World} : wpSegs P ops L Q [] last a w = wpQuiet P ops (fun w' => ∃ t : Cls (L w), w' = t.val) (fun a' => Q a' w) (pick ops last) a := rfl
theorem wpSegs_cons {P : Program} {ops : Array Oper} {L : World → World → Prop} {Q : Act → World → Prop} {seg : List Nat} {i : Nat} {more : List (List Nat × Nat)} {last : List Nat} {a : Act} {w : World} :
    wpSegs P ops L Q ((seg, i) :: more) last a w = wpQuiet P ops (fun w' => ∃ t : Cls (L w), w' = t.val) (fun a' => callAt P ops L i (wpSegs P ops L Q more last) a' w) (pick ops seg) a := rfl
theorem callAt_eq {P : Program} {ops : Array Oper} {L : World → World → Prop} {i : Nat} {next : Act → World → Prop} {a : Act} {w : World} :
    callAt P ops L i next a w = (match ops[i]? with | none => False | some o => if Region.wanted o (yielded ops a.tmps) then o.wp P a w (fun a' w' => L w w' ∧ next a' w') (fun _ _ _ => False) else next (a.put o.dst undef) w) := rfl
/-- The operation is carried out: its end behind a variable. -/
theorem wp_behind {P : Program} {o : Oper} {N : Act → World → Prop} {a : Act} {w : World}
    (h : ∀ K : Act → World → Prop, Hid (∀ a' w', N a' w' → K a' w') → o.wp P a w K (fun _ _ _ => False)) : o.wp P a w N (fun _ _ _ => False) :=
  h _ (fun _ _ h => h)

/-- A later world: every block that was there is as it was. -/
def Later (w x : World) : Prop := Below w.heap.size w x
theorem Later.refl (w : World) : Later w w := Below.refl _ _
theorem Later.trans (u v w : World) (h : Later u v) (k : Later v w) : Later u w := Below.trans h (Below.mono k h.size)
theorem cls_nonempty (w : World) : Nonempty (Cls (Later w)) := ⟨⟨w, Later.refl w⟩⟩
/-- A cell that is there, in every later world. -/
theorem cls_cell {w : World} {p : Addr} {v : Value} (h : w.cell? p = some v) (t : Cls (Later w)) : t.val.cell? p = some v := by
  have hl := World.block_lt_of_cell? w p h
  have hb : Below w.heap.size w t.val := t.ok
  rw [hb.cell hl]; exact h

/-- A schedule: what yields a value is taken as soon as it may come up; else what alone may come up. -/
def plan (ops : Array Oper) : Nat → Array Bool → List Nat → List (List Nat × Nat) × List Nat
  | 0, _, acc => ([], acc.reverse)
  | n + 1, l, acc =>
    let rs := Region.ready .any ops l
    match rs.find? fun i => ((ops[i]?).map isVal).getD false && Region.free .any ops l i with
    | some i => plan ops n (l.setIfInBounds i true) (i :: acc)
    | none => match rs with
      | i :: _ => let r := plan ops n (l.setIfInBounds i true) []; ((acc.reverse, i) :: r.1, r.2)
      | [] => ([], acc.reverse)
end Go.Flow

namespace Go.Proofs.YtcpennlojjlpaaaGreatDoor
open Go.RowKit Go.Nr

abbrev i64 (n : Int) : Value := .int .i64 n
/-- The cells of ranges. -/
def flat (l : List Rg) : List Value := l.flatMap fun r => [i64 r.1, i64 r.2]
theorem flat_nil : flat [] = [] := rfl
theorem flat_cons (r : Rg) (l : List Rg) : flat (r :: l) = i64 r.1 :: i64 r.2 :: flat l := rfl
theorem flat_append (a b : List Rg) : flat (a ++ b) = flat a ++ flat b := by simp [flat]
theorem flat_one (r : Rg) : flat [r] = [i64 r.1, i64 r.2] := rfl
theorem flat_length : ∀ l : List Rg, (flat l).length = l.length * 2
  | [] => rfl
  | r :: l => by rw [flat_cons]; simp [flat_length l]; omega
theorem flat_at : ∀ (l : List Rg) (j : Nat) (r : Rg), l[j]? = some r → (flat l)[j * 2]? = some (i64 r.1) ∧ (flat l)[j * 2 + 1]? = some (i64 r.2)
  | [], j, r, h => by simp at h
  | q :: l, 0, r, h => by simp at h; subst h; exact ⟨rfl, rfl⟩
  | q :: l, j + 1, r, h => by
    have := flat_at l j r (by simpa using h)
    rw [flat_cons, show (j + 1) * 2 = j * 2 + 1 + 1 by omega]
    exact this
theorem flat_inv : ∀ (l : List Rg) (t : Nat) (v : Value), (flat l)[t]? = some v → ∃ j r, l[j]? = some r ∧ ((t = j * 2 ∧ v = i64 r.1) ∨ (t = j * 2 + 1 ∧ v = i64 r.2))
  | [], t, v, h => by simp [flat] at h
  | q :: l, 0, v, h => ⟨0, q, rfl, .inl ⟨rfl, by rw [flat_cons] at h; simpa using h.symm⟩⟩
  | q :: l, 1, v, h => ⟨0, q, rfl, .inr ⟨rfl, by rw [flat_cons] at h; simpa using h.symm⟩⟩
  | q :: l, t + 2, v, h => by
    obtain ⟨j, r, hj, hh⟩ := flat_inv l t v (by rw [flat_cons] at h; simpa using h)
    refine ⟨j + 1, r, by simpa using hj, ?_⟩
    rcases hh with ⟨a, b⟩ | ⟨a, b⟩
    · exact .inl ⟨by omega, b⟩
    · exact .inr ⟨by omega, b⟩
theorem flat_one' (l : List Rg) : ∀ u ∈ flat l, u.oneCell' = true := by
  intro u hu
  obtain ⟨r, _, hr⟩ := List.mem_flatMap.1 hu
  simp at hr
  rcases hr with rfl | rfl <;> rfl
theorem flat_set_last (p : List Rg) (a b c : Int) : (flat (p ++ [(a, b)])).set (p.length * 2 + 1) (i64 c) = flat (p ++ [(a, c)]) := by
  rw [flat_append, flat_append, List.set_append_right _ _ (by rw [flat_length]; omega), flat_length]
  rw [show p.length * 2 + 1 - p.length * 2 = 1 by omega]
  rfl
theorem flat_take (l : List Rg) (k : Nat) : (flat l).take (k * 2) = flat (l.take k) := by
  induction l generalizing k with
  | nil => simp [flat]
  | cons r l ih =>
    cases k with
    | zero => rfl
    | succ k => rw [show (k + 1) * 2 = k * 2 + 1 + 1 by omega, List.take_succ_cons, flat_cons, flat_cons, List.take_succ_cons, List.take_succ_cons, ih]

/-- The slice with the address A and as many elements as l has reads as l. -/
def RdR (w : World) (A : Option Addr) (l : List Rg) : Prop :=
  0 < l.length → ∃ b o, A = some ⟨b, o, none⟩ ∧ b < w.heap.size ∧ ∀ j r, l[j]? = some r → w.cell? ⟨b, o + j * 2, none⟩ = some (i64 r.1) ∧ w.cell? ⟨b, o + j * 2 + 1, none⟩ = some (i64 r.2)
theorem RdR.nil {w : World} {A : Option Addr} : RdR w A [] := fun h => absurd h (by simp)
theorem RdR.below {w w' : World} {A : Option Addr} {l : List Rg} (h : RdR w A l) (hb : Below w.heap.size w w') : RdR w' A l := fun hl => by
  obtain ⟨b, o, e, hlt, hc⟩ := h hl
  exact ⟨b, o, e, Nat.lt_of_lt_of_le hlt hb.size, fun j r hj => ⟨Below.cellv hb (hc j r hj).1, Below.cellv hb (hc j r hj).2⟩⟩
theorem RdR.at_ {w : World} {A : Option Addr} {l : List Rg} {k : Nat} (h : RdR w A l) (hk : k < l.length) : ∃ b o r, A = some ⟨b, o, none⟩ ∧ b < w.heap.size ∧ l[k]? = some r ∧ w.cell? ⟨b, o + k * 2, none⟩ = some (i64 r.1) ∧ w.cell? ⟨b, o + k * 2 + 1, none⟩ = some (i64 r.2) := by
  obtain ⟨b, o, e, hlt, hc⟩ := h (by omega)
  have hx : l[k]? = some l[k] := List.getElem?_eq_getElem hk
  exact ⟨b, o, l[k], e, hlt, hx, (hc k _ hx).1, (hc k _ hx).2⟩
theorem RdR.setCell {w : World} {A : Option Addr} {l : List Rg} {b i : Nat} (h : RdR w A l) (hne : ∀ a, A = some a → a.block ≠ b) (v : Value) : RdR (w.setCell ⟨b, i, none⟩ v) A l := fun hl => by
  obtain ⟨g, o, e, hlt, hc⟩ := h hl
  have hg : g ≠ b := hne _ e
  have hs : (w.setCell ⟨b, i, none⟩ v).heap[g]? = w.heap[g]? := blk_set_ne i v hg
  refine ⟨g, o, e, by simpa using hlt, fun j r hj => ?_⟩
  have := hc j r hj
  simp only [World.cell?, hs] at this ⊢
  exact this
theorem RdR.take {w : World} {A : Option Addr} {l : List Rg} (h : RdR w A l) (k : Nat) : RdR w A (l.take k) := fun hl => by
  obtain ⟨b, o, e, hlt, hc⟩ := h (by rw [List.length_take] at hl; omega)
  refine ⟨b, o, e, hlt, fun j r hj => hc j r ?_⟩
  rw [List.getElem?_take] at hj
  split at hj
  · exact hj
  · cases hj
/-- A row of the call's own reads as what it holds. -/
theorem RdR.of_own {w : World} {base n c : Nat} {e : TypeId} {A : Option Addr} {l : List Rg} (h : w.ownsRow base e 2 (.slice A n c) n (flat l)) : RdR w A l ∧ n = l.length ∧ n ≤ c := by
  obtain ⟨h1, h2⟩ := h
  have hn : n = l.length := by rw [flat_length] at h1; omega
  rcases h2 with ⟨e1, e2⟩ | ⟨g, cap, cur, e1, hb, hg, hcap, hml, hsz, ht⟩
  · injection e1 with a1 a2 a3
    subst a1
    exact ⟨fun hl => absurd hl (by omega), hn, by omega⟩
  · injection e1 with a1 a2 a3
    subst a1 a3
    refine ⟨fun hl => ⟨g, 0, rfl, blk_lt hg, fun j r hj => ?_⟩, hn, hcap⟩
    obtain ⟨f1, f2⟩ := flat_at l j r hj
    rw [Nat.zero_add, blk_cell hg, blk_cell hg]
    rw [← ht, List.getElem?_take] at f1 f2
    constructor
    · split at f1
      · simpa using f1
      · cases f1
    · split at f2
      · simpa using f2
      · cases f2
theorem own2_slice {w : World} {base n size : Nat} {e : TypeId} {v : Value} {xs : List Value} (h : w.ownsRow base e size v n xs) : ∃ A c, v = .slice A n c := by
  rcases h.2 with ⟨e1, e2⟩ | ⟨g, cap, cur, e1, _⟩
  · exact ⟨none, 0, by rw [e1, e2]⟩
  · exact ⟨_, cap, e1⟩
theorem own2_cap {w : World} {base n c size : Nat} {e : TypeId} {A : Option Addr} {xs : List Value} (h : w.ownsRow base e size (.slice A n c) n xs) : c ≤ maxLen := by
  rcases h.2 with ⟨e1, _⟩ | ⟨g, cap, cur, e1, _, _, _, hm, _⟩
  · cases e1; simp [maxLen]
  · cases e1; exact hm
/-- One range laid in a block of its own. -/
theorem RdR.one (w : World) (r : Rg) (t : TypeId) : RdR (w.alloc (.cells #[i64 r.1, i64 r.2] t)) (some ⟨w.heap.size, 0, none⟩) [r] := fun _ => by
  refine ⟨w.heap.size, 0, rfl, by simp, fun j q hj => ?_⟩
  have hj0 : j = 0 := by
    have := (List.getElem?_eq_some_iff.1 hj).1
    simp at this; exact this
  subst hj0
  simp at hj; subst hj
  rw [blk_cell (blk_new w _), blk_cell (blk_new w _)]
  exact ⟨rfl, rfl⟩

/-- Cells that a slice reads. -/
def RdC (w : World) (A : Option Addr) (xs : List Value) : Prop := 0 < xs.length → ∃ b o, A = some ⟨b, o, none⟩ ∧ ∀ j u, xs[j]? = some u → w.cell? ⟨b, o + j, none⟩ = some u
theorem RdR.cells {w : World} {A : Option Addr} {l : List Rg} (h : RdR w A l) : RdC w A (flat l) := fun hp => by
  rw [flat_length] at hp
  obtain ⟨b, o, e, _, hc⟩ := h (by omega)
  refine ⟨b, o, e, fun t u ht => ?_⟩
  obtain ⟨j, r, hj, hh⟩ := flat_inv l t u ht
  rcases hh with ⟨rfl, rfl⟩ | ⟨rfl, rfl⟩
  · exact (hc j r hj).1
  · rw [← Nat.add_assoc]; exact (hc j r hj).2
theorem addr_addN (b o j : Nat) : (⟨b, o, none⟩ : Addr).add j = ⟨b, o + j, none⟩ := by
  unfold Addr.add
  split
  · rename_i e; subst e; rfl
  · rfl
theorem new_cell (w : World) (cs : Array Value) (t : TypeId) (b j : Nat) (hb : b = w.heap.size) : (w.alloc (.cells cs t)).cell? ⟨b, j, none⟩ = cs[j]? := by
  subst hb; exact blk_cell (blk_new _ _) j
/-- The world behind a draw, laid open. -/
theorem laid_cell {w : World} {p : Addr} {v : Value} (h : w.cell? p = some v) (n : Nat) : ({ heap := w.heap, tape := w.tape, drawn := n, os := w.os, output := w.output } : World).cell? p = some v := h
theorem laid_free {w : World} {p : Addr} {f : Bool} (h : w.frozen? p = f) (n : Nat) : ({ heap := w.heap, tape := w.tape, drawn := n, os := w.os, output := w.output } : World).frozen? p = f := h
/-- append(v, s...): v a row of the call's own, s whatever slice: what is no block of v's own is as it was. -/
theorem run_appC {t E : TypeId} {i : TypeInfo} {z : Value} {size bytes : Nat} (ht : Tryz.prog.underlying t = some (.slice E)) (hi : Tryz.prog.info? E = some i) (hz0 : i.zero = some z) (hz1 : i.size = size) (hz2 : i.bytes = bytes) (hzs : z.cells.size = size) (hsz : 0 < size)
    (w : World) (ty : TypeId) (base : Nat) (v : Value) (n : Nat) (xs : List Value) (hown : w.ownsRow base E size v n xs) (A : Option Addr) (m c : Nat) (ys : List Value) (hm : ys.length = m * size) (hr : RdC w A ys) (h1 : ∀ u ∈ ys, u.oneCell' = true)
    (hlen : n + m ≤ 1000000000) (hby : bytes ≤ 1000) (hbase : base ≤ w.heap.size) :
    ∃ v' w', (Builtin.append_ #[t, t] ty #[v, .slice A m c]).run Tryz.prog w = .ok v' w' ∧ w'.ownsRow base E size v' (n + m) (xs ++ ys) ∧ w.grownBy w' v.ownBlock := by
  have hbb : (n + m) * bytes ≤ 140737488355328 := by
    have : (n + m) * bytes ≤ 1000000000 * 1000 := Nat.mul_le_mul hlen hby
    omega
  rcases A with _ | ad
  · have hy : ys = [] := by
      cases ys with
      | nil => rfl
      | cons a ys =>
        obtain ⟨b, o, e, _⟩ := hr (by simp)
        cases e
    subst hy
    have hm0 : m = 0 := by
      rcases Nat.eq_zero_or_pos m with h | h
      · exact h
      · have := Nat.mul_pos h hsz
        simp at hm; omega
    subst hm0
    refine ⟨v, w, ?_, by simpa using hown, ⟨rfl, rfl, rfl, Nat.le_refl _, fun _ _ _ => rfl⟩⟩
    rcases hown.2 with ⟨rfl, h0⟩ | ⟨g, cap, cur, rfl, _, _, hnc, _⟩
    · simp [Builtin.append_, run_underlying ht, sizeOf, typeInfo, hi, Builtin.lenOf, Builtin.firstCells]
    · simp [Builtin.append_, run_underlying ht, sizeOf, typeInfo, hi, Builtin.lenOf, Builtin.firstCells, hnc, storeCells]
  · obtain ⟨v', w', a1, a2, a3, _⟩ := run_append_own (P := Tryz.prog) w base t ty E i z size bytes ht hi hz0 hz1 hz2 hzs hsz v n xs hown ad m c ys hm (fun j u hu => by
      obtain ⟨b, o, e, hc⟩ := hr (by
        have := (List.getElem?_eq_some_iff.1 hu).1
        omega)
      cases e
      rw [addr_addN]; exact hc j u hu) h1 (by simp only [maxLen]; omega) hbb hbase
    exact ⟨v', w', a1, a2, a3⟩
/-- .. as an operation of the walk. -/
theorem wpList_appC {t E : TypeId} {i : TypeInfo} {z : Value} {size bytes : Nat} (ht : Tryz.prog.underlying t = some (.slice E)) (hi : Tryz.prog.info? E = some i) (hz0 : i.zero = some z) (hz1 : i.size = size) (hz2 : i.bytes = bytes) (hzs : z.cells.size = size) (hsz : 0 < size)
    (w : World) {ops : Array Oper} {rest : List Oper} {o : Oper} {a : Act} {Q : Exit → Act → World → Prop} (hgd : o.guard = none) (s x : Operand) (ho : o.op = .call { callee := .builtin .append, args := #[s, x], argTypes := #[t, t] })
    (base : Nat) (v : Value) (n : Nat) (xs : List Value) (hown : w.ownsRow base E size v n xs) (hs : a.eval s = v) (A : Option Addr) (m c : Nat) (ys : List Value) (hm : ys.length = m * size) (hr : RdC w A ys) (hx : a.eval x = .slice A m c) (h1 : ∀ u ∈ ys, u.oneCell' = true)
    (hlen : n + m ≤ 1000000000) (hby : bytes ≤ 1000) (hbase : base ≤ w.heap.size)
    (h : ∀ v' w', w'.ownsRow base E size v' (n + m) (xs ++ ys) → w.grownBy w' v.ownBlock → Below base w w' → wpList Tryz.prog ops Q rest (a.put o.dst v') w') : wpList Tryz.prog ops Q (o :: rest) a w := by
  refine wpList_plain hgd fun K hK => ?_
  obtain ⟨v', w', hrun, h2, h3⟩ := run_appC ht hi hz0 hz1 hz2 hzs hsz w o.type base v n xs hown A m c ys hm hr h1 hlen hby hbase
  unfold Oper.wp execOp
  simp only [ho, resolve, invoke, builtin, Sem.run_bind, Sem.run_pure, Result.andThen_ok, List.map_toArray, List.map_cons, List.map_nil, hs, hx, hrun]
  exact hK _ _ (h v' w' h2 h3 ((Below.refl base w).grown h3 hbase fun k hk => (hown.lt k hk).1))
/-- The empty row of the call's own: a block without cells. -/
theorem own2_empty (w : World) (N size : Nat) (E : TypeId) (hN : N ≤ w.heap.size) : (w.alloc (.cells #[] E)).ownsRow N E size (.slice (some ⟨w.heap.size, 0, none⟩) 0 0) 0 [] :=
  ⟨by simp, .inr ⟨w.heap.size, 0, #[], rfl, hN, blk_new w _, by simp, by simp [maxLen], by simp, by simp⟩⟩
theorem own2_nil (w : World) (N size : Nat) (E : TypeId) : w.ownsRow N E size (.slice none 0 0) 0 [] := ⟨by simp, .inl ⟨rfl, rfl⟩⟩
theorem rng_info : (Tryz.prog.info? 42).map (fun i => (i.zero, i.size, i.bytes)) = some (some (.agg #[i64 0, i64 0]), 2, 16) := by kernel_rfl
theorem rg_info : (Tryz.prog.info? 37).map (fun i => (i.zero, i.size, i.bytes)) = some (some (.agg #[i64 0, i64 0]), 2, 16) := by kernel_rfl
theorem own_grown_below {w w' : World} {base n size : Nat} {e : TypeId} {v : Value} {xs : List Value} (h : w.ownsRow base e size v n xs) (hb : base ≤ w.heap.size) (hg : w.grownBy w' v.ownBlock) : Below base w w' :=
  (Below.refl base w).grown hg hb fun k hk => (h.lt k hk).1
/-- A row of the call's own stays one while blocks elsewhere are laid or written. -/
theorem own_keep {w w' : World} {base n size : Nat} {e : TypeId} {v : Value} {xs : List Value} (h : w.ownsRow base e size v n xs) (hk : ∀ k, k < w.heap.size → v.ownBlock = some k → w'.heap[k]? = w.heap[k]?) : w'.ownsRow base e size v n xs := by
  refine ⟨h.1, ?_⟩
  rcases h.2 with hl | ⟨g, cap, cur, e1, hb, hg, hr⟩
  · exact .inl hl
  · exact .inr ⟨g, cap, cur, e1, hb, by rw [hk g (blk_lt hg) (by rw [e1]; rfl)]; exact hg, hr⟩
theorem own_below {w w' : World} {base n size : Nat} {e : TypeId} {v : Value} {xs : List Value} (h : w.ownsRow base e size v n xs) (hb : Below w.heap.size w w') : w'.ownsRow base e size v n xs := own_keep h fun k hk _ => hb.block k hk
end Go.Proofs.YtcpennlojjlpaaaGreatDoor
