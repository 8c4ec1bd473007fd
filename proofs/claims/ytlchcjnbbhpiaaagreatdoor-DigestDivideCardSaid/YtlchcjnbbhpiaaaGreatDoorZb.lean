/- Small laws that all walks of this seat share: a region that draws its order walked once in the order of the text, in a class of worlds; worlds that part in one old block alone.
   What the walks over slices of texts share: a slice that reads as a list of texts, the library's variable that a search reads.
   An append to a slice of texts of the call's own: one new text; the elements of a slice that is read.
   A region that draws its order and holds calls, walked once along a schedule of one's own: what yields a value and leaves the world alone is taken as early as it may come up, in every later world alike; a call is carried out where nothing else may come up. Of no program.
   The rest of a function's body behind its first statements, so that a long walk may be parted into theorems. Of no program.
   A map to bools that a call makes: the set of the keys that were stored with true; storing and looking up.
   Rows of cells of the call's own: what append leaves, what stays.
   Flow's law for a schedule that forks: two operations that change the world may come up in either order. Of no program.
   A region that draws its order, reads cells, calls, and at its end writes cells that it has read: walked once along a schedule. What reads is held as long as nothing of the tail has come up; the tail waits for it. Of no program.
   A map with keys and elements of any shape, as the list of its entries: made, stored, looked up, deleted from, ranged over.
   A law's frame, of no program: what was laid before a call that only lays new blocks reads behind it as it read before. -/
import Derived.Test.YtlchcjnbbhpiaaaGreatDoorProg
import Derived.WalkKit
import Derived.WalkSpells
import Derived.WalkLawsBesides
import Derived.Lib.Hide
import Derived.Deep.QuietTactic
import Derived.BigQuiet
import Derived.Laws.AppendOwn
import Derived.Deep.LoopGhost
import Derived.Deep.Draws
import Derived.OwnWalk
import Derived.OrdersHeld
import Derived.Maps.OwnSet
import Derived.Laws.Rows
import Derived.Deep.DeepCutAuto
import Derived.Deep.MidRow
import Derived.Deep.WholeRow
import Derived.Maps.RangeWalk
import Derived.DeepKeys4
import Derived.Below
import Derived.ReadAgain
import Derived.ChangeOld
import Derived.ChangeShapes
import Derived.OpenShut
namespace Go.Proofs.YtlchcjnbbhpiaaaGreatDoor
open Go.RowKit
/-- The worlds that meet S, as a type: its members are handed to the walk as variables. -/
structure Cls (S : World → Prop) where
 val : World
 ok : S val
/-- A region that draws its order, walked once in the order of the text, in the class of the worlds that meet S. -/
theorem wp_region_class (S : World → Prop) {P : Program} {id : Nat} {Q : Exit → Act → World → Prop} {a : Act} {w : World} {l : List Oper} (hm : P.follows .mixedOrders = true) (hB : Region.lexB .any l.toArray = true)
  (hS : S w.drew)
  (h : wpQuiet P l.toArray (fun w' => ∃ t : Cls S, w' = t.val) (fun a' => ∀ w', (∃ t : Cls S, w' = t.val) → Q .normal a' w') l a) : (Code.region id l.toArray true).wp P Q a w :=
 wp_region_quiet (C := fun w' => ∃ t : Cls S, w' = t.val) hm hB ⟨⟨_, hS⟩, rfl⟩ (by simpa using h)
/-- A callee's contract that lays blocks, in the class of the worlds that lie above W. -/
theorem Calls.class_below {W : World} {P : Program} {f : FuncId} {args : Array Value} {t : Cls (fun x => Below W.heap.size W x)} {v : Value}
  (h : Calls P f args t.val fun e w' => e = .returned v ∧ Below t.val.heap.size t.val w') : Calls P f args t.val fun e w'' => e = .returned v ∧ ∃ t' : Cls (fun x => Below W.heap.size W x), w'' = t'.val :=
 h.mono fun _ w' ⟨he, hw⟩ => ⟨he, ⟨w', t.ok.trans (hw.mono t.ok.size)⟩, rfl⟩
/-- A callee's contract that leaves the world alone, in a class. -/
theorem Calls.class_same {S : World → Prop} {P : Program} {f : FuncId} {args : Array Value} {t : Cls S} {v : Value}
  (h : Calls P f args t.val fun e w' => e = .returned v ∧ t.val = w') : Calls P f args t.val fun e w'' => e = .returned v ∧ ∃ t' : Cls S, w'' = t'.val :=
 h.mono fun _ _ ⟨he, hw⟩ => ⟨he, t, hw.symm⟩
/-- Every old block but b is as it was. -/
structure But (b : Nat) (w w' : World) : Prop where
 os : w'.os = w.os
 tape : w'.tape = w.tape
 output : w'.output = w.output
 size : w.heap.size ≤ w'.heap.size
 block : ∀ k, k < w.heap.size → k ≠ b → w'.heap[k]? = w.heap[k]?
theorem But.refl (b : Nat) (w : World) : But b w w := ⟨rfl, rfl, rfl, Nat.le_refl _, fun _ _ _ => rfl⟩
theorem But.trans {b : Nat} {u v w : World} (h : But b u v) (k : But b v w) : But b u w :=
 ⟨k.os.trans h.os, k.tape.trans h.tape, k.output.trans h.output, Nat.le_trans h.size k.size, fun i hi hb => (k.block i (Nat.lt_of_lt_of_le hi h.size) hb).trans (h.block i hi hb)⟩
theorem But.of_below {b : Nat} {u v : World} (h : Below u.heap.size u v) : But b u v := ⟨h.os, h.tape, h.output, h.size, fun i hi _ => h.block i hi⟩
theorem But.below {b B : Nat} {u v : World} (h : But b u v) (hB : B ≤ b) (hu : B ≤ u.heap.size) : Below B u v := ⟨h.os, h.tape, h.output, h.size, fun i hi => h.block i (by omega) (by omega)⟩
theorem But.drew {b : Nat} {u v : World} (h : But b u v) : But b u v.drew := ⟨h.os, h.tape, h.output, h.size, h.block⟩
theorem But.drewN {b : Nat} {u v : World} (n : Nat) (h : But b u v) : But b u (v.drewN n) := ⟨h.os, h.tape, h.output, h.size, h.block⟩
theorem But.setCell {b o : Nat} {u v : World} (h : But b u v) (x : Value) : But b u (v.setCell ⟨b, o, none⟩ x) :=
 ⟨h.os, h.tape, h.output, by have := h.size; simpa [World.setCell] using this, fun i hi hb => by rw [Below.heap_setCell _ _ _ _ hb]; exact h.block i hi hb⟩
theorem _root_.Go.RowKit.Below.drewN {B : Nat} {a w : World} (n : Nat) (h : Below B a w) : Below B a (w.drewN n) := ⟨h.os, h.tape, h.output, h.size, h.block⟩
theorem bcell {W w1 : World} (hb : Below W.heap.size W w1) : (∀ b o, b < W.heap.size → w1.cell? ⟨b, o, none⟩ = W.cell? ⟨b, o, none⟩) ∧ (∀ b o, b < W.heap.size → w1.frozen? ⟨b, o, none⟩ = W.frozen? ⟨b, o, none⟩) :=
 ⟨fun b o h => hb.cell (p := ⟨b, o, none⟩) h, fun b o h => hb.frozen (p := ⟨b, o, none⟩) h⟩
theorem blk_cell {w : World} {b : Nat} {cs : Array Value} {t : TypeId} {fr : Nat × Nat} (h : w.heap[b]? = some (.cells cs t fr)) (i : Nat) : w.cell? ⟨b, i, none⟩ = cs[i]? := by
 simp [World.cell?, h]
theorem blk_free {w : World} {b : Nat} {cs : Array Value} {t : TypeId} (h : w.heap[b]? = some (.cells cs t (0, 0))) (i : Nat) : w.frozen? ⟨b, i, none⟩ = false := by
 simp [World.frozen?, h]
theorem blk_lt {w : World} {b : Nat} {o : Obj} (h : w.heap[b]? = some o) : b < w.heap.size := by
 rcases Nat.lt_or_ge b w.heap.size with h' | h'
 ·exact h'
 ·rw [Array.getElem?_eq_none h'] at h; cases h
theorem blk_set {w : World} {b : Nat} {cs : Array Value} {t : TypeId} {fr : Nat × Nat} (h : w.heap[b]? = some (.cells cs t fr)) (i : Nat) (v : Value) : (w.setCell ⟨b, i, none⟩ v).heap[b]? = some (.cells (cs.setIfInBounds i v) t fr) := by
 simp [World.setCell, Array.getElem?_modify, h]
theorem blk_set_ne {w : World} {b c : Nat} (i : Nat) (v : Value) (hne : b ≠ c) : (w.setCell ⟨c, i, none⟩ v).heap[b]? = w.heap[b]? := Below.heap_setCell _ _ _ _ hne
theorem blk_new (w : World) (o : Obj) : (w.alloc o).heap[w.heap.size]? = some o := by
 show (w.heap.push o)[w.heap.size]? = _
 simp
theorem blk_old {w : World} {b : Nat} {x : Obj} (o : Obj) (h : w.heap[b]? = some x) : (w.alloc o).heap[b]? = some x := by
 rw [Below.heap_alloc _ _ _ (blk_lt h)]; exact h
theorem blk_below {w w' : World} {b : Nat} {x : Obj} (hb : Below w.heap.size w w') (h : w.heap[b]? = some x) : w'.heap[b]? = some x := by
 rw [hb.block b (blk_lt h)]; exact h
theorem blk_but {w w' : World} {b c : Nat} {x : Obj} (hb : But c w w') (hne : b ≠ c) (h : w.heap[b]? = some x) : w'.heap[b]? = some x := by
 rw [hb.block b (blk_lt h) hne]; exact h
theorem ret_bool {a b : Bool} (h : a = b) : Ending.returned (.bool a) = .returned (.bool b) := by rw [h]
theorem ret_int {k : IntKind} {a b : Int} (h : a = b) : Ending.returned (.int k a) = .returned (.int k b) := by rw [h]
theorem bcat (a b : List UInt8) : (⟨a.toArray⟩ : ByteArray) ++ ⟨b.toArray⟩ = ⟨(a ++ b).toArray⟩ := by
 apply ByteArray.ext; simp
theorem str_congr {a b : ByteArray} (h : a = b) : Value.string a = Value.string b := by rw [h]
theorem bget {t : List UInt8} {p : Nat} (h : p < (⟨t.toArray⟩ : ByteArray).size) (hp : p < t.length) : (⟨t.toArray⟩ : ByteArray)[p]'h = t.getD p 0 := by
 show t.toArray[p] = t.getD p 0
 simp [hp]
theorem _root_.Go.RowKit.Below.cellv {w w' : World} (h : Below w.heap.size w w') {p : Addr} {v : Value} (hv : w.cell? p = some v) : w'.cell? p = some v := by
 have hl := World.block_lt_of_cell? w p hv
 rw [h.cell hl]; exact hv
theorem _root_.Go.RowKit.Below.tr {u v w : World} (h : Below u.heap.size u v) (k : Below v.heap.size v w) : Below u.heap.size u w := h.trans (k.mono h.size)
/-- A text as a value. -/
abbrev enS (x : List UInt8) : Value := .string ⟨x.toArray⟩
/-- The slice with the address A and as many elements as xs has reads as xs. -/
def Rd (w : World) (A : Option Addr) (xs : List (List UInt8)) : Prop :=
 0 < xs.length → ∃ b o, A = some ⟨b, o, none⟩ ∧ b < w.heap.size ∧ ∀ j x, xs[j]? = some x → w.cell? ⟨b, o + j, none⟩ = some (enS x)
theorem Rd.below {w w' : World} {A : Option Addr} {xs : List (List UInt8)} (h : Rd w A xs) (hb : Below w.heap.size w w') : Rd w' A xs := fun hl => by
 obtain ⟨b, o, e, hlt, hc⟩ := h hl
 exact ⟨b, o, e, Nat.lt_of_lt_of_le hlt hb.size, fun j x hj => Below.cellv hb (hc j x hj)⟩
theorem Rd.at_ {w : World} {A : Option Addr} {xs : List (List UInt8)} {k : Nat} (h : Rd w A xs) (hk : k < xs.length) : ∃ b o x, A = some ⟨b, o, none⟩ ∧ b < w.heap.size ∧ xs[k]? = some x ∧ w.cell? ⟨b, o + k, none⟩ = some (enS x) := by
 obtain ⟨b, o, e, hlt, hc⟩ := h (by omega)
 exact ⟨b, o, xs[k], e, hlt, List.getElem?_eq_getElem hk, hc k _ (List.getElem?_eq_getElem hk)⟩
/-- A slice in memory of the call's own reads as what it holds. -/
theorem Rd.of_own {w : World} {base n c : Nat} {e : TypeId} {A : Option Addr} {xs : List (List UInt8)} (h : w.ownsRow base e 1 (.slice A n c) n (xs.map enS)) : Rd w A xs ∧ n = xs.length ∧ n ≤ c := by
 obtain ⟨h1, h2⟩ := h
 have hn : n = xs.length := by simpa using h1.symm
 rcases h2 with ⟨e1, e2⟩ | ⟨g, cap, cur, e1, hb, hg, hcap, hml, hsz, ht⟩
 ·injection e1 with a1 a2 a3
  subst a1
  refine ⟨fun hl => absurd hl (by omega), hn, by omega⟩
 ·injection e1 with a1 a2 a3
  subst a1 a3
  refine ⟨fun hl => ⟨g, 0, rfl, blk_lt hg, fun j x hj => ?_⟩, hn, hcap⟩
  rw [Nat.zero_add, blk_cell hg j]
  have hj' : (xs.map enS)[j]? = some (enS x) := by rw [List.getElem?_map, hj]; rfl
  rw [← ht, List.getElem?_take] at hj'
  split at hj'
  ·simpa using hj'
  ·cases hj'
/-- What the searches of texts read: a variable of the library's, whatever number it holds. -/
def Env (w : World) : Prop := ∃ m, w.cell? ⟨0, 0, none⟩ = some (.int .i64 m)
theorem str_info : (Tryz.prog.info? 9).map (fun i => (i.zero, i.size, i.bytes)) = some (some (.string ByteArray.empty), 1, 16) := by kernel_rfl
theorem texts_one (xs : List (List UInt8)) : ∀ u ∈ xs.map enS, u.oneCell' = true := by
 intro u hu
 obtain ⟨x, _, rfl⟩ := List.mem_map.1 hu
 rfl
theorem addr_add (b o j : Nat) : (⟨b, o, none⟩ : Addr).add j = ⟨b, o + j, none⟩ := by
 unfold Addr.add; split
 ·rename_i h; subst h; rfl
 ·rfl
/-- out = append(out, y). -/
theorem wpList_app1 (wr : World) {ops : Array Oper} {rest : List Oper} {o : Oper} {a : Act} {Q : Exit → Act → World → Prop} (hgd : o.guard = none) (s x : Operand)
  (ho : o.op = .call { callee := .builtin .append, args := #[s, x], argTypes := #[41, 41] })
  (base : Nat) (v : Value) (out : List (List UInt8)) (y : List UInt8) (hown : wr.ownsRow base 9 1 v out.length (out.map enS)) (hs : a.eval s = v) (hx : a.eval x = .slice (some ⟨wr.heap.size, 0, none⟩) 1 1)
  (hlen : out.length ≤ 1000000000) (hbase : base ≤ wr.heap.size)
  (h : ∀ v' w', w'.ownsRow base 9 1 v' (out ++ [y]).length ((out ++ [y]).map enS) → Below base wr w' → wpList Tryz.prog ops Q rest (a.put o.dst v') w') : wpList Tryz.prog ops Q (o :: rest) a (wr.alloc (.cells #[enS y] 9)) := by
 obtain ⟨i0, hi, hz0, hz1, hz2⟩ := info_parts str_info
 refine wpList_append_own (P := Tryz.prog) _ hgd s x 41 ho base 9 i0 (.string ByteArray.empty) 1 16 Tryz.underlying41 hi hz0 hz1 hz2 rfl (by decide) v out.length (out.map enS) hs (hown.alloc _) ⟨wr.heap.size, 0, none⟩ 1 1 [enS y] hx rfl ?_ ?_ ?_ ?_ ?_ ?_
 ·intro j u hu
  cases j with
  | zero =>
   simp only [List.getElem?_cons_zero, Option.some.injEq] at hu
   subst hu
   rw [addr_add, blk_cell (blk_new wr _)]; rfl
  | succ j => simp at hu
 ·exact texts_one [y]
 ·simp only [maxLen]; omega
 ·omega
 ·simp; omega
 ·intro v' w' h1 h2 _
  refine h v' w' (by simpa using h1) ?_
  refine (((Below.refl base wr).alloc hbase _).grown h2 (by simp; omega) ?_)
  intro k hk
  exact (hown.lt k hk).1
theorem below_new (w : World) (o : Obj) : Below w.heap.size w (w.alloc o) := (Below.refl _ _).alloc (Nat.le_refl _) o
end Go.Proofs.YtlchcjnbbhpiaaaGreatDoor
namespace Go.Flow
open Go.RowKit
/-- The worlds that meet S, as a type: its members are handed to the walk as variables. -/
structure Cls (S : World → Prop) where
 val : World
 ok : S val
/-- Operations that yield a value if they yield at all. -/
def isVal (o : Oper) : Bool :=
 match o.op with
 | .move _ | .assign _ | .pick .. | .load .. | .nilCheck _ | .binOp .. | .unOp .. | .convert .. | .slice .. | .fieldAddr .. | .field .. | .indexAddr .. | .index .. | .extract .. | .lookup .. | .build .. => true
 | .call { callee := .builtin b, .. } => match b with | .len | .cap | .max | .min => true | _ => false
 | _ => false
theorem run_v {s : Sem Value} {P : Program} {w : World} {n : Next} {w' : World} (h : (do let x ← s; pure (Next.value x) : Sem Next).run P w = .ok n w') : ∃ u, n = .value u := by
 simp at h
 cases hs : s.run P w with
 | ok x w1 => rw [hs] at h; simp [Result.andThen] at h; exact ⟨x, h.1.symm⟩
 | halt x w1 => rw [hs] at h; simp [Result.andThen] at h
theorem run_pure_v {x : Value} {P : Program} {w : World} {n : Next} {w' : World} (h : (pure (Next.value x) : Sem Next).run P w = .ok n w') : ∃ u, n = .value u := by
 simp at h; exact ⟨x, h.1.symm⟩
theorem andThen_ok_inv {α β : Type} {r : Result α} {f : α → World → Result β} {b : β} {w' : World} (h : r.andThen f = .ok b w') : ∃ x w1, r = .ok x w1 ∧ f x w1 = .ok b w' := by
 cases r with
 | ok x w1 => exact ⟨x, w1, rfl, by simpa [Result.andThen] using h⟩
 | halt x w1 => simp [Result.andThen] at h
theorem no_nil {P : Program} {w w' : World} {n : Next} (h : (runtimePanic .nilDeref : Sem Next).run P w = .ok n w') : False := by
 simp [runtimePanic, goPanic] at h
theorem isVal_run {ρ : Operand → Value} {o : Oper} {P : Program} {w w' : World} {n : Next} (hv : isVal o = true) (h : (execOp ρ o).run P w = .ok n w') : ∃ u, n = .value u := by
 unfold isVal at hv
 unfold execOp at h
 split at hv
 all_goals first | cases hv | skip
 all_goals rename_i heq
 all_goals simp only [heq] at h
 all_goals first
  | exact run_v h
  | exact run_pure_v h
  | skip
 ·rw [Sem.run_bind] at h
  obtain ⟨x, w1, _, h2⟩ := andThen_ok_inv h
  exact run_pure_v h2
 ·split at h
  ·exact (no_nil h).elim
  ·exact (no_nil h).elim
  ·exact (no_nil h).elim
  ·split at h
   ·exact (no_nil h).elim
   ·simp only [Sem.run_bind] at h
    obtain ⟨x, w1, _, h2⟩ := andThen_ok_inv h
    obtain ⟨y, w2, _, h3⟩ := andThen_ok_inv h2
    split at h3
    ·rw [Sem.run_bind] at h3
     obtain ⟨z, w3, _, h4⟩ := andThen_ok_inv h3
     exact run_pure_v h4
    ·exact run_pure_v h3
   ·exact run_pure_v h
  ·exact run_pure_v h
 ·simp only [resolve, Sem.run_bind, Sem.run_pure, Result.andThen_ok, invoke] at h
  split at hv
  all_goals first | cases hv | skip
  all_goals (simp only [builtin] at h; exact run_v h)
/-- The operations of these numbers. -/
def pick (ops : Array Oper) : List Nat → List Oper
 | [] => []
 | i :: is => match ops[i]? with
  | some o => o :: pick ops is
  | none => pick ops is
section
variable {P : Program} {ops : Array Oper} {Q : Exit → Act → World → Prop}
/-- What is asked of an operation that is carried out where nothing else may come up. -/
def callAt (P : Program) (ops : Array Oper) (L : World → World → Prop) (i : Nat) (next : Act → World → Prop) (a : Act) (w : World) : Prop :=
 match ops[i]? with
 | none => False
 | some o => if Region.wanted o (yielded ops a.tmps) then o.wp P a w (fun a' w' => L w w' ∧ next a' w') (fun _ _ _ => False) else next (a.put o.dst undef) w
/-- The walk along a schedule: quiet operations, one that is carried out, quiet ones, and so on. -/
def wpSegs (P : Program) (ops : Array Oper) (L : World → World → Prop) (Q : Act → World → Prop) : List (List Nat × Nat) → List Nat → Act → World → Prop
 | [], last, a, w => wpQuiet P ops (fun w' => ∃ t : Cls (L w), w' = t.val) (fun a' => Q a' w) (pick ops last) a
 | (seg, i) :: more, last, a, w => wpQuiet P ops (fun w' => ∃ t : Cls (L w), w' = t.val) (fun a' => callAt P ops L i (wpSegs P ops L Q more last) a' w) (pick ops seg) a
/-- Every operation of a list may be taken first when its turn comes. -/
def takeAll (ops : Array Oper) : List Nat → Array Bool → Option (Array Bool)
 | [], l => some l
 | i :: is, l => match ops[i]? with
  | none => none
  | some o => if isVal o && Region.free .any ops l i && (Region.ready .any ops l).contains i then takeAll ops is (l.setIfInBounds i true) else none
def segsOk (ops : Array Oper) : List (List Nat × Nat) → List Nat → Array Bool → Bool
 | [], last, l => match takeAll ops last l with
  | none => false
  | some l' => (Region.ready .any ops l').isEmpty
 | (seg, i) :: more, last, l => match takeAll ops seg l with
  | none => false
  | some l' => (Region.ready .any ops l' == [i]) && segsOk ops more last (l'.setIfInBounds i true)
def total : List (List Nat × Nat) → List Nat → Nat
 | [], last => last.length
 | (seg, _) :: more, last => seg.length + 1 + total more last
theorem wpAnyH_mono {md : Region.Mode} {S S' : World → Prop} (h : ∀ w, S w → S' w) : ∀ (fuel : Nat) (listed : Array Bool) (a : Act) (w : World), wpAnyH P md ops Q S fuel listed a w → wpAnyH P md ops Q S' fuel listed a w
 | 0, _, _, _, hh => hh
 | fuel + 1, _, _, _, hh => ⟨hh.1, fun i hi => wpOp_mono (fun a' w' h' => ⟨h _ h'.1, wpAnyH_mono h fuel _ a' w' h'.2⟩) (hh.2 i hi)⟩
theorem seg_sound {L : World → World → Prop} {w : World} (hL : L w w) (hs : Region.noSelect ops = true) (hQ : ∀ c a w, ¬ Q (.panic c) a w) {K : Act → Prop} {fuel : Nat} {l' : Array Bool}
  (hK : ∀ a', K a' → wpAnyH P .any ops Q (L w) fuel l' a' w) : ∀ (is : List Nat) (l : Array Bool) (a : Act), takeAll ops is l = some l' →
   wpQuiet P ops (fun w' => ∃ t : Cls (L w), w' = t.val) K (pick ops is) a → wpAnyH P .any ops Q (L w) (fuel + is.length) l a w
 | [], l, a, ht, h => by
  simp only [takeAll, Option.some.injEq] at ht
  subst ht
  exact hK a h
 | i :: is, l, a, ht, h => by
  unfold takeAll at ht
  split at ht
  ·cases ht
  ·rename_i o ho
   split at ht
   ·rename_i hb
    simp only [Bool.and_eq_true] at hb
    have hp : pick ops (i :: is) = o :: pick ops is := by simp only [pick, ho]
    rw [hp] at h
    unfold wpQuiet at h
    rw [show fuel + (i :: is).length = (fuel + is.length) + 1 from rfl]
    by_cases hw : Region.wanted o (yielded ops a.tmps) = true
    ·rw [if_pos hw] at h
     obtain ⟨v, hv, hn⟩ := h
     refine wpAnyH_take ho hs hb.1.2 hb.2 (fun c a w h => (hQ c _ w h).elim) (.inl ⟨hw, fun x hx => ?_⟩) hL (seg_sound hL hs hQ hK is _ _ ht hn)
     have h1 := hv x ⟨⟨x, hx⟩, rfl⟩
     unfold Oper.quietAt at h1
     cases hr : (execOp a.eval o).run P x with
     | ok n w' =>
      obtain ⟨u, rfl⟩ := isVal_run hb.1.1 hr
      rw [hr] at h1
      obtain ⟨e1, e2⟩ := h1
      rw [e1, e2]
     | halt y w' => rw [hr] at h1; exact h1.elim
    ·rw [if_neg hw] at h
     exact wpAnyH_take ho hs hb.1.2 hb.2 (fun c a w h => (hQ c _ w h).elim) (.inr ⟨by simpa using hw, rfl⟩) hL (seg_sound hL hs hQ hK is _ _ ht h)
   ·cases ht
theorem segs_sound {L : World → World → Prop} (hL : ∀ w, L w w) (hT : ∀ u v w, L u v → L v w → L u w) (hs : Region.noSelect ops = true) (hQ : ∀ c a w, ¬ Q (.panic c) a w) :
  ∀ (segs : List (List Nat × Nat)) (last : List Nat) (l : Array Bool) (a : Act) (w : World), segsOk ops segs last l = true → wpSegs P ops L (fun a w => Q .normal a w) segs last a w → wpAnyH P .any ops Q (L w) (total segs last) l a w
 | [], last, l, a, w, hok, h => by
  unfold segsOk at hok
  split at hok
  ·cases hok
  ·rename_i l' ht
   have := seg_sound (fuel := 0) (hL w) hs hQ (K := fun a' => Q .normal a' w) (fun a' hk => wpAnyH_done (by simpa using hok) hk 0) last l a ht h
   simpa [total] using this
 | (seg, i) :: more, last, l, a, w, hok, h => by
  unfold segsOk at hok
  split at hok
  ·cases hok
  ·rename_i l' ht
   simp only [Bool.and_eq_true, beq_iff_eq] at hok
   unfold wpSegs at h
   have := seg_sound (fuel := total more last + 1) (hL w) hs hQ (K := fun a' => callAt P ops L i (wpSegs P ops L (fun a w => Q .normal a w) more last) a' w) (fun a' hk => by
    refine wpAnyH_all hok.1 (by simp) (fun j hj => ?_)
    obtain rfl := List.mem_singleton.1 hj
    unfold callAt at hk
    unfold wpOp
    cases ho : ops[j]? with
    | none => rw [ho] at hk; exact hk.elim
    | some o =>
     rw [ho] at hk
     simp only at hk ⊢
     by_cases hw : Region.wanted o (yielded ops a'.tmps) = true
     ·rw [if_pos hw] at hk ⊢
      refine .inl ?_
      unfold Oper.wp at hk ⊢
      generalize (execOp a'.eval o).run P w = r at hk ⊢
      have step : ∀ a2 w2, (L w w2 ∧ wpSegs P ops L (fun a w => Q .normal a w) more last a2 w2) → (L w w2 ∧ wpAnyH P .any ops Q (L w) (total more last) (l'.setIfInBounds j true) a2 w2) := fun a2 w2 ⟨h1, h2⟩ =>
       ⟨h1, wpAnyH_mono (fun x hx => hT _ _ _ h1 hx) _ _ _ _ (segs_sound hL hT hs hQ more last _ a2 w2 hok.2 h2)⟩
      cases r with
      | ok n w' =>
       cases n <;> simp only [Oper.upon] at hk ⊢
       case value u => exact step _ _ hk
       case skip => exact step _ _ hk
       case defer d => exact step _ _ hk
       case enter f args =>
        refine Calls.mono hk fun e w'' he => ?_
        cases e with
        | returned u => exact step _ _ he
        | panicked c => exact he.elim
        | outgrown => obtain ⟨_, _, he⟩ := he; exact he.elim
       case row row args => exact Rows.mono hk fun u w'' he => step _ _ he
      | halt x w' => cases x <;> simp only [Oper.upon] at hk
     ·rw [if_neg hw] at hk ⊢
      exact ⟨hL w, segs_sound hL hT hs hQ more last _ _ w hok.2 hk⟩) seg l a ht h
   rw [show total ((seg, i) :: more) last = total more last + 1 + seg.length by simp [total]; omega]
   exact this
end
/-- Q at a way's plain end alone. -/
def Plain (Q : Exit → Act → World → Prop) : Exit → Act → World → Prop
 | .normal, a, w => Q .normal a w
 | _, _, _ => False
/-- **THE LAW.** -/
theorem wp_region_segs (L : World → World → Prop) (hL : ∀ w, L w w) (hT : ∀ u v w, L u v → L v w → L u w) (segs : List (List Nat × Nat)) (last : List Nat)
  {P : Program} {id : Nat} {Q : Exit → Act → World → Prop} {a : Act} {w : World} {ops : Array Oper} (hm : P.follows .mixedOrders = true)
  (hok : (Region.noSelect ops && segsOk ops segs last (Array.replicate ops.size false) && total segs last == ops.size) = true)
  (h : wpSegs P ops L (fun a w => Q .normal a w) segs last a w.drew) : (Code.region id ops true).wp P Q a w := by
 simp only [Bool.and_eq_true, beq_iff_eq] at hok
 have h1 : (Code.region id ops true).wp P (Plain Q) a w := by
  refine wp_region_held (S := L w.drew) hm ?_
  have := segs_sound (Q := Plain Q) hL hT hok.1.1 (fun _ _ _ h => h) segs last _ a w.drew hok.1.2 h
  rw [hok.2] at this
  exact this
 exact Code.wp_mono (fun e a w h => by cases e <;> first | exact h | exact h.elim) h1
theorem wpSegs_nil {P : Program} {ops : Array Oper} {L : World → World → Prop} {Q : Act → World → Prop} {last : List Nat} {a : Act} {w : World} : wpSegs P ops L Q [] last a w = wpQuiet P ops (fun w' => ∃ t : Cls (L w), w' = t.val) (fun a' => Q a' w) (pick ops last) a := rfl
theorem wpSegs_cons {P : Program} {ops : Array Oper} {L : World → World → Prop} {Q : Act → World → Prop} {seg : List Nat} {i : Nat} {more : List (List Nat × Nat)} {last : List Nat} {a : Act} {w : World} :
  wpSegs P ops L Q ((seg, i) :: more) last a w = wpQuiet P ops (fun w' => ∃ t : Cls (L w), w' = t.val) (fun a' => callAt P ops L i (wpSegs P ops L Q more last) a' w) (pick ops seg) a := rfl
theorem callAt_eq {P : Program} {ops : Array Oper} {L : World → World → Prop} {i : Nat} {next : Act → World → Prop} {a : Act} {w : World} :
  callAt P ops L i next a w = (match ops[i]? with | none => False | some o => if Region.wanted o (yielded ops a.tmps) then o.wp P a w (fun a' w' => L w w' ∧ next a' w') (fun _ _ _ => False) else next (a.put o.dst undef) w) := rfl
/-- The operation is carried out: its end behind a variable. -/
theorem wp_behind {P : Program} {o : Oper} {N : Act → World → Prop} {a : Act} {w : World}
  (h : ∀ K : Act → World → Prop, Hid (∀ a' w', N a' w' → K a' w') → o.wp P a w K (fun _ _ _ => False)) : o.wp P a w N (fun _ _ _ => False) :=
 h _ (fun _ _ h => h)
/-- A later world: every block that was there is as it was. -/
def Later (w x : World) : Prop := Below w.heap.size w x
theorem Later.refl (w : World) : Later w w := Below.refl _ _
theorem Later.trans (u v w : World) (h : Later u v) (k : Later v w) : Later u w := Below.trans h (Below.mono k h.size)
theorem cls_nonempty (w : World) : Nonempty (Cls (Later w)) := ⟨⟨w, Later.refl w⟩⟩
/-- A cell that is there, in every later world. -/
theorem cls_cell {w : World} {p : Addr} {v : Value} (h : w.cell? p = some v) (t : Cls (Later w)) : t.val.cell? p = some v := by
 have hl := World.block_lt_of_cell? w p h
 have hb : Below w.heap.size w t.val := t.ok
 rw [hb.cell hl]; exact h
def restO : Nat → Option Code → Option Code
 | 0, c => c
 | n + 1, some (.seq _ b) => restO n (some b)
 | _ + 1, _ => none
/-- A function's body without its first n statements. -/
def rest (n : Nat) (f : Func) : Code := (restO n f.body).getD .skip
theorem wp_rest {n : Nat} {f : Func} {c : Code} {P : Program} {Q : Exit → Act → World → Prop} {a : Act} {w : World} (h : restO n f.body = some c) (H : c.wp P Q a w) : (rest n f).wp P Q a w := by
 unfold rest; rw [h]; exact H
theorem wp_of_rest {n : Nat} {f : Func} {c : Code} {P : Program} {Q : Exit → Act → World → Prop} {a : Act} {w : World} (h : restO n f.body = some c) (H : (rest n f).wp P Q a w) : c.wp P Q a w := by
 unfold rest at H; rw [h] at H; exact H
end Go.Flow
namespace Go.Proofs.YtlchcjnbbhpiaaaGreatDoor
open Go.Maps
/-- A key's datum stands on a list. -/
def onL (ks : List Lit) (k : Lit) : Bool := ks.any fun x => x.sameKey k
theorem onL_iff {ks : List Lit} (h : ∀ x ∈ ks, WideAt.IsKeyLit x) (k : Lit) : onL ks k = true ↔ k ∈ ks := by
 unfold onL
 rw [List.any_eq_true]
 constructor
 ·rintro ⟨x, hx, e⟩
  rw [← WideAt.sameKey_eq e]; exact hx
 ·intro hk
  exact ⟨k, hk, WideAt.sameKey_self (h k hk)⟩
theorem at_fold (u z : DataW Unit) (k : Lit) : ∀ (acc : List Lit) (m : DataW Unit), IsMap m → (∀ x ∈ acc, WideAt.IsKeyLit x) → (acc.foldl (fun m x => m.put x u) m).atKey k z = if onL acc k then u else m.atKey k z
 | [], m, _, _ => by simp [onL]
 | x :: r, m, hm, h => by
  rw [List.foldl_cons, at_fold u z k r (m.put x u) (hm.put x u) (fun y hy => h y (by simp [hy]))]
  unfold onL
  rw [List.any_cons]
  by_cases e : k = x
  ·subst e
   rw [atKey_put_same hm (h k (by simp)), WideAt.sameKey_self (h k (by simp))]
   simp
  ·rw [atKey_put_other e, sameKey_ne (fun e' => e e'.symm)]
   simp
theorem at_setOf (u z : DataW Unit) (k : Lit) (acc : List Lit) (h : ∀ x ∈ acc, WideAt.IsKeyLit x) : (setOf u acc).atKey k z = if onL acc k then u else z := by
 rw [setOf, at_fold u z k acc _ isMap_empty h]
 rfl
/-- Block b is a map to bools of just the keys ks, each with true. -/
def MapB (P : Program) (k e : TypeId) (w : World) (b : Nat) (ks : List Lit) : Prop := (∀ x ∈ ks, WideAt.IsKeyLit x) ∧ w.ownsMap (H := Unit) P k (plainElem P e) b ks.length (setOf (.lit (.bool true)) ks)
theorem MapB.made (P : Program) (k e : TypeId) (w : World) : MapB P k e (w.alloc (.map #[] 0)) w.heap.size [] := ⟨by simp, World.ownsMap_made w P k _⟩
theorem MapB.lt {P : Program} {k e : TypeId} {w : World} {b : Nat} {ks : List Lit} (h : MapB P k e w b ks) : b < w.heap.size := h.2.lt
theorem MapB.keep {P : Program} {k e : TypeId} {w w' : World} {b : Nat} {ks : List Lit} (h : MapB P k e w b ks) (e1 : w'.heap[b]? = w.heap[b]?) : MapB P k e w' b ks := by
 obtain ⟨es, clock, hb, r⟩ := h.2
 exact ⟨h.1, es, clock, e1.trans hb, r⟩
theorem MapB.below {P : Program} {k e : TypeId} {w w' : World} {b : Nat} {ks : List Lit} (h : MapB P k e w b ks) (hb : RowKit.Below w.heap.size w w') : MapB P k e w' b ks := h.keep (hb.block b h.lt)
theorem plainElem_bool_inv {P : Program} {e : TypeId} (he : P.underlying e = some .bool) {v : Value} {z : DataW Unit × List MemPlace} (h : plainElem P e v = some z) : ∃ x : Bool, v = .bool x ∧ z = (.lit (.bool x), []) := by
 unfold plainElem at h
 rw [he] at h
 cases v <;> simp at h
 exact ⟨_, rfl, h.symm⟩
variable {P : Program} (w : World) {ops : Array Oper} {rest : List Oper} {o : Oper} {a : Act} {Q : Exit → Act → World → Prop}
/-- A look-up of the walk. -/
theorem wpList_lookup_b (hg : o.guard = none) (m x : Operand) (t : TypeId) (hop : o.op = Op.lookup t m x false)
  (k e : TypeId) (K : Keyed P k) (ht : P.underlying t = some (.map k e)) (he : P.underlying e = some .bool) (hz : (zeroValue e).run P w = .ok (.bool false) w) (b : Nat) (ks : List Lit)
  (hm : a.eval m = .map (some b)) (hown : MapB P k e w b ks) (key : Value) (kl : Lit) (hx : a.eval x = key) (hkey : keyOf P k key = some kl)
  (hK : wpList P ops Q rest (a.put o.dst (.bool (onL ks kl))) w) : wpList P ops Q (o :: rest) a w := by
 refine wpList_plain hg fun K' hK' => ?_
 obtain ⟨v, ps, hrun, hv⟩ := hown.2.lookup K ht hz (plainElem_bool he false) hkey
 obtain ⟨c, rfl, hc⟩ := plainElem_bool_inv he hv
 simp only [Prod.mk.injEq] at hc
 have hc1 := hc.1
 rw [at_setOf _ _ _ _ hown.1] at hc1
 have e1 : c = onL ks kl := by
  cases hq : onL ks kl <;> rw [hq] at hc1 <;> simp at hc1 <;> rw [hc1]
 rw [← e1] at hK
 unfold Oper.wp
 simp [execOp, hop, hm, hx, hrun, Result.andThen]
 exact hK' _ _ hK
/-- A store of true. -/
theorem wpList_mapUpdate_b (hg : o.guard = none) (m x v : Operand) (t : TypeId) (hop : o.op = Op.mapUpdate t m x v)
  (k e : TypeId) (K : Keyed P k) (ht : P.underlying t = some (.map k e)) (he : P.underlying e = some .bool) (b : Nat) (ks : List Lit)
  (hm : a.eval m = .map (some b)) (hown : MapB P k e w b ks) (hn : ks.length < maxLen) (key : Value) (kl : Lit) (hx : a.eval x = key) (hv : a.eval v = .bool true) (hkey : keyOf P k key = some kl) (hkl : WideAt.IsKeyLit kl)
  (hK : ∀ w', MapB P k e w' b (ks ++ [kl]) → w.grownBy w' (some b) → wpList P ops Q rest (a.put o.dst undef) w') : wpList P ops Q (o :: rest) a w :=
 wpList_mapUpdate_own w hg m x v t hop k e K ht (plainElem P e) b ks.length _ hm hown.2 hn key (.bool true) kl hx hv hkey (.lit (.bool true)) [] (plainElem_bool he true) fun w' h1 h2 => hK w' ⟨fun y hy => by
  rcases List.mem_append.1 hy with hy | hy
  ·exact hown.1 y hy
  ·simp at hy; rw [hy]; exact hkl, by
  rw [setOf_snoc, List.length_append]; exact h1⟩ h2
open Go.RowKit
theorem own2_slice {w : World} {base n size : Nat} {e : TypeId} {v : Value} {xs : List Value} (h : w.ownsRow base e size v n xs) : ∃ A c, v = .slice A n c := by
 rcases h.2 with ⟨e1, e2⟩ | ⟨g, cap, cur, e1, _⟩
 ·exact ⟨none, 0, by rw [e1, e2]⟩
 ·exact ⟨_, cap, e1⟩
theorem own2_cap {w : World} {base n c size : Nat} {e : TypeId} {A : Option Addr} {xs : List Value} (h : w.ownsRow base e size (.slice A n c) n xs) : c ≤ maxLen := by
 rcases h.2 with ⟨e1, _⟩ | ⟨g, cap, cur, e1, _, _, _, hm, _⟩
 ·cases e1; simp [maxLen]
 ·cases e1; exact hm
/-- Cells that a slice reads. -/
def RdC (w : World) (A : Option Addr) (xs : List Value) : Prop := 0 < xs.length → ∃ b o, A = some ⟨b, o, none⟩ ∧ ∀ j u, xs[j]? = some u → w.cell? ⟨b, o + j, none⟩ = some u
theorem addr_addN (b o j : Nat) : (⟨b, o, none⟩ : Addr).add j = ⟨b, o + j, none⟩ := by
 unfold Addr.add
 split
 ·rename_i e; subst e; rfl
 ·rfl
theorem new_cell (w : World) (cs : Array Value) (t : TypeId) (b j : Nat) (hb : b = w.heap.size) : (w.alloc (.cells cs t)).cell? ⟨b, j, none⟩ = cs[j]? := by
 subst hb; exact blk_cell (blk_new _ _) j
/-- append(v, s...): v a row of the call's own, s whatever slice: what is no block of v's own is as it was. -/
theorem run_appC {t E : TypeId} {i : TypeInfo} {z : Value} {size bytes : Nat} (ht : Tryz.prog.underlying t = some (.slice E)) (hi : Tryz.prog.info? E = some i) (hz0 : i.zero = some z) (hz1 : i.size = size) (hz2 : i.bytes = bytes) (hzs : z.cells.size = size) (hsz : 0 < size)
  (w : World) (ty : TypeId) (base : Nat) (v : Value) (n : Nat) (xs : List Value) (hown : w.ownsRow base E size v n xs) (A : Option Addr) (m c : Nat) (ys : List Value) (hm : ys.length = m * size) (hr : RdC w A ys) (h1 : ∀ u ∈ ys, u.oneCell' = true)
  (hlen : n + m ≤ 1000000000) (hby : bytes ≤ 1000) (hbase : base ≤ w.heap.size) :
  ∃ v' w', (Builtin.append_ #[t, t] ty #[v, .slice A m c]).run Tryz.prog w = .ok v' w' ∧ w'.ownsRow base E size v' (n + m) (xs ++ ys) ∧ w.grownBy w' v.ownBlock := by
 have hbb : (n + m) * bytes ≤ 140737488355328 := by
  have : (n + m) * bytes ≤ 1000000000 * 1000 := Nat.mul_le_mul hlen hby
  omega
 rcases A with _ | ad
 ·have hy : ys = [] := by
   cases ys with
   | nil => rfl
   | cons a ys =>
    obtain ⟨b, o, e, _⟩ := hr (by simp)
    cases e
  subst hy
  have hm0 : m = 0 := by
   rcases Nat.eq_zero_or_pos m with h | h
   ·exact h
   ·have := Nat.mul_pos h hsz
    simp at hm; omega
  subst hm0
  refine ⟨v, w, ?_, by simpa using hown, ⟨rfl, rfl, rfl, Nat.le_refl _, fun _ _ _ => rfl⟩⟩
  rcases hown.2 with ⟨rfl, h0⟩ | ⟨g, cap, cur, rfl, _, _, hnc, _⟩
  ·simp [Builtin.append_, run_underlying ht, sizeOf, typeInfo, hi, Builtin.lenOf, Builtin.firstCells]
  ·simp [Builtin.append_, run_underlying ht, sizeOf, typeInfo, hi, Builtin.lenOf, Builtin.firstCells, hnc, storeCells]
 ·obtain ⟨v', w', a1, a2, a3, _⟩ := run_append_own (P := Tryz.prog) w base t ty E i z size bytes ht hi hz0 hz1 hz2 hzs hsz v n xs hown ad m c ys hm (fun j u hu => by
   obtain ⟨b, o, e, hc⟩ := hr (by
    have := (List.getElem?_eq_some_iff.1 hu).1
    omega)
   cases e
   rw [addr_addN]; exact hc j u hu) h1 (by simp only [maxLen]; omega) hbb hbase
  exact ⟨v', w', a1, a2, a3⟩
/-- .. as an operation of the walk. -/
theorem wpList_appC {t E : TypeId} {i : TypeInfo} {z : Value} {size bytes : Nat} (ht : Tryz.prog.underlying t = some (.slice E)) (hi : Tryz.prog.info? E = some i) (hz0 : i.zero = some z) (hz1 : i.size = size) (hz2 : i.bytes = bytes) (hzs : z.cells.size = size) (hsz : 0 < size)
  (w : World) {ops : Array Oper} {rest : List Oper} {o : Oper} {a : Act} {Q : Exit → Act → World → Prop} (hgd : o.guard = none) (s x : Operand) (ho : o.op = .call { callee := .builtin .append, args := #[s, x], argTypes := #[t, t] })
  (base : Nat) (v : Value) (n : Nat) (xs : List Value) (hown : w.ownsRow base E size v n xs) (hs : a.eval s = v) (A : Option Addr) (m c : Nat) (ys : List Value) (hm : ys.length = m * size) (hr : RdC w A ys) (hx : a.eval x = .slice A m c) (h1 : ∀ u ∈ ys, u.oneCell' = true)
  (hlen : n + m ≤ 1000000000) (hby : bytes ≤ 1000) (hbase : base ≤ w.heap.size)
  (h : ∀ v' w', w'.ownsRow base E size v' (n + m) (xs ++ ys) → w.grownBy w' v.ownBlock → Below base w w' → wpList Tryz.prog ops Q rest (a.put o.dst v') w') : wpList Tryz.prog ops Q (o :: rest) a w := by
 refine wpList_plain hgd fun K hK => ?_
 obtain ⟨v', w', hrun, h2, h3⟩ := run_appC ht hi hz0 hz1 hz2 hzs hsz w o.type base v n xs hown A m c ys hm hr h1 hlen hby hbase
 unfold Oper.wp execOp
 simp only [ho, resolve, invoke, builtin, Sem.run_bind, Sem.run_pure, Result.andThen_ok, List.map_toArray, List.map_cons, List.map_nil, hs, hx, hrun]
 exact hK _ _ (h v' w' h2 h3 ((Below.refl base w).grown h3 hbase fun k hk => (hown.lt k hk).1))
/-- The empty row of the call's own: a block without cells. -/
theorem own2_empty (w : World) (N size : Nat) (E : TypeId) (hN : N ≤ w.heap.size) : (w.alloc (.cells #[] E)).ownsRow N E size (.slice (some ⟨w.heap.size, 0, none⟩) 0 0) 0 [] :=
 ⟨by simp, .inr ⟨w.heap.size, 0, #[], rfl, hN, blk_new w _, by simp, by simp [maxLen], by simp, by simp⟩⟩
theorem own2_nil (w : World) (N size : Nat) (E : TypeId) : w.ownsRow N E size (.slice none 0 0) 0 [] := ⟨by simp, .inl ⟨rfl, rfl⟩⟩
/-- A row of the call's own stays one while blocks elsewhere are laid or written. -/
theorem own_keep {w w' : World} {base n size : Nat} {e : TypeId} {v : Value} {xs : List Value} (h : w.ownsRow base e size v n xs) (hk : ∀ k, k < w.heap.size → v.ownBlock = some k → w'.heap[k]? = w.heap[k]?) : w'.ownsRow base e size v n xs := by
 refine ⟨h.1, ?_⟩
 rcases h.2 with hl | ⟨g, cap, cur, e1, hb, hg, hr⟩
 ·exact .inl hl
 ·exact .inr ⟨g, cap, cur, e1, hb, by rw [hk g (blk_lt hg) (by rw [e1]; rfl)]; exact hg, hr⟩
theorem own_below {w w' : World} {base n size : Nat} {e : TypeId} {v : Value} {xs : List Value} (h : w.ownsRow base e size v n xs) (hb : Below w.heap.size w w') : w'.ownsRow base e size v n xs := own_keep h fun k hk _ => hb.block k hk
section
variable {P : Program} {ops : Array Oper} {rest : List Oper} {op : Oper} {a : Act} {w : World} {Q : Exit → Act → World → Prop}
/-- Many cells into the block that was made last. -/
theorem wpList_store_new (hgd : op.guard = none) (ty : TypeId) (x y : Operand) (ho : op.op = .store ty x y) (c : Array Value) (cells : Array Value) (hx : a.eval x = .pointer (some ⟨w.heap.size, 0, none⟩)) (hy : a.eval y = .agg cells)
  (hi : (P.info? ty).map (·.size) = some cells.size) (hs : c.size = cells.size) (h1 : cells.all (·.oneCell') = true) (h : wpList P ops Q rest (a.put op.dst undef) (w.alloc (.cells cells ty))) : wpList P ops Q (op :: rest) a (w.alloc (.cells c ty)) :=
 wpList_plain hgd fun _ hK => by
  unfold Oper.wp execOp
  simp only [ho, hx, hy, Sem.run_bind, Sem.run_pure, run_storeAt_new (P := P) w ty c cells hi hs h1, Result.andThen_ok]
  exact hK _ _ h
end
theorem range_blk {w : World} {b : Nat} {cs : List Value} {t : TypeId} {fr : Nat × Nat} (h : w.heap[b]? = some (.cells cs.toArray t fr)) : w.rangeAt b 0 cs := fun j v hv => by
 rw [Nat.zero_add, blk_cell h j]; simpa using hv
section
variable {P : Program} {ops : Array Oper} {C : World → Prop} {Q : Act → Prop} {a : Act} {o : Oper} {rest : List Oper}
/-- A load of many cells in a quiet walk. -/
theorem quiet_load_mid {K : Act → Prop} (ty : TypeId) (x : Operand) (ho : o.op = .load ty x) (b i : Nat) (hx : a.eval x = .pointer (some ⟨b, i, none⟩)) (cs : List Value) (d : TypeDesc) (hc : ∀ w, C w → w.rangeAt b i cs)
  (hu : P.underlying ty = some d) (hd : d.isRow = true) (hi : (P.info? ty).map (·.size) = some cs.length) (hk : K (a.put o.dst (.agg cs.toArray))) : o.quiet P a C K :=
 ⟨_, fun w hw => by
  unfold Oper.quietAt execOp
  simp only [ho, hx, Instr.loadAt, Instr.sureAddr, Sem.run_bind, Sem.run_pure, Result.andThen_ok, run_loadVar_mid w b i ty cs d (hc w hw) hu hd hi]
  exact ⟨rfl, rfl⟩, hk⟩
end
theorem range_below {w w' : World} {b o : Nat} {cs : List Value} (h : w.rangeAt b o cs) (hb : Below w.heap.size w w') : w'.rangeAt b o cs := fun j v hv => Below.cellv hb (h j v hv)
end Go.Proofs.YtlchcjnbbhpiaaaGreatDoor
namespace Go.Flow
open Go.RowKit
/-- A schedule: quiet operations and the end · quiet ones, then one that is carried out · quiet ones, then two that may come up, whichever comes first. -/
inductive Sched where
 | done (last : List Nat)
 | step (seg : List Nat) (i : Nat) (s : Sched)
 | fork (seg : List Nat) (i j : Nat) (s1 s2 : Sched)
def wpSched (P : Program) (ops : Array Oper) (L : World → World → Prop) (Q : Act → World → Prop) : Sched → Act → World → Prop
 | .done last, a, w => wpQuiet P ops (fun w' => ∃ t : Cls (L w), w' = t.val) (fun a' => Q a' w) (pick ops last) a
 | .step seg i s, a, w => wpQuiet P ops (fun w' => ∃ t : Cls (L w), w' = t.val) (fun a' => callAt P ops L i (wpSched P ops L Q s) a' w) (pick ops seg) a
 | .fork seg i j s1 s2, a, w => wpQuiet P ops (fun w' => ∃ t : Cls (L w), w' = t.val) (fun a' => callAt P ops L i (wpSched P ops L Q s1) a' w ∧ callAt P ops L j (wpSched P ops L Q s2) a' w) (pick ops seg) a
def schedOk (ops : Array Oper) : Sched → Nat → Array Bool → Bool
 | .done last, n, l => match takeAll ops last l with
  | none => false
  | some l' => (Region.ready .any ops l').isEmpty && n == last.length
 | .step seg i s, n, l => match takeAll ops seg l with
  | none => false
  | some l' => (Region.ready .any ops l' == [i]) && decide (seg.length + 1 ≤ n) && schedOk ops s (n - (seg.length + 1)) (l'.setIfInBounds i true)
 | .fork seg i j s1 s2, n, l => match takeAll ops seg l with
  | none => false
  | some l' => (Region.ready .any ops l' == [i, j]) && decide (seg.length + 1 ≤ n) && schedOk ops s1 (n - (seg.length + 1)) (l'.setIfInBounds i true) && schedOk ops s2 (n - (seg.length + 1)) (l'.setIfInBounds j true)
section
variable {P : Program} {ops : Array Oper} {Q : Exit → Act → World → Prop}
theorem callAt_sound {L : World → World → Prop} (hL : ∀ w, L w w) (hT : ∀ u v w, L u v → L v w → L u w) {j fuel : Nat} {l : Array Bool} {next : Act → World → Prop} {a : Act} {w : World}
  (hnext : ∀ a2 w2, next a2 w2 → wpAnyH P .any ops Q (L w2) fuel l a2 w2) (hk : callAt P ops L j next a w) :
  wpOp P ops Q j (fun a' w' => L w w' ∧ wpAnyH P .any ops Q (L w) fuel l a' w') a w := by
 unfold callAt at hk
 unfold wpOp
 cases ho : ops[j]? with
 | none => rw [ho] at hk; exact hk.elim
 | some o =>
  rw [ho] at hk
  simp only at hk ⊢
  have step : ∀ a2 w2, (L w w2 ∧ next a2 w2) → (L w w2 ∧ wpAnyH P .any ops Q (L w) fuel l a2 w2) := fun a2 w2 ⟨h1, h2⟩ =>
   ⟨h1, wpAnyH_mono (fun x hx => hT _ _ _ h1 hx) _ _ _ _ (hnext a2 w2 h2)⟩
  by_cases hw : Region.wanted o (yielded ops a.tmps) = true
  ·rw [if_pos hw] at hk ⊢
   refine .inl ?_
   unfold Oper.wp at hk ⊢
   generalize (execOp a.eval o).run P w = r at hk ⊢
   cases r with
   | ok n w' =>
    cases n <;> simp only [Oper.upon] at hk ⊢
    case value u => exact step _ _ hk
    case skip => exact step _ _ hk
    case defer d => exact step _ _ hk
    case enter f args =>
     refine Calls.mono hk fun e w'' he => ?_
     cases e with
     | returned u => exact step _ _ he
     | panicked c => exact he.elim
     | outgrown => obtain ⟨_, _, he⟩ := he; exact he.elim
    case row row args => exact Rows.mono hk fun u w'' he => step _ _ he
   | halt x w' => cases x <;> simp only [Oper.upon] at hk
  ·rw [if_neg hw] at hk ⊢
   exact step _ _ ⟨hL w, hk⟩
theorem sched_sound {L : World → World → Prop} (hL : ∀ w, L w w) (hT : ∀ u v w, L u v → L v w → L u w) (hs : Region.noSelect ops = true) (hQ : ∀ c a w, ¬ Q (.panic c) a w) :
  ∀ (s : Sched) (n : Nat) (l : Array Bool) (a : Act) (w : World), schedOk ops s n l = true → wpSched P ops L (fun a w => Q .normal a w) s a w → wpAnyH P .any ops Q (L w) n l a w
 | .done last, n, l, a, w, hok, h => by
  unfold schedOk at hok
  split at hok
  ·cases hok
  ·rename_i l' ht
   simp only [Bool.and_eq_true, beq_iff_eq] at hok
   have := seg_sound (fuel := 0) (hL w) hs hQ (K := fun a' => Q .normal a' w) (fun a' hk => wpAnyH_done (by simpa using hok.1) hk 0) last l a ht h
   rw [Nat.zero_add, ← hok.2] at this
   exact this
 | .step seg i s, n, l, a, w, hok, h => by
  unfold schedOk at hok
  split at hok
  ·cases hok
  ·rename_i l' ht
   simp only [Bool.and_eq_true, beq_iff_eq, decide_eq_true_eq] at hok
   unfold wpSched at h
   have := seg_sound (fuel := n - (seg.length + 1) + 1) (hL w) hs hQ (K := fun a' => callAt P ops L i (wpSched P ops L (fun a w => Q .normal a w) s) a' w) (fun a' hk => by
    refine wpAnyH_all hok.1.1 (by simp) (fun j hj => ?_)
    obtain rfl := List.mem_singleton.1 hj
    exact callAt_sound hL hT (fun a2 w2 h2 => sched_sound hL hT hs hQ s _ _ a2 w2 hok.2 h2) hk) seg l a ht h
   rw [show n - (seg.length + 1) + 1 + seg.length = n by omega] at this
   exact this
 | .fork seg i j s1 s2, n, l, a, w, hok, h => by
  unfold schedOk at hok
  split at hok
  ·cases hok
  ·rename_i l' ht
   simp only [Bool.and_eq_true, beq_iff_eq, decide_eq_true_eq] at hok
   unfold wpSched at h
   have := seg_sound (fuel := n - (seg.length + 1) + 1) (hL w) hs hQ (K := fun a' => callAt P ops L i (wpSched P ops L (fun a w => Q .normal a w) s1) a' w ∧ callAt P ops L j (wpSched P ops L (fun a w => Q .normal a w) s2) a' w) (fun a' hk => by
    refine wpAnyH_all hok.1.1.1 (by simp) (fun k hk2 => ?_)
    rcases List.mem_cons.1 hk2 with e | e
    ·rw [e]; exact callAt_sound hL hT (fun a2 w2 h2 => sched_sound hL hT hs hQ s1 _ _ a2 w2 hok.1.2 h2) hk.1
    ·rw [List.mem_singleton.1 e]; exact callAt_sound hL hT (fun a2 w2 h2 => sched_sound hL hT hs hQ s2 _ _ a2 w2 hok.2 h2) hk.2) seg l a ht h
   rw [show n - (seg.length + 1) + 1 + seg.length = n by omega] at this
   exact this
end
/-- **THE LAW, FOR A SCHEDULE THAT FORKS.** -/
theorem wp_region_sched (L : World → World → Prop) (hL : ∀ w, L w w) (hT : ∀ u v w, L u v → L v w → L u w) (s : Sched)
  {P : Program} {id : Nat} {Q : Exit → Act → World → Prop} {a : Act} {w : World} {ops : Array Oper} (hm : P.follows .mixedOrders = true)
  (hok : (Region.noSelect ops && schedOk ops s ops.size (Array.replicate ops.size false)) = true)
  (h : wpSched P ops L (fun a w => Q .normal a w) s a w.drew) : (Code.region id ops true).wp P Q a w := by
 simp only [Bool.and_eq_true] at hok
 have h1 : (Code.region id ops true).wp P (Plain Q) a w := by
  refine wp_region_held (S := L w.drew) hm ?_
  exact sched_sound (Q := Plain Q) hL hT hok.1 (fun _ _ _ h => h) s _ _ a w.drew hok.2 h
 exact Code.wp_mono (fun e a w h => by cases e <;> first | exact h | exact h.elim) h1
theorem wpSched_done {P : Program} {ops : Array Oper} {L : World → World → Prop} {Q : Act → World → Prop} {last : List Nat} {a : Act} {w : World} : wpSched P ops L Q (.done last) a w = wpQuiet P ops (fun w' => ∃ t : Cls (L w), w' = t.val) (fun a' => Q a' w) (pick ops last) a := rfl
theorem wpSched_step {P : Program} {ops : Array Oper} {L : World → World → Prop} {Q : Act → World → Prop} {seg : List Nat} {i : Nat} {s : Sched} {a : Act} {w : World} :
  wpSched P ops L Q (.step seg i s) a w = wpQuiet P ops (fun w' => ∃ t : Cls (L w), w' = t.val) (fun a' => callAt P ops L i (wpSched P ops L Q s) a' w) (pick ops seg) a := rfl
theorem wpSched_fork {P : Program} {ops : Array Oper} {L : World → World → Prop} {Q : Act → World → Prop} {seg : List Nat} {i j : Nat} {s1 s2 : Sched} {a : Act} {w : World} :
  wpSched P ops L Q (.fork seg i j s1 s2) a w = wpQuiet P ops (fun w' => ∃ t : Cls (L w), w' = t.val) (fun a' => callAt P ops L i (wpSched P ops L Q s1) a' w ∧ callAt P ops L j (wpSched P ops L Q s2) a' w) (pick ops seg) a := rfl
/-- k waits for i. -/
def waits (ops : Array Oper) (k i : Nat) : Bool := match ops[k]? with
 | none => false
 | some o => o.after.any fun e => Region.binds .any e && e.on == i
section
variable {P : Program} {ops : Array Oper} {Q : Exit → Act → World → Prop}
/-- Whatever order is picked from here on; S holds behind each operation until one of the tail has come up. -/
def wpAnyT (P : Program) (ops : Array Oper) (Q : Exit → Act → World → Prop) (KS : List Nat) (S : World → Prop) : Nat → Array Bool → Act → World → Prop
 | 0, l, a, w => Region.ready .any ops l = [] ∧ Q .normal a w
 | f + 1, l, a, w => (Region.ready .any ops l = [] → Q .normal a w) ∧ ∀ i ∈ Region.ready .any ops l,
   (KS.contains i = true → wpOp P ops Q i (fun a' w' => wpAnyH P .any ops Q (fun _ => True) f (l.setIfInBounds i true) a' w') a w) ∧
   (KS.contains i = false → wpOp P ops Q i (fun a' w' => S w' ∧ wpAnyT P ops Q KS S f (l.setIfInBounds i true) a' w') a w)
theorem wpAny_of_tail {KS : List Nat} {S : World → Prop} : ∀ (f : Nat) (l : Array Bool) (a : Act) (w : World), wpAnyT P ops Q KS S f l a w → wpAnyH P .any ops Q (fun _ => True) f l a w
 | 0, _, _, _, h => h
 | f + 1, l, a, w, h => ⟨h.1, fun i hi => by
   cases hk : KS.contains i with
   | true => exact wpOp_mono (fun _ _ h' => ⟨trivial, h'⟩) ((h.2 i hi).1 hk)
   | false => exact wpOp_mono (fun a' w' h' => ⟨trivial, wpAny_of_tail f _ a' w' h'.2⟩) ((h.2 i hi).2 hk)⟩
theorem wpAnyT_mono {KS : List Nat} {S S' : World → Prop} (hS : ∀ w, S w → S' w) : ∀ (f : Nat) (l : Array Bool) (a : Act) (w : World), wpAnyT P ops Q KS S f l a w → wpAnyT P ops Q KS S' f l a w
 | 0, _, _, _, h => h
 | f + 1, _, _, _, h => ⟨h.1, fun i hi => ⟨fun hk => (h.2 i hi).1 hk, fun hk => wpOp_mono (fun a' w' h' => ⟨hS _ h'.1, wpAnyT_mono hS f _ a' w' h'.2⟩) ((h.2 i hi).2 hk)⟩⟩
/-- Only the tail may come up. -/
theorem wpAnyT_tail {KS : List Nat} {S : World → Prop} {f : Nat} {l : Array Bool} {a : Act} {w : World} (hr : ∀ i ∈ Region.ready .any ops l, KS.contains i = true) (h : wpAnyH P .any ops Q (fun _ => True) f l a w) : wpAnyT P ops Q KS S f l a w := by
 cases f with
 | zero => exact h
 | succ f => exact ⟨h.1, fun i hi => ⟨fun _ => wpOp_mono (fun _ _ h' => h'.2) (h.2 i hi), fun hk => by rw [hr i hi] at hk; cases hk⟩⟩
theorem waits_spec {k i : Nat} (h : waits ops k i = true) {l : Array Bool} (hi : l.getD i false = false) : k ∉ Region.ready .any ops l := by
 intro hk
 obtain ⟨_, o, ho, hall⟩ := mem_ready.1 hk
 unfold waits at h
 rw [ho] at h
 obtain ⟨e, he, hb⟩ := Array.any_eq_true'.1 h
 simp only [Bool.and_eq_true, beq_iff_eq] at hb
 have := hall e he hb.1
 rw [hb.2, hi] at this
 cases this
/-- An operation that may come up now is taken first: what it yields is the same in every world that meets T; the tail waits for it, or every world meets T. -/
theorem wpAnyT_first {KS : List Nat} {S T : World → Prop} (hST : ∀ w, S w → T w) {i : Nat} {oi : Oper} {v : Value} (hi : ops[i]? = some oi) (hs : Region.noSelect ops = true) (hQ : ∀ c a w, ¬ Q (.panic c) a w) (hik : KS.contains i = false)
  (hw : (∀ k, KS.contains k = true → waits ops k i = true) ∨ ∀ w, T w) :
  ∀ (f : Nat) (l : Array Bool) (a : Act) (w : World), Region.free .any ops l i = true → i ∈ Region.ready .any ops l → YieldsIf P ops T oi v a → S w →
   wpAnyT P ops Q KS S f (l.setIfInBounds i true) (a.put oi.dst v) w → wpAnyT P ops Q KS S (f + 1) l a w := by
 have hsel := Region.noSelect_spec hs
 have hQ' : ∀ c a w, Q (.panic c) (a.put oi.dst v) w → Q (.panic c) a w := fun c a w h => (hQ c _ w h).elim
 intro f
 induction f with
 | zero =>
  intro l a w _ hr hy hS H
  refine ⟨fun h => (by rw [h] at hr; cases hr), fun j hj => ?_⟩
  by_cases hji : j = i
  ·subst hji
   exact ⟨(fun hk => by rw [hik] at hk; cases hk), fun _ => hy.wpOp hi (hST w hS) ⟨hS, H⟩⟩
  ·have := ready_mono hj hji
   rw [H.1] at this
   cases this
 | succ f ih =>
  intro l a w hfree hr hy hS H
  refine ⟨fun h => (by rw [h] at hr; cases hr), fun j hj => ?_⟩
  by_cases hji : j = i
  ·subst hji
   exact ⟨(fun hk => by rw [hik] at hk; cases hk), fun _ => hy.wpOp hi (hST w hS) ⟨hS, H⟩⟩
  ·have h1 := H.2 j (ready_mono hj hji)
   obtain ⟨hjun, oj, hoj, hall⟩ := mem_ready.1 hj
   have h0 := (mem_ready.1 hr).1
   have hif : l.getD i false = false := by
    rcases Nat.lt_or_ge i l.size with h' | h'
    ·simpa [h'] using h0
    ·simp [Array.getElem?_eq_none h']
   have hnot : ∀ e ∈ oj.after, Region.binds .any e = true → e.on ≠ i := fun e he hb heq => by
    have h1 := hall e he hb
    rw [heq, hif] at h1
    cases h1
   have hap := Region.free_spec hi hfree j oj hoj hji hjun hnot
   have hfree' : Region.free .any ops (l.setIfInBounds j true) i = true := by
    unfold Region.free at hfree ⊢
    rw [hi] at hfree ⊢
    simp only [List.all_eq_true] at hfree ⊢
    intro x hx
    have := hfree x hx
    simp only [Bool.or_eq_true] at this ⊢
    rcases this with (h | h) | h
    ·exact .inl (.inl h)
    ·refine .inl (.inr ?_)
     by_cases hjx : j = x
     ·subst hjx; rw [hjun] at h; cases h
     ·rw [getD_set_ne true hjx]; exact h
    ·exact .inr h
   constructor
   ·intro hk
    rcases hw with hw | hw
    ·exact absurd hj (waits_spec (hw j hk) hif)
    ·have h2 := wpOp_putIf hoj hap (fun cs b => hsel i oi cs b hi) (fun cs b => hsel j oj cs b hoj) hQ' hy (h1.1 hk)
     refine wpOp_mono (fun a' w' h3 => ?_) h2
     have hy3 : YieldsIf P ops (fun _ => True) oi v a' := h3.1.imp (fun ⟨g1, g2⟩ => ⟨g1, fun x _ => g2 x (hw x)⟩) id
     refine wpAnyH_take hi hs hfree' (by simpa using ready_mono hr (Ne.symm hji)) hQ' hy3 trivial ?_
     rw [Array.setIfInBounds_comm _ _ hji]
     exact h3.2
   ·intro hk
    have h2 := wpOp_putIf hoj hap (fun cs b => hsel i oi cs b hi) (fun cs b => hsel j oj cs b hoj) hQ' hy (h1.2 hk)
    refine wpOp_mono (fun a' w' h3 => ⟨h3.2.1, ih (l.setIfInBounds j true) a' w' hfree' (ready_mono hr (Ne.symm hji)) h3.1 h3.2.1 ?_⟩) h2
    rw [Array.setIfInBounds_comm _ _ hji]
    exact h3.2.2
/-- A schedule with a tail: operations that read, for which the tail waits · operations that look at no world · one that is carried out · the tail. -/
inductive Pre where
 | held (seg : List Nat) (s : Pre)
 | pure (seg : List Nat) (s : Pre)
 | call (i : Nat) (s : Pre)
 | tail (s : Sched)
def wpPre (P : Program) (ops : Array Oper) (L : World → World → Prop) (Q : Act → World → Prop) : Pre → Act → World → Prop
 | .held seg s, a, w => wpQuiet P ops (fun w' => ∃ t : Cls (L w), w' = t.val) (fun a' => wpPre P ops L Q s a' w) (pick ops seg) a
 | .pure seg s, a, w => wpQuiet P ops (fun w' => ∃ t : Cls (fun _ => True), w' = t.val) (fun a' => wpPre P ops L Q s a' w) (pick ops seg) a
 | .call i s, a, w => callAt P ops L i (wpPre P ops L Q s) a w
 | .tail s, a, w => wpSched P ops (fun _ _ => True) Q s a w
def preOk (ops : Array Oper) (KS : List Nat) : Pre → Nat → Array Bool → Bool
 | .held seg s, n, l => match takeAll ops seg l with
  | none => false
  | some l' => (seg.all fun i => !KS.contains i && KS.all fun k => waits ops k i) && decide (seg.length ≤ n) && preOk ops KS s (n - seg.length) l'
 | .pure seg s, n, l => match takeAll ops seg l with
  | none => false
  | some l' => (seg.all fun i => !KS.contains i) && decide (seg.length ≤ n) && preOk ops KS s (n - seg.length) l'
 | .call i s, n, l => (Region.ready .any ops l == [i]) && !KS.contains i && decide (1 ≤ n) && preOk ops KS s (n - 1) (l.setIfInBounds i true)
 | .tail s, n, l => ((Region.ready .any ops l).all fun i => KS.contains i) && schedOk ops s n l
theorem quiet_sound {KS : List Nat} {S T : World → Prop} (hST : ∀ w, S w → T w) {w : World} (hS : S w) (hs : Region.noSelect ops = true) (hQ : ∀ c a w, ¬ Q (.panic c) a w) {K : Act → Prop} {fuel : Nat} {l' : Array Bool}
  (hK : ∀ a', K a' → wpAnyT P ops Q KS S fuel l' a' w) : ∀ (is : List Nat) (l : Array Bool) (a : Act), takeAll ops is l = some l' → (∀ i ∈ is, KS.contains i = false) → ((∀ i ∈ is, ∀ k, KS.contains k = true → waits ops k i = true) ∨ ∀ w, T w) →
   wpQuiet P ops (fun w' => ∃ t : Cls T, w' = t.val) K (pick ops is) a → wpAnyT P ops Q KS S (fuel + is.length) l a w
 | [], l, a, ht, _, _, h => by
  simp only [takeAll, Option.some.injEq] at ht
  subst ht
  exact hK a h
 | i :: is, l, a, ht, hn, hw, h => by
  unfold takeAll at ht
  split at ht
  ·cases ht
  ·rename_i o ho
   split at ht
   ·rename_i hb
    simp only [Bool.and_eq_true] at hb
    have hp : pick ops (i :: is) = o :: pick ops is := by simp only [pick, ho]
    rw [hp] at h
    unfold wpQuiet at h
    rw [show fuel + (i :: is).length = (fuel + is.length) + 1 from rfl]
    have hw1 : (∀ k, KS.contains k = true → waits ops k i = true) ∨ ∀ w, T w := hw.imp (fun g => g i (List.mem_cons_self ..)) id
    have hw2 : (∀ j ∈ is, ∀ k, KS.contains k = true → waits ops k j = true) ∨ ∀ w, T w := hw.imp (fun g j hj => g j (List.mem_cons_of_mem _ hj)) id
    have hn2 : ∀ j ∈ is, KS.contains j = false := fun j hj => hn j (List.mem_cons_of_mem _ hj)
    by_cases hwd : Region.wanted o (yielded ops a.tmps) = true
    ·rw [if_pos hwd] at h
     obtain ⟨v, hv, hnx⟩ := h
     refine wpAnyT_first hST ho hs hQ (hn i (List.mem_cons_self ..)) hw1 _ l a w hb.1.2 (by simpa using hb.2) (.inl ⟨hwd, fun x hx => ?_⟩) hS (quiet_sound hST hS hs hQ hK is _ _ ht hn2 hw2 hnx)
     have h1 := hv x ⟨⟨x, hx⟩, rfl⟩
     unfold Oper.quietAt at h1
     cases hr : (execOp a.eval o).run P x with
     | ok n w' =>
      obtain ⟨u, rfl⟩ := isVal_run hb.1.1 hr
      rw [hr] at h1
      obtain ⟨e1, e2⟩ := h1
      rw [e1, e2]
     | halt y w' => rw [hr] at h1; exact h1.elim
    ·rw [if_neg hwd] at h
     exact wpAnyT_first hST ho hs hQ (hn i (List.mem_cons_self ..)) hw1 _ l a w hb.1.2 (by simpa using hb.2) (.inr ⟨by simpa using hwd, rfl⟩) hS (quiet_sound hST hS hs hQ hK is _ _ ht hn2 hw2 h)
   ·cases ht
theorem pre_sound {KS : List Nat} {L : World → World → Prop} (hL : ∀ w, L w w) (hT : ∀ u v w, L u v → L v w → L u w) (hs : Region.noSelect ops = true) (hQ : ∀ c a w, ¬ Q (.panic c) a w) :
  ∀ (s : Pre) (n : Nat) (l : Array Bool) (a : Act) (w : World), preOk ops KS s n l = true → wpPre P ops L (fun a w => Q .normal a w) s a w → wpAnyT P ops Q KS (L w) n l a w
 | .held seg s, n, l, a, w, hok, h => by
  unfold preOk at hok
  split at hok
  ·cases hok
  ·rename_i l' ht
   simp only [Bool.and_eq_true, List.all_eq_true, decide_eq_true_eq, Bool.not_eq_true'] at hok
   obtain ⟨⟨h1, h2⟩, h3⟩ := hok
   have := quiet_sound (KS := KS) (S := L w) (T := L w) (fun _ h => h) (hL w) hs hQ (K := fun a' => wpPre P ops L (fun a w => Q .normal a w) s a' w) (fuel := n - seg.length) (l' := l')
    (fun a' hk => pre_sound hL hT hs hQ s _ _ a' w h3 hk) seg l a ht (fun i hi => (h1 i hi).1) (.inl fun i hi k hk => (h1 i hi).2 k (by simpa using hk)) h
   rw [show n - seg.length + seg.length = n by omega] at this
   exact this
 | .pure seg s, n, l, a, w, hok, h => by
  unfold preOk at hok
  split at hok
  ·cases hok
  ·rename_i l' ht
   simp only [Bool.and_eq_true, List.all_eq_true, decide_eq_true_eq, Bool.not_eq_true'] at hok
   obtain ⟨⟨h1, h2⟩, h3⟩ := hok
   have := quiet_sound (KS := KS) (S := L w) (T := fun _ => True) (fun _ _ => trivial) (hL w) hs hQ (K := fun a' => wpPre P ops L (fun a w => Q .normal a w) s a' w) (fuel := n - seg.length) (l' := l')
    (fun a' hk => pre_sound hL hT hs hQ s _ _ a' w h3 hk) seg l a ht (fun i hi => h1 i hi) (.inr fun _ => trivial) h
   rw [show n - seg.length + seg.length = n by omega] at this
   exact this
 | .call i s, n, l, a, w, hok, h => by
  unfold preOk at hok
  simp only [Bool.and_eq_true, beq_iff_eq, decide_eq_true_eq, Bool.not_eq_true'] at hok
  obtain ⟨⟨⟨h1, h2⟩, h3⟩, h4⟩ := hok
  obtain ⟨m, rfl⟩ : ∃ m, n = m + 1 := ⟨n - 1, by omega⟩
  refine ⟨fun h0 => (by rw [h1] at h0; cases h0), fun j hj => ?_⟩
  rw [h1] at hj
  obtain rfl := List.mem_singleton.1 hj
  refine ⟨(fun hk => by rw [h2] at hk; cases hk), fun _ => ?_⟩
  have h : callAt P ops L j (wpPre P ops L (fun a w => Q .normal a w) s) a w := h
  unfold callAt at h
  unfold wpOp
  cases ho : ops[j]? with
  | none => rw [ho] at h; exact h.elim
  | some o =>
   rw [ho] at h
   simp only at h ⊢
   have step : ∀ a2 w2, (L w w2 ∧ wpPre P ops L (fun a w => Q .normal a w) s a2 w2) → (L w w2 ∧ wpAnyT P ops Q KS (L w) m (l.setIfInBounds j true) a2 w2) := fun a2 w2 ⟨g1, g2⟩ =>
    ⟨g1, wpAnyT_mono (fun x hx => hT _ _ _ g1 hx) _ _ _ _ (pre_sound hL hT hs hQ s m _ a2 w2 h4 g2)⟩
   by_cases hw : Region.wanted o (yielded ops a.tmps) = true
   ·rw [if_pos hw] at h ⊢
    refine .inl ?_
    unfold Oper.wp at h ⊢
    generalize (execOp a.eval o).run P w = r at h ⊢
    cases r with
    | ok n w' =>
     cases n <;> simp only [Oper.upon] at h ⊢
     case value u => exact step _ _ h
     case skip => exact step _ _ h
     case defer d => exact step _ _ h
     case enter f args =>
      refine Calls.mono h fun e w'' he => ?_
      cases e with
      | returned u => exact step _ _ he
      | panicked c => exact he.elim
      | outgrown => obtain ⟨_, _, he⟩ := he; exact he.elim
     case row row args => exact Rows.mono h fun u w'' he => step _ _ he
    | halt x w' => cases x <;> simp only [Oper.upon] at h
   ·rw [if_neg hw] at h ⊢
    exact step _ _ ⟨hL w, h⟩
 | .tail s, n, l, a, w, hok, h => by
  unfold preOk at hok
  simp only [Bool.and_eq_true, List.all_eq_true] at hok
  exact wpAnyT_tail hok.1 (sched_sound (L := fun _ _ => True) (fun _ => trivial) (fun _ _ _ _ _ => trivial) hs hQ s n l a w hok.2 h)
end
/-- **THE LAW, FOR A SCHEDULE WITH A TAIL.** -/
theorem wp_region_pre (L : World → World → Prop) (hL : ∀ w, L w w) (hT : ∀ u v w, L u v → L v w → L u w) (KS : List Nat) (s : Pre)
  {P : Program} {id : Nat} {Q : Exit → Act → World → Prop} {a : Act} {w : World} {ops : Array Oper} (hm : P.follows .mixedOrders = true)
  (hok : (Region.noSelect ops && preOk ops KS s ops.size (Array.replicate ops.size false)) = true)
  (h : wpPre P ops L (fun a w => Q .normal a w) s a w.drew) : (Code.region id ops true).wp P Q a w := by
 simp only [Bool.and_eq_true] at hok
 have h1 : (Code.region id ops true).wp P (Plain Q) a w := by
  refine wp_region_held (S := fun _ => True) hm ?_
  exact wpAny_of_tail _ _ _ _ (pre_sound (Q := Plain Q) hL hT hok.1 (fun _ _ _ h => h) s _ _ a w.drew hok.2 h)
 exact Code.wp_mono (fun e a w h => by cases e <;> first | exact h | exact h.elim) h1
theorem wpPre_held {P : Program} {ops : Array Oper} {L : World → World → Prop} {Q : Act → World → Prop} {seg : List Nat} {s : Pre} {a : Act} {w : World} :
  wpPre P ops L Q (.held seg s) a w = wpQuiet P ops (fun w' => ∃ t : Cls (L w), w' = t.val) (fun a' => wpPre P ops L Q s a' w) (pick ops seg) a := rfl
theorem wpPre_call {P : Program} {ops : Array Oper} {L : World → World → Prop} {Q : Act → World → Prop} {i : Nat} {s : Pre} {a : Act} {w : World} :
  wpPre P ops L Q (.call i s) a w = callAt P ops L i (wpPre P ops L Q s) a w := rfl
theorem wpPre_tail {P : Program} {ops : Array Oper} {L : World → World → Prop} {Q : Act → World → Prop} {s : Sched} {a : Act} {w : World} :
  wpPre P ops L Q (.tail s) a w = wpSched P ops (fun _ _ => True) Q s a w := rfl
end Go.Flow
namespace Go.Proofs.YtlchcjnbbhpiaaaGreatDoor
open Go.Maps
/-! ### plain lists of entries -/
section
variable {κ β : Type}
def getA [DecidableEq κ] (L : List (κ × β)) (x : κ) : Option β := (L.find? fun p => decide (p.1 = x)).map (·.2)
def putA [DecidableEq κ] (L : List (κ × β)) (x : κ) (c : β) : List (κ × β) := if x ∈ L.map (·.1) then L.map (fun p => if p.1 = x then (x, c) else p) else L ++ [(x, c)]
def NoTwo (L : List (κ × β)) : Prop := (L.map (·.1)).Nodup
theorem NoTwo.nil : NoTwo ([] : List (κ × β)) := by simp [NoTwo]
theorem getA_some [DecidableEq κ] {L : List (κ × β)} {x : κ} {c : β} (h : getA L x = some c) : (x, c) ∈ L := by
 unfold getA at h
 obtain ⟨p, hp, rfl⟩ := Option.map_eq_some_iff.1 h
 have h1 := List.mem_of_find?_eq_some hp
 have h2 := List.find?_some hp
 simp only [decide_eq_true_eq] at h2
 subst h2
 exact h1
theorem getA_none [DecidableEq κ] {L : List (κ × β)} {x : κ} (h : getA L x = none) : x ∉ L.map (·.1) := by
 unfold getA at h
 rw [Option.map_eq_none_iff, List.find?_eq_none] at h
 intro hx
 obtain ⟨p, hp, rfl⟩ := List.mem_map.1 hx
 have := h p hp
 simp at this
theorem getA_mem [DecidableEq κ] {L : List (κ × β)} (x : κ) : (getA L x).isSome = decide (x ∈ L.map (·.1)) := by
 cases hg : getA L x with
 | none => simp only [Option.isSome_none]; rw [decide_eq_false (getA_none hg)]
 | some d => simp only [Option.isSome_some]; rw [decide_eq_true (List.mem_map.2 ⟨_, getA_some hg, rfl⟩)]
theorem keys_putA [DecidableEq κ] (L : List (κ × β)) (x : κ) (c : β) : (putA L x c).map (·.1) = if x ∈ L.map (·.1) then L.map (·.1) else L.map (·.1) ++ [x] := by
 unfold putA
 split
 ·rw [List.map_map]
  refine List.map_congr_left fun p _ => ?_
  simp only [Function.comp]
  by_cases e : p.1 = x
  ·rw [if_pos e]; exact e.symm
  ·rw [if_neg e]
 ·simp
theorem NoTwo.put [DecidableEq κ] {L : List (κ × β)} (h : NoTwo L) (x : κ) (c : β) : NoTwo (putA L x c) := by
 unfold NoTwo
 rw [keys_putA]
 split
 ·exact h
 ·rename_i hx
  exact List.nodup_append.2 ⟨h, by simp, fun a ha b hb => by simp at hb; subst hb; intro e; subst e; exact hx ha⟩
theorem mem_putA [DecidableEq κ] {L : List (κ × β)} {x : κ} {c : β} (p : κ × β) : p ∈ putA L x c ↔ p = (x, c) ∨ (p ∈ L ∧ p.1 ≠ x) := by
 unfold putA
 split
 ·rename_i hx
  rw [List.mem_map]
  constructor
  ·rintro ⟨q, hq, rfl⟩
   by_cases e : q.1 = x
   ·rw [if_pos e]; exact .inl rfl
   ·rw [if_neg e]; exact .inr ⟨hq, e⟩
  ·rintro (rfl | ⟨h1, h2⟩)
   ·obtain ⟨q, hq, rfl⟩ := List.mem_map.1 hx
    exact ⟨q, hq, by rw [if_pos rfl]⟩
   ·exact ⟨p, h1, by rw [if_neg h2]⟩
 ·rename_i hx
  rw [List.mem_append, List.mem_singleton]
  constructor
  ·rintro (h | h)
   ·exact .inr ⟨h, fun e => hx (List.mem_map.2 ⟨p, h, e⟩)⟩
   ·exact .inl h
  ·rintro (h | ⟨h, _⟩)
   ·exact .inr h
   ·exact .inl h
theorem putA_length [DecidableEq κ] (L : List (κ × β)) (x : κ) (c : β) : (putA L x c).length = if x ∈ L.map (·.1) then L.length else L.length + 1 := by
 have := congrArg List.length (keys_putA L x c)
 rw [List.length_map] at this
 rw [this]
 split <;> simp
end
/-! ### in memory -/
/-- How keys and elements of a map are laid. -/
structure KV (P : Program) (k : TypeId) (κ β : Type) where
 K : Keyed P k
 kv : κ → Value
 kl : κ → Lit
 vv : β → Value
 ok : κ → Prop
 key : ∀ x, ok x → keyOf P k (kv x) = some (kl x)
 inj : ∀ x y, ok x → ok y → kl x = kl y → x = y
 vinj : ∀ a b, vv a = vv b → a = b
def heldR (v : Value) : Option (DataW Value × List MemPlace) := some (.held v, [])
section
variable {P : Program} {k : TypeId} {κ β : Type} {S : KV P k κ β}
theorem KV.lit (S : KV P k κ β) {x : κ} (h : S.ok x) : WideAt.IsKeyLit (S.kl x) := S.K.key (S.key x h)
/-- Out of a key's law alone. -/
noncomputable def KV.of {P : Program} {k : TypeId} {κ β : Type} (K : Keyed P k) (kv : κ → Value) (ok : κ → Prop) (hs : ∀ x, ok x → (keyOf P k (kv x)).isSome = true) (hi : ∀ x y, kv x = kv y → x = y) (vv : β → Value) (vi : ∀ a b, vv a = vv b → a = b) : KV P k κ β where
 K := K
 kv := kv
 kl x := (keyOf P k (kv x)).getD (.bool false)
 vv := vv
 ok := ok
 key x h := by
  obtain ⟨l, hl⟩ := Option.isSome_iff_exists.1 (hs x h)
  rw [hl]; rfl
 inj x y hx hy h := by
  obtain ⟨l, hl⟩ := Option.isSome_iff_exists.1 (hs x hx)
  obtain ⟨m, hm⟩ := Option.isSome_iff_exists.1 (hs y hy)
  rw [hl, hm] at h
  simp only [Option.getD_some] at h
  subst h
  exact hi x y (K.inj hl hm)
 vinj := vi
/-- The datum D holds just the entries L. -/
structure Ent (S : KV P k κ β) (D : DataW Value) (L : List (κ × β)) : Prop where
 tidy : Tidy D
 two : NoTwo L
 ok : ∀ p ∈ L, S.ok p.1
 at_ : ∀ p ∈ L, ∀ z, D.atKey (S.kl p.1) z = .held (S.vv p.2)
 has : ∀ l, Maps.has D l = true → ∃ p ∈ L, l = S.kl p.1
 size : Maps.size D = L.length
theorem Ent.nil : Ent S (.map []) [] := ⟨tidy_empty, NoTwo.nil, by simp, by simp, fun l h => by simp [has_eq] at h, rfl⟩
theorem Ent.has_iff [DecidableEq κ] {D : DataW Value} {L : List (κ × β)} (h : Ent S D L) {x : κ} (hx : S.ok x) : Maps.has D (S.kl x) = decide (x ∈ L.map (·.1)) := by
 rw [Bool.eq_iff_iff, decide_eq_true_eq, List.mem_map]
 constructor
 ·intro hh
  obtain ⟨p, hp, e⟩ := h.has _ hh
  exact ⟨p, hp, (S.inj _ _ hx (h.ok p hp) e).symm⟩
 ·rintro ⟨p, hp, rfl⟩
  exact has_true_of_atKey (h.at_ p hp)
theorem Ent.at_get [DecidableEq κ] {D : DataW Value} {L : List (κ × β)} (h : Ent S D L) {x : κ} (hx : S.ok x) (z : DataW Value) : D.atKey (S.kl x) z = ((getA L x).map fun c => DataW.held (S.vv c)).getD z := by
 cases hg : getA L x with
 | some c => exact h.at_ (x, c) (getA_some hg) z
 | none =>
  have := h.has_iff hx
  rw [decide_eq_false (getA_none hg)] at this
  exact atKey_of_not_has this z
theorem Ent.put [DecidableEq κ] {D : DataW Value} {L : List (κ × β)} (h : Ent S D L) {x : κ} (hx : S.ok x) (c : β) : Ent S (D.put (S.kl x) (.held (S.vv c))) (putA L x c) := by
 refine ⟨h.tidy.put (S.lit hx) _, h.two.put x c, fun p hp => ?_, fun p hp z => ?_, fun l hl => ?_, ?_⟩
 ·rcases (mem_putA p).1 hp with rfl | ⟨hp, _⟩
  ·exact hx
  ·exact h.ok p hp
 ·rcases (mem_putA p).1 hp with rfl | ⟨hp, hne⟩
  ·exact atKey_put_same h.tidy.isMap (S.lit hx) _ _
  ·rw [atKey_put_other fun e => hne (S.inj _ _ (h.ok p hp) hx e)]; exact h.at_ p hp z
 ·by_cases e : l = S.kl x
  ·exact ⟨(x, c), (mem_putA _).2 (.inl rfl), e⟩
  ·rw [has_put_other e] at hl
   obtain ⟨p, hp, rfl⟩ := h.has l hl
   exact ⟨p, (mem_putA _).2 (.inr ⟨hp, fun e' => e (by rw [e'])⟩), rfl⟩
 ·rw [size_put h.tidy, h.has_iff hx, putA_length, h.size]
  simp only [decide_eq_true_eq]
/-- Block b is a map with just the entries L. -/
def MapA (S : KV P k κ β) (w : World) (b : Nat) (L : List (κ × β)) : Prop := ∃ D, w.ownsMap P k heldR b L.length D ∧ Ent S D L
theorem own_tight {w : World} {b n : Nat} {D : DataW Value} (h : w.ownsMap P k heldR b n D) : w.ownsMap P k heldR b (Maps.size D) D := by
 obtain ⟨es, clock, hb, F, hs, rfl⟩ := h
 exact ⟨es, clock, hb, F, by simp [Maps.size, length_sorted], rfl⟩
theorem MapA.made (S : KV P k κ β) (w : World) : MapA S (w.alloc (.map #[] 0)) w.heap.size [] := ⟨_, World.ownsMap_made w P k _, Ent.nil⟩
theorem MapA.kept {w w' : World} {b : Nat} {L : List (κ × β)} {row : Option Nat} (h : MapA S w b L) (hg : w.grownBy w' row) (hne : some b ≠ row) : MapA S w' b L := h.elim fun D h => ⟨D, h.1.kept hg hne, h.2⟩
theorem MapA.lt {w : World} {b : Nat} {L : List (κ × β)} (h : MapA S w b L) : b < w.heap.size := h.elim fun _ h => h.1.lt
theorem MapA.keep {w w' : World} {b : Nat} {L : List (κ × β)} (h : MapA S w b L) (e1 : w'.heap[b]? = w.heap[b]?) : MapA S w' b L := by
 obtain ⟨D, ⟨es, clock, hb, r⟩, h2⟩ := h
 exact ⟨D, ⟨es, clock, e1.trans hb, r⟩, h2⟩
theorem MapA.below {w w' : World} {b : Nat} {L : List (κ × β)} (h : MapA S w b L) (hb : RowKit.Below w.heap.size w w') : MapA S w' b L := h.keep (hb.block b h.lt)
variable (w : World) {ops : Array Oper} {rest : List Oper} {o : Oper} {a : Act} {Q : Exit → Act → World → Prop}
/-- m[x]. -/
theorem wpList_lookup_a [DecidableEq κ] (hg : o.guard = none) (m x : Operand) (t : TypeId) (hop : o.op = Op.lookup t m x false)
  (S : KV P k κ β) (e : TypeId) (ht : P.underlying t = some (.map k e)) (z : Value) (hz : (zeroValue e).run P w = .ok z w) (b : Nat) (L : List (κ × β))
  (hm : a.eval m = .map (some b)) (hown : MapA S w b L) (y : κ) (hy : S.ok y) (hx : a.eval x = S.kv y)
  (hK : wpList P ops Q rest (a.put o.dst (((getA L y).map S.vv).getD z)) w) : wpList P ops Q (o :: rest) a w := by
 refine wpList_plain hg fun K' hK' => ?_
 obtain ⟨D, h1, h2⟩ := hown
 obtain ⟨v, ps, hrun, hv⟩ := h1.lookup S.K ht hz (R := heldR) rfl (S.key y hy)
 rw [h2.at_get hy] at hv
 have e1 : v = ((getA L y).map S.vv).getD z := by
  unfold heldR at hv
  cases hg : getA L y <;> rw [hg] at hv <;> simp at hv <;> simp [hv.1]
 rw [← e1] at hK
 unfold Oper.wp
 simp [execOp, hop, hm, hx, hrun, Result.andThen]
 exact hK' _ _ hK
/-- v, ok := m[x]. -/
theorem wpList_lookup_a_ok [DecidableEq κ] (hg : o.guard = none) (m x : Operand) (t : TypeId) (hop : o.op = Op.lookup t m x true)
  (S : KV P k κ β) (e : TypeId) (ht : P.underlying t = some (.map k e)) (z : Value) (hz : (zeroValue e).run P w = .ok z w) (b : Nat) (L : List (κ × β))
  (hm : a.eval m = .map (some b)) (hown : MapA S w b L) (y : κ) (hy : S.ok y) (hx : a.eval x = S.kv y)
  (hK : wpList P ops Q rest (a.put o.dst (.tuple #[((getA L y).map S.vv).getD z, .bool (getA L y).isSome])) w) : wpList P ops Q (o :: rest) a w := by
 refine wpList_plain hg fun K' hK' => ?_
 obtain ⟨D, h1, h2⟩ := hown
 obtain ⟨v, ps, hrun, hv⟩ := h1.look_ok S.K ht hz (R := heldR) rfl (S.key y hy)
 rw [h2.at_get hy] at hv
 rw [h2.has_iff hy, ← getA_mem] at hrun
 have e1 : v = ((getA L y).map S.vv).getD z := by
  unfold heldR at hv
  cases hg : getA L y <;> rw [hg] at hv <;> simp at hv <;> simp [hv.1]
 rw [← e1] at hK
 unfold Oper.wp
 simp [execOp, hop, hm, hx, hrun, Result.andThen]
 exact hK' _ _ hK
theorem MapA.run_lookup [DecidableEq κ] {w : World} {S : KV P k κ β} {t e : TypeId} (ht : P.underlying t = some (.map k e)) {z : Value} (hz : (zeroValue e).run P w = .ok z w) {b : Nat} {L : List (κ × β)} (hown : MapA S w b L) {y : κ} (hy : S.ok y) :
  (Instr.lookup t (.map (some b)) (S.kv y) false).run P w = .ok (((getA L y).map S.vv).getD z) w := by
 obtain ⟨D, h1, h2⟩ := hown
 obtain ⟨v, ps, hrun, hv⟩ := h1.lookup S.K ht hz (R := heldR) rfl (S.key y hy)
 rw [h2.at_get hy] at hv
 have e1 : v = ((getA L y).map S.vv).getD z := by
  unfold heldR at hv
  cases hg : getA L y <;> rw [hg] at hv <;> simp at hv <;> simp [hv.1]
 rw [← e1]; exact hrun
/-- m[x] in a quiet walk. -/
theorem quiet_lookup_a [DecidableEq κ] {C : World → Prop} {K : Act → Prop} (m x : Operand) (t : TypeId) (ho : o.op = .lookup t m x false)
  (S : KV P k κ β) (e : TypeId) (ht : P.underlying t = some (.map k e)) (z : Value) (hz : ∀ w, (zeroValue e).run P w = .ok z w) (b : Nat) (L : List (κ × β))
  (hm : a.eval m = .map (some b)) (hown : ∀ w, C w → MapA S w b L) (y : κ) (hy : S.ok y) (hx : a.eval x = S.kv y) (hk : K (a.put o.dst (((getA L y).map S.vv).getD z))) : o.quiet P a C K :=
 ⟨_, fun w hw => by
  unfold Oper.quietAt execOp
  simp only [ho, hm, hx, Sem.run_bind, Sem.run_pure, MapA.run_lookup ht (hz w) (hown w hw) hy, Result.andThen_ok]
  exact ⟨rfl, rfl⟩, hk⟩
/-- m[x] = c, an operation by itself. -/
theorem wp_mapUpdate_a [DecidableEq κ] {K : Act → World → Prop} (m x v : Operand) (t : TypeId) (hop : o.op = Op.mapUpdate t m x v)
  (S : KV P k κ β) (e : TypeId) (ht : P.underlying t = some (.map k e)) (b : Nat) (L : List (κ × β))
  (hm : a.eval m = .map (some b)) (hown : MapA S w b L) (hn : L.length < maxLen) (y : κ) (hy : S.ok y) (c : β) (hx : a.eval x = S.kv y) (hv : a.eval v = S.vv c)
  (hK : ∀ w', MapA S w' b (putA L y c) → w.grownBy w' (some b) → K (a.put o.dst undef) w') : o.wp P a w K Q := by
 obtain ⟨D, h1, h2⟩ := hown
 obtain ⟨w', hrun, r1, r2⟩ := h1.update S.K ht hn (S.key y hy) (R := heldR) (val := S.vv c) rfl
 have hr := hK w' ⟨_, by rw [← (h2.put hy c).size]; exact own_tight r1, h2.put hy c⟩ r2
 unfold Oper.wp
 simp [execOp, hop, hm, hx, hv, hrun, Result.andThen]
 exact hr
end
end Go.Proofs.YtlchcjnbbhpiaaaGreatDoor
namespace Go.Keep
open Go.RowKit Go.ChangeShapes
section
variable {H : Type} {enc : TypeId × Value → H} {P : Program} {W W' : World}
theorem trodAll_carry (hb : Below W.heap.size W W') {base : Nat} {sp : Nat → Bool} {held : Bool} : ∀ {ts : List TypeId} {vs : List Value} {ds : List (DataW H)} {ps : List MemPlace},
  DataW.TrodAll enc P W base sp held ts vs ds ps → DataW.TrodAll enc P W' base sp held ts vs ds ps
 | [], [], [], _, h => h
 | _ :: _, _ :: _, _ :: _, _, ⟨p, q, ⟨n, h1⟩, h2, e⟩ => ⟨p, q, ⟨n, DataW.trod_carry n _ _ _ h1 (fun x hx => hb.same (DataW.trod_lt n _ _ _ h1 x hx))⟩, trodAll_carry hb h2, e⟩
/-- The arguments behind the call. -/
theorem args_keep (hl : laidOutB P = true) (hm : mapsRowed P = true)
  (hz : ((List.range P.types.size).all fun t => match P.underlying t with | some (.slice e) => decide (0 < P.cellsOf e) | _ => true) = true)
  {ts : List TypeId} {vs : List Value} {ds : List (DataW H)} {p : List MemPlace} (hts : (ts.all fun t => decide (t < P.types.size)) = true)
  (h : DataW.TrodAll enc P W 0 (fun _ => true) true ts vs ds p) (hb : Below W.heap.size W W') :
  DataW.TrodAll enc P W' 0 (fun b => decide (b < W.heap.size)) true ts vs ds p :=
 trodAll_carry hb (DataW.TrodAll.respare (kids_rows hl hm) (slices_full_of P hz) (fun t ht => by simpa using List.all_eq_true.1 hts t ht) h (fun x hx => by simpa using h.lt x hx))
end
end Go.Keep
