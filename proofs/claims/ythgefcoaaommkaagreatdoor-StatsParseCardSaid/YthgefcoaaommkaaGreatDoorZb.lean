/- Small laws that all walks of this seat share: a region that draws its order walked once in the order of the text, in a class of worlds; worlds that part in one old block alone.
   What the walks over slices of texts share: a slice that reads as a list of texts, the library's variable that a search reads.
   Group names: components, the check of a name, hierarchies, lists of names. Of no program.
   Contracts: isLower, isComponent and their closure; slices.ContainsFunc at bytes and at texts; parts; Check.
   An append to a slice of texts of the call's own: one new text; the elements of a slice that is read.
   Contracts: isComponent, parts, the closures of Check and Join, Check, Split.
   Contracts of the reference: Parts, Component, Check, Text; and of the statements' own same and short.
   Contracts of the reference: Component, Check, Text; and of the statements' own same and short.
   Contracts: strings.Join, slices.Contains at texts; checkList, FormatList; the reference's CheckList.
   Contracts of strings.Builder over this dump: copyCheck, WriteByte, WriteString. Condition: the new length takes at most 2^47 bytes.
   Rows of cells of the call's own: what append leaves, what stays. -/
import Derived.Test.YthgefcoaaommkaaGreatDoorProg
import Derived.WalkKit
import Derived.WalkSpells
import Derived.WalkLawsBesides
import Derived.Lib.Hide
import Derived.Deep.QuietTactic
import Derived.BigQuiet
import Derived.Laws.AppendOwn
import Derived.Deep.LoopGhost
import Derived.Deep.Draws
import Derived.OwnWalk
import Derived.Test.YthgefcoaaommkaaGreatDoorZa
import Derived.Lib.ConvBytes
import Derived.Shelf.Abstract
import Derived.Test.YthgefcoaaommkaaGreatDoorShelf
import Derived.Shelf.Strings.Builder1
import Derived.Lib.OthersKept
import Derived.Laws.Rows
import Derived.Deep.DeepCutAuto
import Derived.Deep.MidRow
import Derived.Deep.WholeRow
namespace Go.Proofs.YthgefcoaaommkaaGreatDoor
open Go.RowKit

/-- The worlds that meet S, as a type: its members are handed to the walk as variables. -/
structure Cls (S : World → Prop) where
  val : World
  ok : S val
/-- A region that draws its order, walked once in the order of the text, in the class of the worlds that meet S. -/
theorem wp_region_class (S : World → Prop) {P : Program} {id : Nat} {Q : Exit → Act → World → Prop} {a : Act} {w : World} {l : List Oper} (hm : P.follows .mixedOrders = true) (hB : Region.lexB .any l.toArray = true)
    (hS : S w.drew)
    (h : wpQuiet P l.toArray (fun w' => ∃ t : Cls S, w' = t.val) (fun a' => ∀ w', (∃ t : Cls S, w' = t.val) → Q .normal a' w') l a) : (Code.region id l.toArray true).wp P Q a w :=
  wp_region_quiet (C := fun w' => ∃ t : Cls S, w' = t.val) hm hB ⟨⟨_, hS⟩, rfl⟩ (by simpa using h)

/-- A callee's contract in a world of the class. -/
theorem Calls.class_of {S : World → Prop} {P : Program} {f : FuncId} {args : Array Value} {t : Cls S} {v : Value}
    (h : Calls P f args t.val fun e w' => e = .returned v ∧ S w') : Calls P f args t.val fun e w'' => e = .returned v ∧ ∃ t' : Cls S, w'' = t'.val :=
  h.mono fun _ w' ⟨he, hw⟩ => ⟨he, ⟨w', hw⟩, rfl⟩
/-- A callee's contract that lays blocks, in the class of the worlds that lie above W. -/
theorem Calls.class_below {W : World} {P : Program} {f : FuncId} {args : Array Value} {t : Cls (fun x => Below W.heap.size W x)} {v : Value}
    (h : Calls P f args t.val fun e w' => e = .returned v ∧ Below t.val.heap.size t.val w') : Calls P f args t.val fun e w'' => e = .returned v ∧ ∃ t' : Cls (fun x => Below W.heap.size W x), w'' = t'.val :=
  h.mono fun _ w' ⟨he, hw⟩ => ⟨he, ⟨w', t.ok.trans (hw.mono t.ok.size)⟩, rfl⟩
/-- A callee's contract that leaves the world alone, in a class. -/
theorem Calls.class_same {S : World → Prop} {P : Program} {f : FuncId} {args : Array Value} {t : Cls S} {v : Value}
    (h : Calls P f args t.val fun e w' => e = .returned v ∧ t.val = w') : Calls P f args t.val fun e w'' => e = .returned v ∧ ∃ t' : Cls S, w'' = t'.val :=
  h.mono fun _ _ ⟨he, hw⟩ => ⟨he, t, hw.symm⟩

/-- Every old block but b is as it was. -/
structure But (b : Nat) (w w' : World) : Prop where
  os : w'.os = w.os
  tape : w'.tape = w.tape
  output : w'.output = w.output
  size : w.heap.size ≤ w'.heap.size
  block : ∀ k, k < w.heap.size → k ≠ b → w'.heap[k]? = w.heap[k]?

theorem But.refl (b : Nat) (w : World) : But b w w := ⟨rfl, rfl, rfl, Nat.le_refl _, fun _ _ _ => rfl⟩
theorem But.trans {b : Nat} {u v w : World} (h : But b u v) (k : But b v w) : But b u w :=
  ⟨k.os.trans h.os, k.tape.trans h.tape, k.output.trans h.output, Nat.le_trans h.size k.size, fun i hi hb => (k.block i (Nat.lt_of_lt_of_le hi h.size) hb).trans (h.block i hi hb)⟩
theorem But.of_below {b : Nat} {u v : World} (h : Below u.heap.size u v) : But b u v := ⟨h.os, h.tape, h.output, h.size, fun i hi _ => h.block i hi⟩
theorem But.below {b B : Nat} {u v : World} (h : But b u v) (hB : B ≤ b) (hu : B ≤ u.heap.size) : Below B u v := ⟨h.os, h.tape, h.output, h.size, fun i hi => h.block i (by omega) (by omega)⟩
theorem But.drew {b : Nat} {u v : World} (h : But b u v) : But b u v.drew := ⟨h.os, h.tape, h.output, h.size, h.block⟩
theorem But.drewN {b : Nat} {u v : World} (n : Nat) (h : But b u v) : But b u (v.drewN n) := ⟨h.os, h.tape, h.output, h.size, h.block⟩
theorem But.alloc {b : Nat} {u v : World} (h : But b u v) (o : Obj) : But b u (v.alloc o) :=
  ⟨h.os, h.tape, h.output, by have := h.size; simp; omega, fun i hi hb => by rw [Below.heap_alloc _ _ _ (Nat.lt_of_lt_of_le hi h.size)]; exact h.block i hi hb⟩
theorem But.setCell {b o : Nat} {u v : World} (h : But b u v) (x : Value) : But b u (v.setCell ⟨b, o, none⟩ x) :=
  ⟨h.os, h.tape, h.output, by have := h.size; simpa [World.setCell] using this, fun i hi hb => by rw [Below.heap_setCell _ _ _ _ hb]; exact h.block i hi hb⟩
theorem _root_.Go.RowKit.Below.drewN {B : Nat} {a w : World} (n : Nat) (h : Below B a w) : Below B a (w.drewN n) := ⟨h.os, h.tape, h.output, h.size, h.block⟩

theorem bcell {W w1 : World} (hb : Below W.heap.size W w1) : (∀ b o, b < W.heap.size → w1.cell? ⟨b, o, none⟩ = W.cell? ⟨b, o, none⟩) ∧ (∀ b o, b < W.heap.size → w1.frozen? ⟨b, o, none⟩ = W.frozen? ⟨b, o, none⟩) :=
  ⟨fun b o h => hb.cell (p := ⟨b, o, none⟩) h, fun b o h => hb.frozen (p := ⟨b, o, none⟩) h⟩
theorem blk_cell {w : World} {b : Nat} {cs : Array Value} {t : TypeId} {fr : Nat × Nat} (h : w.heap[b]? = some (.cells cs t fr)) (i : Nat) : w.cell? ⟨b, i, none⟩ = cs[i]? := by
  simp [World.cell?, h]
theorem blk_free {w : World} {b : Nat} {cs : Array Value} {t : TypeId} (h : w.heap[b]? = some (.cells cs t (0, 0))) (i : Nat) : w.frozen? ⟨b, i, none⟩ = false := by
  simp [World.frozen?, h]
theorem blk_lt {w : World} {b : Nat} {o : Obj} (h : w.heap[b]? = some o) : b < w.heap.size := by
  rcases Nat.lt_or_ge b w.heap.size with h' | h'
  · exact h'
  · rw [Array.getElem?_eq_none h'] at h; cases h
theorem blk_set {w : World} {b : Nat} {cs : Array Value} {t : TypeId} {fr : Nat × Nat} (h : w.heap[b]? = some (.cells cs t fr)) (i : Nat) (v : Value) : (w.setCell ⟨b, i, none⟩ v).heap[b]? = some (.cells (cs.setIfInBounds i v) t fr) := by
  simp [World.setCell, Array.getElem?_modify, h]
theorem blk_set_ne {w : World} {b c : Nat} (i : Nat) (v : Value) (hne : b ≠ c) : (w.setCell ⟨c, i, none⟩ v).heap[b]? = w.heap[b]? := Below.heap_setCell _ _ _ _ hne
theorem blk_new (w : World) (o : Obj) : (w.alloc o).heap[w.heap.size]? = some o := by
  show (w.heap.push o)[w.heap.size]? = _
  simp
theorem blk_old {w : World} {b : Nat} {x : Obj} (o : Obj) (h : w.heap[b]? = some x) : (w.alloc o).heap[b]? = some x := by
  rw [Below.heap_alloc _ _ _ (blk_lt h)]; exact h
theorem blk_below {w w' : World} {b : Nat} {x : Obj} (hb : Below w.heap.size w w') (h : w.heap[b]? = some x) : w'.heap[b]? = some x := by
  rw [hb.block b (blk_lt h)]; exact h
theorem blk_but {w w' : World} {b c : Nat} {x : Obj} (hb : But c w w') (hne : b ≠ c) (h : w.heap[b]? = some x) : w'.heap[b]? = some x := by
  rw [hb.block b (blk_lt h) hne]; exact h

theorem ret_bool {a b : Bool} (h : a = b) : Ending.returned (.bool a) = .returned (.bool b) := by rw [h]
theorem ret_int {k : IntKind} {a b : Int} (h : a = b) : Ending.returned (.int k a) = .returned (.int k b) := by rw [h]
end Go.Proofs.YthgefcoaaommkaaGreatDoor

namespace Go.Proofs.YthgefcoaaommkaaGreatDoor
open Go.RowKit

theorem bcat (a b : List UInt8) : (⟨a.toArray⟩ : ByteArray) ++ ⟨b.toArray⟩ = ⟨(a ++ b).toArray⟩ := by
  apply ByteArray.ext; simp
theorem str_congr {a b : ByteArray} (h : a = b) : Value.string a = Value.string b := by rw [h]
theorem ret_str {a b : List UInt8} (h : a = b) : Ending.returned (.string ⟨a.toArray⟩) = .returned (.string ⟨b.toArray⟩) := by rw [h]
theorem bget {t : List UInt8} {p : Nat} (h : p < (⟨t.toArray⟩ : ByteArray).size) (hp : p < t.length) : (⟨t.toArray⟩ : ByteArray)[p]'h = t.getD p 0 := by
  show t.toArray[p] = t.getD p 0
  simp [hp]
theorem _root_.Go.RowKit.Below.cellv {w w' : World} (h : Below w.heap.size w w') {p : Addr} {v : Value} (hv : w.cell? p = some v) : w'.cell? p = some v := by
  have hl := World.block_lt_of_cell? w p hv
  rw [h.cell hl]; exact hv
theorem _root_.Go.RowKit.Below.tr {u v w : World} (h : Below u.heap.size u v) (k : Below v.heap.size v w) : Below u.heap.size u w := h.trans (k.mono h.size)

/-- A text as a value. -/
abbrev enS (x : List UInt8) : Value := .string ⟨x.toArray⟩

/-- The slice with the address A and as many elements as xs has reads as xs. -/
def Rd (w : World) (A : Option Addr) (xs : List (List UInt8)) : Prop :=
  0 < xs.length → ∃ b o, A = some ⟨b, o, none⟩ ∧ b < w.heap.size ∧ ∀ j x, xs[j]? = some x → w.cell? ⟨b, o + j, none⟩ = some (enS x)
theorem Rd.nil {w : World} {A : Option Addr} : Rd w A [] := fun h => absurd h (by simp)
theorem Rd.below {w w' : World} {A : Option Addr} {xs : List (List UInt8)} (h : Rd w A xs) (hb : Below w.heap.size w w') : Rd w' A xs := fun hl => by
  obtain ⟨b, o, e, hlt, hc⟩ := h hl
  exact ⟨b, o, e, Nat.lt_of_lt_of_le hlt hb.size, fun j x hj => Below.cellv hb (hc j x hj)⟩
theorem Rd.at_ {w : World} {A : Option Addr} {xs : List (List UInt8)} {k : Nat} (h : Rd w A xs) (hk : k < xs.length) : ∃ b o x, A = some ⟨b, o, none⟩ ∧ b < w.heap.size ∧ xs[k]? = some x ∧ w.cell? ⟨b, o + k, none⟩ = some (enS x) := by
  obtain ⟨b, o, e, hlt, hc⟩ := h (by omega)
  exact ⟨b, o, xs[k], e, hlt, List.getElem?_eq_getElem hk, hc k _ (List.getElem?_eq_getElem hk)⟩
theorem Rd.take {w : World} {A : Option Addr} {xs : List (List UInt8)} (h : Rd w A xs) (k : Nat) : Rd w A (xs.take k) := fun hl => by
  obtain ⟨b, o, e, hlt, hc⟩ := h (by rw [List.length_take] at hl; omega)
  refine ⟨b, o, e, hlt, fun j x hj => hc j x ?_⟩
  rw [List.getElem?_take] at hj
  split at hj
  · exact hj
  · cases hj
/-- A slice in memory of the call's own reads as what it holds. -/
theorem Rd.of_own {w : World} {base n c : Nat} {e : TypeId} {A : Option Addr} {xs : List (List UInt8)} (h : w.ownsRow base e 1 (.slice A n c) n (xs.map enS)) : Rd w A xs ∧ n = xs.length ∧ n ≤ c := by
  obtain ⟨h1, h2⟩ := h
  have hn : n = xs.length := by simpa using h1.symm
  rcases h2 with ⟨e1, e2⟩ | ⟨g, cap, cur, e1, hb, hg, hcap, hml, hsz, ht⟩
  · injection e1 with a1 a2 a3
    subst a1
    refine ⟨fun hl => absurd hl (by omega), hn, by omega⟩
  · injection e1 with a1 a2 a3
    subst a1 a3
    refine ⟨fun hl => ⟨g, 0, rfl, blk_lt hg, fun j x hj => ?_⟩, hn, hcap⟩
    rw [Nat.zero_add, blk_cell hg j]
    have hj' : (xs.map enS)[j]? = some (enS x) := by rw [List.getElem?_map, hj]; rfl
    rw [← ht, List.getElem?_take] at hj'
    split at hj'
    · simpa using hj'
    · cases hj'
/-- The value of a slice of the call's own. -/
theorem own_slice {w : World} {base n : Nat} {e : TypeId} {v : Value} {xs : List Value} (h : w.ownsRow base e 1 v n xs) : ∃ A c, v = .slice A n c := by
  rcases h.2 with ⟨e1, e2⟩ | ⟨g, cap, cur, e1, _⟩
  · exact ⟨none, 0, by rw [e1, e2]⟩
  · exact ⟨_, cap, e1⟩

/-- What the searches of texts read: a variable of the library's, whatever number it holds. -/
def Env (w : World) : Prop := ∃ m, w.cell? ⟨0, 0, none⟩ = some (.int .i64 m)
theorem Env.below {w w' : World} (h : Env w) (hb : Below w.heap.size w w') : Env w' := h.imp fun _ hm => Below.cellv hb hm
theorem Env.drewN {w : World} (h : Env w) (n : Nat) : Env (w.drewN n) := h
theorem str_info : (Tryz.prog.info? 9).map (fun i => (i.zero, i.size, i.bytes)) = some (some (.string ByteArray.empty), 1, 16) := by kernel_rfl
end Go.Proofs.YthgefcoaaommkaaGreatDoor

namespace Go.Gn

def isLow (c : UInt8) : Bool := decide (97 ≤ c.toNat) && decide (c.toNat ≤ 122)
def okB (c : UInt8) : Bool := isLow c || (decide (48 ≤ c.toNat) && decide (c.toNat ≤ 57)) || decide (c.toNat = 45) || decide (c.toNat = 43) || decide (c.toNat = 95)
/-- A component of a name. -/
def comp (s : List UInt8) : Bool := decide (1 ≤ s.length) && decide (s.length ≤ 20) && isLow (s.getD 0 0) && s.all okB
theorem comp_iff (s : List UInt8) : comp s = true ↔ 1 ≤ s.length ∧ s.length ≤ 20 ∧ isLow (s.getD 0 0) = true ∧ s.all okB = true := by simp [comp, and_assoc]
theorem okB_low {c : UInt8} (h : isLow c = true) : okB c = true := by simp [okB, h]
theorem comp_pos {s : List UInt8} (h : comp s = true) : 1 ≤ s.length := ((comp_iff s).1 h).1
theorem comp_free {s : List UInt8} {c : UInt8} (hc : okB c = false) (h : comp s = true) : c ∉ s := fun hm => by
  have := List.all_eq_true.1 ((comp_iff s).1 h).2.2.2 c hm
  rw [hc] at this; cases this
theorem comp_dot {s : List UInt8} (h : comp s = true) : (46 : UInt8) ∉ s := comp_free (by decide) h
theorem comp_comma {s : List UInt8} (h : comp s = true) : (44 : UInt8) ∉ s := comp_free (by decide) h

/-- The error of a name. -/
def check (s : List UInt8) : Nat := if 80 < s.length then 5 else if (parts 46 s).any (fun p => !comp p) then 12 else if 10 < (parts 46 s).length then 9 else 0
theorem check_zero (s : List UInt8) : check s = 0 ↔ s.length ≤ 80 ∧ (∀ p ∈ parts 46 s, comp p = true) ∧ (parts 46 s).length ≤ 10 := by
  unfold check
  have e : (parts 46 s).any (fun p => !comp p) = true ↔ ¬ ∀ p ∈ parts 46 s, comp p = true := by
    simp only [List.any_eq_true, Bool.not_eq_true', Classical.not_forall, Bool.not_eq_true, exists_prop]
  split
  · simp; omega
  · split
    · rename_i h; have := e.1 h; simp; intro _ h2; exact absurd h2 this
    · rename_i h
      have h2 : ∀ p ∈ parts 46 s, comp p = true := Classical.byContradiction fun hn => h (e.2 hn)
      split
      · simp; omega
      · simp; exact ⟨by omega, h2, by omega⟩
theorem check_cases (s : List UInt8) : check s = 0 ∨ check s = 5 ∨ check s = 12 ∨ check s = 9 := by
  unfold check; split <;> (try split) <;> (try split) <;> simp
theorem check_comma {s : List UInt8} (h : check s = 0) : (44 : UInt8) ∉ s := fun hm => by
  have h2 := ((check_zero s).1 h).2.1
  rw [← text_parts 46 s] at hm
  have : ∀ (xs : List (List UInt8)), (∀ p ∈ xs, comp p = true) → (44 : UInt8) ∉ text 46 xs := by
    intro xs
    induction xs with
    | nil => intro _; simp [text_nil]
    | cons x r ih =>
      intro hp
      cases r with
      | nil => rw [text_one]; exact comp_comma (hp x (by simp))
      | cons y r =>
        rw [text_cons]
        have := comp_comma (hp x (by simp))
        have := ih (fun p hp' => hp p (by simp [hp']))
        simp [*]
  exact this _ h2 hm
theorem check_nil : check [] = 12 := by decide
theorem check_pos {s : List UInt8} (h : check s = 0) : 1 ≤ s.length := by
  cases s with
  | nil => rw [check_nil] at h; cases h
  | cons _ _ => simp

/-- The order of names. -/
def gcmp (a b : List UInt8) : Int := lex scmp (parts 46 a) (parts 46 b)
theorem gcmp_lin : Lin gcmp where
  zero a b := by
    unfold gcmp
    rw [(lex_lin scmp_lin).zero]
    exact ⟨fun h => parts_inj h, fun h => by rw [h]⟩
  anti a b := (lex_lin scmp_lin).anti _ _
  trans a b d := (lex_lin scmp_lin).trans _ _ _
  lo a b := (lex_lin scmp_lin).lo _ _
  hi a b := (lex_lin scmp_lin).hi _ _

/-- A name belongs to a hierarchy. -/
def within (a h : List UInt8) : Bool := decide (check a = 0) && decide (check h = 0) && (parts 46 h).isPrefixOf (parts 46 a)
theorem within_iff (a h : List UInt8) : within a h = true ↔ check a = 0 ∧ check h = 0 ∧ parts 46 h <+: parts 46 a := by simp [within, and_assoc]
theorem within_refl {a : List UInt8} (h : check a = 0) : within a a = true := (within_iff a a).2 ⟨h, h, List.prefix_refl _⟩
theorem within_anti {a b : List UInt8} (h : within a b = true) (k : within b a = true) : a = b := by
  have h1 := ((within_iff a b).1 h).2.2
  have h2 := ((within_iff b a).1 k).2.2
  exact parts_inj (h2.eq_of_length_le h1.length_le)
theorem within_trans {a b c : List UInt8} (h : within a b = true) (k : within b c = true) : within a c = true := by
  have h1 := (within_iff a b).1 h
  have h2 := (within_iff b c).1 k
  exact (within_iff a c).2 ⟨h1.1, h2.2.1, h2.2.2.trans h1.2.2⟩
/-- The code's test: the same name, or the hierarchy and a dot ahead. -/
theorem dot_prefix (a h : List UInt8) : (a = h ∨ (h ++ [46]) <+: a) ↔ parts 46 h <+: parts 46 a := by
  constructor
  · rintro (rfl | ⟨t, rfl⟩)
    · exact List.prefix_refl _
    · have : ∀ (s : List UInt8), parts 46 s <+: parts 46 (s ++ [46] ++ t) := by
        intro s
        induction s with
        | nil => simp [parts]
        | cons b s ih =>
          obtain ⟨r, hr⟩ := ih
          obtain ⟨x, q, hx⟩ := List.exists_cons_of_ne_nil (parts_ne_nil 46 s)
          by_cases hb : b = 46
          · rw [hb, List.cons_append, List.cons_append, parts_cons_eq, parts_cons_eq]; exact ⟨r, by rw [← hr]; rfl⟩
          · rw [List.cons_append, List.cons_append, parts_cons_ne hb, parts_cons_ne hb]; exact ⟨r, by rw [← hr, hx]; rfl⟩
      exact this h
  · rintro ⟨r, hr⟩
    cases r with
    | nil => left; rw [List.append_nil] at hr; exact (parts_inj hr).symm
    | cons x r =>
      right
      have e := text_parts 46 a
      rw [← hr] at e
      have : ∀ (xs : List (List UInt8)), xs ≠ [] → ∃ t, text 46 (xs ++ x :: r) = text 46 xs ++ [46] ++ t := by
        intro xs hne
        induction xs with
        | nil => exact absurd rfl hne
        | cons y q ih =>
          cases q with
          | nil => refine ⟨text 46 (x :: r), ?_⟩; rw [List.singleton_append, text_cons, text_one]; simp
          | cons z q =>
            obtain ⟨t, ht⟩ := ih (by simp)
            refine ⟨t, ?_⟩
            rw [List.cons_append, text_cons' _ _ _ (by simp), ht, text_cons]; simp
      obtain ⟨t, ht⟩ := this _ (parts_ne_nil 46 h)
      rw [text_parts] at ht
      exact ⟨t, by rw [← ht, e]⟩
/-- The reference's test: the text of as many parts as the hierarchy has. -/
theorem take_text (a h : List UInt8) (hl : (parts 46 h).length ≤ (parts 46 a).length) : (text 46 ((parts 46 a).take (parts 46 h).length) = h) ↔ parts 46 h <+: parts 46 a := by
  rw [List.prefix_iff_eq_take]
  constructor
  · intro e
    have hp := parts_pos 46 h
    have := parts_text 46 ((parts 46 a).take (parts 46 h).length) (by
      intro e'
      have := congrArg List.length e'
      simp only [List.length_take, List.length_nil] at this; omega) (fun x hx => parts_free 46 a x (List.mem_of_mem_take hx))
    rw [e] at this
    exact this
  · intro e; rw [← e, text_parts]

/-- What precedes the last dot. -/
theorem check_text {xs : List (List UInt8)} (h0 : xs ≠ []) (h1 : ∀ p ∈ xs, comp p = true) (h2 : xs.length ≤ 10) (h3 : (text 46 xs).length ≤ 80) : check (text 46 xs) = 0 := by
  rw [check_zero, parts_text 46 xs h0 (fun x hx => comp_dot (h1 x hx))]
  exact ⟨h3, h1, h2⟩
theorem check_take {a : List UInt8} (h : check a = 0) (k : Nat) (hk : 1 ≤ k) : check (text 46 ((parts 46 a).take k)) = 0 := by
  have h' := (check_zero a).1 h
  have hp := parts_pos 46 a
  refine check_text ?_ (fun p hp => h'.2.1 p (List.mem_of_mem_take hp)) ?_ ?_
  · intro e; have := congrArg List.length e; simp only [List.length_take, List.length_nil] at this; omega
  · simp; omega
  · have := text_length_take 46 (parts 46 a) k; rw [text_parts] at this; omega
theorem parts_take {a : List UInt8} (k : Nat) (hk : 1 ≤ k) : parts 46 (text 46 ((parts 46 a).take k)) = (parts 46 a).take k := by
  have hp := parts_pos 46 a
  refine parts_text 46 _ ?_ (fun x hx => parts_free 46 a x (List.mem_of_mem_take hx))
  intro e; have := congrArg List.length e; simp only [List.length_take, List.length_nil] at this; omega
theorem within_take {a : List UInt8} (h : check a = 0) (k : Nat) (hk : 1 ≤ k) : within a (text 46 ((parts 46 a).take k)) = true :=
  (within_iff _ _).2 ⟨h, check_take h k hk, by rw [parts_take k hk]; exact List.take_prefix _ _⟩

/-- How many components two lists have in common at their beginning. -/
def same0 : List (List UInt8) → List (List UInt8) → Nat
  | a :: x, b :: y => if a = b then same0 x y + 1 else 0
  | _, _ => 0
theorem same0_le : ∀ x y, same0 x y ≤ x.length ∧ same0 x y ≤ y.length
  | [], y => by simp [same0]
  | _ :: _, [] => by simp [same0]
  | a :: x, b :: y => by have := same0_le x y; unfold same0; split <;> simp <;> omega
theorem same0_take : ∀ x y : List (List UInt8), x.take (same0 x y) = y.take (same0 x y)
  | [], y => by simp [same0]
  | _ :: _, [] => by simp [same0]
  | a :: x, b :: y => by
    have ih := same0_take x y
    unfold same0
    split
    · rename_i e; subst e; simp [ih]
    · simp
theorem same0_most : ∀ (x y p : List (List UInt8)), p <+: x → p <+: y → p.length ≤ same0 x y
  | _, _, [], _, _ => by simp
  | [], _, c :: p, h, _ => by have := h.length_le; simp at this
  | _ :: _, [], c :: p, _, h => by have := h.length_le; simp at this
  | a :: x, b :: y, c :: p, h1, h2 => by
    rw [List.cons_prefix_cons] at h1 h2
    have ih := same0_most x y p h1.2 h2.2
    unfold same0
    rw [if_pos (h1.1.symm.trans h2.1)]
    simp; omega
theorem same0_eq : ∀ (x y : List (List UInt8)) (k : Nat), k ≤ x.length → k ≤ y.length → (∀ j, j < k → x[j]? = y[j]?) → (k < x.length → k < y.length → x[k]? ≠ y[k]?) → same0 x y = k
  | [], y, k, h1, _, _, _ => by simp at h1; simp [same0, h1]
  | _ :: _, [], k, _, h2, _, _ => by simp at h2; simp [same0, h2]
  | a :: x, b :: y, k, h1, h2, h3, h4 => by
    unfold same0
    cases k with
    | zero => have := h4 (by simp) (by simp); simp at this; rw [if_neg this]
    | succ k =>
      have e := h3 0 (by omega)
      simp at e
      rw [if_pos e, same0_eq x y k (by simpa using h1) (by simpa using h2) (fun j hj => by simpa using h3 (j + 1) (by omega)) (fun a b => by simpa using h4 (by simpa using a) (by simpa using b))]
/-- The smallest hierarchy to which both belong; empty: none. -/
def common (a b : List UInt8) : List UInt8 := text 46 ((parts 46 a).take (same0 (parts 46 a) (parts 46 b)))
theorem common_spec {a b : List UInt8} (ha : check a = 0) (hb : check b = 0) (k : Nat) (hk : 1 ≤ k) (hl : k ≤ (parts 46 a).length) :
    (within a (text 46 ((parts 46 a).take k)) && within b (text 46 ((parts 46 a).take k))) = decide (k ≤ same0 (parts 46 a) (parts 46 b)) := by
  rw [within_take ha k hk, Bool.true_and, Bool.eq_iff_iff, within_iff, parts_take k hk, decide_eq_true_eq]
  constructor
  · intro ⟨_, _, h⟩
    have := same0_most _ _ _ (List.take_prefix k (parts 46 a)) h
    simp at this; omega
  · intro h
    refine ⟨hb, check_take ha k hk, ?_⟩
    have e : (parts 46 a).take k = (parts 46 b).take k := by
      have := congrArg (List.take k) (same0_take (parts 46 a) (parts 46 b))
      rw [List.take_take, List.take_take, Nat.min_eq_left h] at this
      exact this
    rw [e]; exact List.take_prefix _ _
theorem common_ne {a b : List UInt8} (ha : check a = 0) : common a b = [] ↔ same0 (parts 46 a) (parts 46 b) = 0 := by
  unfold common
  constructor
  · intro e
    rcases Nat.eq_zero_or_pos (same0 (parts 46 a) (parts 46 b)) with h | h
    · exact h
    · have := check_take ha _ h
      rw [e, check_nil] at this; cases this
  · intro e; rw [e]; rfl
theorem common_within {a b c : List UInt8} (h1 : within a c = true) (h2 : within b c = true) : within (common a b) c = true := by
  have a1 := (within_iff a c).1 h1
  have b1 := (within_iff b c).1 h2
  have hm := same0_most _ _ _ a1.2.2 b1.2.2
  have hp := parts_pos 46 c
  unfold common
  refine (within_iff _ _).2 ⟨check_take a1.1 _ (by omega), a1.2.1, ?_⟩
  rw [parts_take _ (by omega)]
  exact List.prefix_take_iff.2 ⟨a1.2.2, hm⟩
theorem common_pos {a b c : List UInt8} (h1 : within a c = true) (h2 : within b c = true) : common a b ≠ [] := by
  have a1 := (within_iff a c).1 h1
  have b1 := (within_iff b c).1 h2
  have hm := same0_most _ _ _ a1.2.2 b1.2.2
  have hp := parts_pos 46 c
  rw [Ne, common_ne a1.1]; omega

/-- A hierarchy precedes what belongs to it; what lies between belongs to it as well. -/
theorem lex_prefix {α : Type} {c : α → α → Int} (h : Lin c) : ∀ (x y : List α), x <+: y → lex c x y ≤ 0
  | [], [], _ => by simp [lex]
  | [], _ :: _, _ => by simp [lex]
  | _ :: _, [], e => by have := e.length_le; simp at this
  | a :: x, b :: y, e => by
    rw [List.cons_prefix_cons] at e
    unfold lex
    rw [if_pos ((h.zero a b).2 e.1)]
    exact lex_prefix h x y e.2
theorem lex_between {α : Type} {c : α → α → Int} (h : Lin c) : ∀ (p x y z : List α), p <+: x → p <+: z → lex c x y ≤ 0 → lex c y z ≤ 0 → p <+: y
  | [], _, y, _, _, _, _, _ => List.nil_prefix
  | q :: p, x, y, z, h1, h2, h3, h4 => by
    obtain ⟨x', rfl⟩ := h1
    obtain ⟨z', rfl⟩ := h2
    cases y with
    | nil => simp [lex] at h3
    | cons b y =>
      simp only [List.cons_append] at h3 h4
      unfold lex at h3 h4
      have an := h.anti q b
      by_cases e : c q b = 0
      · obtain rfl := (h.zero q b).1 e
        rw [if_pos e] at h3 h4
        rw [List.cons_prefix_cons]
        exact ⟨rfl, lex_between h p _ y _ (List.prefix_append _ _) (List.prefix_append _ _) h3 h4⟩
      · rw [if_neg e] at h3
        rw [if_neg (by omega)] at h4
        omega
theorem within_le {a h : List UInt8} (e : within a h = true) : gcmp h a ≤ 0 := lex_prefix scmp_lin _ _ ((within_iff a h).1 e).2.2
theorem within_between {a b c h : List UInt8} (hb : check b = 0) (h1 : gcmp a b ≤ 0) (h2 : gcmp b c ≤ 0) (ha : within a h = true) (hc : within c h = true) : within b h = true := by
  have a1 := (within_iff a h).1 ha
  have c1 := (within_iff c h).1 hc
  exact (within_iff b h).2 ⟨hb, a1.2.1, lex_between scmp_lin _ _ _ _ a1.2.2 c1.2.2 h1 h2⟩
end Go.Gn

namespace Go.Proofs.YthgefcoaaommkaaGreatDoor
open Go.RowKit Go.Gn

set_option maxHeartbeats 400000 in
theorem isLower_any (c : UInt8) (w : World) : Calls Tryz.prog 183 #[.int .u8 c.toNat] w fun e w' => e = .returned (.bool (isLow c)) ∧ w = w' := by
  have hc := c.toNat_lt
  by_cases a0 : 97 ≤ c.toNat <;> by_cases a1 : c.toNat ≤ 122
  all_goals
    first
      | (have V : Hid (isLow c = true) := by (show isLow c = true); simp only [isLow, Bool.and_eq_true, decide_eq_true_eq]; omega)
      | (have V : Hid (isLow c = false) := by (show isLow c = false); simp only [isLow, Bool.and_eq_false_iff, decide_eq_false_iff_not]; omega)
    generalize c.toNat = n at *
    go_enter Tryz.func183, Tryz.ntmps183
    go_wp2
    all_goals first | (exfalso; omega) | skip
    all_goals
      go_ret
      exact ⟨ret_bool (by first | (rw [V.out]; done) | (rw [V.out]; simp; done) | (rw [V.out]; simp; omega)), rfl⟩

set_option maxHeartbeats 1000000 in
theorem notOk_any (c : UInt8) (w : World) : Calls Tryz.prog 185 #[.int .u8 c.toNat] w fun e w' => e = .returned (.bool (!okB c)) ∧ w = w' := by
  have hc := c.toNat_lt
  cases hl : isLow c with
  | true =>
    have V : Hid ((!okB c) = false) := by (show (!okB c) = false); rw [okB_low hl]; rfl
    have h1 := isLower_any c w
    rw [hl] at h1
    generalize c.toNat = n at *
    clear hl
    go_enter Tryz.func185, Tryz.ntmps185
    go_wp2_with (go_at_call 183; refine h1.mono ?_; rintro e w1 ⟨rfl, rfl⟩)
    go_ret
    exact ⟨ret_bool (by rw [V.out]), rfl⟩
  | false =>
    have V : Hid ((!okB c) = decide ((c.toNat < 48 ∨ 57 < c.toNat) ∧ c.toNat ≠ 45 ∧ c.toNat ≠ 43 ∧ c.toNat ≠ 95)) := by
      show (!okB c) = _
      rw [Bool.eq_iff_iff]
      simp [okB, hl]
      omega
    have h1 := isLower_any c w
    rw [hl] at h1
    generalize c.toNat = n at *
    clear hl
    by_cases b0 : n < 48
    · have e1 : ¬ 57 < n := by omega
      by_cases b2 : n = 45
      · subst b2
        go_enter Tryz.func185, Tryz.ntmps185
        go_wp2_with (go_at_call 183; refine h1.mono ?_; rintro e w1 ⟨rfl, rfl⟩)
        go_ret
        exact ⟨ret_bool (by rw [V.out]; decide), rfl⟩
      · by_cases b3 : n = 43
        · subst b3
          go_enter Tryz.func185, Tryz.ntmps185
          go_wp2_with (go_at_call 183; refine h1.mono ?_; rintro e w1 ⟨rfl, rfl⟩)
          go_ret
          exact ⟨ret_bool (by rw [V.out]; decide), rfl⟩
        · have c2 : ((n : Int) != 45) = true := by simp; omega
          have c3 : ((n : Int) != 43) = true := by simp; omega
          have c4 : ((n : Int) != 95) = true := by simp; omega
          have c1 : (n : Int) < 48 := by omega
          have VV : Hid ((!okB c) = true) := by (show (!okB c) = true); rw [V.out]; simp; omega
          clear V b2 b3 b0
          go_enter Tryz.func185, Tryz.ntmps185
          go_wp2_with (go_at_call 183; refine h1.mono ?_; rintro e w1 ⟨rfl, rfl⟩)
          go_ret
          exact ⟨ret_bool (by rw [VV.out]), rfl⟩
    · by_cases b1 : 57 < n
      · by_cases b4 : n = 95
        · subst b4
          go_enter Tryz.func185, Tryz.ntmps185
          go_wp2_with (go_at_call 183; refine h1.mono ?_; rintro e w1 ⟨rfl, rfl⟩)
          go_ret
          exact ⟨ret_bool (by rw [V.out]; decide), rfl⟩
        · have c2 : ((n : Int) != 45) = true := by simp; omega
          have c3 : ((n : Int) != 43) = true := by simp; omega
          have c4 : ((n : Int) != 95) = true := by simp; omega
          have c1 : (57 : Int) < n := by omega
          have c0 : ¬ (n : Int) < 48 := by omega
          have VV : Hid ((!okB c) = true) := by (show (!okB c) = true); rw [V.out]; simp; omega
          clear V b4 b1 b0
          go_enter Tryz.func185, Tryz.ntmps185
          go_wp2_with (go_at_call 183; refine h1.mono ?_; rintro e w1 ⟨rfl, rfl⟩)
          go_ret
          exact ⟨ret_bool (by rw [VV.out]), rfl⟩
      · have c1 : ¬ (57 : Int) < n := by omega
        have c0 : ¬ (n : Int) < 48 := by omega
        have VV : Hid ((!okB c) = false) := by (show (!okB c) = false); rw [V.out]; simp; omega
        clear V b1 b0
        go_enter Tryz.func185, Tryz.ntmps185
        go_wp2_with (go_at_call 183; refine h1.mono ?_; rintro e w1 ⟨rfl, rfl⟩)
        go_ret
        exact ⟨ret_bool (by rw [VV.out]), rfl⟩

/-- The place of the first element of which p holds, or -1. -/
def idxP {α : Type} (p : α → Bool) (xs : List α) : Int := match xs.findIdx? p with | some i => i | none => -1
theorem idxP_hit {α : Type} {p : α → Bool} {xs : List α} {k : Nat} {x : α} (hk : xs[k]? = some x) (hp : p x = true) (hno : ∀ j y, j < k → xs[j]? = some y → p y = false) : idxP p xs = k := by
  have e : xs.findIdx? p = some k := by
    obtain ⟨hl, hx⟩ := List.getElem?_eq_some_iff.1 hk
    rw [List.findIdx?_eq_some_iff_getElem]
    refine ⟨hl, by rw [hx]; exact hp, fun j hj => ?_⟩
    have := hno j _ hj (List.getElem?_eq_getElem (by omega))
    simp [this]
  unfold idxP; rw [e]
theorem idxP_miss {α : Type} {p : α → Bool} {xs : List α} (hno : ∀ (j : Nat) y, xs[j]? = some y → p y = false) : idxP p xs = -1 := by
  have e : xs.findIdx? p = none := by
    rw [List.findIdx?_eq_none_iff]
    intro x hx
    obtain ⟨j, hj, rfl⟩ := List.getElem_of_mem hx
    exact hno j _ (List.getElem?_eq_getElem hj)
  unfold idxP; rw [e]
theorem idxP_any {α : Type} (p : α → Bool) (xs : List α) : decide (0 ≤ idxP p xs) = xs.any p := by
  unfold idxP
  cases h : xs.findIdx? p with
  | none =>
    rw [List.findIdx?_eq_none_iff] at h
    have : xs.any p = false := by rw [List.any_eq_false]; intro x hx; simp [h x hx]
    rw [this]; rfl
  | some i =>
    obtain ⟨hl, hx, _⟩ := List.findIdx?_eq_some_iff_getElem.1 h
    have : xs.any p = true := List.any_eq_true.2 ⟨_, List.getElem_mem hl, hx⟩
    rw [this]; simp
theorem idxP_rng {α : Type} (p : α → Bool) (xs : List α) : -1 ≤ idxP p xs ∧ idxP p xs < xs.length + 1 := by
  unfold idxP
  cases h : xs.findIdx? p with
  | none => simp only; omega
  | some i =>
    obtain ⟨hl, _⟩ := List.findIdx?_eq_some_iff_getElem.1 h
    simp only; omega

set_option maxRecDepth 100000 in
set_option maxHeartbeats 1000000 in
/-- slices.IndexFunc at texts, at a function value that may lay blocks. -/
theorem idxFunc_str (g : Nat) (eg : ∀ args w, (callFunc g args).run Tryz.prog w = .ok (.enter g args) w) (p : List UInt8 → Bool) (A : Option Addr) (c : Nat) (xs : List (List UInt8)) (w : World) (hl : xs.length ≤ 1000000000)
    (h : Rd w A xs) (hp : ∀ x ∈ xs, ∀ W, Below w.heap.size w W → Calls Tryz.prog g #[enS x] W fun e w' => e = .returned (.bool (p x)) ∧ Below W.heap.size W w') :
    Calls Tryz.prog 182 #[.slice A xs.length c, .func (.func g) #[] #[]] w fun e w' => e = .returned (.int .i64 (idxP p xs)) ∧ Below w.heap.size w w' := by
  have HP := Lib.hid hp; clear hp
  have HR := Lib.hid h; clear h
  go_enter Tryz.func182, Tryz.ntmps182
  go_wp2
  go_loopg [5, 8] xs.length (fun gg _ s8 wr => ∃ kk : Nat, kk ≤ xs.length ∧ xs.length - kk ≤ gg ∧ s8 = .int .i64 kk ∧ Below w.heap.size w wr ∧ Hid (∀ j y, j < kk → xs[j]? = some y → p y = false))
  case atStart => exact ⟨0, Nat.zero_le _, by omega, rfl, Below.refl _ _, fun j y hj => absurd hj (Nat.not_lt_zero _)⟩
  case round =>
    obtain ⟨kk, hkk, hg, rfl, hB, A0⟩ := hrel
    by_cases hlt : kk < xs.length
    · obtain ⟨b, o, x, rfl, _, hx, hcell⟩ := (HR.out.below hB).at_ hlt
      have hcall := HP.out x (List.mem_of_getElem? hx) wr hB
      have HX := Lib.hid hx; clear hx
      cases hq : p x with
      | true =>
        rw [hq] at hcall
        have HQ := Lib.hid hq; clear hq
        go_wp2_with (go_at_fn g; refine hcall.mono ?_; rintro e w1 ⟨rfl, b1⟩)
        go_ret
        exact ⟨ret_int (by rw [idxP_hit HX.out HQ.out A0.out]), hB.tr b1⟩
      | false =>
        rw [hq] at hcall
        have HQ := Lib.hid hq; clear hq
        go_wp2_with (go_at_fn g; refine hcall.mono ?_; rintro e w1 ⟨rfl, b1⟩)
        go_roundg (xs.length - (kk + 1))
        case measure => omega
        case rel =>
          refine ⟨kk + 1, by omega, by omega, by go_num, hB.tr b1, fun j y hj hy => ?_⟩
          rcases Nat.lt_succ_iff_lt_or_eq.1 hj with h | h
          · exact A0.out j y h hy
          · subst h; rw [HX.out] at hy; cases hy; exact HQ.out
    · obtain rfl : kk = xs.length := by omega
      go_wp2
      go_ret
      exact ⟨ret_int (by rw [idxP_miss (fun j y hy => A0.out j y (List.getElem?_eq_some_iff.1 hy).1 hy)]), hB⟩

set_option maxHeartbeats 400000 in
theorem contFunc_str (g : Nat) (eg : ∀ args w, (callFunc g args).run Tryz.prog w = .ok (.enter g args) w) (p : List UInt8 → Bool) (A : Option Addr) (c : Nat) (xs : List (List UInt8)) (w : World) (hl : xs.length ≤ 1000000000)
    (h : Rd w A xs) (hp : ∀ x ∈ xs, ∀ W, Below w.heap.size w W → Calls Tryz.prog g #[enS x] W fun e w' => e = .returned (.bool (p x)) ∧ Below W.heap.size W w') :
    Calls Tryz.prog 162 #[.slice A xs.length c, .func (.func g) #[] #[]] w fun e w' => e = .returned (.bool (xs.any p)) ∧ Below w.heap.size w w' := by
  have hi := idxFunc_str g eg p A c xs w hl h hp
  have ha := idxP_any p xs
  have HA := Lib.hid ha; clear ha
  clear h hp
  generalize idxP p xs = i at *
  go_enter Tryz.func162, Tryz.ntmps162
  go_wp2_with (go_at_call 182; refine hi.mono ?_; rintro e w1 ⟨rfl, b1⟩)
  go_ret
  exact ⟨ret_bool (by rw [← HA.out]), b1⟩

set_option maxRecDepth 100000 in
set_option maxHeartbeats 1000000 in
/-- slices.ContainsFunc at bytes with isComponent's closure. -/
theorem idxFunc_byte (b cap : Nat) (s : List UInt8) (w : World) (hl : s.length ≤ 1000000000)
    (hc : ∀ (j : Nat) x, s[j]? = some x → w.cell? ⟨b, j, none⟩ = some (.int .u8 x.toNat)) :
    Calls Tryz.prog 195 #[.slice (some ⟨b, 0, none⟩) s.length cap, .func (.func 185) #[] #[]] w fun e w' => e = .returned (.int .i64 (idxP (fun c => !okB c) s)) ∧ w = w' := by
  have HR := Lib.hid hc; clear hc
  go_enter Tryz.func195, Tryz.ntmps195
  go_wp2
  go_loopg [5, 8] s.length (fun gg _ s8 wr => ∃ kk : Nat, kk ≤ s.length ∧ s.length - kk ≤ gg ∧ s8 = .int .i64 kk ∧ w = wr ∧ Hid (∀ j y, j < kk → s[j]? = some y → (!okB y) = false))
  case atStart => exact ⟨0, Nat.zero_le _, by omega, rfl, rfl, fun j y hj => absurd hj (Nat.not_lt_zero _)⟩
  case round =>
    obtain ⟨kk, hkk, hg, rfl, rfl, A0⟩ := hrel
    by_cases hlt : kk < s.length
    · obtain ⟨x, hx⟩ : ∃ x, s[kk]? = some x := ⟨_, List.getElem?_eq_getElem hlt⟩
      have hcell := HR.out kk x hx
      have HX := Lib.hid hx; clear hx
      have hcall := notOk_any x w
      cases hq : (!okB x) with
      | true =>
        rw [hq] at hcall
        have HQ := Lib.hid hq; clear hq
        generalize x.toNat = n at *
        go_wp2_with (go_at_call 185; refine hcall.mono ?_; rintro e w1 ⟨rfl, rfl⟩)
        go_ret
        exact ⟨ret_int (by rw [idxP_hit (p := fun c => !okB c) HX.out HQ.out A0.out]), rfl⟩
      | false =>
        rw [hq] at hcall
        have HQ := Lib.hid hq; clear hq
        generalize x.toNat = n at *
        go_wp2_with (go_at_call 185; refine hcall.mono ?_; rintro e w1 ⟨rfl, rfl⟩)
        go_roundg (s.length - (kk + 1))
        case measure => omega
        case rel =>
          refine ⟨kk + 1, by omega, by omega, by go_num, rfl, fun j y hj hy => ?_⟩
          rcases Nat.lt_succ_iff_lt_or_eq.1 hj with h | h
          · exact A0.out j y h hy
          · subst h; rw [HX.out] at hy; cases hy; exact HQ.out
    · obtain rfl : kk = s.length := by omega
      go_wp2
      go_ret
      exact ⟨ret_int (by rw [idxP_miss (p := fun c => !okB c) (fun j y hy => A0.out j y (List.getElem?_eq_some_iff.1 hy).1 hy)]), rfl⟩

set_option maxHeartbeats 400000 in
theorem contFunc_byte (b cap : Nat) (s : List UInt8) (w : World) (hl : s.length ≤ 1000000000)
    (hc : ∀ (j : Nat) x, s[j]? = some x → w.cell? ⟨b, j, none⟩ = some (.int .u8 x.toNat)) :
    Calls Tryz.prog 184 #[.slice (some ⟨b, 0, none⟩) s.length cap, .func (.func 185) #[] #[]] w fun e w' => e = .returned (.bool (s.any (fun c => !okB c))) ∧ w = w' := by
  have hi := idxFunc_byte b cap s w hl hc
  have ha := idxP_any (fun c => !okB c) s
  have HA := Lib.hid ha; clear ha hc
  generalize idxP (fun c => !okB c) s = i at *
  go_enter Tryz.func184, Tryz.ntmps184
  go_wp2_with (go_at_call 195; refine hi.mono ?_; rintro e w1 ⟨rfl, rfl⟩)
  go_ret
  exact ⟨ret_bool (by rw [← HA.out]), rfl⟩
end Go.Proofs.YthgefcoaaommkaaGreatDoor

namespace Go.Proofs.YthgefcoaaommkaaGreatDoor
open Go.RowKit

theorem texts_one (xs : List (List UInt8)) : ∀ u ∈ xs.map enS, u.oneCell' = true := by
  intro u hu
  obtain ⟨x, _, rfl⟩ := List.mem_map.1 hu
  rfl
theorem addr_add (b o j : Nat) : (⟨b, o, none⟩ : Addr).add j = ⟨b, o + j, none⟩ := by
  unfold Addr.add; split
  · rename_i h; subst h; rfl
  · rfl
/-- out = append(out, y). -/
theorem wpList_app1 (wr : World) {ops : Array Oper} {rest : List Oper} {o : Oper} {a : Act} {Q : Exit → Act → World → Prop} (hgd : o.guard = none) (s x : Operand)
    (ho : o.op = .call { callee := .builtin .append, args := #[s, x], argTypes := #[40, 40] })
    (base : Nat) (v : Value) (out : List (List UInt8)) (y : List UInt8) (hown : wr.ownsRow base 9 1 v out.length (out.map enS)) (hs : a.eval s = v) (hx : a.eval x = .slice (some ⟨wr.heap.size, 0, none⟩) 1 1)
    (hlen : out.length ≤ 1000000000) (hbase : base ≤ wr.heap.size)
    (h : ∀ v' w', w'.ownsRow base 9 1 v' (out ++ [y]).length ((out ++ [y]).map enS) → Below base wr w' → wpList Tryz.prog ops Q rest (a.put o.dst v') w') : wpList Tryz.prog ops Q (o :: rest) a (wr.alloc (.cells #[enS y] 9)) := by
  obtain ⟨i0, hi, hz0, hz1, hz2⟩ := info_parts str_info
  refine wpList_append_own (P := Tryz.prog) _ hgd s x 40 ho base 9 i0 (.string ByteArray.empty) 1 16 Tryz.underlying40 hi hz0 hz1 hz2 rfl (by decide) v out.length (out.map enS) hs (hown.alloc _) ⟨wr.heap.size, 0, none⟩ 1 1 [enS y] hx rfl ?_ ?_ ?_ ?_ ?_ ?_
  · intro j u hu
    cases j with
    | zero =>
      simp only [List.getElem?_cons_zero, Option.some.injEq] at hu
      subst hu
      rw [addr_add, blk_cell (blk_new wr _)]; rfl
    | succ j => simp at hu
  · exact texts_one [y]
  · simp only [maxLen]; omega
  · omega
  · simp; omega
  · intro v' w' h1 h2 _
    refine h v' w' (by simpa using h1) ?_
    refine (((Below.refl base wr).alloc hbase _).grown h2 (by simp; omega) ?_)
    intro k hk
    exact (hown.lt k hk).1
/-- out = append(out, xs...). -/
theorem run_appN (w : World) (ty : TypeId) (base : Nat) (v : Value) (out : List (List UInt8)) (hown : w.ownsRow base 9 1 v out.length (out.map enS)) (A : Option Addr) (c : Nat) (xs : List (List UInt8)) (hr : Rd w A xs)
    (hlen : out.length + xs.length ≤ 1000000000) (hbase : base ≤ w.heap.size) :
    ∃ v' w', (Builtin.append_ #[40, 40] ty #[v, .slice A xs.length c]).run Tryz.prog w = .ok v' w' ∧ w'.ownsRow base 9 1 v' (out ++ xs).length ((out ++ xs).map enS) ∧ Below base w w' := by
  obtain ⟨i0, hi, hz0, hz1, hz2⟩ := info_parts str_info
  by_cases hx : xs = []
  · subst hx
    rcases A with _ | ad
    · refine ⟨v, w, ?_, by simpa using hown, Below.refl _ _⟩
      rcases hown.2 with ⟨rfl, h0⟩ | ⟨g, cap, cur, rfl, _, _, hnc, _⟩
      · simp [Builtin.append_, run_underlying Tryz.underlying40, sizeOf, typeInfo, hi, Builtin.lenOf, Builtin.firstCells]
      · simp [Builtin.append_, run_underlying Tryz.underlying40, sizeOf, typeInfo, hi, Builtin.lenOf, Builtin.firstCells, hnc, storeCells]
    · obtain ⟨v', w', h1, h2, h3, _⟩ := run_append_own (P := Tryz.prog) w base 40 ty 9 i0 (.string ByteArray.empty) 1 16 Tryz.underlying40 hi hz0 hz1 hz2 rfl (by decide) v out.length (out.map enS) hown ad 0 c [] rfl (fun j u hu => by simp at hu) (fun u hu => by simp at hu) (by simp only [maxLen]; omega) (by omega) hbase
      refine ⟨v', w', h1, by simpa using h2, (Below.refl base w).grown h3 hbase ?_⟩
      intro k hk
      exact (hown.lt k hk).1
  · obtain ⟨b, o, rfl, hb, hc⟩ := hr (List.length_pos_iff.2 hx)
    obtain ⟨v', w', h1, h2, h3, _⟩ := run_append_own (P := Tryz.prog) w base 40 ty 9 i0 (.string ByteArray.empty) 1 16 Tryz.underlying40 hi hz0 hz1 hz2 rfl (by decide) v out.length (out.map enS) hown ⟨b, o, none⟩ xs.length c (xs.map enS) (by simp) (by
      intro j u hu
      rw [List.getElem?_map] at hu
      cases hj : xs[j]? with
      | none => rw [hj] at hu; cases hu
      | some x =>
        rw [hj] at hu
        cases hu
        rw [addr_add]; exact hc j x hj) (texts_one xs) (by simp only [maxLen]; omega) (by omega) hbase
    refine ⟨v', w', h1, by simpa using h2, (Below.refl base w).grown h3 hbase ?_⟩
    intro k hk
    exact (hown.lt k hk).1
theorem Rd.new (w : World) (xs : List (List UInt8)) (t : TypeId) : Rd (w.alloc (.cells (xs.map enS).toArray t)) (some ⟨w.heap.size, 0, none⟩) xs := fun _ => by
  refine ⟨w.heap.size, 0, rfl, by simp, fun j x hj => ?_⟩
  rw [Nat.zero_add, blk_cell (blk_new w _) j]
  simp [hj]
theorem below_new (w : World) (o : Obj) : Below w.heap.size w (w.alloc o) := (Below.refl _ _).alloc (Nat.le_refl _) o
end Go.Proofs.YthgefcoaaommkaaGreatDoor

namespace Go.Proofs.YthgefcoaaommkaaGreatDoor
open Go.RowKit Go.Gn

theorem bytesWorld_below (w : World) (e : TypeId) (s : ByteArray) : Below w.heap.size w (Lib.bytesWorld w e s) :=
  ⟨rfl, rfl, rfl, by rw [Lib.bytesWorld_size]; omega, fun j hj => Lib.bytesWorld_at_old w e s j hj⟩
theorem bytesWorld_bytes (w : World) (e : TypeId) (s : List UInt8) : ∀ (j : Nat) x, s[j]? = some x → (Lib.bytesWorld w e ⟨s.toArray⟩).cell? ⟨w.heap.size, j, none⟩ = some (.int .u8 x.toNat) := fun j x hj => by
  obtain ⟨hl, hx⟩ := List.getElem?_eq_some_iff.1 hj
  rw [Lib.bytesWorld_cell w e ⟨s.toArray⟩ j (show j < s.toArray.size by simpa using hl)]
  simp [hl, hx]
theorem any_not_all {α : Type} (p : α → Bool) (l : List α) : (!l.any fun c => !p c) = l.all p := by
  induction l with
  | nil => rfl
  | cons a l ih => simp only [List.any_cons, List.all_cons, Bool.not_or, Bool.not_not, ih]

set_option maxRecDepth 100000 in
set_option maxHeartbeats 1000000 in
theorem isComponent_any (s : List UInt8) (w : World) (hl : s.length ≤ 1000000000) : Calls Tryz.prog 164 #[enS s] w fun e w' => e = .returned (.bool (comp s)) ∧ Below w.heap.size w w' := by
  by_cases h0 : s = []
  · subst h0
    have V : Hid (comp [] = false) := by (show comp [] = false); rfl
    go_enter Tryz.func164, Tryz.ntmps164
    go_wp2
    go_ret
    exact ⟨ret_bool V.out.symm, Below.refl _ _⟩
  · have hne : (!s.isEmpty) = true := by cases s with | nil => exact absurd rfl h0 | cons _ _ => rfl
    have hne2 : s.isEmpty = false := by cases s with | nil => exact absurd rfl h0 | cons _ _ => rfl
    have hpos : 0 < s.length := List.length_pos_iff.2 h0
    by_cases h20 : 20 < s.length
    · have V : Hid (comp s = false) := by (show comp s = false); unfold comp; rw [show decide (s.length ≤ 20) = false by simp; omega]; simp
      go_enter Tryz.func164, Tryz.ntmps164
      go_wp2
      go_ret
      exact ⟨ret_bool V.out.symm, Below.refl _ _⟩
    · have bg := bget (t := s) (p := 0) (show 0 < s.toArray.size by simpa using hpos) hpos
      obtain ⟨c, hc⟩ : ∃ c, s.getD 0 0 = c := ⟨_, rfl⟩
      rw [hc] at bg
      have HC := Lib.hid hc; clear hc
      have h1 := isLower_any c w
      cases hq : isLow c with
      | false =>
        have V : Hid (comp s = false) := by (show comp s = false); unfold comp; rw [HC.out, hq]; simp
        rw [hq] at h1
        clear hq HC
        go_enter Tryz.func164, Tryz.ntmps164
        go_wp2_with (go_at_call 183; refine h1.mono ?_; rintro e w1 ⟨rfl, rfl⟩)
        go_ret
        exact ⟨ret_bool V.out.symm, Below.refl _ _⟩
      | true =>
        have V : Hid (comp s = !s.any fun c => !okB c) := by
          show comp s = _
          rw [any_not_all]; unfold comp; rw [HC.out, hq, show decide (s.length ≤ 20) = true by simp; omega, show decide (1 ≤ s.length) = true by simp; omega]; rfl
        rw [hq] at h1
        clear hq HC
        have hconv := Lib.run_convert_string_bytes (P := Tryz.prog) w 9 90 5 ⟨s.toArray⟩ Tryz.underlying9 Tryz.underlying90 Tryz.underlying5
        have hcf := contFunc_byte w.heap.size (grownCap w s.length 0 5) s (Lib.bytesWorld w 5 ⟨s.toArray⟩) hl (bytesWorld_bytes w 5 s)
        have hb := bytesWorld_below w 5 ⟨s.toArray⟩
        generalize (s.any fun c => !okB c) = r at *
        go_enter Tryz.func164, Tryz.ntmps164
        go_wp2_with (go_at_call 183; refine h1.mono ?_; rintro e w1 ⟨rfl, rfl⟩)
        refine hcf.mono ?_; rintro e w1 ⟨rfl, rfl⟩
        go_wp2
        go_ret
        exact ⟨ret_bool V.out.symm, hb⟩

/-- strings.Split at one byte. -/
theorem split_eq (c : UInt8) (s : List UInt8) : Lib.countB ⟨s.toArray⟩ ⟨#[c]⟩ + 1 = (parts c s).length ∧ (Lib.splitB ⟨#[c]⟩ 0 (Lib.countB ⟨s.toArray⟩ ⟨#[c]⟩) ⟨s.toArray⟩).map Value.string = (parts c s).map enS := by
  have hd := Lib.splitB_data ⟨#[c]⟩ 0 (Lib.countB ⟨s.toArray⟩ ⟨#[c]⟩) ⟨s.toArray⟩
  have hs : Lib.splitK [c] 0 (Lib.countB ⟨s.toArray⟩ ⟨#[c]⟩) s = parts c s := by
    rw [← split_parts]; rfl
  have hd' : (Lib.splitB ⟨#[c]⟩ 0 (Lib.countB ⟨s.toArray⟩ ⟨#[c]⟩) ⟨s.toArray⟩).map (·.data.toList) = parts c s := by
    rw [hd, ← hs]
  refine ⟨?_, ?_⟩
  · have := Lib.splitB_all ⟨#[c]⟩ (Nat.le_refl 1) 0 _ ⟨s.toArray⟩ rfl
    rw [← this, ← hd', List.length_map]
  · rw [← hd', List.map_map]
    rfl
theorem split_any (c : UInt8) (s : List UInt8) (w : World) (hE : Env w) (hl : s.length ≤ 1000000000) :
    Calls Tryz.prog 96 #[enS s, .string ⟨#[c]⟩] w fun e w' => e = .returned (.slice (some ⟨w.heap.size, 0, none⟩) (parts c s).length (parts c s).length) ∧ w' = w.alloc (.cells ((parts c s).map enS).toArray 9) := by
  obtain ⟨m, hm⟩ := hE
  have h := Tryz.strings_Split ⟨s.toArray⟩ ⟨#[c]⟩ m w (show s.toArray.size < _ by simp; omega) hm (Nat.le_refl 1)
  rw [(split_eq c s).1, (split_eq c s).2] at h
  exact h

set_option maxHeartbeats 400000 in
theorem parts_any (s : List UInt8) (w : World) (hE : Env w) (hl : s.length ≤ 1000000000) :
    Calls Tryz.prog 161 #[enS s] w fun e w' => e = .returned (.slice (some ⟨w.heap.size, 0, none⟩) (parts 46 s).length (parts 46 s).length) ∧ w' = w.alloc (.cells ((parts 46 s).map enS).toArray 9) := by
  have h := split_any 46 s w hE hl
  generalize parts 46 s = ps at *
  go_enter Tryz.func161, Tryz.ntmps161
  go_wp2_with fail
  refine h.mono ?_; rintro e w1 ⟨rfl, rfl⟩
  go_wp2_with fail
  go_ret
  exact ⟨rfl, rfl⟩

set_option maxHeartbeats 400000 in
theorem check1_any (s : List UInt8) (w : World) (hl : s.length ≤ 1000000000) : Calls Tryz.prog 163 #[enS s] w fun e w' => e = .returned (.bool (!comp s)) ∧ Below w.heap.size w w' := by
  have h := isComponent_any s w hl
  generalize comp s = r at *
  go_enter Tryz.func163, Tryz.ntmps163
  go_wp2_with fail
  refine h.mono ?_; rintro e w1 ⟨rfl, b1⟩
  go_wp2_with fail
  go_ret
  exact ⟨rfl, b1⟩

set_option maxRecDepth 100000 in
set_option maxHeartbeats 1000000 in
theorem check_any (s : List UInt8) (w : World) (hE : Env w) (hl : s.length ≤ 1000000000) : Calls Tryz.prog 130 #[enS s] w fun e w' => e = .returned (.int .i64 (check s)) ∧ Below w.heap.size w w' := by
  by_cases h80 : 80 < s.length
  · have V : Hid (check s = 5) := by (show check s = 5); unfold check; rw [if_pos h80]
    go_enter Tryz.func130, Tryz.ntmps130
    go_wp2
    go_ret
    exact ⟨ret_int (by rw [V.out]; rfl), Below.refl _ _⟩
  · have hp := parts_any s w hE hl
    have hb := below_new w (.cells ((parts 46 s).map enS).toArray 9)
    have hn := parts_length_le 46 s
    have hcf := contFunc_str 163 (enters_of Tryz.func163 (by kernel_rfl) rfl) (fun p => !comp p) (some ⟨w.heap.size, 0, none⟩) (parts 46 s).length (parts 46 s) (w.alloc (.cells ((parts 46 s).map enS).toArray 9)) (by omega) (Rd.new w _ 9)
      (fun x hx W _ => check1_any x W (by have := parts_le 46 s x hx; omega))
    have V : Hid (check s = if (parts 46 s).any (fun p => !comp p) then 12 else if 10 < (parts 46 s).length then 9 else 0) := by (show check s = _); unfold check; rw [if_neg h80]
    generalize (parts 46 s).any (fun p => !comp p) = r at *
    generalize parts 46 s = ps at *
    cases r with
    | true =>
      go_enter Tryz.func130, Tryz.ntmps130
      go_wp2_with fail
      refine hp.mono ?_; rintro e w1 ⟨rfl, rfl⟩
      go_wp2_with fail
      refine hcf.mono ?_; rintro e w1 ⟨rfl, b1⟩
      go_wp2_with fail
      go_ret
      exact ⟨ret_int (by rw [V.out]; rfl), hb.tr b1⟩
    | false =>
      by_cases h10 : 10 < ps.length
      · go_enter Tryz.func130, Tryz.ntmps130
        go_wp2_with fail
        refine hp.mono ?_; rintro e w1 ⟨rfl, rfl⟩
        go_wp2_with fail
        refine hcf.mono ?_; rintro e w1 ⟨rfl, b1⟩
        go_wp2_with fail
        go_ret
        exact ⟨ret_int (by rw [V.out, if_neg Bool.false_ne_true, if_pos h10]; rfl), hb.tr b1⟩
      · go_enter Tryz.func130, Tryz.ntmps130
        go_wp2_with fail
        refine hp.mono ?_; rintro e w1 ⟨rfl, rfl⟩
        go_wp2_with fail
        refine hcf.mono ?_; rintro e w1 ⟨rfl, b1⟩
        go_wp2_with fail
        go_ret
        exact ⟨ret_int (by rw [V.out, if_neg Bool.false_ne_true, if_neg h10]; rfl), hb.tr b1⟩
end Go.Proofs.YthgefcoaaommkaaGreatDoor

namespace Go.Proofs.YthgefcoaaommkaaGreatDoor
open Go.RowKit Go.Gn

theorem ext1 {s : List UInt8} {k : Nat} {b : UInt8} (hk : k < s.length) (h : s.getD k 0 = b) : (⟨s.toArray⟩ : ByteArray).extract k (k + 1) = ⟨[b].toArray⟩ := by
  apply ByteArray.ext
  rw [ByteArray.data_extract]
  apply Array.toList_inj.1
  simp
  rw [List.take_drop, List.take_succ_eq_append_getElem hk]
  simp [hk] at h
  simp [h, Nat.min_eq_left (Nat.le_of_lt hk)]
/-- The call returns a slice that reads as xs; what was there is as it was. -/
def Gives (w : World) (xs : List (List UInt8)) (e : Ending) (w' : World) : Prop :=
  ∃ A c, e = .returned (.slice A xs.length c) ∧ Rd w' A xs ∧ xs.length ≤ c ∧ Below w.heap.size w w'
theorem gives_own {w w' : World} {v : Value} {xs : List (List UInt8)} (h : w'.ownsRow w.heap.size 9 1 v xs.length (xs.map enS)) (hb : Below w.heap.size w w') : Gives w xs (.returned v) w' := by
  obtain ⟨A, c, rfl⟩ := own_slice h
  obtain ⟨h1, h2, h3⟩ := Rd.of_own h
  exact ⟨A, c, rfl, h1, h3, hb⟩

set_option maxRecDepth 100000 in
set_option maxHeartbeats 1000000 in
theorem refParts_any (s : List UInt8) (c : UInt8) (w : World) (hl : s.length ≤ 100000000) :
    Calls Tryz.prog 72 #[enS s, .int .u8 c.toNat] w (Gives w (parts c s)) := by
  go_enter Tryz.func72, Tryz.ntmps72
  go_wp2
  go_loopg [5, 6, 7] s.length (fun gg ov pv iv wr => ∃ (k : Nat) (out : List (List UInt8)) (p : List UInt8), k ≤ s.length ∧ s.length - k ≤ gg ∧ iv = .int .i64 k ∧ pv = enS p ∧ out.length ≤ k ∧ wr.ownsRow w.heap.size 9 1 ov out.length (out.map enS) ∧ Below w.heap.size w wr ∧ Hid (parts c (s.take k) = out ++ [p]))
  case atStart => exact ⟨0, [], [], Nat.zero_le _, by omega, rfl, rfl, by simp, World.ownsRow_nil _ _ _ _, Below.refl _ _, (show parts c (s.take 0) = [] ++ [[]] from rfl)⟩
  case round =>
    obtain ⟨k, out, p, hk, hg, rfl, rfl, hok, hown, hB, V⟩ := hrel
    have hpl : p.length ≤ s.length := by
      have := parts_le c (s.take k) p (by rw [V.out]; simp)
      simp at this; omega
    by_cases hlt : k < s.length
    · have bg := bget (t := s) (p := k) (show k < s.toArray.size by simpa using hlt) hlt
      have hts : s.take (k + 1) = s.take k ++ [s.getD k 0] := by rw [List.take_succ_eq_append_getElem hlt]; simp [hlt]
      obtain ⟨b, hb⟩ : ∃ b, s.getD k 0 = b := ⟨_, rfl⟩
      rw [hb] at bg hts
      have HB := Lib.hid hb; clear hb
      have HT := Lib.hid hts; clear hts
      have HO := Lib.hid hown; clear hown
      by_cases hbc : b = c
      · subst hbc
        have V2 : Hid (parts b (s.take (k + 1)) = (out ++ [p]) ++ [[]]) := by
          show parts b (s.take (k + 1)) = _
          rw [HT.out, parts_snoc_sep, V.out]
        go_wp2_with (at_builtin; (refine wpList_app1 wr rfl _ _ rfl w.heap.size _ out p HO.out rfl rfl (by omega) hB.size ?_); intro v1 w1 hown1 hb1)
        have HO1 := Lib.hid hown1; clear hown1 HO
        go_wp2
        go_roundg (s.length - (k + 1))
        case measure => omega
        case rel => exact ⟨k + 1, out ++ [p], [], by omega, by omega, by go_num, rfl, by simp; omega, HO1.out, hB.trans hb1, V2.out⟩
      · have V2 : Hid (parts c (s.take (k + 1)) = out ++ [p ++ [b]]) := by
          show parts c (s.take (k + 1)) = _
          rw [HT.out, parts_snoc hbc _ _ _ V.out]
        have hne : ((b.toNat : Int) == (c.toNat : Int)) = false := by
          simp; intro e; exact hbc (UInt8.toNat_inj.1 (by omega))
        have hne2 : (b.toNat == c.toNat) = false := by
          simp; intro e; exact hbc (UInt8.toNat_inj.1 (by omega))
        have hne3 : ¬ b.toNat = c.toNat := fun e => hbc (UInt8.toNat_inj.1 e)
        have hx1 : (⟨s.toArray⟩ : ByteArray).extract k (k + 1) = ⟨[b].toArray⟩ := by
          exact ext1 hlt HB.out
        go_wp2
        go_roundg (s.length - (k + 1))
        case measure => omega
        case rel => exact ⟨k + 1, out, p ++ [b], by omega, by omega, by go_num, str_congr (bcat p [b]), by omega, HO.out, hB, V2.out⟩
    · obtain rfl : k = s.length := by omega
      rw [List.take_length] at V
      have HO := Lib.hid hown; clear hown
      go_wp2_with (at_builtin; (refine wpList_app1 wr rfl _ _ rfl w.heap.size _ out p HO.out rfl rfl (by omega) hB.size ?_); intro v1 w1 hown1 hb1)
      have HO1 := Lib.hid hown1; clear hown1 HO
      go_wp2
      go_ret
      rw [V.out]
      exact gives_own HO1.out (hB.trans hb1)
end Go.Proofs.YthgefcoaaommkaaGreatDoor

namespace Go.Proofs.YthgefcoaaommkaaGreatDoor
open Go.RowKit Go.Gn

/-- The cases of a byte of a component, as the reference tests them. -/
theorem okB_cases (c : UInt8) :
    (okB c = true ∧ (97 : Int) ≤ c.toNat ∧ (c.toNat : Int) ≤ 122) ∨
    (okB c = true ∧ (c.toNat : Int) < 97 ∧ (48 : Int) ≤ c.toNat ∧ (c.toNat : Int) ≤ 57) ∨
    (okB c = true ∧ (c.toNat : Int) < 97 ∧ (c.toNat : Int) < 48 ∧ ((c.toNat : Int) == 45) = true) ∨
    (okB c = true ∧ (c.toNat : Int) < 97 ∧ (c.toNat : Int) < 48 ∧ ((c.toNat : Int) == 45) = false ∧ ((c.toNat : Int) == 43) = true) ∨
    (okB c = true ∧ (c.toNat : Int) < 97 ∧ (48 : Int) ≤ c.toNat ∧ (57 : Int) < c.toNat ∧ ((c.toNat : Int) == 45) = false ∧ ((c.toNat : Int) == 43) = false ∧ ((c.toNat : Int) == 95) = true) ∨
    (okB c = false ∧ (c.toNat : Int) < 97 ∧ (c.toNat : Int) < 48 ∧ ((c.toNat : Int) == 45) = false ∧ ((c.toNat : Int) == 43) = false ∧ ((c.toNat : Int) == 95) = false) ∨
    (okB c = false ∧ (c.toNat : Int) < 97 ∧ (48 : Int) ≤ c.toNat ∧ (57 : Int) < c.toNat ∧ ((c.toNat : Int) == 45) = false ∧ ((c.toNat : Int) == 43) = false ∧ ((c.toNat : Int) == 95) = false) ∨
    (okB c = false ∧ (97 : Int) ≤ c.toNat ∧ (122 : Int) < c.toNat ∧ (48 : Int) ≤ c.toNat ∧ (57 : Int) < c.toNat ∧ ((c.toNat : Int) == 45) = false ∧ ((c.toNat : Int) == 43) = false ∧ ((c.toNat : Int) == 95) = false) := by
  have e : okB c = decide ((97 ≤ c.toNat ∧ c.toNat ≤ 122) ∨ (48 ≤ c.toNat ∧ c.toNat ≤ 57) ∨ c.toNat = 45 ∨ c.toNat = 43 ∨ c.toNat = 95) := by
    rw [Bool.eq_iff_iff]; simp only [okB, isLow, Bool.or_eq_true, Bool.and_eq_true, decide_eq_true_eq, or_assoc]
  rw [e]
  simp only [decide_eq_true_eq, decide_eq_false_iff_not, beq_iff_eq, beq_eq_false_iff_ne, ne_eq]
  omega
theorem isLow_cases (c : UInt8) :
    (isLow c = true ∧ (97 : Int) ≤ c.toNat ∧ (c.toNat : Int) ≤ 122) ∨ (isLow c = false ∧ (c.toNat : Int) < 97) ∨ (isLow c = false ∧ (97 : Int) ≤ c.toNat ∧ (122 : Int) < c.toNat) := by
  have e : isLow c = decide (97 ≤ c.toNat ∧ c.toNat ≤ 122) := by
    rw [Bool.eq_iff_iff]; simp only [isLow, Bool.and_eq_true, decide_eq_true_eq]
  rw [e]
  simp only [decide_eq_true_eq, decide_eq_false_iff_not]
  omega
theorem take_all_snoc {α : Type} (p : α → Bool) (s : List α) (k : Nat) (d : α) (hk : k < s.length) : (s.take (k + 1)).all p = ((s.take k).all p && p (s.getD k d)) := by
  rw [List.take_succ_eq_append_getElem hk, List.all_append]; simp [hk]

set_option maxRecDepth 100000 in
set_option maxHeartbeats 4000000 in
theorem refComponent_any (s : List UInt8) (w : World) (hl : s.length ≤ 1000000000) : Calls Tryz.prog 133 #[enS s] w fun e w' => e = .returned (.bool (comp s)) ∧ w = w' := by
  by_cases h0 : s.length < 1
  · have V : Hid (comp s = false) := by (show comp s = false); unfold comp; rw [decide_eq_false (show ¬ 1 ≤ s.length by omega)]; rfl
    have h1 : s.length = 0 := by omega
    clear h1
    go_enter Tryz.func133, Tryz.ntmps133
    go_wp2
    go_ret
    exact ⟨ret_bool V.out.symm, rfl⟩
  · have hpos : 0 < s.length := by omega
    by_cases h20 : 20 < s.length
    · have V : Hid (comp s = false) := by (show comp s = false); unfold comp; rw [show decide (s.length ≤ 20) = false by simp; omega]; simp
      go_enter Tryz.func133, Tryz.ntmps133
      go_wp2
      go_ret
      exact ⟨ret_bool V.out.symm, rfl⟩
    · have bg := bget (t := s) (p := 0) (show 0 < s.toArray.size by simpa using hpos) hpos
      obtain ⟨c, hc⟩ : ∃ c, s.getD 0 0 = c := ⟨_, rfl⟩
      rw [hc] at bg
      have HC := Lib.hid hc; clear hc
      rcases isLow_cases c with ⟨hq, c1, c2⟩ | ⟨hq, c1⟩ | ⟨hq, c1, c2⟩
      · have V : Hid (comp s = s.all okB) := by
          show comp s = _
          unfold comp; rw [HC.out, hq, show decide (s.length ≤ 20) = true by simp; omega, show decide (1 ≤ s.length) = true by simp; omega]; rfl
        have V0 : Hid ((s.take 1).all okB = true) := by
          show (s.take 1).all okB = true
          rw [take_all_snoc okB s 0 0 hpos, HC.out]; simp [okB_low hq]
        clear hq HC
        go_enter Tryz.func133, Tryz.ntmps133
        go_wp2
        clear bg c1 c2
        go_loopg [3, 4] s.length (fun gg iv _ wr => ∃ k : Nat, 1 ≤ k ∧ k ≤ s.length ∧ s.length - k ≤ gg ∧ iv = .int .i64 k ∧ w = wr ∧ Hid ((s.take k).all okB = true))
        case atStart => exact ⟨1, by omega, by omega, by omega, rfl, rfl, V0⟩
        case round =>
          obtain ⟨k, hk1, hk, hg, rfl, rfl, A0⟩ := hrel
          by_cases hlt : k < s.length
          · have bg := bget (t := s) (p := k) (show k < s.toArray.size by simpa using hlt) hlt
            have hsn := take_all_snoc okB s k 0 hlt
            obtain ⟨b, hb⟩ : ∃ b, s.getD k 0 = b := ⟨_, rfl⟩
            rw [hb] at bg hsn
            have HB := Lib.hid hb; clear hb
            have HS := Lib.hid hsn; clear hsn
            rcases okB_cases b with ⟨hq, q1, q2⟩ | ⟨hq, q1, q2, q3⟩ | ⟨hq, q1, q2, q3⟩ | ⟨hq, q1, q2, q3, q4⟩ | ⟨hq, q1, q2, q3, q4, q5, q6⟩ | ⟨hq, q1, q2, q3, q4, q5⟩ | ⟨hq, q1, q2, q3, q4, q5, q6⟩ | ⟨hq, q1, q2, q3, q4, q5, q6, q7⟩
            all_goals
              have HQ := Lib.hid hq; clear hq
              try (have d57 : decide ((b.toNat : Int) ≤ 57) = false := decide_eq_false (by omega))
              try (have d122 : decide ((b.toNat : Int) ≤ 122) = false := decide_eq_false (by omega))
              go_wp2
            all_goals first
              | (go_roundg (s.length - (k + 1))
                 case measure => omega
                 case rel => exact ⟨k + 1, by omega, by omega, by omega, by go_num, rfl, (show (s.take (k + 1)).all okB = true by rw [HS.out, A0.out, HQ.out]; rfl)⟩)
              | (go_ret
                 refine ⟨ret_bool ?_, rfl⟩
                 rw [V.out]
                 refine (List.all_eq_false.2 ⟨b, ?_, by rw [HQ.out]; simp⟩).symm
                 rw [← HB.out]
                 simp [hlt])
          · obtain rfl : k = s.length := by omega
            rw [List.take_length] at A0
            go_wp2
            go_ret
            exact ⟨ret_bool (by rw [V.out, A0.out]), rfl⟩
      all_goals
        have V : Hid (comp s = false) := by (show comp s = false); unfold comp; rw [HC.out, hq]; simp
        clear hq HC
        go_enter Tryz.func133, Tryz.ntmps133
        go_wp2
        go_ret
        exact ⟨ret_bool V.out.symm, rfl⟩
end Go.Proofs.YthgefcoaaommkaaGreatDoor

namespace Go.Proofs.YthgefcoaaommkaaGreatDoor
open Go.RowKit Go.Gn


set_option maxRecDepth 100000 in
set_option maxHeartbeats 2000000 in
theorem refCheck_any (s : List UInt8) (w : World) (hl : s.length ≤ 100000000) : Calls Tryz.prog 99 #[enS s] w fun e w' => e = .returned (.int .i64 (check s)) ∧ Below w.heap.size w w' := by
  by_cases h80 : 80 < s.length
  · have V : Hid (check s = 5) := by (show check s = 5); unfold check; rw [if_pos h80]
    go_enter Tryz.func99, Tryz.ntmps99
    go_wp2
    go_ret
    exact ⟨ret_int (by rw [V.out]; rfl), Below.refl _ _⟩
  · have hp := refParts_any s 46 w hl
    have hn := parts_length_le 46 s
    have hx : Hid (∀ x ∈ parts 46 s, x.length ≤ 1000000000) := fun x hx => by have := parts_le 46 s x hx; omega
    have V : Hid (check s = if (parts 46 s).any (fun p => !comp p) then 12 else if 10 < (parts 46 s).length then 9 else 0) := by (show check s = _); unfold check; rw [if_neg h80]
    have hn : (parts 46 s).length ≤ 1000000000 := by omega
    generalize parts 46 s = ps at *
    go_enter Tryz.func99, Tryz.ntmps99
    go_wp2_with fail
    refine hp.mono ?_; rintro e w1 ⟨A, c, rfl, hr, hc, hb⟩
    have HR := Lib.hid hr; clear hr
    go_wp2_with fail
    go_loopg [4] ps.length (fun gg iv wr => ∃ k : Nat, k ≤ ps.length ∧ ps.length - k ≤ gg ∧ iv = .int .i64 k ∧ w1 = wr ∧ Hid ((ps.take k).all comp = true))
    case atStart => exact ⟨0, by omega, by omega, rfl, rfl, rfl⟩
    case round =>
      obtain ⟨k, hk, hg, rfl, rfl, A0⟩ := hrel
      by_cases hlt : k < ps.length
      · obtain ⟨b, o, x, rfl, _, hxk, hcell⟩ := HR.out.at_ hlt
        have hsn := take_all_snoc comp ps k [] hlt
        have hgx : ps.getD k [] = x := by rw [List.getD_eq_getElem?_getD, hxk]; rfl
        rw [hgx] at hsn
        have HX := Lib.hid hxk; clear hxk
        have HS := Lib.hid hsn; clear hsn hgx
        have hcomp := refComponent_any x w1 (hx.out x (List.mem_of_getElem? HX.out))
        cases hq : comp x with
        | true =>
          rw [hq] at hcomp
          have HQ := Lib.hid hq; clear hq
          go_wp2_with (go_at_call 133; refine hcomp.mono ?_; rintro e w2 ⟨rfl, rfl⟩)
          go_roundg (ps.length - (k + 1))
          case measure => omega
          case rel => exact ⟨k + 1, by omega, by omega, by go_num, rfl, (show (ps.take (k + 1)).all comp = true by rw [HS.out, A0.out, HQ.out]; rfl)⟩
        | false =>
          rw [hq] at hcomp
          have HQ := Lib.hid hq; clear hq
          go_wp2_with (go_at_call 133; refine hcomp.mono ?_; rintro e w2 ⟨rfl, rfl⟩)
          go_ret
          refine ⟨ret_int ?_, hb⟩
          rw [V.out, if_pos]
          · rfl
          · exact List.any_eq_true.2 ⟨x, List.mem_of_getElem? HX.out, by rw [HQ.out]; rfl⟩
      · obtain rfl : k = ps.length := by omega
        rw [List.take_length] at A0
        have hany : ps.any (fun p => !comp p) = false := by
          rw [List.any_eq_false]
          intro x hx
          rw [List.all_eq_true.1 A0.out x hx]; simp
        have HA := Lib.hid hany; clear hany
        by_cases h10 : 10 < ps.length
        · go_wp2
          go_ret
          exact ⟨ret_int (by rw [V.out, HA.out, if_neg Bool.false_ne_true, if_pos h10]; rfl), hb⟩
        · go_wp2
          go_ret
          exact ⟨ret_int (by rw [V.out, HA.out, if_neg Bool.false_ne_true, if_neg h10]; rfl), hb⟩

/-- The text grows by a separator, if it is not the first, and the next part. -/
theorem text_take (c : UInt8) (xs : List (List UInt8)) (k : Nat) (x : List UInt8) (h : xs[k]? = some x) : text c (xs.take (k + 1)) = (if 0 < k then text c (xs.take k) ++ [c] else text c (xs.take k)) ++ x := by
  obtain ⟨hl, hx⟩ := List.getElem?_eq_some_iff.1 h
  rw [List.take_succ_eq_append_getElem hl, hx]
  by_cases hk : 0 < k
  · rw [if_pos hk, text_snoc]
    · simp
    · intro e; have := congrArg List.length e; simp only [List.length_take, List.length_nil] at this; omega
  · rw [if_neg hk]
    obtain rfl : k = 0 := by omega
    rw [List.take_zero, List.nil_append, text_one]; rfl
theorem text_len_le (c : UInt8) (xs : List (List UInt8)) (k : Nat) (M : Nat) (h : (text c xs).length ≤ M) : (text c (xs.take k)).length ≤ M := Nat.le_trans (text_length_take c xs k) h
theorem check_ok {s : List UInt8} (h : check s = 0) (w : World) (hE : Env w) (hl : s.length ≤ 1000000000) : Calls Tryz.prog 130 #[enS s] w fun e w' => e = .returned (.int .i64 0) ∧ Below w.heap.size w w' := by
  have := check_any s w hE hl
  rw [h] at this
  exact this
theorem refCheck_ok {s : List UInt8} (h : check s = 0) (w : World) (hl : s.length ≤ 100000000) : Calls Tryz.prog 99 #[enS s] w fun e w' => e = .returned (.int .i64 0) ∧ Below w.heap.size w w' := by
  have := refCheck_any s w hl
  rw [h] at this
  exact this
theorem join_any (A : Option Addr) (c : Nat) (xs : List (List UInt8)) (s : UInt8) (w : World) (hr : Rd w A xs) (hn : xs.length ≤ 1000000000) (hc : xs.length ≤ c) (hl : (text s xs).length ≤ 1000000000) :
    Calls Tryz.prog 47 #[.slice A xs.length c, .string ⟨#[s]⟩] w fun e w' => e = .returned (enS (text s xs)) ∧ Below w.heap.size w w' := by
  by_cases h0 : xs = []
  · subst h0
    exact (Tryz.strings_Join_none A c ⟨#[s]⟩ w).mono fun e w' ⟨h1, h2⟩ => ⟨h1, h2 ▸ Below.refl _ _⟩
  · obtain ⟨b, o, rfl, hb, hcell⟩ := hr (List.length_pos_iff.2 h0)
    have e1 : (xs.map fun x => (⟨x.toArray⟩ : ByteArray)).map (·.data.toList) = xs := by
      rw [List.map_map]; exact (List.map_congr_left fun x _ => rfl).trans (List.map_id xs)
    have h := Tryz.strings_Join b o c (xs.map fun x => (⟨x.toArray⟩ : ByteArray)) ⟨#[s]⟩ w (fun j x hx => by
      rw [List.getElem?_map] at hx
      cases hj : xs[j]? with
      | none => rw [hj] at hx; cases hx
      | some y => rw [hj] at hx; cases hx; exact hcell j y hj) hb (by simp; omega) (by simpa using hc) (by rw [e1]; exact Nat.le_trans hl (by decide))
    rw [e1, List.length_map] at h
    exact h

/-- The first error of the names of a list behind others. -/
def clGo (seen : List (List UInt8)) : List (List UInt8) → Nat
  | [] => 0
  | x :: r => if check x ≠ 0 then check x else if x ∈ seen then 7 else clGo (seen ++ [x]) r
/-- The first error of a list of names. -/
def checkL (l : List (List UInt8)) : Nat := if 20 < l.length then 9 else clGo [] l
theorem clGo_zero : ∀ (l seen : List (List UInt8)), clGo seen l = 0 → ∀ x ∈ l, check x = 0
  | [], _, _, x, hx => by simp at hx
  | y :: r, seen, h, x, hx => by
    unfold clGo at h
    split at h
    · rename_i hc; exact absurd h hc
    · rename_i hc
      split at h
      · cases h
      · simp at hx
        rcases hx with rfl | hx
        · omega
        · exact clGo_zero r _ h x hx
theorem checkL_zero {l : List (List UInt8)} (h : checkL l = 0) : l.length ≤ 20 ∧ ∀ x ∈ l, check x = 0 := by
  unfold checkL at h
  split at h
  · cases h
  · exact ⟨by omega, clGo_zero l [] h⟩
theorem clGo_at {l : List (List UInt8)} {k : Nat} {x : List UInt8} (h : l[k]? = some x) : clGo (l.take k) (l.drop k) = if check x ≠ 0 then check x else if x ∈ l.take k then 7 else clGo (l.take (k + 1)) (l.drop (k + 1)) := by
  obtain ⟨hl, hx⟩ := List.getElem?_eq_some_iff.1 h
  rw [List.drop_eq_getElem_cons hl, hx, clGo, List.take_succ_eq_append_getElem hl, hx]
theorem clGo_rng : ∀ (l seen : List (List UInt8)), clGo seen l ≤ 12
  | [], _ => by simp [clGo]
  | x :: r, seen => by
    have := clGo_rng r (seen ++ [x])
    unfold clGo
    have := check_cases x
    split
    · omega
    · split <;> omega
theorem text_len_bound (c : UInt8) (M : Nat) : ∀ (xs : List (List UInt8)), (∀ x ∈ xs, x.length ≤ M) → (text c xs).length ≤ xs.length * (M + 1)
  | [], _ => by simp [text_nil]
  | [x], h => by rw [text_one]; have := h x (by simp); simp; omega
  | x :: y :: r, h => by
    have ih := text_len_bound c M (y :: r) (fun z hz => h z (by simp [hz]))
    have := h x (by simp)
    rw [text_cons]
    simp only [List.length_append, List.length_cons, Nat.add_mul] at ih ⊢
    omega
theorem text_len_checked {l : List (List UInt8)} (h : checkL l = 0) : (text 44 l).length ≤ 1620 := by
  have h' := checkL_zero h
  have := text_len_bound 44 80 l (fun x hx => ((check_zero x).1 (h'.2 x hx)).1)
  have := h'.1
  omega

theorem containsS_mem (xs : List (List UInt8)) (x : List UInt8) : Lib.containsS (xs.map fun x => (⟨x.toArray⟩ : ByteArray)) ⟨x.toArray⟩ = decide (x ∈ xs) := by
  rw [Bool.eq_iff_iff, Lib.containsS_iff, decide_eq_true_eq, List.mem_map]
  constructor
  · rintro ⟨y, hy, e⟩
    have : y = x := by
      have := congrArg (fun b : ByteArray => b.data.toList) e
      simpa using this
    rw [← this]; exact hy
  · intro h; exact ⟨x, h, rfl⟩
theorem contains_any (A : Option Addr) (c : Nat) (xs : List (List UInt8)) (x : List UInt8) (w : World) (hr : Rd w A xs) (hn : xs.length ≤ 1000000000) :
    Calls Tryz.prog 80 #[.slice A xs.length c, enS x] w fun e w' => e = .returned (.bool (decide (x ∈ xs))) ∧ w' = w := by
  by_cases h0 : xs = []
  · subst h0
    refine (Tryz.slices_Contains_string_empty A c ⟨x.toArray⟩ w).mono fun e w' ⟨h1, h2⟩ => ⟨?_, h2⟩
    rw [h1]; simp
  · obtain ⟨b, o, rfl, hb, hcell⟩ := hr (List.length_pos_iff.2 h0)
    have h := Tryz.slices_Contains_string b o xs.length c (xs.map fun x => (⟨x.toArray⟩ : ByteArray)) ⟨x.toArray⟩ w (by simp) (by omega) (fun j hj => by
      simp at hj
      have := hcell j _ (List.getElem?_eq_getElem hj)
      rw [this]
      simp [hj])
    refine h.mono fun e w' ⟨h1, h2⟩ => ⟨?_, h2⟩
    rw [h1]
    refine congrArg (fun b => Ending.returned (.bool b)) ?_
    rw [List.take_of_length_le (by simp), containsS_mem]

set_option maxRecDepth 100000 in
set_option maxHeartbeats 4000000 in
theorem checkList_any (A : Option Addr) (c : Nat) (xs : List (List UInt8)) (w : World) (hE : Env w) (hr : Rd w A xs) (hc : xs.length ≤ c) (hn : xs.length ≤ 1000000000) (hl : ∀ x ∈ xs, x.length ≤ 1000000000) :
    Calls Tryz.prog 101 #[.slice A xs.length c] w fun e w' => e = .returned (.int .i64 (checkL xs)) ∧ Below w.heap.size w w' := by
  have HR := Lib.hid hr; clear hr
  have HL := Lib.hid hl; clear hl
  by_cases h20 : 20 < xs.length
  · have V : Hid (checkL xs = 9) := by (show checkL xs = 9); unfold checkL; rw [if_pos h20]
    go_enter Tryz.func101, Tryz.ntmps101
    go_wp2
    go_ret
    exact ⟨ret_int (by rw [V.out]; rfl), Below.refl _ _⟩
  · have V : Hid (checkL xs = clGo [] xs) := by (show checkL xs = _); unfold checkL; rw [if_neg h20]
    go_enter Tryz.func101, Tryz.ntmps101
    go_wp2
    go_loopg [3, 4, 5, 11] xs.length (fun gg _ _ _ iv wr => ∃ k : Nat, k ≤ xs.length ∧ xs.length - k ≤ gg ∧ iv = .int .i64 k ∧ Below w.heap.size w wr ∧ Hid (checkL xs = clGo (xs.take k) (xs.drop k)))
    case atStart => exact ⟨0, by omega, by omega, rfl, Below.refl _ _, V⟩
    case round =>
      obtain ⟨k, hk, hg, rfl, hB, T⟩ := hrel
      by_cases hlt : k < xs.length
      · obtain ⟨b, o, x, rfl, _, hxk, hcell⟩ := (HR.out.below hB).at_ hlt
        have hst := clGo_at hxk
        have HX := Lib.hid hxk; clear hxk
        have hlx := HL.out x (List.mem_of_getElem? HX.out)
        by_cases hz : check x = 0
        · rw [if_neg (by omega)] at hst
          have h1 := check_ok hz wr (hE.below hB) hlx
          have htl : (xs.take k).length = k := by rw [List.length_take]; omega
          have HC := Lib.hid (fun W (hb : Below wr.heap.size wr W) => contains_any (some ⟨b, o, none⟩) c (xs.take k) x W (((HR.out.below hB).below hb).take k) (by omega))
          rw [htl] at HC
          clear hz htl
          have hkc : (k : Int) ≤ c := by omega
          have hkn : k ≤ c := by omega
          by_cases hm : x ∈ xs.take k
          · rw [if_pos hm] at hst
            rw [decide_eq_true hm] at HC
            have HS := Lib.hid hst; clear hst hm
            go_wp2_with fail
            refine h1.mono ?_; rintro e w2 ⟨rfl, b2⟩
            go_wp2_with fail
            refine (HC.out w2 b2).mono ?_; rintro e w3 ⟨rfl, rfl⟩
            go_wp2_with fail
            go_ret
            exact ⟨ret_int (by rw [T.out, HS.out]; rfl), hB.tr b2⟩
          · rw [if_neg hm] at hst
            rw [decide_eq_false hm] at HC
            have HS := Lib.hid hst; clear hst hm
            go_wp2_with fail
            refine h1.mono ?_; rintro e w2 ⟨rfl, b2⟩
            go_wp2_with fail
            refine (HC.out w2 b2).mono ?_; rintro e w3 ⟨rfl, rfl⟩
            go_wp2_with fail
            go_roundg (xs.length - (k + 1))
            case measure => omega
            case rel => exact ⟨k + 1, by omega, by omega, by go_num, hB.tr b2, (T.out.trans HS.out)⟩
        · rw [if_pos (by omega)] at hst
          have h1 := check_any x wr (hE.below hB) hlx
          have hne : ((check x : Int) != 0) = true := by simp; omega
          have HS := Lib.hid hst; clear hst hz
          generalize check x = r at *
          go_wp2_with fail
          refine h1.mono ?_; rintro e w2 ⟨rfl, b2⟩
          go_wp2_with fail
          go_ret
          exact ⟨ret_int (by rw [T.out, HS.out]), hB.tr b2⟩
      · obtain rfl : k = xs.length := by omega
        have E : Hid (checkL xs = 0) := by
          have := T.out
          rw [List.drop_length] at this
          exact this
        go_wp2_with fail
        go_ret
        exact ⟨ret_int (by rw [E.out]; rfl), hB⟩

set_option maxRecDepth 100000 in
set_option maxHeartbeats 1000000 in
theorem formatList_any (A : Option Addr) (c : Nat) (xs : List (List UInt8)) (w : World) (hE : Env w) (hr : Rd w A xs) (hc : xs.length ≤ c) (hn : xs.length ≤ 1000000000) (hl : ∀ x ∈ xs, x.length ≤ 1000000000) :
    Calls Tryz.prog 78 #[.slice A xs.length c] w fun e w' => e = .returned (.tuple #[enS (if xs.length = 0 ∨ checkL xs ≠ 0 then [] else text 44 xs), .int .i64 (if xs.length = 0 then 4 else checkL xs : Nat)]) ∧ Below w.heap.size w w' := by
  by_cases h0 : xs.length = 0
  · rw [if_pos (.inl h0), if_pos h0]
    go_enter Tryz.func78, Tryz.ntmps78
    go_wp2
    go_ret2
    exact ⟨rfl, Below.refl _ _⟩
  · have h1 := checkList_any A c xs w hE hr hc hn hl
    rw [if_neg h0]
    have h00 : ((xs.length : Int) == 0) = false := by simp; intro e; exact h0 (by rw [e]; rfl)
    have h02 : (xs.length == 0) = false := by simp; intro e; exact h0 (by rw [e]; rfl)
    by_cases hz : checkL xs = 0
    · rw [if_neg (by omega), hz]
      rw [hz] at h1
      have hj := Lib.hid (fun W (hb : Below w.heap.size w W) => join_any A c xs 44 W (hr.below hb) hn hc (by have := text_len_checked hz; omega))
      clear hr hl hz h0
      go_enter Tryz.func78, Tryz.ntmps78
      go_wp2_with fail
      refine h1.mono ?_; rintro e w1 ⟨rfl, b1⟩
      go_wp2_with fail
      refine (hj.out w1 b1).mono ?_; rintro e w2 ⟨rfl, b2⟩
      go_wp2_with fail
      go_ret2
      exact ⟨rfl, b1.tr b2⟩
    · rw [if_pos (.inr hz)]
      have hne : ((checkL xs : Int) != 0) = true := by simp; omega
      clear hr hl hz h0
      generalize checkL xs = r at *
      go_enter Tryz.func78, Tryz.ntmps78
      go_wp2_with fail
      refine h1.mono ?_; rintro e w1 ⟨rfl, b1⟩
      go_wp2_with fail
      go_ret2
      exact ⟨rfl, b1⟩


set_option maxRecDepth 100000 in
set_option maxHeartbeats 4000000 in
theorem refCheckList_any (A : Option Addr) (c : Nat) (xs : List (List UInt8)) (w : World) (hr : Rd w A xs) (hn : xs.length ≤ 1000000000) (hl : ∀ x ∈ xs, x.length ≤ 100000000) :
    Calls Tryz.prog 76 #[.slice A xs.length c] w fun e w' => e = .returned (.int .i64 (checkL xs)) ∧ Below w.heap.size w w' := by
  have HR := Lib.hid hr; clear hr
  have HL := Lib.hid hl; clear hl
  by_cases h20 : 20 < xs.length
  · have V : Hid (checkL xs = 9) := by (show checkL xs = 9); unfold checkL; rw [if_pos h20]
    go_enter Tryz.func76, Tryz.ntmps76
    go_wp2
    go_ret
    exact ⟨ret_int (by rw [V.out]; rfl), Below.refl _ _⟩
  · have V : Hid (checkL xs = clGo [] xs) := by (show checkL xs = _); unfold checkL; rw [if_neg h20]
    go_enter Tryz.func76, Tryz.ntmps76
    go_wp2
    go_loopg [3, 4, 5] xs.length (fun gg iv _ _ wr => ∃ k : Nat, k ≤ xs.length ∧ xs.length - k ≤ gg ∧ iv = .int .i64 k ∧ Below w.heap.size w wr ∧ Hid (checkL xs = clGo (xs.take k) (xs.drop k)))
    case atStart => exact ⟨0, by omega, by omega, rfl, Below.refl _ _, V⟩
    case round =>
      obtain ⟨k, hk, hg, rfl, hB, T⟩ := hrel
      by_cases hlt : k < xs.length
      · obtain ⟨b, o, x, rfl, _, hxk, hcell⟩ := (HR.out.below hB).at_ hlt
        have hst := clGo_at hxk
        have HX := Lib.hid hxk; clear hxk
        have hlx := HL.out x (List.mem_of_getElem? HX.out)
        by_cases hz : check x = 0
        · rw [if_neg (by omega)] at hst
          have h1 := refCheck_ok hz wr hlx
          clear hz
          have HS := Lib.hid hst; clear hst
          go_wp2_with fail
          refine h1.mono ?_; rintro e w2 ⟨rfl, b2⟩
          have hB2 := hB.tr b2
          clear b2 hB hcell
          have hcell : w2.cell? ⟨b, o + k, none⟩ = some (enS x) := by
            obtain ⟨b', o', x', e1, _, e2, e3⟩ := (HR.out.below hB2).at_ hlt
            cases e1
            rw [HX.out] at e2; cases e2
            exact e3
          go_wp2_with fail
          go_loopg [5] k (fun g2 jv wq => ∃ j n : Nat, j ≤ k ∧ k - j ≤ g2 ∧ jv = .int .i64 j ∧ wq = w2.drewN n ∧ Hid (∀ i y, i < j → xs[i]? = some y → y ≠ x))
          case atStart => exact ⟨0, 0, by omega, by omega, rfl, rfl, fun i y hi => absurd hi (by omega)⟩
          case round =>
            obtain ⟨j, n, hj, hg2, rfl, rfl, T2⟩ := hrel
            by_cases hjk : j < k
            · obtain ⟨b', o', y, e1, _, hyj, hcell2⟩ := (HR.out.below hB2).at_ (show j < xs.length by omega)
              cases e1
              have HY := Lib.hid hyj; clear hyj
              have hjx : j < xs.length := by omega
              by_cases hyx : y = x
              · subst hyx
                have HM : Hid (y ∈ xs.take k) := by
                  show y ∈ xs.take k
                  rw [List.mem_take_iff_getElem]
                  obtain ⟨l1, e1⟩ := List.getElem?_eq_some_iff.1 HY.out
                  exact ⟨j, by omega, e1⟩
                go_wp2_with fail
                go_quiet (fail)
                go_wp2_with fail
                go_ret
                exact ⟨ret_int (by rw [T.out, HS.out, if_pos HM.out]; rfl), (hB2.drewN _).drewN _⟩
              · have e1 : (y == x) = false := by simpa using hyx
                have NE := Lib.hid hyx; clear hyx
                go_wp2_with fail
                go_quiet (fail)
                go_wp2_with fail
                go_roundg (k - (j + 1))
                case measure => omega
                case rel =>
                  refine ⟨j + 1, _, by omega, by omega, by go_num, rfl, fun i z hi hz => ?_⟩
                  rcases Nat.lt_succ_iff_lt_or_eq.1 hi with h | h
                  · exact T2.out i z h hz
                  · subst h; rw [HY.out] at hz; cases hz; exact NE.out
            · obtain rfl : j = k := by omega
              have HM : Hid (x ∉ xs.take j) := fun hm => by
                obtain ⟨i, hi, e⟩ := List.getElem_of_mem hm
                rw [List.getElem_take] at e
                rw [List.length_take] at hi
                exact T2.out i x (by omega) (by rw [List.getElem?_eq_getElem (by omega), e]) rfl
              go_wp2_with fail
              go_roundg (xs.length - (j + 1))
              case measure => omega
              case rel => exact ⟨j + 1, by omega, by omega, by go_num, hB2.drewN _, T.out.trans (HS.out.trans (if_neg HM.out))⟩
        · rw [if_pos (by omega)] at hst
          have h1 := refCheck_any x wr hlx
          have hne : ((check x : Int) != 0) = true := by simp; omega
          have HS := Lib.hid hst; clear hst hz
          generalize check x = r at *
          go_wp2_with fail
          refine h1.mono ?_; rintro e w2 ⟨rfl, b2⟩
          go_wp2_with fail
          go_ret
          exact ⟨ret_int (by rw [T.out, HS.out]), hB.tr b2⟩
      · obtain rfl : k = xs.length := by omega
        have E : Hid (checkL xs = 0) := by
          have := T.out
          rw [List.drop_length] at this
          exact this
        go_wp2_with fail
        go_ret
        exact ⟨ret_int (by rw [E.out]; rfl), hB⟩



end Go.Proofs.YthgefcoaaommkaaGreatDoor

namespace Go.Proofs.YthgefcoaaommkaaGreatDoor
open Go.Shelf Go.RowKit

theorem bldSize : (Tryz.prog.info? 92).map (·.size) = some 2 := by kernel_rfl
theorem bldLies : liesAt Tryz.prog Tryz.prog.depth 92 (2 / Tryz.prog.cellsOf 92) 0 92 1 = true := by kernel_rfl
theorem byteInfo : (Tryz.prog.info? 5).map (fun i => (i.zero, i.size, i.bytes)) = some (some (.int .u8 0), 1, 1) := by kernel_rfl

theorem own_row {w : World} {base n size : Nat} {e : TypeId} {v : Value} {xs : List Value} (h : w.ownsRow base e size v n xs) : ∀ g, v.ownBlock = some g → ∃ c fz, w.heap[g]? = some (.cells c e fz) := by
  intro g hg
  rcases h.2 with ⟨e1, _⟩ | ⟨g', cap, cur, e1, _, hg', _⟩
  · subst e1; cases hg
  · subst e1; cases hg; exact ⟨_, _, hg'⟩

set_option maxHeartbeats 1000000 in
set_option maxRecDepth 100000 in
theorem bldCheck_used (b : Nat) (w : World) (h0 : w.cell? ⟨b, 0, none⟩ = some (.pointer (some ⟨b, 0, none⟩))) :
    Calls Tryz.prog 84 #[.pointer (some ⟨b, 0, none⟩)] w fun e w' => e = .returned (.tuple #[]) ∧ w' = w := by
  obtain ⟨j, hj, _⟩ := Option.map_eq_some_iff.1 bldSize
  go_enter Tryz.func84, Tryz.ntmps84
  go_wp2
  rw [Lib.run_neq_ptr_same w _ Tryz.underlying89 hj]
  go_wp2
  go_end0
  exact ⟨rfl, rfl⟩

set_option maxHeartbeats 1000000 in
set_option maxRecDepth 100000 in
theorem bldCheck_fresh (b : Nat) (w : World) (h0 : w.cell? ⟨b, 0, none⟩ = some (.pointer none)) (hsh : w.shape? b = some (92, 2)) (hfz : w.frozen? ⟨b, 0, none⟩ = false) :
    Calls Tryz.prog 84 #[.pointer (some ⟨b, 0, none⟩)] w fun e w' => e = .returned (.tuple #[]) ∧ w' = w.setCell ⟨b, 0, none⟩ (.pointer (some ⟨b, 0, none⟩)) := by
  obtain ⟨j, hj, hjs⟩ := Option.map_eq_some_iff.1 bldSize
  go_enter Tryz.func84, Tryz.ntmps84
  go_wp2
  rw [Lib.run_to_unsafe w ⟨b, 0, none⟩ Tryz.underlying89 Tryz.underlying166 hj (by rw [hjs]; decide) hsh (Nat.zero_lt_succ 1)]
  simp only [Result.andThen]
  rw [Oper.upon_value]
  go_wp2
  rw [run_callFunc_extern Tryz.func114 (by kernel_rfl) (by kernel_rfl) (by kernel_rfl) (e := Extern.AbiNoEscape.same) (by kernel_rfl)]
  rw [Lib.run_noEscape]
  simp only [Result.andThen]
  rw [Oper.upon_value]
  go_wp2
  rw [Lib.run_from_unsafe w ⟨b, 0, none⟩ Tryz.underlying166 Tryz.underlying89 hj hsh bldLies]
  simp only [Result.andThen]
  rw [Oper.upon_value]
  go_wp2
  go_end0
  exact ⟨rfl, rfl⟩

theorem bldCheck (B b : Nat) (bs : List Value) (w : World) (h : Lib.IsBuilder 92 5 B b bs w) :
    Calls Tryz.prog 84 #[.pointer (some ⟨b, 0, none⟩)] w fun e w' => e = .returned (.tuple #[]) ∧ (Lib.BuilderAt 92 5 B b (.pointer (some ⟨b, 0, none⟩)) bs w' ∧ Below B w w' ∧ Lib.OthersKept 5 (some b) w w') := by
  rcases h with h | h
  · refine (bldCheck_fresh b w h.cell0 h.shape h.frozen0).mono ?_
    rintro e w' ⟨rfl, rfl⟩
    exact ⟨rfl, h.used _, (Below.refl B w).setCell (p := ⟨b, 0, none⟩) h.1 _, (Lib.OthersKept.refl 5 (some b) w).setCell ⟨b, 0, none⟩ rfl _⟩
  · refine (bldCheck_used b w h.cell0).mono ?_
    rintro e w' ⟨rfl, rfl⟩
    exact ⟨rfl, h, Below.refl B _, Lib.OthersKept.refl 5 (some b) _⟩

set_option maxHeartbeats 2000000 in
set_option maxRecDepth 100000 in
theorem bldByte (B b : Nat) (bs : List Value) (c : Int) (w : World) (h : Lib.IsBuilder 92 5 B b bs w) (hlen : bs.length + 1 ≤ 140737488355328) (hBw : B ≤ w.heap.size) :
    Calls Tryz.prog 48 #[.pointer (some ⟨b, 0, none⟩), .int .u8 c] w fun e w' => e = .returned .nilIface ∧ (Lib.BuilderAt 92 5 B b (.pointer (some ⟨b, 0, none⟩)) (bs ++ [.int .u8 c]) w' ∧ Below B w w' ∧ Lib.OthersKept 5 (some b) w w') := by
  obtain ⟨i0, hi, hz0, hz1, hz2⟩ := info_parts byteInfo
  go_enter Tryz.func48, Tryz.ntmps48
  go_wp2_with fail
  refine (bldCheck B b bs _ h).mono ?_
  rintro e w1 ⟨rfl, h1, hb1, hk1⟩
  obtain ⟨hB, v, hbk, hown, hne⟩ := h1
  have c0 : w1.cell? ⟨b, 0, none⟩ = some (.pointer (some ⟨b, 0, none⟩)) := by rw [Lib.cell_of_heap hbk]; rfl
  have c1 : w1.cell? ⟨b, 1, none⟩ = some v := by rw [Lib.cell_of_heap hbk]; rfl
  go_wp2_with (at_builtin; refine wpList_append_own _ rfl _ _ 90 rfl B 5 i0 (.int .u8 0) 1 1 Tryz.underlying90 hi hz0 hz1 hz2 rfl (by decide) _ _ _ rfl (hown.alloc _) ⟨w1.heap.size, 0, none⟩ 1 1 [.int .u8 c] rfl rfl ?c1 ?c2 ?c3 ?c4 ?c5 ?_)
  case c1 =>
    intro j u hj
    match j, hj with
    | 0, hj => simp at hj; subst hj; simp [Addr.add]
  case c2 => intro u hu; simp at hu; subst hu; rfl
  case c3 => unfold maxLen; omega
  case c4 => omega
  case c5 => have := hb1.size; simp; omega
  intro v' w2 hown' hgrow _
  have hlt : b < w1.heap.size := blk_lt hbk
  have hb2 : w2.heap[b]? = some (.cells #[.pointer (some ⟨b, 0, none⟩), v] 92 (0, 0)) := by
    rw [hgrow.block b (by simp; omega) (fun e => hne e.symm), Lib.alloc_old w1 _ b hlt]
    exact hbk
  have d0 : w2.cell? ⟨b, 0, none⟩ = some (.pointer (some ⟨b, 0, none⟩)) := by rw [Lib.cell_of_heap hb2]; rfl
  have d1 : w2.cell? ⟨b, 1, none⟩ = some v := by rw [Lib.cell_of_heap hb2]; rfl
  have f1 : w2.frozen? ⟨b, 1, none⟩ = false := Lib.frozen_of_heap hb2 1
  obtain ⟨g, cap, rfl⟩ : ∃ g cap, v' = .slice (some ⟨g, 0, none⟩) (bs.length + 1) cap := by
    rcases hown'.2 with ⟨_, h0⟩ | ⟨g, cap, cur, hv, _⟩
    · omega
    · exact ⟨g, cap, hv⟩
  go_wp2
  go_ret
  refine ⟨rfl, ?_, ?_, ?_⟩
  · exact Lib.BuilderAt.put (T := 92) (e := 5) hB hb2 (bs' := bs ++ [.int .u8 c]) (by simpa using hown') (by decide)
  · exact ((hb1.alloc (by have := hb1.size; omega) _).grown hgrow (by have := hb1.size; simp; omega) (fun k hk => (hown.lt k hk).1)).setCell (p := ⟨b, 1, none⟩) hB _
  · exact ((hk1.alloc _).grown hgrow (own_row (hown.alloc _))).setCell ⟨b, 1, none⟩ rfl _

set_option maxHeartbeats 2000000 in
set_option maxRecDepth 100000 in
theorem bldStr (B b : Nat) (bs : List Value) (s : ByteArray) (w : World) (h : Lib.IsBuilder 92 5 B b bs w) (hlen : bs.length + s.size ≤ 140737488355328) (hBw : B ≤ w.heap.size) :
    Calls Tryz.prog 46 #[.pointer (some ⟨b, 0, none⟩), .string s] w fun e w' => e = .returned (.tuple #[.int .i64 s.size, .nilIface]) ∧ (Lib.BuilderAt 92 5 B b (.pointer (some ⟨b, 0, none⟩)) (bs ++ Lib.strCells s) w' ∧ Below B w w' ∧ Lib.OthersKept 5 (some b) w w') := by
  obtain ⟨i0, hi, hz0, hz1, hz2⟩ := info_parts byteInfo
  go_enter Tryz.func46, Tryz.ntmps46
  go_wp2_with fail
  refine (bldCheck B b bs _ h).mono ?_
  rintro e w1 ⟨rfl, h1, hb1, hk1⟩
  obtain ⟨hB, v, hbk, hown, hne⟩ := h1
  have c0 : w1.cell? ⟨b, 0, none⟩ = some (.pointer (some ⟨b, 0, none⟩)) := by rw [Lib.cell_of_heap hbk]; rfl
  have c1 : w1.cell? ⟨b, 1, none⟩ = some v := by rw [Lib.cell_of_heap hbk]; rfl
  go_wp2_with (at_builtin; refine Lib.wpList_append_own_string _ rfl _ _ 90 9 rfl B 5 i0 Tryz.underlying90 Tryz.underlying9 hi hz0 hz1 hz2 _ _ _ rfl hown s rfl ?c3 ?c4 ?c5 ?_)
  case c3 => unfold maxLen; omega
  case c4 => omega
  case c5 => have := hb1.size; omega
  intro v' w2 hown' hgrow _
  have hlt : b < w1.heap.size := blk_lt hbk
  have hb2 : w2.heap[b]? = some (.cells #[.pointer (some ⟨b, 0, none⟩), v] 92 (0, 0)) := by
    rw [hgrow.block b hlt (fun e => hne e.symm)]
    exact hbk
  have d0 : w2.cell? ⟨b, 0, none⟩ = some (.pointer (some ⟨b, 0, none⟩)) := by rw [Lib.cell_of_heap hb2]; rfl
  have d1 : w2.cell? ⟨b, 1, none⟩ = some v := by rw [Lib.cell_of_heap hb2]; rfl
  have f1 : w2.frozen? ⟨b, 1, none⟩ = false := Lib.frozen_of_heap hb2 1
  obtain ⟨ao, n', cap, rfl⟩ : ∃ ao n' cap, v' = .slice ao n' cap := by
    rcases hown'.2 with ⟨hv, _⟩ | ⟨g, cap, cur, hv, _⟩
    · exact ⟨_, _, _, hv⟩
    · exact ⟨_, _, _, hv⟩
  go_wp2
  go_ret2
  refine ⟨rfl, ?_, ?_, ?_⟩
  · exact Lib.BuilderAt.put (T := 92) (e := 5) hB hb2 (bs' := bs ++ Lib.strCells s) (by simpa [Lib.strCells_length] using hown') (by decide)
  · exact (hb1.grown hgrow (by have := hb1.size; omega) (fun k hk => (hown.lt k hk).1)).setCell (p := ⟨b, 1, none⟩) hB _
  · exact (hk1.grown hgrow (own_row hown)).setCell ⟨b, 1, none⟩ rfl _
end Go.Proofs.YthgefcoaaommkaaGreatDoor

namespace Go.Proofs.YthgefcoaaommkaaGreatDoor
open Go.RowKit

theorem own2_slice {w : World} {base n size : Nat} {e : TypeId} {v : Value} {xs : List Value} (h : w.ownsRow base e size v n xs) : ∃ A c, v = .slice A n c := by
  rcases h.2 with ⟨e1, e2⟩ | ⟨g, cap, cur, e1, _⟩
  · exact ⟨none, 0, by rw [e1, e2]⟩
  · exact ⟨_, cap, e1⟩
theorem own2_cap {w : World} {base n c size : Nat} {e : TypeId} {A : Option Addr} {xs : List Value} (h : w.ownsRow base e size (.slice A n c) n xs) : c ≤ maxLen := by
  rcases h.2 with ⟨e1, _⟩ | ⟨g, cap, cur, e1, _, _, _, hm, _⟩
  · cases e1; simp [maxLen]
  · cases e1; exact hm
/-- Cells that a slice reads. -/
def RdC (w : World) (A : Option Addr) (xs : List Value) : Prop := 0 < xs.length → ∃ b o, A = some ⟨b, o, none⟩ ∧ ∀ j u, xs[j]? = some u → w.cell? ⟨b, o + j, none⟩ = some u
theorem addr_addN (b o j : Nat) : (⟨b, o, none⟩ : Addr).add j = ⟨b, o + j, none⟩ := by
  unfold Addr.add
  split
  · rename_i e; subst e; rfl
  · rfl
theorem new_cell (w : World) (cs : Array Value) (t : TypeId) (b j : Nat) (hb : b = w.heap.size) : (w.alloc (.cells cs t)).cell? ⟨b, j, none⟩ = cs[j]? := by
  subst hb; exact blk_cell (blk_new _ _) j
/-- The world behind a draw, laid open. -/
theorem laid_cell {w : World} {p : Addr} {v : Value} (h : w.cell? p = some v) (n : Nat) : ({ heap := w.heap, tape := w.tape, drawn := n, os := w.os, output := w.output } : World).cell? p = some v := h
theorem laid_free {w : World} {p : Addr} {f : Bool} (h : w.frozen? p = f) (n : Nat) : ({ heap := w.heap, tape := w.tape, drawn := n, os := w.os, output := w.output } : World).frozen? p = f := h
/-- append(v, s...): v a row of the call's own, s whatever slice: what is no block of v's own is as it was. -/
theorem run_appC {t E : TypeId} {i : TypeInfo} {z : Value} {size bytes : Nat} (ht : Tryz.prog.underlying t = some (.slice E)) (hi : Tryz.prog.info? E = some i) (hz0 : i.zero = some z) (hz1 : i.size = size) (hz2 : i.bytes = bytes) (hzs : z.cells.size = size) (hsz : 0 < size)
    (w : World) (ty : TypeId) (base : Nat) (v : Value) (n : Nat) (xs : List Value) (hown : w.ownsRow base E size v n xs) (A : Option Addr) (m c : Nat) (ys : List Value) (hm : ys.length = m * size) (hr : RdC w A ys) (h1 : ∀ u ∈ ys, u.oneCell' = true)
    (hlen : n + m ≤ 1000000000) (hby : bytes ≤ 1000) (hbase : base ≤ w.heap.size) :
    ∃ v' w', (Builtin.append_ #[t, t] ty #[v, .slice A m c]).run Tryz.prog w = .ok v' w' ∧ w'.ownsRow base E size v' (n + m) (xs ++ ys) ∧ w.grownBy w' v.ownBlock := by
  have hbb : (n + m) * bytes ≤ 140737488355328 := by
    have : (n + m) * bytes ≤ 1000000000 * 1000 := Nat.mul_le_mul hlen hby
    omega
  rcases A with _ | ad
  · have hy : ys = [] := by
      cases ys with
      | nil => rfl
      | cons a ys =>
        obtain ⟨b, o, e, _⟩ := hr (by simp)
        cases e
    subst hy
    have hm0 : m = 0 := by
      rcases Nat.eq_zero_or_pos m with h | h
      · exact h
      · have := Nat.mul_pos h hsz
        simp at hm; omega
    subst hm0
    refine ⟨v, w, ?_, by simpa using hown, ⟨rfl, rfl, rfl, Nat.le_refl _, fun _ _ _ => rfl⟩⟩
    rcases hown.2 with ⟨rfl, h0⟩ | ⟨g, cap, cur, rfl, _, _, hnc, _⟩
    · simp [Builtin.append_, run_underlying ht, sizeOf, typeInfo, hi, Builtin.lenOf, Builtin.firstCells]
    · simp [Builtin.append_, run_underlying ht, sizeOf, typeInfo, hi, Builtin.lenOf, Builtin.firstCells, hnc, storeCells]
  · obtain ⟨v', w', a1, a2, a3, _⟩ := run_append_own (P := Tryz.prog) w base t ty E i z size bytes ht hi hz0 hz1 hz2 hzs hsz v n xs hown ad m c ys hm (fun j u hu => by
      obtain ⟨b, o, e, hc⟩ := hr (by
        have := (List.getElem?_eq_some_iff.1 hu).1
        omega)
      cases e
      rw [addr_addN]; exact hc j u hu) h1 (by simp only [maxLen]; omega) hbb hbase
    exact ⟨v', w', a1, a2, a3⟩
/-- .. as an operation of the walk. -/
theorem wpList_appC {t E : TypeId} {i : TypeInfo} {z : Value} {size bytes : Nat} (ht : Tryz.prog.underlying t = some (.slice E)) (hi : Tryz.prog.info? E = some i) (hz0 : i.zero = some z) (hz1 : i.size = size) (hz2 : i.bytes = bytes) (hzs : z.cells.size = size) (hsz : 0 < size)
    (w : World) {ops : Array Oper} {rest : List Oper} {o : Oper} {a : Act} {Q : Exit → Act → World → Prop} (hgd : o.guard = none) (s x : Operand) (ho : o.op = .call { callee := .builtin .append, args := #[s, x], argTypes := #[t, t] })
    (base : Nat) (v : Value) (n : Nat) (xs : List Value) (hown : w.ownsRow base E size v n xs) (hs : a.eval s = v) (A : Option Addr) (m c : Nat) (ys : List Value) (hm : ys.length = m * size) (hr : RdC w A ys) (hx : a.eval x = .slice A m c) (h1 : ∀ u ∈ ys, u.oneCell' = true)
    (hlen : n + m ≤ 1000000000) (hby : bytes ≤ 1000) (hbase : base ≤ w.heap.size)
    (h : ∀ v' w', w'.ownsRow base E size v' (n + m) (xs ++ ys) → w.grownBy w' v.ownBlock → Below base w w' → wpList Tryz.prog ops Q rest (a.put o.dst v') w') : wpList Tryz.prog ops Q (o :: rest) a w := by
  refine wpList_plain hgd fun K hK => ?_
  obtain ⟨v', w', hrun, h2, h3⟩ := run_appC ht hi hz0 hz1 hz2 hzs hsz w o.type base v n xs hown A m c ys hm hr h1 hlen hby hbase
  unfold Oper.wp execOp
  simp only [ho, resolve, invoke, builtin, Sem.run_bind, Sem.run_pure, Result.andThen_ok, List.map_toArray, List.map_cons, List.map_nil, hs, hx, hrun]
  exact hK _ _ (h v' w' h2 h3 ((Below.refl base w).grown h3 hbase fun k hk => (hown.lt k hk).1))
/-- The empty row of the call's own: a block without cells. -/
theorem own2_empty (w : World) (N size : Nat) (E : TypeId) (hN : N ≤ w.heap.size) : (w.alloc (.cells #[] E)).ownsRow N E size (.slice (some ⟨w.heap.size, 0, none⟩) 0 0) 0 [] :=
  ⟨by simp, .inr ⟨w.heap.size, 0, #[], rfl, hN, blk_new w _, by simp, by simp [maxLen], by simp, by simp⟩⟩
theorem own2_nil (w : World) (N size : Nat) (E : TypeId) : w.ownsRow N E size (.slice none 0 0) 0 [] := ⟨by simp, .inl ⟨rfl, rfl⟩⟩
theorem own_grown_below {w w' : World} {base n size : Nat} {e : TypeId} {v : Value} {xs : List Value} (h : w.ownsRow base e size v n xs) (hb : base ≤ w.heap.size) (hg : w.grownBy w' v.ownBlock) : Below base w w' :=
  (Below.refl base w).grown hg hb fun k hk => (h.lt k hk).1
/-- A row of the call's own stays one while blocks elsewhere are laid or written. -/
theorem own_keep {w w' : World} {base n size : Nat} {e : TypeId} {v : Value} {xs : List Value} (h : w.ownsRow base e size v n xs) (hk : ∀ k, k < w.heap.size → v.ownBlock = some k → w'.heap[k]? = w.heap[k]?) : w'.ownsRow base e size v n xs := by
  refine ⟨h.1, ?_⟩
  rcases h.2 with hl | ⟨g, cap, cur, e1, hb, hg, hr⟩
  · exact .inl hl
  · exact .inr ⟨g, cap, cur, e1, hb, by rw [hk g (blk_lt hg) (by rw [e1]; rfl)]; exact hg, hr⟩
theorem own_below {w w' : World} {base n size : Nat} {e : TypeId} {v : Value} {xs : List Value} (h : w.ownsRow base e size v n xs) (hb : Below w.heap.size w w') : w'.ownsRow base e size v n xs := own_keep h fun k hk _ => hb.block k hk
section
variable {P : Program} {ops : Array Oper} {rest : List Oper} {op : Oper} {a : Act} {w : World} {Q : Exit → Act → World → Prop}
/-- Many cells into the block that was made last. -/
theorem wpList_store_new (hgd : op.guard = none) (ty : TypeId) (x y : Operand) (ho : op.op = .store ty x y) (c : Array Value) (cells : Array Value) (hx : a.eval x = .pointer (some ⟨w.heap.size, 0, none⟩)) (hy : a.eval y = .agg cells)
    (hi : (P.info? ty).map (·.size) = some cells.size) (hs : c.size = cells.size) (h1 : cells.all (·.oneCell') = true) (h : wpList P ops Q rest (a.put op.dst undef) (w.alloc (.cells cells ty))) : wpList P ops Q (op :: rest) a (w.alloc (.cells c ty)) :=
  wpList_plain hgd fun _ hK => by
    unfold Oper.wp execOp
    simp only [ho, hx, hy, Sem.run_bind, Sem.run_pure, run_storeAt_new (P := P) w ty c cells hi hs h1, Result.andThen_ok]
    exact hK _ _ h
end
theorem range_blk {w : World} {b : Nat} {cs : List Value} {t : TypeId} {fr : Nat × Nat} (h : w.heap[b]? = some (.cells cs.toArray t fr)) : w.rangeAt b 0 cs := fun j v hv => by
  rw [Nat.zero_add, blk_cell h j]; simpa using hv
section
variable {P : Program} {ops : Array Oper} {C : World → Prop} {Q : Act → Prop} {a : Act} {o : Oper} {rest : List Oper}
/-- A load of many cells in a quiet walk. -/
theorem quiet_load_mid {K : Act → Prop} (ty : TypeId) (x : Operand) (ho : o.op = .load ty x) (b i : Nat) (hx : a.eval x = .pointer (some ⟨b, i, none⟩)) (cs : List Value) (d : TypeDesc) (hc : ∀ w, C w → w.rangeAt b i cs)
    (hu : P.underlying ty = some d) (hd : d.isRow = true) (hi : (P.info? ty).map (·.size) = some cs.length) (hk : K (a.put o.dst (.agg cs.toArray))) : o.quiet P a C K :=
  ⟨_, fun w hw => by
    unfold Oper.quietAt execOp
    simp only [ho, hx, Instr.loadAt, Instr.sureAddr, Sem.run_bind, Sem.run_pure, Result.andThen_ok, run_loadVar_mid w b i ty cs d (hc w hw) hu hd hi]
    exact ⟨rfl, rfl⟩, hk⟩
theorem quiet_build {K : Act → Prop} (t : TypeId) (parts : Array (Nat × Operand)) (ho : o.op = .build t parts) (cells : Array Value) (hb : P.built t (parts.map fun (i, x) => (i, a.eval x)).toList = some cells) (hk : K (a.put o.dst (.agg cells))) : o.quiet P a C K :=
  ⟨_, fun w _ => by
    unfold Oper.quietAt execOp
    simp only [ho, Sem.run_bind, run_build w t _ cells hb, Result.andThen_ok]
    exact ⟨rfl, rfl⟩, hk⟩
end
theorem range_below {w w' : World} {b o : Nat} {cs : List Value} (h : w.rangeAt b o cs) (hb : Below w.heap.size w w') : w'.rangeAt b o cs := fun j v hv => Below.cellv hb (h j v hv)
end Go.Proofs.YthgefcoaaommkaaGreatDoor
