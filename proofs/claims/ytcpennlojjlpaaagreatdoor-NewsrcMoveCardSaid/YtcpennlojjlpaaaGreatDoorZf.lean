/- The marks of groups in memory.
   The marks of groups in memory: reading, storing, appending; the contract of find.
   Contract of find; append to the marks.
   Contracts: Subscribe, Unsubscribe.
   Contracts: change, Read, Unread, CatchUp.
   Contracts: the closures of Read, Unread, CatchUp; Read, Unread, CatchUp. -/
import Derived.Test.YtcpennlojjlpaaaGreatDoorZe
import Derived.Test.YtcpennlojjlpaaaGreatDoorZa
import Derived.Test.YtcpennlojjlpaaaGreatDoorZc
namespace Go.Proofs.YtcpennlojjlpaaaGreatDoor
open Go.RowKit Go.Nr

/-- A set in memory, its block of ranges. -/
structure SetOk (w : World) (A : Option Addr) (c : Nat) (l : List Rg) : Prop where
  rd : RdR w A l
  sl : SlR A c l.length
  ty : ∀ a, A = some a → Ty w a.block 42
theorem SetOk.nil (w : World) : SetOk w none 0 [] := ⟨RdR.nil, SlR.nil, fun a h => by cases h⟩
/-- Where a set's block is as it was. -/
theorem SetOk.keep {w w' : World} {A : Option Addr} {c : Nat} {l : List Rg} (h : SetOk w A c l) (hs : w.heap.size ≤ w'.heap.size) (hk : ∀ k, k < w.heap.size → Ty w k 42 → w'.heap[k]? = w.heap[k]?) : SetOk w' A c l := by
  refine ⟨fun hl => ?_, h.sl, fun a ha => (h.ty a ha).keep (hk _ (h.ty a ha).lt (h.ty a ha))⟩
  obtain ⟨b, o, e, hlt, hc⟩ := h.rd hl
  have := hk b hlt (h.ty _ e)
  refine ⟨b, o, e, by omega, fun j r hj => ?_⟩
  have := hc j r hj
  simp only [World.cell?] at *
  rw [‹w'.heap[b]? = w.heap[b]?›]
  exact this
theorem SetOk.below {w w' : World} {A : Option Addr} {c : Nat} {l : List Rg} (h : SetOk w A c l) (hb : Below w.heap.size w w') : SetOk w' A c l := h.keep hb.size fun k hk _ => hb.block k hk

/-- A mark's three cells. -/
def mcells (x : G × Option Addr × Nat) : List Value := [enS x.1.1, .bool x.1.2.1, .slice x.2.1 x.1.2.2.length x.2.2]
def mflat (xs : List (G × Option Addr × Nat)) : List Value := xs.flatMap mcells
theorem mflat_nil : mflat [] = [] := rfl
theorem mflat_cons (x : G × Option Addr × Nat) (xs : List (G × Option Addr × Nat)) : mflat (x :: xs) = enS x.1.1 :: .bool x.1.2.1 :: .slice x.2.1 x.1.2.2.length x.2.2 :: mflat xs := rfl
theorem mflat_append (a b : List (G × Option Addr × Nat)) : mflat (a ++ b) = mflat a ++ mflat b := by simp [mflat]
theorem mflat_length : ∀ xs : List (G × Option Addr × Nat), (mflat xs).length = xs.length * 3
  | [] => rfl
  | x :: xs => by rw [mflat_cons]; simp [mflat_length xs]; omega
theorem mflat_at : ∀ (xs : List (G × Option Addr × Nat)) (j : Nat) (x : G × Option Addr × Nat), xs[j]? = some x → (mflat xs)[j * 3]? = some (enS x.1.1) ∧ (mflat xs)[j * 3 + 1]? = some (.bool x.1.2.1) ∧ (mflat xs)[j * 3 + 2]? = some (.slice x.2.1 x.1.2.2.length x.2.2)
  | [], _, _, h => by simp at h
  | y :: ys, 0, x, h => by simp at h; subst h; rw [mflat_cons]; simp
  | y :: ys, j + 1, x, h => by
    rw [mflat_cons, show (j + 1) * 3 = j * 3 + 3 by omega]
    have := mflat_at ys j x (by simpa using h)
    simpa using this
theorem mflat_one (xs : List (G × Option Addr × Nat)) : ∀ u ∈ mflat xs, u.oneCell' = true := by
  intro u hu
  obtain ⟨x, _, hu⟩ := List.mem_flatMap.1 hu
  simp [mcells] at hu
  rcases hu with rfl | rfl | rfl <;> rfl
theorem mflat_bool : ∀ (xs : List (G × Option Addr × Nat)) (j : Nat) (b : Bool), j < xs.length → (mflat xs).set (j * 3 + 1) (.bool b) = mflat (xs.modify j fun x => ((x.1.1, b, x.1.2.2), x.2))
  | [], _, _, h => by simp at h
  | y :: ys, 0, b, _ => by rw [mflat_cons]; simp [mflat_cons]
  | y :: ys, j + 1, b, h => by
    rw [mflat_cons, show (j + 1) * 3 + 1 = (j * 3 + 1) + 3 by omega, List.modify_succ_cons, mflat_cons]
    simp [mflat_bool ys j b (by simpa using h)]
theorem mflat_set : ∀ (xs : List (G × Option Addr × Nat)) (j : Nat) (l : List Rg) (A : Option Addr) (c : Nat), j < xs.length → (mflat xs).set (j * 3 + 2) (.slice A l.length c) = mflat (xs.modify j fun x => ((x.1.1, x.1.2.1, l), A, c))
  | [], _, _, _, _, h => by simp at h
  | y :: ys, 0, l, A, c, _ => by rw [mflat_cons]; simp [mflat_cons]
  | y :: ys, j + 1, l, A, c, h => by
    rw [mflat_cons, show (j + 1) * 3 + 2 = (j * 3 + 2) + 3 by omega, List.modify_succ_cons, mflat_cons]
    simp [mflat_set ys j l A c (by simpa using h)]

/-- Marks at block p, their row in block R. -/
structure MkX (w : World) (p : Nat) (R : Option Nat) (A : Option Addr) (c : Nat) (xs : List (G × Option Addr × Nat)) : Prop where
  at_ : w.heap[p]? = some (.cells #[.slice A xs.length c] 143 (0, 0))
  own : w.ownsRow 0 139 3 (.slice A xs.length c) xs.length (mflat xs)
  row : R = (Value.slice A xs.length c).ownBlock
  sets : ∀ x ∈ xs, SetOk w x.2.1 x.2.2 x.1.2.2
def MkAt (w : World) (p : Nat) (R : Option Nat) (gs : List G) : Prop := ∃ A c xs, xs.map (·.1) = gs ∧ MkX w p R A c xs
/-- All old blocks but the marks' own are as they were. -/
structure Kept (p : Nat) (R : Option Nat) (w w' : World) : Prop where
  os : w'.os = w.os
  tape : w'.tape = w.tape
  output : w'.output = w.output
  size : w.heap.size ≤ w'.heap.size
  block : ∀ k, k < w.heap.size → k ≠ p → some k ≠ R → w'.heap[k]? = w.heap[k]?
theorem Kept.of_below {p : Nat} {R : Option Nat} {w w' : World} (h : Below w.heap.size w w') : Kept p R w w' := ⟨h.os, h.tape, h.output, h.size, fun k hk _ _ => h.block k hk⟩
theorem Kept.below {p : Nat} {R : Option Nat} {w w' : World} (h : Kept p R w w') {B : Nat} (hB : B ≤ w.heap.size) (hp : B ≤ p) (hR : ∀ g, R = some g → B ≤ g) : Below B w w' :=
  ⟨h.os, h.tape, h.output, h.size, fun k hk => h.block k (by omega) (by omega) fun e => by have := hR k e.symm; omega⟩
theorem Kept.trans {p : Nat} {R R' : Option Nat} {u v w : World} (h : Kept p R u v) (k : Kept p R' v w) (hR : R' = R ∨ ∃ g, R' = some g ∧ u.heap.size ≤ g) : Kept p R u w :=
  ⟨k.os.trans h.os, k.tape.trans h.tape, k.output.trans h.output, Nat.le_trans h.size k.size, fun i hi h1 h2 => (k.block i (by have := h.size; omega) h1 (by
    rcases hR with rfl | ⟨g, rfl, hg⟩
    · exact h2
    · intro e; cases e; omega)).trans (h.block i hi h1 h2)⟩
theorem MkX.row_ty {w : World} {p : Nat} {R : Option Nat} {A : Option Addr} {c : Nat} {xs : List (G × Option Addr × Nat)} (h : MkX w p R A c xs) {g : Nat} (hg : R = some g) : Ty w g 139 := by
  have e := h.row
  rcases h.own.2 with ⟨e1, _⟩ | ⟨g', cap, cur, e1, _, hg', _⟩
  · rw [e1, hg] at e; cases e
  · rw [e1, hg] at e; cases e; exact ⟨_, _, hg'⟩
theorem MkX.p_ty {w : World} {p : Nat} {R : Option Nat} {A : Option Addr} {c : Nat} {xs : List (G × Option Addr × Nat)} (h : MkX w p R A c xs) : Ty w p 143 := ⟨_, _, h.at_⟩
/-- What the marks do not touch by its type. -/
theorem Kept.typed {p : Nat} {R : Option Nat} {w w' : World} (hk : Kept p R w w') {A : Option Addr} {c : Nat} {xs : List (G × Option Addr × Nat)} (h : MkX w p R A c xs) {k : Nat} {T : TypeId} (hT : Ty w k T) (h1 : T ≠ 143) (h2 : T ≠ 139) : w'.heap[k]? = w.heap[k]? :=
  hk.block k hT.lt (fun e => by subst e; exact h1 (hT.uniq h.p_ty)) fun e => h2 (hT.uniq (h.row_ty e.symm))
theorem MkX.below {w w' : World} {p : Nat} {R : Option Nat} {A : Option Addr} {c : Nat} {xs : List (G × Option Addr × Nat)} (h : MkX w p R A c xs) (hb : Below w.heap.size w w') : MkX w' p R A c xs :=
  ⟨blk_below hb h.at_, own_below h.own hb, h.row, fun x hx => (h.sets x hx).below hb⟩
theorem MkAt.below {w w' : World} {p : Nat} {R : Option Nat} {gs : List G} (h : MkAt w p R gs) (hb : Below w.heap.size w w') : MkAt w' p R gs := by
  obtain ⟨A, c, xs, e, h⟩ := h
  exact ⟨A, c, xs, e, h.below hb⟩
/-- Other marks are as they were. -/
theorem MkX.apart {w w' : World} {p q : Nat} {R S : Option Nat} {A B : Option Addr} {c d : Nat} {xs ys : List (G × Option Addr × Nat)} (h : MkX w p R A c xs) (k : MkX w q S B d ys) (hk : Kept p R w w') (hpq : q ≠ p) (hRS : ∀ g, S = some g → R ≠ some g) : MkX w' q S B d ys := by
  have hq : w'.heap[q]? = w.heap[q]? := hk.block q k.p_ty.lt hpq fun e => by
    have := (h.row_ty e.symm).uniq k.p_ty
    exact absurd this (by decide)
  refine ⟨hq.trans k.at_, own_keep k.own fun i hi e => ?_, k.row, fun x hx => (k.sets x hx).keep hk.size fun i hi hT => hk.typed h hT (by decide) (by decide)⟩
  have hS : S = some i := by rw [k.row]; exact e
  refine hk.block i hi (fun e => ?_) fun e => hRS i hS e.symm
  subst e
  exact absurd ((k.row_ty hS).uniq h.p_ty) (by decide)
end Go.Proofs.YtcpennlojjlpaaaGreatDoor

namespace Go.Proofs.YtcpennlojjlpaaaGreatDoor
open Go.RowKit Go.Nr

theorem mem_modify {α : Type} {f : α → α} : ∀ {xs : List α} {i : Nat} {y : α}, y ∈ xs.modify i f → ∃ x ∈ xs, y = x ∨ y = f x
  | [], _, y, h => by simp at h
  | x :: xs, 0, y, h => by
    simp at h
    rcases h with rfl | h
    · exact ⟨x, by simp, .inr rfl⟩
    · exact ⟨y, by simp [h], .inl rfl⟩
  | x :: xs, i + 1, y, h => by
    rw [List.modify_succ_cons] at h
    simp at h
    rcases h with rfl | h
    · exact ⟨_, by simp, .inl rfl⟩
    · obtain ⟨z, hz, e⟩ := mem_modify h
      exact ⟨z, by simp [hz], e⟩
theorem map_modify_comm {α β : Type} {f : α → β} {u : α → α} {v : β → β} (h : ∀ x, f (u x) = v (f x)) : ∀ (xs : List α) (i : Nat), (xs.modify i u).map f = (xs.map f).modify i v
  | [], _ => by simp
  | x :: xs, 0 => by simp [h]
  | x :: xs, i + 1 => by simp [List.modify_succ_cons, map_modify_comm h xs i]
theorem own_set {w : World} {base n c size g t : Nat} {e : TypeId} {v : Value} {vs : List Value} (h : w.ownsRow base e size (.slice (some ⟨g, 0, none⟩) n c) n vs) : (w.setCell ⟨g, t, none⟩ v).ownsRow base e size (.slice (some ⟨g, 0, none⟩) n c) n (vs.set t v) := by
  refine ⟨by rw [List.length_set]; exact h.1, ?_⟩
  rcases h.2 with ⟨e1, _⟩ | ⟨g', cap, cur, e1, hb, hg, hnc, hml, hsz, ht⟩
  · cases e1
  · cases e1
    refine .inr ⟨g, c, cur.setIfInBounds t v, rfl, hb, blk_set hg t v, hnc, hml, by rw [Array.size_setIfInBounds]; exact hsz, ?_⟩
    rw [← ht, Array.toList_setIfInBounds, List.take_set]
theorem own_cell {w : World} {base n c size g t : Nat} {e : TypeId} {u : Value} {vs : List Value} (h : w.ownsRow base e size (.slice (some ⟨g, 0, none⟩) n c) n vs) (hu : vs[t]? = some u) : w.cell? ⟨g, t, none⟩ = some u ∧ w.frozen? ⟨g, t, none⟩ = false ∧ w.shape? g = some (e, c * size) := by
  rcases h.2 with ⟨e1, _⟩ | ⟨g', cap, cur, e1, hb, hg, hnc, hml, hsz, ht⟩
  · cases e1
  · cases e1
    refine ⟨?_, blk_free hg t, by simp [World.shape?, hg, hsz]⟩
    rw [blk_cell hg t]
    rw [← ht, List.getElem?_take] at hu
    split at hu
    · simpa using hu
    · cases hu
theorem MkX.row_some {w : World} {p : Nat} {R : Option Nat} {A : Option Addr} {c : Nat} {xs : List (G × Option Addr × Nat)} (h : MkX w p R A c xs) (hx : 0 < xs.length) : ∃ g, R = some g ∧ A = some ⟨g, 0, none⟩ := by
  have e := h.row
  rcases h.own.2 with ⟨e1, h0⟩ | ⟨g, cap, cur, e1, _⟩
  · omega
  · cases e1; exact ⟨g, e, rfl⟩
theorem MkX.setCell {w : World} {p g t : Nat} {c : Nat} {xs ys : List (G × Option Addr × Nat)} {v : Value} (h : MkX w p (some g) (some ⟨g, 0, none⟩) c xs) (hl : ys.length = xs.length) (he : (mflat xs).set t v = mflat ys) (hs : ∀ y ∈ ys, SetOk w y.2.1 y.2.2 y.1.2.2) :
    MkX (w.setCell ⟨g, t, none⟩ v) p (some g) (some ⟨g, 0, none⟩) c ys := by
  have hpg : p ≠ g := fun e => absurd ((e ▸ h.p_ty).uniq (h.row_ty rfl)) (by decide)
  refine ⟨?_, ?_, ?_, fun y hy => (hs y hy).keep (by simp [World.setCell]) fun k hk hT => blk_set_ne t v fun e => absurd ((e ▸ hT).uniq (h.row_ty rfl)) (by decide)⟩
  · rw [blk_set_ne t v hpg, hl]; exact h.at_
  · rw [hl, ← he]; exact own_set h.own
  · rfl
theorem MkAt.setBool {w : World} {p g i : Nat} {gs : List G} (h : MkAt w p (some g) gs) (hi : i < gs.length) (b : Bool) : MkAt (w.setCell ⟨g, i * 3 + 1, none⟩ (.bool b)) p (some g) (setSub gs i b) ∧ Kept p (some g) w (w.setCell ⟨g, i * 3 + 1, none⟩ (.bool b)) := by
  obtain ⟨A, c, xs, e, h⟩ := h
  have hx : xs.length = gs.length := by rw [← e, List.length_map]
  obtain ⟨g', eg, rfl⟩ := h.row_some (by omega)
  cases eg
  refine ⟨⟨_, c, xs.modify i fun x => ((x.1.1, b, x.1.2.2), x.2), ?_, h.setCell (by simp) (mflat_bool xs i b (by omega)) fun y hy => ?_⟩, ⟨rfl, rfl, rfl, by simp [World.setCell], fun k _ _ hk => blk_set_ne _ _ fun e => hk (by rw [e])⟩⟩
  · rw [← e]
    exact map_modify_comm (f := fun x : G × Option Addr × Nat => x.1) (u := fun x => ((x.1.1, b, x.1.2.2), x.2)) (v := fun g => (g.1, b, g.2.2)) (fun x => rfl) xs i
  · obtain ⟨x, hx, hy⟩ := mem_modify hy
    rcases hy with hy | hy <;> rw [hy]
    · exact h.sets x hx
    · exact h.sets x hx
theorem MkAt.setSet {w : World} {p g i c' : Nat} {A' : Option Addr} {l : List Rg} {gs : List G} (h : MkAt w p (some g) gs) (hi : i < gs.length) (hs : SetOk w A' c' l) : MkAt (w.setCell ⟨g, i * 3 + 2, none⟩ (.slice A' l.length c')) p (some g) (setSet gs i l) ∧ Kept p (some g) w (w.setCell ⟨g, i * 3 + 2, none⟩ (.slice A' l.length c')) := by
  obtain ⟨A, c, xs, e, h⟩ := h
  have hx : xs.length = gs.length := by rw [← e, List.length_map]
  obtain ⟨g', eg, rfl⟩ := h.row_some (by omega)
  cases eg
  refine ⟨⟨_, c, xs.modify i fun x => ((x.1.1, x.1.2.1, l), A', c'), ?_, h.setCell (by simp) (mflat_set xs i l A' c' (by omega)) fun y hy => ?_⟩, ⟨rfl, rfl, rfl, by simp [World.setCell], fun k _ _ hk => blk_set_ne _ _ fun e => hk (by rw [e])⟩⟩
  · rw [← e]
    exact map_modify_comm (f := fun x : G × Option Addr × Nat => x.1) (u := fun x => ((x.1.1, x.1.2.1, l), A', c')) (v := fun g => (g.1, g.2.1, l)) (fun x => rfl) xs i
  · obtain ⟨x, hx, hy⟩ := mem_modify hy
    rcases hy with hy | hy <;> rw [hy]
    · exact h.sets x hx
    · exact hs
end Go.Proofs.YtcpennlojjlpaaaGreatDoor

namespace Go.Proofs.YtcpennlojjlpaaaGreatDoor
open Go.RowKit Go.Nr

theorem MkX.at_j {w : World} {p : Nat} {R : Option Nat} {A : Option Addr} {c : Nat} {xs : List (G × Option Addr × Nat)} (h : MkX w p R A c xs) {j : Nat} {x : G × Option Addr × Nat} (hx : xs[j]? = some x) : ∃ g, R = some g ∧ A = some ⟨g, 0, none⟩ ∧
    w.cell? ⟨g, j * 3, none⟩ = some (enS x.1.1) ∧ w.cell? ⟨g, j * 3 + 1, none⟩ = some (.bool x.1.2.1) ∧ w.cell? ⟨g, j * 3 + 2, none⟩ = some (.slice x.2.1 x.1.2.2.length x.2.2) ∧ w.frozen? ⟨g, j * 3 + 1, none⟩ = false ∧ w.frozen? ⟨g, j * 3 + 2, none⟩ = false := by
  have hl := (List.getElem?_eq_some_iff.1 hx).1
  obtain ⟨g, eg, rfl⟩ := h.row_some (by omega)
  obtain ⟨f1, f2, f3⟩ := mflat_at xs j x hx
  exact ⟨g, eg, rfl, (own_cell h.own f1).1, (own_cell h.own f2).1, (own_cell h.own f3).1, (own_cell h.own f2).2.1, (own_cell h.own f3).2.1⟩
/-- Where find points. -/
def fptr (R : Option Nat) (gs : List G) (s : List UInt8) : Value := if gidx gs s < gs.length then .pointer (R.map fun g => ⟨g, gidx gs s * 3, none⟩) else .pointer none

set_option maxRecDepth 100000 in
set_option maxHeartbeats 2000000 in
theorem findM_any (p : Nat) (R : Option Nat) (gs : List G) (s : List UInt8) (w : World) (h : MkAt w p R gs) (hn : gs.length ≤ 1000000) :
    Calls Tryz.prog 93 #[.pointer (some ⟨p, 0, none⟩), enS s] w fun e w' => e = .returned (fptr R gs s) ∧ w = w' := by
  obtain ⟨A, c, xs, hxs, h⟩ := h
  have hlen : xs.length = gs.length := by rw [← hxs, List.length_map]
  have hc0 := blk_cell h.at_ 0
  have H := Lib.hid h; clear h
  have HXS := Lib.hid hxs; clear hxs
  rw [← hlen] at hn
  have HL := Lib.hid hlen; clear hlen
  obtain ⟨r, hr⟩ : ∃ q, fptr R gs s = q := ⟨_, rfl⟩
  have V := Lib.hid hr
  rw [hr]
  clear hr
  go_enter Tryz.func93, Tryz.ntmps93
  go_wp2_with fail
  go_loopg [13] xs.length (fun gg iv wr => ∃ k : Nat, k ≤ xs.length ∧ xs.length - k ≤ gg ∧ iv = .int .i64 k ∧ wr = w ∧ Hid (∀ (j : Nat) (g : G), j < k → gs[j]? = some g → g.1 ≠ s))
  case atStart => exact ⟨0, by omega, by omega, rfl, rfl, fun j g hj => by omega⟩
  case round =>
    obtain ⟨k, hk, hgk, rfl, rfl, O⟩ := hrel
    by_cases hlt : k < xs.length
    · obtain ⟨x, hx⟩ : ∃ x, xs[k]? = some x := ⟨_, List.getElem?_eq_getElem hlt⟩
      obtain ⟨g, rfl, rfl, h1, h2, h3, _, _⟩ := H.out.at_j hx
      have hgx : gs[k]? = some x.1 := by rw [← HXS.out, List.getElem?_map, hx]; rfl
      have HGX := Lib.hid hgx
      clear hgx hx h2 h3
      obtain ⟨⟨x1, x2, x3⟩, x4, x5⟩ := x
      simp only at h1
      by_cases hxs : x1 = s
      · have hgi : gidx gs s = k := gidx_eq gs s k (by rw [← HL.out]; exact hk) O.out fun g hg => by rw [HGX.out] at hg; cases hg; exact hxs
        have V2 : Hid (r = .pointer (some ⟨g, k * 3, none⟩)) := by
          show r = _
          rw [← V.out]; unfold fptr; rw [hgi, if_pos (by rw [← HL.out]; exact hlt)]; rfl
        subst hxs
        go_wp2_with fail
        go_ret
        exact ⟨by rw [V2.out]; rfl, rfl⟩
      · have e1 : (x1 == s) = false := by simpa using hxs
        have NE := Lib.hid hxs; clear hxs
        go_wp2_with fail
        go_roundg (xs.length - (k + 1))
        case measure => omega
        case rel =>
          refine ⟨k + 1, by omega, by omega, by go_num, rfl, fun j g' hj hg' => ?_⟩
          rcases Nat.lt_or_ge j k with h' | h'
          · exact O.out j g' h' hg'
          · obtain rfl : j = k := by omega
            rw [HGX.out] at hg'; cases hg'; exact NE.out
    · obtain rfl : k = xs.length := by omega
      have hgi : gidx gs s = xs.length := gidx_eq gs s _ (by rw [← HL.out]; omega) O.out fun g hg => by rw [HL.out] at hg; simp at hg
      have V2 : Hid (r = .pointer none) := by
        show r = _
        rw [← V.out]; unfold fptr; rw [hgi, HL.out, if_neg (by omega)]
      go_wp2_with fail
      go_ret
      exact ⟨by rw [V2.out]; rfl, rfl⟩
end Go.Proofs.YtcpennlojjlpaaaGreatDoor

namespace Go.Proofs.YtcpennlojjlpaaaGreatDoor
open Go.RowKit Go.Nr Go.Gn

theorem own_any {w : World} {b base n size : Nat} {e : TypeId} {v : Value} {xs : List Value} (h : w.ownsRow b e size v n xs) (hb : base ≤ b) : w.ownsRow base e size v n xs := by
  refine ⟨h.1, ?_⟩
  rcases h.2 with h | ⟨g, cap, cur, e1, hg, rest⟩
  · exact .inl h
  · exact .inr ⟨g, cap, cur, e1, Nat.le_trans hb hg, rest⟩
/-- append to a row of the call's own: in its block, or in one behind all others. -/
theorem run_append_far {P : Program} (w : World) (t ty e : TypeId) (i : TypeInfo) (z : Value) (size bytes : Nat) (ht : P.underlying t = some (.slice e)) (hi : P.info? e = some i) (hz : i.zero = some z)
    (hsize : i.size = size) (hby : i.bytes = bytes) (hzs : z.cells.size = size) (hsz : 0 < size)
    (v : Value) (n : Nat) (xs : List Value) (hown : w.ownsRow 0 e size v n xs)
    (a : Addr) (m c : Nat) (news : List Value) (hl : news.length = m * size) (hnews : ∀ j u, news[j]? = some u → w.cell? (a.add j) = some u) (h1 : ∀ u ∈ news, u.oneCell' = true)
    (h63 : n + m ≤ maxLen) (hbytes : (n + m) * bytes ≤ 140737488355328) :
    ∃ v' w', (Builtin.append_ #[t, t] ty #[v, .slice (some a) m c]).run P w = .ok v' w' ∧ w'.ownsRow 0 e size v' (n + m) (xs ++ news) ∧ w.grownBy w' v.ownBlock ∧ (v'.ownBlock = v.ownBlock ∨ ∃ g, v'.ownBlock = some g ∧ w.heap.size ≤ g) := by
  have hsmall : n + m ≤ 9223372036854775807 := by simp only [maxLen] at h63; omega
  rcases hown.2 with ⟨rfl, rfl⟩ | ⟨g, cap, cur, rfl, hbg, hg, hnc, hcm, hcs, htake⟩
  · have hx : xs = [] := List.eq_nil_of_length_eq_zero (by simpa using hown.1)
    subst hx
    obtain ⟨v', w', a1, a2, a3, _⟩ := run_append_own (P := P) w w.heap.size t ty e i z size bytes ht hi hz hsize hby hzs hsz _ 0 [] (World.ownsRow_nil w w.heap.size e size) a m c news hl hnews h1 h63 hbytes (Nat.le_refl _)
    refine ⟨v', w', a1, own_any a2 (Nat.zero_le _), a3, ?_⟩
    rcases a2.2 with ⟨rfl, _⟩ | ⟨g, cap, cur, rfl, hg, _⟩
    · exact .inl rfl
    · exact .inr ⟨g, rfl, hg⟩
  · obtain ⟨v', w', a1, a2, a3, _⟩ := run_append_own (P := P) w 0 t ty e i z size bytes ht hi hz hsize hby hzs hsz _ n xs hown a m c news hl hnews h1 h63 hbytes (Nat.zero_le _)
    refine ⟨v', w', a1, a2, a3, ?_⟩
    subst hsize
    by_cases hroom : n + m ≤ cap
    · have hfit : n * i.size + news.length ≤ cur.size := by rw [hl, hcs, ← Nat.add_mul]; exact Nat.mul_le_mul_right _ hroom
      have hr := run_append_room (P := P) w t ty e i ht hi g n cap cur hg a m c news hl hnews h1 hroom hfit
      rw [a1] at hr
      cases hr
      exact .inl rfl
    · subst hby
      have hr := run_append_grow (P := P) w t ty e i z ht hi hz ⟨g, 0, none⟩ n cap xs hown.1 (hown.cells (g := g) rfl) a m c news hl hnews (by omega) (by omega) (growslice_fits (by omega) hbytes)
      rw [a1] at hr
      cases hr
      exact .inr ⟨_, rfl, Nat.le_refl _⟩
theorem wpList_append_far {P : Program} (w : World) {ops : Array Oper} {rest : List Oper} {o : Oper} {a : Act} {Q : Exit → Act → World → Prop} (hgd : o.guard = none) (s x : Operand) (t : TypeId)
    (ho : o.op = .call { callee := .builtin .append, args := #[s, x], argTypes := #[t, t] })
    (e : TypeId) (i : TypeInfo) (z : Value) (size bytes : Nat) (ht : P.underlying t = some (.slice e)) (hi : P.info? e = some i) (hz : i.zero = some z)
    (hsize : i.size = size) (hby : i.bytes = bytes) (hzs : z.cells.size = size) (hsz : 0 < size)
    (v : Value) (n : Nat) (xs : List Value) (hs : a.eval s = v) (hown : w.ownsRow 0 e size v n xs)
    (ad : Addr) (m c : Nat) (news : List Value) (hx : a.eval x = .slice (some ad) m c) (hl : news.length = m * size) (hnews : ∀ j u, news[j]? = some u → w.cell? (ad.add j) = some u) (h1 : ∀ u ∈ news, u.oneCell' = true)
    (h63 : n + m ≤ maxLen) (hbytes : (n + m) * bytes ≤ 140737488355328)
    (h : ∀ v' w', w'.ownsRow 0 e size v' (n + m) (xs ++ news) → w.grownBy w' v.ownBlock → (v'.ownBlock = v.ownBlock ∨ ∃ g, v'.ownBlock = some g ∧ w.heap.size ≤ g) → wpList P ops Q rest (a.put o.dst v') w') : wpList P ops Q (o :: rest) a w := by
  refine wpList_plain hgd fun K hK => ?_
  obtain ⟨v', w', hr, h2, h3, h4⟩ := run_append_far (P := P) w t o.type e i z size bytes ht hi hz hsize hby hzs hsz v n xs hown ad m c news hl hnews h1 h63 hbytes
  unfold Oper.wp execOp
  simp only [ho, resolve, invoke, builtin, Sem.run_bind, Sem.run_pure, Result.andThen_ok, List.map_toArray, List.map_cons, List.map_nil, hs, hx, hr]
  exact hK _ _ (h v' w' h2 h3 h4)
/-- A mark more. -/
theorem mk_grown {w0 w1 w2 : World} {p : Nat} {R : Option Nat} {A A3 B : Option Addr} {c c3 d : Nat} {xs : List (G × Option Addr × Nat)} {s : List UInt8} {sb : Bool} {l : List Rg} {u : Value} (h : MkX w0 p R A c xs) (h1 : Below w0.heap.size w0 w1)
    (ho : w2.ownsRow 0 139 3 (.slice A3 (xs.length + 1) c3) (xs.length + 1) (mflat xs ++ [enS s, .bool sb, u])) (hg : w1.grownBy w2 (Value.slice A xs.length c).ownBlock) (hp : w2.heap[p]? = some (.cells #[.slice A xs.length c] 143 (0, 0))) (hs : SetOk w0 B d l) (hu : u = .slice B l.length d) :
    MkX (w2.setCell ⟨p, 0, none⟩ (.slice A3 (xs.length + 1) c3)) p (Value.slice A3 (xs.length + 1) c3).ownBlock A3 c3 (xs ++ [((s, sb, l), B, d)]) ∧ Kept p R w0 (w2.setCell ⟨p, 0, none⟩ (.slice A3 (xs.length + 1) c3)) := by
  subst hu
  have hx1 := h.below h1
  have hl : (xs ++ [((s, sb, l), B, d)]).length = xs.length + 1 := by simp
  have hne : ∀ k, Ty w1 k 42 → (w2.setCell ⟨p, 0, none⟩ (.slice A3 (xs.length + 1) c3)).heap[k]? = w1.heap[k]? := fun k hk => by
    rw [blk_set_ne _ _ (fun e => absurd ((e ▸ hk).uniq hx1.p_ty) (by decide))]
    exact hg.block k hk.lt fun e => absurd (hk.uniq (hx1.row_ty (by rw [h.row]; exact e.symm))) (by decide)
  have hall : ∀ {B d l}, SetOk w0 B d l → SetOk (w2.setCell ⟨p, 0, none⟩ (.slice A3 (xs.length + 1) c3)) B d l := fun hb => (hb.below h1).keep (by have := hg.size; simpa [World.setCell] using this) fun k _ hk => hne k hk
  refine ⟨⟨?_, ?_, ?_, fun x hx => ?_⟩, ⟨hg.os.trans h1.os, hg.tape.trans h1.tape, hg.output.trans h1.output, by have := hg.size; have := h1.size; simp [World.setCell]; omega, fun k hk k1 k2 => ?_⟩⟩
  · rw [hl]
    exact blk_set hp 0 _
  · rw [hl, mflat_append]
    exact own_keep ho fun k hk e => blk_set_ne _ _ fun e2 => by
      subst e2
      obtain ⟨cs, fr, hr⟩ := own_row ho _ e
      rw [hp] at hr
      cases hr
  · rw [hl]
  · rcases List.mem_append.1 hx with hx | hx
    · exact hall (h.sets x hx)
    · simp at hx; subst hx; exact hall hs
  · rw [blk_set_ne _ _ k1, hg.block k (by have := h1.size; omega) (by rw [← h.row]; exact k2)]
    exact h1.block k hk
theorem mark_info : (Tryz.prog.info? 139).map (fun i => (i.size, i.bytes, i.zero.map fun z => z.cells.size)) = some (3, 48, some 3) := by kernel_rfl
theorem mark_parts : ∃ i z, Tryz.prog.info? 139 = some i ∧ i.zero = some z ∧ i.size = 3 ∧ i.bytes = 48 ∧ z.cells.size = 3 := by
  obtain ⟨i, hi, e⟩ := Option.map_eq_some_iff.1 mark_info
  cases hz : i.zero with
  | none => rw [hz] at e; simp at e
  | some z =>
    rw [hz] at e
    simp at e
    exact ⟨i, z, hi, hz, e.1, e.2.1, e.2.2⟩

/-- What an operation on marks leaves. -/
def LeavesM (p : Nat) (R : Option Nat) (w : World) (gs : List G) (er : Nat) (e : Ending) (w' : World) : Prop :=
  e = .returned (i64 er) ∧ ∃ R', (R' = R ∨ ∃ g, R' = some g ∧ w.heap.size ≤ g) ∧ MkAt w' p R' gs ∧ Kept p R w w'
theorem fptr_in {R : Option Nat} {gs : List G} {s : List UInt8} (h : gidx gs s < gs.length) {w : World} {p : Nat} (hm : MkAt w p R gs) : ∃ g, R = some g ∧ fptr R gs s = .pointer (some ⟨g, gidx gs s * 3, none⟩) := by
  obtain ⟨A, c, xs, e, hx⟩ := hm
  have : xs.length = gs.length := by rw [← e, List.length_map]
  obtain ⟨g, rfl, _⟩ := hx.row_some (by omega)
  exact ⟨g, rfl, by unfold fptr; rw [if_pos h]; rfl⟩
theorem fptr_out {R : Option Nat} {gs : List G} {s : List UInt8} (h : ¬ gidx gs s < gs.length) : fptr R gs s = .pointer none := by unfold fptr; rw [if_neg h]
theorem MkAt.cell_i {w : World} {p g i : Nat} {gs : List G} (h : MkAt w p (some g) gs) (hi : i < gs.length) : ∃ (x : G) (A : Option Addr) (c : Nat), gs[i]? = some x ∧ SetOk w A c x.2.2 ∧ w.cell? ⟨g, i * 3, none⟩ = some (enS x.1) ∧ w.cell? ⟨g, i * 3 + 1, none⟩ = some (.bool x.2.1) ∧ w.cell? ⟨g, i * 3 + 2, none⟩ = some (.slice A x.2.2.length c) ∧ w.frozen? ⟨g, i * 3 + 1, none⟩ = false ∧ w.frozen? ⟨g, i * 3 + 2, none⟩ = false := by
  obtain ⟨A, c, xs, e, h⟩ := h
  have hlen : xs.length = gs.length := by rw [← e, List.length_map]
  have hx : xs[i]? = some xs[i] := List.getElem?_eq_getElem (by omega)
  obtain ⟨g', eg, _, h1, h2, h3, h4, h5⟩ := h.at_j hx
  cases eg
  exact ⟨xs[i].1, xs[i].2.1, xs[i].2.2, by subst e; rw [List.getElem?_map, hx]; rfl, h.sets _ (List.getElem_mem _), h1, h2, h3, h4, h5⟩
set_option maxRecDepth 100000 in
set_option maxHeartbeats 2000000 in
theorem unsub_any (p : Nat) (R : Option Nat) (gs : List G) (s : List UInt8) (w : World) (h : MkAt w p R gs) (hE : Env w) (hl : s.length ≤ 9223372036854775807) (hn : gs.length ≤ 1000000) :
    Calls Tryz.prog 59 #[.pointer (some ⟨p, 0, none⟩), enS s] w (LeavesM p R w (unsubM gs s) (unsubE gs s)) := by
  have hck := check_any s w hE hl
  have H := Lib.hid h; clear h
  obtain ⟨ec, hec⟩ : ∃ q, check s = q := ⟨_, rfl⟩
  rw [hec] at hck
  have VC := Lib.hid hec
  clear hec
  by_cases h0 : ec = 0
  · subst h0
    have hw0 : (((0 : Nat) : Int) != 0) = false := rfl
    by_cases hi : gidx gs s < gs.length
    · have V1 : Hid (unsubM gs s = setSub gs (gidx gs s) false) := by (show unsubM gs s = _); unfold unsubM; rw [if_neg (by simp [VC.out]), if_pos hi]
      have V2 : Hid (unsubE gs s = 0) := by (show unsubE gs s = _); unfold unsubE; rw [if_neg (by simp [VC.out]), if_pos hi]
      rw [V1.out, V2.out]
      have HI := Lib.hid hi
      obtain ⟨g, rfl, hp⟩ := fptr_in hi H.out
      have hf := fun W hW => findM_any p (some g) gs s W hW hn
      rw [hp] at hf
      have HF := Lib.hid hf
      clear hf hp hi
      obtain ⟨i, hie⟩ : ∃ q, gidx gs s = q := ⟨_, rfl⟩
      rw [hie] at HI HF ⊢
      clear hie
      go_enter Tryz.func59, Tryz.ntmps59
      go_wp2_with fail
      refine hck.mono ?_; rintro e w1 ⟨rfl, b1⟩
      clear hck
      have H1 := Lib.hid (H.out.below b1)
      go_wp2_with fail
      refine (HF.out _ H1.out).mono ?_; rintro e w2 ⟨rfl, rfl⟩
      obtain ⟨x, A, c, _, _, _, hc1, _, hf1, _⟩ := H1.out.cell_i HI.out
      go_wp2_with fail
      go_ret
      obtain ⟨m1, k1⟩ := H1.out.setBool HI.out false
      exact ⟨rfl, some g, .inl rfl, m1, (Kept.of_below b1).trans k1 (.inl rfl)⟩
    · have V1 : Hid (unsubM gs s = gs) := by (show unsubM gs s = _); unfold unsubM; rw [if_neg (by simp [VC.out]), if_neg hi]
      have V2 : Hid (unsubE gs s = 8) := by (show unsubE gs s = _); unfold unsubE; rw [if_neg (by simp [VC.out]), if_neg hi]
      rw [V1.out, V2.out]
      have hf := fun W hW => findM_any p R gs s W hW hn
      rw [fptr_out hi] at hf
      have HF := Lib.hid hf
      clear hf hi
      go_enter Tryz.func59, Tryz.ntmps59
      go_wp2_with fail
      refine hck.mono ?_; rintro e w1 ⟨rfl, b1⟩
      clear hck
      have H1 := Lib.hid (H.out.below b1)
      go_wp2_with fail
      refine (HF.out _ H1.out).mono ?_; rintro e w2 ⟨rfl, rfl⟩
      go_wp2_with fail
      go_ret
      exact ⟨rfl, R, .inl rfl, H1.out, Kept.of_below b1⟩
  · have V1 : Hid (unsubM gs s = gs) := by (show unsubM gs s = _); unfold unsubM; rw [if_pos (by simp [VC.out, h0])]
    have V2 : Hid (unsubE gs s = 12) := by (show unsubE gs s = _); unfold unsubE; rw [if_pos (by simp [VC.out, h0])]
    rw [V1.out, V2.out]
    have hw0 : ((ec : Int) != 0) = true := by simp; omega
    have hw1 : (ec != 0) = true := by simp; omega
    go_enter Tryz.func59, Tryz.ntmps59
    go_wp2_with fail
    refine hck.mono ?_; rintro e w1 ⟨rfl, b1⟩
    clear hck
    have H1 := Lib.hid (H.out.below b1)
    go_wp2_with fail
    go_ret
    exact ⟨rfl, R, .inl rfl, H1.out, Kept.of_below b1⟩
set_option maxRecDepth 100000 in
set_option maxHeartbeats 2000000 in
theorem sub_any (p : Nat) (R : Option Nat) (gs : List G) (s : List UInt8) (w : World) (h : MkAt w p R gs) (hE : Env w) (hl : s.length ≤ 9223372036854775807) (hn : gs.length < 1024) :
    Calls Tryz.prog 58 #[.pointer (some ⟨p, 0, none⟩), enS s] w (LeavesM p R w (subM gs s) (subE s)) := by
  have hck := check_any s w hE hl
  have H := Lib.hid h; clear h
  obtain ⟨ec, hec⟩ : ∃ q, check s = q := ⟨_, rfl⟩
  rw [hec] at hck
  have VC := Lib.hid hec
  clear hec
  by_cases h0 : ec = 0
  · subst h0
    have hw0 : (((0 : Nat) : Int) != 0) = false := rfl
    by_cases hi : gidx gs s < gs.length
    · have V1 : Hid (subM gs s = setSub gs (gidx gs s) true) := by (show subM gs s = _); unfold subM; rw [if_neg (by simp [VC.out]), if_pos hi]
      have V2 : Hid (subE s = 0) := by (show subE s = _); unfold subE; rw [if_neg (by simp [VC.out])]
      rw [V1.out, V2.out]
      have HI := Lib.hid hi
      obtain ⟨g, rfl, hp⟩ := fptr_in hi H.out
      have hf := fun W hW => findM_any p (some g) gs s W hW (by omega)
      rw [hp] at hf
      have HF := Lib.hid hf
      clear hf hp hi
      obtain ⟨i, hie⟩ : ∃ q, gidx gs s = q := ⟨_, rfl⟩
      rw [hie] at HI HF ⊢
      clear hie
      go_enter Tryz.func58, Tryz.ntmps58
      go_wp2_with fail
      refine hck.mono ?_; rintro e w1 ⟨rfl, b1⟩
      clear hck
      have H1 := Lib.hid (H.out.below b1)
      go_wp2_with fail
      refine (HF.out _ H1.out).mono ?_; rintro e w2 ⟨rfl, rfl⟩
      obtain ⟨x, A, c, _, _, _, hc1, _, hf1, _⟩ := H1.out.cell_i HI.out
      go_wp2_with fail
      go_ret
      obtain ⟨m1, k1⟩ := H1.out.setBool HI.out true
      exact ⟨rfl, some g, .inl rfl, m1, (Kept.of_below b1).trans k1 (.inl rfl)⟩
    · have V1 : Hid (subM gs s = gs ++ [(s, true, [])]) := by (show subM gs s = _); unfold subM; rw [if_neg (by simp [VC.out]), if_neg hi]
      have V2 : Hid (subE s = 0) := by (show subE s = _); unfold subE; rw [if_neg (by simp [VC.out])]
      rw [V1.out, V2.out]
      have hf := fun W hW => findM_any p R gs s W hW (by omega)
      rw [fptr_out hi] at hf
      have HF := Lib.hid hf
      clear hf hi
      obtain ⟨i0, z0, hi, hz0, hz1, hz2, hz3⟩ := mark_parts
      go_enter Tryz.func58, Tryz.ntmps58
      go_wp2_with fail
      refine hck.mono ?_; rintro e w1 ⟨rfl, b1⟩
      clear hck
      have H1 := Lib.hid (H.out.below b1)
      go_wp2_with fail
      refine (HF.out _ H1.out).mono ?_; rintro e w2 ⟨rfl, rfl⟩
      obtain ⟨A, c, xs, hxs, hX⟩ := H1.out
      have hlen : xs.length = gs.length := by rw [← hxs, List.length_map]
      have hpc := blk_cell hX.at_ 0
      have HX := Lib.hid hX
      have HXS := Lib.hid hxs
      rw [← hlen] at hn
      clear hX hxs hlen
      go_wp2_with (at_builtin; refine wpList_append_far _ rfl _ _ 140 rfl 139 i0 z0 3 48 Tryz.underlying140 hi hz0 hz1 hz2 hz3 (by decide) (.slice A xs.length c) xs.length (mflat xs) rfl (HX.out.own.alloc _) ⟨w1.heap.size, 0, none⟩ 1 1 [enS s, .bool true, .slice none 0 0] rfl rfl ?c1 ?c2 ?c3 ?c4 ?_)
      case c1 =>
        intro j u hj
        rw [addr_addN, new_cell _ _ _ _ _ rfl]
        simpa using hj
      case c2 => intro u hu; simp at hu; rcases hu with rfl | rfl | rfl <;> rfl
      case c3 => unfold maxLen; omega
      case c4 => omega
      intro v' w2 hown2 hg2 hfar
      obtain ⟨A3, c3, rfl⟩ := own2_slice hown2
      have hpt : Ty (w1.alloc (.cells #[enS s, .bool true, .slice none 0 0] 139)) p 143 := HX.out.p_ty.below (below_new _ _)
      have hp2 : w2.heap[p]? = some (.cells #[.slice A xs.length c] 143 (0, 0)) := by
        rw [hg2.block p hpt.lt fun e => absurd (hpt.uniq ((HX.out.below (below_new _ _)).row_ty (by rw [HX.out.row]; exact e.symm))) (by decide)]
        exact blk_old _ HX.out.at_
      have hpc2 := blk_cell hp2 0
      have hpf2 := blk_free hp2 0
      have HO2 := Lib.hid hown2
      have HG2 := Lib.hid hg2
      have HFAR := Lib.hid hfar
      have HP2 := Lib.hid hp2
      clear hown2 hg2 hfar hp2 hpt hpc
      go_wp2_with fail
      go_ret
      have hx2 := mk_grown HX.out (below_new w1 _) HO2.out HG2.out HP2.out (SetOk.nil w1) (s := s) (sb := true) (l := []) rfl
      refine ⟨rfl, (Value.slice A3 (xs.length + 1) c3).ownBlock, ?_, ⟨A3, c3, xs ++ [((s, true, []), none, 0)], ?_, hx2.1⟩, (Kept.of_below b1).trans hx2.2 (.inl rfl)⟩
      · rcases HFAR.out with e | ⟨g, e, hg⟩
        · exact .inl (e.trans HX.out.row.symm)
        · exact .inr ⟨g, e, by have := b1.size; omega⟩
      · rw [List.map_append, HXS.out]; rfl
  · have V1 : Hid (subM gs s = gs) := by (show subM gs s = _); unfold subM; rw [if_pos (by simp [VC.out, h0])]
    have V2 : Hid (subE s = 12) := by (show subE s = _); unfold subE; rw [if_pos (by simp [VC.out, h0])]
    rw [V1.out, V2.out]
    have hw0 : ((ec : Int) != 0) = true := by simp; omega
    have hw1 : (ec != 0) = true := by simp; omega
    go_enter Tryz.func58, Tryz.ntmps58
    go_wp2_with fail
    refine hck.mono ?_; rintro e w1 ⟨rfl, b1⟩
    clear hck
    have H1 := Lib.hid (H.out.below b1)
    go_wp2_with fail
    go_ret
    exact ⟨rfl, R, .inl rfl, H1.out, Kept.of_below b1⟩
end Go.Proofs.YtcpennlojjlpaaaGreatDoor

namespace Go.Proofs.YtcpennlojjlpaaaGreatDoor
open Go.RowKit Go.Nr Go.Gn

/-- A closure that makes a set of a set. -/
def ToSet (g : Nat) (bx : Value) (w : World) (l l' : List Rg) : Prop :=
  (∀ args w, (callFunc g args).run Tryz.prog w = .ok (.enter g args) w) ∧ ∀ W A c, Below w.heap.size w W → SetOk W A c l →
    Calls Tryz.prog g #[.agg #[.slice A l.length c], bx] W fun e w' => ∃ A' c', e = .returned (.tuple #[.agg #[.slice A' l'.length c'], i64 0]) ∧ SetOk w' A' c' l' ∧ Below W.heap.size W w'
theorem gset_at {gs : List G} {s : List UInt8} {x : G} (h : gs[gidx gs s]? = some x) : gset gs s = x.2.2 := by unfold gset; rw [h]

set_option maxRecDepth 100000 in
set_option maxHeartbeats 2000000 in
theorem change_any (p : Nat) (R : Option Nat) (gs : List G) (s : List UInt8) (perm : Bool) (g : Nat) (bx : Value) (l' : List Rg) (w : World) (h : MkAt w p R gs) (hn : gs.length ≤ 1000000)
    (hto : gidx gs s < gs.length → perm = true → ToSet g bx w (gset gs s) l') :
    Calls Tryz.prog 99 #[.pointer (some ⟨p, 0, none⟩), enS s, .bool perm, .func (.func g) #[] #[bx]] w (LeavesM p R w (if gidx gs s < gs.length ∧ perm = true then setSet gs (gidx gs s) l' else gs) (if gidx gs s < gs.length then (if perm then 0 else 2) else 8)) := by
  have H := Lib.hid h; clear h
  by_cases hi : gidx gs s < gs.length
  · have HI := Lib.hid hi
    obtain ⟨b, rfl, hp⟩ := fptr_in hi H.out
    have hf := fun W hW => findM_any p (some b) gs s W hW hn
    rw [hp] at hf
    have HF := Lib.hid hf
    clear hf hp
    obtain ⟨x, A, c, hx, hset, hc0, hc1, hc2, hf1, hf2⟩ := H.out.cell_i hi
    rw [gset_at hx] at hto
    have HX := Lib.hid hx
    have HS := Lib.hid hset
    rw [if_pos hi]
    obtain ⟨i, hie⟩ : ∃ q, gidx gs s = q := ⟨_, rfl⟩
    rw [hie] at HI HF HX hto hc0 hc1 hc2 hf1 hf2 ⊢
    clear hie hx hset hi
    cases perm with
    | false =>
      rw [if_neg (by simp), if_neg (by simp)]
      clear hto hc0 hc1 hc2 hf1 hf2
      go_enter Tryz.func99, Tryz.ntmps99
      go_wp2_with fail
      refine (HF.out _ H.out).mono ?_; rintro e w2 ⟨rfl, rfl⟩
      go_wp2_with fail
      go_ret
      exact ⟨rfl, some b, .inl rfl, H.out, Kept.of_below (Below.refl _ _)⟩
    | true =>
      rw [if_pos ⟨HI.out, rfl⟩, if_pos rfl]
      obtain ⟨hen, hcon⟩ := hto HI.out rfl
      have hcall := hcon w A c (Below.refl _ _) HS.out
      obtain ⟨x1, x2, x3⟩ := x
      simp only at hc0 hc1 hc2 hcall
      clear hto hc0 hc1
      go_enter Tryz.func99, Tryz.ntmps99
      go_wp2_with fail
      refine (HF.out _ H.out).mono ?_; rintro e w2 ⟨rfl, rfl⟩
      go_wp2_with fail
      refine hcall.mono ?_; rintro e w3 ⟨A', c', rfl, hs', b3⟩
      clear hcall hc2 hf1 hf2
      have H3 := Lib.hid ((H.out.below b3).below (below_new w3 (.cells #[.slice A' l'.length c'] 26)))
      have HS3 := Lib.hid (hs'.below (below_new w3 (.cells #[.slice A' l'.length c'] 26)))
      obtain ⟨_, _, _, _, _, _, _, hc2, _, hf2⟩ := H3.out.cell_i HI.out
      go_wp2_with fail
      go_ret
      obtain ⟨m1, k1⟩ := H3.out.setSet HI.out HS3.out
      exact ⟨rfl, some b, .inl rfl, m1, (Kept.of_below (b3.tr (below_new _ _))).trans k1 (.inl rfl)⟩
  · rw [if_neg hi, if_neg (fun h => hi h.1)]
    have hf := fun W hW => findM_any p R gs s W hW hn
    rw [fptr_out hi] at hf
    have HF := Lib.hid hf
    clear hf hi hto
    go_enter Tryz.func99, Tryz.ntmps99
    go_wp2_with fail
    refine (HF.out _ H.out).mono ?_; rintro e w2 ⟨rfl, rfl⟩
    go_wp2_with fail
    go_ret
    exact ⟨rfl, R, .inl rfl, H.out, Kept.of_below (Below.refl _ _)⟩
end Go.Proofs.YtcpennlojjlpaaaGreatDoor

namespace Go.Proofs.YtcpennlojjlpaaaGreatDoor
open Go.RowKit Go.Nr Go.Gn

theorem addS_of {l : List Rg} {r : Rg} (h : ok r) : addS l r = orS l [r] := by unfold addS; rw [if_pos ((okB_iff r).2 h)]
theorem remS_of {l : List Rg} {r : Rg} (h : ok r) : remS l r = minusS l [r] := by unfold remS; rw [if_pos ((okB_iff r).2 h)]
theorem chgS0 (l : List Rg) (n : Int) : chgS l 0 n = orS l [(n, n)] := rfl
theorem chgS1 (l : List Rg) (n : Int) : chgS l 1 n = minusS l [(n, n)] := rfl
theorem chgS2 (l : List Rg) {n : Int} (h : n ≠ 0) : chgS l 2 n = orS l [(1, n)] := by unfold chgS; rw [if_neg (by omega), if_neg (by omega), if_neg h]
theorem chgS2z (l : List Rg) : chgS l 2 0 = l := rfl

set_option maxRecDepth 100000 in
set_option maxHeartbeats 2000000 in
theorem toRead (l : List Rg) (n : Int) (b : Nat) (w : World) (h1 : 1 ≤ n) (h2 : n ≤ M) (hb : w.heap[b]? = some (.cells #[i64 n] 3 (0, 0))) (hl : Okset l) (hn : l.length ≤ 1999) : ToSet 100 (.pointer (some ⟨b, 0, none⟩)) w l (chgS l 0 n) := by
  refine ⟨enters_of Tryz.func100 (by kernel_rfl) rfl, fun W A c hW hs => ?_⟩
  have hok : ok (n, n) := ⟨by omega, by show _ ≤ _; omega, h2⟩
  have hb0 : Below W.heap.size W ((W.alloc (.cells #[.slice A l.length c] 26)).alloc (.cells #[.slice none 0 0] 26)) := (below_new _ _).tr (below_new _ _)
  have hadd := add_any A c l (n, n) _ (hs.rd.below hb0) hl hn
  rw [if_pos ((okB_iff _).2 hok), addS_of hok] at hadd
  have V : Hid (chgS l 0 n = orS l [(n, n)]) := chgS0 l n
  have hwb := blk_below hb0 (blk_below hW hb)
  have hcn := blk_cell hwb 0
  have hr0 := blk_new (W.alloc (.cells #[.slice A l.length c] 26)) (.cells #[.slice none 0 0] 26)
  rw [World.size_alloc] at hr0
  have HR0 := Lib.hid hr0
  have HB0 := Lib.hid hb0
  skip
  rw [V.out]
  generalize orS l [(n, n)] = T at *
  clear hr0 hb0 hwb hb hs hl hok V
  go_enter Tryz.func100, Tryz.ntmps100
  go_wp2_with fail
  refine hadd.mono ?_; rintro e w2 ⟨A2, c2, rfl, hr, hs2, hnw, b2⟩
  clear hadd hcn
  have hb2 := blk_below b2 HR0.out
  have hrc := blk_cell hb2 0
  have hrf := blk_free hb2 0
  have h1 := blk_lt HR0.out
  clear hb2
  go_wp2_with fail
  refine bodyPost_ret (v := .tuple #[.agg #[.slice A2 T.length c2], i64 0]) (by simp [results, Tryz.results100, go_sem, hrc]) rfl ?_
  obtain ⟨A3, c3, e3, q1, q2, q3, q4⟩ := gives_wrap (er := 0) HB0.out (show W.heap.size ≤ W.heap.size + 1 by omega) h1 hr hs2 hnw b2 (.slice A2 T.length c2)
  cases e3
  exact ⟨A2, c2, rfl, ⟨q1, q2, fun a ha => (q3 a ha).2⟩, q4⟩

set_option maxRecDepth 100000 in
set_option maxHeartbeats 2000000 in
theorem toUnread (l : List Rg) (n : Int) (b : Nat) (w : World) (h1 : 1 ≤ n) (h2 : n ≤ M) (hb : w.heap[b]? = some (.cells #[i64 n] 3 (0, 0))) (hl : Okset l) (hn : l.length ≤ 1999) : ToSet 101 (.pointer (some ⟨b, 0, none⟩)) w l (chgS l 1 n) := by
  refine ⟨enters_of Tryz.func101 (by kernel_rfl) rfl, fun W A c hW hs => ?_⟩
  have hok : ok (n, n) := ⟨by omega, by show _ ≤ _; omega, h2⟩
  have hb0 : Below W.heap.size W ((W.alloc (.cells #[.slice A l.length c] 26)).alloc (.cells #[.slice none 0 0] 26)) := (below_new _ _).tr (below_new _ _)
  have hadd := rem_any A c l (n, n) _ (hs.rd.below hb0) hl hn
  rw [if_pos ((okB_iff _).2 hok), remS_of hok] at hadd
  have V : Hid (chgS l 1 n = minusS l [(n, n)]) := chgS1 l n
  have hwb := blk_below hb0 (blk_below hW hb)
  have hcn := blk_cell hwb 0
  have hr0 := blk_new (W.alloc (.cells #[.slice A l.length c] 26)) (.cells #[.slice none 0 0] 26)
  rw [World.size_alloc] at hr0
  have HR0 := Lib.hid hr0
  have HB0 := Lib.hid hb0
  skip
  rw [V.out]
  generalize minusS l [(n, n)] = T at *
  clear hr0 hb0 hwb hb hs hl hok V
  go_enter Tryz.func101, Tryz.ntmps101
  go_wp2_with fail
  refine hadd.mono ?_; rintro e w2 ⟨A2, c2, rfl, hr, hs2, hnw, b2⟩
  clear hadd hcn
  have hb2 := blk_below b2 HR0.out
  have hrc := blk_cell hb2 0
  have hrf := blk_free hb2 0
  have h1 := blk_lt HR0.out
  clear hb2
  go_wp2_with fail
  refine bodyPost_ret (v := .tuple #[.agg #[.slice A2 T.length c2], i64 0]) (by simp [results, Tryz.results101, go_sem, hrc]) rfl ?_
  obtain ⟨A3, c3, e3, q1, q2, q3, q4⟩ := gives_wrap (er := 0) HB0.out (show W.heap.size ≤ W.heap.size + 1 by omega) h1 hr hs2 hnw b2 (.slice A2 T.length c2)
  cases e3
  exact ⟨A2, c2, rfl, ⟨q1, q2, fun a ha => (q3 a ha).2⟩, q4⟩

set_option maxRecDepth 100000 in
set_option maxHeartbeats 2000000 in
theorem toCatchUp (l : List Rg) (n : Int) (b : Nat) (w : World) (h1 : 1 ≤ n) (h2 : n ≤ M) (hb : w.heap[b]? = some (.cells #[i64 n] 3 (0, 0))) (hl : Okset l) (hn : l.length ≤ 1999) : ToSet 102 (.pointer (some ⟨b, 0, none⟩)) w l (chgS l 2 n) := by
  refine ⟨enters_of Tryz.func102 (by kernel_rfl) rfl, fun W A c hW hs => ?_⟩
  have hok : ok (1, n) := ⟨by omega, by show _ ≤ _; omega, h2⟩
  have hb0 : Below W.heap.size W ((W.alloc (.cells #[.slice A l.length c] 26)).alloc (.cells #[.slice none 0 0] 26)) := (below_new _ _).tr (below_new _ _)
  have hadd := add_any A c l (1, n) _ (hs.rd.below hb0) hl hn
  rw [if_pos ((okB_iff _).2 hok), addS_of hok] at hadd
  have V : Hid (chgS l 2 n = orS l [(1, n)]) := chgS2 l (by omega)
  have hwb := blk_below hb0 (blk_below hW hb)
  have hcn := blk_cell hwb 0
  have hr0 := blk_new (W.alloc (.cells #[.slice A l.length c] 26)) (.cells #[.slice none 0 0] 26)
  rw [World.size_alloc] at hr0
  have HR0 := Lib.hid hr0
  have HB0 := Lib.hid hb0
  have hn0 : n ≠ 0 := by omega
  rw [V.out]
  generalize orS l [(1, n)] = T at *
  clear hr0 hb0 hwb hb hs hl hok V
  go_enter Tryz.func102, Tryz.ntmps102
  go_wp2_with fail
  refine hadd.mono ?_; rintro e w2 ⟨A2, c2, rfl, hr, hs2, hnw, b2⟩
  clear hadd hcn
  have hb2 := blk_below b2 HR0.out
  have hrc := blk_cell hb2 0
  have hrf := blk_free hb2 0
  have h1 := blk_lt HR0.out
  clear hb2
  go_wp2_with fail
  refine bodyPost_ret (v := .tuple #[.agg #[.slice A2 T.length c2], i64 0]) (by simp [results, Tryz.results102, go_sem, hrc]) rfl ?_
  obtain ⟨A3, c3, e3, q1, q2, q3, q4⟩ := gives_wrap (er := 0) HB0.out (show W.heap.size ≤ W.heap.size + 1 by omega) h1 hr hs2 hnw b2 (.slice A2 T.length c2)
  cases e3
  exact ⟨A2, c2, rfl, ⟨q1, q2, fun a ha => (q3 a ha).2⟩, q4⟩

set_option maxRecDepth 100000 in
set_option maxHeartbeats 2000000 in
theorem toCatchUp0 (l : List Rg) (b : Nat) (w : World) (hb : w.heap[b]? = some (.cells #[i64 0] 3 (0, 0))) : ToSet 102 (.pointer (some ⟨b, 0, none⟩)) w l (chgS l 2 0) := by
  refine ⟨enters_of Tryz.func102 (by kernel_rfl) rfl, fun W A c hW hs => ?_⟩
  have hb0 : Below W.heap.size W ((W.alloc (.cells #[.slice A l.length c] 26)).alloc (.cells #[.slice none 0 0] 26)) := (below_new _ _).tr (below_new _ _)
  have hwb := blk_below hb0 (blk_below hW hb)
  have hcn := blk_cell hwb 0
  have HB0 := Lib.hid hb0
  have HS := Lib.hid hs
  rw [chgS2z]
  clear hb0 hwb hb hs
  go_enter Tryz.func102, Tryz.ntmps102
  go_wp2_with fail
  have hr1 := blk_new (W.alloc (.cells #[.slice A l.length c] 26)) (.cells #[.slice A l.length c] 26)
  rw [World.size_alloc] at hr1
  have hrc := blk_cell hr1 0
  have hrf := blk_free hr1 0
  refine bodyPost_ret (v := .tuple #[.agg #[.slice A l.length c], i64 0]) (by simp [results, Tryz.results102, go_sem, hrc]) rfl ?_
  have hB : Below W.heap.size W ((W.alloc (.cells #[.slice A l.length c] 26)).alloc (.cells #[.slice A l.length c] 26)) := (below_new _ _).tr (below_new _ _)
  exact ⟨A, c, rfl, HS.out.below hB, hB⟩

theorem gset_len {gs : List G} {B : Nat} (h : ∀ g ∈ gs, g.2.2.length ≤ B) (s : List UInt8) : (gset gs s).length ≤ B := by
  unfold gset
  split
  · rename_i g hg; exact h g (List.mem_of_getElem? hg)
  · simp
theorem num_iff {n : Int} : num n = true ↔ 1 ≤ n ∧ n ≤ M := by unfold num; simp
theorem perm_iff (n : Int) (k : Nat) (hk : k ≠ 2) : (n < 0 ∨ M < n ∨ (n = 0 ∧ k ≠ 2)) ↔ ¬ num n = true := by
  rw [num_iff]; omega
theorem chg_e (gs : List G) (k : Nat) (hk : k ≠ 2) (s : List UInt8) (n : Int) : (if gidx gs s < gs.length then (if num n then 0 else 2) else 8) = chgE gs k s n := by
  unfold chgE
  have := perm_iff n k hk
  by_cases h : num n = true
  · rw [if_pos h, if_neg (fun e => this.1 e h)]
  · rw [if_neg h, if_pos (this.2 h)]
theorem chg_m (gs : List G) (k : Nat) (hk : k ≠ 2) (s : List UInt8) (n : Int) : (if gidx gs s < gs.length ∧ num n = true then setSet gs (gidx gs s) (chgS (gset gs s) k n) else gs) = chgM gs k s n := by
  unfold chgM
  rw [← chg_e gs k hk]
  by_cases h : gidx gs s < gs.length
  · by_cases h2 : num n = true
    · rw [if_pos ⟨h, h2⟩, if_pos h, if_pos h2, if_pos rfl]
    · rw [if_neg (fun e => h2 e.2), if_pos h, if_neg h2, if_neg (by omega)]
  · rw [if_neg (fun e => h e.1), if_neg h, if_neg (by omega)]

set_option maxRecDepth 100000 in
set_option maxHeartbeats 2000000 in
theorem read_any (p : Nat) (R : Option Nat) (gs : List G) (s : List UInt8) (n : Int) (w : World) (h : MkAt w p R gs) (hg : Okm gs) (hl : ∀ g ∈ gs, g.2.2.length ≤ 1999) (hn : gs.length ≤ 1000000) :
    Calls Tryz.prog 55 #[.pointer (some ⟨p, 0, none⟩), enS s, i64 n] w (LeavesM p R w (chgM gs 0 s n) (chgE gs 0 s n)) := by
  have hnum := isNumber_any n (w.alloc (.cells #[i64 n] 3))
  have hb := blk_new w (.cells #[i64 n] 3)
  have hb0 := below_new w (.cells #[i64 n] 3)
  have hch := change_any p R gs s (num n) 100 (.pointer (some ⟨w.heap.size, 0, none⟩)) (chgS (gset gs s) 0 n) (w.alloc (.cells #[i64 n] 3)) (h.below hb0) hn fun hi hp =>
    toRead _ n _ _ (num_iff.1 hp).1 (num_iff.1 hp).2 hb (gset_ok hg s) (gset_len hl s)
  rw [chg_m gs 0 (by omega), chg_e gs 0 (by omega)] at hch
  have HB0 := Lib.hid hb0
  clear hb hb0 h hg hl
  generalize num n = q at *
  go_enter Tryz.func55, Tryz.ntmps55
  go_wp2_with fail
  refine hnum.mono ?_; rintro e w1 ⟨rfl, rfl⟩
  clear hnum
  go_wp2_with fail
  refine hch.mono ?_; rintro e w2 ⟨rfl, R', hR', m2, k2⟩
  clear hch
  go_wp2_with fail
  go_ret
  exact ⟨rfl, R', hR'.imp id fun ⟨g, e, hg⟩ => ⟨g, e, by have := HB0.out.size; omega⟩, m2, (Kept.of_below HB0.out).trans k2 (.inl rfl)⟩

set_option maxRecDepth 100000 in
set_option maxHeartbeats 2000000 in
theorem unread_any (p : Nat) (R : Option Nat) (gs : List G) (s : List UInt8) (n : Int) (w : World) (h : MkAt w p R gs) (hg : Okm gs) (hl : ∀ g ∈ gs, g.2.2.length ≤ 1999) (hn : gs.length ≤ 1000000) :
    Calls Tryz.prog 56 #[.pointer (some ⟨p, 0, none⟩), enS s, i64 n] w (LeavesM p R w (chgM gs 1 s n) (chgE gs 1 s n)) := by
  have hnum := isNumber_any n (w.alloc (.cells #[i64 n] 3))
  have hb := blk_new w (.cells #[i64 n] 3)
  have hb0 := below_new w (.cells #[i64 n] 3)
  have hch := change_any p R gs s (num n) 101 (.pointer (some ⟨w.heap.size, 0, none⟩)) (chgS (gset gs s) 1 n) (w.alloc (.cells #[i64 n] 3)) (h.below hb0) hn fun hi hp =>
    toUnread _ n _ _ (num_iff.1 hp).1 (num_iff.1 hp).2 hb (gset_ok hg s) (gset_len hl s)
  rw [chg_m gs 1 (by omega), chg_e gs 1 (by omega)] at hch
  have HB0 := Lib.hid hb0
  clear hb hb0 h hg hl
  generalize num n = q at *
  go_enter Tryz.func56, Tryz.ntmps56
  go_wp2_with fail
  refine hnum.mono ?_; rintro e w1 ⟨rfl, rfl⟩
  clear hnum
  go_wp2_with fail
  refine hch.mono ?_; rintro e w2 ⟨rfl, R', hR', m2, k2⟩
  clear hch
  go_wp2_with fail
  go_ret
  exact ⟨rfl, R', hR'.imp id fun ⟨g, e, hg⟩ => ⟨g, e, by have := HB0.out.size; omega⟩, m2, (Kept.of_below HB0.out).trans k2 (.inl rfl)⟩

theorem chg2_e (gs : List G) (s : List UInt8) (n : Int) : (if gidx gs s < gs.length then (if (decide (n = 0) || num n) then 0 else 2) else 8) = chgE gs 2 s n := by
  unfold chgE
  by_cases hi : gidx gs s < gs.length
  · rw [if_pos hi, if_pos hi]
    by_cases h : (decide (n = 0) || num n) = true
    · rw [if_pos h, if_neg (fun e => ?_)]
      simp [num_iff] at h
      have : (0 : Int) ≤ M := by decide
      omega
    · rw [if_neg h, if_pos ?_]
      simp at h
      have := mt num_iff.2 (by simpa using h.2)
      omega
  · rw [if_neg hi, if_neg hi]
theorem chg2_m (gs : List G) (s : List UInt8) (n : Int) : (if gidx gs s < gs.length ∧ (decide (n = 0) || num n) = true then setSet gs (gidx gs s) (chgS (gset gs s) 2 n) else gs) = chgM gs 2 s n := by
  unfold chgM
  rw [← chg2_e gs]
  by_cases h : gidx gs s < gs.length
  · by_cases h2 : (decide (n = 0) || num n) = true
    · rw [if_pos ⟨h, h2⟩, if_pos h, if_pos h2, if_pos rfl]
    · rw [if_neg (fun e => h2 e.2), if_pos h, if_neg h2, if_neg (by omega)]
  · rw [if_neg (fun e => h e.1), if_neg h, if_neg (by omega)]
set_option maxRecDepth 100000 in
set_option maxHeartbeats 2000000 in
theorem catchUp_any (p : Nat) (R : Option Nat) (gs : List G) (s : List UInt8) (n : Int) (w : World) (h : MkAt w p R gs) (hg : Okm gs) (hl : ∀ g ∈ gs, g.2.2.length ≤ 1999) (hn : gs.length ≤ 1000000) :
    Calls Tryz.prog 57 #[.pointer (some ⟨p, 0, none⟩), enS s, i64 n] w (LeavesM p R w (chgM gs 2 s n) (chgE gs 2 s n)) := by
  have hnum := isNumber_any n (w.alloc (.cells #[i64 n] 3))
  have hb := blk_new w (.cells #[i64 n] 3)
  have hb0 := below_new w (.cells #[i64 n] 3)
  have hch := change_any p R gs s (decide (n = 0) || num n) 102 (.pointer (some ⟨w.heap.size, 0, none⟩)) (chgS (gset gs s) 2 n) (w.alloc (.cells #[i64 n] 3)) (h.below hb0) hn fun hi hp => by
    by_cases h0 : n = 0
    · subst h0; exact toCatchUp0 _ _ _ hb
    · rw [show decide (n = 0) = false by simp [h0], Bool.false_or] at hp
      exact toCatchUp _ n _ _ (num_iff.1 hp).1 (num_iff.1 hp).2 hb (gset_ok hg s) (gset_len hl s)
  rw [chg2_m, chg2_e] at hch
  have HB0 := Lib.hid hb0
  clear hb hb0 h hg hl
  by_cases h0 : n = 0
  · subst h0
    rw [show (decide ((0 : Int) = 0) || num 0) = true by simp] at hch
    clear hnum
    go_enter Tryz.func57, Tryz.ntmps57
    go_wp2_with fail
    refine hch.mono ?_; rintro e w2 ⟨rfl, R', hR', m2, k2⟩
    clear hch
    go_wp2_with fail
    go_ret
    exact ⟨rfl, R', hR'.imp id fun ⟨g, e, hg⟩ => ⟨g, e, by have := HB0.out.size; omega⟩, m2, (Kept.of_below HB0.out).trans k2 (.inl rfl)⟩
  · rw [show decide (n = 0) = false by simp [h0], Bool.false_or] at hch
    have hd0 : (n == 0) = false := by simpa using h0
    generalize num n = q at *
    go_enter Tryz.func57, Tryz.ntmps57
    go_wp2_with fail
    refine hnum.mono ?_; rintro e w1 ⟨rfl, rfl⟩
    clear hnum
    go_wp2_with fail
    refine hch.mono ?_; rintro e w2 ⟨rfl, R', hR', m2, k2⟩
    clear hch
    go_wp2_with fail
    go_ret
    exact ⟨rfl, R', hR'.imp id fun ⟨g, e, hg⟩ => ⟨g, e, by have := HB0.out.size; omega⟩, m2, (Kept.of_below HB0.out).trans k2 (.inl rfl)⟩
end Go.Proofs.YtcpennlojjlpaaaGreatDoor
