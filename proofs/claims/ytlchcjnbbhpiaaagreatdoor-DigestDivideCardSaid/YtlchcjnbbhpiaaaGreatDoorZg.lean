/- Contracts: strings.SplitSeq; the pieces of a digest's text as they are written.
   The walk of write: the marks that ranges leave; one item. -/
import Derived.Test.YtlchcjnbbhpiaaaGreatDoorZc
import Derived.Test.YtlchcjnbbhpiaaaGreatDoorZr
import Derived.RangeFuncLeaves
import Derived.RangeFuncCalls
namespace Go.Dg
open Go.Lib
theorem unl_mono (L R : List (List UInt8)) : (unl L).length ≤ (unl (L ++ R)).length := by rw [unl_append]; simp
theorem unl_one (l : List UInt8) : unl [l] = l ++ [10] := by simp [unl]
def topL (d : Dg) : List (List UInt8) := [headT d, wDate ++ fm d.da, wTop]
def hdL (x : It) : List (List UInt8) := [wFrom ++ x.fr, wDate ++ fm x.dt, wSubj ++ x.su, wMid ++ prId x.ky, []]
def prL (ps : List (List UInt8)) : List (List UInt8) := ps.map fun p => dash p ++ p
theorem itLs_eq (x : It) : itLs x = hdL x ++ prL (pcs x.bo) ++ [sepT] := rfl
theorem tLs_eq (d : Dg) : tLs d = topL d ++ (linesD d.its).map (wSp ++ ·) ++ [sepT] ++ d.its.flatMap itLs ++ [wEnd ++ headT d] := rfl
theorem topL_flat (d : Dg) : [headT d, [10, 68, 97, 116, 101, 58, 32], fm d.da, [10, 84, 111, 112, 105, 99, 115, 58, 10]].flatten = unl (topL d) := by
 simp [topL, unl, wDate, wTop]
theorem hdL_flat (x : It) : [[70, 114, 111, 109, 58, 32], x.fr, [10, 68, 97, 116, 101, 58, 32], fm x.dt, [10, 83, 117, 98, 106, 101, 99, 116, 58, 32], x.su, [10, 77, 101, 115, 115, 97, 103, 101, 45, 73, 68, 58, 32], prId x.ky, [10, 10]].flatten = unl (hdL x) := by
 simp [hdL, unl, wFrom, wDate, wSubj, wMid]
theorem unl_snoc (L : List (List UInt8)) (l : List UInt8) : unl (L ++ [l]) = unl L ++ (l ++ [10]) := by rw [unl_append, unl_one]
theorem prL_snoc (ps : List (List UInt8)) (p : List UInt8) : prL (ps ++ [p]) = prL ps ++ [dash p ++ p] := by simp [prL]
theorem flatMap_take {α β : Type} {l : List α} {k : Nat} {x : α} (f : α → List β) (h : l[k]? = some x) : (l.take (k + 1)).flatMap f = (l.take k).flatMap f ++ f x := by
 obtain ⟨hl, hx⟩ := List.getElem?_eq_some_iff.1 h
 rw [List.take_succ_eq_append_getElem hl, hx, List.flatMap_append]; simp
theorem flatMap_at {α β : Type} {l : List α} {k : Nat} {x : α} (f : α → List β) (h : l[k]? = some x) : l.flatMap f = (l.take k).flatMap f ++ f x ++ (l.drop (k + 1)).flatMap f := by
 rw [← flatMap_take f h, ← List.flatMap_append, List.take_append_drop]
theorem map_at {α β : Type} {l : List α} {k : Nat} {x : α} (f : α → β) (h : l[k]? = some x) : l.map f = (l.take k).map f ++ [f x] ++ (l.drop (k + 1)).map f := by
 obtain ⟨hl, hx⟩ := List.getElem?_eq_some_iff.1 h
 have e : (l.take (k + 1)).map f = (l.take k).map f ++ [f x] := by rw [List.take_succ_eq_append_getElem hl, hx, List.map_append]; rfl
 rw [← e, ← List.map_append, List.take_append_drop]
theorem len_pre {t : List UInt8} {M : Nat} {d : Dg} (hM : t.length + (textD d).length ≤ M) {L R : List (List UInt8)} (h : tLs d = L ++ R) : (t ++ unl L).length ≤ M := by
 unfold textD at hM
 rw [h] at hM
 have := unl_mono L R
 rw [List.length_append]; omega
theorem dash_yes {p : List UInt8} (h : p.head? = some 45) : dash p = [45, 32] := if_pos h
theorem dash_no {p : List UInt8} (h : ¬ p.head? = some 45) : dash p = [] := if_neg h
theorem piece_eq (t : List UInt8) (L ps : List (List UInt8)) (p : List UInt8) : t ++ unl (L ++ prL ps) ++ dash p ++ (p ++ [10]) = t ++ unl (L ++ prL (ps ++ [p])) := by
 rw [prL_snoc, ← List.append_assoc L, unl_snoc]; simp
theorem endL_flat (d : Dg) : [wEnd, headT d, [10]].flatten = unl [wEnd ++ headT d] := by simp [unl]
theorem sepL_flat : [sepT, [10]].flatten = unl [sepT] := by simp [unl]
/-- Room for some more lines. -/
theorem len_more {t : List UInt8} {M : Nat} {d : Dg} (hM : t.length + (textD d).length ≤ M) {L L' R : List (List UInt8)} (h : tLs d = L ++ L' ++ R) {ps : List (List UInt8)} (hp : ps.flatten = unl L') : (t ++ unl L).length + ps.flatten.length ≤ M := by
 have := len_pre hM h
 rw [hp, ← List.length_append, List.append_assoc, ← unl_append]; exact this
theorem more_eq {t : List UInt8} {L L' : List (List UInt8)} {ps : List (List UInt8)} (hp : ps.flatten = unl L') : t ++ unl L ++ ps.flatten = t ++ unl (L ++ L') := by
 rw [hp, List.append_assoc, ← unl_append]
end Go.Dg
namespace Go.Proofs.YtlchcjnbbhpiaaaGreatDoor
open Go.RowKit Go.Shelf Go.Dg
set_option maxRecDepth 100000 in
theorem splitSeq0 (s : List UInt8) (w : World) :
  Calls Tryz.prog 107 #[enS s, .string ⟨#[10]⟩, i64 0] w fun e w' => e = .returned (.func (.func 135) #[] #[.pointer (some ⟨w.heap.size + 1, 0, none⟩), .pointer (some ⟨w.heap.size, 0, none⟩), .pointer (some ⟨w.heap.size + 2, 0, none⟩)]) ∧ w' = (((w.alloc (.cells #[enS s] 9)).alloc (.cells #[.string ⟨#[10]⟩] 9)).alloc (.cells #[.int .i64 0] 3)) := by
 go_enter Tryz.func107, Tryz.ntmps107
 go_wp2_with fail
 go_ret
 exact ⟨rfl, rfl⟩
set_option maxRecDepth 100000 in
theorem splitSeq_any (s : List UInt8) (w : World) :
  Calls Tryz.prog 62 #[enS s, .string ⟨#[10]⟩] w fun e w' => e = .returned (.func (.func 135) #[] #[.pointer (some ⟨w.heap.size + 1, 0, none⟩), .pointer (some ⟨w.heap.size, 0, none⟩), .pointer (some ⟨w.heap.size + 2, 0, none⟩)]) ∧ w' = (((w.alloc (.cells #[enS s] 9)).alloc (.cells #[.string ⟨#[10]⟩] 9)).alloc (.cells #[.int .i64 0] 3)) := by
 go_enter Tryz.func62, Tryz.ntmps62
 go_wp2_with fail
 refine (splitSeq0 s w).mono ?_; rintro e w' ⟨rfl, rfl⟩
 go_wp2_with fail
 go_ret
 exact ⟨rfl, rfl⟩
open Go.RowKit Go.Shelf Go.Dg Go.Rg
/-! ### marks -/
abbrev mk (D : Nat) : Deferred := { target := .collected D, args := #[] }
abbrev Marks (lo : Nat) (Ds : List Nat) (W : World) : Prop := Ds.Nodup ∧ ∀ D ∈ Ds, lo ≤ D ∧ W.heap[D]? = some (.deferred (some []))
theorem leave_marks {F : Fence} {n : Nat} {P : Program} {fn : Func} {tmps : Array Value} {Q : Ending → World → Prop} {R : World → Prop} {lo : Nat}
  (hR : ∀ W D, R W → W.heap[D]? = some (.deferred (some [])) → lo ≤ D → R (W.putObj D (.deferred none))) (hQ : ∀ W, R W → LeavesIn F n P fn tmps Q [] .returning W) :
  ∀ (Ds : List Nat) (W : World), Marks lo Ds W → R W → LeavesInM F n P fn tmps Q (Ds.map mk) .returning W
 | [], W, _, hr => hQ W hr
 | D :: Ds, W, ⟨hn, hm⟩, hr => by
  obtain ⟨h1, h2⟩ := List.nodup_cons.1 hn
  obtain ⟨hlo, hD⟩ := hm D (by simp)
  refine ⟨by simp, .inl ⟨D, _, rfl, run_takeDeferred hD, ?_⟩⟩
  refine leave_marks hR hQ Ds _ ⟨h2, fun E hE => ?_⟩ (hR W D hr hD hlo)
  have hne : E ≠ D := fun e => h1 (e ▸ hE)
  exact ⟨(hm E (by simp [hE])).1, (World.putObj_heap_other hne).trans (hm E (by simp [hE])).2⟩
theorem Marks.kept {lo N s : Nat} {Ds : List Nat} {u w : World} (h : Marks lo Ds u) (hs : s < lo) (k : SkB N s u w) : Marks lo Ds w :=
 ⟨h.1, fun D hD => ⟨(h.2 D hD).1, k.obj (h.2 D hD).2 (by have := (h.2 D hD).1; omega) (by intro c t fz e; cases e)⟩⟩
theorem Marks.more {lo : Nat} {Ds : List Nat} {u w : World} {D : Nat} (h0 : Marks lo Ds u) (hD : u.heap.size ≤ D) (h : Marks lo Ds w) (hlo : lo ≤ D) (hd : w.heap[D]? = some (.deferred (some []))) : Marks lo (D :: Ds) w :=
 ⟨List.nodup_cons.2 ⟨fun hm => by have := blk_lt (h0.2 D hm).2; omega, h.1⟩, fun E hE => by
  rcases List.mem_cons.1 hE with rfl | hE
  ·exact ⟨hlo, hd⟩
  ·exact h.2 E hE⟩
/-! ### what is kept -/
section
variable {N s : Nat} {u v : World}
theorem SkB.set (h : SkB N s u v) {b : Nat} (hu : u.heap.size ≤ b) (hN : N ≤ b) (x : Value) : SkB N s u (v.setCell ⟨b, 0, none⟩ x) :=
 ⟨h.below.setCell (p := ⟨b, 0, none⟩) hN x, fun k o hk hs ho => (Below.heap_setCell _ _ _ _ (fun e => by have := blk_lt hk; simp at e; omega)).trans (h.oth k o hk hs ho)⟩
theorem SkB.put (h : SkB N s u v) {b : Nat} (hu : u.heap.size ≤ b) (hN : N ≤ b) (o : Obj) : SkB N s u (v.putObj b o) :=
 ⟨⟨h.below.os, h.below.tape, h.below.output, by have := h.below.size; simpa [World.putObj] using this, fun k hk => (World.putObj_heap_other (by omega)).trans (h.below.block k hk)⟩,
  fun k o hk hs ho => (World.putObj_heap_other (by have := blk_lt hk; omega)).trans (h.oth k o hk hs ho)⟩
theorem SkW.set {A : World} {b : Nat} {q : Value} (hb : A.heap[b]? = some (.cells #[q] 9 (0, 0))) (hs : s ≠ b) (x : Value) : SkW s A (A.setCell ⟨b, 0, none⟩ x) :=
 ⟨by simp [World.setCell], blk_set_ne _ _ hs, fun k c fz e => blk_set_ne _ _ (fun e2 => by rw [e2, hb] at e; simp at e)⟩
theorem SkW.put {A : World} {b : Nat} {p : Obj} (hb : A.heap[b]? = some p) (hp : ∀ c t fz, p ≠ .cells c t fz) (hs : s ≠ b) (o : Obj) : SkW s A (A.putObj b o) :=
 ⟨by simp [World.putObj], World.putObj_heap_other hs, fun k c fz e => World.putObj_heap_other (fun e2 => by rw [e2, hb] at e; exact hp _ _ _ (by simpa using e))⟩
end
theorem parts_new {w : World} {cs : Array Value} (ps : List (List UInt8)) (h : cs = (ps.map enS).toArray) : (w.alloc (.cells cs 9)).heap[w.heap.size]? = some (.cells (ps.map enS).toArray 9 (0, 0)) := by
 rw [h]; exact blk_new _ _
/-- The three boxes of a split text, whatever is left of the text. -/
structure SqT (bs : Nat) (W : World) : Prop where
 s : ∃ q, W.heap[bs]? = some (.cells #[q] 9 (0, 0))
 sep : ∃ q, W.heap[bs + 1]? = some (.cells #[q] 9 (0, 0))
 sv : ∃ q, W.heap[bs + 2]? = some (.cells #[q] 3 (0, 0))
theorem SqT.of {bs : Nat} {W : World} {r : List UInt8} (h : SqD bs W r) : SqT bs W := ⟨⟨_, h.s⟩, ⟨_, h.sep⟩, ⟨_, h.sv⟩⟩
theorem SqT.keep {bs : Nat} {A B : World} (h : SqT bs A) (k : SqK bs A B) : SqT bs B :=
 ⟨h.s.imp fun _ e => (k bs (by omega) (by omega)).trans e, h.sep.imp fun _ e => (k (bs + 1) (by omega) (by omega)).trans e, h.sv.imp fun _ e => (k (bs + 2) (by omega) (by omega)).trans e⟩
theorem SqT.set {bs : Nat} {A : World} (h : SqT bs A) (v : Value) : SqT bs (A.setCell ⟨bs, 0, none⟩ v) := by
 obtain ⟨⟨q, h1⟩, h2, h3⟩ := h
 exact ⟨⟨v, by rw [blk_set h1]; rfl⟩, h2.imp fun _ e => (blk_set_ne _ _ (by omega)).trans e, h3.imp fun _ e => (blk_set_ne _ _ (by omega)).trans e⟩
theorem SqT.sk {bs N s : Nat} {A B : World} (h : SqT bs A) (hs : s < bs) (hk : SkB N s A B) : SqK bs A B := fun i h1 h2 => by
 obtain ⟨⟨q1, e1⟩, ⟨q2, e2⟩, ⟨q3, e3⟩⟩ := h
 rcases (show i = bs ∨ i = bs + 1 ∨ i = bs + 2 by omega) with rfl | rfl | rfl
 ·exact (hk.blk e1 (by omega) (by decide)).trans e1.symm
 ·exact (hk.blk e2 (by omega) (by decide)).trans e2.symm
 ·exact (hk.blk e3 (by omega) (by decide)).trans e3.symm
theorem pre45 (p : List UInt8) : ([45] : List UInt8).isPrefixOf p = decide (p.head? = some 45) := by
 cases p with
 | nil => rfl
 | cons c p =>
  by_cases h : c = 45
  ·subst h; simp [List.isPrefixOf]
  ·have : (45 == c) = false := by simpa using fun e => h e.symm
   simp [List.isPrefixOf, h, this]
/-- Where the walk stands: what the sink holds, what is kept, the marks. -/
structure St (T : List UInt8 → World → Prop) (N s : Nat) (w : World) (Ds : List Nat) (x : List UInt8) (W : World) : Prop where
 t : T x W
 k : SkB N s w W
 m : Marks w.heap.size Ds W
section
variable {F N s M : Nat} {T : List UInt8 → World → Prop} {w W W' : World} {Ds : List Nat} {x : List UInt8}
theorem St.size (h : St T N s w Ds x W) : w.heap.size ≤ W.heap.size := h.k.below.size
theorem St.below (h : St T N s w Ds x W) (hS : Sink F s N M T) (hN : N ≤ w.heap.size) (hs : s < w.heap.size) (hb : Below W.heap.size W W') : St T N s w Ds x W' :=
 have hz := h.size
 have hk : SkB N s W W' := SkB.of_below hb (Nat.le_trans hN hz)
 ⟨hS.keep _ _ _ h.t (SkW.of_below hb (by omega)), h.k.trans hk, h.m.kept hs hk⟩
theorem St.call (h : St T N s w Ds x W) (hs : s < w.heap.size) {y : List UInt8} (ht : T y W') (hk : SkB N s W W') : St T N s w Ds y W' :=
 ⟨ht, h.k.trans hk, h.m.kept hs hk⟩
theorem sink_step (h : St T N s w Ds x W) (hS : Sink F s N M T) (hN : N ≤ w.heap.size) (hs : s < w.heap.size) (ps : List (List UInt8)) (cs : Array Value) (hcs : cs = (ps.map enS).toArray) (hp : 0 < ps.length) (hn : ps.length ≤ 1000) (hl : x.length + ps.flatten.length ≤ M) :
  Calls Tryz.prog F #[.slice (some ⟨W.heap.size, 0, none⟩) ps.length ps.length, .pointer (some ⟨s, 0, none⟩)] (W.alloc (.cells cs 9)) fun e W' => e = .returned (.tuple #[]) ∧ St T N s w Ds (x ++ ps.flatten) W' ∧ SkB N s W W' ∧ SkB N s (W.alloc (.cells cs 9)) W' := by
 have h1 := h.below hS hN hs (below_new W (.cells cs 9))
 refine (hS.call _ x W.heap.size ps h1.t (parts_new ps hcs) hp hn hl).mono ?_
 rintro e W' ⟨rfl, h2, h3⟩
 exact ⟨rfl, h1.call hs h2 h3, (SkB.of_below (below_new W (.cells cs 9)) (Nat.le_trans hN h.size)).trans h3, h3⟩
theorem St.setC (h : St T N s w Ds x W) (hS : Sink F s N M T) {b : Nat} {q : Value} (hb : W.heap[b]? = some (.cells #[q] 9 (0, 0))) (hN : N ≤ w.heap.size) (hw : w.heap.size ≤ b) (hs : s < w.heap.size) (v : Value) : St T N s w Ds x (W.setCell ⟨b, 0, none⟩ v) :=
 ⟨hS.keep _ _ _ h.t (SkW.set hb (by omega) v), h.k.set hw (by omega) v, h.m.1, fun D hD => ⟨(h.m.2 D hD).1, (blk_set_ne _ _ (fun e => by have := (h.m.2 D hD).2; rw [e, hb] at this; cases this)).trans (h.m.2 D hD).2⟩⟩
theorem St.putL (h : St T N s w Ds x W) (hS : Sink F s N M T) {l : Nat} {r : Loop} (hl : W.heap[l]? = some (.loop r)) (hN : N ≤ w.heap.size) (hw : w.heap.size ≤ l) (hs : s < w.heap.size) (o : Obj) : St T N s w Ds x (W.putObj l o) :=
 ⟨hS.keep _ _ _ h.t (SkW.put hl (by intro c t fz e; cases e) (by omega) o), h.k.put hw (by omega) o, h.m.1, fun D hD => ⟨(h.m.2 D hD).1, (World.putObj_heap_other (fun e => by have := (h.m.2 D hD).2; rw [e, hl] at this; cases this)).trans (h.m.2 D hD).2⟩⟩
theorem St.blk (h : St T N s w Ds x W) {b : Nat} {cs : Array Value} {t : TypeId} {fr : Nat × Nat} (hb : w.heap[b]? = some (.cells cs t fr)) (hs : b ≠ s) (ht : t ≠ 5) : W.heap[b]? = some (.cells cs t fr) := h.k.blk hb hs ht
end
end Go.Proofs.YtlchcjnbbhpiaaaGreatDoor
