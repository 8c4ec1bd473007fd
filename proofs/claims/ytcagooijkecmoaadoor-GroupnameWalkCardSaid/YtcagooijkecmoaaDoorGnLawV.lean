/- What the walk of the statement GroupnameWalk carries from step to step. -/
import Derived.Test.YtcagooijkecmoaaDoorGnWalkG
import Derived.Test.YtcagooijkecmoaaDoorGnLawC
import Derived.RangeFuncWrites
namespace Go.Proofs.YtcagooijkecmoaaDoor
open Go.RowKit Go.Gn Go.Maps
attribute [local go_sem] Oper.semAt_some

/-- The parameters and the result at a world. -/
structure V0 (w : World) (A : Option Addr) (c : Nat) (xs : List (List UInt8)) (t : Nat) (W : World) : Prop where
  size : w.heap.size + 1 + 1 < W.heap.size
  l : W.cell? ⟨w.heap.size, 0, none⟩ = some (.slice A xs.length c)
  t : W.cell? ⟨w.heap.size + 1, 0, none⟩ = some (.int .u8 t)
  r : W.cell? ⟨w.heap.size + 1 + 1, 0, none⟩ = some (.bool false) ∧ W.frozen? ⟨w.heap.size + 1 + 1, 0, none⟩ = false
theorem V0.below {w : World} {A : Option Addr} {c : Nat} {xs : List (List UInt8)} {t : Nat} {W W' : World} (h : V0 w A c xs t W) (hb : Below W.heap.size W W') : V0 w A c xs t W' :=
  ⟨Nat.lt_of_lt_of_le h.size hb.size, Below.cellv hb h.l, Below.cellv hb h.t, Below.cellv hb h.r.1, by rw [hb.frozen (p := ⟨w.heap.size + 1 + 1, 0, none⟩) h.size]; exact h.r.2⟩
theorem v0_made (w : World) (A : Option Addr) (c : Nat) (xs : List (List UInt8)) (t : Nat) : V0 w A c xs t (((w.alloc (.cells #[.slice A xs.length c] 24)).alloc (.cells #[.int .u8 (t : Int)] 5)).alloc (.cells #[.bool false] 4)) := by
  have h1 := blk_new w (.cells #[.slice A xs.length c] 24)
  have h2 := blk_new (w.alloc (.cells #[.slice A xs.length c] 24)) (.cells #[.int .u8 (t : Int)] 5)
  have h3 := blk_new ((w.alloc (.cells #[.slice A xs.length c] 24)).alloc (.cells #[.int .u8 (t : Int)] 5)) (.cells #[.bool false] 4)
  rw [World.size_alloc] at h2
  rw [World.size_alloc, World.size_alloc] at h3
  refine ⟨by simp, ?_, ?_, ?_, ?_⟩
  · rw [blk_cell (blk_old _ (blk_old _ h1)) 0]; rfl
  · rw [blk_cell (blk_old _ h2) 0]; rfl
  · rw [blk_cell h3 0]; rfl
  · exact blk_free h3 0
theorem cell_set {w : World} {b c o : Nat} {v u : Value} (hne : b ≠ c) (h : w.cell? ⟨b, o, none⟩ = some v) : (w.setCell ⟨c, 0, none⟩ u).cell? ⟨b, o, none⟩ = some v := by
  have := blk_set_ne (w := w) 0 u hne
  simp only [World.cell?, this] at h ⊢
  exact h
theorem V0.set {w : World} {A : Option Addr} {c : Nat} {xs : List (List UInt8)} {t : Nat} {W : World} (h : V0 w A c xs t W) {b : Nat} {u : Value} (hb : w.heap.size + 1 + 1 < b) : V0 w A c xs t (W.setCell ⟨b, 0, none⟩ u) :=
  ⟨by simpa using h.size, cell_set (by omega) h.l, cell_set (by omega) h.t, cell_set (by omega) h.r.1, by rw [World.frozen?_setCell]; exact h.r.2⟩
/-- The wanted hierarchies at a world. -/
structure VW (bw : Nat) (D : Option Addr) (d : Nat) (R : List (List UInt8)) (W : World) : Prop where
  cell : W.cell? ⟨bw, 0, none⟩ = some (.slice D R.length d)
  free : W.frozen? ⟨bw, 0, none⟩ = false
  rd : 0 < R.length → ∃ b o, D = some ⟨b, o, none⟩ ∧ b < bw ∧ ∀ j x, R[j]? = some x → W.cell? ⟨b, o + j, none⟩ = some (enS x)
theorem VW.below {bw : Nat} {D : Option Addr} {d : Nat} {R : List (List UInt8)} {W W' : World} (h : VW bw D d R W) (hb : Below W.heap.size W W') : VW bw D d R W' :=
  ⟨Below.cellv hb h.cell, by rw [hb.frozen (p := ⟨bw, 0, none⟩) (World.block_lt_of_cell? W _ h.cell)]; exact h.free, fun hp => by
    obtain ⟨b, o, e, h1, h2⟩ := h.rd hp
    exact ⟨b, o, e, h1, fun j x hj => Below.cellv hb (h2 j x hj)⟩⟩
/-- The statement's own variables at a world: bn, bn + 1, bn + 1 + 1: the counter, the map, the map's variable. -/
structure Own (w : World) (A : Option Addr) (c : Nat) (xs : List (List UInt8)) (t : Nat) (bw bn : Nat) (D : Option Addr) (d : Nat) (R : List (List UInt8)) (n : Nat) (P : DataW Unit → Prop) (W : World) : Prop where
  v0 : V0 w A c xs t W
  ord : w.heap.size + 1 + 1 < bw ∧ bw < bn ∧ bn + 1 + 1 < W.heap.size
  below : Below w.heap.size w W
  vw : VW bw D d R W
  nc : W.cell? ⟨bn, 0, none⟩ = some (.int .i64 n) ∧ W.frozen? ⟨bn, 0, none⟩ = false
  m : W.cell? ⟨bn + 1 + 1, 0, none⟩ = some (.map (some (bn + 1)))
  own : ∃ (nn : Nat) (Dm : DataW Unit), nn ≤ n ∧ W.ownsMap Tryd.prog 9 (plainElem Tryd.prog 3) (bn + 1) nn Dm ∧ P Dm
theorem frozen_same {w w' : World} {b o : Nat} (h : w'.heap[b]? = w.heap[b]?) : w'.frozen? ⟨b, o, none⟩ = w.frozen? ⟨b, o, none⟩ := by
  simp [World.frozen?, h]
theorem cell_same {w w' : World} {b o : Nat} (h : w'.heap[b]? = w.heap[b]?) : w'.cell? ⟨b, o, none⟩ = w.cell? ⟨b, o, none⟩ := by
  simp [World.cell?, h]
/-- What keeps every block up to the map's variable keeps the variables. -/
theorem Own.keeps {w : World} {A : Option Addr} {c : Nat} {xs : List (List UInt8)} {t bw bn : Nat} {D : Option Addr} {d : Nat} {R : List (List UInt8)} {n : Nat} {P : DataW Unit → Prop} {W W' : World} (h : Own w A c xs t bw bn D d R n P W)
    (hs : W.heap.size ≤ W'.heap.size) (hk : ∀ b, b ≤ bn + 1 + 1 → W'.heap[b]? = W.heap[b]?) (hb : Below w.heap.size w W') : Own w A c xs t bw bn D d R n P W' := by
  obtain ⟨o1, o2, o3⟩ := h.ord
  refine ⟨⟨Nat.lt_of_lt_of_le h.v0.size hs, ?_, ?_, ?_, ?_⟩, ⟨o1, o2, by omega⟩, hb, ⟨?_, ?_, ?_⟩, ⟨?_, ?_⟩, ?_, ?_⟩
  · rw [cell_same (hk _ (by omega))]; exact h.v0.l
  · rw [cell_same (hk _ (by omega))]; exact h.v0.t
  · rw [cell_same (hk _ (by omega))]; exact h.v0.r.1
  · rw [frozen_same (hk _ (by omega))]; exact h.v0.r.2
  · rw [cell_same (hk _ (by omega))]; exact h.vw.cell
  · rw [frozen_same (hk _ (by omega))]; exact h.vw.free
  · intro hp
    obtain ⟨b, o, e, h1, h2⟩ := h.vw.rd hp
    exact ⟨b, o, e, h1, fun j x hj => by rw [cell_same (hk _ (by omega))]; exact h2 j x hj⟩
  · rw [cell_same (hk _ (by omega))]; exact h.nc.1
  · rw [frozen_same (hk _ (by omega))]; exact h.nc.2
  · rw [cell_same (hk _ (by omega))]; exact h.m
  · obtain ⟨nn, Dm, h1, ⟨es, clock, hb', F, hs', hD⟩, h3⟩ := h.own
    exact ⟨nn, Dm, h1, ⟨es, clock, (hk _ (by omega)).trans hb', F, hs', hD⟩, h3⟩
theorem Own.tr {w : World} {A : Option Addr} {c : Nat} {xs : List (List UInt8)} {t bw bn : Nat} {D : Option Addr} {d : Nat} {R : List (List UInt8)} {n : Nat} {P : DataW Unit → Prop} {W W' : World} (h : Own w A c xs t bw bn D d R n P W)
    (hb : Below W.heap.size W W') : Own w A c xs t bw bn D d R n P W' :=
  h.keeps hb.size (fun b hb' => hb.block b (by have := h.ord.2.2; omega)) (h.below.tr hb)

theorem own_made {w : World} {A : Option Addr} {c : Nat} {xs : List (List UInt8)} {t bw : Nat} {D : Option Addr} {d : Nat} {R : List (List UInt8)} {wc : World} (h0 : V0 w A c xs t wc) (hB : Below w.heap.size w wc) (hw : VW bw D d R wc) (h1 : w.heap.size + 1 + 1 < bw) (h2 : bw < wc.heap.size) :
    Own w A c xs t bw wc.heap.size D d R 0 (fun Dm => Dm = .map []) (((wc.alloc (.cells #[.int .i64 0] 3)).alloc (.map #[] 0)).alloc (.cells #[.map (some (wc.heap.size + 1))] 41)) := by
  have k1 := below_new wc (.cells #[.int .i64 0] 3)
  have k2 := below_new (wc.alloc (.cells #[.int .i64 0] 3)) (.map #[] 0)
  have k3 := below_new ((wc.alloc (.cells #[.int .i64 0] 3)).alloc (.map #[] 0)) (.cells #[.map (some (wc.heap.size + 1))] 41)
  have kk := (k1.tr k2).tr k3
  have n1 := blk_new wc (.cells #[.int .i64 0] 3)
  have n3 := blk_new ((wc.alloc (.cells #[.int .i64 0] 3)).alloc (.map #[] 0)) (.cells #[.map (some (wc.heap.size + 1))] 41)
  have n2 := (World.ownsMap_made (wc.alloc (.cells #[.int .i64 0] 3)) Tryd.prog 9 (plainElem (H := Unit) Tryd.prog 3)).alloc (.cells #[.map (some (wc.heap.size + 1))] 41)
  rw [World.size_alloc] at n2
  rw [World.size_alloc, World.size_alloc] at n3
  refine ⟨h0.below kk, ⟨h1, h2, by simp⟩, hB.tr kk, hw.below kk, ⟨?_, ?_⟩, ?_, 0, _, Nat.le_refl _, n2, rfl⟩
  · rw [blk_cell (blk_old _ (blk_old _ n1)) 0]; rfl
  · exact blk_free (blk_old _ (blk_old _ n1)) 0
  · rw [blk_cell n3 0]; rfl

theorem keepsFrom_below {B : Nat} {W W' : World} (hb : Below W.heap.size W W') : KeepsFrom B W W' := ⟨hb.size, fun k _o _ hk _ => (hb.block k (blk_lt hk)).trans hk⟩
theorem keepsIn_below {lo hi : Nat} {W W' : World} (hhi : hi ≤ W.heap.size) (hb : Below W.heap.size W W') : KeepsIn lo hi W W' := ⟨hb.size, fun b _ h => hb.block b (by omega)⟩
theorem keepsIn_grown {lo hi row : Nat} {W W' : World} (hg : W.grownBy W' (some row)) (h : row < lo) (hhi : hi ≤ W.heap.size) : KeepsIn lo hi W W' :=
  ⟨hg.size, fun b h1 h2 => hg.block b (by omega) (by simp; omega)⟩
theorem keepsIn_set {lo hi b : Nat} {W : World} {v : Value} (h : b < lo) : KeepsIn lo hi W (W.setCell ⟨b, 0, none⟩ v) := ⟨by simp, fun k h1 _ => blk_set_ne 0 v (by omega)⟩
theorem keepsIn_put {lo hi : Nat} (W : World) (l : Nat) (o o' : Obj) (hl : hi ≤ l) (ho : W.heap[l]? = some o) : KeepsIn lo hi W (W.putObj l o') :=
  ⟨(grownBy_putObj' W l o').size, fun b _ h => (grownBy_putObj' W l o').block b (by have := blk_lt ho; omega) (by simp; omega)⟩
def cntI (xs : List (List UInt8)) : List UInt8 → Int := fun z => (countL xs z : Nat)
/-- What the statement's map holds when k hierarchies have come. -/
def MapP (xs R : List (List UInt8)) (k : Nat) (Dm : DataW Unit) : Prop := ∀ z ∈ R.take k, Dm.atKey (.string z) (.lit (.int .i64 0)) = .lit (.int .i64 (cntI xs z))
def Inv1 (w : World) (A : Option Addr) (c : Nat) (xs : List (List UInt8)) (t bw bn : Nat) (D : Option Addr) (d : Nat) (R : List (List UInt8)) (B : Nat) (pre : List (List UInt8 × Int)) (W : World) : Prop :=
  pre = items (cntI xs) (R.take pre.length) ∧ pre.length ≤ R.length ∧ Own w A c xs t bw bn D d R pre.length (MapP xs R pre.length) W ∧ B ≤ W.heap.size
theorem Own.grown {w : World} {A : Option Addr} {c : Nat} {xs : List (List UInt8)} {t bw bn : Nat} {D : Option Addr} {d : Nat} {R : List (List UInt8)} {n : Nat} {P : DataW Unit → Prop} {W W' : World} {row : Option Nat} (h : Own w A c xs t bw bn D d R n P W)
    (hg : W.grownBy W' row) (hr : ∀ r, row = some r → bn + 1 + 1 < r) : Own w A c xs t bw bn D d R n P W' :=
  h.keeps hg.size (fun b hb => hg.block b (by have := h.ord.2.2; omega) (fun e => by have := hr b e.symm; omega)) (h.below.grown hg h.below.size (fun k hk => by have := hr k hk; have := h.ord; omega))
theorem inv1_own {w : World} {A : Option Addr} {c : Nat} {xs : List (List UInt8)} {t bw bn : Nat} {D : Option Addr} {d : Nat} {R : List (List UInt8)} {B : Nat} (hB : bn + 1 + 1 < B) : OwnFrom B (Inv1 w A c xs t bw bn D d R B) := by
  intro s W W' row ⟨h1, h2, h3, h4⟩ hg hr
  exact ⟨h1, h2, h3.grown hg (fun r e => by have := (hr r e).1; omega), Nat.le_trans h4 hg.size⟩
/-- The counter is raised, and the map holds one more. -/
theorem Own.setN {w : World} {A : Option Addr} {c : Nat} {xs : List (List UInt8)} {t bw bn : Nat} {D : Option Addr} {d : Nat} {R : List (List UInt8)} {n n' : Nat} {P P' : DataW Unit → Prop} {W W' : World} (h : Own w A c xs t bw bn D d R n P W)
    (hg : W.grownBy W' (some (bn + 1))) {nn : Nat} {Dm : DataW Unit} (hn : nn ≤ n') (ho : W'.ownsMap Tryd.prog 9 (plainElem Tryd.prog 3) (bn + 1) nn Dm) (hP : P' Dm) : Own w A c xs t bw bn D d R n' P' (W'.setCell ⟨bn, 0, none⟩ (.int .i64 n')) := by
  obtain ⟨o1, o2, o3⟩ := h.ord
  have hk : ∀ b, b ≤ bn + 1 + 1 → b ≠ bn + 1 → b ≠ bn → (W'.setCell ⟨bn, 0, none⟩ (.int .i64 n')).heap[b]? = W.heap[b]? := fun b h1 h2 h3 => (blk_set_ne 0 _ h3).trans (hg.block b (by omega) (by simp; omega))
  have hcn : W'.cell? ⟨bn, 0, none⟩ = some (.int .i64 n) := by rw [cell_same (hg.block bn (by omega) (by simp))]; exact h.nc.1
  refine ⟨⟨by have := hg.size; have := h.v0.size; simp; omega, ?_, ?_, ?_, ?_⟩, ⟨o1, o2, by have := hg.size; simp; omega⟩, ?_, ⟨?_, ?_, ?_⟩, ⟨?_, ?_⟩, ?_, nn, Dm, hn, ?_, hP⟩
  · rw [cell_same (hk _ (by omega) (by omega) (by omega))]; exact h.v0.l
  · rw [cell_same (hk _ (by omega) (by omega) (by omega))]; exact h.v0.t
  · rw [cell_same (hk _ (by omega) (by omega) (by omega))]; exact h.v0.r.1
  · rw [frozen_same (hk _ (by omega) (by omega) (by omega))]; exact h.v0.r.2
  · exact (h.below.grown hg h.below.size (fun k e => by cases e; omega)).setCell (by simp; omega) _
  · rw [cell_same (hk _ (by omega) (by omega) (by omega))]; exact h.vw.cell
  · rw [frozen_same (hk _ (by omega) (by omega) (by omega))]; exact h.vw.free
  · intro hp
    obtain ⟨b, o, e, h1, h2⟩ := h.vw.rd hp
    exact ⟨b, o, e, h1, fun j x hj => by rw [cell_same (hk _ (by omega) (by omega) (by omega))]; exact h2 j x hj⟩
  · exact World.cell?_setCell_same' _ _ _ (by rw [hcn]; rfl)
  · rw [World.frozen?_setCell, frozen_same (hg.block bn (by omega) (by simp))]; exact h.nc.2
  · rw [cell_same (hk _ (by omega) (by omega) (by omega))]; exact h.m
  · obtain ⟨es, clock, hb', F, hs', hD⟩ := ho
    exact ⟨es, clock, (blk_set_ne 0 _ (by omega)).trans hb', F, hs', hD⟩
theorem above_le (xs : List (List UInt8)) : (aboveL xs).length ≤ 100000 ∧ ∀ z ∈ aboveL xs, z.length ≤ 80 := by
  have hc : ∀ x ∈ sortS xs, check x = 0 := fun x hx => (sortS_mem hx).1
  constructor
  · have h1 := insAll_length gcmp ((sortS xs).flatMap hiers)
    have h2 := flat_length (sortS xs) hc
    have h3 := sortS_four xs
    unfold aboveL; omega
  · intro z hz
    unfold aboveL at hz
    rw [mem_insAll gcmp_lin] at hz
    obtain ⟨a, ha, hza⟩ := List.mem_flatMap.1 hz
    have := hiers_le hza
    have := ((check_zero a).1 (hc a ha)).1
    omega
/-- A pair that is not the next one cannot have come. -/
theorem not_next {xs R : List (List UInt8)} {pre : List (List UInt8 × Int)} {h z : List UInt8} {k : Int} (hz : R[pre.length]? = some z) (hne : ¬ (h = z ∧ k = cntI xs z)) : ¬ ∃ k', k' ≤ R.length ∧ pre ++ [(h, k)] = items (cntI xs) (R.take k') := by
  rintro ⟨k', hk', e⟩
  have hl := congrArg List.length e
  simp [items] at hl
  have e2 := congrArg (fun l : List (List UInt8 × Int) => l[pre.length]?) e
  simp only [List.getElem?_append_right (Nat.le_refl _), Nat.sub_self, List.getElem?_cons_zero, items, List.getElem?_map, List.getElem?_take] at e2
  rw [if_pos (by omega), hz] at e2
  simp at e2
  exact hne e2
theorem countL_le (xs : List (List UInt8)) (h : List UInt8) : countL xs h ≤ 4096 := by
  unfold countL countN
  exact Nat.le_trans (List.length_filter_le _ _) (sortS_four xs)
theorem grown_free {w w' : World} {row b o : Nat} (hg : w.grownBy w' (some row)) (hne : b ≠ row) (hl : b < w.heap.size) (h : w.frozen? ⟨b, o, none⟩ = false) : w'.frozen? ⟨b, o, none⟩ = false := by
  rw [frozen_same (hg.block b hl (by simp; exact hne))]; exact h
/-- One pair more. -/
theorem mapP_step {xs R : List (List UInt8)} {k : Nat} {Dm : DataW Unit} {h : List UInt8} (hm : IsMap Dm) (hz : R[k]? = some h) (hP : MapP xs R k Dm) : MapP xs R (k + 1) (Dm.put (.string h) (.lit (.int .i64 (cntI xs h)))) := by
  intro z hzm
  obtain ⟨hl, hx⟩ := List.getElem?_eq_some_iff.1 hz
  rw [List.take_succ_eq_append_getElem hl, hx] at hzm
  by_cases e : z = h
  · subst e
    rw [atKey_put_same hm (show WideAt.IsKeyLit (.string z) from trivial)]
  · rw [atKey_put_other (by intro e2; cases e2; exact e rfl)]
    refine hP z ?_
    rcases List.mem_append.1 hzm with hm | hm
    · exact hm
    · simp at hm; exact absurd hm e
theorem owns_isMap {w : World} {b n : Nat} {D : DataW Unit} (h : w.ownsMap Tryd.prog 9 (plainElem Tryd.prog 3) b n D) : IsMap D := by
  obtain ⟨es, e, _⟩ := h.entries (string_keyed Tryd.underlying9)
  exact ⟨es, e⟩
theorem items_next {xs R : List (List UInt8)} {pre : List (List UInt8 × Int)} {h : List UInt8} (hz : R[pre.length]? = some h) (hpre : pre = items (cntI xs) (R.take pre.length)) : pre ++ [(h, cntI xs h)] = items (cntI xs) (R.take (pre ++ [(h, cntI xs h)]).length) := by
  rw [List.length_append, List.length_singleton, items_take_succ _ _ _ _ hz, ← hpre]
theorem keepsFrom_set {B b : Nat} {W : World} {v : Value} (h : b < B) : KeepsFrom B W (W.setCell ⟨b, 0, none⟩ v) := ⟨by simp, fun k o hB hk _ => (blk_set_ne 0 v (by omega)).trans hk⟩
theorem keepsFrom_grown {B row : Nat} {W W' : World} (hg : W.grownBy W' (some row)) (h : row < B) : KeepsFrom B W W' := KeepsFrom.of_grownBy hg (fun j e => by cases e; exact h)
theorem sortS_ok {xs : List (List UInt8)} (hs : sortE xs = 0) : sortS xs = insAll gcmp xs := by unfold sortS; rw [if_pos hs]
theorem kidsS_ok {xs : List (List UInt8)} {h : List UInt8} (hs : sortE xs = 0) (hh : check h = 0) : kidsS xs h = insAll scmp (kids (preOf h) (sortS xs)) := by
  have : kidsE xs h = 0 := by unfold kidsE; rw [if_neg (by simp [hh])]; exact hs
  unfold kidsS; rw [if_pos this]
theorem above_check {xs : List (List UInt8)} {h : List UInt8} (hz : h ∈ aboveL xs) : check h = 0 := by
  unfold aboveL at hz
  rw [mem_insAll gcmp_lin] at hz
  obtain ⟨a, ha, hza⟩ := List.mem_flatMap.1 hz
  exact ((Go.Gn.within_iff a h).1 ((mem_hiers (sortS_mem ha).1).1 hza)).2.1
/-- **The number of a hierarchy is the sum of those of its children, plus 1 for an element.** -/
theorem law_sum {xs : List (List UInt8)} {h : List UInt8} (hs : sortE xs = 0) (hh : check h = 0) : cntI xs h = (if h ∈ xs then 1 else 0) + ((kidsS xs h).map fun c => cntI xs (h ++ 46 :: c)).sum := by
  have hc : ∀ x ∈ sortS xs, check x = 0 := fun x hx => (sortS_mem hx).1
  have hn : (sortS xs).Nodup := by rw [sortS_ok hs]; exact inc_nodup gcmp_lin (insAll_inc gcmp_lin xs)
  have hm : h ∈ sortS xs ↔ h ∈ xs := by rw [sortS_ok hs, mem_insAll gcmp_lin]
  have key : ∀ (f : List UInt8 → Nat) (l : List (List UInt8)), (((l.map f).sum : Nat) : Int) = (l.map fun c => (f c : Int)).sum := by
    intro f l
    induction l with
    | nil => rfl
    | cons a l ih => simp [ih]
  unfold cntI countL
  rw [count_sum (sortS xs) hn hc h hh, kidsS_ok hs hh, Int.natCast_add, key]
  congr 1
  by_cases e : h ∈ xs
  · rw [if_pos e, if_pos (hm.2 e)]; rfl
  · rw [if_neg e, if_neg (fun k => e (hm.1 k))]; rfl
theorem law_kid {xs : List (List UInt8)} {h c : List UInt8} (hs : sortE xs = 0) (hh : check h = 0) (hcm : c ∈ kidsS xs h) : h ++ 46 :: c ∈ aboveL xs := by
  rw [kidsS_ok hs hh, mem_insAll scmp_lin] at hcm
  obtain ⟨x, hx, hk⟩ := List.mem_filterMap.1 hcm
  have hx0 := (sortS_mem hx).1
  have := kid_within hx0 hh (kids_free _ _ c hcm)
  rw [decide_eq_true hk] at this
  unfold aboveL
  rw [mem_insAll gcmp_lin]
  exact List.mem_flatMap.2 ⟨x, hx, (mem_hiers hx0).2 this.symm⟩
theorem kidsS_len {xs : List (List UInt8)} {h : List UInt8} (hs : sortE xs = 0) (hh : check h = 0) : (kidsS xs h).length ≤ 4096 := by
  rw [kidsS_ok hs hh]
  have h1 := insAll_length scmp (kids (preOf h) (sortS xs))
  have h2 : (kids (preOf h) (sortS xs)).length ≤ (sortS xs).length := List.length_filterMap_le _ _
  have h3 := sortS_four xs
  omega
/-- The sum over the first children. -/
def sumC (xs : List (List UInt8)) (h : List UInt8) (K : List (List UInt8)) : Int := (K.map fun c => cntI xs (h ++ 46 :: c)).sum
theorem sumC_snoc (xs : List (List UInt8)) (h : List UInt8) (K : List (List UInt8)) (j : Nat) (c : List UInt8) (hc : K[j]? = some c) : sumC xs h (K.take (j + 1)) = sumC xs h (K.take j) + cntI xs (h ++ 46 :: c) := by
  obtain ⟨hl, hx⟩ := List.getElem?_eq_some_iff.1 hc
  rw [List.take_succ_eq_append_getElem hl, hx]
  simp [sumC]
theorem cntI_rng (xs : List (List UInt8)) (h : List UInt8) : 0 ≤ cntI xs h ∧ cntI xs h ≤ 4096 := by
  have := countL_le xs h
  unfold cntI; omega
theorem sumC_rng (xs : List (List UInt8)) (h : List UInt8) : ∀ K : List (List UInt8), 0 ≤ sumC xs h K ∧ sumC xs h K ≤ 4096 * K.length
  | [] => by simp [sumC]
  | c :: K => by
    have := sumC_rng xs h K
    have := cntI_rng xs (h ++ 46 :: c)
    have e : sumC xs h (c :: K) = cntI xs (h ++ 46 :: c) + sumC xs h K := rfl
    rw [e]; simp only [List.length_cons]; omega
/-- Whether a text is among the first. -/
def oneI (xs : List (List UInt8)) (h : List UInt8) : Int := if h ∈ xs then 1 else 0
theorem oneI_snoc (xs : List (List UInt8)) (h : List UInt8) (k : Nat) (x : List UInt8) (hx : xs[k]? = some x) : oneI (xs.take (k + 1)) h = if x = h then 1 else oneI (xs.take k) h := by
  obtain ⟨hl, hx⟩ := List.getElem?_eq_some_iff.1 hx
  rw [List.take_succ_eq_append_getElem hl, hx]
  unfold oneI
  by_cases e : x = h
  · subst e; simp
  · simp [e, Ne.symm e]
theorem oneI_rng (xs : List (List UInt8)) (h : List UInt8) : 0 ≤ oneI xs h ∧ oneI xs h ≤ 1 := by unfold oneI; split <;> omega
theorem Own.drewN {w : World} {A : Option Addr} {c : Nat} {xs : List (List UInt8)} {t bw bn : Nat} {D : Option Addr} {d : Nat} {R : List (List UInt8)} {n : Nat} {P : DataW Unit → Prop} {W : World} (h : Own w A c xs t bw bn D d R n P W) (q : Nat) : Own w A c xs t bw bn D d R n P (W.drewN q) :=
  h.keeps (Nat.le_refl _) (fun _ _ => rfl) (h.below.drewN q)
/-- What the loops behind the first range carry. -/
structure Beh (w : World) (A : Option Addr) (c : Nat) (xs : List (List UInt8)) (t bw bn : Nat) (D : Option Addr) (d : Nat) (R : List (List UInt8)) (D0 B : Nat) (W : World) : Prop where
  own : Own w A c xs t bw bn D d R R.length (MapP xs R R.length) W
  col : W.heap[D0]? = some (.deferred (some []))
  size : B ≤ W.heap.size
theorem Beh.drewN {w : World} {A : Option Addr} {c : Nat} {xs : List (List UInt8)} {t bw bn : Nat} {D : Option Addr} {d : Nat} {R : List (List UInt8)} {D0 B : Nat} {W : World} (h : Beh w A c xs t bw bn D d R D0 B W) (q : Nat) : Beh w A c xs t bw bn D d R D0 B (W.drewN q) :=
  ⟨h.own.drewN q, h.col, h.size⟩
theorem Beh.drew {w : World} {A : Option Addr} {c : Nat} {xs : List (List UInt8)} {t bw bn : Nat} {D : Option Addr} {d : Nat} {R : List (List UInt8)} {D0 B : Nat} {W : World} (h : Beh w A c xs t bw bn D d R D0 B W) : Beh w A c xs t bw bn D d R D0 B W.drew :=
  ⟨h.own.keeps (Nat.le_refl _) (fun _ _ => rfl) h.own.below.drew, h.col, h.size⟩
theorem Beh.tr {w : World} {A : Option Addr} {c : Nat} {xs : List (List UInt8)} {t bw bn : Nat} {D : Option Addr} {d : Nat} {R : List (List UInt8)} {D0 B : Nat} {W W' : World} (h : Beh w A c xs t bw bn D d R D0 B W) (hb : Below W.heap.size W W') : Beh w A c xs t bw bn D d R D0 B W' :=
  ⟨h.own.tr hb, (hb.block D0 (blk_lt h.col)).trans h.col, Nat.le_trans h.size hb.size⟩
/-- What the map gives at a hierarchy, whatever was drawn. -/
theorem look_all {w : World} {A : Option Addr} {c : Nat} {xs : List (List UInt8)} {t bw bn : Nat} {D : Option Addr} {d : Nat} {R : List (List UInt8)} {D0 B : Nat} {W : World} (h : Beh w A c xs t bw bn D d R D0 B W) {z : List UInt8} (hz : z ∈ R) (hl : z.length ≤ 1000) (q : Nat) :
    (Instr.lookup 41 (.map (some (bn + 1))) (enS z) false).run Tryd.prog (W.drewN q) = .ok (.int .i64 (cntI xs z)) (W.drewN q) := by
  obtain ⟨nn, Dm, _, hown, hP⟩ := (h.own.drewN q).own
  obtain ⟨cx, hrun, hat, _⟩ := hown.lookup_int (string_keyed Tryd.underlying9) Tryd.underlying41 Tryd.underlying3 (zeroInt _) (Go.WideMaps.keyOf_string_mk (s := ⟨z.toArray⟩) Tryd.underlying9 (show z.toArray.size ≤ maxLen by simp [maxLen]; omega))
  have h1 := hP z (by rw [List.take_length]; exact hz)
  have h2 : Dm.atKey (.string z) (.lit (.int .i64 0)) = .lit (.int .i64 cx) := hat
  rw [h1] at h2
  cases h2
  exact hrun
theorem run_cat (a b : List UInt8) (h : a.length + b.length ≤ 1000000) (u : World) : (Op.stringOp .add ⟨a.toArray⟩ ⟨b.toArray⟩).run Tryd.prog u = .ok (enS (a ++ b)) u := by
  have e : IntKind.i64.max = 9223372036854775807 := by decide
  have hs : ¬ (((⟨a.toArray⟩ : ByteArray).size + (⟨b.toArray⟩ : ByteArray).size : Nat) : Int) > IntKind.i64.max := by
    rw [e]
    show ¬ ((a.toArray.size + b.toArray.size : Nat) : Int) > _
    simp; omega
  unfold Op.stringOp
  simp only
  rw [if_neg hs, bcat]
  rfl
/-- What the second range carries: m the counter. -/
structure Fin8 (w : World) (A : Option Addr) (c : Nat) (xs : List (List UInt8)) (t bw bn : Nat) (D : Option Addr) (d : Nat) (R : List (List UInt8)) (D0 m : Nat) (W : World) : Prop where
  v0 : V0 w A c xs t W
  ord : w.heap.size + 1 + 1 < bw ∧ bw < bn ∧ bn < D0 ∧ D0 < W.heap.size
  below : Below w.heap.size w W
  vw : W.cell? ⟨bw, 0, none⟩ = some (.slice D R.length d)
  nc : W.cell? ⟨bn, 0, none⟩ = some (.int .i64 m) ∧ W.frozen? ⟨bn, 0, none⟩ = false
  col : W.heap[D0]? = some (.deferred (some []))
section
variable {w : World} {A : Option Addr} {c : Nat} {xs : List (List UInt8)} {t bw bn : Nat} {D : Option Addr} {d : Nat} {R : List (List UInt8)} {D0 m : Nat} {W W' : World}
theorem Fin8.keeps (h : Fin8 w A c xs t bw bn D d R D0 m W) (hs : W.heap.size ≤ W'.heap.size) (hk : ∀ b, b ≤ bn → W'.heap[b]? = W.heap[b]?) (hD : W'.heap[D0]? = W.heap[D0]?) (hb : Below w.heap.size w W') : Fin8 w A c xs t bw bn D d R D0 m W' := by
  obtain ⟨o1, o2, o3, o4⟩ := h.ord
  refine ⟨⟨Nat.lt_of_lt_of_le h.v0.size hs, ?_, ?_, ?_, ?_⟩, ⟨o1, o2, o3, by omega⟩, hb, ?_, ⟨?_, ?_⟩, hD.trans h.col⟩
  · rw [cell_same (hk _ (by omega))]; exact h.v0.l
  · rw [cell_same (hk _ (by omega))]; exact h.v0.t
  · rw [cell_same (hk _ (by omega))]; exact h.v0.r.1
  · rw [frozen_same (hk _ (by omega))]; exact h.v0.r.2
  · rw [cell_same (hk _ (by omega))]; exact h.vw
  · rw [cell_same (hk _ (by omega))]; exact h.nc.1
  · rw [frozen_same (hk _ (by omega))]; exact h.nc.2
theorem Fin8.tr (h : Fin8 w A c xs t bw bn D d R D0 m W) (hb : Below W.heap.size W W') : Fin8 w A c xs t bw bn D d R D0 m W' :=
  h.keeps hb.size (fun b hb' => hb.block b (by have := h.ord; omega)) (hb.block D0 h.ord.2.2.2) (h.below.tr hb)
theorem Fin8.grown {row : Option Nat} (h : Fin8 w A c xs t bw bn D d R D0 m W) (hg : W.grownBy W' row) (hr : ∀ r, row = some r → D0 < r) : Fin8 w A c xs t bw bn D d R D0 m W' :=
  h.keeps hg.size (fun b hb => hg.block b (by have := h.ord; omega) (fun e => by have := hr b e.symm; have := h.ord; omega)) (hg.block D0 h.ord.2.2.2 (fun e => by have := hr D0 e.symm; omega)) (h.below.grown hg h.below.size (fun k hk => by have := hr k hk; have := h.ord; omega))
theorem Fin8.setN (h : Fin8 w A c xs t bw bn D d R D0 m W) (m' : Nat) : Fin8 w A c xs t bw bn D d R D0 m' (W.setCell ⟨bn, 0, none⟩ (.int .i64 m')) := by
  obtain ⟨o1, o2, o3, o4⟩ := h.ord
  have hk : ∀ b, b ≠ bn → (W.setCell ⟨bn, 0, none⟩ (.int .i64 m')).heap[b]? = W.heap[b]? := fun b hb => blk_set_ne 0 _ hb
  refine ⟨⟨by simpa using h.v0.size, ?_, ?_, ?_, ?_⟩, ⟨o1, o2, o3, by simpa using o4⟩, h.below.setCell (by simp; omega) _, ?_, ⟨?_, ?_⟩, (hk _ (by omega)).trans h.col⟩
  · rw [cell_same (hk _ (by omega))]; exact h.v0.l
  · rw [cell_same (hk _ (by omega))]; exact h.v0.t
  · rw [cell_same (hk _ (by omega))]; exact h.v0.r.1
  · rw [frozen_same (hk _ (by omega))]; exact h.v0.r.2
  · rw [cell_same (hk _ (by omega))]; exact h.vw
  · exact World.cell?_setCell_same' _ _ _ (by rw [h.nc.1]; rfl)
  · rw [World.frozen?_setCell]; exact h.nc.2
theorem Beh.fin {B : Nat} (h : Beh w A c xs t bw bn D d R D0 B W) (h1 : bn < D0) : Fin8 w A c xs t bw bn D d R D0 R.length W :=
  ⟨h.own.v0, ⟨h.own.ord.1, h.own.ord.2.1, h1, blk_lt h.col⟩, h.own.below, h.own.vw.cell, h.own.nc, h.col⟩
def Inv2 (w : World) (A : Option Addr) (c : Nat) (xs : List (List UInt8)) (t bw bn : Nat) (D : Option Addr) (d : Nat) (R : List (List UInt8)) (D0 B : Nat) (pre : List (List UInt8 × Int)) (W : World) : Prop :=
  Fin8 w A c xs t bw bn D d R D0 pre.length W ∧ pre.length ≤ t % 8 ∧ B ≤ W.heap.size
def Ex2 (w : World) (A : Option Addr) (c : Nat) (xs : List (List UInt8)) (t bw bn : Nat) (D : Option Addr) (d : Nat) (R : List (List UInt8)) (D0 B : Nat) (cc : Code) (pre : List (List UInt8 × Int)) (W : World) : Prop :=
  cc = .exit 8 ∧ Fin8 w A c xs t bw bn D d R D0 pre.length W ∧ pre.length = t % 8 + 1 ∧ B ≤ W.heap.size
theorem inv2_own {B : Nat} (hB : D0 < B) : OwnFrom B (Inv2 w A c xs t bw bn D d R D0 B) := by
  intro s W W' row ⟨h1, h2, h3⟩ hg hr
  exact ⟨h1.grown hg (fun r e => by have := (hr r e).1; omega), h2, Nat.le_trans h3 hg.size⟩
theorem ex2_own {B : Nat} (hB : D0 < B) (cc : Code) : OwnFrom B (Ex2 w A c xs t bw bn D d R D0 B cc) := by
  intro s W W' row ⟨h0, h1, h2, h3⟩ hg hr
  exact ⟨h0, h1.grown hg (fun r e => by have := (hr r e).1; omega), h2, Nat.le_trans h3 hg.size⟩
end
theorem deferred_put {w : World} {W : World} {r : Nat} (h : Below w.heap.size w W) (hr : w.heap.size ≤ r) (o : Obj) : Below w.heap.size w (W.putObj r o) :=
  ⟨h.os, h.tape, h.output, by have := h.size; simpa [World.putObj] using this, fun k hk => (World.putObj_heap_other (by omega)).trans (h.block k hk)⟩
/-- The end of the statement: the marks are taken off, and true is handed back. -/
theorem leave8 {w : World} {A : Option Addr} {c : Nat} {xs : List (List UInt8)} {t bw bn : Nat} {D : Option Addr} {d : Nat} {R : List (List UInt8)} {D0 m : Nat} {W : World} (h : Fin8 w A c xs t bw bn D d R D0 m W) {D1 : Nat} (hd : W.heap[D1]? = some (.deferred (some []))) (hD : D0 < D1) {tmps : Array Value} (ht : tmps[4]? = some (.pointer (some ⟨w.heap.size + 1 + 1, 0, none⟩))) :
    LeavesInM Fence.wide 10 Tryd.prog Tryd.f7 tmps (fun e w' => e = .returned (.bool true) ∧ Below w.heap.size w w') [{ target := .collected D1, args := #[] }, { target := .collected D0, args := #[] }] .returning (W.setCell ⟨w.heap.size + 1 + 1, 0, none⟩ (.bool true)) := by
  obtain ⟨o1, o2, o3, o4⟩ := h.ord
  have hd1 : (W.setCell ⟨w.heap.size + 1 + 1, 0, none⟩ (.bool true)).heap[D1]? = some (.deferred (some [])) := (blk_set_ne 0 _ (by omega)).trans hd
  refine ⟨by simp, .inl ⟨D1, _, rfl, run_takeDeferred hd1, ?_⟩⟩
  have hd0 : ((W.setCell ⟨w.heap.size + 1 + 1, 0, none⟩ (.bool true)).putObj D1 (.deferred none)).heap[D0]? = some (.deferred (some [])) := (World.putObj_heap_other (by omega)).trans ((blk_set_ne 0 _ (by omega)).trans h.col)
  refine ⟨by simp, .inl ⟨D0, _, rfl, run_takeDeferred hd0, ?_⟩⟩
  have hc : (((W.setCell ⟨w.heap.size + 1 + 1, 0, none⟩ (.bool true)).putObj D1 (.deferred none)).putObj D0 (.deferred none)).cell? ⟨w.heap.size + 1 + 1, 0, none⟩ = some (.bool true) := by
    rw [cell_same ((World.putObj_heap_other (by omega)).trans (World.putObj_heap_other (by omega)))]
    exact World.cell?_setCell_same' _ _ _ (by rw [h.v0.r.1]; rfl)
  refine ⟨.bool true, ?_, rfl, deferred_put (deferred_put (h.below.setCell (by simp; omega) _) (by omega) _) (by omega) _⟩
  simp [results, Tryd.results7, go_sem, ht, hc]
def a2 (a : Act) (x : List UInt8 × Int) : Act := { tmps := (a.tmps.setIfInBounds 128 (enS x.1)).setIfInBounds 129 (.int .i64 x.2), defers := [] }
def a1 (a : Act) (x : List UInt8 × Int) : Act := { tmps := (((a.tmps.setIfInBounds 38 (enS x.1)).setIfInBounds 39 (.int .i64 x.2)).setIfInBounds 10 (enS x.1)).setIfInBounds 11 (.int .i64 x.2), defers := [] }

end Go.Proofs.YtcagooijkecmoaaDoor
