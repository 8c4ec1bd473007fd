/- Digests in a row: how they are laid and read. Contracts: slices.Clone at digests and at items, the comparison of Join. -/
import Derived.Test.YtlchcjnbbhpiaaaGreatDoorYae
import Derived.Sort.Grow
namespace Go.Proofs.YtlchcjnbbhpiaaaGreatDoor
open Go.RowKit Go.Shelf Go.Dg Go.Maps
abbrev DgX := Dg × Option Addr × Nat
abbrev dgxL (x : DgX) : List Value := [enS x.1.ti, i64 x.1.vo, i64 x.1.ie, i64 x.1.da, .slice x.2.1 x.1.its.length x.2.2]
theorem dgxL_length (x : DgX) : (dgxL x).length = 5 := rfl
theorem one_dgxL (x : DgX) : ∀ u ∈ dgxL x, u.oneCell' = true := fun u hu => by
 simp only [List.mem_cons, List.not_mem_nil, or_false] at hu
 rcases hu with rfl | rfl | rfl | rfl | rfl <;> rfl
/-- The items of a digest lie where its row says. -/
structure OkX (w : World) (x : DgX) : Prop where
 rd : RdI w x.2.1 x.1.its
 cap : x.1.its.length ≤ x.2.2
theorem OkX.below {w w' : World} {x : DgX} (h : OkX w x) (hb : Below w.heap.size w w') : OkX w' x := ⟨h.rd.below hb, h.cap⟩
structure RdG (w : World) (A : Option Addr) (xs : List DgX) : Prop where
 rd : 0 < xs.length → ∃ b o, A = some ⟨b, o, none⟩ ∧ b < w.heap.size ∧ ∀ j x, xs[j]? = some x → w.rangeAt b (o + j * 5) (dgxL x)
 ok : ∀ x ∈ xs, OkX w x
theorem RdG.below {w w' : World} {A : Option Addr} {xs : List DgX} (h : RdG w A xs) (hb : Below w.heap.size w w') : RdG w' A xs :=
 ⟨fun hp => by
  obtain ⟨b, o, e, hlt, hc⟩ := h.rd hp
  exact ⟨b, o, e, Nat.lt_of_lt_of_le hlt hb.size, fun j x hj => range_below (hc j x hj) hb⟩, fun x hx => (h.ok x hx).below hb⟩
theorem RdG.at_ {w : World} {A : Option Addr} {xs : List DgX} {k : Nat} (h : RdG w A xs) (hk : k < xs.length) : ∃ b o x, A = some ⟨b, o, none⟩ ∧ b < w.heap.size ∧ xs[k]? = some x ∧ w.rangeAt b (o + k * 5) (dgxL x) ∧ OkX w x := by
 obtain ⟨b, o, e, hlt, hc⟩ := h.rd (by omega)
 exact ⟨b, o, xs[k], e, hlt, List.getElem?_eq_getElem hk, hc k _ (List.getElem?_eq_getElem hk), h.ok _ (List.getElem_mem hk)⟩
theorem RdG.nil {w : World} {A : Option Addr} : RdG w A [] := ⟨fun h => absurd h (by simp), by simp⟩
theorem RdG.cells {w : World} {A : Option Addr} {xs : List DgX} (h : RdG w A xs) : RdC w A (xs.flatMap dgxL) := fun hl => by
 obtain ⟨b, o, e, _, hc⟩ := h.rd (by rw [flatG_len dgxL dgxL_length] at hl; omega)
 refine ⟨b, o, e, fun j u hj => ?_⟩
 obtain ⟨m, h1, h2⟩ := flatG_inv dgxL dgxL_length (by decide) hj
 have := hc _ _ h1 _ _ h2
 rwa [show o + j / 5 * 5 + j % 5 = o + j by omega] at this
theorem RdG.of_own {w : World} {base n c : Nat} {t : TypeId} {A : Option Addr} {xs : List DgX} (h : w.ownsRow base t 5 (.slice A n c) n (xs.flatMap dgxL)) (hk : ∀ x ∈ xs, OkX w x) : RdG w A xs := by
 refine ⟨fun hp => ?_, hk⟩
 rcases h.2 with ⟨_, h0⟩ | ⟨g, cap, cur, e, _, hg, _, _, _, ht⟩
 ·have := h.1
  rw [flatG_len dgxL dgxL_length, h0] at this
  omega
 ·cases e
  refine ⟨g, 0, rfl, blk_lt hg, fun j x hj i v hv => ?_⟩
  have e1 := flatG_at dgxL dgxL_length hj hv
  rw [← ht, List.getElem?_take] at e1
  rw [blk_cell hg]
  split at e1
  ·rw [Nat.zero_add, ← Array.getElem?_toList]; exact e1
  ·cases e1
theorem dg_info : (Tryz.prog.info? 32).map (fun i => (i.zero, i.size, i.bytes)) = some (some (.agg #[enS [], i64 0, i64 0, i64 0, .slice none 0 0]), 5, 64) := by kernel_rfl
theorem run_eql_slice_nil2 {P : Program} (w : World) (t e : TypeId) (a : Option Addr) (l c : Nat) (h : P.underlying t = some (.slice e)) : (binOp .eql t (.slice a l c) (.slice none 0 0)).run P w = .ok (.bool a.isNone) w := by
 simp [binOp, run_equal_slice_nil w t e a l c h]
set_option maxRecDepth 100000 in
set_option maxHeartbeats 4000000 in
theorem cloneDg_any (A : Option Addr) (c : Nat) (l : List DgX) (w : World) (h : RdC w A (l.flatMap dgxL)) (hl : l.length ≤ 1000000) :
  Calls Tryz.prog 78 #[.slice A l.length c] w fun e w' => ∃ A' c', e = .returned (.slice A' l.length c') ∧ w'.ownsRow w.heap.size 32 5 (.slice A' l.length c') l.length (l.flatMap dgxL) ∧ Below w.heap.size w w' := by
 obtain ⟨i0, hi, hz0, hz1, hz2⟩ := info_parts dg_info
 have hnil := fun (a : Option Addr) (l c : Nat) W => run_eql_slice_nil2 W 83 32 a l c Tryz.underlying83
 cases A with
 | none =>
  cases l with
  | cons a l =>
   obtain ⟨b, o, e, _⟩ := h (by rw [flatG_len dgxL dgxL_length, List.length_cons]; omega)
   cases e
  | nil =>
   clear h
   go_enter Tryz.func78, Tryz.ntmps78
   go_wp2_with fail
   go_ret
   exact ⟨none, 0, rfl, own2_nil _ _ _ _, Below.refl _ _⟩
 | some ad =>
  have OE := Lib.hid (own2_empty w w.heap.size 5 32 (Nat.le_refl _))
  have HRX := Lib.hid (rdC_below h (below_new w (.cells #[] 32)))
  have hsz : w.heap.size ≤ (w.alloc (.cells #[] 32)).heap.size := by simp
  have B0 := Lib.hid (below_new w (.cells #[] 32))
  have hel := flatG_len dgxL dgxL_length l
  have h1l := flat_oneG dgxL one_dgxL l
  clear h
  go_enter Tryz.func78, Tryz.ntmps78
  go_wp2_with (at_builtin; refine wpList_appC Tryz.underlying83 hi hz0 hz1 hz2 rfl (by decide) _ rfl _ _ rfl w.heap.size _ 0 [] OE.out rfl _ l.length _ (l.flatMap dgxL) hel HRX.out rfl h1l (by omega) (by decide) hsz ?_; intro v9 w9 hown9 hg9 hb9)
  obtain ⟨A9, c9, rfl⟩ := own2_slice hown9
  rw [Nat.zero_add, List.nil_append] at hown9
  have F3 := Lib.hid hown9
  have F4 := Lib.hid (B0.out.trans hb9)
  clear hown9 hg9 hb9 OE HRX B0
  rw [Nat.zero_add]
  go_wp2_with fail
  go_ret
  exact ⟨A9, c9, rfl, F3.out, F4.out⟩
set_option maxRecDepth 100000 in
set_option maxHeartbeats 4000000 in
theorem cloneIt_any (A : Option Addr) (c : Nat) (l : List It) (w : World) (h : RdC w A (l.flatMap itL)) (hl : l.length ≤ 1000000) :
  Calls Tryz.prog 82 #[.slice A l.length c] w fun e w' => ∃ A' c', e = .returned (.slice A' l.length c') ∧ w'.ownsRow w.heap.size 59 36 (.slice A' l.length c') l.length (l.flatMap itL) ∧ Below w.heap.size w w' := by
 obtain ⟨i0, hi, hz0, hz1, hz2⟩ := info_parts it_info
 have hnil := fun (a : Option Addr) (l c : Nat) W => run_eql_slice_nil2 W 30 59 a l c Tryz.underlying30
 cases A with
 | none =>
  cases l with
  | cons a l =>
   obtain ⟨b, o, e, _⟩ := h (by rw [flatG_len itL itL_length, List.length_cons]; omega)
   cases e
  | nil =>
   clear h
   go_enter Tryz.func82, Tryz.ntmps82
   go_wp2_with fail
   go_ret
   exact ⟨none, 0, rfl, own2_nil _ _ _ _, Below.refl _ _⟩
 | some ad =>
  have OE := Lib.hid (own2_empty w w.heap.size 36 59 (Nat.le_refl _))
  have HRX := Lib.hid (rdC_below h (below_new w (.cells #[] 59)))
  have hsz : w.heap.size ≤ (w.alloc (.cells #[] 59)).heap.size := by simp
  have B0 := Lib.hid (below_new w (.cells #[] 59))
  have hel := flatG_len itL itL_length l
  have h1l := flat_oneG itL one_itL l
  clear h
  go_enter Tryz.func82, Tryz.ntmps82
  go_wp2_with (at_builtin; refine wpList_appC Tryz.underlying30 hi hz0 hz1 hz2 rfl (by decide) _ rfl _ _ rfl w.heap.size _ 0 [] OE.out rfl _ l.length _ (l.flatMap itL) hel HRX.out rfl h1l (by omega) (by decide) hsz ?_; intro v9 w9 hown9 hg9 hb9)
  obtain ⟨A9, c9, rfl⟩ := own2_slice hown9
  rw [Nat.zero_add, List.nil_append] at hown9
  have F3 := Lib.hid hown9
  have F4 := Lib.hid (B0.out.trans hb9)
  clear hown9 hg9 hb9 OE HRX B0
  rw [Nat.zero_add]
  go_wp2_with fail
  go_ret
  exact ⟨A9, c9, rfl, F3.out, F4.out⟩
/-- Only new blocks and draws. -/
def Grw (u v : World) : Prop := ∃ q os, v = Sort.grow (u.drewN q) os
theorem Grw.trans (u v w : World) (h : Grw u v) (k : Grw v w) : Grw u w := by
 obtain ⟨a, os, rfl⟩ := h
 obtain ⟨b, os', rfl⟩ := k
 exact ⟨a + b, os ++ os', by simp [Sort.grow, World.drewN, Array.append_assoc, Nat.add_assoc]⟩
theorem Grw.alloc (u : World) (o : Obj) : Grw u (u.alloc o) := ⟨0, #[o], Sort.alloc_eq_grow u o⟩
set_option maxRecDepth 100000 in
set_option maxHeartbeats 4000000 in
theorem cmpDg_any (x y : DgX) (w : World) : Calls Tryz.prog 80 #[.agg (dgxL x).toArray, .agg (dgxL y).toArray] w fun e w' => e = .returned (i64 (Lib.compareInt x.1.ie y.1.ie)) ∧ Grw w w' := by
 obtain ⟨w0, hw0⟩ : ∃ u : World, u = (w.alloc (.cells (dgxL x).toArray 32)).alloc (.cells (dgxL y).toArray 32) := ⟨_, rfl⟩
 have KA : Hid (w0.heap[w.heap.size]? = some (.cells (dgxL x).toArray 32 (0, 0))) := Lib.hid (by (show _ = _); rw [hw0]; exact blk_below (below_new _ _) (blk_new _ _))
 have KB : Hid (w0.heap[w.heap.size + 1]? = some (.cells (dgxL y).toArray 32 (0, 0))) := Lib.hid (by (show _ = _); rw [hw0]; have := blk_new (w.alloc (.cells (dgxL x).toArray 32)) (.cells (dgxL y).toArray 32); simpa using this)
 have G0 : Hid (Grw w w0) := Lib.hid (by (show Grw _ _); rw [hw0]; exact Grw.trans _ _ _ (Grw.alloc _ _) (Grw.alloc _ _))
 go_enter Tryz.func80, Tryz.ntmps80
 go_upto_region 1 with fail
 rw [← hw0]
 clear hw0
 have a2 : w0.cell? ⟨w.heap.size, 2, none⟩ = some (i64 x.1.ie) := blk_cell KA.out 2
 have b2 : w0.cell? ⟨w.heap.size + 1, 2, none⟩ = some (i64 y.1.ie) := blk_cell KB.out 2
 go_wp2_with fail
 refine (Tryz.cmp_Compare_int x.1.ie y.1.ie w0).mono ?_; rintro e w9 ⟨rfl, hw9⟩
 subst hw9
 clear a2 b2
 go_wp2_with fail
 go_ret
 exact ⟨rfl, G0.out⟩
end Go.Proofs.YtlchcjnbbhpiaaaGreatDoor
