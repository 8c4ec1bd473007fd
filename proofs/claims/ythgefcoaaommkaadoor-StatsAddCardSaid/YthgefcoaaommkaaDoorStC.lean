/- Contracts: a count added to that of a day, of a name. -/
import Derived.Test.YthgefcoaaommkaaDoorStB
import Derived.Test.YthgefcoaaommkaaDoorFlow
import Derived.Test.YthgefcoaaommkaaDoorFork
import Derived.Test.YthgefcoaaommkaaDoorTail
namespace Go.Proofs.YthgefcoaaommkaaDoor
open Go.RowKit Go.Gn Go.Sr Go.Maps

theorem zeroC (w : World) : (zeroValue 29).run Tryd.prog w = .ok (.agg #[i64 0, i64 0]) w := by kernel_rfl
theorem getC {κ : Type} [DecidableEq κ] (L : List (κ × C)) (y : κ) : ((getA L y).map cV).getD (.agg #[i64 0, i64 0]) = cV ((getA L y).getD (0, 0)) := by
  cases getA L y <;> rfl
theorem quiet_lookup_r {P : Program} {k : TypeId} {κ β : Type} {o : Oper} {a : Act} [DecidableEq κ] {C : World → Prop} {K : Act → Prop} (m x : Operand) (t : TypeId) (ho : o.op = .lookup t m x false)
    (S : KV P k κ β) (e : TypeId) (ht : P.underlying t = some (.map k e)) (z : Value) (hz : ∀ w, (zeroValue e).run P w = .ok z w) (b : Nat) (L : List (κ × β))
    (hm : a.eval m = .map (some b)) (hown : ∀ w, C w → MapA S w b L) (y : κ) (hy : S.ok y) (hx : a.eval x = S.kv y) (r : Value) (hr : ((getA L y).map S.vv).getD z = r) (hk : K (a.put o.dst r)) : o.quiet P a C K :=
  quiet_lookup_a m x t ho S e ht z hz b L hm hown y hy hx (by rw [hr]; exact hk)
set_option maxRecDepth 100000 in
set_option maxHeartbeats 2000000 in
theorem count_any (p bd bn : Nat) (ds : List (Int × C)) (ns : List (Ky × C)) (zs : List Int) (d : Int) (c : C) (w : World) (h : StM w p bd bn ds ns zs) (hk : (Lit.int .i64 d).wf = true) (hc : okC c) (ho : okC ((getA ds d).getD (0, 0))) (hn : ds.length < 1000000) :
    Calls Tryd.prog 27 #[.pointer (some ⟨p, 0, none⟩), i64 d, cV c] w fun e w' => e = .returned (.tuple #[]) ∧ StM w' p bd bn (addA ds d c) ns zs ∧ ButL [bd] w w' := by
  obtain ⟨c1, c2⟩ := c
  have hcell := h.c0
  have hpl := h.lp
  have qT : ∀ (w : World) (r : Option Nat), (binOp .eql 54 (.map r) (.map none)).run Tryd.prog w = .ok (.bool r.isNone) w := fun w r => run_eql_map_nil w _ _ _ r Tryd.underlying54
  have hfz := h.fz 0
  have H0 := Lib.hid h
  clear h
  go_enter Tryd.func27, Tryd.ntmps27
  unfold cV 
  simp only
  go_wp2_with fail
  have Kc := Lib.hid (blk_new w (.cells #[i64 c1, i64 c2] 29))
  have Bc := Lib.hid (below_new w (.cells #[i64 c1, i64 c2] 29))
  have H1 := Lib.hid ((H0.out.below Bc.out).below (Below.refl _ _).drew)
  have B1 := Lib.hid Bc.out.drew
  have Lc := Lib.hid (blk_below (Below.refl _ _).drew Kc.out)
  clear Kc Bc H0 hcell hfz hpl qT
  refine Flow.wp_region_pre Flow.Later Flow.Later.refl Flow.Later.trans [13] (.held [0, 1, 2, 3, 4, 5, 6, 7, 8, 9, 10, 11] (.call 12 (.tail (.step [] 13 (.done []))))) (by kernel_rfl) (by kernel_rfl) ?_
  generalize World.drew (w.alloc (.cells #[i64 c1, i64 c2] 29)) = wd at *
  have ec := Lc.out
  have qp : ∀ t : Flow.Cls (Flow.Later wd), t.val.cell? ⟨p, 0, none⟩ = some (.map (some bd)) := fun t => Flow.cls_cell H1.out.c0 t
  have qc0 : ∀ t : Flow.Cls (Flow.Later wd), t.val.cell? ⟨w.heap.size, 0, none⟩ = some (i64 c1) := fun t => Flow.cls_cell (blk_cell ec 0) t
  have qc1 : ∀ t : Flow.Cls (Flow.Later wd), t.val.cell? ⟨w.heap.size, 1, none⟩ = some (i64 c2) := fun t => Flow.cls_cell (blk_cell ec 1) t
  haveI nonE := Flow.cls_nonempty wd
  rw [Flow.wpPre_held]
  simp only [Flow.pick, List.getElem?_toArray, List.getElem?_cons_succ, List.getElem?_cons_zero]
  iterate 10 go_big_quiet_step (fail)
  refine BigFrame.wpQuiet_want rfl (fun K hK => quiet_lookup_r _ _ 54 rfl dayK 29 Tryd.underlying54 (.agg #[i64 0, i64 0]) zeroC bd ds rfl (fun _ he => by obtain ⟨t, rfl⟩ := he; exact H1.out.md.below t.ok) d hk rfl (cV ((getA ds d).getD (0, 0))) (getC _ _) (hK _ ?_))
  clear hK K
  simp only [Act.put, List.setIfInBounds_toArray, List.set_cons_succ, List.set_cons_zero]
  go_big_quiet_step (fail)
  refine wpQuiet_nil ?_
  clear nonE qp qc0 qc1
  rw [Flow.wpPre_call, Flow.callAt_eq]
  simp only [List.getElem?_toArray, List.getElem?_cons_succ, List.getElem?_cons_zero]
  rw [if_pos (by rfl)]
  refine Flow.wp_behind (fun K hK => ?_)
  go_wp2_with fail
  refine (plus_any ((getA ds d).getD (0, 0)) (c1, c2) wd ho hc).mono ?_; rintro e w1 ⟨rfl, b⟩
  refine hK.out _ _ ⟨b, ?_⟩
  clear hK K
  have H2 := Lib.hid (H1.out.below b)
  have B2 := Lib.hid (B1.out.tr b)
  clear b
  rw [Flow.wpPre_tail, Flow.wpSched_step]
  simp only [Flow.pick]
  refine wpQuiet_nil ?_
  rw [Flow.callAt_eq]
  simp only [List.getElem?_toArray, List.getElem?_cons_succ, List.getElem?_cons_zero]
  rw [if_pos (by rfl)]
  refine Flow.wp_behind (fun K hK => ?_)
  refine wp_mapUpdate_a w1 _ _ _ 54 rfl dayK 29 Tryd.underlying54 bd ds rfl H2.out.md (by unfold maxLen; omega) d hk (plus ((getA ds d).getD (0, 0)) (c1, c2)) rfl rfl ?_
  intro w2 hm2 hg2
  refine hK.out _ _ ⟨trivial, ?_⟩
  clear hK K
  have H3 := Lib.hid (H2.out.putD hm2 hg2)
  have B3 := Lib.hid (((ButL.of_below B2.out : ButL [bd] w w1)).trans (ButL.grown hg2 (fun k e => by cases e; simp)))
  clear hm2 hg2
  rw [Flow.wpSched_done]
  simp only [Flow.pick, Act.put]
  refine wpQuiet_nil ?_
  go_wp2_with fail
  go_end0
  exact ⟨rfl, H3.out, B3.out⟩
set_option maxRecDepth 100000 in
set_option maxHeartbeats 2000000 in
theorem countName_any (p bd bn : Nat) (ds : List (Int × C)) (ns : List (Ky × C)) (zs : List Int) (k : Ky) (c : C) (w : World) (h : StM w p bd bn ds ns zs) (hk : okKy k) (hc : okC c) (ho : okC ((getA ns k).getD (0, 0))) (hn : ns.length < 1000000) :
    Calls Tryd.prog 28 #[.pointer (some ⟨p, 0, none⟩), kV k, cV c] w fun e w' => e = .returned (.tuple #[]) ∧ StM w' p bd bn ds (addA ns k c) zs ∧ ButL [bn] w w' := by
  obtain ⟨c1, c2⟩ := c
  have hcell := h.c1
  have hpl := h.lp
  have qT : ∀ (w : World) (r : Option Nat), (binOp .eql 55 (.map r) (.map none)).run Tryd.prog w = .ok (.bool r.isNone) w := fun w r => run_eql_map_nil w _ _ _ r Tryd.underlying55
  have hfz := h.fz 1
  have H0 := Lib.hid h
  clear h
  go_enter Tryd.func28, Tryd.ntmps28
  unfold cV kV
  simp only
  go_wp2_with fail
  have Kk := Lib.hid (blk_new w (.cells #[i64 k.1, i64 k.2.1, enS k.2.2] 59))
  have Bk := Lib.hid (below_new w (.cells #[i64 k.1, i64 k.2.1, enS k.2.2] 59))
  have Kc := Lib.hid (blk_new (w.alloc (.cells #[i64 k.1, i64 k.2.1, enS k.2.2] 59)) (.cells #[i64 c1, i64 c2] 29))
  have Bc := Lib.hid (Bk.out.tr (below_new (w.alloc (.cells #[i64 k.1, i64 k.2.1, enS k.2.2] 59)) (.cells #[i64 c1, i64 c2] 29)))
  have Kk := Lib.hid (blk_below (below_new (w.alloc (.cells #[i64 k.1, i64 k.2.1, enS k.2.2] 59)) (.cells #[i64 c1, i64 c2] 29)) Kk.out)
  have H1 := Lib.hid ((H0.out.below Bc.out).below (Below.refl _ _).drew)
  have B1 := Lib.hid Bc.out.drew
  have Lk := Lib.hid (blk_below (Below.refl _ _).drew Kk.out)
  have Lc := Lib.hid (blk_below (Below.refl _ _).drew Kc.out)
  clear Kk Bk Kc Bc H0 hcell hfz hpl qT
  refine Flow.wp_region_pre Flow.Later Flow.Later.refl Flow.Later.trans [13] (.held [0, 1, 2, 3, 4, 5, 6, 7, 8, 9, 10, 11] (.call 12 (.tail (.step [] 13 (.done []))))) (by kernel_rfl) (by kernel_rfl) ?_
  generalize World.drew ((w.alloc (.cells #[i64 k.1, i64 k.2.1, enS k.2.2] 59)).alloc (.cells #[i64 c1, i64 c2] 29)) = wd at *
  have ek := Lk.out
  have ec := Lc.out
  simp only [World.size_alloc] at ek ec
  have qp : ∀ t : Flow.Cls (Flow.Later wd), t.val.cell? ⟨p, 1, none⟩ = some (.map (some bn)) := fun t => Flow.cls_cell H1.out.c1 t
  have qk0 : ∀ t : Flow.Cls (Flow.Later wd), t.val.cell? ⟨w.heap.size, 0, none⟩ = some (i64 k.1) := fun t => Flow.cls_cell (blk_cell ek 0) t
  have qk1 : ∀ t : Flow.Cls (Flow.Later wd), t.val.cell? ⟨w.heap.size, 1, none⟩ = some (i64 k.2.1) := fun t => Flow.cls_cell (blk_cell ek 1) t
  have qk2 : ∀ t : Flow.Cls (Flow.Later wd), t.val.cell? ⟨w.heap.size, 2, none⟩ = some (enS k.2.2) := fun t => Flow.cls_cell (blk_cell ek 2) t
  have qc0 : ∀ t : Flow.Cls (Flow.Later wd), t.val.cell? ⟨w.heap.size + 1, 0, none⟩ = some (i64 c1) := fun t => Flow.cls_cell (blk_cell ec 0) t
  have qc1 : ∀ t : Flow.Cls (Flow.Later wd), t.val.cell? ⟨w.heap.size + 1, 1, none⟩ = some (i64 c2) := fun t => Flow.cls_cell (blk_cell ec 1) t
  haveI nonE := Flow.cls_nonempty wd
  rw [Flow.wpPre_held]
  simp only [Flow.pick, List.getElem?_toArray, List.getElem?_cons_succ, List.getElem?_cons_zero]
  iterate 10 go_big_quiet_step (fail)
  refine BigFrame.wpQuiet_want rfl (fun K hK => quiet_lookup_r _ _ 55 rfl nameK 29 Tryd.underlying55 (.agg #[i64 0, i64 0]) zeroC bn ns rfl (fun _ he => by obtain ⟨t, rfl⟩ := he; exact H1.out.mn.below t.ok) k hk rfl (cV ((getA ns k).getD (0, 0))) (getC _ _) (hK _ ?_))
  clear hK K
  simp only [Act.put, List.setIfInBounds_toArray, List.set_cons_succ, List.set_cons_zero]
  go_big_quiet_step (fail)
  refine wpQuiet_nil ?_
  clear nonE qp qk0 qk1 qk2 qc0 qc1
  rw [Flow.wpPre_call, Flow.callAt_eq]
  simp only [List.getElem?_toArray, List.getElem?_cons_succ, List.getElem?_cons_zero]
  rw [if_pos (by rfl)]
  refine Flow.wp_behind (fun K hK => ?_)
  go_wp2_with fail
  refine (plus_any ((getA ns k).getD (0, 0)) (c1, c2) wd ho hc).mono ?_; rintro e w1 ⟨rfl, b⟩
  refine hK.out _ _ ⟨b, ?_⟩
  clear hK K
  have H2 := Lib.hid (H1.out.below b)
  have B2 := Lib.hid (B1.out.tr b)
  clear b
  rw [Flow.wpPre_tail, Flow.wpSched_step]
  simp only [Flow.pick]
  refine wpQuiet_nil ?_
  rw [Flow.callAt_eq]
  simp only [List.getElem?_toArray, List.getElem?_cons_succ, List.getElem?_cons_zero]
  rw [if_pos (by rfl)]
  refine Flow.wp_behind (fun K hK => ?_)
  refine wp_mapUpdate_a w1 _ _ _ 55 rfl nameK 29 Tryd.underlying55 bn ns rfl H2.out.mn (by unfold maxLen; omega) k hk (plus ((getA ns k).getD (0, 0)) (c1, c2)) rfl rfl ?_
  intro w2 hm2 hg2
  refine hK.out _ _ ⟨trivial, ?_⟩
  clear hK K
  have H3 := Lib.hid (H2.out.putN hm2 hg2)
  have B3 := Lib.hid (((ButL.of_below B2.out : ButL [bn] w w1)).trans (ButL.grown hg2 (fun k e => by cases e; simp)))
  clear hm2 hg2
  rw [Flow.wpSched_done]
  simp only [Flow.pick, Act.put]
  refine wpQuiet_nil ?_
  go_wp2_with fail
  go_end0
  exact ⟨rfl, H3.out, B3.out⟩
end Go.Proofs.YthgefcoaaommkaaDoor
