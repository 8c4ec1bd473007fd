/- Contract: the laws' small.
   Contracts: the laws' own and back: a digest of one type as one of the other. -/
import Derived.Test.YtlchcjnbbhpiaaaGreatDoorZt
namespace Go.Proofs.YtlchcjnbbhpiaaaGreatDoor
open Go.RowKit Go.Shelf Go.Dg Go.Maps
/-- A small item. -/
def okS (x : It) : Prop := x.fr.length ≤ 300 ∧ x.su.length ≤ 300 ∧ x.bo.length ≤ 200
theorem refit_size : (Tryz.prog.info? 53).map (·.size) = some 36 := by kernel_rfl
set_option maxRecDepth 100000 in
set_option maxHeartbeats 4000000 in
theorem small_any (d : Dg) (A : Option Addr) (c : Nat) (w : World) (hr : RdI w A d.its) (hc : d.its.length ≤ c) (hcm : c ≤ maxLen) (ht : d.ti.length ≤ maxLen) (hx : ∀ x ∈ d.its, LenI x) :
  Calls Tryz.prog 13 #[dgA d A c] w fun e w' => ((e = .returned (.bool true) ∧ (∀ x ∈ d.its, okS x) ∧ d.ti.length ≤ 200 ∧ d.its.length ≤ 12) ∨ e = .returned (.bool false)) ∧ Below w.heap.size w w' := by
 obtain ⟨ti, vo, ie, da, its⟩ := d
 simp only at hr hc ht hx ⊢
 have HR := Lib.hid hr
 have HX := Lib.hid hx
 have hn : its.length ≤ 9223372036854775807 := by have h : its.length ≤ maxLen := Nat.le_trans hc hcm; unfold maxLen at h; omega
 have ht2 : ti.length ≤ 9223372036854775807 := by unfold maxLen at ht; omega
 have htz : (⟨ti.toArray⟩ : ByteArray).size = ti.length := by show ti.toArray.size = _; simp
 have HSZ := Lib.hid refit_size
 clear hr hx hcm ht
 go_enter Tryz.func13, Tryz.ntmps13
 go_upto_region 1 with fail
 have I0 : Hid (Below w.heap.size w (w.alloc (.cells #[enS ti, i64 vo, i64 ie, i64 da, .slice A its.length c] 24)) ∧ (w.alloc (.cells #[enS ti, i64 vo, i64 ie, i64 da, .slice A its.length c] 24)).heap[w.heap.size]? = some (.cells #[enS ti, i64 vo, i64 ie, i64 da, .slice A its.length c] 24 (0, 0)) ∧ ∀ x ∈ its.take 0, okS x) := Lib.hid ⟨below_new _ _, blk_new _ _, by simp⟩
 go_wp2_with fail
 generalize w.alloc (.cells #[enS ti, i64 vo, i64 ie, i64 da, .slice A its.length c] 24) = w1 at *
 go_loopg [3, 4] its.length (fun gg kv _ wr => ∃ k : Nat, k ≤ its.length ∧ its.length - k ≤ gg ∧ kv = i64 k ∧ Hid (Below w.heap.size w wr ∧ wr.heap[w.heap.size]? = some (.cells #[enS ti, i64 vo, i64 ie, i64 da, .slice A its.length c] 24 (0, 0)) ∧ ∀ x ∈ its.take k, okS x))
 case atStart => exact ⟨0, Nat.zero_le _, by omega, rfl, I0⟩
 case round =>
  obtain ⟨k, hk, hgg, rfl, IW⟩ := hrel
  clear I0
  have c4 := blk_cell IW.out.2.1 4
  have c0 := blk_cell IW.out.2.1 0
  by_cases hlt : k < its.length
  ·obtain ⟨b, o, x, rfl, hbl, hx, hrg, h32⟩ := (HR.out.below IW.out.1).at_ hlt
   obtain ⟨x1, x2, x3⟩ := HX.out x (List.mem_of_getElem? hx)
   unfold maxLen at x1 x2 x3
   have HRG := Lib.hid hrg
   have HXK := Lib.hid hx
   have BI := Lib.hid (blk_new wr (.cells (itL x).toArray 53))
   have bi := below_new wr (.cells (itL x).toArray 53)
   have I1 := Lib.hid (And.intro (IW.out.1.tr bi) (And.intro (blk_below bi IW.out.2.1) IW.out.2.2))
   obtain ⟨f0, f1, f2, f3⟩ := it_cells BI.out
   clear hrg hx bi IW
   go_upto_region 5 with (first | refine wpList_load_mid rfl 53 _ rfl b (o + k * 36) rfl (itL x) _ HRG.out Tryz.underlying53 rfl (by rw [itL_length]; exact HSZ.out) ?_ | refine wpList_store_new (w := wr) rfl 53 _ _ rfl _ (itL x).toArray rfl rfl (by simp [itL_length, HSZ.out]) (by simp [itL_length]) (all_oneCell_toArray (one_itL x)) ?_)
   generalize wr.alloc (.cells (itL x).toArray 53) = w2 at *
   have z0 : (⟨x.fr.toArray⟩ : ByteArray).size = x.fr.length := by show x.fr.toArray.size = _; simp
   have z2 : (⟨x.su.toArray⟩ : ByteArray).size = x.su.length := by show x.su.toArray.size = _; simp
   have z4 : (⟨x.bo.toArray⟩ : ByteArray).size = x.bo.length := by show x.bo.toArray.size = _; simp
   clear c4 c0
   by_cases g1 : 300 < x.fr.length
   ·go_wp2_with fail
    go_ret
    exact ⟨.inr rfl, I1.out.1⟩
   by_cases g2 : 300 < x.su.length
   ·go_wp2_with fail
    go_ret
    exact ⟨.inr rfl, I1.out.1⟩
   by_cases g3 : 200 < x.bo.length
   ·go_wp2_with fail
    go_ret
    exact ⟨.inr rfl, I1.out.1⟩
   have hok : Hid (∀ y ∈ its.take (k + 1), okS y) := Lib.hid (by
    (show ∀ _, _)
    intro y hy
    rw [take_one HXK.out] at hy
    rcases List.mem_append.1 hy with hy | hy
    ·exact I1.out.2.2 y hy
    ·obtain rfl := List.mem_singleton.1 hy
     exact ⟨by omega, by omega, by omega⟩)
   go_wp2_with fail
   go_roundg (its.length - (k + 1))
   case measure => omega
   case rel => exact ⟨k + 1, by omega, by omega, by simp, Lib.hid ⟨I1.out.1, I1.out.2.1, hok.out⟩⟩
  ·obtain rfl : k = its.length := by omega
   have hall : Hid (∀ x ∈ its, okS x) := Lib.hid (by have := IW.out.2.2; rwa [List.take_length] at this)
   have B9 := Lib.hid IW.out.1
   have HG1 : Hid (ti.length ≤ 200 ∨ ¬ ti.length ≤ 200) := Lib.hid (Classical.em _)
   rcases HG1.out with g1 | g1
   ·go_wp2_with fail
    go_ret
    refine ⟨?_, B9.out⟩
    rcases Classical.em (its.length ≤ 12) with g2 | g2
    ·rw [decide_eq_true (show (its.length : Int) ≤ 12 by omega)]
     exact .inl ⟨rfl, hall.out, g1, g2⟩
    ·rw [decide_eq_false (show ¬ (its.length : Int) ≤ 12 by omega)]
     exact .inr rfl
   ·go_wp2_with fail
    go_ret
    exact ⟨rfl, B9.out⟩
section
variable {o : Oper} {a : Act} {w : World} {K : Act → World → Prop} {Q : Exit → Act → World → Prop}
theorem wp_store1 (x y : Operand) (ho : o.op = .store 30 x y) (hd : o.dst = none) (b i : Nat) (A : Option Addr) (n c : Nat) (hx : a.eval x = .pointer (some ⟨b, i, none⟩)) (hy : a.eval y = .slice A n c)
  (old : Value) (hc : w.cell? ⟨b, i, none⟩ = some old) (hf : w.frozen? ⟨b, i, none⟩ = false) (h : K a (w.setCell ⟨b, i, none⟩ (.slice A n c))) : o.wp Tryz.prog a w K Q := by
 unfold Oper.wp execOp
 simp only [ho, hx, hy]
 simp [go_sem, hc, hf, hd]
 exact h
theorem wp_one_it (X : Operand) (ho : o.op = .buildSlice 30 1 #[(0, X)]) (x : It) (hx : a.eval X = itA x)
  (h : K (a.put o.dst (.slice (some ⟨w.heap.size, 0, none⟩) 1 1)) (w.alloc (.cells (itL x).toArray 59))) : o.wp Tryz.prog a w K Q := by
 obtain ⟨i0, hi, hz0, hz1, hz2⟩ := info_parts it_info
 refine wp_buildSlice _ _ 1 _ ho (itL x).toArray i0 _ Tryz.underlying30 hi hz0 (by rw [hz1]; omega) (by rw [hz1]; omega) ?_ h
 rw [hz1]
 have h2 := Great.fill_whole (s := 36) (by decide) [itA x] ((Array.range (1 * 36)).map ((Value.agg (itL it0).toArray).cells[· % (Value.agg (itL it0).toArray).cells.size]!)) (fun v hv => by
  obtain rfl := List.mem_singleton.1 hv
  show (itL x).toArray.size = 36
  rw [List.size_toArray, itL_length]) (by simp)
 have e1 : ((#[(0, X)] : Array (Nat × Operand)).map fun (i, y) => (i, a.eval y)).toList = [(0, itA x)] := by
  simp [hx]
 rw [e1]
 refine Eq.trans h2 ?_
 show some (List.flatMap (fun v => v.cells.toList) [itA x]).toArray = _
 rw [List.flatMap_cons, List.flatMap_nil, List.append_nil]
 show some (itL x).toArray.toList.toArray = _
 rfl
end
/-- Where the walk of own or back stands: what is read, what is returned, what is put together. -/
structure OwS (tS tO tI : TypeId) (w W : World) (ti : List UInt8) (vo ie da : Int) (A : Option Addr) (n c : Nat) (A' : Option Addr) (c' : Nat) (xs : List It) : Prop where
 bel : Below w.heap.size w W
 src : W.heap[w.heap.size]? = some (.cells #[enS ti, i64 vo, i64 ie, i64 da, .slice A n c] tS (0, 0))
 res : W.heap[w.heap.size + 1]? = some (.cells #[enS [], i64 0, i64 0, i64 0, .slice none 0 0] tO (0, 0))
 out : W.heap[w.heap.size + 2]? = some (.cells #[enS ti, i64 vo, i64 ie, i64 da, .slice A' xs.length c'] tO (0, 0))
 own : W.ownsRow (w.heap.size + 3) tI 36 (.slice A' xs.length c') xs.length (xs.flatMap itL)
 bs : w.heap.size + 3 ≤ W.heap.size
section
variable {tS tO tI : TypeId} {w W W' : World} {ti : List UInt8} {vo ie da : Int} {A A' A2 : Option Addr} {n c c' c2 : Nat} {xs : List It} {x : It}
theorem OwS.below (h : OwS tS tO tI w W ti vo ie da A n c A' c' xs) (hb : Below W.heap.size W W') : OwS tS tO tI w W' ti vo ie da A n c A' c' xs :=
 ⟨h.bel.tr hb, blk_below hb h.src, blk_below hb h.res, blk_below hb h.out, own_below h.own hb, Nat.le_trans h.bs hb.size⟩
theorem OwS.app (h : OwS tS tO tI w W ti vo ie da A n c A' c' xs) (ho : W'.ownsRow (w.heap.size + 3) tI 36 (.slice A2 (xs ++ [x]).length c2) (xs ++ [x]).length ((xs ++ [x]).flatMap itL)) (hb : Below (w.heap.size + 3) W W') :
  OwS tS tO tI w (W'.setCell ⟨w.heap.size + 2, 4, none⟩ (.slice A2 (xs ++ [x]).length c2)) ti vo ie da A n c A2 c2 (xs ++ [x]) := by
 have hk : But (w.heap.size + 2) W' (W'.setCell ⟨w.heap.size + 2, 4, none⟩ (.slice A2 (xs ++ [x]).length c2)) := (But.refl _ _).setCell _
 have s1 := (hb.block w.heap.size (by omega)).trans h.src
 have s2 := (hb.block (w.heap.size + 1) (by omega)).trans h.res
 have s3 := (hb.block (w.heap.size + 2) (by omega)).trans h.out
 refine ⟨hk.tail (h.bel.trans (hb.mono (by omega))) (by omega), (hk.block _ (blk_lt s1) (by omega)).trans s1, (hk.block _ (blk_lt s2) (by omega)).trans s2, ?_, own_but ho (by omega) hk, Nat.le_trans h.bs (Nat.le_trans hb.size hk.size)⟩
 rw [blk_set s3]
 rfl
end
theorem own2_from {w : World} {base s n m c : Nat} {t : TypeId} {A : Option Addr} {xs : List Value} (h : w.ownsRow base t s (.slice A n c) m xs) : ∀ p, A = some p → base ≤ p.block := fun p hp => by
 rcases h.2 with ⟨e, _⟩ | ⟨g, cap, cur, e, hb, _⟩
 ·cases e; cases hp
 ·cases e; cases hp; exact hb
set_option maxRecDepth 100000 in
set_option maxHeartbeats 8000000 in
theorem ownD_new (d : Dg) (A : Option Addr) (c : Nat) (w : World) (hr : RdI w A d.its) (hc : d.its.length ≤ c) (hn : d.its.length ≤ 1000000) :
  Calls Tryz.prog 15 #[dgA d A c] w fun e w' => (∃ A' c', e = .returned (dgA d A' c') ∧ RdI w' A' d.its ∧ d.its.length ≤ c' ∧ ∀ p, A' = some p → w.heap.size ≤ p.block) ∧ Below w.heap.size w w' := by
 obtain ⟨ti, vo, ie, da, its⟩ := d
 simp only at hr hc hn ⊢
 have HR := Lib.hid hr
 have HSZ := Lib.hid refit_size
 obtain ⟨i0, hi, hz0, hz1, hz2⟩ := info_parts it_info
 have HI := Lib.hid (And.intro hi (And.intro hz0 (And.intro hz1 hz2)))
 clear hr hi hz0 hz1 hz2
 go_enter Tryz.func15, Tryz.ntmps15
 go_upto_region 2 with fail
 generalize hw1 : World.alloc (World.alloc (World.alloc w _) _) _ = w1
 have I0 : Hid (OwS 24 32 59 w w1 ti vo ie da A its.length c none 0 []) := Lib.hid ⟨hw1 ▸ (((below_new _ _).tr (below_new _ _)).tr (below_new _ _)), hw1 ▸ blk_old _ (blk_old _ (blk_new w _)), by
   have h := blk_new (w.alloc (.cells #[enS ti, i64 vo, i64 ie, i64 da, .slice A its.length c] 24)) (.cells #[enS [], i64 0, i64 0, i64 0, .slice none 0 0] 32)
   rw [World.size_alloc] at h
   exact hw1 ▸ blk_old _ h, by
   have h := blk_new ((w.alloc (.cells #[enS ti, i64 vo, i64 ie, i64 da, .slice A its.length c] 24)).alloc (.cells #[enS [], i64 0, i64 0, i64 0, .slice none 0 0] 32)) (.cells #[enS ti, i64 vo, i64 ie, i64 da, .slice none 0 0] 32)
   rw [World.size_alloc, World.size_alloc] at h
   exact hw1 ▸ h, own2_nil _ _ _ _, by rw [← hw1]; simp⟩
 clear hw1
 go_wp2_with fail
 go_loopg [4] its.length (fun gg kv wr => ∃ (k : Nat) (A' : Option Addr) (c' : Nat), k ≤ its.length ∧ its.length - k ≤ gg ∧ kv = i64 k ∧ Hid (OwS 24 32 59 w wr ti vo ie da A its.length c A' c' (its.take k)))
 case atStart => exact ⟨0, none, 0, Nat.zero_le _, by omega, rfl, I0⟩
 case round =>
  obtain ⟨k, A', c', hk, hgg, rfl, IW⟩ := hrel
  clear I0
  have c4 := blk_cell IW.out.src 4
  by_cases hlt : k < its.length
  ·obtain ⟨b, o, x, rfl, hbl, hx, hrg, h32⟩ := HR.out.at_ hlt
   have HRG := Lib.hid hrg
   have HXK := Lib.hid hx
   have htk : (its.take k).length = k := by rw [List.length_take]; omega
   obtain ⟨xs, hxs⟩ : ∃ q, its.take k = q := ⟨_, rfl⟩
   have HXS : Hid (its.take (k + 1) = xs ++ [x]) := Lib.hid (by (show _ = _); rw [take_one hx, hxs])
   rw [hxs] at IW htk
   have HTK := Lib.hid htk
   clear hrg hx htk hxs
   go_upto_region 5 with fail
   have b' := (Below.refl wr.heap.size wr).drew
   refine Flow.wp_region_pre (KeepT w.heap.size [w.heap.size, w.heap.size + 2]) (KeepT.refl _ _) (fun _ _ _ h k => h.trans k) [11] (.held [0, 1, 2, 3, 4, 5, 6] (.call 7 (.call 8 (.call 9 (.held [10] (.tail (.step [] 11 (.done [])))))))) (by kernel_rfl) (by kernel_rfl) ?_
   have O5 := Lib.hid (IW.out.below b')
   clear b' IW c4
   generalize World.drew _ = wd at *
   have q4 := fun t => KeepT.cell (B := w.heap.size) (K := [w.heap.size, w.heap.size + 2]) (by simp) (show wd.cell? ⟨w.heap.size, 4, none⟩ = some (.slice (some ⟨b, o, none⟩) its.length c) from blk_cell O5.out.src 4) t
   have q5 := fun t => KeepT.cell (B := w.heap.size) (K := [w.heap.size, w.heap.size + 2]) (by simp) (show wd.cell? ⟨w.heap.size + 2, 4, none⟩ = some (.slice A' xs.length c') from blk_cell O5.out.out 4) t
   have qR : ∀ t : Flow.Cls (KeepT w.heap.size [w.heap.size, w.heap.size + 2] wd), t.val.rangeAt b (o + k * 36) (itL x) := fun t j v hj => by
    have hb3 : Below w.heap.size w t.val := O5.out.bel.trans t.ok.1
    have hcell := HRG.out j v hj
    rw [World.cell?_of_block (hb3.block b hbl)]
    exact hcell
   haveI nonE := cls_keep (B := w.heap.size) (K := [w.heap.size, w.heap.size + 2]) wd
   rw [Flow.wpPre_held]
   simp only [Flow.pick, List.getElem?_toArray, List.getElem?_cons_succ, List.getElem?_cons_zero]
   iterate 6 go_big_quiet_step (fail)
   refine BigFrame.wpQuiet_want rfl (fun K hK => quiet_load_mid 53 _ rfl b (o + k * 36) rfl (itL x) _ (fun _ he => by obtain ⟨t, rfl⟩ := he; exact qR t) Tryz.underlying53 rfl (by rw [itL_length]; exact HSZ.out) (hK _ ?_))
   clear hK K
   simp only [Act.put, List.setIfInBounds_toArray, List.set_cons_succ, List.set_cons_zero]
   refine wpQuiet_nil ?_
   clear nonE q4 q5 qR
   rw [Flow.wpPre_call, Flow.callAt_eq]
   simp only [List.getElem?_toArray, List.getElem?_cons_succ, List.getElem?_cons_zero]
   rw [if_pos (by rfl)]
   refine Flow.wp_behind (fun K hK => ?_)
   go_wp2_with fail
   refine (item_any x _).mono ?_; rintro e w7 ⟨rfl, b7⟩
   have hsd := O5.out.bs
   refine hK.out _ _ ⟨KeepT.of_below b7 (by omega) (by simp; omega), ?_⟩
   clear hK K
   have O7 := Lib.hid (O5.out.below b7)
   clear b7 O5 hsd
   rw [Flow.wpPre_call, Flow.callAt_eq]
   simp only [List.getElem?_toArray, List.getElem?_cons_succ, List.getElem?_cons_zero]
   rw [if_pos (by rfl)]
   refine Flow.wp_behind (fun K hK => ?_)
   have hsd := O7.out.bs
   refine wp_one_it _ rfl x rfl ?_
   refine hK.out _ _ ⟨KeepT.of_below (below_new _ _) (by omega) (by simp; omega), ?_⟩
   clear hK K
   have O8 := Lib.hid (O7.out.below (below_new w7 (.cells (itL x).toArray 59)))
   have RC := Lib.hid (RdC.new w7 (itL x) 59)
   clear O7
   obtain ⟨nb, hnb⟩ : ∃ q, w7.heap.size = q := ⟨_, rfl⟩
   rw [hnb] at RC ⊢
   clear hsd hnb
   generalize w7.alloc (.cells (itL x).toArray 59) = w8 at *
   rw [Flow.wpPre_call, Flow.callAt_eq]
   simp only [List.getElem?_toArray, List.getElem?_cons_succ, List.getElem?_cons_zero]
   rw [if_pos (by rfl)]
   refine Flow.wp_behind (fun K hK => ?_)
   have hsd := O8.out.bs
   have hxl : xs.length + 1 ≤ 1000000000 := by rw [HTK.out]; omega
   refine wp_appC Tryz.underlying30 HI.out.1 HI.out.2.1 HI.out.2.2.1 HI.out.2.2.2 rfl (by decide) _ _ rfl (w.heap.size + 3) _ xs.length _ O8.out.own rfl (some ⟨nb, 0, none⟩) 1 1 (itL x) (by rw [itL_length]) RC.out rfl (one_itL x) hxl (by decide) hsd ?_
   intro v9 w9 o9 g9 b9
   obtain ⟨A9, c9, rfl⟩ := own2_slice o9
   refine hK.out _ _ ⟨KeepT.grown g9 (by omega) (fun g e => Nat.le_trans (by omega) (O8.out.own.lt g e).1) (fun j hj => by
    have hne : ∀ g, (Value.slice A' xs.length c').ownBlock = some g → w.heap.size + 3 ≤ g := fun g e => (O8.out.own.lt g e).1
    simp only [List.mem_cons, List.not_mem_nil, or_false] at hj
    rcases hj with rfl | rfl
    ·exact ⟨by omega, fun e => by have := hne _ e.symm; omega⟩
    ·exact ⟨by omega, fun e => by have := hne _ e.symm; omega⟩), ?_⟩
   clear hK K
   have en : (xs ++ [x]).length = xs.length + 1 := by simp
   have o15 : w9.ownsRow (w.heap.size + 3) 59 36 (.slice A9 (xs ++ [x]).length c9) (xs ++ [x]).length ((xs ++ [x]).flatMap itL) := by
    rw [en, List.flatMap_append, List.flatMap_cons, List.flatMap_nil, List.append_nil]; exact o9
   have O10 := Lib.hid (O8.out.app o15 b9)
   have s3 := (b9.block (w.heap.size + 2) (by omega)).trans O8.out.out
   have c9c := blk_cell s3 4
   have f9c := blk_free s3 4
   clear o15 o9 g9 b9 s3 O8 RC
   rw [en] at O10
   clear en
   haveI nonE := cls_keep (B := w.heap.size) (K := [w.heap.size, w.heap.size + 2]) w9
   rw [Flow.wpPre_held]
   simp only [Flow.pick, List.getElem?_toArray, List.getElem?_cons_succ, List.getElem?_cons_zero]
   simp only [Act.put, List.setIfInBounds_toArray, List.set_cons_succ, List.set_cons_zero]
   go_big_quiet_step (fail)
   refine wpQuiet_nil ?_
   clear nonE
   rw [Flow.wpPre_tail, Flow.wpSched_step]
   simp only [Flow.pick]
   refine wpQuiet_nil ?_
   rw [Flow.callAt_eq]
   simp only [List.getElem?_toArray, List.getElem?_cons_succ, List.getElem?_cons_zero]
   rw [if_pos (by rfl)]
   refine Flow.wp_behind (fun K hK => ?_)
   refine wp_store1 _ _ rfl rfl (w.heap.size + 2) 4 A9 (xs.length + 1) c9 rfl rfl _ c9c f9c ?_
   refine hK.out _ _ ⟨trivial, ?_⟩
   clear hK K c9c f9c
   rw [Flow.wpSched_done]
   simp only [Flow.pick]
   refine wpQuiet_nil ?_
   have IN : Hid (OwS 24 32 59 w (w9.setCell ⟨w.heap.size + 2, 4, none⟩ (.slice A9 (xs.length + 1) c9)) ti vo ie da (some ⟨b, o, none⟩) its.length c A9 c9 (its.take (k + 1))) := Lib.hid (by rw [HXS.out]; exact O10.out)
   clear O10
   generalize w9.setCell ⟨w.heap.size + 2, 4, none⟩ (.slice A9 (xs.length + 1) c9) = w10 at *
   go_wp2_with fail
   go_roundg (its.length - (k + 1))
   case measure => omega
   case rel => exact ⟨k + 1, A9, c9, by omega, by omega, by simp, IN⟩
  ·obtain rfl : k = its.length := by omega
   rw [List.take_length] at IW
   have RO := Lib.hid (range_blk (cs := [enS ti, i64 vo, i64 ie, i64 da, .slice A' its.length c']) IW.out.out)
   go_wp2_with (first | refine wpList_load_mid rfl 32 _ rfl (w.heap.size + 2) 0 rfl [enS ti, i64 vo, i64 ie, i64 da, .slice A' its.length c'] _ RO.out Tryz.underlying32 rfl (by kernel_rfl) ?_ | refine wpList_store_mid rfl 32 _ _ rfl (w.heap.size + 1) 0 #[enS ti, i64 vo, i64 ie, i64 da, .slice A' its.length c'] rfl rfl (there_at IW.out.res (Nat.le_refl 5)) (by kernel_rfl) (one_dg _ _ _ _ _ _ _) ?_)
   have ZD := Lib.hid (dg_store IW.out.res (enS ti) (i64 vo) (i64 ie) (i64 da) (.slice A' its.length c'))
   have hk2 : But (w.heap.size + 1) wr (wr.setCells (w.heap.size + 1) 0 [enS ti, i64 vo, i64 ie, i64 da, .slice A' its.length c']) := but_setCells _ _ _
   have hown := own_but IW.out.own (show w.heap.size + 1 < w.heap.size + 3 by omega) hk2
   have hload := run_loadVar_mid (P := Tryz.prog) _ (w.heap.size + 1) 0 32 [enS ti, i64 vo, i64 ie, i64 da, .slice A' its.length c'] _ (range_blk (cs := [enS ti, i64 vo, i64 ie, i64 da, .slice A' its.length c']) ZD.out) Tryz.underlying32 rfl (by kernel_rfl)
   exact bodyPost_ret (v := dgA ⟨ti, vo, ie, da, its⟩ A' c') (results_cell1 (a := 2) rfl rfl hload) rfl ⟨⟨A', c', rfl, RdI.of_own hown HR.out.ky, own2_le hown, fun p hp => Nat.le_trans (Nat.le_add_right _ 3) (own2_from hown p hp)⟩, hk2.tail IW.out.bel (by omega)⟩
theorem ownD_any (d : Dg) (A : Option Addr) (c : Nat) (w : World) (hr : RdI w A d.its) (hc : d.its.length ≤ c) (hn : d.its.length ≤ 1000000) :
  Calls Tryz.prog 15 #[dgA d A c] w fun e w' => (∃ A' c', e = .returned (dgA d A' c') ∧ RdI w' A' d.its ∧ d.its.length ≤ c') ∧ Below w.heap.size w w' :=
 (ownD_new d A c w hr hc hn).mono fun _e _w' ⟨⟨A', c', h1, h2, h3, _⟩, h4⟩ => ⟨⟨A', c', h1, h2, h3⟩, h4⟩
end Go.Proofs.YtlchcjnbbhpiaaaGreatDoor
