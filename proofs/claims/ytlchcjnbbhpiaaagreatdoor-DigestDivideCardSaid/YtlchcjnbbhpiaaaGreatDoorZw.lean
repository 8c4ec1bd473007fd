/- Contract: the laws' back: a digest as one of the reference's type.
   Contract: the reference's Same where both digests are equal. -/
import Derived.Test.YtlchcjnbbhpiaaaGreatDoorZv
namespace Go.Proofs.YtlchcjnbbhpiaaaGreatDoor
open Go.RowKit Go.Shelf Go.Dg Go.Maps
theorem ref_info : (Tryz.prog.info? 53).map (fun i => (i.zero, i.size, i.bytes)) = some (some (.agg (itL it0).toArray), 36, 88) := by kernel_rfl
theorem built_ref (x : It) : Tryz.prog.built 53 [(0, enS x.fr), (1, i64 x.dt), (2, enS x.su), (3, idA x.ky), (4, enS x.bo)] = some (itL x).toArray := by kernel_rfl
section
variable {ops : Array Oper} {rest : List Oper} {o : Oper} {a : Act} {w : World} {Q : Exit → Act → World → Prop}
theorem wpList_build_ref (hg : o.guard = none) (X0 X1 X2 X3 X4 : Operand) (ho : o.op = .build 53 #[(0, X0), (1, X1), (2, X2), (3, X3), (4, X4)]) (x : It)
  (h0 : a.eval X0 = enS x.fr) (h1 : a.eval X1 = i64 x.dt) (h2 : a.eval X2 = enS x.su) (h3 : a.eval X3 = idA x.ky) (h4 : a.eval X4 = enS x.bo)
  (h : wpList Tryz.prog ops Q rest (a.put o.dst (itA x)) w) : wpList Tryz.prog ops Q (o :: rest) a w :=
 wpList_plain hg fun K hK => by
  unfold Oper.wp execOp
  simp only [ho, Sem.run_bind, run_build w 53 #[(0, enS x.fr), (1, i64 x.dt), (2, enS x.su), (3, idA x.ky), (4, enS x.bo)] (itL x).toArray (built_ref x), List.map_toArray, List.map_cons, List.map_nil, h0, h1, h2, h3, h4, Result.andThen_ok]
  exact hK _ _ h
theorem wpList_one_ref (hg : o.guard = none) (X : Operand) (ho : o.op = .buildSlice 22 1 #[(0, X)]) (x : It) (hx : a.eval X = itA x)
  (h : wpList Tryz.prog ops Q rest (a.put o.dst (.slice (some ⟨w.heap.size, 0, none⟩) 1 1)) (w.alloc (.cells (itL x).toArray 53))) : wpList Tryz.prog ops Q (o :: rest) a w := by
 obtain ⟨i0, hi, hz0, hz1, hz2⟩ := info_parts ref_info
 refine wpList_buildSlice hg _ _ 1 _ ho (itL x).toArray i0 _ Tryz.underlying22 hi hz0 (by rw [hz1]; omega) (by rw [hz1]; omega) ?_ h
 rw [hz1]
 have h2 := Great.fill_whole (s := 36) (by decide) [itA x] ((Array.range (1 * 36)).map ((Value.agg (itL it0).toArray).cells[· % (Value.agg (itL it0).toArray).cells.size]!)) (fun v hv => by
  obtain rfl := List.mem_singleton.1 hv
  show (itL x).toArray.size = 36
  rw [List.size_toArray, itL_length]) (by simp)
 have e1 : ((#[(0, X)] : Array (Nat × Operand)).map fun (i, y) => (i, a.eval y)).toList = [(0, itA x)] := by
  simp [hx]
 rw [e1]
 refine Eq.trans h2 ?_
 show some (List.flatMap (fun v => v.cells.toList) [itA x]).toArray = _
 rw [List.flatMap_cons, List.flatMap_nil, List.append_nil]
 show some (itL x).toArray.toList.toArray = _
 rfl
end
theorem dg_storeT {w : World} {db : Nat} {t : TypeId} {a b c d e : Value} (h : w.heap[db]? = some (.cells #[a, b, c, d, e] t (0, 0))) (a' b' c' d' e' : Value) : (w.setCells db 0 [a', b', c', d', e']).heap[db]? = some (.cells #[a', b', c', d', e'] t (0, 0)) := by
 rw [blk_setCells _ _ _ _ h]
 rfl
theorem RdI.of_ownT {w : World} {base n c : Nat} {t : TypeId} {A : Option Addr} {its : List It} (h : w.ownsRow base t 36 (.slice A n c) n (its.flatMap itL)) (hk : ∀ x ∈ its, x.ky.length = 32) : RdI w A its := by
 refine ⟨fun hp => ?_, hk⟩
 rcases h.2 with ⟨_, h0⟩ | ⟨g, cap, cur, e, _, hg, _, _, _, ht⟩
 ·have := h.1
  rw [flat_len, h0] at this
  omega
 ·cases e
  refine ⟨g, 0, rfl, blk_lt hg, fun j x hj i v hv => ?_⟩
  have hi : i < 36 := by
   have := (List.getElem?_eq_some_iff.1 hv).1
   rwa [itL_length] at this
  have e1 := flat_at its j x i hj hi
  rw [← ht, List.getElem?_take] at e1
  rw [blk_cell hg]
  split at e1
  ·rw [Nat.zero_add, ← Array.getElem?_toList, e1]; exact hv
  ·rw [← e1] at hv; cases hv
set_option maxRecDepth 100000 in
set_option maxHeartbeats 8000000 in
theorem back_any (d : Dg) (A : Option Addr) (c : Nat) (w : World) (hr : RdI w A d.its) (hc : d.its.length ≤ c) (hn : d.its.length ≤ 1000000) :
  Calls Tryz.prog 18 #[dgA d A c] w fun e w' => (∃ A' c', e = .returned (dgA d A' c') ∧ RdI w' A' d.its ∧ d.its.length ≤ c') ∧ Below w.heap.size w w' := by
 obtain ⟨ti, vo, ie, da, its⟩ := d
 simp only at hr hc hn ⊢
 have HR := Lib.hid hr
 have HSZ := Lib.hid it_size
 obtain ⟨i0, hi, hz0, hz1, hz2⟩ := info_parts ref_info
 have HI := Lib.hid (And.intro hi (And.intro hz0 (And.intro hz1 hz2)))
 clear hr hi hz0 hz1 hz2
 go_enter Tryz.func18, Tryz.ntmps18
 go_upto_region 2 with fail
 generalize hw1 : World.alloc (World.alloc (World.alloc w _) _) _ = w1
 have I0 : Hid (OwS 32 24 53 w w1 ti vo ie da A its.length c none 0 []) := Lib.hid ⟨hw1 ▸ (((below_new _ _).tr (below_new _ _)).tr (below_new _ _)), hw1 ▸ blk_old _ (blk_old _ (blk_new w _)), by
   have h := blk_new (w.alloc (.cells #[enS ti, i64 vo, i64 ie, i64 da, .slice A its.length c] 32)) (.cells #[enS [], i64 0, i64 0, i64 0, .slice none 0 0] 24)
   rw [World.size_alloc] at h
   exact hw1 ▸ blk_old _ h, by
   have h := blk_new ((w.alloc (.cells #[enS ti, i64 vo, i64 ie, i64 da, .slice A its.length c] 32)).alloc (.cells #[enS [], i64 0, i64 0, i64 0, .slice none 0 0] 24)) (.cells #[enS ti, i64 vo, i64 ie, i64 da, .slice none 0 0] 24)
   rw [World.size_alloc, World.size_alloc] at h
   exact hw1 ▸ h, own2_nil _ _ _ _, by rw [← hw1]; simp⟩
 clear hw1
 go_wp2_with fail
 go_loopg [4, 5] its.length (fun gg kv _ wr => ∃ (k : Nat) (A' : Option Addr) (c' : Nat), k ≤ its.length ∧ its.length - k ≤ gg ∧ kv = i64 k ∧ Hid (OwS 32 24 53 w wr ti vo ie da A its.length c A' c' (its.take k)))
 case atStart => exact ⟨0, none, 0, Nat.zero_le _, by omega, rfl, I0⟩
 case round =>
  obtain ⟨k, A', c', hk, hgg, rfl, IW⟩ := hrel
  clear I0
  have c4 := blk_cell IW.out.src 4
  by_cases hlt : k < its.length
  ·obtain ⟨b, o, x, rfl, hbl, hx, hrg, h32⟩ := HR.out.at_ hlt
   have HRG := Lib.hid hrg
   have HXK := Lib.hid hx
   have htk : (its.take k).length = k := by rw [List.length_take]; omega
   obtain ⟨xs, hxs⟩ : ∃ q, its.take k = q := ⟨_, rfl⟩
   have HXS : Hid (its.take (k + 1) = xs ++ [x]) := Lib.hid (by (show _ = _); rw [take_one hx, hxs])
   rw [hxs] at IW htk
   have HTK := Lib.hid htk
   clear hrg hx htk hxs
   have bi := below_new wr (.cells (itL x).toArray 59)
   have O5 := Lib.hid (IW.out.below bi)
   have BI := Lib.hid (blk_new wr (.cells (itL x).toArray 59))
   have HRW : Hid (wr.rangeAt b (o + k * 36) (itL x)) := Lib.hid fun j v hj => by
    rw [World.cell?_of_block (IW.out.bel.block b hbl)]
    exact HRG.out j v hj
   obtain ⟨f0, f1, f2, f3⟩ := it_cells BI.out
   have KI := Lib.hid (it_ky BI.out)
   clear bi IW
   go_upto_region 6 with (first | refine wpList_load_mid rfl 59 _ rfl b (o + k * 36) rfl (itL x) _ HRW.out Tryz.underlying59 rfl (by rw [itL_length]; exact HSZ.out) ?_ | refine wpList_store_new (w := wr) rfl 59 _ _ rfl _ (itL x).toArray rfl rfl (by simp [itL_length, HSZ.out]) (by simp [itL_length]) (all_oneCell_toArray (one_itL x)) ?_)
   clear HRW c4
   obtain ⟨ib, hib⟩ : ∃ q, wr.heap.size = q := ⟨_, rfl⟩
   rw [hib] at f0 f1 f2 f3 KI ⊢
   clear hib
   generalize wr.alloc (.cells (itL x).toArray 59) = w5 at *
   have c5 := blk_cell O5.out.out 4
   have hsd := O5.out.bs
   have hxl : xs.length + 1 ≤ 1000000000 := by rw [HTK.out]; omega
   have HXL := Lib.hid hxl
   clear hxl
   go_upto_region 4 with (first | refine wpList_load_mid rfl 57 _ rfl ib 3 rfl (idL x.ky) _ KI.out Tryz.underlying57 rfl (by rw [idL_length]; exact id_size) ?_ | (refine wpList_build_ref rfl _ _ _ _ _ rfl x rfl rfl rfl rfl rfl ?_; refine wpList_one_ref rfl _ rfl x rfl ?_) | (at_builtin; refine wpList_appC Tryz.underlying22 HI.out.1 HI.out.2.1 HI.out.2.2.1 HI.out.2.2.2 rfl (by decide) _ rfl _ _ rfl (w.heap.size + 3) _ xs.length _ (own_below O5.out.own (below_new _ _)) rfl _ 1 1 (itL x) (by rw [itL_length]) (RdC.new _ _ _) rfl (one_itL x) HXL.out (by decide) (Nat.le_trans O5.out.bs (below_new _ _).size) ?_; intro v9 w9 o9 g9 b9; obtain ⟨A9, c9, rfl⟩ := own2_slice o9; have O9 := Lib.hid o9; clear o9 g9; revert b9))
   intro b9
   have s3 := (b9.block (w.heap.size + 2) (by omega)).trans (blk_below (below_new _ _) O5.out.out)
   have en : (xs ++ [x]).length = xs.length + 1 := by simp
   have o15 : w9.ownsRow (w.heap.size + 3) 53 36 (.slice A9 (xs ++ [x]).length c9) (xs ++ [x]).length ((xs ++ [x]).flatMap itL) := by
    rw [en, List.flatMap_append, List.flatMap_cons, List.flatMap_nil, List.append_nil]; exact O9.out
   have O10 := Lib.hid ((O5.out.below (below_new _ _)).app o15 b9)
   rw [en] at O10
   have c9c := blk_cell s3 4
   have f9c := blk_free s3 4
   clear o15 O9 b9 s3 en c5 f0 f1 f2 f3 KI BI
   go_upto_region 4 with fail
   have IN : Hid (OwS 32 24 53 w (w9.setCell ⟨w.heap.size + 2, 4, none⟩ (.slice A9 (xs.length + 1) c9)) ti vo ie da (some ⟨b, o, none⟩) its.length c A9 c9 (its.take (k + 1))) := Lib.hid (by rw [HXS.out]; exact O10.out)
   clear O10 O5 c9c f9c
   generalize w9.setCell ⟨w.heap.size + 2, 4, none⟩ (.slice A9 (xs.length + 1) c9) = w10 at *
   go_wp2_with fail
   go_roundg (its.length - (k + 1))
   case measure => omega
   case rel => exact ⟨k + 1, A9, c9, by omega, by omega, by simp, IN⟩
  ·obtain rfl : k = its.length := by omega
   rw [List.take_length] at IW
   have RO := Lib.hid (range_blk (cs := [enS ti, i64 vo, i64 ie, i64 da, .slice A' its.length c']) IW.out.out)
   go_wp2_with (first | refine wpList_load_mid rfl 24 _ rfl (w.heap.size + 2) 0 rfl [enS ti, i64 vo, i64 ie, i64 da, .slice A' its.length c'] _ RO.out Tryz.underlying24 rfl (by kernel_rfl) ?_ | refine wpList_store_mid rfl 24 _ _ rfl (w.heap.size + 1) 0 #[enS ti, i64 vo, i64 ie, i64 da, .slice A' its.length c'] rfl rfl (there_at IW.out.res (Nat.le_refl 5)) (by kernel_rfl) (one_dg _ _ _ _ _ _ _) ?_)
   have ZD := Lib.hid (dg_storeT IW.out.res (enS ti) (i64 vo) (i64 ie) (i64 da) (.slice A' its.length c'))
   have hk2 : But (w.heap.size + 1) wr (wr.setCells (w.heap.size + 1) 0 [enS ti, i64 vo, i64 ie, i64 da, .slice A' its.length c']) := but_setCells _ _ _
   have hown := own_but IW.out.own (show w.heap.size + 1 < w.heap.size + 3 by omega) hk2
   have hload := run_loadVar_mid (P := Tryz.prog) _ (w.heap.size + 1) 0 24 [enS ti, i64 vo, i64 ie, i64 da, .slice A' its.length c'] _ (range_blk (cs := [enS ti, i64 vo, i64 ie, i64 da, .slice A' its.length c']) ZD.out) Tryz.underlying24 rfl (by kernel_rfl)
   exact bodyPost_ret (v := dgA ⟨ti, vo, ie, da, its⟩ A' c') (results_cell1 (a := 2) rfl rfl hload) rfl ⟨⟨A', c', rfl, RdI.of_ownT hown HR.out.ky, own2_le hown⟩, hk2.tail IW.out.bel (by omega)⟩
theorem f_part0 (w : World) (x : It) : (part 9 (itL x).toArray 0).run Tryz.prog w = .ok (enS x.fr) w := by
 simp [part, isAgg, run_underlying Tryz.underlying9, itL]
theorem f_part1 (w : World) (x : It) : (part 3 (itL x).toArray 1).run Tryz.prog w = .ok (i64 x.dt) w := by
 simp [part, isAgg, run_underlying Tryz.underlying3, itL]
theorem f_part2 (w : World) (x : It) : (part 9 (itL x).toArray 2).run Tryz.prog w = .ok (enS x.su) w := by
 simp [part, isAgg, run_underlying Tryz.underlying9, itL]
theorem f_part4 (w : World) (x : It) : (part 9 (itL x).toArray 35).run Tryz.prog w = .ok (enS x.bo) w := by
 simp [part, isAgg, run_underlying Tryz.underlying9, itL]
theorem sz32 (w : World) : (Go.sizeOf 51).run Tryz.prog w = .ok 32 w := by kernel_rfl
theorem f_part3 (w : World) (x : It) : (part 51 (itL x).toArray 3).run Tryz.prog w = .ok (idA x.ky) w := by
 have e : (itL x).toArray.extract 3 (3 + 32) = (idL x.ky).toArray := by kernel_rfl
 simp only [part, isAgg, run_underlying Tryz.underlying51, Sem.run_bind, Result.andThen_ok, Sem.run_pure]
 rw [if_pos trivial]
 simp only [Sem.run_bind, sz32, Result.andThen_ok, Sem.run_pure, e]
theorem ref_stood : Tryz.prog.stoodInHeld 53 = false := by kernel_rfl
set_option maxRecDepth 100000 in
theorem neq_ref (w : World) (x : It) (hk : x.ky.length = 32) : (binOp .neq 53 (itA x) (itA x)).run Tryz.prog w = .ok (.bool false) w := by
 have h3 : (Op.equalIn 9999 51 (idA x.ky) (idA x.ky)).run Tryz.prog w = .ok true w := by
  unfold idA
  rw [idL_map hk, run_equalIn_bytes w 9997 51 5 32 Tryz.underlying51 Tryz.underlying5 byteSize x.ky x.ky hk hk]
  simp
 have h0 : (Op.equalIn 9999 9 (enS x.fr) (enS x.fr)).run Tryz.prog w = .ok true w := by rw [run_equalIn_string w 9998 9 _ _ Tryz.underlying9]; simp
 have h2 : (Op.equalIn 9999 9 (enS x.su) (enS x.su)).run Tryz.prog w = .ok true w := by rw [run_equalIn_string w 9998 9 _ _ Tryz.underlying9]; simp
 have h4 : (Op.equalIn 9999 9 (enS x.bo) (enS x.bo)).run Tryz.prog w = .ok true w := by rw [run_equalIn_string w 9998 9 _ _ Tryz.underlying9]; simp
 have h1 : (Op.equalIn 9999 3 (i64 x.dt) (i64 x.dt)).run Tryz.prog w = .ok true w := by rw [run_equalIn_int w 9998 3 .i64 .i64 _ _ Tryz.underlying3]; simp
 have ht : Tryz.prog.underlying 53 = some (.struct (Tryz.prog.fieldsOf 53)) := by
  unfold Program.fieldsOf
  rw [Tryz.underlying53]
 rw [run_neq_struct, run_equalIn_struct w 9999 53 _ _ ht ref_stood]
 unfold Program.fieldsOf
 rw [Tryz.underlying53]
 simp [Op.eqFields, f_part0, f_part1, f_part2, f_part3, f_part4, h0, h1, h2, h3, h4]
section
variable {P : Program} {ops : Array Oper} {C : World → Prop} {Q : Act → Prop} {a : Act} {o : Oper}
theorem ref_guard : Tryz.prog.eqGuardType Tryz.prog.depth 53 = false := by kernel_rfl
set_option maxRecDepth 100000 in
/-- A comparison of two equal items in a quiet walk. -/
theorem quiet_neq_ref {K : Act → Prop} (X Y : Operand) (t : TypeId) (ho : o.op = .binOp .neq 53 X Y t) (x : It) (hk : x.ky.length = 32) (hx : a.eval X = itA x) (hy : a.eval Y = itA x) (h : K (a.put o.dst (.bool false))) : o.quiet Tryz.prog a C K :=
 ⟨_, fun w _ => by
  unfold Oper.quietAt execOp
  have g : (eqGuard .neq 53 X Y (itA x) (itA x)).run Tryz.prog w = .ok () w := run_eqGuard_agg w .neq 53 X Y _ _ ref_guard
  simp only [ho, hx, hy, Sem.run_bind, g, neq_ref w x hk, Result.andThen_ok, Sem.run_pure]
  exact ⟨rfl, rfl⟩, h⟩
end
set_option maxRecDepth 100000 in
set_option maxHeartbeats 8000000 in
theorem same_any (d : Dg) (A A2 : Option Addr) (c c2 : Nat) (w : World) (hr : RdI w A d.its) (hr2 : RdI w A2 d.its) (hc : d.its.length ≤ c) (hc2 : d.its.length ≤ c2) (hn : d.its.length ≤ 1000000) :
  Calls Tryz.prog 17 #[dgA d A c, dgA d A2 c2] w fun e w' => e = .returned (.bool true) ∧ Below w.heap.size w w' := by
 obtain ⟨ti, vo, ie, da, its⟩ := d
 simp only at hr hr2 hc hc2 hn ⊢
 have HR := Lib.hid hr
 have HR2 := Lib.hid hr2
 have HSZ := Lib.hid refit_size
 have hts : (ti == ti) = true := by simp
 clear hr hr2
 go_enter Tryz.func17, Tryz.ntmps17
 go_upto_region 1 with fail
 have I0 : Hid (Below w.heap.size w ((w.alloc (.cells #[enS ti, i64 vo, i64 ie, i64 da, .slice A its.length c] 24)).alloc (.cells #[enS ti, i64 vo, i64 ie, i64 da, .slice A2 its.length c2] 24)) ∧ ((w.alloc (.cells #[enS ti, i64 vo, i64 ie, i64 da, .slice A its.length c] 24)).alloc (.cells #[enS ti, i64 vo, i64 ie, i64 da, .slice A2 its.length c2] 24)).heap[w.heap.size]? = some (.cells #[enS ti, i64 vo, i64 ie, i64 da, .slice A its.length c] 24 (0, 0)) ∧
   ((w.alloc (.cells #[enS ti, i64 vo, i64 ie, i64 da, .slice A its.length c] 24)).alloc (.cells #[enS ti, i64 vo, i64 ie, i64 da, .slice A2 its.length c2] 24)).heap[w.heap.size + 1]? = some (.cells #[enS ti, i64 vo, i64 ie, i64 da, .slice A2 its.length c2] 24 (0, 0))) := Lib.hid ⟨(below_new _ _).tr (below_new _ _), blk_old _ (blk_new w _), by
  have h := blk_new (w.alloc (.cells #[enS ti, i64 vo, i64 ie, i64 da, .slice A its.length c] 24)) (.cells #[enS ti, i64 vo, i64 ie, i64 da, .slice A2 its.length c2] 24)
  rw [World.size_alloc] at h
  exact h⟩
 generalize (w.alloc (.cells #[enS ti, i64 vo, i64 ie, i64 da, .slice A its.length c] 24)).alloc (.cells #[enS ti, i64 vo, i64 ie, i64 da, .slice A2 its.length c2] 24) = w1 at *
 have a0 := blk_cell I0.out.2.1 0
 have a1 := blk_cell I0.out.2.1 1
 have a2 := blk_cell I0.out.2.1 2
 have a3 := blk_cell I0.out.2.1 3
 have a4 := blk_cell I0.out.2.1 4
 have b0 := blk_cell I0.out.2.2 0
 have b1 := blk_cell I0.out.2.2 1
 have b2 := blk_cell I0.out.2.2 2
 have b3 := blk_cell I0.out.2.2 3
 have b4 := blk_cell I0.out.2.2 4
 go_wp2_with fail
 clear a0 a1 a2 a3 b0 b1 b2 b3
 go_loopg [5] its.length (fun gg kv wr => ∃ k : Nat, k ≤ its.length ∧ its.length - k ≤ gg ∧ kv = i64 k ∧ Hid (Below w.heap.size w wr ∧ wr.heap[w.heap.size]? = some (.cells #[enS ti, i64 vo, i64 ie, i64 da, .slice A its.length c] 24 (0, 0)) ∧ wr.heap[w.heap.size + 1]? = some (.cells #[enS ti, i64 vo, i64 ie, i64 da, .slice A2 its.length c2] 24 (0, 0))))
 case atStart => exact ⟨0, Nat.zero_le _, by omega, rfl, I0⟩
 case round =>
  obtain ⟨k, hk, hgg, rfl, IW⟩ := hrel
  clear I0 a4 b4
  have c4 := blk_cell IW.out.2.1 4
  by_cases hlt : k < its.length
  ·obtain ⟨b, o, x, rfl, hbl, hx, hrg, h32⟩ := HR.out.at_ hlt
   obtain ⟨b', o', x', rfl, hbl', hx', hrg', _⟩ := HR2.out.at_ hlt
   obtain rfl : x = x' := Option.some.inj (hx.symm.trans hx')
   have HRG := Lib.hid hrg
   have HRG2 := Lib.hid hrg'
   clear hrg hrg' hx hx'
   go_upto_region 6 with fail
   have bd := (Below.refl wr.heap.size wr).drew
   refine Flow.wp_region_segs Flow.Later Flow.Later.refl Flow.Later.trans [] [0, 1, 2, 3, 5, 6, 7, 8, 4, 9, 10] (by kernel_rfl) (by kernel_rfl) ?_
   have I5 := Lib.hid (And.intro (IW.out.1.tr bd) (And.intro (blk_below bd IW.out.2.1) (blk_below bd IW.out.2.2)))
   clear bd IW c4
   generalize World.drew _ = wd at *
   have qa : ∀ t : Flow.Cls (Flow.Later wd), t.val.cell? ⟨w.heap.size, 4, none⟩ = some (.slice (some ⟨b, o, none⟩) its.length c) := fun t => Flow.cls_cell (blk_cell I5.out.2.1 4) t
   have qb : ∀ t : Flow.Cls (Flow.Later wd), t.val.cell? ⟨w.heap.size + 1, 4, none⟩ = some (.slice (some ⟨b', o', none⟩) its.length c2) := fun t => Flow.cls_cell (blk_cell I5.out.2.2 4) t
   have qR : ∀ t : Flow.Cls (Flow.Later wd), t.val.rangeAt b (o + k * 36) (itL x) := fun t j v hj => by
    rw [World.cell?_of_block ((I5.out.1.tr t.ok).block b hbl)]
    exact HRG.out j v hj
   have qR2 : ∀ t : Flow.Cls (Flow.Later wd), t.val.rangeAt b' (o' + k * 36) (itL x) := fun t j v hj => by
    rw [World.cell?_of_block ((I5.out.1.tr t.ok).block b' hbl')]
    exact HRG2.out j v hj
   haveI nonE := Flow.cls_nonempty wd
   rw [Flow.wpSegs_nil]
   simp only [Flow.pick, List.getElem?_toArray, List.getElem?_cons_succ, List.getElem?_cons_zero]
   iterate 8 go_big_quiet_step (fail)
   refine BigFrame.wpQuiet_want rfl (fun K hK => quiet_load_mid 53 _ rfl b (o + k * 36) rfl (itL x) _ (fun _ he => by obtain ⟨t, rfl⟩ := he; exact qR t) Tryz.underlying53 rfl (by rw [itL_length]; exact HSZ.out) (hK _ ?_))
   clear hK K
   simp only [Act.put, List.setIfInBounds_toArray, List.set_cons_succ, List.set_cons_zero]
   refine BigFrame.wpQuiet_want rfl (fun K hK => quiet_load_mid 53 _ rfl b' (o' + k * 36) rfl (itL x) _ (fun _ he => by obtain ⟨t, rfl⟩ := he; exact qR2 t) Tryz.underlying53 rfl (by rw [itL_length]; exact HSZ.out) (hK _ ?_))
   clear hK K
   simp only [Act.put, List.setIfInBounds_toArray, List.set_cons_succ, List.set_cons_zero]
   refine BigFrame.wpQuiet_want rfl (fun K hK => quiet_neq_ref _ _ _ rfl x h32 rfl rfl (hK _ ?_))
   clear hK K
   simp only [Act.put, List.setIfInBounds_toArray, List.set_cons_succ, List.set_cons_zero]
   refine wpQuiet_nil ?_
   clear nonE qa qb qR qR2
   go_wp2_with fail
   go_roundg (its.length - (k + 1))
   case measure => omega
   case rel => exact ⟨k + 1, by omega, by omega, by simp, I5⟩
  ·obtain rfl : k = its.length := by omega
   have B9 := Lib.hid IW.out.1
   go_wp2_with fail
   go_ret
   exact ⟨rfl, B9.out⟩
end Go.Proofs.YtlchcjnbbhpiaaaGreatDoor
