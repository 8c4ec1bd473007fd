/- Contract: the reference's Divide. -/
import Derived.Test.YtlchcjnbbhpiaaaGreatDoorDzE
import Derived.Test.YtlchcjnbbhpiaaaGreatDoorYae
import Derived.Test.YtlchcjnbbhpiaaaGreatDoorYac
namespace Go.Dg
/-- Where the reference's parts stand: i items are taken, l parts are done, y is the part under way. -/
structure DrK (d : Dg) (m bs i n : Nat) (ps : List Dg) (y : Dg) : Prop where
 eq : refL d m bs d.its [] 0 [] = refL d m bs (d.its.drop i) ps n y.its
 pt : y = part d n y.its
 sub : ∀ x ∈ y.its, x ∈ d.its
 num : n + y.its.length ≤ i
theorem DrK.zero (d : Dg) (m bs : Nat) : DrK d m bs 0 0 [] (part d 0 []) := ⟨rfl, rfl, fun x hx => (by cases hx), Nat.le_refl _⟩
/-- Behind the choice: the part y is to be looked at. -/
structure DrC (d : Dg) (m bs i n : Nat) (ps : List Dg) (y : Dg) : Prop where
 eq : refL d m bs d.its [] 0 [] = if bs < szD y then none else refL d m bs (d.its.drop (i + 1)) ps n y.its
 pt : y = part d n y.its
 sub : ∀ x ∈ y.its, x ∈ d.its
 num : n + y.its.length ≤ i + 1
theorem DrK.stop {d : Dg} {m bs i n : Nat} {ps : List Dg} {y : Dg} {x : It} (h : DrK d m bs i n ps y) (hx : d.its[i]? = some x) (hc : y.its ≠ [] ∧ (m < (y.its ++ [x]).length ∨ bs < szD (part d n (y.its ++ [x])))) : DrC d m bs i (n + 1) (ps ++ [y]) (part d (n + 1) [x]) := by
 obtain ⟨hk, e⟩ := List.getElem?_eq_some_iff.1 hx
 have hl : 1 ≤ y.its.length := List.length_pos_iff.2 hc.1
 refine ⟨?_, rfl, fun z hz => by rw [List.mem_singleton.1 hz]; exact List.mem_of_getElem? hx, by have := h.num; (show n + 1 + 1 ≤ _); omega⟩
 rw [h.eq, List.drop_eq_getElem_cons hk, e, refL, if_pos hc, ← h.pt]
 rfl
theorem DrK.go {d : Dg} {m bs i n : Nat} {ps : List Dg} {y : Dg} {x : It} (h : DrK d m bs i n ps y) (hx : d.its[i]? = some x) (hc : ¬ (y.its ≠ [] ∧ (m < (y.its ++ [x]).length ∨ bs < szD (part d n (y.its ++ [x]))))) : DrC d m bs i n ps (part d n (y.its ++ [x])) := by
 obtain ⟨hk, e⟩ := List.getElem?_eq_some_iff.1 hx
 refine ⟨?_, rfl, fun z hz => ?_, by have := h.num; (show n + (y.its ++ [x]).length ≤ _); rw [List.length_append, List.length_singleton]; omega⟩
 ·rw [h.eq, List.drop_eq_getElem_cons hk, e, refL, if_neg hc]
  rfl
 ·rcases List.mem_append.1 hz with hz | hz
  ·exact h.sub z hz
  ·rw [List.mem_singleton.1 hz]; exact List.mem_of_getElem? hx
theorem DrC.long {d : Dg} {m bs i n : Nat} {ps : List Dg} {y : Dg} (h : DrC d m bs i n ps y) (hs : bs < szD y) : refL d m bs d.its [] 0 [] = none := by rw [h.eq, if_pos hs]
theorem DrC.next {d : Dg} {m bs i n : Nat} {ps : List Dg} {y : Dg} (h : DrC d m bs i n ps y) (hs : ¬ bs < szD y) : DrK d m bs (i + 1) n ps y := ⟨by rw [h.eq, if_neg hs], h.pt, h.sub, h.num⟩
theorem DrK.end {d : Dg} {m bs n : Nat} {ps : List Dg} {y : Dg} (h : DrK d m bs d.its.length n ps y) : refL d m bs d.its [] 0 [] = some (ps ++ [y]) := by
 rw [h.eq, List.drop_length, refL, ← h.pt]
end Go.Dg
namespace Go.Proofs.YtlchcjnbbhpiaaaGreatDoor
open Go.RowKit Go.Shelf Go.Dg Go.Maps
theorem dr_info : (Tryz.prog.info? 24).map (fun i => (i.zero, i.size, i.bytes)) = some (some (.agg #[enS [], i64 0, i64 0, i64 0, .slice none 0 0]), 5, 64) := by kernel_rfl
section
variable {ops : Array Oper} {rest : List Oper} {o : Oper} {a : Act} {w : World} {Q : Exit → Act → World → Prop}
set_option maxRecDepth 100000 in
theorem wpList_one_dr (hg : o.guard = none) (X : Operand) (ho : o.op = .buildSlice 82 1 #[(0, X)]) (x : DgX) (hx : a.eval X = .agg (dgxL x).toArray)
  (h : wpList Tryz.prog ops Q rest (a.put o.dst (.slice (some ⟨w.heap.size, 0, none⟩) 1 1)) (w.alloc (.cells (dgxL x).toArray 24))) : wpList Tryz.prog ops Q (o :: rest) a w := by
 obtain ⟨i0, hi, hz0, hz1, hz2⟩ := info_parts dr_info
 refine wpList_buildSlice hg _ _ 1 _ ho (dgxL x).toArray i0 _ Tryz.underlying82 hi hz0 (by rw [hz1]; omega) (by rw [hz1]; omega) ?_ h
 rw [hz1]
 have h2 := Great.fill_whole (s := 5) (by decide) [Value.agg (dgxL x).toArray] ((Array.range (1 * 5)).map ((Value.agg #[enS [], i64 0, i64 0, i64 0, .slice none 0 0]).cells[· % (Value.agg #[enS [], i64 0, i64 0, i64 0, .slice none 0 0]).cells.size]!)) (fun v hv => by
  obtain rfl := List.mem_singleton.1 hv
  rfl) (by simp)
 have e1 : ((#[(0, X)] : Array (Nat × Operand)).map fun (i, y) => (i, a.eval y)).toList = [(0, Value.agg (dgxL x).toArray)] := by
  simp [hx]
 rw [e1]
 refine Eq.trans h2 ?_
 show some (List.flatMap (fun v : Value => v.cells.toList) [Value.agg (dgxL x).toArray]).toArray = _
 rw [List.flatMap_cons, List.flatMap_nil, List.append_nil]
 show some (dgxL x).toArray.toList.toArray = _
 rfl
theorem wpList_app_dr (hgd : o.guard = none) (s x : Operand) (ho : o.op = .call { callee := .builtin .append, args := #[s, x], argTypes := #[82, 82] })
  (v : Value) (l : List DgX) (hs : a.eval s = v) (base : Nat) (hown : w.ownsRow base 24 5 v l.length (l.flatMap dgxL)) (b : Nat) (y : DgX) (hx : a.eval x = .slice (some ⟨b, 0, none⟩) 1 1) (hr : w.rangeAt b 0 (dgxL y)) (hlen : l.length ≤ 1000000) (hb0 : base ≤ w.heap.size)
  (h : ∀ v' w', w'.ownsRow base 24 5 v' (l.length + 1) (l.flatMap dgxL ++ dgxL y) → w.grownBy w' v.ownBlock → (v'.ownBlock = v.ownBlock ∨ ∃ g, v'.ownBlock = some g ∧ w.heap.size ≤ g) → wpList Tryz.prog ops Q rest (a.put o.dst v') w') : wpList Tryz.prog ops Q (o :: rest) a w := by
 obtain ⟨i0, hi, hz0, hz1, hz2⟩ := info_parts dr_info
 refine wpList_append_far w hgd s x 82 ho 24 i0 _ 5 64 Tryz.underlying82 hi hz0 hz1 hz2 rfl (by decide) v l.length _ hs (own_base hown (Nat.zero_le _)) ⟨b, 0, none⟩ 1 1 (dgxL y) hx (by rw [dgxL_length]) (fun j u hu => ?_) (one_dgxL y) (by unfold maxLen; omega) (by omega) (fun v' w' o' g' f' => h v' w' ?_ g' f')
 ·rw [addr_addN]
  exact hr j u hu
 ·refine ⟨o'.1, ?_⟩
  rcases o'.2 with e | ⟨g, cap, cur, e1, _, e3⟩
  ·exact .inl e
  ·refine .inr ⟨g, cap, cur, e1, ?_, e3⟩
   rcases f' with f' | ⟨g2, f2, f3⟩
   ·rcases hown.2 with ⟨e, _⟩ | ⟨g3, cap3, cur3, e4, e5, _⟩
    ·rw [e1, e] at f'; cases f'
    ·rw [e1, e4] at f'; have h9 : g = g3 := Option.some.inj f'; omega
   ·rw [e1] at f2; have h9 : g = g2 := Option.some.inj f2; omega
end
theorem own_ty {w : World} {base e size n : Nat} {v : Value} {xs : List Value} (h : w.ownsRow base e size v n xs) {g : Nat} (hg : v.ownBlock = some g) : ∃ cur, w.heap[g]? = some (.cells cur e (0, 0)) := by
 rcases h.2 with ⟨e1, _⟩ | ⟨g', cap, cur, e1, _, h2, _⟩
 ·rw [e1] at hg; cases hg
 ·rw [e1] at hg; cases hg; exact ⟨_, h2⟩
/-- The items of a digest lie in a row of their type. -/
structure OkY (w : World) (x : DgX) : Prop where
 ok : OkX w x
 ty : TyR w x.2.1 53
theorem OkY.below {w w' : World} {x : DgX} (h : OkY w x) (hb : Below w.heap.size w w') : OkY w' x := ⟨h.ok.below hb, h.ty.below hb⟩
/-- A change to a block that holds no items. -/
theorem OkY.keep {w w' : World} {x : DgX} (h : OkY w x) (hs : w.heap.size ≤ w'.heap.size) (hk : ∀ (b : Nat) (cur : Array Value), w.heap[b]? = some (Obj.cells cur 53 (0, 0)) → w'.heap[b]? = w.heap[b]?) : OkY w' x :=
 ⟨⟨⟨fun hp => by
  obtain ⟨b, o, e, hlt, hc⟩ := h.ok.rd.rd hp
  obtain ⟨cur, e2⟩ := h.ty _ e
  have e3 := hk b cur e2
  exact ⟨b, o, e, Nat.lt_of_lt_of_le hlt hs, fun j x hj i u hu => by rw [World.cell?_of_block e3]; exact hc j x hj i u hu⟩, h.ok.rd.ky⟩, h.ok.cap⟩, fun p hp => by
  obtain ⟨cur, e2⟩ := h.ty p hp
  exact ⟨cur, (hk _ cur e2).trans e2⟩⟩
/-- Where the reference's Divide stands: the parts that are done, the block of the part under way. -/
structure DrS (w1 W : World) (v : Value) (l : List DgX) (y : DgX) : Prop where
 bel : Below w1.heap.size w1 W
 ow : W.ownsRow (w1.heap.size + 1) 24 5 v l.length (l.flatMap dgxL)
 blk : W.heap[w1.heap.size]? = some (.cells (dgxL y).toArray 24 (0, 0))
 okl : ∀ x ∈ l, OkY W x
 oky : OkY W y
section
variable {w1 W W' : World} {v v' : Value} {l : List DgX} {y y' : DgX}
theorem DrS.below (h : DrS w1 W v l y) (hb : Below W.heap.size W W') : DrS w1 W' v l y := ⟨h.bel.tr hb, own_below h.ow hb, blk_below hb h.blk, fun x hx => (h.okl x hx).below hb, h.oky.below hb⟩
theorem DrS.set (h : DrS w1 W v l y) (hy : OkY W y') : DrS w1 (W.setCells w1.heap.size 0 (dgxL y')) v l y' := by
 have hk : But w1.heap.size W (W.setCells w1.heap.size 0 (dgxL y')) := but_setCells _ _ _
 have hk2 : ∀ (b : Nat) (cur : Array Value), W.heap[b]? = some (Obj.cells cur 53 (0, 0)) → (W.setCells w1.heap.size 0 (dgxL y')).heap[b]? = W.heap[b]? := fun b cur e => hk.block b (blk_lt e) (fun e2 => by
  subst e2
  have e3 := e.symm.trans h.blk
  injection e3 with e3; injection e3 with _ e4; exact absurd e4 (by decide))
 exact ⟨h.bel.trans (but_lowJ hk (Nat.le_refl _) h.bel.size), own_but h.ow (Nat.lt_succ_self _) hk, dg_storeT h.blk _ _ _ _ _, fun x hx => (h.okl x hx).keep hk.size hk2, hy.keep hk.size hk2⟩
theorem DrS.app (h : DrS w1 W v l y) (ho : W'.ownsRow (w1.heap.size + 1) 24 5 v' (l.length + 1) (l.flatMap dgxL ++ dgxL y)) (hg : W.grownBy W' v.ownBlock) : DrS w1 W' v' (l ++ [y]) y := by
 have hs := h.bel.size
 have hlt := blk_lt h.blk
 have hne : v.ownBlock ≠ some w1.heap.size := fun e => by have := (h.ow.lt _ e).1; omega
 have hk2 : ∀ (b : Nat) (cur : Array Value), W.heap[b]? = some (Obj.cells cur 53 (0, 0)) → W'.heap[b]? = W.heap[b]? := fun b cur e => hg.block b (blk_lt e) (fun e2 => by
  obtain ⟨cur2, e3⟩ := own_ty h.ow e2.symm
  rw [e] at e3
  injection e3 with e3; injection e3 with _ e4; exact absurd e4 (by decide))
 refine ⟨h.bel.trans ((Below.refl w1.heap.size W).grown hg hs fun k hk => by have := (h.ow.lt k hk).1; omega), ?_, (hg.block _ hlt (fun e => hne e.symm)).trans h.blk, fun x hx => ?_, h.oky.keep hg.size hk2⟩
 ·rw [List.length_append, List.flatMap_append, List.flatMap_cons, List.flatMap_nil, List.append_nil]; exact ho
 ·rcases List.mem_append.1 hx with hx | hx
  ·exact (h.okl x hx).keep hg.size hk2
  ·rw [List.mem_singleton.1 hx]; exact h.oky.keep hg.size hk2
/-- A change to a block of digests that is neither the parts' row nor the part under way. -/
theorem DrS.other (h : DrS w1 W v l y) {mb : Nat} (hk : But mb W W') (h1 : w1.heap.size < mb) (h2 : v.ownBlock ≠ some mb) {cur : Array Value} (hm : W.heap[mb]? = some (Obj.cells cur 24 (0, 0))) : DrS w1 W' v l y := by
 have hk2 : ∀ (b : Nat) (cur : Array Value), W.heap[b]? = some (Obj.cells cur 53 (0, 0)) → W'.heap[b]? = W.heap[b]? := fun b cur e => hk.block b (blk_lt e) (fun e2 => by
  subst e2
  have e3 := e.symm.trans hm
  injection e3 with e3; injection e3 with _ e4; exact absurd e4 (by decide))
 exact ⟨h.bel.trans (but_lowJ hk (Nat.le_of_lt h1) h.bel.size), own_keep h.ow fun k hk3 e2 => hk.block k hk3 (fun e3 => h2 (by rw [← e3]; exact e2)), (hk.block _ (blk_lt h.blk) (by omega)).trans h.blk, fun x hx => (h.okl x hx).keep hk.size hk2, h.oky.keep hk.size hk2⟩
end
theorem OkY.one {w : World} {b : Nat} {x : It} {dg : Dg} (h : w.heap[b]? = some (Obj.cells (itL x).toArray 53 (0, 0))) (h32 : x.ky.length = 32) (hd : dg.its = [x]) : OkY w (dg, some ⟨b, 0, none⟩, 1) :=
 ⟨⟨⟨fun _ => ⟨b, 0, rfl, blk_lt h, fun j y hj i u hu => by
  have hd2 : (dg, (some ⟨b, 0, none⟩ : Option Addr), 1).1.its = [x] := hd
  rw [hd2] at hj
  cases j with
  | zero =>
   obtain rfl : x = y := by simpa using hj
   rw [Nat.zero_mul, Nat.add_zero]
   exact range_blk h i u hu
  | succ j => simp at hj⟩, fun y hy => by
  have hd2 : (dg, (some ⟨b, 0, none⟩ : Option Addr), 1).1.its = [x] := hd
  rw [hd2] at hy
  rw [List.mem_singleton.1 hy]; exact h32⟩, by
  (show dg.its.length ≤ 1)
  rw [hd]; exact Nat.le_refl _⟩, fun p hp => by
  have hp2 : some (⟨b, 0, none⟩ : Addr) = some p := hp
  cases hp2
  exact ⟨_, h⟩⟩
/-- A part of a digest that passes its check can be written by the reference. -/
theorem partR_ok {w : World} {d : Dg} {A : Option Addr} {c : Nat} (h : RfIn w d A c) (h0 : chkD d = 0) {k : Nat} (hk : k ≤ 1000) {l : List It} (hl : l.length ≤ 200) (hm : ∀ x ∈ l, x ∈ d.its) : TxOk (Go.Dg.part d k l) := by
 have q := h.ok h0
 obtain ⟨q1, q2, q3, -⟩ := chkD_zero h0
 unfold titleB at q1
 unfold ordB at q2 q3
 simp only [Bool.and_eq_true, decide_eq_true_eq] at q1 q2 q3
 exact ⟨hl, q.ti, q.vo, by (show 0 ≤ d.ie + (k : Int) ∧ d.ie + (k : Int) ≤ _); omega, q.da, fun x hx => q.it x (hm x hx)⟩
set_option maxRecDepth 100000 in
set_option maxHeartbeats 32000000 in
theorem divR_any (d : Dg) (A : Option Addr) (c : Nat) (items bytes : Int) (w : World) (h : RfIn w d A c) :
  Calls Tryz.prog 41 #[dgA d A c, i64 items, i64 bytes] w fun e w' => (∃ (A' : Option Addr) (c' : Nat) (l : List DgX), e = .returned (.tuple #[.slice A' l.length c', i64 (divF d items bytes).2]) ∧ l.map (·.1) = (divF d items bytes).1 ∧ RdG w' A' l ∧ l.length ≤ c') ∧ Below w.heap.size w w' := by
 have HFB := Lib.hid (fun (z : Int) (e : chkD d = z) (h : z ≠ 0) => divF_bad (items := items) (bytes := bytes) e h)
 have HFR := Lib.hid (fun (h : chkD d = 0) hr => divF_rng (items := items) (bytes := bytes) h hr)
 have HFD := Lib.hid (fun (h : chkD d = 0) hr => divF_div (items := items) (bytes := bytes) h hr)
 obtain ⟨F, hF⟩ : ∃ q, divF d items bytes = q := ⟨_, rfl⟩
 rw [hF] at HFB HFR HFD ⊢
 clear hF
 have H := Lib.hid h
 have B1 := Lib.hid (below_new w (.cells #[enS d.ti, i64 d.vo, i64 d.ie, i64 d.da, .slice A d.its.length c] 24))
 have D1 := Lib.hid (blk_new w (.cells #[enS d.ti, i64 d.vo, i64 d.ie, i64 d.da, .slice A d.its.length c] 24))
 have HSZ := Lib.hid refit_size
 obtain ⟨i0, hi, hz0, hz1, hz2⟩ := info_parts ref_info
 have HI := Lib.hid (And.intro hi (And.intro hz0 (And.intro hz1 hz2)))
 clear h hi hz0 hz1 hz2
 go_enter Tryz.func41, Tryz.ntmps41
 go_upto_region 1 with fail
 generalize w.alloc (.cells #[enS d.ti, i64 d.vo, i64 d.ie, i64 d.da, .slice A d.its.length c] 24) = w0 at *
 have RD := Lib.hid (range_blk (cs := [enS d.ti, i64 d.vo, i64 d.ie, i64 d.da, .slice A d.its.length c]) D1.out)
 go_wp2_with (refine wpList_load_mid rfl 24 _ rfl w.heap.size 0 rfl [enS d.ti, i64 d.vo, i64 d.ie, i64 d.da, .slice A d.its.length c] _ RD.out Tryz.underlying24 rfl (by kernel_rfl) ?_)
 refine ((H.out.below B1.out).check).mono ?_; rintro e w1 ⟨rfl, b2⟩
 have B2 := Lib.hid (B1.out.tr b2)
 have D2 := Lib.hid (blk_below b2 D1.out)
 clear b2 RD B1 D1
 obtain ⟨ec, hec⟩ : ∃ z, chkD d = z := ⟨_, rfl⟩
 rw [hec]
 have HEC := Lib.hid hec
 clear hec
 by_cases he : ec = 0
 case neg =>
  have HVE := Lib.hid (HFB.out ec HEC.out he)
  have hq : (ec != 0) = true := by simpa using he
  clear he
  go_wp2_with fail
  go_ret2
  exact ⟨⟨none, 0, [], by rw [HVE.out]; rfl, by rw [HVE.out]; rfl, RdG.nil, Nat.le_refl _⟩, B2.out⟩
 subst he
 have W1 := Lib.hid (within_ref items 1 200)
 have W2 := Lib.hid (within_ref bytes 1 1048576)
 go_wp2_with fail
 refine (W1.out _).mono ?_; rintro e w2 ⟨rfl, rfl⟩
 by_cases r1 : 1 ≤ items ∧ items ≤ 200
 case neg =>
  have HVE := Lib.hid (HFR.out HEC.out (.inl (by omega)))
  have hq : (decide (1 ≤ items) && decide (items ≤ 200)) = false := by
   rw [Bool.and_eq_false_iff, decide_eq_false_iff_not, decide_eq_false_iff_not]; omega
  rw [hq]
  clear r1 hq
  go_wp2_with fail
  go_ret2
  exact ⟨⟨none, 0, [], by rw [HVE.out]; rfl, by rw [HVE.out]; rfl, RdG.nil, Nat.le_refl _⟩, B2.out⟩
 have hq : (decide (1 ≤ items) && decide (items ≤ 200)) = true := by
  rw [Bool.and_eq_true, decide_eq_true_eq, decide_eq_true_eq]; exact r1
 rw [hq]
 clear hq
 have R1 := Lib.hid r1
 clear r1
 go_wp2_with fail
 refine (W2.out _).mono ?_; rintro e w3 ⟨rfl, rfl⟩
 by_cases r2 : 1 ≤ bytes ∧ bytes ≤ 1048576
 case neg =>
  have HVE := Lib.hid (HFR.out HEC.out (.inr (by omega)))
  have hq : (decide (1 ≤ bytes) && decide (bytes ≤ 1048576)) = false := by
   rw [Bool.and_eq_false_iff, decide_eq_false_iff_not, decide_eq_false_iff_not]; omega
  rw [hq]
  clear r2 hq
  go_wp2_with fail
  go_ret2
  exact ⟨⟨none, 0, [], by rw [HVE.out]; rfl, by rw [HVE.out]; rfl, RdG.nil, Nat.le_refl _⟩, B2.out⟩
 have hq : (decide (1 ≤ bytes) && decide (bytes ≤ 1048576)) = true := by
  rw [Bool.and_eq_true, decide_eq_true_eq, decide_eq_true_eq]; exact r2
 rw [hq]
 clear hq
 have r1 := R1.out
 have HV := Lib.hid (HFD.out HEC.out (by omega))
 obtain ⟨m, rfl⟩ : ∃ m : Nat, items = m := ⟨items.toNat, by omega⟩
 obtain ⟨bs, rfl⟩ : ∃ m : Nat, bytes = m := ⟨bytes.toNat, by omega⟩
 rw [Int.toNat_natCast, Int.toNat_natCast] at HV
 have HM := Lib.hid (show 1 ≤ m ∧ m ≤ 200 by omega)
 have HN := Lib.hid (chkD_zero HEC.out)
 rw [← refL_all HM.out.1 HN.out.2.2.2.2.1] at HV
 clear HFB HFR HFD r1 r2 R1 W1 W2
 have e0 := blk_cell D2.out 0
 have e1 := blk_cell D2.out 1
 have e2 := blk_cell D2.out 2
 have e3 := blk_cell D2.out 3
 go_upto_region 8 with fail
 generalize hw2 : World.alloc w1 _ = w2
 have S0 : Hid (DrS w1 w2 (.slice none 0 0) [] (Go.Dg.part d 0 [], none, 0)) := Lib.hid ⟨hw2 ▸ below_new _ _, own2_nil _ _ _ _, by
  rw [← hw2]
  have h := blk_new w1 (.cells #[enS d.ti, i64 d.vo, i64 d.ie, i64 d.da, .slice none 0 0] 24)
  (show _ = some (Obj.cells #[enS d.ti, i64 d.vo, i64 (d.ie + ((0 : Nat) : Int)), i64 d.da, .slice none 0 0] 24 (0, 0)))
  rw [show d.ie + ((0 : Nat) : Int) = d.ie by simp]
  exact h, by simp, ⟨⟨RdI.nil, Nat.le_refl _⟩, TyR.none⟩⟩
 clear hw2 e0 e1 e2 e3
 have K0 := Lib.hid (DrK.zero d m bs)
 have HIN : Hid (∀ W, Below w1.heap.size w1 W → RfIn W d A c) := Lib.hid fun W hb => H.out.below (B2.out.tr hb)
 have HSRC : Hid (∀ W, Below w1.heap.size w1 W → W.heap[w.heap.size]? = some (.cells #[enS d.ti, i64 d.vo, i64 d.ie, i64 d.da, .slice A d.its.length c] 24 (0, 0))) := Lib.hid fun W hb => blk_below hb D2.out
 have HDB := Lib.hid (blk_lt D2.out)
 have HIE : Hid (1 ≤ d.ie ∧ d.ie ≤ 1000000 ∧ d.its.length ≤ 200) := Lib.hid (by
  have h1 := HN.out.2.2.1
  have h2 := HN.out.2.2.2.2.2.1
  unfold ordB at h1
  simp only [Bool.and_eq_true, decide_eq_true_eq] at h1
  (show _ ∧ _)
  omega)
 have hl0 : decide ((1000000 : Int) < d.ie + (0 : Nat)) = false := by have := HIE.out; rw [decide_eq_false_iff_not]; omega
 have HL0 := Lib.hid hl0
 clear hl0 D2 H
 go_upto_block 0 with fail
 go_cut [9, 11] (fun v lv wx => ∃ (l : List DgX) (y : DgX), lv = .bool (decide ((1000000 : Int) < d.ie + l.length)) ∧ Hid (DrS w1 wx v l y) ∧ Hid (DrK d m bs d.its.length l.length (l.map (·.1)) y.1))
 case first =>
  go_wp2_with fail
  go_loopg [9, 11, 12] d.its.length (fun gg v lv iv wr => ∃ (i : Nat) (l : List DgX) (y : DgX), i ≤ d.its.length ∧ d.its.length - i ≤ gg ∧ iv = i64 i ∧ lv = .bool (decide ((1000000 : Int) < d.ie + l.length)) ∧ Hid (DrS w1 wr v l y) ∧ Hid (DrK d m bs i l.length (l.map (·.1)) y.1))
  case atStart => exact ⟨0, [], _, Nat.zero_le _, by omega, rfl, by (show _ = Value.bool (decide ((1000000 : Int) < d.ie + (0 : Nat)))); rw [HL0.out], S0, K0⟩
  case round =>
   obtain ⟨i, l, y, hi, hgg, rfl, rfl, SW, KW⟩ := hrel
   clear S0 K0
   obtain ⟨A3, c3, rfl⟩ := own2_slice SW.out.ow
   have src4 := blk_cell (HSRC.out _ SW.out.bel) 4
   by_cases hlt : i < d.its.length
   case neg =>
    obtain rfl : i = d.its.length := by omega
    go_wp2_with fail
    go_meet
    exact ⟨l, y, rfl, SW, KW⟩
   obtain ⟨b, o, x, rfl, hbl, hx, hrg, h32⟩ := ((HIN.out w1 (Below.refl _ _)).rd).at_ hlt
   have HQR0 : Hid (∀ W, Below w1.heap.size w1 W → W.rangeAt b (o + i * 36) (itL x)) := Lib.hid fun W hb => range_below hrg hb
   have HX := Lib.hid hx
   have H32 := Lib.hid h32
   clear hrg hx h32 hbl
   obtain ⟨yd, A', c'⟩ := y
   have hyp : yd = Go.Dg.part d l.length yd.its := KW.out.pt
   obtain ⟨cur, hcur⟩ : ∃ q, yd.its = q := ⟨_, rfl⟩
   rw [hcur] at hyp
   subst hyp
   clear hcur
   have hcl : cur.length ≤ 1000000 := by have := KW.out.num; have := HIE.out; have h2 : l.length + cur.length ≤ i := KW.out.num; omega
   have RY := Lib.hid (range_blk (cs := [enS d.ti, i64 d.vo, i64 (d.ie + l.length), i64 d.da, .slice A' cur.length c']) SW.out.blk)
   go_upto_region 13 with (refine wpList_load_mid rfl 24 _ rfl w1.heap.size 0 rfl [enS d.ti, i64 d.vo, i64 (d.ie + l.length), i64 d.da, .slice A' cur.length c'] _ RY.out Tryz.underlying24 rfl (by kernel_rfl) ?_)
   generalize hwm : World.alloc wr _ = wm
   obtain ⟨mb, hmb⟩ : ∃ q, wr.heap.size = q := ⟨_, rfl⟩
   have MB : Hid (wm.heap[mb]? = some (.cells #[enS d.ti, i64 d.vo, i64 (d.ie + l.length), i64 d.da, .slice A' cur.length c'] 24 (0, 0))) := Lib.hid (by (show _ = _); rw [← hmb, ← hwm]; exact blk_new wr _)
   have BWM : Hid (Below mb wr wm) := Lib.hid (by (show Below _ _ _); rw [← hmb, ← hwm]; exact below_new _ _)
   have HMB := Lib.hid hmb
   rw [hmb]
   have HCW : Hid (∀ u, Below mb wr u → RdC u A' (cur.flatMap itL)) := Lib.hid fun u hb => (SW.out.oky.ok.rd.below (w' := u) (by rw [HMB.out]; exact hb)).cells
   have HQ1 : Hid (∀ u, Below mb wr u → u.cell? ⟨w1.heap.size, 4, none⟩ = some (.slice A' cur.length c')) := Lib.hid fun u hb => blk_cell (blk_below (w' := u) (by rw [HMB.out]; exact hb) SW.out.blk) 4
   have HQ2 : Hid (∀ u, Below mb wr u → u.cell? ⟨w.heap.size, 4, none⟩ = some (.slice (some ⟨b, o, none⟩) d.its.length c)) := Lib.hid fun u hb => blk_cell (blk_below (w' := u) (by rw [HMB.out]; exact hb) (HSRC.out _ SW.out.bel)) 4
   have HQR : Hid (∀ u, Below mb wr u → u.rangeAt b (o + i * 36) (itL x)) := Lib.hid fun u hb => HQR0.out u (SW.out.bel.tr (by rw [HMB.out]; exact hb))
   clear hwm hmb src4 RY
   go_cut [] (fun wx => ∃ A6 c6, Hid (wx.heap[mb]? = some (.cells #[enS d.ti, i64 d.vo, i64 (d.ie + l.length), i64 d.da, .slice A6 (cur.length + 1) c6] 24 (0, 0))) ∧ Hid (Below mb wr wx) ∧ Hid (wx.ownsRow (mb + 1) 53 36 (.slice A6 (cur.length + 1) c6) (cur.length + 1) (cur.flatMap itL ++ itL x)))
   case first =>
    have bd := (Below.refl wm.heap.size wm).drew
    have HDM := Lib.hid (show wm.drew.heap.size = wm.heap.size from rfl)
    have HML := Lib.hid (blk_lt MB.out)
    have hbm := BWM.out.size
    obtain ⟨M, hM⟩ : ∃ q, wm.heap.size = q := ⟨_, rfl⟩
    rw [hM] at HDM HML
    refine Flow.wp_region_preF (Below M) (fun _ => Below.refl _ _) (fun _ _ _ h k => h.trans k) [12] (.held [1, 2, 4, 5, 6, 7, 8] (.fork 0 9 (.fork 3 9 (.call 9 (.call 10 (.held [11] (.tail (.step [] 12 (.done [])))))) (.call 3 (.call 10 (.held [11] (.tail (.step [] 12 (.done []))))))) (.call 0 (.call 3 (.call 10 (.held [11] (.tail (.step [] 12 (.done []))))))))) (by kernel_rfl) (by kernel_rfl) ?_
    have MBD : Hid (wm.drew.heap[mb]? = some (.cells #[enS d.ti, i64 d.vo, i64 (d.ie + l.length), i64 d.da, .slice A' cur.length c'] 24 (0, 0))) := Lib.hid (blk_below bd MB.out)
    have BWD := Lib.hid (BWM.out.trans (bd.mono (by have := HML.out; omega)))
    clear bd MB BWM hM hbm
    generalize World.drew _ = wd at *
    have BD := Lib.hid (Below.refl M wd)
    have HCU := Lib.hid (fun u (hb : Below M wd u) => HCW.out u (BWD.out.trans (hb.mono (Nat.le_of_lt HML.out))))
    have q1 : ∀ t : Flow.Cls (Below M wd), t.val.cell? ⟨w1.heap.size, 4, none⟩ = some (.slice A' cur.length c') := fun t => HQ1.out t.val (BWD.out.trans (t.ok.mono (Nat.le_of_lt HML.out)))
    have q2 : ∀ t : Flow.Cls (Below M wd), t.val.cell? ⟨w.heap.size, 4, none⟩ = some (.slice (some ⟨b, o, none⟩) d.its.length c) := fun t => HQ2.out t.val (BWD.out.trans (t.ok.mono (Nat.le_of_lt HML.out)))
    have qR : ∀ t : Flow.Cls (Below M wd), t.val.rangeAt b (o + i * 36) (itL x) := fun t => HQR.out t.val (BWD.out.trans (t.ok.mono (Nat.le_of_lt HML.out)))
    haveI nonE : Nonempty (Flow.Cls (Below M wd)) := ⟨⟨wd, Below.refl _ _⟩⟩
    rw [Flow.wpPreF_held]
    simp only [Flow.pick, List.getElem?_toArray, List.getElem?_cons_succ, List.getElem?_cons_zero]
    iterate 6 go_big_quiet_step (fail)
    refine BigFrame.wpQuiet_want rfl (fun K hK => quiet_load_mid 53 _ rfl b (o + i * 36) rfl (itL x) _ (fun _ he => by obtain ⟨t, rfl⟩ := he; exact qR t) Tryz.underlying53 rfl (by rw [itL_length]; exact HSZ.out) (hK _ ?_))
    clear hK K
    simp only [Act.put, List.setIfInBounds_toArray, List.set_cons_succ, List.set_cons_zero]
    refine wpQuiet_nil ?_
    clear nonE q1 q2 qR
    rw [Flow.wpPreF_fork]
    refine ⟨?_, ?_⟩
    ·rw [Flow.callAt_eq]
     simp only [List.getElem?_toArray, List.getElem?_cons_zero, Act.put, List.setIfInBounds_toArray, List.set_cons_succ, List.set_cons_zero]
     rw [if_pos (by rfl)]
     refine Flow.wp_behind (fun K hK => ?_)
     go_wp2_with fail
     have hbs : M ≤ wd.heap.size := by have := BD.out.size; have := HDM.out; omega
     refine hK.out _ _ ⟨(below_new _ _).mono hbs, ?_⟩
     clear hK K
     have bn := below_new wd (.cells #[] 53)
     have Q1 := Lib.hid (BD.out.trans (bn.mono hbs))
     have OW0 := Lib.hid (own2_empty wd wd.heap.size 36 53 (Nat.le_refl _))
     clear BD bn
     obtain ⟨N, hN⟩ : ∃ q, wd.heap.size = q := ⟨_, rfl⟩
     have HWN : M ≤ N := by omega
     rw [hN] at OW0 ⊢
     have HNL : N < (wd.alloc (.cells #[] 53)).heap.size := by rw [World.size_alloc]; omega
     clear hN hbs
     generalize wd.alloc (.cells #[] 53) = v1 at *
     rw [Flow.wpPreF_fork]
     refine ⟨?_, ?_⟩
     ·rw [Flow.callAt_eq]
      simp only [List.getElem?_toArray, List.getElem?_cons_succ, List.getElem?_cons_zero, Act.put, List.setIfInBounds_toArray, List.set_cons_succ, List.set_cons_zero]
      rw [if_pos (by rfl)]
      refine Flow.wp_behind (fun K hK => ?_)
      have hrc := HCU.out _ Q1.out
      have hnb : N ≤ v1.heap.size := Nat.le_of_lt HNL
      refine wp_appC Tryz.underlying22 HI.out.1 HI.out.2.1 HI.out.2.2.1 HI.out.2.2.2 rfl (by decide) _ _ rfl N _ 0 _ OW0.out rfl A' cur.length c' (cur.flatMap itL) (flatG_len itL itL_length _) hrc rfl (flat_oneG itL one_itL _) (by rw [Nat.zero_add]; omega) (by decide) hnb ?_
      intro v3 v2 o3 g3 b3
      refine hK.out _ _ ⟨b3.mono HWN, ?_⟩
      clear hK K
      have Q2 := Lib.hid (Q1.out.trans (b3.mono HWN))
      rw [Nat.zero_add, List.nil_append] at o3
      have OW3 := Lib.hid o3
      have HNL := Nat.lt_of_lt_of_le HNL b3.size
      clear Q1 o3 g3 b3 hrc hnb OW0
      rw [Flow.wpPreF_call]
      rw [Flow.callAt_eq]
      simp only [List.getElem?_toArray, List.getElem?_cons_succ, List.getElem?_cons_zero, Act.put, List.setIfInBounds_toArray, List.set_cons_succ, List.set_cons_zero]
      rw [if_pos (by rfl)]
      refine Flow.wp_behind (fun K hK => ?_)
      refine wp_one_ref _ rfl x rfl ?_
      have hbs : M ≤ v2.heap.size := by have := Q2.out.size; have := HDM.out; omega
      refine hK.out _ _ ⟨(below_new _ _).mono hbs, ?_⟩
      clear hK K
      have bn := below_new v2 (.cells (itL x).toArray 53)
      have Q3 := Lib.hid (Q2.out.trans (bn.mono hbs))
      have RC := Lib.hid (RdC.new v2 (itL x) 53)
      have HNB : v2.heap.size < (v2.alloc (.cells (itL x).toArray 53)).heap.size := by rw [World.size_alloc]; omega
      have OW3 := Lib.hid (own_below OW3.out bn)
      have HNE : v2.heap.size ≠ N := by omega
      have HNL := Nat.lt_of_lt_of_le HNL bn.size
      clear Q2 bn
      obtain ⟨nb, hnb⟩ : ∃ q, v2.heap.size = q := ⟨_, rfl⟩
      rw [hnb] at RC HNB HNE ⊢
      clear hnb hbs
      generalize v2.alloc (.cells (itL x).toArray 53) = v3 at *
      rw [Flow.wpPreF_call]
      rw [Flow.callAt_eq]
      simp only [List.getElem?_toArray, List.getElem?_cons_succ, List.getElem?_cons_zero, Act.put, List.setIfInBounds_toArray, List.set_cons_succ, List.set_cons_zero]
      rw [if_pos (by rfl)]
      refine Flow.wp_behind (fun K hK => ?_)
      have hnb : N ≤ v3.heap.size := Nat.le_of_lt HNL
      refine wp_appC Tryz.underlying22 HI.out.1 HI.out.2.1 HI.out.2.2.1 HI.out.2.2.2 rfl (by decide) _ _ rfl N _ cur.length _ OW3.out rfl (some ⟨nb, 0, none⟩) 1 1 (itL x) (by rw [itL_length]) RC.out rfl (one_itL x) (by omega) (by decide) hnb ?_
      intro v6 v4 o6 g6 b6
      refine hK.out _ _ ⟨b6.mono HWN, ?_⟩
      clear hK K
      have Q4 := Lib.hid (Q3.out.trans (b6.mono HWN))
      obtain ⟨A6, c6, rfl⟩ := own2_slice o6
      have OW6 := Lib.hid o6
      clear Q3 o6 g6 b6 hnb OW3 RC
      haveI nonE : Nonempty (Flow.Cls (Below M v4)) := ⟨⟨v4, Below.refl _ _⟩⟩
      rw [Flow.wpPreF_held]
      simp only [Flow.pick, List.getElem?_toArray, List.getElem?_cons_succ, List.getElem?_cons_zero, Act.put, List.setIfInBounds_toArray, List.set_cons_succ, List.set_cons_zero]
      go_big_quiet_step (fail)
      refine wpQuiet_nil ?_
      clear nonE
      rw [Flow.wpPreF_tail, Flow.wpSched_step]
      simp only [Flow.pick]
      refine wpQuiet_nil ?_
      rw [Flow.callAt_eq]
      simp only [List.getElem?_toArray, List.getElem?_cons_succ, List.getElem?_cons_zero, Act.put]
      rw [if_pos (by rfl)]
      refine Flow.wp_behind (fun K hK => ?_)
      have MB2 : v4.heap[mb]? = some (.cells #[enS d.ti, i64 d.vo, i64 (d.ie + l.length), i64 d.da, .slice A' cur.length c'] 24 (0, 0)) := (Q4.out.block mb HML.out).trans MBD.out
      have cc5 := blk_cell MB2 4
      have ff5 := blk_free MB2 4
      refine wp_storeW _ _ rfl rfl mb 4 A6 (cur.length + 1) c6 rfl rfl _ cc5 ff5 ?_
      refine hK.out _ _ ⟨trivial, ?_⟩
      clear hK K cc5 ff5
      rw [Flow.wpSched_done]
      simp only [Flow.pick]
      refine wpQuiet_nil ?_
      have hk : But mb v4 (v4.setCell ⟨mb, 4, none⟩ (.slice A6 (cur.length + 1) c6)) := (But.refl _ _).setCell _
      have MX := Lib.hid (blk_set MB2 4 (.slice A6 (cur.length + 1) c6))
      have BX := Lib.hid (BWD.out.trans ((Q4.out.mono (Nat.le_of_lt HML.out)).trans (but_lowJ hk (Nat.le_refl _) (Nat.le_of_lt (blk_lt MB2)))))
      have OX := Lib.hid (own_base (own_but OW6.out (show mb < N by have := HML.out; omega) hk) (show mb + 1 ≤ N by have := HML.out; omega))
      clear hk MB2
      generalize v4.setCell ⟨mb, 4, none⟩ (.slice A6 (cur.length + 1) c6) = wz at *
      go_wp2_with fail
      go_meet
      exact ⟨A6, c6, MX, BX, OX⟩
     ·rw [Flow.callAt_eq]
      simp only [List.getElem?_toArray, List.getElem?_cons_succ, List.getElem?_cons_zero, Act.put, List.setIfInBounds_toArray, List.set_cons_succ, List.set_cons_zero]
      rw [if_pos (by rfl)]
      refine Flow.wp_behind (fun K hK => ?_)
      refine wp_one_ref _ rfl x rfl ?_
      have hbs : M ≤ v1.heap.size := by have := Q1.out.size; have := HDM.out; omega
      refine hK.out _ _ ⟨(below_new _ _).mono hbs, ?_⟩
      clear hK K
      have bn := below_new v1 (.cells (itL x).toArray 53)
      have Q2 := Lib.hid (Q1.out.trans (bn.mono hbs))
      have RC := Lib.hid (RdC.new v1 (itL x) 53)
      have HNB : v1.heap.size < (v1.alloc (.cells (itL x).toArray 53)).heap.size := by rw [World.size_alloc]; omega
      have OW0 := Lib.hid (own_below OW0.out bn)
      have HNE : v1.heap.size ≠ N := by omega
      have HNL := Nat.lt_of_lt_of_le HNL bn.size
      clear Q1 bn
      obtain ⟨nb, hnb⟩ : ∃ q, v1.heap.size = q := ⟨_, rfl⟩
      rw [hnb] at RC HNB HNE ⊢
      clear hnb hbs
      generalize v1.alloc (.cells (itL x).toArray 53) = v2 at *
      rw [Flow.wpPreF_call]
      rw [Flow.callAt_eq]
      simp only [List.getElem?_toArray, List.getElem?_cons_succ, List.getElem?_cons_zero, Act.put, List.setIfInBounds_toArray, List.set_cons_succ, List.set_cons_zero]
      rw [if_pos (by rfl)]
      refine Flow.wp_behind (fun K hK => ?_)
      have hrc := HCU.out _ Q2.out
      have hnb : N ≤ v2.heap.size := Nat.le_of_lt HNL
      refine wp_appC Tryz.underlying22 HI.out.1 HI.out.2.1 HI.out.2.2.1 HI.out.2.2.2 rfl (by decide) _ _ rfl N _ 0 _ OW0.out rfl A' cur.length c' (cur.flatMap itL) (flatG_len itL itL_length _) hrc rfl (flat_oneG itL one_itL _) (by rw [Nat.zero_add]; omega) (by decide) hnb ?_
      intro v3 v3 o3 g3 b3
      refine hK.out _ _ ⟨b3.mono HWN, ?_⟩
      clear hK K
      have Q3 := Lib.hid (Q2.out.trans (b3.mono HWN))
      rw [Nat.zero_add, List.nil_append] at o3
      have OW3 := Lib.hid o3
      have HNL := Nat.lt_of_lt_of_le HNL b3.size
      have RC := Lib.hid (RC.out.grown1 g3 HNB (by simpa [Value.ownBlock] using HNE))
      clear Q2 o3 g3 b3 hrc hnb OW0
      rw [Flow.wpPreF_call]
      rw [Flow.callAt_eq]
      simp only [List.getElem?_toArray, List.getElem?_cons_succ, List.getElem?_cons_zero, Act.put, List.setIfInBounds_toArray, List.set_cons_succ, List.set_cons_zero]
      rw [if_pos (by rfl)]
      refine Flow.wp_behind (fun K hK => ?_)
      have hnb : N ≤ v3.heap.size := Nat.le_of_lt HNL
      refine wp_appC Tryz.underlying22 HI.out.1 HI.out.2.1 HI.out.2.2.1 HI.out.2.2.2 rfl (by decide) _ _ rfl N _ cur.length _ OW3.out rfl (some ⟨nb, 0, none⟩) 1 1 (itL x) (by rw [itL_length]) RC.out rfl (one_itL x) (by omega) (by decide) hnb ?_
      intro v6 v4 o6 g6 b6
      refine hK.out _ _ ⟨b6.mono HWN, ?_⟩
      clear hK K
      have Q4 := Lib.hid (Q3.out.trans (b6.mono HWN))
      obtain ⟨A6, c6, rfl⟩ := own2_slice o6
      have OW6 := Lib.hid o6
      clear Q3 o6 g6 b6 hnb OW3 RC
      haveI nonE : Nonempty (Flow.Cls (Below M v4)) := ⟨⟨v4, Below.refl _ _⟩⟩
      rw [Flow.wpPreF_held]
      simp only [Flow.pick, List.getElem?_toArray, List.getElem?_cons_succ, List.getElem?_cons_zero, Act.put, List.setIfInBounds_toArray, List.set_cons_succ, List.set_cons_zero]
      go_big_quiet_step (fail)
      refine wpQuiet_nil ?_
      clear nonE
      rw [Flow.wpPreF_tail, Flow.wpSched_step]
      simp only [Flow.pick]
      refine wpQuiet_nil ?_
      rw [Flow.callAt_eq]
      simp only [List.getElem?_toArray, List.getElem?_cons_succ, List.getElem?_cons_zero, Act.put]
      rw [if_pos (by rfl)]
      refine Flow.wp_behind (fun K hK => ?_)
      have MB2 : v4.heap[mb]? = some (.cells #[enS d.ti, i64 d.vo, i64 (d.ie + l.length), i64 d.da, .slice A' cur.length c'] 24 (0, 0)) := (Q4.out.block mb HML.out).trans MBD.out
      have cc5 := blk_cell MB2 4
      have ff5 := blk_free MB2 4
      refine wp_storeW _ _ rfl rfl mb 4 A6 (cur.length + 1) c6 rfl rfl _ cc5 ff5 ?_
      refine hK.out _ _ ⟨trivial, ?_⟩
      clear hK K cc5 ff5
      rw [Flow.wpSched_done]
      simp only [Flow.pick]
      refine wpQuiet_nil ?_
      have hk : But mb v4 (v4.setCell ⟨mb, 4, none⟩ (.slice A6 (cur.length + 1) c6)) := (But.refl _ _).setCell _
      have MX := Lib.hid (blk_set MB2 4 (.slice A6 (cur.length + 1) c6))
      have BX := Lib.hid (BWD.out.trans ((Q4.out.mono (Nat.le_of_lt HML.out)).trans (but_lowJ hk (Nat.le_refl _) (Nat.le_of_lt (blk_lt MB2)))))
      have OX := Lib.hid (own_base (own_but OW6.out (show mb < N by have := HML.out; omega) hk) (show mb + 1 ≤ N by have := HML.out; omega))
      clear hk MB2
      generalize v4.setCell ⟨mb, 4, none⟩ (.slice A6 (cur.length + 1) c6) = wz at *
      go_wp2_with fail
      go_meet
      exact ⟨A6, c6, MX, BX, OX⟩
    ·rw [Flow.callAt_eq]
     simp only [List.getElem?_toArray, List.getElem?_cons_succ, List.getElem?_cons_zero, Act.put, List.setIfInBounds_toArray, List.set_cons_succ, List.set_cons_zero]
     rw [if_pos (by rfl)]
     refine Flow.wp_behind (fun K hK => ?_)
     refine wp_one_ref _ rfl x rfl ?_
     have hbs : M ≤ wd.heap.size := by have := BD.out.size; have := HDM.out; omega
     refine hK.out _ _ ⟨(below_new _ _).mono hbs, ?_⟩
     clear hK K
     have bn := below_new wd (.cells (itL x).toArray 53)
     have Q1 := Lib.hid (BD.out.trans (bn.mono hbs))
     have RC := Lib.hid (RdC.new wd (itL x) 53)
     have HNB : wd.heap.size < (wd.alloc (.cells (itL x).toArray 53)).heap.size := by rw [World.size_alloc]; omega
     clear BD bn
     obtain ⟨nb, hnb⟩ : ∃ q, wd.heap.size = q := ⟨_, rfl⟩
     rw [hnb] at RC HNB ⊢
     clear hnb hbs
     generalize wd.alloc (.cells (itL x).toArray 53) = v1 at *
     rw [Flow.wpPreF_call]
     rw [Flow.callAt_eq]
     simp only [List.getElem?_toArray, List.getElem?_cons_zero, Act.put, List.setIfInBounds_toArray, List.set_cons_succ, List.set_cons_zero]
     rw [if_pos (by rfl)]
     refine Flow.wp_behind (fun K hK => ?_)
     go_wp2_with fail
     have hbs : M ≤ v1.heap.size := by have := Q1.out.size; have := HDM.out; omega
     refine hK.out _ _ ⟨(below_new _ _).mono hbs, ?_⟩
     clear hK K
     have bn := below_new v1 (.cells #[] 53)
     have Q2 := Lib.hid (Q1.out.trans (bn.mono hbs))
     have OW0 := Lib.hid (own2_empty v1 v1.heap.size 36 53 (Nat.le_refl _))
     have RC := Lib.hid (rdC_below RC.out bn)
     have HNE : nb ≠ v1.heap.size := by omega
     have HNB := Nat.lt_of_lt_of_le HNB bn.size
     clear Q1 bn
     obtain ⟨N, hN⟩ : ∃ q, v1.heap.size = q := ⟨_, rfl⟩
     have HWN : M ≤ N := by omega
     rw [hN] at OW0 HNE ⊢
     have HNL : N < (v1.alloc (.cells #[] 53)).heap.size := by rw [World.size_alloc]; omega
     clear hN hbs
     generalize v1.alloc (.cells #[] 53) = v2 at *
     rw [Flow.wpPreF_call]
     rw [Flow.callAt_eq]
     simp only [List.getElem?_toArray, List.getElem?_cons_succ, List.getElem?_cons_zero, Act.put, List.setIfInBounds_toArray, List.set_cons_succ, List.set_cons_zero]
     rw [if_pos (by rfl)]
     refine Flow.wp_behind (fun K hK => ?_)
     have hrc := HCU.out _ Q2.out
     have hnb : N ≤ v2.heap.size := Nat.le_of_lt HNL
     refine wp_appC Tryz.underlying22 HI.out.1 HI.out.2.1 HI.out.2.2.1 HI.out.2.2.2 rfl (by decide) _ _ rfl N _ 0 _ OW0.out rfl A' cur.length c' (cur.flatMap itL) (flatG_len itL itL_length _) hrc rfl (flat_oneG itL one_itL _) (by rw [Nat.zero_add]; omega) (by decide) hnb ?_
     intro v3 v3 o3 g3 b3
     refine hK.out _ _ ⟨b3.mono HWN, ?_⟩
     clear hK K
     have Q3 := Lib.hid (Q2.out.trans (b3.mono HWN))
     rw [Nat.zero_add, List.nil_append] at o3
     have OW3 := Lib.hid o3
     have HNL := Nat.lt_of_lt_of_le HNL b3.size
     have RC := Lib.hid (RC.out.grown1 g3 HNB (by simpa [Value.ownBlock] using HNE))
     clear Q2 o3 g3 b3 hrc hnb OW0
     rw [Flow.wpPreF_call]
     rw [Flow.callAt_eq]
     simp only [List.getElem?_toArray, List.getElem?_cons_succ, List.getElem?_cons_zero, Act.put, List.setIfInBounds_toArray, List.set_cons_succ, List.set_cons_zero]
     rw [if_pos (by rfl)]
     refine Flow.wp_behind (fun K hK => ?_)
     have hnb : N ≤ v3.heap.size := Nat.le_of_lt HNL
     refine wp_appC Tryz.underlying22 HI.out.1 HI.out.2.1 HI.out.2.2.1 HI.out.2.2.2 rfl (by decide) _ _ rfl N _ cur.length _ OW3.out rfl (some ⟨nb, 0, none⟩) 1 1 (itL x) (by rw [itL_length]) RC.out rfl (one_itL x) (by omega) (by decide) hnb ?_
     intro v6 v4 o6 g6 b6
     refine hK.out _ _ ⟨b6.mono HWN, ?_⟩
     clear hK K
     have Q4 := Lib.hid (Q3.out.trans (b6.mono HWN))
     obtain ⟨A6, c6, rfl⟩ := own2_slice o6
     have OW6 := Lib.hid o6
     clear Q3 o6 g6 b6 hnb OW3 RC
     haveI nonE : Nonempty (Flow.Cls (Below M v4)) := ⟨⟨v4, Below.refl _ _⟩⟩
     rw [Flow.wpPreF_held]
     simp only [Flow.pick, List.getElem?_toArray, List.getElem?_cons_succ, List.getElem?_cons_zero, Act.put, List.setIfInBounds_toArray, List.set_cons_succ, List.set_cons_zero]
     go_big_quiet_step (fail)
     refine wpQuiet_nil ?_
     clear nonE
     rw [Flow.wpPreF_tail, Flow.wpSched_step]
     simp only [Flow.pick]
     refine wpQuiet_nil ?_
     rw [Flow.callAt_eq]
     simp only [List.getElem?_toArray, List.getElem?_cons_succ, List.getElem?_cons_zero, Act.put]
     rw [if_pos (by rfl)]
     refine Flow.wp_behind (fun K hK => ?_)
     have MB2 : v4.heap[mb]? = some (.cells #[enS d.ti, i64 d.vo, i64 (d.ie + l.length), i64 d.da, .slice A' cur.length c'] 24 (0, 0)) := (Q4.out.block mb HML.out).trans MBD.out
     have cc5 := blk_cell MB2 4
     have ff5 := blk_free MB2 4
     refine wp_storeW _ _ rfl rfl mb 4 A6 (cur.length + 1) c6 rfl rfl _ cc5 ff5 ?_
     refine hK.out _ _ ⟨trivial, ?_⟩
     clear hK K cc5 ff5
     rw [Flow.wpSched_done]
     simp only [Flow.pick]
     refine wpQuiet_nil ?_
     have hk : But mb v4 (v4.setCell ⟨mb, 4, none⟩ (.slice A6 (cur.length + 1) c6)) := (But.refl _ _).setCell _
     have MX := Lib.hid (blk_set MB2 4 (.slice A6 (cur.length + 1) c6))
     have BX := Lib.hid (BWD.out.trans ((Q4.out.mono (Nat.le_of_lt HML.out)).trans (but_lowJ hk (Nat.le_refl _) (Nat.le_of_lt (blk_lt MB2)))))
     have OX := Lib.hid (own_base (own_but OW6.out (show mb < N by have := HML.out; omega) hk) (show mb + 1 ≤ N by have := HML.out; omega))
     clear hk MB2
     generalize v4.setCell ⟨mb, 4, none⟩ (.slice A6 (cur.length + 1) c6) = wz at *
     go_wp2_with fail
     go_meet
     exact ⟨A6, c6, MX, BX, OX⟩
   obtain ⟨A6, c6, MX, BX, OX⟩ := hcut
   generalize wc = w3 at *
   have SX := Lib.hid (SW.out.below (W' := w3) (by rw [HMB.out]; exact BX.out))
   have OY : Hid (OkY w3 (Go.Dg.part d l.length (cur ++ [x]), A6, c6)) := Lib.hid (by
    have e1 : cur.flatMap itL ++ itL x = (cur ++ [x]).flatMap itL := by rw [List.flatMap_append, List.flatMap_cons, List.flatMap_nil, List.append_nil]
    have h := OX.out
    rw [e1] at h
    refine ⟨⟨RdI.of_ownT h (fun z hz => ?_), by have := own2_le h; (show (cur ++ [x]).length ≤ c6); rw [List.length_append, List.length_singleton]; exact this⟩, TyR.of_own h⟩
    rcases List.mem_append.1 hz with hz | hz
    ·exact SW.out.oky.ok.rd.ky z hz
    ·rw [List.mem_singleton.1 hz]; exact H32.out)
   have HMB3 : Hid (w1.heap.size < mb) := Lib.hid (by have := blk_lt SW.out.blk; have := HMB.out; (show _ < _); omega)
   have HOB : Hid (∀ g, (Value.slice A3 l.length c3).ownBlock = some g → g < mb) := Lib.hid fun g e => by have := own_lt SW.out.ow e; have := HMB.out; omega
   clear OX BX HCW HQ1 HQ2 HQR SW HMB
   have TK : Hid (TxOk (Go.Dg.part d l.length (cur ++ [x]))) := Lib.hid (partR_ok (HIN.out w3 SX.out.bel) HEC.out (by have h2 : l.length + cur.length ≤ i := KW.out.num; have := HIE.out; omega) (by have h2 : l.length + cur.length ≤ i := KW.out.num; have := HIE.out; rw [List.length_append, List.length_singleton]; omega) (fun z hz => by
    rcases List.mem_append.1 hz with hz | hz
    ·exact KW.out.sub z hz
    ·rw [List.mem_singleton.1 hz]; exact List.mem_of_getElem? HX.out))
   have hl1 : (cur ++ [x]).length = cur.length + 1 := by rw [List.length_append, List.length_singleton]
   have HTX : Hid (∀ u, Below w3.heap.size w3 u → Calls Tryz.prog 54 #[.agg #[enS d.ti, i64 d.vo, i64 (d.ie + l.length), i64 d.da, .slice A6 (cur.length + 1) c6]] u fun e w' => e = .returned (enS (textD (Go.Dg.part d l.length (cur ++ [x])))) ∧ Below u.heap.size u w') := Lib.hid fun u hb => by
    have h := text_ref (Go.Dg.part d l.length (cur ++ [x])) A6 c6 u (OY.out.ok.rd.below hb) OY.out.ok.cap TK.out
    have e : dgA (Go.Dg.part d l.length (cur ++ [x])) A6 c6 = .agg #[enS d.ti, i64 d.vo, i64 (d.ie + l.length), i64 d.da, .slice A6 (cur.length + 1) c6] := by
     (show Value.agg #[enS d.ti, i64 d.vo, i64 (d.ie + l.length), i64 d.da, .slice A6 (cur ++ [x]).length c6] = _)
     rw [hl1]
    rw [e] at h
    exact h
   have HKS := Lib.hid (fun hc => KW.out.stop HX.out hc)
   have HKG := Lib.hid (fun hc => KW.out.go HX.out hc)
   have HKL : Hid (l.length + cur.length ≤ i) := Lib.hid KW.out.num
   clear TK hl1 KW
   obtain ⟨tx, htx⟩ : ∃ z, textD (Go.Dg.part d l.length (cur ++ [x])) = z := ⟨_, rfl⟩
   have HTXE := Lib.hid htx
   rw [htx] at HTX
   clear htx
   go_upto_region 14 with fail
   go_cut [73] (fun t wx => t = .bool (decide (cur ≠ [] ∧ (m < cur.length + 1 ∨ bs < tx.length))) ∧ Hid (Below w3.heap.size w3 wx))
   case first =>
    have c10 := blk_cell SX.out.blk 4
    have c13 := blk_cell MX.out 4
    by_cases hc0 : cur = []
    ·have hq : decide (cur = []) = true := by simpa using hc0
     have ht : decide (cur ≠ [] ∧ (m < cur.length + 1 ∨ bs < tx.length)) = false := by rw [decide_eq_false_iff_not]; exact fun q => q.1 hc0
     have HT := Lib.hid ht
     have hn0 : cur.length = 0 := by rw [hc0]; rfl
     clear ht
     go_wp2_with fail
     go_meet
     exact ⟨by rw [HT.out], Lib.hid (Below.refl _ _)⟩
    have hpos : 0 < cur.length := List.length_pos_iff.2 hc0
    have hpi : decide ((0 : Int) < cur.length) = true := by rw [decide_eq_true_eq]; omega
    have HC0 := Lib.hid hc0
    clear hc0
    by_cases hm1 : m < cur.length + 1
    ·have ht : decide (cur ≠ [] ∧ (m < cur.length + 1 ∨ bs < tx.length)) = true := by rw [decide_eq_true_eq]; exact ⟨HC0.out, .inl hm1⟩
     have HT := Lib.hid ht
     have hmi : decide ((m : Int) < (cur.length : Int) + 1) = true := by rw [decide_eq_true_eq]; omega
     clear ht
     go_wp2_with fail
     go_meet
     exact ⟨by rw [HT.out], Lib.hid (Below.refl _ _)⟩
    have hmi : decide ((m : Int) < (cur.length : Int) + 1) = false := by rw [decide_eq_false_iff_not]; omega
    have RM := Lib.hid (range_blk (cs := [enS d.ti, i64 d.vo, i64 (d.ie + l.length), i64 d.da, .slice A6 (cur.length + 1) c6]) MX.out)
    go_wp2_with (refine wpList_ungd rfl ?_; refine wpList_load_mid rfl 24 _ rfl mb 0 rfl [enS d.ti, i64 d.vo, i64 (d.ie + l.length), i64 d.da, .slice A6 (cur.length + 1) c6] _ RM.out Tryz.underlying24 rfl (by kernel_rfl) ?_)
    refine (HTX.out w3 (Below.refl _ _)).mono ?_; rintro e w4 ⟨rfl, b4⟩
    have B4 := Lib.hid b4
    clear b4
    by_cases hb1 : bs < tx.length
    ·have ht : decide (cur ≠ [] ∧ (m < cur.length + 1 ∨ bs < tx.length)) = true := by rw [decide_eq_true_eq]; exact ⟨HC0.out, .inr hb1⟩
     have HT := Lib.hid ht
     clear ht
     go_wp2_with fail
     go_meet
     exact ⟨by rw [HT.out], B4⟩
    ·have ht : decide (cur ≠ [] ∧ (m < cur.length + 1 ∨ bs < tx.length)) = false := by rw [decide_eq_false_iff_not]; exact fun q => q.2.elim hm1 hb1
     have HT := Lib.hid ht
     clear ht
     go_wp2_with fail
     go_meet
     exact ⟨by rw [HT.out], B4⟩
   obtain ⟨rfl, B4⟩ := hcut
   generalize wc = w4 at *
   have S4 := Lib.hid (SX.out.below B4.out)
   have M4 := Lib.hid (blk_below B4.out MX.out)
   have O4 := Lib.hid (OY.out.below B4.out)
   have hlb : l.length + cur.length ≤ d.its.length := by have h2 := HKL.out; omega
   clear SX MX OY B4 HTX
   go_upto_if 73 with fail
   go_cut [9] (fun v wx => ∃ (l2 : List DgX) (y1 y2 : DgX), l.length ≤ l2.length ∧ Hid (DrS w1 wx v l2 y1) ∧ Hid (wx.heap[mb]? = some (.cells (dgxL y2).toArray 24 (0, 0))) ∧ Hid (OkY wx y2) ∧ Hid (DrC d m bs i l2.length (l2.map (·.1)) y2.1) ∧ Hid (v.ownBlock ≠ some mb))
   case first =>
    by_cases hst : cur ≠ [] ∧ (m < cur.length + 1 ∨ bs < tx.length)
    case neg =>
     have hq : decide (cur ≠ [] ∧ (m < cur.length + 1 ∨ bs < tx.length)) = false := by rw [decide_eq_false_iff_not]; exact hst
     rw [hq]
     have hl1 : (cur ++ [x]).length = cur.length + 1 := by rw [List.length_append, List.length_singleton]
     have HC : Hid (DrC d m bs i l.length (l.map (·.1)) (Go.Dg.part d l.length (cur ++ [x]))) := Lib.hid (HKG.out (by
      (show ¬ (cur ≠ [] ∧ (m < (cur ++ [x]).length ∨ bs < (textD (Go.Dg.part d l.length (cur ++ [x]))).length)))
      rw [hl1, HTXE.out]; exact hst))
     have M5 : Hid (w4.heap[mb]? = some (.cells (dgxL (Go.Dg.part d l.length (cur ++ [x]), A6, c6)).toArray 24 (0, 0))) := Lib.hid (by
      (show w4.heap[mb]? = some (Obj.cells #[enS d.ti, i64 d.vo, i64 (d.ie + l.length), i64 d.da, .slice A6 (cur ++ [x]).length c6] 24 (0, 0)))
      rw [hl1]; exact M4.out)
     have N5 : Hid ((Value.slice A3 l.length c3).ownBlock ≠ some mb) := Lib.hid fun e => by have := HOB.out _ e; omega
     clear hq hst hl1
     go_wp2_with fail
     go_meet
     exact ⟨l, _, (Go.Dg.part d l.length (cur ++ [x]), A6, c6), Nat.le_refl _, S4, M5, O4, HC, N5⟩
    have hq : decide (cur ≠ [] ∧ (m < cur.length + 1 ∨ bs < tx.length)) = true := by rw [decide_eq_true_eq]; exact hst
    rw [hq]
    have hl1 : (cur ++ [x]).length = cur.length + 1 := by rw [List.length_append, List.length_singleton]
    have HC : Hid (DrC d m bs i (l.length + 1) (l.map (·.1) ++ [Go.Dg.part d l.length cur]) (Go.Dg.part d (l.length + 1) [x])) := Lib.hid (HKS.out (by
     (show cur ≠ [] ∧ (m < (cur ++ [x]).length ∨ bs < (textD (Go.Dg.part d l.length (cur ++ [x]))).length))
     rw [hl1, HTXE.out]; exact hst))
    clear hq hst hl1 HKS HKG
    have hll : l.length ≤ 1000000 := by have := HIE.out; omega
    have HLL := Lib.hid (show l.length + 1 ≤ 1000 by have := HIE.out; omega)
    have RY := Lib.hid (range_blk (cs := [enS d.ti, i64 d.vo, i64 (d.ie + l.length), i64 d.da, .slice A' cur.length c']) S4.out.blk)
    have hbz : w1.heap.size + 1 ≤ w4.heap.size := blk_lt S4.out.blk
    go_upto_region 16 with (first | refine wpList_load_mid rfl 24 _ rfl w1.heap.size 0 rfl [enS d.ti, i64 d.vo, i64 (d.ie + l.length), i64 d.da, .slice A' cur.length c'] _ RY.out Tryz.underlying24 rfl (by kernel_rfl) ?_ | refine wpList_one_dr rfl _ rfl (Go.Dg.part d l.length cur, A', c') rfl ?_ | (at_builtin; refine wpList_app_dr rfl _ _ rfl _ l rfl (w1.heap.size + 1) (own_below S4.out.ow (below_new _ _)) w4.heap.size (Go.Dg.part d l.length cur, A', c') rfl (range_blk (blk_new w4 (.cells (dgxL (Go.Dg.part d l.length cur, A', c')).toArray 24))) hll (by rw [World.size_alloc]; omega) ?_; intro v9 w9 o9 g9 f9))
    have bn := below_new w4 (.cells (dgxL (Go.Dg.part d l.length cur, A', c')).toArray 24)
    have hmb4 := blk_lt M4.out
    have S5 := Lib.hid ((S4.out.below bn).app o9 g9)
    have M5 := Lib.hid ((g9.block mb (Nat.lt_of_lt_of_le hmb4 bn.size) (fun e => by have := HOB.out _ e.symm; omega)).trans (blk_below bn M4.out))
    have N5 : Hid (v9.ownBlock ≠ some mb) := Lib.hid fun e => by
     rcases f9 with f9 | ⟨g, f9, f10⟩
     ·rw [f9] at e; have := HOB.out _ e; omega
     ·rw [f9] at e; have e2 : g = mb := Option.some.inj e; rw [World.size_alloc] at f10; omega
    clear bn hmb4 o9 g9 f9 S4 M4 O4 RY hbz
    have src := HSRC.out _ S5.out.bel
    have e0 := blk_cell src 0
    have e1 := blk_cell src 1
    have e3 := blk_cell src 3
    have p2 : w9.cell? ⟨w1.heap.size, 2, none⟩ = some (i64 (d.ie + (l.length : Int))) := blk_cell S5.out.blk 2
    have hwr : wrap64 (d.ie + (l.length : Int) + 1) = d.ie + (l.length : Int) + 1 := by have := HIE.out; unfold wrap64; omega
    have hce : d.ie + ((l.length + 1 : Nat) : Int) = d.ie + (l.length : Int) + 1 := by omega
    have HCE := Lib.hid hce
    clear src hce
    go_upto_region 17 with (refine wpList_store_mid rfl 24 _ _ rfl w1.heap.size 0 #[enS d.ti, i64 d.vo, i64 (d.ie + (l.length : Int) + 1), i64 d.da, .slice none 0 0] rfl rfl (there_at S5.out.blk (Nat.le_refl 5)) (by kernel_rfl) (one_dg _ _ _ _ _ _ _) ?_)
    have S6 : Hid (DrS w1 (w9.setCells w1.heap.size 0 [enS d.ti, i64 d.vo, i64 (d.ie + (l.length : Int) + 1), i64 d.da, .slice none 0 0]) v9 (l ++ [(Go.Dg.part d l.length cur, A', c')]) (Go.Dg.part d (l.length + 1) [], none, 0)) := Lib.hid (by
     have h := S5.out.set (y' := (Go.Dg.part d (l.length + 1) [], none, 0)) ⟨⟨RdI.nil, Nat.le_refl _⟩, TyR.none⟩
     have e : dgxL (Go.Dg.part d (l.length + 1) [], none, 0) = [enS d.ti, i64 d.vo, i64 (d.ie + (l.length : Int) + 1), i64 d.da, .slice none 0 0] := by
      (show [enS d.ti, i64 d.vo, i64 (d.ie + ((l.length + 1 : Nat) : Int)), i64 d.da, .slice none 0 0] = _)
      rw [HCE.out]
     rw [e] at h
     exact h)
    have hk6 : But w1.heap.size w9 (w9.setCells w1.heap.size 0 [enS d.ti, i64 d.vo, i64 (d.ie + (l.length : Int) + 1), i64 d.da, .slice none 0 0]) := but_setCells _ _ _
    have M6 := Lib.hid ((hk6.block mb (blk_lt M5.out) (by have := HMB3.out; omega)).trans M5.out)
    clear e0 e1 e3 p2 hwr hk6 S5 M5
    generalize World.setCells w9 _ _ _ = w10 at *
    have RP : Hid (w10.rangeAt w1.heap.size 0 [enS d.ti, i64 d.vo, i64 (d.ie + (l.length : Int) + 1), i64 d.da, .slice none 0 0]) := Lib.hid (by
     have h := range_blk (cs := dgxL (Go.Dg.part d (l.length + 1) [], none, 0)) S6.out.blk
     have e : dgxL (Go.Dg.part d (l.length + 1) [], none, 0) = [enS d.ti, i64 d.vo, i64 (d.ie + (l.length : Int) + 1), i64 d.da, .slice none 0 0] := by
      (show [enS d.ti, i64 d.vo, i64 (d.ie + ((l.length + 1 : Nat) : Int)), i64 d.da, .slice none 0 0] = _)
      rw [HCE.out]
     rw [e] at h
     exact h)
    go_upto_region 18 with (first | refine wpList_load_mid rfl 24 _ rfl w1.heap.size 0 rfl [enS d.ti, i64 d.vo, i64 (d.ie + (l.length : Int) + 1), i64 d.da, .slice none 0 0] _ RP.out Tryz.underlying24 rfl (by kernel_rfl) ?_ | refine wpList_store_mid rfl 24 _ _ rfl mb 0 #[enS d.ti, i64 d.vo, i64 (d.ie + (l.length : Int) + 1), i64 d.da, .slice none 0 0] rfl rfl (there_at M6.out (Nat.le_refl 5)) (by kernel_rfl) (one_dg _ _ _ _ _ _ _) ?_)
    have hk7 : But mb w10 (w10.setCells mb 0 [enS d.ti, i64 d.vo, i64 (d.ie + (l.length : Int) + 1), i64 d.da, .slice none 0 0]) := but_setCells _ _ _
    have S7 := Lib.hid (S6.out.other hk7 HMB3.out N5.out M6.out)
    have M7 := Lib.hid (dg_storeT M6.out (enS d.ti) (i64 d.vo) (i64 (d.ie + (l.length : Int) + 1)) (i64 d.da) (.slice none 0 0))
    clear hk7 S6 M6 RP
    generalize World.setCells w10 _ _ _ = w11 at *
    have s4 := blk_cell (HSRC.out _ S7.out.bel) 4
    have hrx := HQR0.out w11 S7.out.bel
    have m4 : w11.cell? ⟨mb, 4, none⟩ = some (.slice none 0 0) := blk_cell M7.out 4
    have f4 := blk_free M7.out 4
    have hmb := blk_lt M7.out
    go_wp2_with (first | refine wpList_load_mid rfl 53 _ rfl b (o + i * 36) rfl (itL x) _ hrx Tryz.underlying53 rfl (by rw [itL_length]; exact HSZ.out) ?_ | refine wpList_one_ref rfl _ rfl x rfl ?_)
    have hk8 : But mb w11 (w11.setCell ⟨mb, 4, none⟩ (.slice (some ⟨w11.heap.size, 0, none⟩) 1 1)) := (But.refl _ _).setCell _
    have bn := below_new (w11.setCell ⟨mb, 4, none⟩ (.slice (some ⟨w11.heap.size, 0, none⟩) 1 1)) (.cells (itL x).toArray 53)
    have S8 := Lib.hid ((S7.out.other hk8 HMB3.out N5.out M7.out).below bn)
    have M8 : Hid (((w11.setCell ⟨mb, 4, none⟩ (.slice (some ⟨w11.heap.size, 0, none⟩) 1 1)).alloc (.cells (itL x).toArray 53)).heap[mb]? = some (.cells (dgxL (Go.Dg.part d (l.length + 1) [x], some ⟨w11.heap.size, 0, none⟩, 1)).toArray 24 (0, 0))) := Lib.hid (by
     (show _ = some (Obj.cells #[enS d.ti, i64 d.vo, i64 (d.ie + ((l.length + 1 : Nat) : Int)), i64 d.da, .slice (some ⟨w11.heap.size, 0, none⟩) 1 1] 24 (0, 0)))
     rw [HCE.out]
     exact blk_below bn (blk_set M7.out 4 (.slice (some ⟨w11.heap.size, 0, none⟩) 1 1)))
    have O8 : Hid (OkY ((w11.setCell ⟨mb, 4, none⟩ (.slice (some ⟨w11.heap.size, 0, none⟩) 1 1)).alloc (.cells (itL x).toArray 53)) (Go.Dg.part d (l.length + 1) [x], some ⟨w11.heap.size, 0, none⟩, 1)) := Lib.hid (by
     have h := blk_new (w11.setCell ⟨mb, 4, none⟩ (.slice (some ⟨w11.heap.size, 0, none⟩) 1 1)) (.cells (itL x).toArray 53)
     rw [World.size_setCell] at h
     exact OkY.one h H32.out rfl)
    clear hk8 bn S7 M7 s4 hrx m4 f4 hmb
    generalize World.alloc (World.setCell w11 _ _) _ = w12 at *
    have el : (l ++ [((Go.Dg.part d l.length cur, A', c') : DgX)]).length = l.length + 1 := by rw [List.length_append, List.length_singleton]
    have HC8 : Hid (DrC d m bs i (l ++ [((Go.Dg.part d l.length cur, A', c') : DgX)]).length ((l ++ [((Go.Dg.part d l.length cur, A', c') : DgX)]).map (·.1)) (Go.Dg.part d (l.length + 1) [x])) := Lib.hid (by
     (show DrC _ _ _ _ _ _ _)
     rw [el, List.map_append]
     exact HC.out)
    go_meet
    exact ⟨l ++ [(Go.Dg.part d l.length cur, A', c')], _, (Go.Dg.part d (l.length + 1) [x], some ⟨w11.heap.size, 0, none⟩, 1), by rw [el]; omega, S8, M8, O8, HC8, N5⟩
   obtain ⟨l2, y1, y2, hle, S8, M8, O8, C8, N8⟩ := hcut
   generalize wc = w8 at *
   clear S4 M4 O4 HKS HKG HTXE HOB HQR0
   obtain ⟨yd, A7, c7⟩ := y2
   have hyp : yd = Go.Dg.part d l2.length yd.its := C8.out.pt
   obtain ⟨cur2, hcur⟩ : ∃ q, yd.its = q := ⟨_, rfl⟩
   rw [hcur] at hyp
   subst hyp
   clear hcur
   have hl2 : l2.length + cur2.length ≤ i + 1 := C8.out.num
   have TK : Hid (TxOk (Go.Dg.part d l2.length cur2)) := Lib.hid (partR_ok (HIN.out w8 S8.out.bel) HEC.out (by have := HIE.out; omega) (by have := HIE.out; omega) (fun z hz => C8.out.sub z hz))
   have HTX := Lib.hid (text_ref (Go.Dg.part d l2.length cur2) A7 c7 w8 O8.out.ok.rd O8.out.ok.cap TK.out)
   have HCL := Lib.hid (fun hs => C8.out.long hs)
   have HCN := Lib.hid (fun hs => C8.out.next hs)
   have R8 := Lib.hid (range_blk (cs := [enS d.ti, i64 d.vo, i64 (d.ie + l2.length), i64 d.da, .slice A7 cur2.length c7]) M8.out)
   obtain ⟨tx2, htx⟩ : ∃ z, textD (Go.Dg.part d l2.length cur2) = z := ⟨_, rfl⟩
   have hsz : szD (Go.Dg.part d l2.length cur2) = tx2.length := by (show (textD (Go.Dg.part d l2.length cur2)).length = _); rw [htx]
   have HCL : Hid (bs < tx2.length → _) := Lib.hid (fun hs => HCL.out (by rw [hsz]; exact hs))
   have HCN : Hid (¬ bs < tx2.length → _) := Lib.hid (fun hs => HCN.out (by rw [hsz]; exact hs))
   rw [htx] at HTX
   clear htx hsz TK C8 hl2
   go_wp2_with (refine wpList_load_mid rfl 24 _ rfl mb 0 rfl [enS d.ti, i64 d.vo, i64 (d.ie + l2.length), i64 d.da, .slice A7 cur2.length c7] _ R8.out Tryz.underlying24 rfl (by kernel_rfl) ?_)
   refine HTX.out.mono ?_; rintro e w9 ⟨rfl, b9⟩
   have S9 := Lib.hid (S8.out.below b9)
   have M9 := Lib.hid (blk_below b9 M8.out)
   have O9 := Lib.hid (O8.out.below b9)
   clear b9 S8 M8 O8 R8 HTX
   by_cases hbl : bs < tx2.length
   ·have HVE : Hid (F = ([], 5)) := Lib.hid (by (show _ = _); rw [HV.out, HCL.out hbl]; rfl)
    clear HCN HCL
    go_wp2_with fail
    go_ret2
    exact ⟨⟨none, 0, [], by rw [HVE.out]; rfl, by rw [HVE.out]; rfl, RdG.nil, Nat.le_refl _⟩, B2.out.tr S9.out.bel⟩
   have K9 := Lib.hid (HCN.out hbl)
   clear HCN HCL
   have m2 : w9.cell? ⟨mb, 2, none⟩ = some (i64 (d.ie + (l2.length : Int))) := blk_cell M9.out 2
   have R9 := Lib.hid (range_blk (cs := [enS d.ti, i64 d.vo, i64 (d.ie + l2.length), i64 d.da, .slice A7 cur2.length c7]) M9.out)
   have hhb : ¬ bs < tx2.length := hbl
   by_cases hlate : (1000000 : Int) < d.ie + l.length
   ·have hq : decide ((1000000 : Int) < d.ie + l.length) = true := by rw [decide_eq_true_eq]; exact hlate
    have hq2 : decide ((1000000 : Int) < d.ie + l2.length) = true := by rw [decide_eq_true_eq]; omega
    have HQ2 := Lib.hid hq2
    rw [hq]
    clear hlate hq hq2
    go_upto_region 11 with (first | refine wpList_load_mid rfl 24 _ rfl mb 0 rfl [enS d.ti, i64 d.vo, i64 (d.ie + l2.length), i64 d.da, .slice A7 cur2.length c7] _ R9.out Tryz.underlying24 rfl (by kernel_rfl) ?_ | refine wpList_store_mid rfl 24 _ _ rfl w1.heap.size 0 #[enS d.ti, i64 d.vo, i64 (d.ie + l2.length), i64 d.da, .slice A7 cur2.length c7] rfl rfl (there_at S9.out.blk (Nat.le_refl 5)) (by kernel_rfl) (one_dg _ _ _ _ _ _ _) ?_)
    have e10 : dgxL (Go.Dg.part d l2.length cur2, A7, c7) = [enS d.ti, i64 d.vo, i64 (d.ie + l2.length), i64 d.da, .slice A7 cur2.length c7] := rfl
    have s10 := S9.out.set O9.out
    rw [e10] at s10
    have S10 := Lib.hid s10
    clear m2 R9 S9 M9 O9 s10 e10
    generalize World.setCells w9 _ _ _ = w10 at *
    have hwi : wrap64 ((i : Int) + 1) = (i : Int) + 1 := by have := HIE.out; unfold wrap64; omega
    go_wp2_with fail
    go_roundg (d.its.length - (i + 1))
    case measure => omega
    case rel => exact ⟨i + 1, l2, (Go.Dg.part d l2.length cur2, A7, c7), by omega, by omega, by simp; exact hwi, by rw [HQ2.out], S10, K9⟩
   ·have hq : decide ((1000000 : Int) < d.ie + l.length) = false := by rw [decide_eq_false_iff_not]; exact hlate
    rw [hq]
    clear hlate hq
    go_upto_region 11 with (first | refine wpList_load_mid rfl 24 _ rfl mb 0 rfl [enS d.ti, i64 d.vo, i64 (d.ie + l2.length), i64 d.da, .slice A7 cur2.length c7] _ R9.out Tryz.underlying24 rfl (by kernel_rfl) ?_ | refine wpList_store_mid rfl 24 _ _ rfl w1.heap.size 0 #[enS d.ti, i64 d.vo, i64 (d.ie + l2.length), i64 d.da, .slice A7 cur2.length c7] rfl rfl (there_at S9.out.blk (Nat.le_refl 5)) (by kernel_rfl) (one_dg _ _ _ _ _ _ _) ?_)
    have e10 : dgxL (Go.Dg.part d l2.length cur2, A7, c7) = [enS d.ti, i64 d.vo, i64 (d.ie + l2.length), i64 d.da, .slice A7 cur2.length c7] := rfl
    have s10 := S9.out.set O9.out
    rw [e10] at s10
    have S10 := Lib.hid s10
    clear m2 R9 S9 M9 O9 s10 e10
    generalize World.setCells w9 _ _ _ = w10 at *
    have hwi : wrap64 ((i : Int) + 1) = (i : Int) + 1 := by have := HIE.out; unfold wrap64; omega
    go_wp2_with fail
    go_roundg (d.its.length - (i + 1))
    case measure => omega
    case rel => exact ⟨i + 1, l2, (Go.Dg.part d l2.length cur2, A7, c7), by omega, by omega, by simp; exact hwi, rfl, S10, K9⟩
 obtain ⟨l, y, rfl, SX, KX⟩ := hcut
 clear S0 K0 HL0
 generalize wc = w3 at *
 obtain ⟨A3, c3, rfl⟩ := own2_slice SX.out.ow
 have HVE : Hid (F = if (1000000 : Int) < d.ie + l.length then ([], 2) else ((l ++ [y]).map (·.1), 0)) := Lib.hid (by
  (show _ = _)
  rw [HV.out, KX.out.end]
  (show (if d.ie + (((l.map (·.1)) ++ [y.1]).length : Nat) - 1 > 1000000 then _ else _) = _)
  rw [List.length_append, List.length_map, List.length_singleton, List.map_append]
  by_cases h : (1000000 : Int) < d.ie + l.length
  ·rw [if_pos h, if_pos (by omega)]
  ·rw [if_neg h, if_neg (by omega)]; rfl)
 have HNUM : Hid (l.length + y.1.its.length ≤ d.its.length) := Lib.hid KX.out.num
 obtain ⟨yd, A', c'⟩ := y
 have hyp : yd = Go.Dg.part d l.length yd.its := KX.out.pt
 obtain ⟨cur, hcur⟩ : ∃ q, yd.its = q := ⟨_, rfl⟩
 rw [hcur] at hyp
 subst hyp
 clear hcur KX HV
 by_cases hlate : (1000000 : Int) < d.ie + l.length
 ·rw [if_pos hlate] at HVE
  have hq : decide ((1000000 : Int) < d.ie + l.length) = true := by rw [decide_eq_true_eq]; exact hlate
  rw [hq]
  clear hlate hq
  go_wp2_with fail
  go_ret2
  exact ⟨⟨none, 0, [], by rw [HVE.out]; rfl, by rw [HVE.out]; rfl, RdG.nil, Nat.le_refl _⟩, B2.out.tr SX.out.bel⟩
 rw [if_neg hlate] at HVE
 have hq : decide ((1000000 : Int) < d.ie + l.length) = false := by rw [decide_eq_false_iff_not]; exact hlate
 rw [hq]
 have hll : l.length ≤ 1000000 := by have h2 : l.length + cur.length ≤ d.its.length := HNUM.out; have := HIE.out; omega
 have RY := Lib.hid (range_blk (cs := [enS d.ti, i64 d.vo, i64 (d.ie + l.length), i64 d.da, .slice A' cur.length c']) SX.out.blk)
 have hbz : w1.heap.size + 1 ≤ w3.heap.size := blk_lt SX.out.blk
 clear hlate hq
 go_wp2_with (first | refine wpList_load_mid rfl 24 _ rfl w1.heap.size 0 rfl [enS d.ti, i64 d.vo, i64 (d.ie + l.length), i64 d.da, .slice A' cur.length c'] _ RY.out Tryz.underlying24 rfl (by kernel_rfl) ?_ | refine wpList_one_dr rfl _ rfl (Go.Dg.part d l.length cur, A', c') rfl ?_ | (at_builtin; refine wpList_app_dr rfl _ _ rfl _ l rfl (w1.heap.size + 1) (own_below SX.out.ow (below_new _ _)) w3.heap.size (Go.Dg.part d l.length cur, A', c') rfl (range_blk (blk_new w3 (.cells (dgxL (Go.Dg.part d l.length cur, A', c')).toArray 24))) hll (by rw [World.size_alloc]; omega) ?_; intro v9 w9 o9 g9 f9))
 have bn := below_new w3 (.cells (dgxL (Go.Dg.part d l.length cur, A', c')).toArray 24)
 have S5 := Lib.hid ((SX.out.below bn).app o9 g9)
 obtain ⟨A9, c9, rfl⟩ := own2_slice o9
 have hcap := own2_le o9
 have o10 : w9.ownsRow (w1.heap.size + 1) 24 5 (.slice A9 (l ++ [((Go.Dg.part d l.length cur, A', c') : DgX)]).length c9) (l ++ [((Go.Dg.part d l.length cur, A', c') : DgX)]).length ((l ++ [((Go.Dg.part d l.length cur, A', c') : DgX)]).flatMap dgxL) := by
  rw [List.length_append, List.length_singleton, List.flatMap_append, List.flatMap_cons, List.flatMap_nil, List.append_nil]; exact o9
 have RG := Lib.hid (RdG.of_own o10 (fun x hx => (S5.out.okl x hx).ok))
 have hel : (l ++ [((Go.Dg.part d l.length cur, A', c') : DgX)]).length = l.length + 1 := by rw [List.length_append, List.length_singleton]
 clear o9 o10 g9 f9 bn RY hbz SX
 go_wp2_with fail
 go_ret2
 exact ⟨⟨A9, c9, l ++ [(Go.Dg.part d l.length cur, A', c')], by rw [HVE.out, hel]; rfl, by rw [HVE.out], RG.out, by rw [hel]; exact hcap⟩, B2.out.tr S5.out.bel⟩
end Go.Proofs.YtlchcjnbbhpiaaaGreatDoor
