/- The walk of the statement DigestComplete. -/
import Derived.Test.YtlchcjnbbhpiaaaGreatDoorDyT
import Derived.Test.YtlchcjnbbhpiaaaGreatDoorDyU
import Derived.Test.YtlchcjnbbhpiaaaGreatDoorYae
import Derived.Test.YtlchcjnbbhpiaaaGreatDoorZn
namespace Go.Proofs.YtlchcjnbbhpiaaaGreatDoor
open Go.RowKit Go.Shelf Go.Dg Go.Maps
theorem idd_info : (Tryz.prog.info? 57).map (fun i => (i.zero, i.size, i.bytes)) = some (some (.agg #[.int .u8 0, .int .u8 0, .int .u8 0, .int .u8 0, .int .u8 0, .int .u8 0, .int .u8 0, .int .u8 0, .int .u8 0, .int .u8 0, .int .u8 0, .int .u8 0, .int .u8 0, .int .u8 0, .int .u8 0, .int .u8 0, .int .u8 0, .int .u8 0, .int .u8 0, .int .u8 0, .int .u8 0, .int .u8 0, .int .u8 0, .int .u8 0, .int .u8 0, .int .u8 0, .int .u8 0, .int .u8 0, .int .u8 0, .int .u8 0, .int .u8 0, .int .u8 0]), 32, 32) := by kernel_rfl
section
variable {ops : Array Oper} {rest : List Oper} {o : Oper} {a : Act} {w : World} {Q : Exit → Act → World → Prop}
set_option maxRecDepth 100000 in
theorem wpList_one_idd (hg : o.guard = none) (X : Operand) (ho : o.op = .buildSlice 50 1 #[(0, X)]) (k : List UInt8) (hx : a.eval X = idA k)
  (h : wpList Tryz.prog ops Q rest (a.put o.dst (.slice (some ⟨w.heap.size, 0, none⟩) 1 1)) (w.alloc (.cells (idL k).toArray 57))) : wpList Tryz.prog ops Q (o :: rest) a w := by
 obtain ⟨i0, hi, hz0, hz1, hz2⟩ := info_parts idd_info
 refine wpList_buildSlice hg _ _ 1 _ ho (idL k).toArray i0 _ Tryz.underlying50 hi hz0 (by rw [hz1]; omega) (by rw [hz1]; omega) ?_ h
 rw [hz1]
 have h2 := Great.fill_whole (s := 32) (by decide) [idA k] ((Array.range (1 * 32)).map ((Value.agg #[Value.int .u8 0, Value.int .u8 0, Value.int .u8 0, Value.int .u8 0, Value.int .u8 0, Value.int .u8 0, Value.int .u8 0, Value.int .u8 0, Value.int .u8 0, Value.int .u8 0, Value.int .u8 0, Value.int .u8 0, Value.int .u8 0, Value.int .u8 0, Value.int .u8 0, Value.int .u8 0, Value.int .u8 0, Value.int .u8 0, Value.int .u8 0, Value.int .u8 0, Value.int .u8 0, Value.int .u8 0, Value.int .u8 0, Value.int .u8 0, Value.int .u8 0, Value.int .u8 0, Value.int .u8 0, Value.int .u8 0, Value.int .u8 0, Value.int .u8 0, Value.int .u8 0, Value.int .u8 0]).cells[· % (Value.agg #[Value.int .u8 0, Value.int .u8 0, Value.int .u8 0, Value.int .u8 0, Value.int .u8 0, Value.int .u8 0, Value.int .u8 0, Value.int .u8 0, Value.int .u8 0, Value.int .u8 0, Value.int .u8 0, Value.int .u8 0, Value.int .u8 0, Value.int .u8 0, Value.int .u8 0, Value.int .u8 0, Value.int .u8 0, Value.int .u8 0, Value.int .u8 0, Value.int .u8 0, Value.int .u8 0, Value.int .u8 0, Value.int .u8 0, Value.int .u8 0, Value.int .u8 0, Value.int .u8 0, Value.int .u8 0, Value.int .u8 0, Value.int .u8 0, Value.int .u8 0, Value.int .u8 0, Value.int .u8 0]).cells.size]!)) (fun v hv => by
  obtain rfl := List.mem_singleton.1 hv
  show (idL k).toArray.size = 32
  rw [List.size_toArray, idL_length]) (by simp)
 have e1 : ((#[(0, X)] : Array (Nat × Operand)).map fun (i, y) => (i, a.eval y)).toList = [(0, idA k)] := by
  simp [hx]
 rw [e1]
 refine Eq.trans h2 ?_
 show some (List.flatMap (fun v => v.cells.toList) [idA k]).toArray = _
 rw [List.flatMap_cons, List.flatMap_nil, List.append_nil]
 show some (idL k).toArray.toList.toArray = _
 rfl
/-- append(keys, k) as an operation of the walk: in the row's block, or in one behind all others. -/
theorem wpList_app_id (hgd : o.guard = none) (s x : Operand) (ho : o.op = .call { callee := .builtin .append, args := #[s, x], argTypes := #[50, 50] })
  (v : Value) (ks : List (List UInt8)) (hs : a.eval s = v) (hown : w.ownsRow 0 57 32 v ks.length (ks.flatMap idL)) (b : Nat) (k : List UInt8) (hx : a.eval x = .slice (some ⟨b, 0, none⟩) 1 1) (hr : w.rangeAt b 0 (idL k)) (hlen : ks.length ≤ 1000000)
  (h : ∀ v' w', w'.ownsRow 0 57 32 v' (ks.length + 1) (ks.flatMap idL ++ idL k) → w.grownBy w' v.ownBlock → (v'.ownBlock = v.ownBlock ∨ ∃ g, v'.ownBlock = some g ∧ w.heap.size ≤ g) → wpList Tryz.prog ops Q rest (a.put o.dst v') w') : wpList Tryz.prog ops Q (o :: rest) a w := by
 obtain ⟨i0, hi, hz0, hz1, hz2⟩ := info_parts idd_info
 refine wpList_append_far w hgd s x 50 ho 57 i0 _ 32 32 Tryz.underlying50 hi hz0 hz1 hz2 rfl (by decide) v ks.length _ hs hown ⟨b, 0, none⟩ 1 1 (idL k) hx (by rw [idL_length]) (fun j u hu => ?_) (one_idL k) (by unfold maxLen; omega) (by omega) h
 rw [addr_addN]
 exact hr j u hu
end
section
variable {C : World → Prop} {a : Act} {o : Oper}
theorem run_neqS (w : World) {k : List UInt8} (hk : k.length = 32) : (binOp .neq 57 (idA k) (idA k)).run Tryz.prog w = .ok (.bool false) w := by
 unfold idA
 rw [idL_map hk, run_neq_struct, run_equalIn_bytes w 9998 57 5 32 Tryz.underlying57 Tryz.underlying5 byteSize k k hk hk]
 simp
theorem idd_guard : Tryz.prog.eqGuardType Tryz.prog.depth 57 = false := by kernel_rfl
set_option maxRecDepth 100000 in
theorem quiet_neqS {K : Act → Prop} (X Y : Operand) (t : TypeId) (ho : o.op = .binOp .neq 57 X Y t) {k : List UInt8} (hk : k.length = 32) (hx : a.eval X = idA k) (hy : a.eval Y = idA k) (h : K (a.put o.dst (.bool false))) : o.quiet Tryz.prog a C K :=
 ⟨_, fun w _ => by
  unfold Oper.quietAt execOp
  have g : (eqGuard .neq 57 X Y (idA k) (idA k)).run Tryz.prog w = .ok () w := run_eqGuard_agg w .neq 57 X Y _ _ idd_guard
  simp only [ho, hx, hy, Sem.run_bind, g, run_neqS w hk, Result.andThen_ok, Sem.run_pure]
  exact ⟨rfl, rfl⟩, h⟩
end
/-- Where the law stands: the builder, the keys that were accepted, the keys that were taken. -/
structure LcS (w W : World) (base bb mb : Nat) (v : Value) (B : Bs) (vw : Value) (want : List (List UInt8)) (vg : Value) (got : List (List UInt8)) : Prop where
 bel : Below w.heap.size w W
 bl : BlM W base bb mb v B
 hb : w.heap.size ≤ base
 ow : W.ownsRow 0 57 32 vw want.length (want.flatMap idL)
 lw : ∀ g, vw.ownBlock = some g → w.heap.size ≤ g
 og : W.ownsRow 0 57 32 vg got.length (got.flatMap idL)
 lg : ∀ g, vg.ownBlock = some g → w.heap.size ≤ g
 ap : ∀ g, vw.ownBlock = some g → vg.ownBlock ≠ some g
section
variable {w W W' : World} {base bb mb : Nat} {v v' vw vg vn : Value} {B Bn : Bs} {want got : List (List UInt8)} {k : List UInt8}
theorem LcS.below (h : LcS w W base bb mb v B vw want vg got) (hb : Below W.heap.size W W') : LcS w W' base bb mb v B vw want vg got :=
 ⟨h.bel.tr hb, h.bl.below hb, h.hb, own_below h.ow hb, h.lw, own_below h.og hb, h.lg, h.ap⟩
theorem LcS.butL (h : LcS w W base bb mb v B vw want vg got) (k : ButL (blR bb mb v) W W') (hn : BlM W' base bb mb v' Bn) : LcS w W' base bb mb v' Bn vw want vg got :=
 ⟨h.bel.trans (k.toBelow h.bel.size fun r hr => Nat.le_trans h.hb (h.bl.low r hr)), hn, h.hb,
  row_keep h.ow fun g hg => by obtain ⟨_, cur, e⟩ := row_blk h.ow hg; exact k.block g (blk_lt e) (h.bl.away e (by decide) (by decide)), h.lw,
  row_keep h.og fun g hg => by obtain ⟨_, cur, e⟩ := row_blk h.og hg; exact k.block g (blk_lt e) (h.bl.away e (by decide) (by decide)), h.lg, h.ap⟩
theorem LcS.addW (h : LcS w W base bb mb v B vw want vg got) (ho : W'.ownsRow 0 57 32 vn (want.length + 1) (want.flatMap idL ++ idL k)) (hg : W.grownBy W' vw.ownBlock) (hf : vn.ownBlock = vw.ownBlock ∨ ∃ g, vn.ownBlock = some g ∧ W.heap.size ≤ g) : LcS w W' base bb mb v B vn (want ++ [k]) vg got := by
 have hs := h.bel.size
 refine ⟨h.bel.trans ((Below.refl w.heap.size W).grown hg hs fun k hk => h.lw k hk), h.bl.keep fun i hi => hg.block i (h.bl.lts i hi) fun e => ?_, h.hb, ?_, fun g e => ?_, row_keep h.og fun g hg2 => hg.block g (own_lt h.og hg2) fun e => h.ap g e.symm hg2, h.lg, fun g e e2 => ?_⟩
 ·obtain ⟨_, cur, e2⟩ := row_blk h.ow e.symm
  exact h.bl.away e2 (by decide) (by decide) hi
 ·rw [List.length_append, List.flatMap_append, List.flatMap_cons, List.flatMap_nil, List.append_nil]; exact ho
 ·rcases hf with hf | ⟨g', e', hl⟩
  ·exact h.lw g (hf ▸ e)
  ·rw [e'] at e; cases e; omega
 ·rcases hf with hf | ⟨g', e', hl⟩
  ·exact h.ap g (hf ▸ e) e2
  ·rw [e'] at e; cases e
   have := own_lt h.og e2
   omega
theorem LcS.addG (h : LcS w W base bb mb v B vw want vg got) (ho : W'.ownsRow 0 57 32 vn (got.length + 1) (got.flatMap idL ++ idL k)) (hg : W.grownBy W' vg.ownBlock) (hf : vn.ownBlock = vg.ownBlock ∨ ∃ g, vn.ownBlock = some g ∧ W.heap.size ≤ g) : LcS w W' base bb mb v B vw want vn (got ++ [k]) := by
 have hs := h.bel.size
 refine ⟨h.bel.trans ((Below.refl w.heap.size W).grown hg hs fun k hk => h.lg k hk), h.bl.keep fun i hi => hg.block i (h.bl.lts i hi) fun e => ?_, h.hb, row_keep h.ow fun g hg2 => hg.block g (own_lt h.ow hg2) fun e => h.ap g hg2 e.symm, h.lw, ?_, fun g e => ?_, fun g e e2 => ?_⟩
 ·obtain ⟨_, cur, e2⟩ := row_blk h.og e.symm
  exact h.bl.away e2 (by decide) (by decide) hi
 ·rw [List.length_append, List.flatMap_append, List.flatMap_cons, List.flatMap_nil, List.append_nil]; exact ho
 ·rcases hf with hf | ⟨g', e', hl⟩
  ·exact h.lg g (hf ▸ e)
  ·rw [e'] at e; cases e; omega
 ·rcases hf with hf | ⟨g', e', hl⟩
  ·exact h.ap g e (hf ▸ e2)
  ·rw [e'] at e2; cases e2
   have := own_lt h.ow e
   omega
theorem RdI.grown {A : Option Addr} {its : List It} {row : Option Nat} (h : RdI W A its) (hg : W.grownBy W' row) (hne : ∀ p, A = some p → row ≠ some p.block) : RdI W' A its :=
 ⟨fun hp => by
  obtain ⟨b, o, e, hlt, hc⟩ := h.rd hp
  have hb := hg.block b hlt (fun e2 => hne _ e e2.symm)
  exact ⟨b, o, e, Nat.lt_of_lt_of_le hlt hg.size, fun j x hj i u hu => by rw [World.cell?_of_block hb]; exact hc j x hj i u hu⟩, h.ky⟩
theorem addB_taken (B : Bs) (x : It) (now : Int) : (addB B x now).taken = B.taken := by
 unfold addB
 split <;> rfl
end
set_option maxRecDepth 100000 in
set_option maxHeartbeats 32000000 in
theorem digestComplete_walk (A0 : Option Addr) (c0 : Nat) (os : List OpR) (w : World) (hr : RdO w A0 os) (hc : os.length ≤ c0) (hcm : c0 ≤ maxLen) (hx : ∀ q ∈ os, LenI q.x) (hg : GlD w) :
  Calls Tryz.prog 6 #[.slice A0 os.length c0] w fun e w' => e = .returned (.bool true) ∧ Below w.heap.size w w' := by
 have HK := Lib.hid (fun W (hb : Below w.heap.size w W) => known_any W (hg.below hb))
 have HG := Lib.hid hg
 have HR := Lib.hid hr
 have HX := Lib.hid hx
 have hn : os.length ≤ 9223372036854775807 := by have h : os.length ≤ maxLen := Nat.le_trans hc hcm; unfold maxLen at h; omega
 have HSZ := Lib.hid refit_size
 clear hg hr hcm hx
 go_enter Tryz.func6, Tryz.ntmps6
 go_wp2_with fail
 refine (HK.out _ (Below.refl _ _)).mono ?_; rintro e w2 ⟨rfl, b2⟩
 have B2 := Lib.hid b2
 clear b2
 by_cases g1 : 40 < os.length
 ·go_wp2_with fail
  refine (HK.out _ B2.out).mono ?_; rintro e w3 ⟨rfl, b3⟩
  have B3 := Lib.hid (B2.out.tr b3)
  go_wp2_with fail
  go_ret
  exact ⟨rfl, B3.out⟩
 go_wp2_with fail
 refine (newB_any [84] 3 5 100 w2 (by decide)).mono ?_; rintro e w3 ⟨hres, b3⟩
 have B3 := Lib.hid (B2.out.tr b3)
 have HB2 := Lib.hid B2.out.size
 clear b3 B2 HK
 rcases hres with ⟨h0, bb, mb, rfl, hB⟩ | ⟨hne, rfl⟩
 case inr => exact absurd (by decide) hne
 have BD0 := Lib.hid (BdB.new h0 (by decide))
 have L5 : Hid (LcS w w3 w2.heap.size bb mb (.slice none 0 0) ⟨[84], 3, 5, 100, 0, [], 0, []⟩ (.slice none 0 0) [] (.slice none 0 0) []) := Lib.hid ⟨B3.out, hB, HB2.out, own2_nil _ _ _ _, (fun g e => by cases e), own2_nil _ _ _ _, (fun g e => by cases e), (fun g e => by cases e)⟩
 have CO0 : Hid (CoI ⟨[84], 3, 5, 100, 0, [], 0, []⟩ [] 0) := Lib.hid ⟨rfl, rfl, ⟨Int.le_refl 0, Int.le_refl 0⟩, rfl, List.nodup_nil, by simp, Nat.le_refl 0⟩
 obtain ⟨base, hba⟩ : ∃ q, w2.heap.size = q := ⟨_, rfl⟩
 rw [hba] at L5
 clear hba hB h0 HB2 B3
 go_wp2_with fail
 go_loopg [5, 6, 7, 8] (os.length + 1) (fun gg wv gv iv kv wr => ∃ (k : Nat) (v : Value) (B : Bs) (got : List (List UInt8)), k ≤ os.length + 1 ∧ os.length + 1 - k ≤ gg ∧ kv = i64 k ∧ iv = i64 (B.taken + 1) ∧ Hid (LcS w wr base bb mb v B wv B.added gv got) ∧ Hid (CoI B got k) ∧ Hid (BdB B k) ∧ Hid (k = os.length + 1 → B.wait = []))
 case atStart => exact ⟨0, _, _, [], Nat.zero_le _, by omega, rfl, rfl, L5, CO0, BD0, Lib.hid (by omega)⟩
 case round =>
  obtain ⟨k, v, B, got, hk, hgg, rfl, rfl, LW, CO, BD, HW⟩ := hrel
  clear L5 CO0 BD0
  by_cases hle : k ≤ os.length
  case neg =>
   obtain rfl : k = os.length + 1 := by omega
   have hw := HW.out rfl
   have hgw : B.added = got := by have h := CO.out.eq; rwa [hw, List.map_nil, List.append_nil] at h
   rw [hgw] at LW
   have hgl : got.length ≤ 50 := by have h := CO.out.n; rw [hgw] at h; omega
   have HKY : Hid (∀ x ∈ got, x.length = 32) := Lib.hid (by (show ∀ _, _); rw [← hgw]; exact LW.out.bl.set.1)
   obtain ⟨Aw, cw, hvw⟩ := own2_slice LW.out.ow
   obtain ⟨Ag, cg, hvg⟩ := own2_slice LW.out.og
   subst hvw hvg
   have B5 := Lib.hid LW.out.bel
   have RW5 := Lib.hid (RdK.of_own LW.out.ow HKY.out)
   have RG5 := Lib.hid (RdK.of_own LW.out.og HKY.out)
   have hcw := own2_le LW.out.ow
   have hcg := own2_le LW.out.og
   clear HW hw hgw LW CO BD
   have hqn : ((got.length : Int) != (got.length : Int)) = false := by simp
   go_wp2_with fail
   go_loopg [12] got.length (fun gg kv wr2 => ∃ k2 : Nat, k2 ≤ got.length ∧ got.length - k2 ≤ gg ∧ kv = i64 k2 ∧ Hid (Below wr.heap.size wr wr2))
   case atStart => exact ⟨0, Nat.zero_le _, by omega, rfl, Lib.hid (Below.refl _ _)⟩
   case round =>
    obtain ⟨k2, hk2, hg2, rfl, IW⟩ := hrel
    by_cases hlt : k2 < got.length
    ·obtain ⟨b1, o1, x1, e1, hb1, hx1, hr1, h1⟩ := (RG5.out.below IW.out).at_ hlt
     obtain ⟨b2, o2, x2, e2, hb2, hx2, hr2, h2⟩ := (RW5.out.below IW.out).at_ hlt
     obtain rfl : x1 = x2 := Option.some.inj (hx1.symm.trans hx2)
     subst e1 e2
     have H1 := Lib.hid h1
     have Q1 := Lib.hid hr1
     have Q2 := Lib.hid hr2
     clear hx1 hx2 hr1 hr2 h1 h2
     go_upto_region 30 with fail
     have bd := (Below.refl wr.heap.size wr).drew
     refine Flow.wp_region_segs Flow.Later Flow.Later.refl Flow.Later.trans [] [0, 1, 2, 3, 4, 5, 6, 7, 8] (by kernel_rfl) (by kernel_rfl) ?_
     have I5 := Lib.hid (IW.out.tr bd)
     have D1 := Lib.hid (range_below Q1.out bd)
     have D2 := Lib.hid (range_below Q2.out bd)
     clear bd IW Q1 Q2
     generalize World.drew _ = wd at *
     have qa : ∀ t : Flow.Cls (Flow.Later wd), t.val.rangeAt b1 (o1 + k2 * 32) (idL x1) := fun t => range_below D1.out t.ok
     have qb : ∀ t : Flow.Cls (Flow.Later wd), t.val.rangeAt b2 (o2 + k2 * 32) (idL x1) := fun t => range_below D2.out t.ok
     haveI nonE := Flow.cls_nonempty wd
     rw [Flow.wpSegs_nil]
     simp only [Flow.pick, List.getElem?_toArray, List.getElem?_cons_succ, List.getElem?_cons_zero]
     iterate 3 go_big_quiet_step (fail)
     refine BigFrame.wpQuiet_want rfl (fun K hK => quiet_load_mid 57 _ rfl b1 (o1 + k2 * 32) rfl (idL x1) _ (fun _ he => by obtain ⟨t, rfl⟩ := he; exact qa t) Tryz.underlying57 rfl (by rw [idL_length]; exact id_size) (hK _ ?_))
     clear hK K
     simp only [Act.put, List.setIfInBounds_toArray, List.set_cons_succ, List.set_cons_zero]
     iterate 3 go_big_quiet_step (fail)
     refine BigFrame.wpQuiet_want rfl (fun K hK => quiet_load_mid 57 _ rfl b2 (o2 + k2 * 32) rfl (idL x1) _ (fun _ he => by obtain ⟨t, rfl⟩ := he; exact qb t) Tryz.underlying57 rfl (by rw [idL_length]; exact id_size) (hK _ ?_))
     clear hK K
     simp only [Act.put, List.setIfInBounds_toArray, List.set_cons_succ, List.set_cons_zero]
     refine BigFrame.wpQuiet_want rfl (fun K hK => quiet_neqS _ _ _ rfl H1.out rfl rfl (hK _ ?_))
     clear hK K
     simp only [Act.put, List.setIfInBounds_toArray, List.set_cons_succ, List.set_cons_zero]
     refine wpQuiet_nil ?_
     clear nonE qa qb
     go_wp2_with fail
     go_roundg (got.length - (k2 + 1))
     case measure => omega
     case rel => exact ⟨k2 + 1, by omega, by omega, by simp, I5⟩
    ·obtain rfl : k2 = got.length := by omega
     have B6 := Lib.hid (B5.out.tr IW.out)
     go_wp2_with fail
     go_ret
     exact ⟨rfl, B6.out⟩
  clear HW
  go_upto_region 11 with fail
  go_cut [44] (fun t44 wx => wx = wr ∧ ∃ tb, t44 = .bool tb ∧ Hid (tb = true → k < os.length))
  case first =>
   by_cases hlt : k < os.length
   ·obtain ⟨b, o, q, hA, hbl, hq, hrg, h32⟩ := HR.out.at_ hlt
    subst hA
    have kd := op_kd (show wr.rangeAt b (o + k * 38) (opC q) from fun j u hj => by
     rw [World.cell?_of_block (LW.out.bel.block b hbl)]
     exact hrg j u hj)
    clear hrg h32
    go_wp2_with fail
    go_meet
    exact ⟨rfl, _, rfl, Lib.hid fun _ => hlt⟩
   ·go_wp2_with fail
    go_meet
    exact ⟨rfl, false, rfl, Lib.hid fun h => by cases h⟩
  obtain ⟨rfl, tb, rfl, HTB⟩ := hcut
  generalize wc = W5 at *
  cases tb with
  | true =>
   have hlt := HTB.out rfl
   obtain ⟨b, o, q, hA, hbl, hq, hrg, h32⟩ := HR.out.at_ hlt
   subst hA
   have hL := HX.out q (List.mem_of_getElem? hq)
   have HL := Lib.hid hL
   have HRG := Lib.hid hrg
   have H32 := Lib.hid h32
   have HRW : ∀ W, Below w.heap.size w W → W.rangeAt b (o + k * 38) (opC q) := fun W hb j u hj => by
    rw [World.cell?_of_block (hb.block b hbl)]
    exact HRG.out j u hj
   have HRW := Lib.hid HRW
   have bc : W5.cell? ⟨b, o + k * 38 + 1 + 35, none⟩ = some (enS q.x.bo) := op_it (HRW.out W5 LW.out.bel) 35 _ rfl
   have z4 : (⟨q.x.bo.toArray⟩ : ByteArray).size = q.x.bo.length := by show q.x.bo.toArray.size = _; simp
   have hbm : q.x.bo.length ≤ 9223372036854775807 := by have := hL.2.2; unfold maxLen at this; exact this
   clear hrg h32 HRG HTB hL
   by_cases g2 : 200 < q.x.bo.length
   ·go_wp2_with fail
    go_ret
    exact ⟨rfl, LW.out.bel⟩
   go_upto_region 14 with fail
   have HBO : Hid (q.x.bo.length ≤ 200) := Lib.hid (by (show q.x.bo.length ≤ 200); omega)
   clear g2 z4 bc hbm
   have HAD := Lib.hid (fun u (h : BlM u base bb mb v B) => addW_any base bb mb v B q.x q.nw u h H32.out (by have := HL.out.1; unfold maxLen at this; exact this) (by have := HL.out.2.1; unfold maxLen at this; exact this) (by have := CO.out.n; omega))
   have CO1 := Lib.hid (CO.out.add (x := q.x) (now := q.nw) H32.out HBO.out)
   have BD1 := Lib.hid (BD.out.add (x := q.x) (now := q.nw) (fun h => addE_small h HBO.out))
   have HAY := Lib.hid (fun (h : addE B q.x q.nw = 0) => (show (addB B q.x q.nw).added = B.added ++ [q.x.ky] by rw [addB_yes h]))
   have HAN := Lib.hid (fun (h : addE B q.x q.nw ≠ 0) => (show (addB B q.x q.nw).added = B.added by rw [addB_no h]))
   have HAT := Lib.hid (addB_taken B q.x q.nw)
   have hnl := CO.out.n
   have bd := (Below.refl W5.heap.size W5).drew
   refine Flow.wp_region_segs (fun u v => Below w.heap.size u v) (fun _ => Below.refl _ _) (fun _ _ _ h k => h.trans k) [([0, 1, 2, 3, 4, 5, 7, 8, 9, 10, 11], 6), ([], 12)] [13] (by kernel_rfl) (by kernel_rfl) ?_
   have L6 := Lib.hid (LW.out.below bd)
   clear bd LW
   generalize World.drew _ = wd at *
   have qX : ∀ t : Flow.Cls (Below w.heap.size wd), t.val.rangeAt b (o + k * 38 + 1) (itL q.x) := fun t => op_it (HRW.out t.val (L6.out.bel.trans t.ok))
   have qN : ∀ t : Flow.Cls (Below w.heap.size wd), t.val.cell? ⟨b, o + k * 38 + 37, none⟩ = some (i64 q.nw) := fun t => op_nw (HRW.out t.val (L6.out.bel.trans t.ok))
   have nwc := op_nw (HRW.out wd L6.out.bel)
   haveI nonE : Nonempty (Flow.Cls (Below w.heap.size wd)) := ⟨⟨wd, Below.refl _ _⟩⟩
   rw [Flow.wpSegs_cons]
   simp only [Flow.pick, List.getElem?_toArray, List.getElem?_cons_succ, List.getElem?_cons_zero]
   iterate 5 go_big_quiet_step (fail)
   refine BigFrame.wpQuiet_want rfl (fun K hK => quiet_load_mid 53 _ rfl b (o + k * 38 + 1) rfl (itL q.x) _ (fun _ he => by obtain ⟨t, rfl⟩ := he; exact qX t) Tryz.underlying53 rfl (by rw [itL_length]; exact HSZ.out) (hK _ ?_))
   clear hK K
   simp only [Act.put, List.setIfInBounds_toArray, List.set_cons_succ, List.set_cons_zero]
   iterate 5 go_big_quiet_step (fail)
   refine wpQuiet_nil ?_
   clear nonE qX qN nwc
   rw [Flow.callAt_eq]
   simp only [List.getElem?_toArray, List.getElem?_cons_succ, List.getElem?_cons_zero]
   rw [if_pos (by rfl)]
   refine Flow.wp_behind (fun K0 hK => ?_)
   go_wp2_with fail
   refine (item_any q.x wd).mono ?_; rintro e w7 ⟨rfl, b7⟩
   refine hK.out _ _ ⟨b7.mono L6.out.bel.size, ?_⟩
   clear hK K0
   have L7 := Lib.hid (L6.out.below b7)
   clear b7 L6
   rw [Flow.wpSegs_cons]
   simp only [Flow.pick]
   refine wpQuiet_nil ?_
   rw [Flow.callAt_eq]
   simp only [List.getElem?_toArray, List.getElem?_cons_succ, List.getElem?_cons_zero]
   rw [if_pos (by rfl)]
   refine Flow.wp_behind (fun K0 hK => ?_)
   go_wp2_with fail
   refine (HAD.out w7 L7.out.bl).mono ?_; rintro e w8 ⟨⟨v', rfl, bl8⟩, but8⟩
   refine hK.out _ _ ⟨but8.toBelow L7.out.bel.size (fun r hr => Nat.le_trans L7.out.hb (L7.out.bl.low r hr)), ?_⟩
   clear hK K0
   have L8 := Lib.hid (L7.out.butL but8 bl8)
   clear but8 bl8 L7 HAD
   obtain ⟨B1, hB1⟩ : ∃ z, addB B q.x q.nw = z := ⟨_, rfl⟩
   obtain ⟨ec, hec⟩ : ∃ z, addE B q.x q.nw = z := ⟨_, rfl⟩
   simp only [hB1, hec] at L8 BD1 CO1 HAY HAN HAT ⊢
   clear hB1 hec BD CO
   haveI nonE : Nonempty (Flow.Cls (Below w.heap.size w8)) := ⟨⟨w8, Below.refl _ _⟩⟩
   rw [Flow.wpSegs_nil]
   simp only [Flow.pick, List.getElem?_toArray, List.getElem?_cons_succ, List.getElem?_cons_zero]
   repeat go_big_quiet_step (fail)
   refine wpQuiet_nil ?_
   clear nonE
   by_cases h0 : ec = 0
   ·have hq : (ec == 0) = true := by simpa using h0
    have hA := HAY.out h0
    have HIT := Lib.hid (range_ky (op_it (HRW.out w8 L8.out.bel)))
    rw [hq]
    clear HAY HAN h0 hq
    go_wp2_with (first | refine wpList_load_mid rfl 51 _ rfl b (o + k * 38 + 1 + 3) rfl (idL q.x.ky) _ HIT.out Tryz.underlying51 rfl (by kernel_rfl) ?_ | refine wpList_one_idd rfl _ rfl q.x.ky rfl ?_ | (at_builtin; refine wpList_app_id rfl _ _ rfl _ B.added rfl (own_below L8.out.ow (below_new _ _)) w8.heap.size q.x.ky rfl (range_blk (blk_new w8 (.cells (idL q.x.ky).toArray 57))) (by omega) ?_; intro v9 w9 o9 g9 f9))
    have LX := Lib.hid ((L8.out.below (below_new _ _)).addW o9 g9 f9)
    clear o9 g9 f9 HIT L8
    rw [← hA] at LX
    have LY := Lib.hid LX.out
    clear LX hA
    go_wp2_with fail
    go_roundg (os.length + 1 - (k + 1))
    case measure => omega
    case rel => exact ⟨k + 1, v', B1, got, by omega, by omega, by simp, by rw [HAT.out], LY, CO1, BD1, Lib.hid (by omega)⟩
   ·have hq : (ec == 0) = false := by simpa using h0
    have hA := HAN.out h0
    rw [← hA] at L8
    have LY := Lib.hid L8.out
    rw [hq]
    clear HAY HAN h0 hq L8 hA
    go_wp2_with fail
    go_roundg (os.length + 1 - (k + 1))
    case measure => omega
    case rel => exact ⟨k + 1, v', B1, got, by omega, by omega, by simp, by rw [HAT.out], LY, CO1, BD1, Lib.hid (by omega)⟩
  | false =>
   clear HTB
   have HT := Lib.hid (HG.out.below LW.out.bel).tab
   have HTK := Lib.hid (take_u base bb mb v B k 5 W5 LW.out.bl HT.out BD.out (by omega))
   have BD1 := Lib.hid (BD.out.take 5)
   go_wp2_with fail
   refine HTK.out.mono ?_; rintro e w6 ⟨⟨P6, p6, v', rfl, rd6, lc6, bl6, hob⟩, but6⟩
   have L6 := Lib.hid (LW.out.butL but6 bl6)
   have R6 := Lib.hid rd6
   have HNE : Hid (∀ p, P6 = some p → u6.ownBlock ≠ some p.block) := Lib.hid (fun p hp e => by
    obtain ⟨_, cur, e2⟩ := row_blk LW.out.og e
    exact LW.out.bl.away e2 (by decide) (by decide) (hob p hp))
   clear rd6 lc6 bl6 but6 HTK LW HT hob
   by_cases h0 : B.wait = []
   ·have hE := CO.out.take0 h0
    have hBT : takeB B 5 = B := takeB_no (by rw [hE]; decide)
    have CO1 := Lib.hid (CO.out.mono (Nat.le_succ k))
    rw [hBT] at L6 BD1
    rw [hE]
    have HWE := Lib.hid h0
    obtain ⟨dd, hdd⟩ : ∃ z, tkD B 5 = z := ⟨_, rfl⟩
    rw [hdd]
    clear hE hBT h0 R6 HNE CO BD hdd
    go_upto_region 17 with fail
    have L7 := Lib.hid (L6.out.below (below_new w6 (.cells #[enS dd.ti, i64 dd.vo, i64 dd.ie, i64 dd.da, .slice P6 dd.its.length p6] 32)))
    clear L6
    generalize World.alloc w6 _ = w7 at *
    go_wp2_with fail
    go_roundg (os.length + 1 - (k + 1))
    case measure => omega
    case rel => exact ⟨k + 1, v', B, got, by omega, by omega, by simp, rfl, L7, CO1, BD1, Lib.hid fun _ => HWE.out⟩
   ·have hE := CO.out.take1 (by omega) h0
    have CO1 := Lib.hid (CO.out.taken hE)
    have hvo := CO.out.vo
    have hD : tkD B 5 = takeD B 5 := by unfold tkD; rw [if_pos hE]
    have hBT := takeB_yes hE
    have hwl := CO.out.wt
    have GL : Hid (got.length ≤ 1000) := Lib.hid (by have h := CO.out.n; rw [CO.out.eq, List.length_append] at h; (show got.length ≤ 1000); omega)
    have htk1 := CO.out.tk.1
    have htk2 := CO.out.tk.2
    rw [hE]
    rw [hD] at R6 ⊢
    have hd1 : dgA (takeD B 5) P6 p6 = .agg #[enS B.ti, i64 3, i64 (B.taken + 1), i64 5, .slice P6 B.wait.length p6] := by
     show Value.agg #[enS B.ti, i64 B.vo, i64 (B.taken + 1), i64 5, .slice P6 B.wait.length p6] = _
     rw [hvo]
    have R6 : Hid (RdI w6 P6 B.wait) := Lib.hid R6.out
    have HBA : Hid ((takeB B 5).added = B.added) := Lib.hid (by (show _ = _); rw [hBT])
    have HBW : Hid ((takeB B 5).wait = []) := Lib.hid (by (show _ = _); rw [hBT])
    have HBK : Hid ((takeB B 5).taken = B.taken + 1) := Lib.hid (by (show _ = _); rw [hBT])
    obtain ⟨B1, hB1⟩ : ∃ z, takeB B 5 = z := ⟨_, rfl⟩
    rw [hB1] at L6 BD1 CO1 HBA HBW HBK
    simp only [hd1]
    clear hE hD hBT h0 hd1 hB1 hvo CO BD
    go_upto_region 18 with fail
    have bn := below_new w6 (.cells #[enS B.ti, i64 3, i64 (B.taken + 1), i64 5, .slice P6 B.wait.length p6] 32)
    have L7 := Lib.hid (L6.out.below bn)
    have R7 := Lib.hid (R6.out.below bn)
    have D7 := Lib.hid (blk_new w6 (.cells #[enS B.ti, i64 3, i64 (B.taken + 1), i64 5, .slice P6 B.wait.length p6] 32))
    clear bn L6 R6
    obtain ⟨db, hdb⟩ : ∃ z, w6.heap.size = z := ⟨_, rfl⟩
    rw [hdb] at D7 ⊢
    clear hdb
    generalize w6.alloc (.cells #[enS B.ti, i64 3, i64 (B.taken + 1), i64 5, .slice P6 B.wait.length p6] 32) = w7 at *
    have c1 : w7.cell? ⟨db, 1, none⟩ = some (i64 3) := blk_cell D7.out 1
    have c2 : w7.cell? ⟨db, 2, none⟩ = some (i64 (B.taken + 1)) := blk_cell D7.out 2
    have hqt : (B.taken + 1 != B.taken + 1) = false := by simp
    have L0 : Hid (LcS w w7 base bb mb v' B1 u5 B.added u6 (got ++ (B.wait.take 0).map (·.ky))) := Lib.hid (by rw [List.take_zero, List.map_nil, List.append_nil]; exact L7.out)
    clear L7
    go_upto_region 21 with fail
    clear c1 c2 hqt
    go_wp2_with fail
    go_loopg [6, 11] B.wait.length (fun gg gv jv wr2 => ∃ (j : Nat), j ≤ B.wait.length ∧ B.wait.length - j ≤ gg ∧ jv = i64 j ∧ Hid (LcS w wr2 base bb mb v' B1 u5 B.added gv (got ++ (B.wait.take j).map (·.ky))) ∧ Hid (wr2.heap[db]? = some (.cells #[enS B.ti, i64 3, i64 (B.taken + 1), i64 5, .slice P6 B.wait.length p6] 32 (0, 0))) ∧ Hid (RdI wr2 P6 B.wait) ∧ Hid (∀ p, P6 = some p → gv.ownBlock ≠ some p.block))
    case atStart => exact ⟨0, Nat.zero_le _, by omega, rfl, L0, D7, R7, HNE⟩
    case round =>
     obtain ⟨j, hj, hgj, rfl, LJ, DJ, RJ, NJ⟩ := hrel
     clear L0 D7 R7 HNE
     have c4 : wr.cell? ⟨db, 4, none⟩ = some (.slice P6 B.wait.length p6) := blk_cell DJ.out 4
     by_cases hlt : j < B.wait.length
     ·obtain ⟨b1, o1, x1, e1, hb1, hx1, hr1, h1⟩ := RJ.out.at_ hlt
      subst e1
      have HIT := Lib.hid (range_ky hr1)
      have HXJ := Lib.hid hx1
      have hgl : (got ++ (B.wait.take j).map (·.ky)).length ≤ 1000000 := by
       rw [List.length_append, List.length_map, List.length_take]; have := GL.out; omega
      have HGL := Lib.hid hgl
      clear hx1 hr1 h1 hgl
      go_wp2_with (first | refine wpList_load_mid rfl 57 _ rfl b1 (o1 + j * 36 + 3) rfl (idL x1.ky) _ HIT.out Tryz.underlying57 rfl (by kernel_rfl) ?_ | refine wpList_one_idd rfl _ rfl x1.ky rfl ?_ | (at_builtin; refine wpList_app_id rfl _ _ rfl _ (got ++ (B.wait.take j).map (·.ky)) rfl (own_below LJ.out.og (below_new _ _)) wr.heap.size x1.ky rfl (range_blk (blk_new wr (.cells (idL x1.ky).toArray 57))) HGL.out ?_; intro v9 w9 o9 g9 f9))
      have bn := below_new wr (.cells (idL x1.ky).toArray 57)
      have LX := (LJ.out.below bn).addG o9 g9 f9
      have eG : got ++ (B.wait.take j).map (·.ky) ++ [x1.ky] = got ++ (B.wait.take (j + 1)).map (·.ky) := by
       rw [take_one HXJ.out, List.map_append, List.append_assoc]; rfl
      rw [eG] at LX
      have LY := Lib.hid LX
      have DD := blk_below bn DJ.out
      have DY := Lib.hid ((g9.block db (blk_lt DD) (fun e => by
       obtain ⟨_, cur, e2⟩ := row_blk LJ.out.og e.symm
       rw [DJ.out] at e2; cases e2)).trans DD)
      have RY := Lib.hid ((RJ.out.below bn).grown g9 NJ.out)
      have NY : Hid (∀ p : Addr, some (⟨b1, o1, none⟩ : Addr) = some p → v9.ownBlock ≠ some p.block) := Lib.hid (fun p hp e => by
       rcases f9 with f | ⟨g, f, hl⟩
       ·exact NJ.out p hp (f ▸ e)
       ·rw [f] at e
        cases hp
        have : g = b1 := by injection e
        rw [World.size_alloc] at hl
        omega)
      clear bn LX eG DD o9 g9 f9 LJ DJ RJ NJ HIT HGL
      go_wp2_with fail
      go_roundg (B.wait.length - (j + 1))
      case measure => omega
      case rel => exact ⟨j + 1, by omega, by omega, by simp, LY, DY, RY, NY⟩
     ·obtain rfl : j = B.wait.length := by omega
      have LZ : Hid (LcS w wr base bb mb v' B1 u5 B1.added u6 (got ++ B.wait.map (·.ky))) := Lib.hid (by
       have h := LJ.out
       rw [List.take_length] at h
       rw [HBA.out]; exact h)
      clear LJ DJ RJ NJ
      go_wp2_with fail
      go_roundg (os.length + 1 - (k + 1))
      case measure => omega
      case rel => exact ⟨k + 1, v', B1, got ++ B.wait.map (·.ky), by omega, by omega, by simp, by rw [HBK.out], LZ, CO1, BD1, Lib.hid fun _ => HBW.out⟩
end Go.Proofs.YtlchcjnbbhpiaaaGreatDoor
