/- Contracts: write; a digest's text and its length.
   Contracts: a digest's text; its length.
   Contracts: Check, Bundle, Contents.
   Contracts: Bundle, Contents.
   Contract: Protect. -/
import Derived.Test.YtlchcjnbbhpiaaaGreatDoorZs
import Derived.Test.YtlchcjnbbhpiaaaGreatDoorZa
namespace Go.Proofs.YtlchcjnbbhpiaaaGreatDoor
open Go.RowKit Go.Shelf Go.Dg Go.Rg
attribute [local go_sem] Oper.semAt_some
theorem own_sk {N s : Nat} {u v : World} {base n size : Nat} {e : TypeId} {val : Value} {xs : List Value} (h : u.ownsRow base e size val n xs) (he : e ≠ 5) (hs : s < base) (hk : SkB N s u v) : v.ownsRow base e size val n xs :=
 own_keep h fun k _ e2 => by
  rcases h.2 with ⟨e1, _⟩ | ⟨g, cap, cur, e1, hb, hg, _⟩
  ·subst e1; cases e2
  ·subst e1; cases e2
   exact (hk.blk hg (by omega) he).trans hg.symm
theorem lnL_flat (l : List UInt8) : [[32, 32], l, [10]].flatten = unl [wSp ++ l] := by simp [unl, wSp]
set_option maxRecDepth 100000 in
set_option maxHeartbeats 16000000 in
theorem write_any (F s M : Nat) (T : List UInt8 → World → Prop) (d : Dg) (A : Option Addr) (c : Nat) (w0 w : World) (t : List UInt8) (hSk : Sink F s w0.heap.size M T)
  (hT : T t w) (hb : Below w0.heap.size w0 w) (hr : RdI w0 A d.its) (hc : d.its.length ≤ c) (ht : Tab w0) (hok : DgOk d) (hs : ∀ x ∈ d.its, x.su.length ≤ 10000) (hM : t.length + (textD d).length ≤ M) :
  Calls Tryz.prog 83 #[dgA d A c, .func (.func F) #[] #[.pointer (some ⟨s, 0, none⟩)]] w fun e w' => e = .returned (.tuple #[]) ∧ T (t ++ textD d) w' ∧ Below w0.heap.size w0 w' := by
 obtain ⟨ti, vo, ie, da, its⟩ := d
 have SK := Lib.hid hSk
 have HB := Lib.hid hb
 have HR := Lib.hid hr
 have HTA := Lib.hid ht
 have HOK := Lib.hid hok
 have HM := Lib.hid hM
 have HDA := Lib.hid (vld_min hok.da)
 have HT0 := Lib.hid hT
 have hn := hok.n
 have hent := hSk.ent
 obtain ⟨hNs, hsz⟩ := hSk.lt _ _ hT
 simp only at hn hc
 clear hSk hT hb hr ht hok hM
 refine callsIn_wide.1 (callsIn_of_wp_marks (n := 10) Tryz.func83 rfl trivial ?_)
 refine wpIn_wide.2 ?_
 simp only [Tryz.ntmps83, List.size_toArray, List.length_cons, List.length_nil, Nat.reduceAdd, Nat.reduceSub, Array.replicate_succ, Array.replicate_zero, List.push_toArray, List.append_toArray, List.nil_append, List.cons_append]
 go_wp2_with fail
 generalize hwb : (w.alloc (.cells #[enS ti, i64 vo, i64 ie, i64 da, .slice A its.length c] 32)).alloc _ = wb
 have kb : Below w.heap.size w wb := hwb ▸ (below_new _ _).tr (below_new _ _)
 have HD : Hid (wb.heap[w.heap.size]? = some (.cells #[enS ti, i64 vo, i64 ie, i64 da, .slice A its.length c] 32 (0, 0))) := Lib.hid (hwb ▸ blk_old _ (blk_new _ _))
 have HO : Hid (wb.heap[w.heap.size + 1]? = some (.cells #[.func (.func F) #[] #[.pointer (some ⟨s, 0, none⟩)]] 138 (0, 0))) := Lib.hid (by
  have := blk_new (w.alloc (.cells #[enS ti, i64 vo, i64 ie, i64 da, .slice A its.length c] 32)) (.cells #[.func (.func F) #[] #[.pointer (some ⟨s, 0, none⟩)]] 138)
  rw [World.size_alloc] at this
  exact hwb ▸ this)
 have hNw : w0.heap.size ≤ wb.heap.size := Nat.le_trans HB.out.size kb.size
 have hsw : s < wb.heap.size := by have := kb.size; omega
 have HBB := Lib.hid (HB.out.tr kb)
 have S1 : Hid (St T w0.heap.size s wb [] t wb) := Lib.hid ⟨SK.out.keep _ _ _ HT0.out (SkW.of_below kb hsz), SkB.refl _ _ _, by simp, by simp⟩
 obtain ⟨b2, hb2⟩ : ∃ q, w.heap.size = q := ⟨_, rfl⟩
 simp only [hb2] at HD HO hsz ⊢
 clear kb hwb HT0 HB
 refine (Dt.format_yes da _ HDA.out (HTA.out.below HBB.out)).mono ?_; rintro e w2 ⟨rfl, b2'⟩
 have S2 := Lib.hid (S1.out.below SK.out hNw hsw b2')
 clear b2' S1
 go_wp2_with fail
 refine Flow.wp_region_segs (SkB w0.heap.size s) (SkB.refl _ _) (fun _ _ _ h k => h.trans k) [([0, 1, 3], 2), ([], 4), ([], 5)] [] (by kernel_rfl) (by kernel_rfl) ?_
 have b' : Below w2.heap.size w2 (World.drew w2) := (Below.refl _ _).drew
 have S3 := Lib.hid (S2.out.below SK.out hNw hsw b')
 clear b' S2
 generalize World.drew w2 = w3 at *
 have O3 := Lib.hid (S3.out.blk HO.out (by omega) (by decide))
 have D3 := Lib.hid (S3.out.blk HD.out (by omega) (by decide))
 have K0 : ∀ (g : Nat) (cs : Array Value) (ty : TypeId) (fr : Nat × Nat), w3.heap[g]? = some (.cells cs ty fr) → g ≠ s → ty ≠ 5 → ∀ t : Flow.Cls (SkB w0.heap.size s w3), t.val.heap[g]? = some (.cells cs ty fr) := fun g cs ty fr hg h1 h2 t => t.2.blk hg h1 h2
 have z0 := fun t => blk_cell (K0 _ _ _ _ O3.out (by omega) (by decide) t) 0
 haveI nonE : Nonempty (Flow.Cls (SkB w0.heap.size s w3)) := ⟨⟨w3, SkB.refl _ _ _⟩⟩
 rw [Flow.wpSegs_cons]
 simp only [Flow.pick, List.getElem?_toArray, List.getElem?_cons_succ, List.getElem?_cons_zero]
 go_big_quiet_step (fail)
 refine BigFrame.wpQuiet_want rfl (fun K hK => quiet_load_mid 32 _ rfl b2 0 rfl [enS ti, i64 vo, i64 ie, i64 da, .slice A its.length c] _ (fun _ he => by obtain ⟨t, rfl⟩ := he; exact range_blk (K0 _ _ _ _ D3.out (by omega) (by decide) t)) Tryz.underlying32 rfl (by kernel_rfl) (hK _ ?_))
 clear hK K
 simp only [Act.put, List.setIfInBounds_toArray, List.set_cons_succ, List.set_cons_zero]
 go_big_quiet_step (fail)
 refine wpQuiet_nil ?_
 clear nonE z0 K0
 rw [Flow.callAt_eq]
 simp only [List.getElem?_toArray, List.getElem?_cons_succ, List.getElem?_cons_zero]
 rw [if_pos (by rfl)]
 refine Flow.wp_behind (fun K hK => ?_)
 go_wp2_with fail
 refine (head_any ⟨ti, vo, ie, da, its⟩ A c _ (HTA.out.below (HBB.out.trans S3.out.k.below)) HOK.out.ti HOK.out.vo HOK.out.ie).mono ?_; rintro e w4 ⟨rfl, b4⟩
 refine hK.out _ _ ⟨SkB.of_below b4 (by have := S3.out.size; omega), ?_⟩
 clear hK K
 have S4 := Lib.hid (S3.out.below SK.out hNw hsw b4)
 clear b4 S3 D3 O3
 rw [Flow.wpSegs_cons]
 simp only [Flow.pick]
 refine wpQuiet_nil ?_
 rw [Flow.callAt_eq]
 simp only [List.getElem?_toArray, List.getElem?_cons_succ, List.getElem?_cons_zero]
 rw [if_pos (by rfl)]
 refine Flow.wp_behind (fun K hK => ?_)
 go_wp2_with fail
 refine hK.out _ _ ⟨SkB.of_below (below_new _ _) (by have := S4.out.size; omega), ?_⟩
 clear hK K
 have HSN := Lib.hid (fun cs (hcs : cs = (List.map enS [headT ⟨ti, vo, ie, da, its⟩, [10, 68, 97, 116, 101, 58, 32], fm da, [10, 84, 111, 112, 105, 99, 115, 58, 10]]).toArray) => sink_step S4.out SK.out hNw hsw [headT ⟨ti, vo, ie, da, its⟩, [10, 68, 97, 116, 101, 58, 32], fm da, [10, 84, 111, 112, 105, 99, 115, 58, 10]] cs hcs (by simp) (by simp) (by
  have h1 := topL_flat ⟨ti, vo, ie, da, its⟩
  rw [h1]
  have h2 := len_pre HM.out (L := topL ⟨ti, vo, ie, da, its⟩) (R := (linesD its).map (wSp ++ ·) ++ [sepT] ++ its.flatMap itLs ++ [wEnd ++ headT ⟨ti, vo, ie, da, its⟩]) (by rw [tLs_eq]; simp)
  rw [List.length_append] at h2; exact h2))
 rw [Flow.wpSegs_cons]
 simp only [Flow.pick]
 refine wpQuiet_nil ?_
 rw [Flow.callAt_eq]
 simp only [List.getElem?_toArray, List.getElem?_cons_succ, List.getElem?_cons_zero]
 rw [if_pos (by rfl)]
 refine Flow.wp_behind (fun K hK => ?_)
 go_wp2_with fail
 refine (HSN.out _ rfl).mono ?_; rintro e w6 ⟨rfl, S6, -, k6⟩
 refine hK.out _ _ ⟨k6, ?_⟩
 clear hK K
 rw [topL_flat ⟨ti, vo, ie, da, its⟩] at S6
 have S6 := Lib.hid S6
 clear k6 S4 HSN
 rw [Flow.wpSegs_nil]
 simp only [Flow.pick]
 refine wpQuiet_nil ?_
 have hrg := range_blk (cs := [enS ti, i64 vo, i64 ie, i64 da, .slice A its.length c]) (S6.out.blk HD.out (by omega) (by decide))
 have HRG := Lib.hid hrg
 clear hrg
 go_wp2_with (refine wpList_load_mid rfl 32 _ rfl b2 0 rfl [enS ti, i64 vo, i64 ie, i64 da, .slice A its.length c] _ HRG.out Tryz.underlying32 rfl (by kernel_rfl) ?_)
 clear HRG
 refine (contents_any ⟨ti, vo, ie, da, its⟩ A c w6 (HR.out.below (HBB.out.trans S6.out.k.below)) hc (HTA.out.below (HBB.out.trans S6.out.k.below)) hn hs).mono ?_; rintro e w7 ⟨⟨v7, rfl, own7⟩, b7⟩
 have S7 := Lib.hid (S6.out.below SK.out hNw hsw b7)
 have hsz6 := S6.out.size
 obtain ⟨LN, hLN⟩ : ∃ q, linesD its = q := ⟨_, rfl⟩
 have HTL := Lib.hid (hLN ▸ tLs_eq ⟨ti, vo, ie, da, its⟩)
 rw [hLN] at own7
 obtain ⟨A7, c7, rfl⟩ := own2_slice own7
 have OW7 := Lib.hid own7
 obtain ⟨-, -, hlc⟩ := Rd.of_own own7
 have hln : LN.length ≤ 100000 := by
  rw [← hLN]; unfold linesD; rw [List.length_map]
  have := subj_len its; omega
 obtain ⟨B7, hB7⟩ : ∃ q, w6.heap.size = q := ⟨_, rfl⟩
 rw [hB7] at OW7 hsz6
 clear S6 own7 b7 hLN hB7
 have I0 : Hid (St T w0.heap.size s wb [] (t ++ unl (topL ⟨ti, vo, ie, da, its⟩ ++ (LN.take 0).map (wSp ++ ·))) w7 ∧ w7.ownsRow B7 9 1 (.slice A7 LN.length c7) LN.length (LN.map enS)) := Lib.hid ⟨by simpa using S7.out, OW7.out⟩
 clear S7 OW7
 go_wp2_with fail
 go_loopg [7, 28] LN.length (fun gg _ kv wr => ∃ k : Nat, k ≤ LN.length ∧ LN.length - k ≤ gg ∧ kv = i64 k ∧ Hid (St T w0.heap.size s wb [] (t ++ unl (topL ⟨ti, vo, ie, da, its⟩ ++ (LN.take k).map (wSp ++ ·))) wr ∧ wr.ownsRow B7 9 1 (.slice A7 LN.length c7) LN.length (LN.map enS)))
 case atStart => exact ⟨0, Nat.zero_le _, by omega, rfl, I0⟩
 case round =>
  obtain ⟨k, hk, hgg, rfl, IW⟩ := hrel
  clear I0
  by_cases hlt : k < LN.length
  ·obtain ⟨b, o, l, rfl, hbl, hx, hcell⟩ := (Rd.of_own IW.out.2).1.at_ hlt
   have HX := Lib.hid hx
   have ho := blk_cell (IW.out.1.blk HO.out (by omega) (by decide)) 0
   clear hx
   go_wp2_with fail
   refine (sink_step IW.out.1 SK.out hNw hsw [[32, 32], l, [10]] _ rfl (by simp) (by simp) (len_more HM.out (R := (LN.drop (k + 1)).map (wSp ++ ·) ++ [sepT] ++ its.flatMap itLs ++ [wEnd ++ headT ⟨ti, vo, ie, da, its⟩]) (by rw [HTL.out, map_at (wSp ++ ·) HX.out]; simp) (lnL_flat l))).mono ?_
   rintro e W3 ⟨rfl, S3, k3, -⟩
   rw [more_eq (lnL_flat l), List.append_assoc, ← take_one_map (wSp ++ ·) HX.out] at S3
   have IN : Hid (St T w0.heap.size s wb [] (t ++ unl (topL ⟨ti, vo, ie, da, its⟩ ++ (LN.take (k + 1)).map (wSp ++ ·))) W3 ∧ W3.ownsRow B7 9 1 (.slice (some ⟨b, o, none⟩) LN.length c7) LN.length (LN.map enS)) := Lib.hid ⟨S3, own_sk IW.out.2 (by decide) (by omega) k3⟩
   clear S3 k3 ho
   go_wp2_with fail
   go_roundg (LN.length - (k + 1))
   case measure => omega
   case rel => exact ⟨k + 1, by omega, by omega, by simp, IN⟩
  ·obtain rfl : k = LN.length := by omega
   have S8 : Hid (St T w0.heap.size s wb [] (t ++ unl (topL ⟨ti, vo, ie, da, its⟩ ++ LN.map (wSp ++ ·))) wr) := Lib.hid (by have := IW.out.1; rw [List.take_length] at this; exact this)
   have ho := blk_cell (S8.out.blk HO.out (by omega) (by decide)) 0
   clear IW
   go_wp2_with fail
   refine (sink_step S8.out SK.out hNw hsw [sepT, [10]] _ rfl (by simp) (by simp) (len_more HM.out (R := its.flatMap itLs ++ [wEnd ++ headT ⟨ti, vo, ie, da, its⟩]) (by rw [HTL.out]; simp) sepL_flat)).mono ?_
   rintro e W3 ⟨rfl, S3, -, -⟩
   rw [more_eq sepL_flat] at S3
   have S3 := Lib.hid S3
   clear S8 ho
   apply_assumption
   simp only [wpList, Exit.then]
   apply_assumption
   refine Flow.wp_of_rest (n := 5) (f := Tryz.f83) rfl (write_tail F s M T ti vo ie da its A c b2 w0 W3 t (topL ⟨ti, vo, ie, da, its⟩ ++ LN.map (wSp ++ ·) ++ [sepT]) SK.out HTL.out S3.out.t (HBB.out.trans S3.out.k.below) HR.out hc HTA.out HOK.out HM.out (S3.out.blk HD.out (by omega) (by decide)) (S3.out.blk HO.out (by omega) (by decide)) (by omega) _ _ _ _ _ _ _ _ _ _ _ _ _ _ _ _ _ _ _ _ _ _ _ _ _ _ _ _ _ _ _ _ _ _ _ _ _ _ _ _ _ _ _ _ _ _ _ _ _ _ _ _ _ _ _ _ _ _ _ _ _ _ _ _ _ _ _ _ _ _ _ _ _ _ _ _ _ _ _ _ _ _ _ _)
set_option maxRecDepth 100000 in
set_option maxHeartbeats 4000000 in
theorem text_any (d : Dg) (A : Option Addr) (c : Nat) (w : World) (hr : RdI w A d.its) (hc : d.its.length ≤ c) (ht : Tab w) (hok : DgOk d) (hs : ∀ x ∈ d.its, x.su.length ≤ 10000) (hM : (textD d).length ≤ 100000000000000) :
  Calls Tryz.prog 42 #[dgA d A c] w fun e w' => e = .returned (enS (textD d)) ∧ Below w.heap.size w w' := by
 obtain ⟨ti, vo, ie, da, its⟩ := d
 have hbox := range_blk (cs := [enS ti, i64 vo, i64 ie, i64 da, .slice A its.length c]) (blk_old (.cells #[.pointer none, .slice none 0 0] 112) (blk_new w (.cells #[enS ti, i64 vo, i64 ie, i64 da, .slice A its.length c] 32)))
 have HBX := Lib.hid hbox
 have hT : TxT w.heap.size (w.heap.size + 1) [] ((w.alloc (.cells #[enS ti, i64 vo, i64 ie, i64 da, .slice A its.length c] 32)).alloc (.cells #[.pointer none, .slice none 0 0] 112)) := by
  have h := blk_new (w.alloc (.cells #[enS ti, i64 vo, i64 ie, i64 da, .slice A its.length c] 32)) (.cells #[.pointer none, .slice none 0 0] 112)
  rw [World.size_alloc] at h
  exact .inl ⟨by omega, .slice none 0 0, h, own2_nil _ _ _ _, by intro e; cases e⟩
 have HW := Lib.hid (write_any _ (w.heap.size + 1) _ _ ⟨ti, vo, ie, da, its⟩ A c w _ [] (sink_text w.heap.size (w.heap.size + 1)) hT ((below_new _ _).tr (below_new _ _)) hr hc ht hok hs (by simpa using hM))
 clear hbox hT hr hc ht hok hs hM
 go_enter Tryz.func42, Tryz.ntmps42
 go_wp2_with (refine wpList_load_mid rfl 32 _ rfl w.heap.size 0 rfl [enS ti, i64 vo, i64 ie, i64 da, .slice A its.length c] _ HBX.out Tryz.underlying32 rfl (by kernel_rfl) ?_)
 refine HW.out.mono ?_; rintro e w2 ⟨rfl, t2, b2⟩
 rw [List.nil_append] at t2
 have T2 := Lib.hid t2
 have B2 := Lib.hid b2
 clear t2 b2 HW HBX
 go_wp2_with fail
 refine (Tryz.Builder_String_any w.heap.size (w.heap.size + 1) _ w2 T2.out B2.out.size).mono ?_; rintro e w3 ⟨rfl, b3⟩
 go_wp2_with fail
 go_ret
 exact ⟨rfl, B2.out.trans b3⟩
set_option maxRecDepth 100000 in
set_option maxHeartbeats 4000000 in
theorem size_any (d : Dg) (A : Option Addr) (c : Nat) (w : World) (hr : RdI w A d.its) (hc : d.its.length ≤ c) (ht : Tab w) (hok : DgOk d) (hs : ∀ x ∈ d.its, x.su.length ≤ 10000) (hM : (textD d).length ≤ 100000000000000) :
  Calls Tryz.prog 59 #[dgA d A c] w fun e w' => e = .returned (i64 (textD d).length) ∧ Below w.heap.size w w' := by
 obtain ⟨ti, vo, ie, da, its⟩ := d
 have hbox := range_blk (cs := [enS ti, i64 vo, i64 ie, i64 da, .slice A its.length c]) (blk_old (.cells #[i64 0] 3) (blk_new w (.cells #[enS ti, i64 vo, i64 ie, i64 da, .slice A its.length c] 32)))
 have HBX := Lib.hid hbox
 have hT : TxN w.heap.size (w.heap.size + 1) [] ((w.alloc (.cells #[enS ti, i64 vo, i64 ie, i64 da, .slice A its.length c] 32)).alloc (.cells #[i64 0] 3)) := by
  have h := blk_new (w.alloc (.cells #[enS ti, i64 vo, i64 ie, i64 da, .slice A its.length c] 32)) (.cells #[i64 0] 3)
  rw [World.size_alloc] at h
  exact ⟨by omega, h⟩
 have HW := Lib.hid (write_any _ (w.heap.size + 1) _ _ ⟨ti, vo, ie, da, its⟩ A c w _ [] (sink_size w.heap.size (w.heap.size + 1)) hT ((below_new _ _).tr (below_new _ _)) hr hc ht hok hs (by simpa using hM))
 clear hbox hT hr hc ht hok hs hM
 go_enter Tryz.func59, Tryz.ntmps59
 go_wp2_with (first | refine wpList_load_mid rfl 32 _ rfl w.heap.size 0 rfl [enS ti, i64 vo, i64 ie, i64 da, .slice A its.length c] _ HBX.out Tryz.underlying32 rfl (by kernel_rfl) ?_)
 refine HW.out.mono ?_; rintro e w2 ⟨rfl, t2, b2⟩
 rw [List.nil_append] at t2
 have hc0 := blk_cell t2.2 0
 have B2 := Lib.hid b2
 clear t2 b2 HW HBX
 go_wp2_with fail
 go_ret
 exact ⟨rfl, B2.out⟩
end Go.Proofs.YtlchcjnbbhpiaaaGreatDoor
namespace Go.Dg
open Go.Lib
theorem chkL_cons (s : List (List UInt8)) (x : It) (l : List It) : chkL s (x :: l) = if chkI x ≠ 0 then chkI x else if x.ky ∈ s then 7 else chkL (s ++ [x.ky]) l := rfl
theorem chkL_app2 : ∀ (a b : List It) (s : List (List UInt8)), chkL s (a ++ b) = if chkL s a ≠ 0 then chkL s a else chkL (s ++ a.map (·.ky)) b
 | [], b, s => by simp [chkL]
 | x :: a, b, s => by
  have ih := chkL_app2 a b (s ++ [x.ky])
  rw [List.cons_append]
  rw [chkL_cons, chkL_cons]
  by_cases h1 : chkI x ≠ 0
  ·rw [if_pos h1, if_pos h1, if_pos h1]
  ·rw [if_neg h1, if_neg h1]
   by_cases h2 : x.ky ∈ s
   ·rw [if_pos h2, if_pos h2, if_pos (by decide)]
   ·rw [if_neg h2, if_neg h2, ih, List.map_cons, List.append_assoc]; rfl
theorem chkL_at {l : List It} {k : Nat} {x : It} (h : l[k]? = some x) (h0 : chkL [] (l.take k) = 0) : chkL [] l = if chkI x ≠ 0 then chkI x else if x.ky ∈ (l.take k).map (·.ky) then 7 else chkL ((l.take k).map (·.ky) ++ [x.ky]) (l.drop (k + 1)) := by
 have e : l = l.take k ++ x :: l.drop (k + 1) := by
  obtain ⟨hl, hx⟩ := List.getElem?_eq_some_iff.1 h
  rw [← hx, List.getElem_cons_drop, List.take_append_drop]
 have h2 := chkL_app2 (l.take k) (x :: l.drop (k + 1)) []
 rw [← e, h0, if_neg (by decide), List.nil_append] at h2
 rw [h2]; rfl
theorem chkL_next {l : List It} {k : Nat} {x : It} (h : l[k]? = some x) (h0 : chkL [] (l.take k) = 0) (h1 : chkI x = 0) (h2 : x.ky ∉ (l.take k).map (·.ky)) : chkL [] (l.take (k + 1)) = 0 := by
 obtain ⟨hl, hx⟩ := List.getElem?_eq_some_iff.1 h
 rw [List.take_succ_eq_append_getElem hl, hx, chkL_app2, h0, if_neg (by decide), List.nil_append]
 unfold chkL
 rw [if_neg (by rw [h1]; decide), if_neg h2]; rfl
theorem lens_map_le (f : List UInt8 → List UInt8) (m : Nat) : ∀ ps : List (List UInt8), (∀ p ∈ ps, (f p).length ≤ p.length + m) → lens (ps.map f) ≤ lens ps + m * ps.length
 | [], _ => by simp [lens]
 | p :: r, h => by
  have h1 := h p (by simp)
  have h2 := lens_map_le f m r fun x hx => h x (by simp [hx])
  simp only [lens, List.map_cons, List.sum_cons, List.length_cons, Nat.mul_add] at h2 ⊢
  omega
theorem prot_len (s : List UInt8) : (prot s).length ≤ 4 * s.length + 3 := by
 have h1 := join_pcs s
 unfold prot protL
 rw [unl_length_le, List.length_map]
 have h2 := lens_map_le (fun p => dash p ++ p) 2 (pcs s) fun p _ => by
  unfold dash
  split <;> simp <;> omega
 obtain ⟨x, r, e⟩ : ∃ x r, pcs s = x :: r := by
  cases hp : pcs s with
  | nil => unfold pcs at hp; simp at hp
  | cons x r => exact ⟨x, r, rfl⟩
 have h3 := join_length x r [10]
 rw [← e, h1, List.length_singleton] at h3
 have h4 : (pcs s).length = r.length + 1 := by rw [e]; rfl
 omega
theorem unl_flat_le {α : Type} (f : α → List (List UInt8)) (m : Nat) : ∀ l : List α, (∀ x ∈ l, (unl (f x)).length ≤ m) → (unl (l.flatMap f)).length ≤ l.length * m
 | [], _ => by simp [unl]
 | x :: l, h => by
  have h1 := h x (by simp)
  have h2 := unl_flat_le f m l fun y hy => h y (by simp [hy])
  rw [List.flatMap_cons, unl_append, List.length_append, List.length_cons, Nat.add_mul]
  omega
theorem unl_map_le {α : Type} (f : α → List UInt8) (m : Nat) (l : List α) (h : ∀ x ∈ l, (f x).length + 1 ≤ m) : (unl (l.map f)).length ≤ l.length * m := by
 have e : l.flatMap (fun x => [f x]) = l.map f := by
  clear h
  induction l with
  | nil => rfl
  | cons x l ih => rw [List.flatMap_cons, List.map_cons, ih]; rfl
 have h2 := unl_flat_le (fun x => [f x]) m l fun x hx => by rw [unl_one, List.length_append]; exact h x hx
 rwa [e] at h2
theorem fm_len {m : Int} (h : minB m = true) : (fm m).length = 28 := by
 unfold minB at h
 simp only [Bool.and_eq_true, decide_eq_true_eq] at h
 exact Go.Dt.fmtText_len h.1 h.2
theorem hexT_len (k : List UInt8) : (hexT k).length = 2 * k.length := by
 unfold hexT
 induction k with
 | nil => rfl
 | cons c k ih => rw [List.flatMap_cons, List.length_append, ih]; simp; omega
theorem itLs_len {x : It} (h1 : minB x.dt = true) (h2 : x.fr.length ≤ 1000) (h3 : x.su.length ≤ 1000) (h4 : x.ky.length = 32) (h5 : x.bo.length ≤ 1000000000) : (unl (itLs x)).length ≤ 5000000000 := by
 have e1 := prot_len x.bo
 have e2 := fm_len h1
 have e3 := hexT_len x.ky
 rw [itLs_eq, unl_append, unl_append, List.length_append, List.length_append]
 have e4 : (unl (prL (pcs x.bo))).length = (prot x.bo).length := rfl
 have e5 : (unl [sepT]).length = 31 := rfl
 have e6 : (unl (hdL x)).length ≤ 10000 := by
  simp only [hdL, unl, List.flatMap_cons, List.flatMap_nil, List.length_append, List.length_cons, List.length_nil, prId, e2, e3, h4, wFrom, wDate, wSubj, wMid, wHash]
  omega
 omega
theorem head_len {d : Dg} (ht : d.ti.length ≤ 1000) (hv : d.vo ≤ 1000000) (hi : d.ie ≤ 1000000) : (headT d).length ≤ 1100 := by
 have a := (dd_length (u := d.vo.toNat) (by omega)).2
 have b := (dd_length (u := d.ie.toNat) (by omega)).2
 unfold headT
 simp only [List.length_append, wDig, wIss, List.length_cons, List.length_nil]
 omega
theorem lineOf_len {l : List It} {s : List UInt8} (hs : s.length ≤ 1000) (hj : (join (numsOf s 0 l) wCm).length ≤ 1000000) : (wSp ++ lineOf l s).length + 1 ≤ 1100000 := by
 unfold lineOf
 by_cases h : s = []
 ·rw [if_pos h]; simp only [List.length_append, wSp, wNo, wPar, List.length_cons, List.length_nil]; omega
 ·rw [if_neg h]; simp only [List.length_append, wSp, wPar, List.length_cons, List.length_nil]; omega
theorem text_bound {d : Dg} (hn : d.its.length ≤ 200) (ht : d.ti.length ≤ 1000) (hv : d.vo ≤ 1000000) (hi : d.ie ≤ 1000000) (hd : minB d.da = true) (hx : ∀ x ∈ d.its, minB x.dt = true ∧ x.fr.length ≤ 1000 ∧ x.su.length ≤ 1000 ∧ x.ky.length = 32 ∧ x.bo.length ≤ 1000000000)
  (hj : ∀ s, (join (numsOf s 0 d.its) wCm).length ≤ 1000000) (hsl : (subjL [] d.its).length ≤ d.its.length) : (textD d).length ≤ 100000000000000 := by
 have h1 := head_len ht hv hi
 have h2 := fm_len hd
 have h3 := unl_flat_le itLs 5000000000 d.its fun x h => by
  obtain ⟨a, b, c, e, f⟩ := hx x h
  exact itLs_len a b c e f
 have h4 := unl_map_le (fun s => wSp ++ lineOf d.its s) 1100000 (subjL [] d.its) fun s h => by
  refine lineOf_len ?_ (hj s)
  rcases subjL_mem d.its [] s h with h | ⟨x, hm, e⟩
  ·simp at h
  ·rw [← e]; exact (hx x hm).2.2.1
 have h5 : (linesD d.its).map (wSp ++ ·) = (subjL [] d.its).map (fun s => wSp ++ lineOf d.its s) := by unfold linesD; rw [List.map_map]; rfl
 unfold textD
 rw [tLs_eq, h5]
 simp only [unl_append, List.length_append]
 have h6 : (unl (topL d)).length ≤ 1200 := by
  simp only [topL, unl, List.flatMap_cons, List.flatMap_nil, List.length_append, List.length_cons, List.length_nil, wDate, wTop, h2]
  omega
 have h7 : (unl [wEnd ++ headT d]).length ≤ 1200 := by rw [unl_one]; simp only [List.length_append, wEnd, List.length_cons, List.length_nil]; omega
 have h8 : (unl [sepT]).length = 31 := rfl
 have h9 : d.its.length * 5000000000 ≤ 200 * 5000000000 := Nat.mul_le_mul_right _ hn
 have h10 : (subjL [] d.its).length * 1100000 ≤ 200 * 1100000 := Nat.mul_le_mul_right _ (by omega)
 omega
end Go.Dg
namespace Go.Proofs.YtlchcjnbbhpiaaaGreatDoor
open Go.RowKit Go.Shelf Go.Dg Go.Maps
theorem setI_made (w : World) : SetI (w.alloc (.map #[] 0)) w.heap.size [] := ⟨by simp, MapB.made _ _ _ _⟩
set_option maxRecDepth 100000 in
set_option maxHeartbeats 16000000 in
theorem check_any (d : Dg) (A : Option Addr) (c : Nat) (w : World) (hr : RdI w A d.its) (hc : d.its.length ≤ c) (ht : Tab w) (hn : d.its.length ≤ 1000000000) (hti : d.ti.length ≤ 1000000000) (hx : ∀ x ∈ d.its, x.fr.length ≤ 1000000000 ∧ x.su.length ≤ 1000000000 ∧ x.bo.length ≤ 1000000000) :
  Calls Tryz.prog 21 #[dgA d A c] w fun e w' => e = .returned (i64 (chkD d)) ∧ Below w.heap.size w w' := by
 have V := Lib.hid (show chkD d = if titleB d.ti = false then 12 else if ordB d.vo = false ∨ ordB d.ie = false then 2 else if minB d.da = false then 13 else if d.its = [] then 1 else if 200 < d.its.length then 9
  else if chkL [] d.its ≠ 0 then chkL [] d.its else if 1048576 < (textD d).length then 5 else 0 from rfl)
 obtain ⟨ti, vo, ie, da, its⟩ := d
 simp only at hc hn hti hx hr V
 have HR := Lib.hid hr
 have HTA := Lib.hid ht
 have HX := Lib.hid hx
 have H1 := Lib.hid (fun u => isTitle_any ti u hti)
 have H2 := Lib.hid (fun u => isOrdinal_any vo u)
 have H3 := Lib.hid (fun u => isOrdinal_any ie u)
 have H4 := Lib.hid (fun u => isMinute_any da u)
 have BD := Lib.hid (blk_new w (.cells #[enS ti, i64 vo, i64 ie, i64 da, .slice A its.length c] 32))
 have B1 := Lib.hid (below_new w (.cells #[enS ti, i64 vo, i64 ie, i64 da, .slice A its.length c] 32))
 clear hr ht hx hti
 have c0 := blk_cell BD.out 0
 have c1 := blk_cell BD.out 1
 have c2 := blk_cell BD.out 2
 have c3 := blk_cell BD.out 3
 have c4 := blk_cell BD.out 4
 go_enter Tryz.func21, Tryz.ntmps21
 go_wp2_with fail
 refine (H1.out _).mono ?_; rintro e w1 ⟨rfl, rfl⟩
 cases q1 : titleB ti with
 | false =>
  have VB : Hid (chkD ⟨ti, vo, ie, da, its⟩ = 12) := Lib.hid (by (show _ = _); rw [V.out, q1]; rfl)
  clear q1 V
  go_wp2_with fail
  go_ret
  rw [VB.out]
  exact ⟨rfl, B1.out⟩
 | true =>
 rw [q1, if_neg (show ¬ true = false by decide)] at V
 have Q1 := Lib.hid q1
 clear q1
 go_wp2_with fail
 refine (H2.out _).mono ?_; rintro e w1 ⟨rfl, rfl⟩
 cases q1 : ordB vo with
 | false =>
  have VB : Hid (chkD ⟨ti, vo, ie, da, its⟩ = 2) := Lib.hid (by (show _ = _); rw [V.out, q1]; rfl)
  clear q1 V
  go_wp2_with fail
  go_ret
  rw [VB.out]
  exact ⟨rfl, B1.out⟩
 | true =>
 rw [q1] at V
 have Q2 := Lib.hid q1
 clear q1
 go_wp2_with fail
 refine (H3.out _).mono ?_; rintro e w1 ⟨rfl, rfl⟩
 cases q1 : ordB ie with
 | false =>
  have VB : Hid (chkD ⟨ti, vo, ie, da, its⟩ = 2) := Lib.hid (by (show _ = _); rw [V.out, q1]; rfl)
  clear q1 V
  go_wp2_with fail
  go_ret
  rw [VB.out]
  exact ⟨rfl, B1.out⟩
 | true =>
 rw [q1, if_neg (show ¬ (true = false ∨ true = false) by decide)] at V
 have Q3 := Lib.hid q1
 clear q1
 go_wp2_with fail
 refine (H4.out _).mono ?_; rintro e w1 ⟨rfl, rfl⟩
 cases q1 : minB da with
 | false =>
  have VB : Hid (chkD ⟨ti, vo, ie, da, its⟩ = 13) := Lib.hid (by (show _ = _); rw [V.out, q1]; rfl)
  clear q1 V
  go_wp2_with fail
  go_ret
  rw [VB.out]
  exact ⟨rfl, B1.out⟩
 | true =>
 rw [q1, if_neg (show ¬ true = false by decide)] at V
 have Q4 := Lib.hid q1
 clear q1
 by_cases hn0 : its.length = 0
 ·have VB : Hid (chkD ⟨ti, vo, ie, da, its⟩ = 1) := Lib.hid (by (show _ = _); rw [V.out, if_pos (List.eq_nil_of_length_eq_zero hn0)])
  clear V
  have B1' := B1.out
  rw [hn0] at B1'
  have B1' := Lib.hid B1'
  go_wp2_with fail
  go_ret
  rw [VB.out]
  exact ⟨rfl, B1'.out⟩
 have hne : ¬ its = [] := fun e => hn0 (by rw [e]; rfl)
 rw [if_neg hne] at V
 clear hne
 by_cases hn2 : 200 < its.length
 ·have VB : Hid (chkD ⟨ti, vo, ie, da, its⟩ = 9) := Lib.hid (by (show _ = _); rw [V.out, if_pos hn2])
  clear V
  go_wp2_with fail
  go_ret
  rw [VB.out]
  exact ⟨rfl, B1.out⟩
 rw [if_neg hn2] at V
 have hmm := @run_makeMap Tryz.prog
 go_wp2_with fail
 have S0 := setI_made (w.alloc (.cells #[enS ti, i64 vo, i64 ie, i64 da, .slice A its.length c] 32))
 rw [World.size_alloc] at S0
 have I0 : Hid (SetI ((w.alloc (.cells #[enS ti, i64 vo, i64 ie, i64 da, .slice A its.length c] 32)).alloc (.map #[] 0)) (w.heap.size + 1) ((its.take 0).map (·.ky)) ∧ Below w.heap.size w ((w.alloc (.cells #[enS ti, i64 vo, i64 ie, i64 da, .slice A its.length c] 32)).alloc (.map #[] 0)) ∧ ((w.alloc (.cells #[enS ti, i64 vo, i64 ie, i64 da, .slice A its.length c] 32)).alloc (.map #[] 0)).heap[w.heap.size]? = some (.cells #[enS ti, i64 vo, i64 ie, i64 da, .slice A its.length c] 32 (0, 0)) ∧ chkL [] (its.take 0) = 0) := Lib.hid ⟨S0, B1.out.tr (below_new _ _), blk_old _ BD.out, rfl⟩
 clear S0 BD B1 c0 c1 c2 c3 c4 H1 H2 H3 H4
 generalize (w.alloc (.cells #[enS ti, i64 vo, i64 ie, i64 da, .slice A its.length c] 32)).alloc (.map #[] 0) = w1 at *
 have hz0 : ((its.length : Int) == 0) = false := by simp; exact fun e => hn0 (by rw [e]; rfl)
 rw [hz0]
 clear hz0
 go_loopg [42] its.length (fun gg kv wr => ∃ k : Nat, k ≤ its.length ∧ its.length - k ≤ gg ∧ kv = i64 k ∧ Hid (SetI wr (w.heap.size + 1) ((its.take k).map (·.ky)) ∧ Below w.heap.size w wr ∧ wr.heap[w.heap.size]? = some (.cells #[enS ti, i64 vo, i64 ie, i64 da, .slice A its.length c] 32 (0, 0)) ∧ chkL [] (its.take k) = 0))
 case atStart => exact ⟨0, Nat.zero_le _, by omega, rfl, I0⟩
 case round =>
  obtain ⟨k, hk, hgg, rfl, IW⟩ := hrel
  clear I0
  by_cases hlt : k < its.length
  ·obtain ⟨b, o, x, rfl, hbl, hx, hrg, h32⟩ := (HR.out.below IW.out.2.1).at_ hlt
   obtain ⟨x1, x2, x3⟩ := HX.out x (List.mem_of_getElem? hx)
   have HRG := Lib.hid hrg
   have HSZ := Lib.hid it_size
   have HXK := Lib.hid hx
   have BI := Lib.hid (blk_new wr (.cells (itL x).toArray 59))
   have bi := below_new wr (.cells (itL x).toArray 59)
   have hmw : w.heap.size + 1 < wr.heap.size := IW.out.1.2.lt
   have I1 : Hid (SetI (wr.alloc (.cells (itL x).toArray 59)) (w.heap.size + 1) ((its.take k).map (·.ky)) ∧ Below w.heap.size w (wr.alloc (.cells (itL x).toArray 59)) ∧ (wr.alloc (.cells (itL x).toArray 59)).heap[w.heap.size]? = some (.cells #[enS ti, i64 vo, i64 ie, i64 da, .slice (some ⟨b, o, none⟩) its.length c] 32 (0, 0)) ∧ chkL [] (its.take k) = 0) := Lib.hid ⟨IW.out.1.below bi, IW.out.2.1.tr bi, blk_below bi IW.out.2.2.1, IW.out.2.2.2⟩
   have hib : wr.heap.size < (wr.alloc (.cells (itL x).toArray 59)).heap.size := by simp
   have RI := Lib.hid (range_blk BI.out)
   have HCK := Lib.hid (fun u => itCheck_any x u h32 x1 x2)
   clear hrg hx bi IW
   go_wp2_with (first | refine wpList_load_mid rfl 59 _ rfl b (o + k * 36) rfl (itL x) _ HRG.out Tryz.underlying59 rfl (by rw [itL_length]; exact HSZ.out) ?_ | refine wpList_store_new rfl 59 _ _ rfl _ (itL x).toArray rfl rfl (by simp [itL_length, HSZ.out]) (by simp [itL_length]) (all_oneCell_toArray (one_itL x)) ?_ | refine wpList_load_mid rfl 59 _ rfl wr.heap.size 0 rfl (itL x) _ RI.out Tryz.underlying59 rfl (by rw [itL_length]; exact HSZ.out) ?_)
   refine (HCK.out _).mono ?_; rintro e w2 ⟨rfl, b2⟩
   have I2 := Lib.hid (And.intro (I1.out.1.below b2) (And.intro (I1.out.2.1.tr b2) (And.intro (blk_below b2 I1.out.2.2.1) I1.out.2.2.2)))
   have BI2 := Lib.hid (blk_below b2 BI.out)
   have K2 := Lib.hid (it_ky BI2.out)
   have hs2 : wr.heap.size < w2.heap.size := Nat.lt_of_lt_of_le hib b2.size
   have EA := Lib.hid (chkL_at HXK.out I1.out.2.2.2)
   clear b2 I1 BI RI HRG HCK hib
   obtain ⟨ib, hib⟩ : ∃ q, wr.heap.size = q := ⟨_, rfl⟩
   simp only [hib] at hmw BI2 K2 hs2 ⊢
   clear hib
   by_cases he : chkI x = 0
   ·have EN := Lib.hid (chkL_next HXK.out I2.out.2.2.2 he)
    rw [he]
    have HE := Lib.hid he
    clear he
    by_cases hin : x.ky ∈ (its.take k).map (·.ky)
    ·have HF : Hid (onL (((its.take k).map (·.ky)).map idKey) (idKey x.ky) = true) := Lib.hid (by rw [I2.out.1.on h32, decide_eq_true hin])
     have e1 : chkL [] its = 7 := by rw [EA.out, if_neg (by rw [HE.out]; decide), if_pos hin]
     have VB : Hid (chkD ⟨ti, vo, ie, da, its⟩ = 7) := Lib.hid (by (show _ = _); rw [V.out, e1]; rfl)
     clear e1 hin V EA EN
     go_wp2_with (first | refine wpList_load_mid rfl 57 _ rfl ib 3 rfl (idL x.ky) _ K2.out Tryz.underlying57 rfl (by rw [idL_length]; exact id_size) ?_ | (at_lookup; refine wpList_lookup_b _ rfl _ _ 101 rfl 57 4 id_keyed Tryz.underlying101 Tryz.underlying4 (zeroBool _) (w.heap.size + 1) _ rfl I2.out.1.2 _ _ rfl (keyOf_idKey h32) ?_; rw [HF.out]))
     go_ret
     rw [VB.out]
     exact ⟨rfl, I2.out.2.1⟩
    ·have HF : Hid (onL (((its.take k).map (·.ky)).map idKey) (idKey x.ky) = false) := Lib.hid (by rw [I2.out.1.on h32, decide_eq_false hin])
     have EN := Lib.hid (EN.out hin)
     have hkl : ((List.map (·.ky) (its.take k)).map idKey).length < maxLen := by simp only [List.length_map, List.length_take]; unfold maxLen; omega
     have e5 : ((its.take k).map (·.ky)).map idKey ++ [idKey x.ky] = ((its.take (k + 1)).map (·.ky)).map idKey := by rw [take_one HXK.out]; simp
     have E5 := Lib.hid e5
     clear hin EA e5
     go_wp2_with (first | refine wpList_load_mid rfl 57 _ rfl ib 3 rfl (idL x.ky) _ K2.out Tryz.underlying57 rfl (by rw [idL_length]; exact id_size) ?_ | (at_lookup; refine wpList_lookup_b _ rfl _ _ 101 rfl 57 4 id_keyed Tryz.underlying101 Tryz.underlying4 (zeroBool _) (w.heap.size + 1) _ rfl I2.out.1.2 _ _ rfl (keyOf_idKey h32) ?_; rw [HF.out]) | (refine wpList_mapUpdate_b _ rfl _ _ _ 101 rfl 57 4 id_keyed Tryz.underlying101 Tryz.underlying4 (w.heap.size + 1) _ rfl I2.out.1.2 hkl _ _ rfl rfl (keyOf_idKey h32) (idKey_lit h32) ?_; intro w3 m3 g3))
     have hms : w.heap.size < w2.heap.size := by omega
     rw [E5.out] at m3
     have IN : Hid (SetI w3 (w.heap.size + 1) ((its.take (k + 1)).map (·.ky)) ∧ Below w.heap.size w w3 ∧ w3.heap[w.heap.size]? = some (.cells #[enS ti, i64 vo, i64 ie, i64 da, .slice (some ⟨b, o, none⟩) its.length c] 32 (0, 0)) ∧ chkL [] (its.take (k + 1)) = 0) := Lib.hid ⟨⟨fun y hy => by
       obtain ⟨z, hz, rfl⟩ := List.mem_map.1 hy
       exact HR.out.ky z (List.mem_of_mem_take hz), m3⟩, I2.out.2.1.grown g3 I2.out.2.1.size (fun g e => by cases e; omega), (g3.block w.heap.size hms (by intro e; injection e with e; omega)).trans I2.out.2.2.1, EN.out⟩
     clear m3 g3 I2 K2 BI2
     go_roundg (its.length - (k + 1))
     case measure => omega
     case rel => exact ⟨k + 1, by omega, by omega, by simp, IN⟩
   ·have e1 : chkL [] its = chkI x := by rw [EA.out, if_pos he]
    have VB : Hid (chkD ⟨ti, vo, ie, da, its⟩ = chkI x) := Lib.hid (by (show _ = _); rw [V.out, e1, if_pos he])
    have hq : (chkI x != 0) = true := by simpa using he
    have hq2 : (chkI x == 0) = false := by simpa using he
    clear e1 V EA he
    generalize chkI x = ec at *
    go_wp2_with fail
    go_ret
    rw [VB.out]
    exact ⟨rfl, I2.out.2.1⟩
  ·obtain rfl : k = its.length := by omega
   have hz : chkL [] its = 0 := by have := IW.out.2.2.2; rwa [List.take_length] at this
   rw [hz, if_neg (by decide)] at V
   have HZ := Lib.hid hz
   have RD := Lib.hid (range_blk IW.out.2.2.1)
   have IX := Lib.hid IW.out.2.1
   clear IW hz
   go_wp2_with (refine wpList_load_mid rfl 32 _ rfl w.heap.size 0 rfl [enS ti, i64 vo, i64 ie, i64 da, .slice A its.length c] _ RD.out Tryz.underlying32 rfl (by kernel_rfl) ?_)
   have hq1 := Q1.out
   have hq2 := Q2.out
   have hq3 := Q3.out
   unfold titleB at hq1
   unfold ordB at hq2 hq3
   simp only [Bool.and_eq_true, decide_eq_true_eq] at hq1 hq2 hq3
   have HI2 := Lib.hid (fun x (hx : x ∈ its) => chkI_zero.1 (chkL_each its [] HZ.out x hx))
   have hsu : ∀ x ∈ its, x.su.length ≤ 200 ∧ x.fr.length ≤ 200 := fun x hx => by
    obtain ⟨a, _, b, _⟩ := HI2.out x hx
    unfold fromB at a
    unfold subjB at b
    simp only [Bool.and_eq_true, decide_eq_true_eq] at a b
    exact ⟨b.2, a.2⟩
   have HSU := Lib.hid hsu
   clear hsu
   refine (size_any ⟨ti, vo, ie, da, its⟩ A c wr (HR.out.below IX.out) hc (HTA.out.below IX.out) ⟨by (show its.length ≤ _); omega, by (show ti.length ≤ _); omega, by (show 0 ≤ vo ∧ vo ≤ _); omega, by (show 0 ≤ ie ∧ ie ≤ _); omega, Q4.out, fun x hx => ⟨(HI2.out x hx).2.1, HR.out.ky x hx, Nat.le_trans (HSU.out x hx).1 (by omega), (HX.out x hx).2.2⟩⟩ (fun x hx => Nat.le_trans (HSU.out x hx).1 (by omega))
    (text_bound (by (show its.length ≤ _); omega) (by (show ti.length ≤ _); omega) (by (show vo ≤ _); omega) (by (show ie ≤ _); omega) Q4.out (fun x hx => ⟨(HI2.out x hx).2.1, Nat.le_trans (HSU.out x hx).2 (by omega), Nat.le_trans (HSU.out x hx).1 (by omega), HR.out.ky x hx, (HX.out x hx).2.2⟩) (fun s => nums_join (by (show its.length ≤ _); omega) s) (subj_len its))).mono ?_
   rintro e w2 ⟨rfl, b2⟩
   have B2 := Lib.hid (IX.out.tr b2)
   clear b2 HI2 HSU hq1 hq2 hq3 RD IX
   generalize (textD ⟨ti, vo, ie, da, its⟩).length = L at *
   by_cases hL : 1048576 < L
   ·have VB : Hid (chkD ⟨ti, vo, ie, da, its⟩ = 5) := Lib.hid (by (show _ = _); rw [V.out, if_pos hL])
    clear V
    go_wp2_with fail
    go_ret
    rw [VB.out]
    exact ⟨rfl, B2.out⟩
   ·have VB : Hid (chkD ⟨ti, vo, ie, da, its⟩ = 0) := Lib.hid (by (show _ = _); rw [V.out, if_neg hL])
    clear V
    go_wp2_with fail
    go_ret
    rw [VB.out]
    exact ⟨rfl, B2.out⟩
/-- What is asked of a digest that a caller hands over. -/
structure DgIn (w : World) (d : Dg) (A : Option Addr) (c : Nat) : Prop where
 rd : RdI w A d.its
 cap : d.its.length ≤ c
 tab : Tab w
 n : d.its.length ≤ 1000000000
 ti : d.ti.length ≤ 1000000000
 it : ∀ x ∈ d.its, x.fr.length ≤ 1000000000 ∧ x.su.length ≤ 1000000000 ∧ x.bo.length ≤ 1000000000
theorem DgIn.below {w w' : World} {d : Dg} {A : Option Addr} {c : Nat} (h : DgIn w d A c) (hb : Below w.heap.size w w') : DgIn w' d A c := ⟨h.rd.below hb, h.cap, h.tab.below hb, h.n, h.ti, h.it⟩
theorem DgIn.check {w : World} {d : Dg} {A : Option Addr} {c : Nat} (h : DgIn w d A c) : Calls Tryz.prog 21 #[dgA d A c] w fun e w' => e = .returned (i64 (chkD d)) ∧ Below w.heap.size w w' :=
 check_any d A c w h.rd h.cap h.tab h.n h.ti h.it
theorem DgIn.ok {w : World} {d : Dg} {A : Option Addr} {c : Nat} (h : DgIn w d A c) (h0 : chkD d = 0) : DgOk d ∧ (∀ x ∈ d.its, x.su.length ≤ 10000) ∧ (textD d).length ≤ 1048576 := by
 obtain ⟨q1, q2, q3, q4, -, q6, q7, q8⟩ := chkD_zero h0
 unfold titleB at q1
 unfold ordB at q2 q3
 simp only [Bool.and_eq_true, decide_eq_true_eq] at q1 q2 q3
 have hs : ∀ x ∈ d.its, x.su.length ≤ 10000 := fun x hx => by
  obtain ⟨_, _, b, _⟩ := chkI_zero.1 (chkL_each d.its [] q7 x hx)
  unfold subjB at b
  simp only [Bool.and_eq_true, decide_eq_true_eq] at b
  omega
 exact ⟨⟨by omega, by omega, by omega, by omega, q4, fun x hx => ⟨(chkI_zero.1 (chkL_each d.its [] q7 x hx)).2.1, h.rd.ky x hx, hs x hx, (h.it x hx).2.2⟩⟩, hs, q8⟩
def bundD (d : Dg) : List UInt8 := if chkD d = 0 then textD d else []
set_option maxRecDepth 100000 in
set_option maxHeartbeats 4000000 in
theorem bundle_any (d : Dg) (A : Option Addr) (c : Nat) (w : World) (h : DgIn w d A c) :
  Calls Tryz.prog 14 #[dgA d A c] w fun e w' => e = .returned (.tuple #[enS (bundD d), i64 (chkD d)]) ∧ Below w.heap.size w w' := by
 have H := Lib.hid h
 have HOK := Lib.hid h.ok
 have bx := below_new w (.cells #[enS d.ti, i64 d.vo, i64 d.ie, i64 d.da, .slice A d.its.length c] 32)
 have BX := Lib.hid bx
 have RX := Lib.hid (range_blk (cs := [enS d.ti, i64 d.vo, i64 d.ie, i64 d.da, .slice A d.its.length c]) (blk_new w (.cells #[enS d.ti, i64 d.vo, i64 d.ie, i64 d.da, .slice A d.its.length c] 32)))
 have RXB := Lib.hid (blk_new w (.cells #[enS d.ti, i64 d.vo, i64 d.ie, i64 d.da, .slice A d.its.length c] 32))
 clear h bx
 go_enter Tryz.func14, Tryz.ntmps14
 go_wp2_with (refine wpList_load_mid rfl 32 _ rfl w.heap.size 0 rfl [enS d.ti, i64 d.vo, i64 d.ie, i64 d.da, .slice A d.its.length c] _ RX.out Tryz.underlying32 rfl (by kernel_rfl) ?_)
 refine ((H.out.below BX.out).check).mono ?_; rintro e w2 ⟨rfl, b2⟩
 have B2 := Lib.hid (BX.out.tr b2)
 have R2 := Lib.hid (range_blk (cs := [enS d.ti, i64 d.vo, i64 d.ie, i64 d.da, .slice A d.its.length c]) (blk_below b2 RXB.out))
 clear b2 RX BX
 by_cases h0 : chkD d = 0
 ·have V : Hid (bundD d = textD d) := Lib.hid (if_pos h0)
  obtain ⟨o1, o2, o3⟩ := HOK.out h0
  have hM : (textD d).length ≤ 100000000000000 := by omega
  have HTX := Lib.hid (fun u (hu : DgIn u d A c) => text_any d A c u hu.rd hu.cap hu.tab o1 o2 hM)
  rw [h0]
  have HZ := Lib.hid h0
  clear h0 HOK o1 o2 o3 hM
  go_wp2_with (refine wpList_load_mid rfl 32 _ rfl w.heap.size 0 rfl [enS d.ti, i64 d.vo, i64 d.ie, i64 d.da, .slice A d.its.length c] _ R2.out Tryz.underlying32 rfl (by kernel_rfl) ?_)
  refine (HTX.out w2 (H.out.below B2.out)).mono ?_; rintro e w3 ⟨rfl, b3⟩
  go_wp2_with fail
  go_ret2
  rw [V.out, HZ.out]
  exact ⟨rfl, B2.out.tr b3⟩
 ·have V : Hid (bundD d = []) := Lib.hid (if_neg h0)
  have hq : (chkD d != 0) = true := by simpa using h0
  have hq2 : (chkD d == 0) = false := by simpa using h0
  clear h0 HOK
  obtain ⟨ec, hec⟩ : ∃ q, chkD d = q := ⟨_, rfl⟩
  rw [hec] at hq hq2 ⊢
  have HEC := Lib.hid hec
  clear hec
  go_wp2_with fail
  go_ret2
  rw [V.out, HEC.out]
  exact ⟨rfl, B2.out⟩
open Go.RowKit Go.Shelf Go.Dg Go.Rg
attribute [local go_sem] Oper.semAt_some
theorem txT_new (w : World) : TxT w.heap.size w.heap.size [] (w.alloc (.cells #[.pointer none, .slice none 0 0] 112)) :=
 .inl ⟨Nat.le_refl _, .slice none 0 0, blk_new _ _, own2_nil _ _ _ _, by intro e; cases e⟩
theorem txT_str {N s : Nat} {t p : List UInt8} {_w w' : World} (h : Lib.BuilderAt 112 5 N s (.pointer (some ⟨s, 0, none⟩)) (Lib.byteCells t ++ Lib.strCells ⟨p.toArray⟩) w') : TxT N s (t ++ p) w' := by
 unfold TxT
 rw [Lib.byteCells_append]
 exact .inr h
theorem txT_byte {N s : Nat} {t : List UInt8} {w' : World} (h : Lib.BuilderAt 112 5 N s (.pointer (some ⟨s, 0, none⟩)) (Lib.byteCells t ++ [.int .u8 10]) w') : TxT N s (t ++ [10]) w' := by
 unfold TxT
 rw [Lib.byteCells_append]
 exact .inr h
/-- WriteString as a step of the walk. -/
theorem str_step {N s : Nat} {w W : World} {Ds : List Nat} {x : List UInt8} (h : St (TxT N s) N s w Ds x W) (hN : N ≤ w.heap.size) (hs : s < w.heap.size) (p : List UInt8) (hl : x.length + p.length ≤ 100000000000000) :
  Calls Tryz.prog 63 #[.pointer (some ⟨s, 0, none⟩), enS p] W fun e W' => (∃ v, e = .returned (.tuple v)) ∧ St (TxT N s) N s w Ds (x ++ p) W' ∧ SkB N s W W' := by
 refine (bldStr N s _ _ _ h.t (by rw [Lib.byteCells_length]; show _ + p.toArray.size ≤ _; rw [List.size_toArray]; omega) (Nat.le_trans hN h.size)).mono ?_
 rintro e W' ⟨rfl, h1, h2, h3⟩
 exact ⟨⟨_, rfl⟩, h.call hs (txT_str (_w := W) h1) ⟨h2, h3⟩, ⟨h2, h3⟩⟩
theorem nl_step {N s : Nat} {w W : World} {Ds : List Nat} {x : List UInt8} (h : St (TxT N s) N s w Ds x W) (hN : N ≤ w.heap.size) (hs : s < w.heap.size) (hl : x.length + 1 ≤ 100000000000000) :
  Calls Tryz.prog 64 #[.pointer (some ⟨s, 0, none⟩), .int .u8 10] W fun e W' => e = .returned .nilIface ∧ St (TxT N s) N s w Ds (x ++ [10]) W' ∧ SkB N s W W' := by
 refine (bldByte N s _ 10 _ h.t (by rw [Lib.byteCells_length]; omega) (Nat.le_trans hN h.size)).mono ?_
 rintro e W' ⟨rfl, h1, h2, h3⟩
 exact ⟨rfl, h.call hs (txT_byte h1) ⟨h2, h3⟩, ⟨h2, h3⟩⟩
set_option maxRecDepth 100000 in
set_option maxHeartbeats 8000000 in
theorem protect_any (t : List UInt8) (w : World) (hl : t.length ≤ 1000000000) :
  Calls Tryz.prog 30 #[enS t] w fun e w' => e = .returned (.tuple #[enS (protF t).1, i64 (protF t).2]) ∧ Below w.heap.size w w' := by
 have V := Lib.hid (show protF t = if 1048576 < t.length then ([], 5) else if has13 t = true then ([], 6) else (prot t, 0) from rfl)
 have hsz : (⟨t.toArray⟩ : ByteArray).size = t.length := by show t.toArray.size = _; simp
 refine callsIn_wide.1 (callsIn_of_wp_marks (n := 10) Tryz.func30 rfl trivial ?_)
 refine wpIn_wide.2 ?_
 simp only [Tryz.ntmps30, List.size_toArray, List.length_cons, List.length_nil, Nat.reduceAdd, Nat.reduceSub, Array.replicate_succ, Array.replicate_zero, List.push_toArray, List.append_toArray, List.nil_append, List.cons_append]
 by_cases h1 : 1048576 < t.length
 ·have VB : Hid (protF t = ([], 5)) := Lib.hid (by (show _ = _); rw [V.out, if_pos h1])
  clear V
  go_wp2_with fail
  refine ⟨.tuple #[enS [], i64 5], ?_, by rw [VB.out], Below.refl _ _⟩
  simp [results, Tryz.results30, go_sem]
 rw [if_neg h1] at V
 go_wp2_with fail
 refine (has13_any t w).mono ?_; rintro e w1 ⟨rfl, rfl⟩
 cases q : has13 t with
 | true =>
  have VB : Hid (protF t = ([], 6)) := Lib.hid (by (show _ = _); rw [V.out, q]; rfl)
  clear V q
  go_wp2_with fail
  refine ⟨.tuple #[enS [], i64 6], ?_, by rw [VB.out], Below.refl _ _⟩
  simp [results, Tryz.results30, go_sem]
 | false =>
 rw [q, if_neg (by decide)] at V
 clear q
 go_wp2_with fail
 generalize hwb : w.alloc (.cells #[.pointer none, .slice none 0 0] 112) = wb
 have kb : Below w.heap.size w wb := hwb ▸ below_new _ _
 have S0 : Hid (St (TxT w.heap.size w.heap.size) w.heap.size w.heap.size wb [] [] wb) := Lib.hid ⟨hwb ▸ txT_new w, SkB.refl _ _ _, by simp, by simp⟩
 have hsw : w.heap.size < wb.heap.size := by rw [← hwb]; simp
 have KB := Lib.hid kb
 clear kb hwb
 have HW := Lib.hid (show w.heap.size = w.heap.size from rfl)
 obtain ⟨sb, hsb⟩ : ∃ q, w.heap.size = q := ⟨_, rfl⟩
 have HSB := Lib.hid hsb
 rw [hsb] at S0 hsw KB
 simp only [hsb]
 clear HW hsb
 have hNw : sb ≤ wb.heap.size := Nat.le_of_lt hsw
 refine (splitSeq_any t wb).mono ?_; rintro e w7 ⟨rfl, rfl⟩
 have b7 := below_new wb (.cells #[enS t] 9)
 have b8 := below_new (wb.alloc (.cells #[enS t] 9)) (.cells #[.string ⟨#[10]⟩] 9)
 have b9 := below_new ((wb.alloc (.cells #[enS t] 9)).alloc (.cells #[.string ⟨#[10]⟩] 9)) (.cells #[.int .i64 0] 3)
 have n7 := blk_new wb (.cells #[enS t] 9)
 have n8 := blk_new (wb.alloc (.cells #[enS t] 9)) (.cells #[.string ⟨#[10]⟩] 9)
 have n9 := blk_new ((wb.alloc (.cells #[enS t] 9)).alloc (.cells #[.string ⟨#[10]⟩] 9)) (.cells #[.int .i64 0] 3)
 rw [World.size_alloc] at n8
 rw [World.size_alloc, World.size_alloc] at n9
 have SK := Lib.hid (sink_text sb sb)
 have S9 : Hid (St (TxT sb sb) sb sb wb [] ([] ++ unl ([] ++ prL [])) _) := Lib.hid (S0.out.below SK.out hNw hsw ((b7.tr b8).tr b9))
 have Q9 : Hid (SqD wb.heap.size _ t) := Lib.hid ⟨blk_below (b8.tr b9) n7, blk_below b9 n8, n9⟩
 have hs9 : (((wb.alloc (.cells #[enS t] 9)).alloc (.cells #[.string ⟨#[10]⟩] 9)).alloc (.cells #[.int .i64 0] 3)).heap.size = wb.heap.size + 3 := by simp
 generalize ((wb.alloc (.cells #[enS t] 9)).alloc (.cells #[.string ⟨#[10]⟩] 9)).alloc (.cells #[.int .i64 0] 3) = w9 at *
 clear b7 b8 b9 n7 n8 n9 S0
 obtain ⟨bs, hbs⟩ : ∃ q, wb.heap.size = q := ⟨_, rfl⟩
 rw [hbs] at Q9 hs9
 simp only [hbs]
 go_wp2_with fail
 refine (wpIn_wide (n := 10)).1 ?_
 generalize ha : Act.mk _ _ = a
 refine rangeAll (F := Fence.wide) (n := 10) rfl (by omega) (gf := 135) (lb := #[.pointer (some ⟨bs + 1, 0, none⟩), .pointer (some ⟨bs, 0, none⟩), .pointer (some ⟨bs + 2, 0, none⟩)]) (by rw [← ha]; rfl) trivial (enters_of Tryz.func135 (by kernel_rfl) rfl)
  (splitSeq1_all 9 (by omega) bs t hl w9 Q9.out) (fun i _ _ => rfl) rfl (fun h k => h.trans k)
  (fun A o hA i h1 h2 => Below.heap_alloc _ _ _ (by omega)) (fun A l r o' hl hr i h1 h2 => World.putObj_heap_other (by omega))
  (fun A B i hw hi hst => by obtain ⟨v, rfl⟩ := hst; exact blk_set_ne _ _ (by omega))
  (fun pre W => St (TxT sb sb) sb sb wb [] ([] ++ unl ([] ++ prL pre)) W ∧ SqT bs W)
  (fun pre A o hA hI => ⟨hI.1.below SK.out hNw hsw (below_new _ _), hI.2.keep (fun i h1 h2 => Below.heap_alloc _ _ _ (by omega))⟩)
  (fun pre A l r o' hl hr hI => ⟨hI.1.putL SK.out hr hNw (by omega) hsw o', hI.2.keep (fun i h1 h2 => World.putObj_heap_other (by omega))⟩)
  (fun pre A B hI hst => by
   obtain ⟨v, rfl⟩ := hst
   obtain ⟨⟨q, hq⟩, -, -⟩ := hI.2
   exact ⟨hI.1.setC SK.out hq hNw (by omega) hsw v, hI.2.set v⟩)
  ⟨S9.out, SqT.of Q9.out⟩
  (fun p => { tmps := (a.tmps.setIfInBounds 15 (enS p)).setIfInBounds 5 (enS p), defers := [] }) ?assign ?body ?done
 case assign =>
  intro l p W K hK
  subst ha
  simp only [List.setIfInBounds_toArray, List.set_cons_succ, List.set_cons_zero] at hK
  gi_wp2
  exact hK
 case body =>
  intro l pre p W hI hWs hd hl2 hx
  obtain ⟨h1, h2⟩ := hI
  have SI := Lib.hid h1
  have QI := Lib.hid h2
  have HDD := Lib.hid hd
  have HLL := Lib.hid hl2
  obtain ⟨r, hr⟩ := hx
  have HLEN : Hid (([] ++ unl ([] ++ prL pre) ++ dash p ++ (p ++ [10])).length ≤ 4000000003) := Lib.hid (by
   rw [piece_eq]
   have e1 := prot_len t
   have e2 := unl_mono (prL (pre ++ [p])) (prL r)
   have e3 : prot t = unl (prL (pre ++ [p]) ++ prL r) := by
    show unl (prL (pcs t)) = _
    rw [hr]; simp [prL]
   rw [e3] at e1
   simp only [List.nil_append]
   omega)
  subst ha
  simp only [List.setIfInBounds_toArray, List.set_cons_succ, List.set_cons_zero]
  have hsW := h1.size
  clear h1 h2 hd hl2 hr
  gi_wp2_with fail
  refine ⟨trivial, ((callsIn_wide.2 (hasPre p [45] W)).inRound l).mono ?_⟩
  rintro e W2 ⟨rfl, rfl⟩
  rw [pre45]
  by_cases h45 : p.head? = some 45
  ·have DY := Lib.hid (dash_yes h45)
   rw [decide_eq_true h45]
   clear h45
   gi_wp2_with fail
   refine ⟨trivial, ((callsIn_wide.2 (str_step SI.out hNw hsw [45, 32] (by have := HLEN.out; rw [DY.out] at this; simp only [List.length_append, List.length_cons, List.length_nil] at this ⊢; omega))).inRound l).mono ?_⟩
   rintro e W2 ⟨⟨v2, rfl⟩, S2, k2⟩
   have SX : Hid (St (TxT sb sb) sb sb wb [] ([] ++ unl ([] ++ prL pre) ++ dash p) W2) := Lib.hid (by rw [DY.out]; exact S2)
   have K2 := Lib.hid k2
   clear k2 S2
   gi_wp2_with fail
   refine ⟨trivial, ((callsIn_wide.2 (str_step SX.out hNw hsw p (by have := HLEN.out; simp only [List.length_append, List.length_cons, List.length_nil] at this ⊢; omega))).inRound l).mono ?_⟩
   rintro e W3 ⟨⟨v3, rfl⟩, S3, k3⟩
   gi_wp2_with fail
   refine ⟨trivial, ((callsIn_wide.2 (nl_step S3 hNw hsw (by have := HLEN.out; simp only [List.length_append, List.length_cons, List.length_nil] at this ⊢; omega))).inRound l).mono ?_⟩
   rintro e W4 ⟨rfl, S4, k4⟩
   have S4 : Hid (St (TxT sb sb) sb sb wb [] ([] ++ unl ([] ++ prL (pre ++ [p]))) W4) := Lib.hid (by rw [← piece_eq]; simpa using S4)
   have KW : Hid (SkB sb sb W W4) := Lib.hid ((K2.out.trans k3).trans k4)
   clear k3 k4 S3
   gi_wp2_with fail
   obtain ⟨rr, hrr⟩ := HLL.out
   exact ⟨⟨(KW.out.obj HDD.out (by omega) (by intro c t fz e; cases e)).trans HDD.out.symm, (KW.out.obj hrr (by omega) (by intro c t fz e; cases e)).trans hrr.symm⟩, QI.out.sk (by omega) KW.out, S4.out, QI.out.keep (QI.out.sk (by omega) KW.out)⟩
  ·have DY := Lib.hid (dash_no h45)
   rw [decide_eq_false h45]
   clear h45
   have SX : Hid (St (TxT sb sb) sb sb wb [] ([] ++ unl ([] ++ prL pre) ++ dash p) W) := Lib.hid (by rw [DY.out, List.append_nil]; exact SI.out)
   gi_wp2_with fail
   refine ⟨trivial, ((callsIn_wide.2 (str_step SX.out hNw hsw p (by have := HLEN.out; simp only [List.length_append, List.length_cons, List.length_nil] at this ⊢; omega))).inRound l).mono ?_⟩
   rintro e W3 ⟨⟨v3, rfl⟩, S3, k3⟩
   gi_wp2_with fail
   refine ⟨trivial, ((callsIn_wide.2 (nl_step S3 hNw hsw (by have := HLEN.out; simp only [List.length_append, List.length_cons, List.length_nil] at this ⊢; omega))).inRound l).mono ?_⟩
   rintro e W4 ⟨rfl, S4, k4⟩
   have S4 : Hid (St (TxT sb sb) sb sb wb [] ([] ++ unl ([] ++ prL (pre ++ [p]))) W4) := Lib.hid (by rw [← piece_eq]; simpa using S4)
   have KW : Hid (SkB sb sb W W4) := Lib.hid (k3.trans k4)
   clear k3 k4 S3
   gi_wp2_with fail
   obtain ⟨rr, hrr⟩ := HLL.out
   exact ⟨⟨(KW.out.obj HDD.out (by omega) (by intro c t fz e; cases e)).trans HDD.out.symm, (KW.out.obj hrr (by omega) (by intro c t fz e; cases e)).trans hrr.symm⟩, QI.out.sk (by omega) KW.out, S4.out, QI.out.keep (QI.out.sk (by omega) KW.out)⟩
 case done =>
  intro W hI hd
  have SW : Hid (St (TxT sb sb) sb sb wb [bs + 3] (prot t) W) := Lib.hid (by rw [← hs9]; exact ⟨hI.1.t, hI.1.k, S9.out.m.more (Nat.le_refl _) hI.1.m (by omega) hd⟩)
  subst ha
  clear hI hd
  go_wp2_with fail
  refine (Tryz.Builder_String_any_k sb sb _ W (Lib.IsBuilderF.of SW.out.t) (Nat.le_trans hNw SW.out.size)).mono ?_; rintro e w3 ⟨rfl, -, b3, k3⟩
  have M3 := Lib.hid (SW.out.m.kept hsw ⟨b3, k3⟩)
  have V3 := Lib.hid (KB.out.trans (Below.trans SW.out.k.below b3))
  clear b3 k3 SW
  go_wp2_with fail
  refine leave_marks (R := fun W => Below sb w W) (lo := wb.heap.size) ?_ ?_ [bs + 3] w3 M3.out V3.out
  ·intro W D h2 hd hlo
   exact ⟨h2.os, h2.tape, h2.output, by have := h2.size; simpa [World.putObj] using this, fun k hk => (World.putObj_heap_other (by omega)).trans (h2.block k hk)⟩
  ·intro W h2
   refine ⟨.tuple #[enS (prot t), i64 0], ?_, by rw [V.out], by rw [HSB.out]; exact h2⟩
   simp [results, Tryz.results30, go_sem]
end Go.Proofs.YtlchcjnbbhpiaaaGreatDoor
