/- Contracts: hexadecimal digits read; ascii.Unhex.
   Contract: ascii.Unhex of hexadecimal digits.
   Contracts: the letters of a message identifier.
   Contract: msgid.Parse.
   Contracts: the reader of a digest: fail, next. -/
import Derived.Test.YtlchcjnbbhpiaaaGreatDoorZh
import Derived.Test.YtlchcjnbbhpiaaaGreatDoorZd
namespace Go.Dg
def hexS : List UInt8 := [48, 49, 50, 51, 52, 53, 54, 55, 56, 57, 97, 98, 99, 100, 101, 102]
set_option maxRecDepth 100000 in
theorem hx_all : ∀ n : Fin 256, (isHx (UInt8.ofNat n) = true → Lib.indexByte hexS (UInt8.ofNat n) = (hxV (UInt8.ofNat n) : Int) ∧ hxV (UInt8.ofNat n) ≤ 15) ∧ (isHx (UInt8.ofNat n) = false → Lib.indexByte hexS (UInt8.ofNat n) = -1) := by decide +kernel
theorem hx_yes (c : UInt8) (h : isHx c = true) : Lib.indexByte hexS c = (hxV c : Int) ∧ hxV c ≤ 15 := by
 have a := (hx_all ⟨c.toNat, c.toNat_lt⟩).1
 simp only [UInt8.ofNat_toNat] at a
 exact a h
theorem hx_no (c : UInt8) (h : isHx c = false) : Lib.indexByte hexS c = -1 := by
 have a := (hx_all ⟨c.toNat, c.toNat_lt⟩).2
 simp only [UInt8.ofNat_toNat] at a
 exact a h
set_option maxRecDepth 100000 in
theorem or_hx : ∀ n : Fin 16, ∀ m : Fin 16, bits BinOp.or IntKind.u8 ((n.val : Int) * 16) (m.val : Int) = 16 * (n.val : Int) + m.val := by decide +kernel
theorem unhex_len : ∀ s : List UInt8, (unhex s).length = s.length / 2
 | [] => rfl
 | [_] => by simp [unhex]
 | a :: b :: l => by
  have := unhex_len l
  simp only [unhex, List.length_cons, this]; omega
theorem unhex_take : ∀ (s : List UInt8) (i : Nat), 2 * i + 1 < s.length → unhex (s.take (2 * (i + 1))) = unhex (s.take (2 * i)) ++ [UInt8.ofNat (16 * hxV (s.getD (2 * i) 0) + hxV (s.getD (2 * i + 1) 0))]
 | [], _, h => by simp at h
 | [_], i, h => by simp at h
 | a :: b :: l, 0, _ => by simp [unhex]
 | a :: b :: l, i + 1, h => by
  have ih := unhex_take l i (by simp only [List.length_cons] at h; omega)
  have e1 : 2 * (i + 1 + 1) = 2 * (i + 1) + 1 + 1 := by omega
  have e2 : 2 * (i + 1) = 2 * i + 1 + 1 := by omega
  have e3 : 2 * (i + 1) + 1 = 2 * i + 1 + 1 + 1 := by omega
  rw [e1, e3, e2, List.take_succ_cons, List.take_succ_cons, List.take_succ_cons, List.take_succ_cons, List.getD_cons_succ, List.getD_cons_succ, List.getD_cons_succ, List.getD_cons_succ]
  simp only [unhex]
  rw [show 2 * i + 1 + 1 = 2 * (i + 1) by omega, ih]
  rfl
end Go.Dg
namespace Go.Proofs.YtlchcjnbbhpiaaaGreatDoor
open Go.RowKit Go.Shelf Go.Dg
theorem hexIdx (c : UInt8) (w : World) : Calls Tryz.prog 172 #[.string ⟨#[48, 49, 50, 51, 52, 53, 54, 55, 56, 57, 97, 98, 99, 100, 101, 102]⟩, .int .u8 c.toNat] w fun e w' => e = .returned (i64 (Lib.indexByte hexS c)) ∧ w = w' := by
 have h := Tryz.strings_IndexByte ⟨hexS.toArray⟩ c.toNat w
 refine h.mono fun e w' ⟨h1, h2⟩ => ⟨?_, h2.symm⟩
 rw [h1]
 simp
set_option maxRecDepth 100000 in
theorem isHex1_any (c : UInt8) (w : World) : Calls Tryz.prog 171 #[.int .u8 c.toNat] w fun e w' => e = .returned (.bool (isHx c)) ∧ w = w' := by
 go_enter Tryz.func171, Tryz.ntmps171
 go_wp2_with fail
 refine (hexIdx c w).mono ?_; rintro e w1 ⟨rfl, rfl⟩
 cases h : isHx c with
 | true =>
  obtain ⟨h1, h2⟩ := hx_yes c h
  rw [h1]
  have V := Lib.hid h
  clear h h1
  generalize hxV c = v at *
  go_wp2_with fail
  go_ret
  rw [V.out]
  exact ⟨rfl, rfl⟩
 | false =>
  rw [hx_no c h]
  have V := Lib.hid h
  clear h
  go_wp2_with fail
  go_ret
  rw [V.out]
  exact ⟨rfl, rfl⟩
set_option maxRecDepth 100000 in
theorem hexVal_any (c : UInt8) (w : World) (h : isHx c = true) : Calls Tryz.prog 174 #[.int .u8 c.toNat] w fun e w' => e = .returned (.int .u8 (hxV c)) ∧ w = w' := by
 go_enter Tryz.func174, Tryz.ntmps174
 go_wp2_with fail
 refine (hexIdx c w).mono ?_; rintro e w1 ⟨rfl, rfl⟩
 obtain ⟨h1, h2⟩ := hx_yes c h
 rw [h1]
 clear h h1
 have h3 : ((hxV c : Nat) : Int) % 256 = hxV c := by omega
 obtain ⟨v, hv⟩ : ∃ v, hxV c = v := ⟨_, rfl⟩
 rw [hv] at h2 h3 ⊢
 have HV := Lib.hid hv
 clear hv
 go_wp2_with fail
 go_ret
 rw [HV.out]
 exact ⟨rfl, rfl⟩
set_option maxRecDepth 100000 in
set_option maxHeartbeats 2000000 in
/-- skip over hexadecimal digits alone: to the end. -/
theorem skip_hex (s : List UInt8) (w : World) (h : s.all isHx = true) (hl : s.length ≤ 1000) :
  Calls Tryz.prog 173 #[enS s, i64 0, .func (.func 171) #[] #[]] w fun e w' => e = .returned (i64 s.length) ∧ w = w' := by
 have HA := Lib.hid h
 clear h
 go_enter Tryz.func173, Tryz.ntmps173
 go_wp2_with fail
 go_loopg [1] s.length (fun gg iv wr => ∃ k : Nat, k ≤ s.length ∧ s.length - k ≤ gg ∧ iv = i64 k ∧ Hid (w = wr))
 case atStart => exact ⟨0, Nat.zero_le _, by omega, rfl, Lib.hid rfl⟩
 case round =>
  obtain ⟨k, hk, hg, rfl, hw⟩ := hrel
  obtain rfl := hw.out
  clear hw
  by_cases hlt : k < s.length
  ·have bg := bget (t := s) (p := k) (show k < s.toArray.size by simpa using hlt) hlt
   have hxc := List.all_eq_true.1 HA.out (s.getD k 0) (List.mem_of_getElem? (i := k) (by simp [hlt]))
   have hxc := Lib.hid hxc
   obtain ⟨c, hc⟩ : ∃ c, s.getD k 0 = c := ⟨_, rfl⟩
   rw [hc] at bg hxc
   clear hc
   go_wp2_with fail
   refine (isHex1_any c _).mono ?_; rintro e w9 ⟨rfl, rfl⟩
   rw [hxc.out]
   go_wp2_with fail
   go_roundg (s.length - (k + 1))
   case measure => omega
   case rel => exact ⟨k + 1, by omega, by omega, by simp, Lib.hid rfl⟩
  ·obtain rfl : k = s.length := by omega
   go_wp2_with fail
   go_ret
   exact ⟨rfl, rfl⟩
section
variable {P : Program} {C : World → Prop} {Q : Act → Prop} {a : Act} {o : Oper}
/-- An index in a quiet walk, by its run equation. -/
theorem quiet_index {K : Act → Prop} (t : TypeId) (x i : Operand) (ho : o.op = .index t x i) (v : Value) (hr : ∀ w, (Instr.index t (a.eval x) (a.eval i)).run P w = .ok v w) (hk : K (a.put o.dst v)) : o.quiet P a C K :=
 ⟨_, fun w _ => by
  unfold Oper.quietAt execOp
  simp only [ho, Sem.run_bind, Sem.run_pure, hr, Result.andThen_ok]
  exact ⟨rfl, rfl⟩, hk⟩
end
theorem idx_run (s : List UInt8) (k : Nat) (c : UInt8) (hk : s[k]? = some c) (w : World) : (Instr.index 9 (enS s) (i64 k)).run Tryz.prog w = .ok (.int .u8 c.toNat) w := by
 obtain ⟨hl, e⟩ := List.getElem?_eq_some_iff.1 hk
 have hlt : k < (⟨s.toArray⟩ : ByteArray).size := by show k < s.toArray.size; simpa using hl
 have h := bget hlt hl
 have hs : (⟨s.toArray⟩ : ByteArray)[k]? = some c := by
  rw [getElem?_pos (⟨s.toArray⟩ : ByteArray) k hlt, h, List.getD_eq_getElem?_getD, hk]; rfl
 simp [Instr.index, asIntOf, Result.andThen, hs]
set_option maxRecDepth 100000 in
set_option maxHeartbeats 8000000 in
theorem unhex_any (s : List UInt8) (m : Nat) (w : World) (h : s.all isHx = true) (hm : s.length = 2 * m) (hl : m ≤ 100) :
  Calls Tryz.prog 130 #[enS s] w fun e w' => (∃ v, e = .returned (.tuple #[v, i64 0]) ∧ w'.ownsRow w.heap.size 5 1 v m ((unhex s).map enB)) ∧ Below w.heap.size w w' := by
 obtain ⟨i0, hi, hz0, hz1, hz2⟩ := info_parts byteInfo
 have HA := Lib.hid h
 have HSK := Lib.hid (fun u => skip_hex s u h (by omega))
 clear h
 have hr0 : ((s.length : Int)) % 2 = 0 := by omega
 have hq0 : ((s.length : Int)) / 2 = m := by omega
 go_enter Tryz.func130, Tryz.ntmps130
 go_wp2_with fail
 refine (HSK.out w).mono ?_; rintro e w1 ⟨rfl, rfl⟩
 rw [hm]
 go_wp2_with (refine wpList_make_own _ rfl _ _ 66 rfl w.heap.size 5 i0 (.int .u8 0) 1 Tryz.underlying66 hi hz0 hz1 .i64 .i64 _ m rfl rfl (by omega) (by rw [hz2]; omega) (by unfold maxLen; omega) (Nat.le_refl _) ?_; intro w1 ho1 hg1)
 have b1 : Below w.heap.size w w1 := (Below.refl _ _).grown hg1 (Nat.le_refl _) (fun k e => by cases e)
 have O1 : Hid (w1.ownsRow w.heap.size 5 1 (.slice (some ⟨w.heap.size, 0, none⟩) 0 m) 0 ((unhex (s.take (2 * 0))).map enB)) := Lib.hid (by simpa [unhex] using ho1)
 have B1 := Lib.hid b1
 clear ho1 hg1 b1 hr0 hq0 HSK
 go_loopg [6, 7] m (fun gg v iv wr => ∃ k : Nat, k ≤ m ∧ m - k ≤ gg ∧ iv = i64 (2 * k : Nat) ∧ Hid (wr.ownsRow w.heap.size 5 1 v k ((unhex (s.take (2 * k))).map enB)) ∧ Hid (Below w.heap.size w wr))
 case atStart => exact ⟨0, Nat.zero_le _, by omega, rfl, O1, B1⟩
 case round =>
  obtain ⟨k, hk, hg, rfl, O, B⟩ := hrel
  clear O1 B1
  by_cases hlt : k < m
  ·have l1 : 2 * k < s.length := by omega
   have l2 : 2 * k + 1 < s.length := by omega
   have h1 : s[2 * k]? = some (s.getD (2 * k) 0) := by simp [l1]
   have h2 : s[2 * k + 1]? = some (s.getD (2 * k + 1) 0) := by simp [l2]
   have x1 := Lib.hid (List.all_eq_true.1 HA.out (s.getD (2 * k) 0) (List.mem_of_getElem? (i := 2 * k) (by simp [l1])))
   have x2 := Lib.hid (List.all_eq_true.1 HA.out (s.getD (2 * k + 1) 0) (List.mem_of_getElem? (i := 2 * k + 1) (by simp [l2])))
   have HT := Lib.hid (unhex_take s k l2)
   obtain ⟨c1, hc1⟩ : ∃ c, s.getD (2 * k) 0 = c := ⟨_, rfl⟩
   obtain ⟨c2, hc2⟩ : ∃ c, s.getD (2 * k + 1) 0 = c := ⟨_, rfl⟩
   rw [hc1] at h1 x1 HT
   rw [hc2] at h2 x2 HT
   clear hc1 hc2
   go_wp2_with fail
   refine Flow.wp_region_segs (BelowR w.heap.size) (BelowR.refl _) (BelowR.trans _) [([0, 1, 2, 3, 4, 7, 8, 9, 10, 11], 5), ([6], 12), ([13], 14), ([], 15)] [16] (by kernel_rfl) (by kernel_rfl) ?_
   have O2 := Lib.hid ((own_below2 O.out (Below.refl _ wr).drew))
   have B2 := Lib.hid (B.out.drew)
   clear O B
   generalize World.drew wr = w2 at *
   haveI nonE := belowR_nonempty w.heap.size w2
   rw [Flow.wpSegs_cons]
   simp only [Flow.pick, List.getElem?_toArray, List.getElem?_cons_succ, List.getElem?_cons_zero]
   have I1 := Lib.hid (idx_run s (2 * k) c1 h1)
   have I2 := Lib.hid (idx_run s (2 * k + 1) c2 h2)
   iterate 4 go_big_quiet_step (fail)
   refine BigFrame.wpQuiet_want rfl (fun K hK => quiet_index 9 _ _ rfl (.int .u8 c1.toNat) I1.out (hK _ ?_))
   clear hK K
   simp only [Act.put, List.setIfInBounds_toArray, List.set_cons_succ, List.set_cons_zero]
   iterate 4 go_big_quiet_step (fail)
   refine BigFrame.wpQuiet_want rfl (fun K hK => quiet_index 9 _ _ rfl (.int .u8 c2.toNat) I2.out (hK _ ?_))
   clear hK K
   simp only [Act.put, List.setIfInBounds_toArray, List.set_cons_succ, List.set_cons_zero]
   refine wpQuiet_nil ?_
   clear nonE I1 I2 h1 h2
   have hv1 := (hx_yes c1 x1.out).2
   have hv2 := (hx_yes c2 x2.out).2
   have hor := or_hx ⟨hxV c1, by omega⟩ ⟨hxV c2, by omega⟩
   simp only at hor
   have eb : (16 * (hxV c1 : Int) + hxV c2) = (((UInt8.ofNat (16 * hxV c1 + hxV c2)).toNat : Nat) : Int) := by
    rw [UInt8.toNat_ofNat', Nat.mod_eq_of_lt (by omega)]; omega
   have EB := Lib.hid eb
   clear eb
   rw [Flow.callAt_eq]
   simp only [List.getElem?_toArray, List.getElem?_cons_succ, List.getElem?_cons_zero]
   rw [if_pos (by rfl)]
   refine Flow.wp_behind (fun K0 hK => ?_)
   go_wp2_with fail
   refine (hexVal_any c1 w2 x1.out).mono ?_; rintro e w3 ⟨rfl, rfl⟩
   refine hK.out _ _ ⟨Below.refl _ _, ?_⟩
   clear hK K0
   obtain ⟨a, ha⟩ : ∃ a, hxV c1 = a := ⟨_, rfl⟩
   obtain ⟨b, hb⟩ : ∃ b, hxV c2 = b := ⟨_, rfl⟩
   have hm1 : ((a : Int) * 16) % 256 = a * 16 := by omega
   have HB2 := Lib.hid hb
   rw [ha] at hv1 hor EB HT ⊢
   rw [hb] at hv2 hor EB HT
   haveI nonE := belowR_nonempty w.heap.size w2
   rw [Flow.wpSegs_cons]
   simp only [Flow.pick, List.getElem?_toArray, List.getElem?_cons_succ, List.getElem?_cons_zero]
   go_big_quiet_step (fail)
   refine wpQuiet_nil ?_
   clear nonE
   rw [Flow.callAt_eq]
   simp only [List.getElem?_toArray, List.getElem?_cons_succ, List.getElem?_cons_zero]
   rw [if_pos (by rfl)]
   refine Flow.wp_behind (fun K0 hK => ?_)
   go_wp2_with fail
   refine (hexVal_any c2 w2 x2.out).mono ?_; rintro e w3 ⟨rfl, rfl⟩
   rw [HB2.out]
   refine hK.out _ _ ⟨Below.refl _ _, ?_⟩
   clear hK K0
   haveI nonE := belowR_nonempty w.heap.size w2
   rw [Flow.wpSegs_cons]
   simp only [Flow.pick, List.getElem?_toArray, List.getElem?_cons_succ, List.getElem?_cons_zero]
   go_big_quiet_step (fail)
   refine wpQuiet_nil ?_
   clear nonE
   rw [EB.out]
   obtain ⟨z, hz⟩ : ∃ z, UInt8.ofNat (16 * a + b) = z := ⟨_, rfl⟩
   rw [hz] at HT
   simp only [hz]
   clear hz hor hm1 EB HB2 ha hb hv1 hv2
   rw [Flow.callAt_eq]
   simp only [List.getElem?_toArray, List.getElem?_cons_succ, List.getElem?_cons_zero]
   rw [if_pos (by rfl)]
   refine Flow.wp_behind (fun K0 hK => ?_)
   go_wp2_with fail
   refine hK.out _ _ ⟨(below_new _ _).mono B2.out.size, ?_⟩
   clear hK K0
   have O3 := Lib.hid (own_below2 O2.out (below_new w2 (.cells #[enB z] 5)))
   have B3 := Lib.hid (B2.out.tr (below_new w2 (.cells #[enB z] 5)))
   have R3 := Lib.hid (RdC.new w2 [enB z] 5)
   clear O2 B2
   generalize w2.alloc (.cells #[enB z] 5) = w3 at *
   rw [Flow.wpSegs_cons]
   simp only [Flow.pick]
   haveI nonE := belowR_nonempty w.heap.size w3
   refine wpQuiet_nil ?_
   clear nonE
   rw [Flow.callAt_eq]
   simp only [List.getElem?_toArray, List.getElem?_cons_succ, List.getElem?_cons_zero]
   rw [if_pos (by rfl)]
   refine Flow.wp_behind (fun K0 hK => ?_)
   refine wp_appC Tryz.underlying66 hi hz0 hz1 hz2 rfl (by decide) _ _ rfl w.heap.size _ k _ O3.out rfl _ 1 1 [enB z] rfl R3.out rfl (enB_one [z]) (by omega) (by omega) B3.out.size ?_
   intro v' w4 ho4 hg4 hb4
   refine hK.out _ _ ⟨hb4, ?_⟩
   clear hK K0
   have O4 : Hid (w4.ownsRow w.heap.size 5 1 v' (k + 1) ((unhex (s.take (2 * (k + 1)))).map enB)) := Lib.hid (by
    (show _); rw [HT.out, List.map_append]; exact ho4)
   have B4 := Lib.hid (B3.out.trans hb4)
   clear O3 B3 ho4 hg4 hb4 R3
   haveI nonE := belowR_nonempty w.heap.size w4
   rw [Flow.wpSegs_nil]
   simp only [Flow.pick, Act.put, List.setIfInBounds_toArray, List.set_cons_succ, List.set_cons_zero, List.getElem?_toArray, List.getElem?_cons_succ, List.getElem?_cons_zero]
   repeat go_big_quiet_step (fail)
   refine wpQuiet_nil ?_
   clear nonE
   go_wp2_with fail
   go_roundg (m - (k + 1))
   case measure => omega
   case rel => exact ⟨k + 1, by omega, by omega, by go_num, O4, B4⟩
  ·obtain rfl : k = m := by omega
   have OE : Hid (wr.ownsRow w.heap.size 5 1 _ k ((unhex s).map enB)) := Lib.hid (by have := O.out; rw [← hm, List.take_length] at this; exact this)
   obtain ⟨A4, c4, hv4⟩ := own2_slice OE.out
   go_wp2_with fail
   go_ret2
   exact ⟨⟨_, rfl, OE.out⟩, B.out⟩
end Go.Proofs.YtlchcjnbbhpiaaaGreatDoor
namespace Go.Dg
def fitB (k : Nat) (c : UInt8) : Bool := if k < 1 then c == 60 else if k < 65 then isHx c else c == wHash.getD (k - 65) 0
theorem idV_len {s : List UInt8} (h : s.length ≠ 71) : idV s = none := by
 unfold idV
 rw [if_neg fun e => h e.1]
theorem idV_bad {s : List UInt8} {k : Nat} (h1 : k < 71) (h2 : k < s.length) (h : fitB k (s.getD k 0) = false) : idV s = none := by
 unfold idV
 rw [if_neg]
 rintro ⟨e1, e2, e3, e4⟩
 unfold fitB at h
 by_cases a : k < 1
 ·rw [if_pos a] at h
  obtain rfl : k = 0 := by omega
  cases s with
  | nil => simp at h2
  | cons c s => simp at e2; simp [e2] at h
 ·rw [if_neg a] at h
  by_cases b : k < 65
  ·rw [if_pos b] at h
   have := List.all_eq_true.1 e3 (s.getD k 0) (List.mem_of_getElem? (i := k - 1) (by
    rw [List.getElem?_take_of_lt (by omega), List.getElem?_drop, show 1 + (k - 1) = k by omega]; simp [h2]))
   rw [h] at this; cases this
  ·rw [if_neg b] at h
   have e : wHash.getD (k - 65) 0 = s.getD k 0 := by
    rw [← e4, List.getD_eq_getElem?_getD, List.getD_eq_getElem?_getD, List.getElem?_drop, show 65 + (k - 65) = k by omega]
   rw [e] at h
   simp at h
theorem idV_ok {s : List UInt8} (h71 : s.length = 71) (h : ∀ k, k < 71 → fitB k (s.getD k 0) = true) : idV s = some (unhex ((s.drop 1).take 64)) ∧ ((s.drop 1).take 64).all isHx = true := by
 have hx : ((s.drop 1).take 64).all isHx = true := by
  refine List.all_eq_true.2 fun c hc => ?_
  obtain ⟨i, hi⟩ := List.getElem?_of_mem hc
  have hl := (List.getElem?_eq_some_iff.1 hi).1
  rw [List.length_take, List.length_drop] at hl
  rw [List.getElem?_take_of_lt (by omega), List.getElem?_drop] at hi
  have := h (1 + i) (by omega)
  unfold fitB at this
  rw [if_neg (by omega), if_pos (by omega), List.getD_eq_getElem?_getD, hi] at this
  exact this
 refine ⟨?_, hx⟩
 unfold idV
 rw [if_pos]
 refine ⟨h71, ?_, hx, ?_⟩
 ·have := h 0 (by omega)
  unfold fitB at this
  rw [if_pos (by omega)] at this
  cases s with
  | nil => simp at h71
  | cons c s => simpa using this
 ·refine List.ext_getElem? fun i => ?_
  by_cases hi : i < 6
  ·have := h (65 + i) (by omega)
   unfold fitB at this
   rw [if_neg (by omega), if_neg (by omega), Nat.add_sub_cancel_left] at this
   have e := eq_of_beq this
   have l1 : 65 + i < s.length := by omega
   have l2 : i < wHash.length := hi
   rw [List.getElem?_drop, List.getElem?_eq_getElem l1, List.getElem?_eq_getElem l2]
   rw [List.getD_eq_getElem?_getD, List.getElem?_eq_getElem l1, List.getD_eq_getElem?_getD, List.getElem?_eq_getElem l2] at e
   simpa using e
  ·rw [List.getElem?_eq_none (by rw [List.length_drop]; omega), List.getElem?_eq_none (by (show 6 ≤ i); omega)]
end Go.Dg
namespace Go.Proofs.YtlchcjnbbhpiaaaGreatDoor
open Go.RowKit Go.Shelf Go.Dg
def isDg (c : UInt8) : Bool := decide (48 ≤ c.toNat) && decide (c.toNat ≤ 57)
theorem asciiDigit_any (c : UInt8) (w : World) : Calls Tryz.prog 209 #[.int .u8 c.toNat] w fun e w' => e = .returned (.bool (isDg c)) ∧ w = w' := by
 have hc := c.toNat_lt
 by_cases a0 : 48 ≤ c.toNat <;> by_cases a1 : c.toNat ≤ 57
 all_goals
  first
   | (have V : Hid (isDg c = true) := by (show isDg c = true); simp only [isDg, Bool.and_eq_true, decide_eq_true_eq]; omega)
   | (have V : Hid (isDg c = false) := by (show isDg c = false); simp only [isDg, Bool.and_eq_false_iff, decide_eq_false_iff_not]; omega)
  generalize c.toNat = n at *
  go_enter Tryz.func209, Tryz.ntmps209
  go_wp2
  all_goals first | (exfalso; omega) | skip
  all_goals
   go_ret
   exact ⟨ret_bool (by first | (rw [V.out]; done) | (rw [V.out]; simp; done) | (rw [V.out]; simp; omega)), rfl⟩
theorem isHx_eq (c : UInt8) : isHx c = (isDg c || (decide (97 ≤ c.toNat) && decide (c.toNat ≤ 102))) := rfl
theorem msgDigit_any (c : UInt8) (w : World) : Calls Tryz.prog 170 #[.int .u8 c.toNat] w fun e w' => e = .returned (.bool (isHx c)) ∧ w = w' := by
 have hc := c.toNat_lt
 have HD := Lib.hid (fun u => asciiDigit_any c u)
 have HE := Lib.hid (isHx_eq c)
 cases hd : isDg c with
 | true =>
  rw [hd] at HE HD
  have V : Hid (isHx c = true) := Lib.hid (by (show _ = _); rw [HE.out]; rfl)
  clear hd HE
  go_enter Tryz.func170, Tryz.ntmps170
  go_wp2_with fail
  refine (HD.out _).mono ?_; rintro e w1 ⟨rfl, rfl⟩
  go_wp2_with fail
  go_ret
  rw [V.out]
  exact ⟨rfl, rfl⟩
 | false =>
  rw [hd] at HE HD
  clear hd
  by_cases a0 : 97 ≤ c.toNat <;> by_cases a1 : c.toNat ≤ 102
  all_goals
   first
    | (have V : Hid (isHx c = true) := Lib.hid (by (show _ = _); rw [HE.out]; simp only [Bool.false_or, Bool.and_eq_true, decide_eq_true_eq]; omega))
    | (have V : Hid (isHx c = false) := Lib.hid (by (show _ = _); rw [HE.out]; simp only [Bool.false_or, Bool.and_eq_false_iff, decide_eq_false_iff_not]; omega))
   clear HE
   generalize c.toNat = n at *
   go_enter Tryz.func170, Tryz.ntmps170
   go_wp2_with fail
   refine (HD.out _).mono ?_; rintro e w1 ⟨rfl, rfl⟩
   go_wp2_with fail
   all_goals first | (exfalso; omega) | skip
   all_goals
    go_ret
    exact ⟨ret_bool (by first | (rw [V.out]; done) | (rw [V.out]; simp; done) | (rw [V.out]; simp; omega)), rfl⟩
theorem eq_u8 (c : UInt8) (n : Nat) (h : n < 256) : (((c.toNat : Int)) == (n : Int)) = (c == UInt8.ofNat n) := by
 rw [← u8_eq, UInt8.toNat_ofNat', Nat.mod_eq_of_lt h]
set_option maxRecDepth 100000 in
set_option maxHeartbeats 2000000 in
theorem fits_any (k : Nat) (c : UInt8) (w : World) (hk : k < 71) : Calls Tryz.prog 129 #[i64 k, .int .u8 c.toNat] w fun e w' => e = .returned (.bool (fitB k c)) ∧ w = w' := by
 by_cases h0 : k < 1
 ·obtain rfl : k = 0 := by omega
  have V : Hid (fitB 0 c = ((c.toNat : Int) == 60)) := Lib.hid (by (show _ = _); exact (eq_u8 c 60 (by omega)).symm)
  go_enter Tryz.func129, Tryz.ntmps129
  go_wp2_with fail
  go_ret
  rw [V.out]
  exact ⟨rfl, rfl⟩
 ·by_cases h1 : k < 65
  ·have V : Hid (fitB k c = isHx c) := Lib.hid (by (show _ = _); unfold fitB; rw [if_neg h0, if_pos h1])
   have HD := Lib.hid (fun u => msgDigit_any c u)
   go_enter Tryz.func129, Tryz.ntmps129
   go_wp2_with fail
   refine (HD.out _).mono ?_; rintro e w1 ⟨rfl, rfl⟩
   go_wp2_with fail
   go_ret
   rw [V.out]
   exact ⟨rfl, rfl⟩
  ·rcases (show k = 65 ∨ k = 66 ∨ k = 67 ∨ k = 68 ∨ k = 69 ∨ k = 70 by omega) with rfl | rfl | rfl | rfl | rfl | rfl
   ·have V : Hid (fitB 65 c = ((c.toNat : Int) == 64)) := Lib.hid (by (show _ = _); exact (eq_u8 c 64 (by decide)).symm)
    go_enter Tryz.func129, Tryz.ntmps129
    go_wp2_with fail
    go_ret
    rw [V.out]
    exact ⟨rfl, rfl⟩
   ·have V : Hid (fitB 66 c = ((c.toNat : Int) == 104)) := Lib.hid (by (show _ = _); exact (eq_u8 c 104 (by decide)).symm)
    go_enter Tryz.func129, Tryz.ntmps129
    go_wp2_with fail
    go_ret
    rw [V.out]
    exact ⟨rfl, rfl⟩
   ·have V : Hid (fitB 67 c = ((c.toNat : Int) == 97)) := Lib.hid (by (show _ = _); exact (eq_u8 c 97 (by decide)).symm)
    go_enter Tryz.func129, Tryz.ntmps129
    go_wp2_with fail
    go_ret
    rw [V.out]
    exact ⟨rfl, rfl⟩
   ·have V : Hid (fitB 68 c = ((c.toNat : Int) == 115)) := Lib.hid (by (show _ = _); exact (eq_u8 c 115 (by decide)).symm)
    go_enter Tryz.func129, Tryz.ntmps129
    go_wp2_with fail
    go_ret
    rw [V.out]
    exact ⟨rfl, rfl⟩
   ·have V : Hid (fitB 69 c = ((c.toNat : Int) == 104)) := Lib.hid (by (show _ = _); exact (eq_u8 c 104 (by decide)).symm)
    go_enter Tryz.func129, Tryz.ntmps129
    go_wp2_with fail
    go_ret
    rw [V.out]
    exact ⟨rfl, rfl⟩
   ·have V : Hid (fitB 70 c = ((c.toNat : Int) == 62)) := Lib.hid (by (show _ = _); exact (eq_u8 c 62 (by decide)).symm)
    go_enter Tryz.func129, Tryz.ntmps129
    go_wp2_with fail
    go_ret
    rw [V.out]
    exact ⟨rfl, rfl⟩
theorem results_cell3 {P : Program} {fn : Func} {tmps : Array Value} {w : World} {a i j : Nat} {ty : TypeId} {q : Addr} {vs x y : Value} (hr : fn.results = #[.cell a ty, .tmp i, .tmp j]) (ha : tmps.getD a undef = .pointer (some q)) (hl : (loadVar ty q).run P w = .ok vs w) (hx : tmps.getD i undef = x) (hy : tmps.getD j undef = y) : (results fn tmps).run P w = .ok (.tuple #[vs, x, y]) w := by
 unfold results
 rw [hr]
 have hA : (asAddr (tmps.getD a undef)).run P w = .ok q w := by rw [ha]; rfl
 have hmap : ∀ u : Sem (List Value), (Functor.map List.toArray u) = u >>= fun l => pure l.toArray := fun _ => rfl
 have hp : ∀ {α : Type} (u : α), (pure u : Sem α).run P w = .ok u w := fun _ => rfl
 simp only [List.mapM_toArray, List.mapM_cons, List.mapM_nil, hmap, Sem.run_bind, hA, Result.andThen, hl, hx, hy, hp]
 rfl
theorem set_range {w : World} {b n : Nat} {cs : Array Value} {t : TypeId} (h : w.heap[b]? = some (.cells cs t (0, 0))) (hn : cs.size = n) (vs : List Value) (hl : vs.length = n) : (w.setCells b 0 vs).rangeAt b 0 vs := fun j v hv => by
 obtain ⟨hlt, e⟩ := List.getElem?_eq_some_iff.1 hv
 have := World.cell?_setCells_in b vs 0 w (fun i hi => (there_blk h hn i (by omega)).1) j hlt
 rw [e] at this
 exact this
theorem own_rng {w : World} {base n : Nat} {e : TypeId} {v : Value} {xs : List Value} (h : w.ownsRow base e 1 v n xs) (hn : 0 < n) : ∃ g cap, v = .slice (some ⟨g, 0, none⟩) n cap ∧ w.rangeAt g 0 xs := by
 have hc := fun g (hg : v.ownBlock = some g) => h.cells hg
 rcases h.2 with ⟨_, h1⟩ | ⟨g, cap, cur, h1, _⟩
 ·omega
 ·subst h1
  refine ⟨g, cap, rfl, fun j u hu => ?_⟩
  have := hc g rfl j u hu
  rw [addr_addN] at this
  exact this
/-- How the fail ends look: the identity of zeros. -/
abbrev zero32 : List Value := [.int .u8 0, .int .u8 0, .int .u8 0, .int .u8 0, .int .u8 0, .int .u8 0, .int .u8 0, .int .u8 0, .int .u8 0, .int .u8 0, .int .u8 0, .int .u8 0, .int .u8 0, .int .u8 0, .int .u8 0, .int .u8 0, .int .u8 0, .int .u8 0, .int .u8 0, .int .u8 0, .int .u8 0, .int .u8 0, .int .u8 0, .int .u8 0, .int .u8 0, .int .u8 0, .int .u8 0, .int .u8 0, .int .u8 0, .int .u8 0, .int .u8 0, .int .u8 0]
theorem zero32_eq : zero32.toArray = (idL zId).toArray := idL_zero.symm
theorem id_fail (a b : Value) : Ending.returned (.tuple #[.agg zero32.toArray, a, b]) = Ending.returned (.tuple #[idA ((none : Option (List UInt8)).getD zId), a, b]) := by
 unfold idA
 rw [zero32_eq]
 rfl
set_option maxRecDepth 100000 in
set_option maxHeartbeats 8000000 in
theorem parseId_any (s : List UInt8) (w : World) (hl : s.length ≤ 1000000000) :
  Calls Tryz.prog 97 #[enS s] w fun e w' => (∃ at_ er : Int, ((er == 0) = (idV s).isSome) ∧ e = .returned (.tuple #[idA ((idV s).getD zId), i64 at_, i64 er])) ∧ Below w.heap.size w w' := by
 have BK := Lib.hid (blk_new w (.cells #[.int .u8 0, .int .u8 0, .int .u8 0, .int .u8 0, .int .u8 0, .int .u8 0, .int .u8 0, .int .u8 0, .int .u8 0, .int .u8 0, .int .u8 0, .int .u8 0, .int .u8 0, .int .u8 0, .int .u8 0, .int .u8 0, .int .u8 0, .int .u8 0, .int .u8 0, .int .u8 0, .int .u8 0, .int .u8 0, .int .u8 0, .int .u8 0, .int .u8 0, .int .u8 0, .int .u8 0, .int .u8 0, .int .u8 0, .int .u8 0, .int .u8 0, .int .u8 0] 57))
 have B0 := Lib.hid (below_new w (.cells #[.int .u8 0, .int .u8 0, .int .u8 0, .int .u8 0, .int .u8 0, .int .u8 0, .int .u8 0, .int .u8 0, .int .u8 0, .int .u8 0, .int .u8 0, .int .u8 0, .int .u8 0, .int .u8 0, .int .u8 0, .int .u8 0, .int .u8 0, .int .u8 0, .int .u8 0, .int .u8 0, .int .u8 0, .int .u8 0, .int .u8 0, .int .u8 0, .int .u8 0, .int .u8 0, .int .u8 0, .int .u8 0, .int .u8 0, .int .u8 0, .int .u8 0, .int .u8 0] 57))
 go_enter Tryz.func97, Tryz.ntmps97
 go_upto_block 0 with fail
 generalize w.alloc (.cells #[.int .u8 0, .int .u8 0, .int .u8 0, .int .u8 0, .int .u8 0, .int .u8 0, .int .u8 0, .int .u8 0, .int .u8 0, .int .u8 0, .int .u8 0, .int .u8 0, .int .u8 0, .int .u8 0, .int .u8 0, .int .u8 0, .int .u8 0, .int .u8 0, .int .u8 0, .int .u8 0, .int .u8 0, .int .u8 0, .int .u8 0, .int .u8 0, .int .u8 0, .int .u8 0, .int .u8 0, .int .u8 0, .int .u8 0, .int .u8 0, .int .u8 0, .int .u8 0] 57) = w1 at *
 have hm : min (s.length : Int) 71 = ((min s.length 71 : Nat) : Int) := by omega
 rw [hm]
 have hm1 : min s.length 71 ≤ s.length := Nat.min_le_left _ _
 have hm2 : min s.length 71 ≤ 71 := Nat.min_le_right _ _
 have hm3 : min s.length 71 = 71 ∨ s.length < 71 := by omega
 generalize min s.length 71 = m at *
 clear hm
 go_wp2_with fail
 go_loopg [10] m (fun gg iv wr => ∃ k : Nat, k ≤ m ∧ m - k ≤ gg ∧ iv = i64 k ∧ Hid ((∀ j, j < k → fitB j (s.getD j 0) = true) ∧ wr.heap[w.heap.size]? = some (.cells #[.int .u8 0, .int .u8 0, .int .u8 0, .int .u8 0, .int .u8 0, .int .u8 0, .int .u8 0, .int .u8 0, .int .u8 0, .int .u8 0, .int .u8 0, .int .u8 0, .int .u8 0, .int .u8 0, .int .u8 0, .int .u8 0, .int .u8 0, .int .u8 0, .int .u8 0, .int .u8 0, .int .u8 0, .int .u8 0, .int .u8 0, .int .u8 0, .int .u8 0, .int .u8 0, .int .u8 0, .int .u8 0, .int .u8 0, .int .u8 0, .int .u8 0, .int .u8 0] 57 (0, 0)) ∧ Below w.heap.size w wr))
 case atStart => exact ⟨0, by omega, by omega, rfl, Lib.hid ⟨by omega, BK.out, B0.out⟩⟩
 case round =>
  obtain ⟨k, hk, hgk, rfl, HH⟩ := hrel
  clear BK B0
  by_cases hlt : k < m
  ·have hlt2 : k < s.length := by omega
   have bg := bget (t := s) (p := k) (show k < s.toArray.size by simpa using hlt2) hlt2
   have HB1 := Lib.hid (idV_bad (s := s) (k := k) (by omega) hlt2)
   obtain ⟨c, hc⟩ : ∃ c, s.getD k 0 = c := ⟨_, rfl⟩
   rw [hc] at bg HB1
   have HC := Lib.hid hc
   clear hc
   go_wp2_with fail
   refine (fits_any k c _ (by omega)).mono ?_; rintro e w9 ⟨rfl, rfl⟩
   cases hx : fitB k c with
   | false =>
    have V := Lib.hid (HB1.out hx)
    clear hx HB1
    go_wp2_with (refine wpList_store_mid rfl 57 _ _ rfl w.heap.size 0 _ rfl rfl ?_ ?_ ?_ ?_)
    ·exact there_blk HH.out.2.1 rfl
    ·kernel_rfl
    ·kernel_rfl
    have BB := HH.out.2.2.trans (belowCells (N := w.heap.size) (b := w.heap.size) (Nat.le_refl _) zero32 0 wr)
    have HRz : World.rangeAt (wr.setCells w.heap.size 0 zero32) w.heap.size 0 zero32 := set_range HH.out.2.1 rfl zero32 rfl
    have hload := run_loadVar_mid (P := Tryz.prog) _ w.heap.size 0 57 zero32 _ HRz Tryz.underlying57 rfl (by kernel_rfl)
    clear HRz
    exact bodyPost_ret (v := .tuple #[.agg zero32.toArray, i64 k, i64 6]) (results_cell3 (a := 2) (i := 3) (j := 4) rfl rfl hload rfl rfl) rfl ⟨⟨k, 6, by rw [V.out]; rfl, by rw [V.out]; exact id_fail _ _⟩, BB⟩
   | true =>
    have HN : Hid ((∀ j, j < k + 1 → fitB j (s.getD j 0) = true) ∧ wr.heap[w.heap.size]? = some (.cells #[.int .u8 0, .int .u8 0, .int .u8 0, .int .u8 0, .int .u8 0, .int .u8 0, .int .u8 0, .int .u8 0, .int .u8 0, .int .u8 0, .int .u8 0, .int .u8 0, .int .u8 0, .int .u8 0, .int .u8 0, .int .u8 0, .int .u8 0, .int .u8 0, .int .u8 0, .int .u8 0, .int .u8 0, .int .u8 0, .int .u8 0, .int .u8 0, .int .u8 0, .int .u8 0, .int .u8 0, .int .u8 0, .int .u8 0, .int .u8 0, .int .u8 0, .int .u8 0] 57 (0, 0)) ∧ Below w.heap.size w wr) := Lib.hid ⟨fun j hj => by
     by_cases e : j = k
     ·subst e; rw [HC.out]; exact hx
     ·exact HH.out.1 j (by omega), HH.out.2⟩
    clear hx HB1 HH
    go_wp2_with fail
    go_roundg (m - (k + 1))
    case measure => omega
    case rel => exact ⟨k + 1, by omega, by omega, by simp, HN⟩
  ·obtain rfl : k = m := by omega
   by_cases h4 : s.length < 71
   case pos =>
    have V := Lib.hid (idV_len (s := s) (by omega))
    go_wp2_with (refine wpList_store_mid rfl 57 _ _ rfl w.heap.size 0 _ rfl rfl ?_ ?_ ?_ ?_)
    ·exact there_blk HH.out.2.1 rfl
    ·kernel_rfl
    ·kernel_rfl
    have BB := HH.out.2.2.trans (belowCells (N := w.heap.size) (b := w.heap.size) (Nat.le_refl _) zero32 0 wr)
    have HRz : World.rangeAt (wr.setCells w.heap.size 0 zero32) w.heap.size 0 zero32 := set_range HH.out.2.1 rfl zero32 rfl
    have hload := run_loadVar_mid (P := Tryz.prog) _ w.heap.size 0 57 zero32 _ HRz Tryz.underlying57 rfl (by kernel_rfl)
    clear HRz
    exact bodyPost_ret (v := .tuple #[.agg zero32.toArray, i64 s.length, i64 4]) (results_cell3 (a := 2) (i := 3) (j := 4) rfl rfl hload rfl rfl) rfl ⟨⟨s.length, 4, by rw [V.out]; rfl, by rw [V.out]; exact id_fail _ _⟩, BB⟩
   by_cases h5 : 71 < s.length
   case pos =>
    have V := Lib.hid (idV_len (s := s) (by omega))
    go_wp2_with (refine wpList_store_mid rfl 57 _ _ rfl w.heap.size 0 _ rfl rfl ?_ ?_ ?_ ?_)
    ·exact there_blk HH.out.2.1 rfl
    ·kernel_rfl
    ·kernel_rfl
    have BB := HH.out.2.2.trans (belowCells (N := w.heap.size) (b := w.heap.size) (Nat.le_refl _) zero32 0 wr)
    have HRz : World.rangeAt (wr.setCells w.heap.size 0 zero32) w.heap.size 0 zero32 := set_range HH.out.2.1 rfl zero32 rfl
    have hload := run_loadVar_mid (P := Tryz.prog) _ w.heap.size 0 57 zero32 _ HRz Tryz.underlying57 rfl (by kernel_rfl)
    clear HRz
    exact bodyPost_ret (v := .tuple #[.agg zero32.toArray, i64 71, i64 5]) (results_cell3 (a := 2) (i := 3) (j := 4) rfl rfl hload rfl rfl) rfl ⟨⟨71, 5, by rw [V.out]; rfl, by rw [V.out]; exact id_fail _ _⟩, BB⟩
   have h71 : s.length = 71 := by omega
   obtain rfl : k = 71 := by omega
   obtain ⟨v1, v2⟩ := idV_ok h71 HH.out.1
   have hex : (⟨s.toArray⟩ : ByteArray).extract 1 65 = ⟨((s.drop 1).take 64).toArray⟩ := by
    apply ByteArray.ext
    simp [ByteArray.data_extract]
   have hsz : (⟨s.toArray⟩ : ByteArray).size = 71 := by show s.toArray.size = 71; simp [h71]
   have h64 : ((s.drop 1).take 64).length = 2 * 32 := by rw [List.length_take, List.length_drop]; omega
   obtain ⟨X, hX⟩ : ∃ X, (s.drop 1).take 64 = X := ⟨_, rfl⟩
   rw [hX] at v1 v2 hex h64
   have V1 := Lib.hid v1
   have HUN := Lib.hid (fun u => unhex_any X 32 u v2 h64 (by omega))
   have HUL : Hid ((unhex X).length = 32) := Lib.hid (by (show _ = _); rw [unhex_len, h64])
   clear v1 v2 h64 hX
   go_wp2_with fail
   refine (HUN.out wr).mono ?_; rintro e w2 ⟨⟨v, rfl, ho⟩, b2⟩
   obtain ⟨g, cap, rfl, hr⟩ := own_rng ho (by omega)
   have harr := fun u => arrayAt32 g cap u
   have HH2 := Lib.hid (And.intro (blk_below b2 HH.out.2.1) (HH.out.2.2.tr b2))
   have HMP := Lib.hid (idL_map HUL.out)
   have HR : Hid (w2.rangeAt g 0 (idL (unhex X))) := Lib.hid (by rw [HMP.out]; exact hr)
   clear ho b2 hr HH HUN
   have hinf : (Tryz.prog.info? 57).map (·.size) = some 32 := id_size
   have HINF := Lib.hid hinf
   clear hinf
   go_wp2_with (first | refine wpList_load_mid rfl 57 _ rfl g 0 rfl (idL (unhex X)) _ HR.out Tryz.underlying57 rfl (by rw [idL_length]; exact HINF.out) ?_ | refine wpList_store_mid rfl 57 _ _ rfl w.heap.size 0 (idL (unhex X)).toArray rfl rfl ?_ ?_ ?_ ?_)
   ·exact there_blk HH2.out.1 (by show (32 : Nat) = _; rw [List.size_toArray, idL_length])
   ·rw [List.size_toArray, idL_length]; exact HINF.out
   ·exact all_oneCell_toArray (fun u hu => by rw [HMP.out] at hu; exact enB_one _ u hu)
   have BB := HH2.out.2.trans (belowCells (N := w.heap.size) (b := w.heap.size) (Nat.le_refl _) (idL (unhex X)) 0 w2)
   have HRz : World.rangeAt (w2.setCells w.heap.size 0 (idL (unhex X))) w.heap.size 0 (idL (unhex X)) := set_range HH2.out.1 rfl _ (idL_length _)
   have hload := run_loadVar_mid (P := Tryz.prog) _ w.heap.size 0 57 (idL (unhex X)) _ HRz Tryz.underlying57 rfl (by rw [idL_length]; exact HINF.out)
   clear HRz
   exact bodyPost_ret (v := .tuple #[.agg (idL (unhex X)).toArray, i64 0, i64 0]) (results_cell3 (a := 2) (i := 3) (j := 4) rfl rfl hload rfl rfl) rfl ⟨⟨0, 0, by rw [V1.out]; rfl, by rw [V1.out]; rfl⟩, BB⟩
end Go.Proofs.YtlchcjnbbhpiaaaGreatDoor
namespace Go.Dg
open Go.Lib
theorem not_occ {l rest : List UInt8} (h : noNl l) {j : Nat} (hj : j < l.length) : occAt (l ++ rest) [10] j = false := by
 cases ho : occAt (l ++ rest) [10] j with
 | false => rfl
 | true =>
  obtain ⟨t, ht⟩ := (occ_iff _ _ _).1 ho
  have e := congrArg (fun x => x[0]?) ht
  simp only [List.getElem?_drop, Nat.add_zero] at e
  rw [List.getElem?_append_left hj, List.getElem?_eq_getElem hj] at e
  have : l[j] = 10 := by simpa using e
  exact absurd this (h _ (List.getElem_mem hj))
theorem cut_line {l rest : List UInt8} (h : noNl l) : cut (l ++ 10 :: rest) [10] = (l, rest, true) := by
 have := cut_at (a := l) (b := rest) (sep := [10]) (by simp) fun j hj => by
  rw [List.append_assoc]; exact not_occ h hj
 simpa using this
theorem cut_free {s : List UInt8} (h : noNl s) : cut s [10] = (s, [], false) := by
 unfold cut
 rcases index_spec s [10] with ⟨h1, _⟩ | ⟨i, h1, _, h3, _⟩
 ·rw [if_neg (by rw [h1]; decide)]
 ·exfalso
  obtain ⟨t, ht⟩ := (occ_iff s [10] i).1 h3
  have hi : i < s.length := by
   rcases Nat.lt_or_ge i s.length with h | h
   ·exact h
   ·rw [List.drop_eq_nil_of_le h] at ht; simp at ht
  have := not_occ (rest := []) h hi
  rw [List.append_nil, h3] at this
  cases this
end Go.Dg
namespace Go.Proofs.YtlchcjnbbhpiaaaGreatDoor
open Go.RowKit Go.Shelf Go.Dg
theorem But.tail {b : Nat} {w0 u v : World} (h : But b u v) (hu : Below w0.heap.size w0 u) (hb : w0.heap.size ≤ b) : Below w0.heap.size w0 v := hu.trans (h.below hb hu.size)
/-- The globals that a walk reads. -/
structure GlD (w : World) : Prop where
 tab : Tab w
 ml : ∃ m : Int, w.cell? ⟨0, 0, none⟩ = some (.int .i64 m)
 es : ∃ ev, w.cell? ⟨3, 0, none⟩ = some ev ∧ (ev = .nilIface ∨ ∃ te pe, ev = .iface te pe)
 er : ∃ ev, w.cell? ⟨4, 0, none⟩ = some ev ∧ (ev = .nilIface ∨ ∃ te pe, ev = .iface te pe)
theorem GlD.below {w w' : World} (h : GlD w) (hb : Below w.heap.size w w') : GlD w' :=
 ⟨h.tab.below hb, h.ml.imp fun _ e => Below.cellv hb e, h.es.imp fun _ e => ⟨Below.cellv hb e.1, e.2⟩, h.er.imp fun _ e => ⟨Below.cellv hb e.1, e.2⟩⟩
/-- The reader in block b: what is left to read, the line's number, the error. -/
structure RdM (w0 w : World) (b : Nat) (tl : List UInt8) (r : Go.Dg.Rd) : Prop where
 blk : w.heap[b]? = some (.cells #[enS (unl r.ls ++ tl), i64 r.n, i64 r.e] 96 (0, 0))
 fr : ∀ l ∈ r.ls, noNl l
 ftl : noNl tl
 sm : (unl r.ls ++ tl).length ≤ 1000000000
 nb : 0 ≤ r.n ∧ r.n + r.ls.length + (if r.e = 0 then 1 else 0) ≤ 1000000000
 g : GlD w0
 hb : w0.heap.size ≤ b
 bel : Below w0.heap.size w0 w
theorem RdM.below {w0 w w' : World} {b : Nat} {tl : List UInt8} {r : Go.Dg.Rd} (h : RdM w0 w b tl r) (hb : Below w.heap.size w w') : RdM w0 w' b tl r :=
 ⟨blk_below hb h.blk, h.fr, h.ftl, h.sm, h.nb, h.g, h.hb, h.bel.tr hb⟩
theorem RdM.gl {w0 w : World} {b : Nat} {tl : List UInt8} {r : Go.Dg.Rd} (h : RdM w0 w b tl r) : GlD w := h.g.below h.bel
theorem RdM.b0 {w0 w : World} {b : Nat} {tl : List UInt8} {r : Go.Dg.Rd} (h : RdM w0 w b tl r) : b ≠ 0 := by
 obtain ⟨m, hm⟩ := h.g.ml
 have h1 := World.block_lt_of_cell? w0 _ hm
 have h2 := h.hb
 simp only at h1
 omega
theorem RdM.tb {w0 w : World} {b : Nat} {tl : List UInt8} {r : Go.Dg.Rd} (h : RdM w0 w b tl r) : ∃ m : Int, w.cell? ⟨0, 0, none⟩ = some (.int .i64 m) := h.gl.ml
set_option maxRecDepth 100000 in
theorem fail_any (b : Nat) (tl : List UInt8) (r : Go.Dg.Rd) (k : Int) (w0 w : World) (h : RdM w0 w b tl r) (hk : k ≠ 0) :
  Calls Tryz.prog 86 #[.pointer (some ⟨b, 0, none⟩), i64 k] w fun e w' => e = .returned (.tuple #[]) ∧ RdM w0 w' b tl (failR r k) ∧ But b w w' := by
 obtain ⟨ls, n, e⟩ := r
 have H := Lib.hid h
 have c2 := blk_cell h.blk 2
 have f2 := blk_free h.blk 2
 simp only at c2 f2
 clear h
 by_cases he : e = 0
 ·subst he
  have HW : Hid (RdM w0 (w.setCell ⟨b, 2, none⟩ (i64 k)) b tl (failR ⟨ls, n, 0⟩ k) ∧ But b w (w.setCell ⟨b, 2, none⟩ (i64 k))) := Lib.hid ⟨⟨by
   rw [blk_set H.out.blk]; rfl, H.out.fr, H.out.ftl, H.out.sm, ⟨H.out.nb.1, by have := H.out.nb.2; (show n + ls.length + (if k = 0 then 1 else 0) ≤ _); simp only [if_neg hk, if_true] at this ⊢; omega⟩, H.out.g, H.out.hb, H.out.bel.setCell (p := ⟨b, 2, none⟩) H.out.hb _⟩, (But.refl _ _).setCell _⟩
  go_enter Tryz.func86, Tryz.ntmps86
  go_wp2_with fail
  go_end0
  exact ⟨rfl, HW.out⟩
 ·have hq : (e == 0) = false := by simpa using he
  have HW : Hid (RdM w0 w b tl (failR ⟨ls, n, e⟩ k)) := Lib.hid (by unfold failR; rw [if_neg he]; exact H.out)
  go_enter Tryz.func86, Tryz.ntmps86
  go_wp2_with fail
  go_end0
  exact ⟨rfl, HW.out, But.refl _ _⟩
theorem fail0 (b : Nat) (x y : Value) (k : Int) (w : World) (h : w.heap[b]? = some (.cells #[x, y, i64 0] 96 (0, 0))) :
  Calls Tryz.prog 86 #[.pointer (some ⟨b, 0, none⟩), i64 k] w fun e w' => e = .returned (.tuple #[]) ∧ w' = w.setCell ⟨b, 2, none⟩ (i64 k) := by
 have c2 := blk_cell h 2
 have f2 := blk_free h 2
 clear h
 go_enter Tryz.func86, Tryz.ntmps86
 go_wp2_with fail
 go_end0
 exact ⟨rfl, rfl⟩
set_option maxRecDepth 100000 in
set_option maxHeartbeats 4000000 in
theorem next_any (b : Nat) (tl : List UInt8) (r : Go.Dg.Rd) (w0 w : World) (h : RdM w0 w b tl r) :
  Calls Tryz.prog 44 #[.pointer (some ⟨b, 0, none⟩)] w fun e w' => e = .returned (enS (nextR r).1) ∧ RdM w0 w' b tl (nextR r).2 ∧ But b w w' := by
 obtain ⟨ls, n, e⟩ := r
 have H := Lib.hid h
 have c0 := blk_cell h.blk 0
 have c1 := blk_cell h.blk 1
 have c2 := blk_cell h.blk 2
 have f1 := blk_free h.blk 1
 have hn := h.nb
 obtain ⟨m, hm⟩ := h.tb
 simp only at c0 c1 c2 f1 hn
 clear h
 by_cases he : e = 0
 case neg =>
  have hq : (e != 0) = true := by simpa using he
  have hq2 : (e == 0) = false := by simpa using he
  have V : Hid (nextR ⟨ls, n, e⟩ = ([], ⟨ls, n, e⟩)) := Lib.hid (if_pos he)
  rw [V.out]
  go_enter Tryz.func44, Tryz.ntmps44
  go_wp2_with fail
  go_ret
  exact ⟨rfl, H.out, But.refl _ _⟩
 case pos =>
  subst he
  simp only [if_true] at hn
  have hB1 : w.heap[b]? = some (.cells #[enS (unl ls ++ tl), i64 n, i64 0] 96 (0, 0)) := H.out.blk
  have hS1 := blk_set hB1 1 (i64 (n + 1))
  have hS1 : Hid ((w.setCell ⟨b, 1, none⟩ (i64 (n + 1))).heap[b]? = some (.cells #[enS (unl ls ++ tl), i64 (n + 1), i64 0] 96 (0, 0))) := Lib.hid (by rw [hS1]; rfl)
  have hT1 : Hid ((w.setCell ⟨b, 1, none⟩ (i64 (n + 1))).cell? ⟨0, 0, none⟩ = some (.int .i64 m)) := Lib.hid (by rw [World.cell?_of_block (blk_set_ne 1 _ (fun h => H.out.b0 h.symm))]; exact hm)
  have hU1 : Hid (But b w (w.setCell ⟨b, 1, none⟩ (i64 (n + 1)))) := Lib.hid ((But.refl _ _).setCell _)
  have hsz : (⟨(unl ls ++ tl).toArray⟩ : ByteArray).size < 4294967281 := by
   show (unl ls ++ tl).toArray.size < _
   rw [List.size_toArray]
   have := H.out.sm
   simp only at this
   omega
  have HCUT := Lib.hid (fun u hu => Tryz.strings_Cut ⟨(unl ls ++ tl).toArray⟩ ⟨#[10]⟩ m u hsz hu)
  clear hB1 hm hsz
  go_enter Tryz.func44, Tryz.ntmps44
  go_wp2_with fail
  refine (HCUT.out _ hT1.out).mono ?_; rintro e w2 ⟨rfl, d, rfl⟩
  have hS2 : Hid (((w.setCell ⟨b, 1, none⟩ (i64 (n + 1))).drewN d).heap[b]? = some (.cells #[enS (unl ls ++ tl), i64 (n + 1), i64 0] 96 (0, 0))) := Lib.hid hS1.out
  have hU2 : Hid (But b w ((w.setCell ⟨b, 1, none⟩ (i64 (n + 1))).drewN d)) := Lib.hid (hU1.out.drewN d)
  have hT2 : Hid (((w.setCell ⟨b, 1, none⟩ (i64 (n + 1))).drewN d).cell? ⟨0, 0, none⟩ = some (.int .i64 m)) := Lib.hid hT1.out
  generalize (w.setCell ⟨b, 1, none⟩ (i64 (n + 1))).drewN d = w2 at *
  clear hS1 hU1 hT1 HCUT c0 c1 c2 f1
  cases ls with
  | nil =>
   have ec : Lib.cut (unl [] ++ tl) [10] = (tl, [], false) := by rw [show unl [] ++ tl = tl by simp [unl]]; exact cut_free H.out.ftl
   rw [ec]
   clear ec
   have V : Hid (nextR ⟨[], n, 0⟩ = ([], ⟨[], n + 1, 4⟩)) := Lib.hid (by (show _ = _); rfl)
   have HF := Lib.hid (fail0 b _ _ 4 w2 hS2.out)
   have hW : RdM w0 (w2.setCell ⟨b, 2, none⟩ (i64 4)) b tl ⟨[], n + 1, 4⟩ := ⟨by rw [blk_set hS2.out]; rfl, by simp, H.out.ftl, H.out.sm, ⟨by (show 0 ≤ n + 1); omega, by (show n + 1 + (0 : Nat) + (if (4 : Int) = 0 then 1 else 0) ≤ _); rw [if_neg (by decide)]; simp only [List.length_nil] at hn; omega⟩, H.out.g, H.out.hb, (hU2.out.setCell (o := 2) (i64 4)).tail H.out.bel H.out.hb⟩
   have HW := Lib.hid hW
   have HU := Lib.hid (hU2.out.setCell (o := 2) (i64 4))
   clear hW hS2 hU2 hT2 H hn
   go_wp2_with fail
   refine HF.out.mono ?_; rintro e w3 ⟨rfl, rfl⟩
   go_wp2_with fail
   go_ret
   rw [V.out]
   exact ⟨rfl, HW.out, HU.out⟩
  | cons l ls =>
   have ec : Lib.cut (unl (l :: ls) ++ tl) [10] = (l, unl ls ++ tl, true) := by rw [unl_cons, List.append_assoc, List.cons_append]; exact cut_line (H.out.fr l (by simp))
   rw [ec]
   clear ec
   have V : Hid (nextR ⟨l :: ls, n, 0⟩ = (l, ⟨ls, n + 1, 0⟩)) := Lib.hid (by (show _ = _); rfl)
   have hle : (unl ls ++ tl).length ≤ (unl (l :: ls) ++ tl).length := by rw [unl_cons]; simp; omega
   have hW : RdM w0 (w2.setCell ⟨b, 0, none⟩ (enS (unl ls ++ tl))) b tl ⟨ls, n + 1, 0⟩ := ⟨by rw [blk_set hS2.out]; rfl, fun x hx => H.out.fr x (by simp [hx]), H.out.ftl, Nat.le_trans hle H.out.sm, ⟨by (show 0 ≤ n + 1); omega, by (show n + 1 + ls.length + (if (0 : Int) = 0 then 1 else 0) ≤ _); rw [if_pos rfl]; simp only [List.length_cons] at hn; omega⟩, H.out.g, H.out.hb, (hU2.out.setCell (o := 0) (enS (unl ls ++ tl))).tail H.out.bel H.out.hb⟩
   have HW := Lib.hid hW
   have HU := Lib.hid (hU2.out.setCell (o := 0) (enS (unl ls ++ tl)))
   have f0 := blk_free hS2.out 0
   have c0 := blk_cell hS2.out 0
   clear hW hS2 hU2 hT2 H hn hle
   go_wp2_with fail
   go_ret
   rw [V.out]
   exact ⟨rfl, HW.out, HU.out⟩
end Go.Proofs.YtlchcjnbbhpiaaaGreatDoor
