/- Contracts: the reader of a digest: what an item's identity must be.
   Contracts: the reader of a digest: an item.
   The reader's lines grow fewer: plain laws for the loop over the items.
   What the walk of Burst stands on: the digest and the reader in memory, the items so far, laws of the loop. -/
import Derived.Test.YtlchcjnbbhpiaaaGreatDoorZj
import Derived.Maps.Views
import Derived.Great.BuildSlice
import Derived.Great.FillDense
namespace Go.Proofs.YtlchcjnbbhpiaaaGreatDoor
open Go.RowKit Go.Shelf Go.Dg Go.Maps
def putL (cs : Array Value) : Nat → List Value → Array Value
 | _, [] => cs
 | o, v :: r => putL (cs.setIfInBounds o v) (o + 1) r
theorem blk_setCells {b : Nat} {t : TypeId} {fr : Nat × Nat} : ∀ (vs : List Value) (o : Nat) (w : World) (cs : Array Value), w.heap[b]? = some (.cells cs t fr) → (w.setCells b o vs).heap[b]? = some (.cells (putL cs o vs) t fr)
 | [], _, _, _, h => h
 | v :: r, o, _w, _cs, h => blk_setCells r (o + 1) _ _ (blk_set h o v)
theorem but_setCells {b : Nat} : ∀ (vs : List Value) (o : Nat) (w : World), But b w (w.setCells b o vs)
 | [], _, _ => But.refl _ _
 | v :: r, o, w => ((But.refl b w).setCell v).trans (but_setCells r (o + 1) _)
theorem putL_it (x : It) (k : List UInt8) : putL (itL x).toArray 3 (idL k) = (itL { x with ky := k }).toArray := by
 simp only [putL, itL, idL, List.setIfInBounds_toArray, List.set_cons_succ, List.set_cons_zero]
theorem RdM.but2 {w0 u v : World} {b c : Nat} {tl : List UInt8} {r : Go.Dg.Rd} (h : RdM w0 u b tl r) (k : But c u v) (hne : b ≠ c) (hc : w0.heap.size ≤ c) : RdM w0 v b tl r :=
 ⟨(k.block b h.lt hne).trans h.blk, h.fr, h.ftl, h.sm, h.nb, h.g, h.hb, k.tail h.bel hc⟩
theorem there_at {w : World} {b o n : Nat} {cs : Array Value} {t : TypeId} (h : w.heap[b]? = some (.cells cs t (0, 0))) (hn : o + n ≤ cs.size) : w.there b o n := fun j hj => by
 refine ⟨?_, blk_free h (o + j)⟩
 rw [blk_cell h (o + j), Array.getElem?_eq_getElem (by omega)]
 rfl
/-- A guarded operation that is wanted: as if it had no guard. -/
theorem wpList_ungd {P : Program} {ops : Array Oper} {Q : Exit → Act → World → Prop} {a : Act} {w : World} {rest : List Oper} {o : Oper} (hw : Region.wanted o (yielded ops a.tmps) = true) (h : wpList P ops Q ({ o with guard := none } :: rest) a w) : wpList P ops Q (o :: rest) a w := by
 unfold wpList at h ⊢
 rw [if_pos (by simp [Region.wanted])] at h
 rw [if_pos hw]
 exact h
theorem isSome_idB {seen : List (List UInt8)} {s : List UInt8} : idB seen s = match idV s with | some k => decide (k ≠ zId) && !decide (k ∈ seen) | none => false := rfl
theorem unhex_id {s k : List UInt8} (h : idV s = some k) : k.length = 32 := by
 unfold idV at h
 split at h
 ·next hc =>
  cases h
  rw [unhex_len, List.length_take, List.length_drop]; omega
 ·cases h
set_option maxRecDepth 100000 in
set_option maxHeartbeats 8000000 in
theorem idOk_any (s : List UInt8) (sb ib mb : Nat) (seen : List (List UInt8)) (x : It) (w : World) (hl : s.length ≤ 1000000000) (hs : w.heap[sb]? = some (.cells #[.map (some mb)] 101 (0, 0))) (hm : SetI w mb seen) (hi : w.heap[ib]? = some (.cells (itL x).toArray 59 (0, 0))) (_hne : sb ≠ ib) :
  Calls Tryz.prog 96 #[enS s, .pointer (some ⟨sb, 0, none⟩), .pointer (some ⟨ib, 0, none⟩)] w fun e w' => e = .returned (.bool (idB seen s)) ∧ But ib w w' ∧
   (idB seen s = true → w'.heap[ib]? = some (.cells (itL { x with ky := (idV s).getD zId }).toArray 59 (0, 0))) ∧ (idB seen s = false → w'.heap[ib]? = some (.cells (itL x).toArray 59 (0, 0))) := by
 have HP := Lib.hid (parseId_any s w hl)
 have HS := Lib.hid hs
 have HM := Lib.hid hm
 have HI := Lib.hid hi
 have HSZ := Lib.hid id_size
 clear hs hm hi
 go_enter Tryz.func96, Tryz.ntmps96
 go_wp2_with fail
 refine HP.out.mono ?_; rintro e w1 ⟨⟨at_, er, he, rfl⟩, b1⟩
 obtain ⟨k, hk⟩ : ∃ k, (idV s).getD zId = k := ⟨_, rfl⟩
 have hk32 : k.length = 32 := by
  rw [← hk]
  cases h : idV s with
  | none => rfl
  | some y => exact unhex_id h
 rw [hk]
 have S1 := Lib.hid (blk_below b1 HS.out)
 have M1 := Lib.hid (HM.out.below b1)
 have I1 := Lib.hid (blk_below b1 HI.out)
 have U1 := Lib.hid (But.of_below (b := ib) b1)
 have BN := Lib.hid (blk_new w1 (.cells (idL k).toArray 57))
 have bn := below_new w1 (.cells (idL k).toArray 57)
 have S2 := Lib.hid (blk_below bn S1.out)
 have M2 := Lib.hid (M1.out.below bn)
 have I2 := Lib.hid (blk_below bn I1.out)
 have U2 := Lib.hid (U1.out.trans (But.of_below (b := ib) bn))
 have R2 := Lib.hid (range_blk BN.out)
 have hib1 := blk_lt I1.out
 clear b1 bn S1 M1 I1 U1 HS HM HI HP
 cases hv : idV s with
 | none =>
  have hq : (er != 0) = true := by rw [hv] at he; simpa using he
  have hq2 : (er == 0) = false := by rw [hv] at he; simpa using he
  have V : Hid (idB seen s = false) := Lib.hid (by (show _ = _); rw [isSome_idB, hv])
  clear hv he hk
  go_wp2_with (first | refine wpList_store_new rfl 57 _ _ rfl _ (idL k).toArray rfl rfl (by simp [idL_length, HSZ.out]) (by simp [idL_length]) (all_oneCell_toArray (one_idL k)) ?_)
  go_ret
  rw [V.out]
  exact ⟨rfl, U2.out, fun h => absurd h (by decide), fun _ => I2.out⟩
 | some kk =>
  have hkk : kk = k := by rw [← hk, hv]; rfl
  subst hkk
  have he0 : er = 0 := by rw [hv] at he; simpa using he
  subst he0
  have VI : Hid (idB seen s = (decide (kk ≠ zId) && !decide (kk ∈ seen))) := Lib.hid (by (show _ = _); rw [isSome_idB, hv])
  have HV := Lib.hid hv
  clear hv he hk
  have hE := fun u => eqIn_zero u hk32
  by_cases hz : kk = zId
  ·have hzq : (kk == zId) = true := by simpa using hz
   have V : Hid (idB seen s = false) := Lib.hid (by (show _ = _); rw [VI.out]; simp [hz])
   clear hz VI
   go_wp2_with (first | refine wpList_store_new rfl 57 _ _ rfl _ (idL kk).toArray rfl rfl (by simp [idL_length, HSZ.out]) (by simp [idL_length]) (all_oneCell_toArray (one_idL kk)) ?_ | (refine wpList_ungd rfl ?_; refine wpList_load_mid rfl 57 _ rfl w1.heap.size 0 rfl (idL kk) _ R2.out Tryz.underlying57 rfl (by rw [idL_length]; exact HSZ.out) ?_) | refine wpList_load_mid rfl 57 _ rfl w1.heap.size 0 rfl (idL kk) _ R2.out Tryz.underlying57 rfl (by rw [idL_length]; exact HSZ.out) ?_)
   go_ret
   rw [V.out]
   exact ⟨rfl, U2.out, fun h => absurd h (by decide), fun _ => I2.out⟩
  have hzq : (kk == zId) = false := by simpa using hz
  by_cases hin : kk ∈ seen
  ·have HF : Hid (onL (seen.map idKey) (idKey kk) = true) := Lib.hid (by rw [M2.out.on hk32, decide_eq_true hin])
   have V : Hid (idB seen s = false) := Lib.hid (by (show _ = _); rw [VI.out]; simp [hin])
   have cs := blk_cell S2.out 0
   clear hz hin VI
   go_wp2_with (first | refine wpList_store_new rfl 57 _ _ rfl _ (idL kk).toArray rfl rfl (by simp [idL_length, HSZ.out]) (by simp [idL_length]) (all_oneCell_toArray (one_idL kk)) ?_ | (refine wpList_ungd rfl ?_; refine wpList_load_mid rfl 57 _ rfl w1.heap.size 0 rfl (idL kk) _ R2.out Tryz.underlying57 rfl (by rw [idL_length]; exact HSZ.out) ?_) | refine wpList_load_mid rfl 57 _ rfl w1.heap.size 0 rfl (idL kk) _ R2.out Tryz.underlying57 rfl (by rw [idL_length]; exact HSZ.out) ?_ | (refine wpList_ungd rfl ?_; refine wpList_lookup_b _ rfl _ _ 101 rfl 57 4 id_keyed Tryz.underlying101 Tryz.underlying4 (zeroBool _) mb _ rfl M2.out.2 _ _ rfl (keyOf_idKey hk32) ?_; rw [HF.out]))
   go_ret
   rw [V.out]
   exact ⟨rfl, U2.out, fun h => absurd h (by decide), fun _ => I2.out⟩
  ·have HF : Hid (onL (seen.map idKey) (idKey kk) = false) := Lib.hid (by rw [M2.out.on hk32, decide_eq_false hin])
   have V : Hid (idB seen s = true) := Lib.hid (by (show _ = _); rw [VI.out]; simp [hin, hz])
   have cs := blk_cell S2.out 0
   clear hz hin VI
   go_wp2_with (first | refine wpList_store_new rfl 57 _ _ rfl _ (idL kk).toArray rfl rfl (by simp [idL_length, HSZ.out]) (by simp [idL_length]) (all_oneCell_toArray (one_idL kk)) ?_ | (refine wpList_ungd rfl ?_; refine wpList_load_mid rfl 57 _ rfl w1.heap.size 0 rfl (idL kk) _ R2.out Tryz.underlying57 rfl (by rw [idL_length]; exact HSZ.out) ?_) | refine wpList_load_mid rfl 57 _ rfl w1.heap.size 0 rfl (idL kk) _ R2.out Tryz.underlying57 rfl (by rw [idL_length]; exact HSZ.out) ?_ | (refine wpList_ungd rfl ?_; refine wpList_lookup_b _ rfl _ _ 101 rfl 57 4 id_keyed Tryz.underlying101 Tryz.underlying4 (zeroBool _) mb _ rfl M2.out.2 _ _ rfl (keyOf_idKey hk32) ?_; rw [HF.out]) | refine wpList_store_mid rfl 57 _ _ rfl ib 3 (idL kk).toArray rfl rfl ?_ ?_ ?_ ?_)
   ·exact there_at I2.out (by rw [List.size_toArray, idL_length, List.size_toArray, itL_length]; omega)
   ·rw [List.size_toArray, idL_length]; exact HSZ.out
   ·exact all_oneCell_toArray (one_idL kk)
   have I3 : Hid (((w1.alloc (.cells (idL kk).toArray 57)).setCells ib 3 (idL kk)).heap[ib]? = some (.cells (itL { x with ky := kk }).toArray 59 (0, 0))) := Lib.hid (by rw [blk_setCells _ _ _ _ I2.out, putL_it])
   have U3 : Hid (But ib w ((w1.alloc (.cells (idL kk).toArray 57)).setCells ib 3 (idL kk))) := Lib.hid (U2.out.trans (but_setCells _ _ _))
   clear S2 M2 I2 U2 R2 BN cs HF
   go_wp2_with fail
   go_ret
   rw [V.out]
   exact ⟨rfl, U3.out, fun _ => by rw [HV.out]; exact I3.out, fun h => absurd h (by decide)⟩
theorem addKey_len : ∀ (xs acc : List Lit), (∀ x ∈ acc ++ xs, WideAt.IsKeyLit x) → (acc ++ xs).Nodup → (xs.foldl addKey acc).length = acc.length + xs.length
 | [], acc, _, _ => by simp
 | x :: xs, acc, hk, hn => by
  have hx : x ∉ acc := fun h => by
   have := List.nodup_append.1 hn
   exact (this.2.2 x h x (by simp)) rfl
  have e : addKey acc x = acc ++ [x] := by
   unfold addKey
   exact if_neg fun h => hx ((onL_iff (fun y hy => hk y (by simp [hy])) x).1 h)
  rw [List.foldl_cons, e, addKey_len xs (acc ++ [x]) (by simpa using hk) (by simpa using hn)]
  simp; omega
theorem nodup_keys : ∀ ks : List (List UInt8), (∀ k ∈ ks, k.length = 32) → ks.Nodup → (ks.map idKey).Nodup
 | [], _, _ => List.nodup_nil
 | k :: ks, h, hn => by
  obtain ⟨h1, h2⟩ := List.nodup_cons.1 hn
  rw [List.map_cons]
  refine List.nodup_cons.2 ⟨fun hm => ?_, nodup_keys ks (fun x hx => h x (by simp [hx])) h2⟩
  obtain ⟨y, hy, e⟩ := List.mem_map.1 hm
  rw [← idKey_inj (h y (by simp [hy])) (h k (by simp)) e] at h1
  exact h1 hy
set_option maxRecDepth 10000 in
theorem SetI.size {w : World} {b : Nat} {ks : List (List UInt8)} (h : SetI w b ks) (hn : ks.Nodup) : Maps.size (setOf (H := Unit) (.lit (.bool true)) (ks.map idKey)) = ks.length := by
 rw [size_setOf _ _ h.2.1, addKey_len _ [] (by simpa using h.2.1)]
 ·rw [List.length_map]; exact Nat.zero_add _
 ·rw [List.nil_append]
  exact nodup_keys ks h.1 hn
theorem But.tailC {b c : Nat} {w u v : World} (h : But b w u) (k : But c u v) (hc : w.heap.size ≤ c) : But b w v :=
 ⟨k.os.trans h.os, k.tape.trans h.tape, k.output.trans h.output, Nat.le_trans h.size k.size, fun i hi hne => (k.block i (Nat.lt_of_lt_of_le hi h.size) (by omega)).trans (h.block i hi hne)⟩
def it0 : It := ⟨[], 0, [], zId, []⟩
/-- Where the walk of an item stands: the set of the keys, the item so far. -/
structure ItX (w0 w W : World) (b sb mb rb ib : Nat) (seen : List (List UInt8)) (x : It) : Prop where
 hsb : W.heap[sb]? = some (.cells #[.map (some mb)] 101 (0, 0))
 hsm : SetI W mb seen
 hrs : W.heap[rb]? = some (.cells (itL it0).toArray 59 (0, 0))
 hit : W.heap[ib]? = some (.cells (itL x).toArray 59 (0, 0))
 hbu : But b w W
 hne : b < w.heap.size ∧ w.heap.size ≤ sb ∧ sb < rb ∧ rb < ib ∧ w0.heap.size ≤ w.heap.size
 hmb : mb ≠ b ∧ mb ≠ ib
section
variable {w0 w W W' : World} {b : Nat} {tl : List UInt8} {r r' : Go.Dg.Rd} {sb mb rb ib : Nat} {seen : List (List UInt8)} {x x' : It}
theorem ItX.but (h : ItX w0 w W b sb mb rb ib seen x) (hk : But b W W') : ItX w0 w W' b sb mb rb ib seen x := by
 obtain ⟨n1, n2, n3, n4, n5⟩ := h.hne
 exact ⟨(hk.block sb (blk_lt h.hsb) (by omega)).trans h.hsb, h.hsm.keep (hk.block mb h.hsm.2.lt h.hmb.1), (hk.block rb (blk_lt h.hrs) (by omega)).trans h.hrs, (hk.block ib (blk_lt h.hit) (by omega)).trans h.hit, h.hbu.trans hk, h.hne, h.hmb⟩
theorem ItX.at_ (h : ItX w0 w W b sb mb rb ib seen x) (hk : But ib W W') (hi : W'.heap[ib]? = some (.cells (itL x').toArray 59 (0, 0))) : ItX w0 w W' b sb mb rb ib seen x' := by
 obtain ⟨n1, n2, n3, n4, n5⟩ := h.hne
 exact ⟨(hk.block sb (blk_lt h.hsb) (by omega)).trans h.hsb, h.hsm.keep (hk.block mb h.hsm.2.lt h.hmb.2), (hk.block rb (blk_lt h.hrs) (by omega)).trans h.hrs, hi, h.hbu.tailC hk (by omega), h.hne, h.hmb⟩
theorem ItX.rd (h : ItX w0 w W b sb mb rb ib seen x) (hr : RdM w0 W b tl r) (hk : But ib W W') : RdM w0 W' b tl r := by
 obtain ⟨n1, n2, n3, n4, n5⟩ := h.hne
 exact hr.but2 hk (by omega) (by omega)
/-- A cell of the item is stored. -/
theorem ItX.set (h : RdM w0 W b tl r ∧ ItX w0 w W b sb mb rb ib seen x) (o : Nat) (v : Value) (hx : (itL x).toArray.setIfInBounds o v = (itL x').toArray) : RdM w0 (W.setCell ⟨ib, o, none⟩ v) b tl r ∧ ItX w0 w (W.setCell ⟨ib, o, none⟩ v) b sb mb rb ib seen x' :=
 have hk : But ib W (W.setCell ⟨ib, o, none⟩ v) := (But.refl _ _).setCell v
 ⟨h.2.rd h.1 hk, h.2.at_ hk (by rw [blk_set h.2.hit o v, hx])⟩
end
theorem set_fr (x : It) (v : List UInt8) : (itL x).toArray.setIfInBounds 0 (enS v) = (itL { x with fr := v }).toArray := by simp [itL]
theorem set_dt (x : It) (v : Int) : (itL x).toArray.setIfInBounds 1 (i64 v) = (itL { x with dt := v }).toArray := by simp [itL]
theorem set_su (x : It) (v : List UInt8) : (itL x).toArray.setIfInBounds 2 (enS v) = (itL { x with su := v }).toArray := by simp [itL]
theorem set_bo (x : It) (v : List UInt8) : (itL x).toArray.setIfInBounds 35 (enS v) = (itL { x with bo := v }).toArray := by simp [itL]
theorem entFrom : ∀ (args : Array Value) (u : World), (callFunc 94 args).run Tryz.prog u = .ok (.enter 94 args) u := enters_of Tryz.func94 (by kernel_rfl) rfl
theorem entSubject : ∀ (args : Array Value) (u : World), (callFunc 95 args).run Tryz.prog u = .ok (.enter 95 args) u := enters_of Tryz.func95 (by kernel_rfl) rfl
theorem entIdOk : ∀ (args : Array Value) (u : World), (callFunc 96 args).run Tryz.prog u = .ok (.enter 96 args) u := enters_of Tryz.func96 (by kernel_rfl) rfl
set_option maxRecDepth 100000 in
set_option maxHeartbeats 8000000 in
theorem item_rd (b mb : Nat) (tl : List UInt8) (r : Go.Dg.Rd) (l : List UInt8) (seen : List (List UInt8)) (w0 w : World) (h : RdM w0 w b tl r) (hl : l.length ≤ 1000000000) (hm : SetI w mb seen) (hn : seen.Nodup) (hsl : seen.length ≤ 1000000000) :
  Calls Tryz.prog 49 #[.pointer (some ⟨b, 0, none⟩), enS l, .map (some mb)] w fun e w' => e = .returned (itA (itemR r l seen).1) ∧ RdM w0 w' b tl (itemR r l seen).2 ∧ But b w w' := by
 have H := Lib.hid h
 have HM := Lib.hid hm
 have HSI := Lib.hid (hm.size hn)
 have hbl := h.lt
 have h0w : w0.heap.size ≤ w.heap.size := h.bel.size
 have hmb : mb ≠ b := fun e => by
  have h1 := h.blk
  obtain ⟨es, clock, h2, _⟩ := hm.2.2
  rw [e, h1] at h2
  cases h2
 have hml : mb < w.heap.size := hm.2.lt
 clear h hm
 go_enter Tryz.func49, Tryz.ntmps49
 go_upto_if 10 with (first | (at_len; refine wpList_len_own _ rfl _ 101 rfl 57 4 Tryz.underlying101 _ mb _ _ rfl (HM.out.below (((below_new _ _).tr (below_new _ _)).tr (below_new _ _))).2.2 ?_; rw [HSI.out]))
 generalize hw1 : World.alloc (World.alloc (World.alloc w _) _) _ = w1
 obtain ⟨r0, hr0⟩ : ∃ q, (if 200 ≤ seen.length then failR r 3 else r) = q := ⟨_, rfl⟩
 have k1 : Below w.heap.size w w1 := hw1 ▸ (((below_new _ _).tr (below_new _ _)).tr (below_new _ _))
 have X1 : Hid (RdM w0 w1 b tl r ∧ ItX w0 w w1 b w.heap.size mb (w.heap.size + 1) (w.heap.size + 1 + 1) seen it0) := Lib.hid ⟨H.out.below k1, ⟨hw1 ▸ blk_old _ (blk_old _ (blk_new w _)), HM.out.below k1, by
  have h := blk_new (w.alloc (.cells #[.map (some mb)] 101)) (.cells (itL it0).toArray 59)
  rw [World.size_alloc] at h
  exact hw1 ▸ blk_old _ h, by
  have h := blk_new ((w.alloc (.cells #[.map (some mb)] 101)).alloc (.cells (itL it0).toArray 59)) (.cells (itL it0).toArray 59)
  rw [World.size_alloc, World.size_alloc] at h
  exact hw1 ▸ h, But.of_below k1, ⟨hbl, Nat.le_refl _, by omega, by omega, h0w⟩, ⟨hmb, by omega⟩⟩⟩
 clear hw1 k1 HM
 go_cut [] (fun wx => Hid (RdM w0 wx b tl r0 ∧ ItX w0 w wx b w.heap.size mb (w.heap.size + 1) (w.heap.size + 1 + 1) seen it0))
 case first =>
  by_cases h200 : 200 ≤ seen.length
  ·have V : Hid (r0 = failR r 3) := Lib.hid (by (show _ = _); rw [← hr0, if_pos h200])
   have HFA := Lib.hid (fail_any b tl r 3 w0 w1 X1.out.1 (by decide))
   go_wp2_with fail
   refine HFA.out.mono ?_; rintro e w2 ⟨rfl, h1, h2⟩
   have X2 : Hid (RdM w0 w2 b tl r0 ∧ ItX w0 w w2 b w.heap.size mb (w.heap.size + 1) (w.heap.size + 1 + 1) seen it0) := Lib.hid ⟨by rw [V.out]; exact h1, X1.out.2.but h2⟩
   clear h1 h2
   go_wp2_with fail
   go_meet
   exact X2
  ·have V : Hid (r0 = r) := Lib.hid (by (show _ = _); rw [← hr0, if_neg h200])
   have X2 : Hid (RdM w0 w1 b tl r0 ∧ ItX w0 w w1 b w.heap.size mb (w.heap.size + 1) (w.heap.size + 1 + 1) seen it0) := Lib.hid ⟨by rw [V.out]; exact X1.out.1, X1.out.2⟩
   go_wp2_with fail
   go_meet
   exact X2
 have X2 := hcut
 clear hcut X1
 apply_assumption
 have HV2 := Lib.hid (value_any b tl r0 l wFrom fromB 94 #[] w0 _ X2.out.1 entFrom (fun u => But b _ u) (fun u => But b _ u) (But.refl _ _) (fun _ _ h k => h.trans k) fun _ _ => by
  refine (isFrom_any _ _ (by rw [List.length_drop]; omega)).mono ?_
  rintro e w' ⟨rfl, rfl⟩
  exact ⟨rfl, X2.out.1, fun _ => But.refl _ _, fun _ => But.refl _ _⟩)
 go_wp2_with fail
 refine HV2.out.mono ?_; rintro e w3 ⟨rfl, h1, h2, h3⟩
 have hu := (Classical.em (OkV r0 l wFrom fromB)).elim h2 h3
 obtain ⟨A, hA⟩ : ∃ q, valueR r0 l wFrom fromB = q := ⟨_, rfl⟩
 rw [hA] at h1 ⊢
 have HA := Lib.hid hA
 have X3 : Hid (RdM w0 w3 b tl A.2 ∧ ItX w0 w w3 b w.heap.size mb (w.heap.size + 1) (w.heap.size + 1 + 1) seen it0) := Lib.hid ⟨h1, X2.out.2.but hu⟩
 clear h1 h2 h3 hu hA HV2 X2
 have c3 := blk_cell X3.out.2.hit 0
 have f3 := blk_free X3.out.2.hit 0
 have X4 := Lib.hid (ItX.set X3.out 0 (enS A.1) (set_fr it0 A.1))
 clear X3
 have HD := Lib.hid (date_any b tl A.2 w0 _ X4.out.1 (line_len X4.out.1 X4.out.1.sm))
 go_wp2_with fail
 refine HD.out.mono ?_; rintro e w5 ⟨rfl, h1, h2⟩
 obtain ⟨B, hB⟩ : ∃ q, dateR A.2 = q := ⟨_, rfl⟩
 rw [hB] at h1 ⊢
 have HB := Lib.hid hB
 have X5 : Hid (RdM w0 w5 b tl B.2 ∧ ItX w0 w w5 b w.heap.size mb (w.heap.size + 1) (w.heap.size + 1 + 1) seen ({ it0 with fr := A.1 } : It)) := Lib.hid ⟨h1, X4.out.2.but h2⟩
 clear h1 h2 hB HD X4 c3 f3
 have c5 := blk_cell X5.out.2.hit 1
 have f5 := blk_free X5.out.2.hit 1
 have X6 := Lib.hid (ItX.set X5.out 1 (i64 B.1) (set_dt { it0 with fr := A.1 } B.1))
 clear X5
 have HN6 := Lib.hid (next_any b tl B.2 w0 _ X6.out.1)
 go_wp2_with fail
 refine HN6.out.mono ?_; rintro e w7 ⟨rfl, h1, h2⟩
 have hl7 := line_len X6.out.1 X6.out.1.sm
 obtain ⟨N, hN⟩ : ∃ q, nextR B.2 = q := ⟨_, rfl⟩
 rw [hN] at h1 hl7 ⊢
 have HN := Lib.hid hN
 have X7 : Hid (RdM w0 w7 b tl N.2 ∧ ItX w0 w w7 b w.heap.size mb (w.heap.size + 1) (w.heap.size + 1 + 1) seen ({ it0 with fr := A.1, dt := B.1 } : It)) := Lib.hid ⟨h1, X6.out.2.but h2⟩
 clear h1 h2 hN HN6 X6 c5 f5
 have HV7 := Lib.hid (value_any b tl N.2 N.1 wSubj subjB 95 #[] w0 _ X7.out.1 entSubject (fun u => But b w7 u) (fun u => But b w7 u) (But.refl _ _) (fun _ _ h k => h.trans k) fun _ _ => by
  refine (isSubject_any _ _ (by rw [List.length_drop]; omega)).mono ?_
  rintro e w' ⟨rfl, rfl⟩
  exact ⟨rfl, X7.out.1, fun _ => But.refl _ _, fun _ => But.refl _ _⟩)
 go_wp2_with fail
 refine HV7.out.mono ?_; rintro e w8 ⟨rfl, h1, h2, h3⟩
 have hu := (Classical.em (OkV N.2 N.1 wSubj subjB)).elim h2 h3
 obtain ⟨C, hC⟩ : ∃ q, valueR N.2 N.1 wSubj subjB = q := ⟨_, rfl⟩
 rw [hC] at h1 ⊢
 have HC := Lib.hid hC
 have X8 : Hid (RdM w0 w8 b tl C.2 ∧ ItX w0 w w8 b w.heap.size mb (w.heap.size + 1) (w.heap.size + 1 + 1) seen ({ it0 with fr := A.1, dt := B.1 } : It)) := Lib.hid ⟨h1, X7.out.2.but hu⟩
 clear h1 h2 h3 hu hC HV7 X7 hl7
 have c8 := blk_cell X8.out.2.hit 2
 have f8 := blk_free X8.out.2.hit 2
 have X9 := Lib.hid (ItX.set X8.out 2 (enS C.1) (set_su { it0 with fr := A.1, dt := B.1 } C.1))
 clear X8
 have HN9 := Lib.hid (next_any b tl C.2 w0 _ X9.out.1)
 go_wp2_with fail
 refine HN9.out.mono ?_; rintro e w10 ⟨rfl, h1, h2⟩
 have hl10 := line_len X9.out.1 X9.out.1.sm
 obtain ⟨M, hM⟩ : ∃ q, nextR C.2 = q := ⟨_, rfl⟩
 rw [hM] at h1 hl10 ⊢
 have HM2 := Lib.hid hM
 have X10 : Hid (RdM w0 w10 b tl M.2 ∧ ItX w0 w w10 b w.heap.size mb (w.heap.size + 1) (w.heap.size + 1 + 1) seen ({ it0 with fr := A.1, dt := B.1, su := C.1 } : It)) := Lib.hid ⟨h1, X9.out.2.but h2⟩
 clear h1 h2 hM HN9 X9 c8 f8
 have hsi : w.heap.size ≠ w.heap.size + 1 + 1 := by omega
 have HV10 := Lib.hid (value_any b tl M.2 M.1 wMid (idB seen) 96 #[.pointer (some ⟨w.heap.size, 0, none⟩), .pointer (some ⟨w.heap.size + 1 + 1, 0, none⟩)] w0 w10 X10.out.1 entIdOk
  (fun u => ItX w0 w u b w.heap.size mb (w.heap.size + 1) (w.heap.size + 1 + 1) seen { it0 with fr := A.1, dt := B.1, su := C.1 }) (fun u => ItX w0 w u b w.heap.size mb (w.heap.size + 1) (w.heap.size + 1 + 1) seen { it0 with fr := A.1, dt := B.1, su := C.1, ky := (idV (M.1.drop wMid.length)).getD zId })
  X10.out.2 (fun _ _ h k => h.but k) fun _ _ => by
   refine (idOk_any (M.1.drop wMid.length) w.heap.size (w.heap.size + 1 + 1) mb seen _ w10 (by rw [List.length_drop]; omega) X10.out.2.hsb X10.out.2.hsm X10.out.2.hit hsi).mono ?_
   rintro e w' ⟨rfl, h1, h2, h3⟩
   exact ⟨rfl, X10.out.2.rd X10.out.1 h1, fun h => X10.out.2.at_ h1 (h2 h), fun h => X10.out.2.at_ h1 (h3 h)⟩)
 go_wp2_with fail
 refine HV10.out.mono ?_; rintro e w11 ⟨rfl, h1, h2, h3⟩
 have hx : ItX w0 w w11 b w.heap.size mb (w.heap.size + 1) (w.heap.size + 1 + 1) seen { it0 with fr := A.1, dt := B.1, su := C.1, ky := (idV (valueR M.2 M.1 wMid (idB seen)).1).getD zId } := by
  by_cases hk : OkV M.2 M.1 wMid (idB seen)
  ·have hk2 := hk
   unfold OkV at hk2
   have e : (valueR M.2 M.1 wMid (idB seen)).1 = M.1.drop wMid.length := by unfold valueR; rw [if_pos hk2]
   rw [e]; exact h2 hk
  ·have hk2 := hk
   unfold OkV at hk2
   have e : (valueR M.2 M.1 wMid (idB seen)).1 = [] := by unfold valueR; rw [if_neg hk2]
   rw [e]; exact h3 hk
 obtain ⟨D, hD⟩ : ∃ q, valueR M.2 M.1 wMid (idB seen) = q := ⟨_, rfl⟩
 rw [hD] at h1 hx ⊢
 have HDD := Lib.hid hD
 have X11 : Hid (RdM w0 w11 b tl D.2 ∧ ItX w0 w w11 b w.heap.size mb (w.heap.size + 1) (w.heap.size + 1 + 1) seen ({ it0 with fr := A.1, dt := B.1, su := C.1, ky := (idV D.1).getD zId } : It)) := Lib.hid ⟨h1, hx⟩
 clear h1 h2 h3 hx hD HV10 X10 hl10
 have HE := Lib.hid (exactly_any b tl D.2 [] w0 _ X11.out.1)
 go_wp2_with fail
 refine HE.out.mono ?_; rintro e w12 ⟨rfl, h1, h2⟩
 have X12 : Hid (RdM w0 w12 b tl (exactR D.2 []) ∧ ItX w0 w w12 b w.heap.size mb (w.heap.size + 1) (w.heap.size + 1 + 1) seen ({ it0 with fr := A.1, dt := B.1, su := C.1, ky := (idV D.1).getD zId } : It)) := Lib.hid ⟨h1, X11.out.2.but h2⟩
 clear h1 h2 HE X11
 have HBO := Lib.hid (body_rd b tl (exactR D.2 []) w0 _ X12.out.1)
 go_wp2_with fail
 refine HBO.out.mono ?_; rintro e w13 ⟨rfl, h1, h2⟩
 obtain ⟨F, hF⟩ : ∃ q, bodyR (exactR D.2 []) = q := ⟨_, rfl⟩
 rw [hF] at h1 ⊢
 have HF := Lib.hid hF
 have X13 : Hid (RdM w0 w13 b tl F.2 ∧ ItX w0 w w13 b w.heap.size mb (w.heap.size + 1) (w.heap.size + 1 + 1) seen ({ it0 with fr := A.1, dt := B.1, su := C.1, ky := (idV D.1).getD zId } : It)) := Lib.hid ⟨h1, X12.out.2.but h2⟩
 clear h1 h2 hF HBO X12
 have c13 := blk_cell X13.out.2.hit 35
 have f13 := blk_free X13.out.2.hit 35
 have X14 := Lib.hid (ItX.set X13.out 35 (enS F.1) (set_bo { it0 with fr := A.1, dt := B.1, su := C.1, ky := (idV D.1).getD zId } F.1))
 clear X13
 obtain ⟨xf, hxf⟩ : ∃ q : It, ({ it0 with fr := A.1, dt := B.1, su := C.1, ky := (idV D.1).getD zId, bo := F.1 } : It) = q := ⟨_, rfl⟩
 have V : Hid (itemR r l seen = (xf, F.2)) := Lib.hid (by
  (show _ = _)
  rw [← hxf]
  unfold itemR
  simp only [hr0, HA.out, HB.out, HN.out, HC.out, HM2.out, HDD.out, HF.out])
 have X15 : Hid (RdM w0 (w13.setCell ⟨w.heap.size + 1 + 1, 35, none⟩ (enS F.1)) b tl F.2 ∧ ItX w0 w (w13.setCell ⟨w.heap.size + 1 + 1, 35, none⟩ (enS F.1)) b w.heap.size mb (w.heap.size + 1) (w.heap.size + 1 + 1) seen (xf : It)) := Lib.hid (hxf ▸ X14.out)
 have HIS := Lib.hid it_size
 have R15 := Lib.hid (range_blk X15.out.2.hit)
 clear X14
 go_wp2_with (first | refine wpList_load_mid rfl 59 _ rfl (w.heap.size + 1 + 1) 0 rfl (itL xf) _ R15.out Tryz.underlying59 rfl (by rw [itL_length]; exact HIS.out) ?_ | refine wpList_store_mid rfl 59 _ _ rfl (w.heap.size + 1) 0 (itL xf).toArray rfl rfl ?_ ?_ ?_ ?_)
 ·exact there_at X15.out.2.hrs (by show 0 + (itL xf).toArray.size ≤ (itL it0).toArray.size; rw [List.size_toArray, List.size_toArray, itL_length, itL_length]; omega)
 ·rw [List.size_toArray, itL_length]; exact HIS.out
 ·exact all_oneCell_toArray (one_itL xf)
 have HRz := set_range X15.out.2.hrs (n := 36) (by rw [List.size_toArray, itL_length]) (itL xf) (itL_length xf)
 have hload := run_loadVar_mid (P := Tryz.prog) _ (w.heap.size + 1) 0 59 (itL xf) _ HRz Tryz.underlying59 rfl (by rw [itL_length]; exact HIS.out)
 have hbs := but_setCells (b := w.heap.size + 1) (itL xf) 0 (w13.setCell ⟨w.heap.size + 1 + 1, 35, none⟩ (enS F.1))
 have y1 := X15.out.1.but2 hbs (by omega) (by omega)
 have y2 := X15.out.2.hbu.tailC hbs (by omega)
 clear HRz hbs
 exact bodyPost_ret (v := itA xf) (results_cell1 (a := 6) rfl rfl hload) rfl ⟨by rw [V.out], by rw [V.out]; exact y1, y2⟩
theorem mu_next (r : Go.Dg.Rd) : mu (nextR r).2 ≤ r.ls.length := by
 obtain ⟨ls, n, e⟩ := r
 by_cases he : e = 0
 ·subst he
  cases ls with
  | nil => simp [mu, nextR]
  | cons l ls => simp [mu, nextR]
 ·have : nextR ⟨ls, n, e⟩ = ([], ⟨ls, n, e⟩) := if_pos he
  rw [this]
  simp [mu, he]
theorem ls_le_mu (r : Go.Dg.Rd) : r.ls.length ≤ mu r := Nat.le_add_right _ _
theorem next_ls (r : Go.Dg.Rd) : (nextR r).2.ls.length ≤ r.ls.length := Nat.le_trans (ls_le_mu _) (mu_next r)
theorem fail_ls (r : Go.Dg.Rd) (k : Int) : (failR r k).ls = r.ls := by unfold failR; split <;> rfl
theorem value_ls (r : Go.Dg.Rd) (l w : List UInt8) (p : List UInt8 → Bool) : (valueR r l w p).2.ls = r.ls := by
 unfold valueR
 split
 ·rfl
 ·exact fail_ls r 3
theorem date_ls (r : Go.Dg.Rd) : (dateR r).2.ls.length ≤ r.ls.length := by
 show (valueR (nextR r).2 (nextR r).1 wDate Go.Dt.canonB).2.ls.length ≤ _
 rw [value_ls]; exact next_ls r
theorem exact_ls (r : Go.Dg.Rd) (l : List UInt8) : (exactR r l).ls.length ≤ r.ls.length := by
 unfold exactR
 split
 ·exact next_ls r
 ·rw [fail_ls]; exact next_ls r
theorem bodyL_ls : ∀ (ls : List (List UInt8)) (n : Int) (ps : List (List UInt8)), (bodyL ls n ps).2.ls.length ≤ ls.length
 | [], _, _ => by simp [bodyL]
 | l :: ls, n, ps => by
  unfold bodyL
  split
  ·simp
  ·split
   ·split
    ·simp
    ·exact Nat.le_trans (bodyL_ls ls (n + 1) _) (by simp)
   ·simp
theorem body_ls (r : Go.Dg.Rd) : (bodyR r).2.ls.length ≤ r.ls.length := by
 unfold bodyR
 split
 ·exact Nat.le_refl _
 ·exact bodyL_ls _ _ _
theorem item_ls (r : Go.Dg.Rd) (l : List UInt8) (seen : List (List UInt8)) : (itemR r l seen).2.ls.length ≤ r.ls.length := by
 unfold itemR
 simp only
 refine Nat.le_trans (body_ls _) (Nat.le_trans (exact_ls _ _) ?_)
 rw [value_ls]
 refine Nat.le_trans (next_ls _) ?_
 rw [value_ls]
 refine Nat.le_trans (next_ls _) (Nat.le_trans (date_ls _) ?_)
 rw [value_ls]
 split
 ·rw [fail_ls]; exact Nat.le_refl _
 ·exact Nat.le_refl _
/-- A round of the loop over the items. -/
theorem mu_round (r : Go.Dg.Rd) (l : List UInt8) (seen : List (List UInt8)) (he : r.e = 0) : mu (nextR (itemR r l seen).2).2 < mu r := by
 have h1 := mu_next (itemR r l seen).2
 have h2 := item_ls r l seen
 have h3 : mu r = r.ls.length + 1 := by unfold mu; rw [if_pos he]
 omega
theorem itemsF_stop {r : Go.Dg.Rd} {last : List UInt8} {its : List It} (h : more r last its = false) : ∀ f, itemsF f r last its = (r, last, its)
 | 0 => rfl
 | f + 1 => by unfold itemsF; rw [if_neg (by rw [h]; decide)]
theorem itemsF_step {r : Go.Dg.Rd} {last : List UInt8} {its : List It} (f : Nat) (h : more r last its = true) : itemsF (f + 1) r last its = itemsF f (nextR (itemR r last (its.map (·.ky))).2).2 (nextR (itemR r last (its.map (·.ky))).2).1 (its ++ [(itemR r last (its.map (·.ky))).1]) := by
 rw [itemsF, if_pos h]
theorem more_e {r : Go.Dg.Rd} {last : List UInt8} {its : List It} (h : more r last its = true) : r.e = 0 := by
 unfold more at h
 simp only [Bool.and_eq_true, decide_eq_true_eq] at h
 exact h.1
/-- The digest of zeros. -/
abbrev dg0 : Value := .agg #[enS [], i64 0, i64 0, i64 0, .slice none 0 0]
abbrev dg0L : List Value := [enS [], i64 0, i64 0, i64 0, .slice none 0 0]
/-- Cells elsewhere, in every world that parts in one block alone. -/
theorem but_cls {db : Nat} {w : World} {p : Addr} {v : Value} (h : w.cell? p = some v) (hne : p.block ≠ db) (t : Flow.Cls (But db w)) : t.val.cell? p = some v := by
 rw [World.cell?_of_block (t.ok.block p.block (World.block_lt_of_cell? w p h) hne)]
 exact h
theorem dg_store {w : World} {db : Nat} {a b c d e : Value} (h : w.heap[db]? = some (.cells #[a, b, c, d, e] 32 (0, 0))) (a' b' c' d' e' : Value) : (w.setCells db 0 [a', b', c', d', e']).heap[db]? = some (.cells #[a', b', c', d', e'] 32 (0, 0)) := by
 rw [blk_setCells _ _ _ _ h]
 rfl
theorem one_dg (ti : List UInt8) (vo ie da : Int) (A : Option Addr) (n c : Nat) : (#[enS ti, i64 vo, i64 ie, i64 da, .slice A n c] : Array Value).all (·.oneCell') = true := by simp [Value.oneCell']
theorem cat_toList (a b : List UInt8) : ((⟨a.toArray⟩ : ByteArray) ++ ⟨b.toArray⟩).toList = a ++ b := by
 rw [bcat]
 simp
theorem head_len (d : Dg) (h1 : d.ti.length ≤ 1000000000) (h2 : d.vo ≤ 1000000000) (h3 : d.ie ≤ 1000000000) : (headT d).length ≤ 1000000100 := by
 have a := dd_len d.vo h2
 have b := dd_len d.ie h3
 rw [head_parts]
 simp only [List.length_append, List.length_cons, List.length_nil]
 omega
theorem wp_store_mid0 {P : Program} {op : Oper} {a : Act} {w : World} {K : Act → World → Prop} {Q : Exit → Act → World → Prop} (ty : TypeId) (x y : Operand) (ho : op.op = .store ty x y) (hd : op.dst = none)
  (b o : Nat) (cells : Array Value) (hx : a.eval x = .pointer (some ⟨b, o, none⟩)) (hy : a.eval y = .agg cells)
  (ht : w.there b o cells.size) (hi : (P.info? ty).map (·.size) = some cells.size) (h1 : cells.all (·.oneCell') = true)
  (h : K a (w.setCells b o cells.toList)) : op.wp P a w K Q :=
 wp_store_mid ty x y ho b o cells hx hy ht hi h1 (by rw [hd]; exact h)
/-- slices.Equal of texts. -/
theorem eqTexts_any {A B : Option Addr} {c d n m : Nat} {xs ys : List (List UInt8)} {w : World} (hx : Rd w A xs) (hy : Rd w B ys) (hn : n = xs.length) (hm : m = ys.length) (h1 : xs.length ≤ 1000000000) (h2 : ys.length ≤ 1000000000) :
  Calls Tryz.prog 51 #[.slice A n c, .slice B m d] w fun e w' => e = .returned (.bool (decide (xs = ys))) ∧ Below w.heap.size w w' := by
 subst hn hm
 by_cases hl : xs.length = ys.length
 ·by_cases h0 : xs.length = 0
  ·have e1 : xs = [] := List.eq_nil_of_length_eq_zero h0
   have e2 : ys = [] := List.eq_nil_of_length_eq_zero (by omega)
   subst e1 e2
   refine (Tryz.slices_Equal_string_empty A B c 0 d w (by omega)).mono ?_
   rintro e w' ⟨rfl, rfl⟩
   exact ⟨rfl, Below.refl _ _⟩
  ·obtain ⟨b1, o1, rfl, _, r1⟩ := hx (by omega)
   obtain ⟨b2, o2, rfl, _, r2⟩ := hy (by omega)
   have key : ∀ (zs : List (List UInt8)) (b o : Nat), (∀ j x, zs[j]? = some x → w.cell? ⟨b, o + j, none⟩ = some (enS x)) → ∀ j, j < (zs.map fun x => (⟨x.toArray⟩ : ByteArray)).length → w.cell? ⟨b, o + j, none⟩ = some (.string ((zs.map fun x => (⟨x.toArray⟩ : ByteArray)).getD j ByteArray.empty)) := fun zs b o h j hj => by
    rw [List.length_map] at hj
    rw [h j zs[j] (List.getElem?_eq_getElem hj)]
    simp [List.getD, hj]
   refine (Tryz.slices_Equal_string b1 o1 xs.length c b2 o2 ys.length d (xs.map fun x => ⟨x.toArray⟩) (ys.map fun x => ⟨x.toArray⟩) w (by simp) (by simp) (by omega) (by omega) (key xs b1 o1 r1) (key ys b2 o2 r2)).mono ?_
   rintro e w' ⟨rfl, q, rfl⟩
   refine ⟨?_, (Below.refl _ _).drewN q⟩
   rw [List.take_of_length_le (by simp), List.take_of_length_le (by simp)]
   congr 2
   apply decide_eq_decide.2
   refine List.map_inj_right fun a b h => ?_
   have := congrArg (fun z => z.data.toList) h
   simpa using this
 ·refine (Tryz.slices_Equal_string_lens A B xs.length c ys.length d w hl).mono ?_
  rintro e w' ⟨rfl, rfl⟩
  refine ⟨?_, Below.refl _ _⟩
  rw [decide_eq_false fun h => hl (by rw [h])]
/-! ### plain laws -/
theorem consL_ls : ∀ (ls : List (List UInt8)) (n : Int) (acc : List (List UInt8)), (consL ls n acc).2.ls.length ≤ ls.length
 | [], _, _ => by simp [consL]
 | l :: ls, n, acc => by
  unfold consL
  split
  ·simp
  ·split
   ·exact Nat.le_trans (consL_ls ls (n + 1) _) (by simp)
   ·simp
theorem cons_ls (r : Go.Dg.Rd) : (consR r).2.ls.length ≤ r.ls.length := by
 unfold consR
 split
 ·exact Nat.le_refl _
 ·exact consL_ls _ _ _
theorem head_ls (r : Go.Dg.Rd) (l : List UInt8) : (headR r l).2.ls = r.ls := by
 unfold headR
 split
 ·rfl
 ·split <;> rfl
theorem mu_start (ls : List (List UInt8)) : mu (nextR (consR (exactR (dateR (headR (nextR ⟨ls, 0, 0⟩).2 (nextR ⟨ls, 0, 0⟩).1).2).2 wTop)).2).2 ≤ ls.length + 1 := by
 refine Nat.le_trans (mu_next _) (Nat.le_trans (cons_ls _) (Nat.le_trans (exact_ls _ _) (Nat.le_trans (date_ls _) ?_)))
 rw [head_ls]
 exact Nat.le_succ_of_le (next_ls _)
theorem consL_len : ∀ (ls : List (List UInt8)) (n : Int) (acc : List (List UInt8)), (consL ls n acc).1.length ≤ acc.length + ls.length
 | [], _, _ => by simp [consL]
 | l :: ls, n, acc => by
  unfold consL
  split
  ·simp
  ·split
   ·refine Nat.le_trans (consL_len ls (n + 1) _) ?_
    simp only [List.length_append, List.length_cons, List.length_nil]; omega
   ·simp
theorem cons_start (s : List UInt8) : (consR (exactR (dateR (headR (nextR ⟨(lns s).1, 0, 0⟩).2 (nextR ⟨(lns s).1, 0, 0⟩).1).2).2 wTop)).1.length ≤ s.length := by
 have h1 : ∀ r : Go.Dg.Rd, (consR r).1.length ≤ r.ls.length := fun r => by
  unfold consR
  split
  ·simp
  ·have := consL_len r.ls r.n []
   simpa using this
 have h2 := congrArg List.length (lns_eq s)
 rw [List.length_append, unl_length_le] at h2
 refine Nat.le_trans (h1 _) (Nat.le_trans (exact_ls _ _) (Nat.le_trans (date_ls _) ?_))
 rw [head_ls]
 refine Nat.le_trans (next_ls _) ?_
 show (lns s).1.length ≤ _
 omega
theorem lines_len (l : List It) : (linesD l).length ≤ l.length := by
 have key : ∀ (l : List It) (acc : List (List UInt8)), (subjL acc l).length ≤ acc.length + l.length := by
  intro l
  induction l with
  | nil => intro acc; simp [subjL]
  | cons x l ih =>
   intro acc
   unfold subjL
   refine Nat.le_trans (ih _) ?_
   split
   ·simp only [List.length_cons]; omega
   ·simp only [List.length_append, List.length_cons, List.length_nil]; omega
 unfold linesD
 rw [List.length_map]
 simpa using key l []
theorem it_info : (Tryz.prog.info? 59).map (fun i => (i.zero, i.size, i.bytes)) = some (some (.agg (itL it0).toArray), 36, 88) := by kernel_rfl
theorem head_bd (r : Go.Dg.Rd) (l : List UInt8) : (headR r l).1.1.length ≤ 1000000000 ∧ (0 ≤ (headR r l).1.2.1 ∧ (headR r l).1.2.1 ≤ 1000000000) ∧ (0 ≤ (headR r l).1.2.2 ∧ (headR r l).1.2.2 ≤ 1000000000) := by
 unfold headR
 split
 ·simp
 ·split
  ·next v hv =>
   obtain ⟨ti, vo, ie⟩ := v
   obtain ⟨_, h1, h2, h3⟩ := headV_some hv
   unfold titleB at h1
   unfold ordB at h2 h3
   simp only [Bool.and_eq_true, decide_eq_true_eq] at h1 h2 h3
   simp only
   omega
  ·simp
theorem itemR_ky (r : Go.Dg.Rd) (l : List UInt8) (seen : List (List UInt8)) : (itemR r l seen).1.ky.length = 32 := by
 unfold itemR
 simp only
 generalize (valueR _ _ wMid (idB seen)).1 = s
 cases h : idV s with
 | none => rfl
 | some k => exact (idV_some h).2
/-- What holds of the items at the head of the loop. -/
def ItsI (r : Go.Dg.Rd) (its : List It) : Prop := its.length ≤ 201 ∧ (∀ x ∈ its, x.ky.length = 32) ∧ (r.e = 0 → (∀ x ∈ its, chkI x = 0) ∧ (its.map (·.ky)).Nodup ∧ its.length ≤ 200)
theorem ItsI.nil (r : Go.Dg.Rd) : ItsI r [] := ⟨by simp, by simp, fun _ => ⟨by simp, by simp, by simp⟩⟩
theorem ItsI.step {r : Go.Dg.Rd} {l : List UInt8} {its : List It} (hf : ∀ l ∈ r.ls, noNl l) (he : r.e = 0) (h : ItsI r its) : ItsI (nextR (itemR r l (its.map (·.ky))).2).2 (its ++ [(itemR r l (its.map (·.ky))).1]) := by
 obtain ⟨_, h2, h3⟩ := h
 obtain ⟨h4, h5, h6⟩ := h3 he
 refine ⟨by rw [List.length_append, List.length_singleton]; omega, fun x hx => ?_, fun h0 => ?_⟩
 ·rcases List.mem_append.1 hx with hx | hx
  ·exact h2 x hx
  ·obtain rfl := List.mem_singleton.1 hx
   exact itemR_ky _ _ _
 ·obtain ⟨_, _, a, b, c, _⟩ := itemR_ok hf (nextR_ok h0).1
  refine ⟨fun x hx => ?_, ?_, ?_⟩
  ·rcases List.mem_append.1 hx with hx | hx
   ·exact h4 x hx
   ·obtain rfl := List.mem_singleton.1 hx
    exact a
  ·rw [List.map_append, List.map_singleton]
   refine List.nodup_append.2 ⟨h5, by simp, fun x hx y hy => ?_⟩
   obtain rfl := List.mem_singleton.1 hy
   exact fun e => b (e ▸ hx)
  ·rw [List.length_map] at c
   rw [List.length_append, List.length_singleton]; omega
theorem rest_empty (ls : List (List UInt8)) (tl : List UInt8) : (unl ls ++ tl).isEmpty = decide (ls = [] ∧ tl = []) := by
 cases ls with
 | nil => cases tl <;> simp [unl]
 | cons l ls => rw [unl_cons]; simp
theorem flat_len (xs : List It) : (xs.flatMap itL).length = xs.length * 36 := by
 induction xs with
 | nil => rfl
 | cons x xs ih => rw [List.flatMap_cons, List.length_append, ih, itL_length, List.length_cons]; omega
theorem flat_at : ∀ (xs : List It) (j : Nat) (x : It) (i : Nat), xs[j]? = some x → i < 36 → (xs.flatMap itL)[j * 36 + i]? = (itL x)[i]?
 | [], _, _, _, h, _ => by simp at h
 | y :: ys, 0, x, i, h, hi => by
  simp only [List.getElem?_cons_zero, Option.some.injEq] at h
  subst h
  rw [List.flatMap_cons, Nat.zero_mul, Nat.zero_add, List.getElem?_append_left (by rw [itL_length]; exact hi)]
 | y :: ys, j + 1, x, i, h, hi => by
  rw [List.flatMap_cons, List.getElem?_append_right (by rw [itL_length]; omega), itL_length, show (j + 1) * 36 + i - 36 = j * 36 + i by omega]
  exact flat_at ys j x i (by simpa using h) hi
theorem own2_le {w : World} {base n c size : Nat} {e : TypeId} {A : Option Addr} {xs : List Value} (h : w.ownsRow base e size (.slice A n c) n xs) : n ≤ c := by
 rcases h.2 with ⟨e1, h0⟩ | ⟨g, cap, cur, e1, _, _, h1, _⟩
 ·cases e1; exact Nat.le_refl _
 ·cases e1; exact h1
/-- A row of items of the call's own reads as them. -/
theorem RdI.of_own {w : World} {base n c : Nat} {A : Option Addr} {its : List It} (h : w.ownsRow base 59 36 (.slice A n c) n (its.flatMap itL)) (hk : ∀ x ∈ its, x.ky.length = 32) : RdI w A its := by
 refine ⟨fun hp => ?_, hk⟩
 rcases h.2 with ⟨_, h0⟩ | ⟨g, cap, cur, e, _, hg, _, _, _, ht⟩
 ·have := h.1
  rw [flat_len, h0] at this
  omega
 ·cases e
  refine ⟨g, 0, rfl, blk_lt hg, fun j x hj i v hv => ?_⟩
  have hi : i < 36 := by
   have := (List.getElem?_eq_some_iff.1 hv).1
   rwa [itL_length] at this
  have e1 := flat_at its j x i hj hi
  rw [← ht, List.getElem?_take] at e1
  rw [blk_cell hg]
  split at e1
  ·rw [Nat.zero_add, ← Array.getElem?_toList, e1]; exact hv
  ·rw [← e1] at hv; cases hv
/-- A slice of one item is made. -/
theorem wpList_one_it {ops : Array Oper} {rest : List Oper} {o : Oper} {a : Act} {w : World} {Q : Exit → Act → World → Prop} (hg : o.guard = none) (X : Operand) (ho : o.op = .buildSlice 30 1 #[(0, X)]) (x : It) (hx : a.eval X = itA x)
  (h : wpList Tryz.prog ops Q rest (a.put o.dst (.slice (some ⟨w.heap.size, 0, none⟩) 1 1)) (w.alloc (.cells (itL x).toArray 59))) : wpList Tryz.prog ops Q (o :: rest) a w := by
 obtain ⟨i0, hi, hz0, hz1, hz2⟩ := info_parts it_info
 refine wpList_buildSlice hg _ _ 1 _ ho (itL x).toArray i0 _ Tryz.underlying30 hi hz0 (by rw [hz1]; omega) (by rw [hz1]; omega) ?_ h
 rw [hz1]
 have h2 := Great.fill_whole (s := 36) (by decide) [itA x] ((Array.range (1 * 36)).map ((Value.agg (itL it0).toArray).cells[· % (Value.agg (itL it0).toArray).cells.size]!)) (fun v hv => by
  obtain rfl := List.mem_singleton.1 hv
  show (itL x).toArray.size = 36
  rw [List.size_toArray, itL_length]) (by simp)
 have e1 : ((#[(0, X)] : Array (Nat × Operand)).map fun (i, y) => (i, a.eval y)).toList = [(0, itA x)] := by
  simp [hx]
 rw [e1]
 refine Eq.trans h2 ?_
 show some (List.flatMap (fun v => v.cells.toList) [itA x]).toArray = _
 rw [List.flatMap_cons, List.flatMap_nil, List.append_nil]
 show some (itL x).toArray.toList.toArray = _
 rfl
/-- Where the walk of Burst stands: the reader in block b, the digest's cells in block db. -/
structure BuX (w0 W : World) (db b : Nat) (tl : List UInt8) (r : Go.Dg.Rd) (ti : List UInt8) (vo ie da : Int) (iv : Value) : Prop where
 rd : RdM w0 W b tl r
 dg : W.heap[db]? = some (.cells #[enS ti, i64 vo, i64 ie, i64 da, iv] 32 (0, 0))
 ne : w0.heap.size ≤ db ∧ db < b
section
variable {w0 W W' : World} {db b : Nat} {tl : List UInt8} {r r' : Go.Dg.Rd} {ti : List UInt8} {vo ie da : Int} {iv : Value}
theorem BuX.but (h : BuX w0 W db b tl r ti vo ie da iv) (hr : RdM w0 W' b tl r') (hk : But b W W') : BuX w0 W' db b tl r' ti vo ie da iv :=
 ⟨hr, (hk.block db (blk_lt h.dg) (by have := h.ne; omega)).trans h.dg, h.ne⟩
theorem BuX.below (h : BuX w0 W db b tl r ti vo ie da iv) (hb : Below W.heap.size W W') : BuX w0 W' db b tl r ti vo ie da iv :=
 ⟨h.rd.below hb, blk_below hb h.dg, h.ne⟩
theorem BuX.set {ti' : List UInt8} {vo' ie' da' : Int} {iv' : Value} (h : BuX w0 W db b tl r ti vo ie da iv) (o : Nat) (v : Value) (hx : (#[enS ti, i64 vo, i64 ie, i64 da, iv] : Array Value).setIfInBounds o v = #[enS ti', i64 vo', i64 ie', i64 da', iv']) : BuX w0 (W.setCell ⟨db, o, none⟩ v) db b tl r ti' vo' ie' da' iv' :=
 have hk : But db W (W.setCell ⟨db, o, none⟩ v) := (But.refl _ _).setCell v
 ⟨h.rd.but2 hk (by have := h.ne; omega) h.ne.1, by rw [blk_set h.dg o v, hx], h.ne⟩
/-- The same, below a bound that lies above both blocks. -/
theorem BuX.belowN {N : Nat} (h : BuX w0 W db b tl r ti vo ie da iv) (hb : Below N W W') (hN : b < N) : BuX w0 W' db b tl r ti vo ie da iv :=
 ⟨h.rd.belowN hb hN, (hb.block db (by have := h.ne; omega)).trans h.dg, h.ne⟩
theorem BuX.grown {g : Nat} (h : BuX w0 W db b tl r ti vo ie da iv) (hg : W.grownBy W' (some g)) (hN : b < g) : BuX w0 W' db b tl r ti vo ie da iv :=
 have hne := h.ne
 ⟨⟨(hg.block b h.rd.lt (by intro e; injection e with e; omega)).trans h.rd.blk, h.rd.fr, h.rd.ftl, h.rd.sm, h.rd.nb, h.rd.g, h.rd.hb, h.rd.bel.grown hg h.rd.bel.size (fun k e => by cases e; omega)⟩, (hg.block db (blk_lt h.dg) (by intro e; injection e with e; omega)).trans h.dg, h.ne⟩
end
/-- .. and the items so far, the set of their keys, the contents. -/
structure BuL (w0 W : World) (db b : Nat) (tl : List UInt8) (r : Go.Dg.Rd) (ti : List UInt8) (vo ie da : Int) (A : Option Addr) (c : Nat) (its : List It) (ks : List (List UInt8)) (mb cb base : Nat) (cv : Value) (cs : List (List UInt8)) : Prop where
 bu : BuX w0 W db b tl r ti vo ie da (.slice A its.length c)
 own : W.ownsRow base 59 36 (.slice A its.length c) its.length (its.flatMap itL)
 set : SetI W mb ks
 con : W.ownsRow cb 9 1 cv cs.length (cs.map enS)
 clt : ∀ g, cv.ownBlock = some g → g < mb
 lt : b < cb ∧ cb ≤ mb ∧ mb < base ∧ base ≤ W.heap.size
section
variable {w0 W W' : World} {db b : Nat} {tl : List UInt8} {r r' : Go.Dg.Rd} {ti : List UInt8} {vo ie da : Int} {A A' : Option Addr} {c c' : Nat} {its : List It} {ks ks' : List (List UInt8)} {mb cb base : Nat} {cv : Value} {cs : List (List UInt8)} {x : It}
theorem BuL.but (h : BuL w0 W db b tl r ti vo ie da A c its ks mb cb base cv cs) (hr : RdM w0 W' b tl r') (hk : But b W W') : BuL w0 W' db b tl r' ti vo ie da A c its ks mb cb base cv cs := by
 obtain ⟨l1, l2, l3, l4⟩ := h.lt
 exact ⟨h.bu.but hr hk, own_but h.own (by omega) hk, h.set.keep (hk.block mb h.set.2.lt (by omega)), own_but h.con (by omega) hk, h.clt, l1, l2, l3, Nat.le_trans l4 hk.size⟩
theorem BuL.below (h : BuL w0 W db b tl r ti vo ie da A c its ks mb cb base cv cs) (hb : Below W.heap.size W W') : BuL w0 W' db b tl r ti vo ie da A c its ks mb cb base cv cs := by
 obtain ⟨l1, l2, l3, l4⟩ := h.lt
 exact ⟨h.bu.below hb, own_below h.own hb, h.set.below hb, own_below h.con hb, h.clt, l1, l2, l3, Nat.le_trans l4 hb.size⟩
theorem BuL.mapd (h : BuL w0 W db b tl r ti vo ie da A c its ks mb cb base cv cs) (hs : SetI W' mb ks') (hg : W.grownBy W' (some mb)) : BuL w0 W' db b tl r ti vo ie da A c its ks' mb cb base cv cs := by
 obtain ⟨l1, l2, l3, l4⟩ := h.lt
 refine ⟨h.bu.grown hg (by omega), own_keep h.own fun k hk e => hg.block k hk ?_, hs, own_keep h.con fun k hk e => hg.block k hk ?_, h.clt, l1, l2, l3, Nat.le_trans l4 hg.size⟩
 ·intro e2; injection e2 with e2
  have := (h.own.lt k e).1; omega
 ·intro e2; injection e2 with e2
  have := h.clt k e; omega
theorem BuL.app (h : BuL w0 W db b tl r ti vo ie da A c its ks mb cb base cv cs) (ho : W'.ownsRow base 59 36 (.slice A' (its ++ [x]).length c') (its ++ [x]).length ((its ++ [x]).flatMap itL)) (hb : Below base W W') :
  BuL w0 (W'.setCell ⟨db, 4, none⟩ (.slice A' (its ++ [x]).length c')) db b tl r ti vo ie da A' c' (its ++ [x]) ks mb cb base cv cs := by
 obtain ⟨l1, l2, l3, l4⟩ := h.lt
 have hn := h.bu.ne
 have hk : But db W' (W'.setCell ⟨db, 4, none⟩ (.slice A' (its ++ [x]).length c')) := (But.refl _ _).setCell _
 have hc : W'.ownsRow cb 9 1 cv cs.length (cs.map enS) := own_keep h.con fun k hk e => hb.block k (by have := h.clt k e; omega)
 exact ⟨(h.bu.belowN hb (by omega)).set 4 _ rfl, own_but ho (by omega) hk, (h.set.keep (hb.block mb (by omega))).keep (hk.block mb (Nat.lt_of_lt_of_le h.set.2.lt hb.size) (by omega)), own_but hc (by omega) hk, h.clt, l1, l2, l3, Nat.le_trans l4 (Nat.le_trans hb.size hk.size)⟩
end
end Go.Proofs.YtlchcjnbbhpiaaaGreatDoor
