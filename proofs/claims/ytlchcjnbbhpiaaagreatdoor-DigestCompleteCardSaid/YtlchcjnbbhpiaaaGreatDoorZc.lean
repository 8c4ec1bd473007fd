/- strings.SplitSeq at a line feed: its iterator's contract.
   Contracts of strings.Builder over this dump: copyCheck, WriteByte, WriteString. Condition: the new length takes at most 2^47 bytes.
   Contracts: what texts and numbers are permitted in a digest; unprotect.
   Items, identities and digests in memory: how they are laid, read, compared.
   Contract: the check of an item.
   Contracts: decimal numbers, the first line of a digest.
   Contracts: bytes in hexadecimal digits, a message identifier's text.
   Contract: a message identifier's text.
   The lines of contents: what is laid in memory on the way.
   Contract: the lines of contents.
   Sinks: where a digest's parts are written: into a Builder, or counted. -/
import Derived.Test.YtlchcjnbbhpiaaaGreatDoorZa
import Derived.Test.YtlchcjnbbhpiaaaGreatDoorZb
import Derived.Test.YtlchcjnbbhpiaaaGreatDoorShD
import Derived.Shelf.Abstract
import Derived.Shelf.RegionOpen
import Derived.OwnWalkIn
import Derived.TacticsInMore
import Derived.LoopNIn
import Derived.LoopIn
import Derived.Shelf.Strings.Builder1
import Derived.Lib.OthersKept
import Derived.Deep.DeepCutAuto
import Derived.DeepKeys4
import Derived.Stop.BytesEq
import Derived.Laws.IdiomStrings
import Derived.Test.YtlchcjnbbhpiaaaGreatDoorZd
import Derived.Maps.OwnIn
import Derived.StringKeys
namespace Go.Proofs.YtlchcjnbbhpiaaaGreatDoor
open Go.RowKit Go.Shelf Go.Dg Go.Rg
attribute [local go_sem] Oper.semAt_some
theorem ext_take (s : List UInt8) (n : Nat) : (⟨s.toArray⟩ : ByteArray).extract 0 n = ⟨(s.take n).toArray⟩ := by
 apply ByteArray.ext
 simp [ByteArray.data_extract]
theorem ext_drop (s : List UInt8) (n : Nat) : (⟨s.toArray⟩ : ByteArray).extract n s.length = ⟨(s.drop n).toArray⟩ := by
 apply ByteArray.ext
 have : List.take (s.length - n) (List.drop n s) = List.drop n s := List.take_of_length_le (by simp)
 simp [ByteArray.data_extract, this]
/-- What the iterator holds. -/
structure SqD (bs : Nat) (W : World) (r : List UInt8) : Prop where
 s : W.heap[bs]? = some (.cells #[enS r] 9 (0, 0))
 sep : W.heap[bs + 1]? = some (.cells #[.string ⟨#[10]⟩] 9 (0, 0))
 sv : W.heap[bs + 2]? = some (.cells #[.int .i64 0] 3 (0, 0))
def SqK (bs : Nat) (A B : World) : Prop := ∀ k, bs ≤ k → k ≤ bs + 2 → B.heap[k]? = A.heap[k]?
def SqS (bs : Nat) (A B : World) : Prop := ∃ v, B = A.setCell ⟨bs, 0, none⟩ v
theorem SqD.keep {bs : Nat} {A B : World} {r : List UInt8} (h : SqD bs A r) (k : SqK bs A B) : SqD bs B r :=
 ⟨(k bs (by omega) (by omega)).trans h.s, (k (bs + 1) (by omega) (by omega)).trans h.sep, (k (bs + 2) (by omega) (by omega)).trans h.sv⟩
theorem SqK.trans {bs : Nat} {A B C : World} (h : SqK bs A B) (k : SqK bs B C) : SqK bs A C := fun i h1 h2 => (k i h1 h2).trans (h i h1 h2)
theorem SqD.put {bs : Nat} {A : World} {r : List UInt8} (h : SqD bs A r) (q : List UInt8) : SqD bs (A.setCell ⟨bs, 0, none⟩ (enS q)) q :=
 ⟨by rw [blk_set h.s]; rfl, by rw [blk_set_ne _ _ (by omega)]; exact h.sep, by rw [blk_set_ne _ _ (by omega)]; exact h.sv⟩
def lenW (bs : Nat) (W : World) : Nat := match W.cell? ⟨bs, 0, none⟩ with
 | some (.string b) => b.size
 | _ => 0
theorem SqD.len {bs : Nat} {W : World} {r : List UInt8} (h : SqD bs W r) : lenW bs W = r.length := by
 unfold lenW
 rw [blk_cell h.s]
 show r.toArray.size = _
 simp
set_option maxRecDepth 100000 in
set_option maxHeartbeats 4000000 in
theorem splitSeq1_all (n : Nat) (hn : 1 ≤ n) (bs : Nat) (s : List UInt8) (hl : s.length ≤ 1000000000) (w0 : World) (h0 : SqD bs w0 s) :
  SeqAll Fence.wide n Tryz.prog 135 #[.pointer (some ⟨bs + 1, 0, none⟩), .pointer (some ⟨bs, 0, none⟩), .pointer (some ⟨bs + 2, 0, none⟩)] enS (SqK bs) (SqS bs) (pcs s) w0 := by
 intro l J W hK hS hY hJ0
 have D0 := Lib.hid (h0.keep hK)
 have HS := Lib.hid hS
 have HY := Lib.hid hY
 clear hS hY hK h0
 have c0 := blk_cell D0.out.s 0
 have c1 := blk_cell D0.out.sep 0
 refine callsIn_of_wp Tryz.func135 rfl trivial ?_ rfl
 simp only [Tryz.ntmps135, List.size_toArray, List.length_cons, List.length_nil, Nat.reduceAdd, Nat.reduceSub, Array.replicate_succ, Array.replicate_zero, List.push_toArray, List.append_toArray, List.nil_append, List.cons_append]
 gi_wp2
 clear c0 c1
 gi_loopw [7] (fun _ wr => ∃ pre r, Hid (pcs s = pre ++ pcs r) ∧ r.length ≤ s.length ∧ J pre wr ∧ Hid (SqD bs wr r)) (fun _ wr => lenW bs wr)
 case atStart => exact ⟨[], s, Lib.hid rfl, Nat.le_refl _, hJ0, D0⟩
 case round =>
  obtain ⟨pre, r, hp, hr, hJ, D⟩ := hrel
  clear hJ0 D0
  have c0 := blk_cell D.out.s 0
  have c1 := blk_cell D.out.sep 0
  have c2 := blk_cell D.out.sv 0
  have HI := Lib.hid (Tryz.strings_Index_one ⟨r.toArray⟩ 10 wr)
  have hds : (⟨r.toArray⟩ : ByteArray).data.toList = r := by simp
  rw [hds] at HI
  clear hds
  rcases idx_cases r with hi | ⟨o, hi⟩
  ·have HP := Lib.hid (hp.out.trans (by rw [pcs_miss hi]))
   obtain ⟨fn, tmps, assign, body, hy, hR⟩ := HY.out pre r wr hJ ⟨[], HP.out⟩
   rw [hi] at HI
   clear hi HY
   gi_wp2_with fail
   refine ⟨trivial, (callsIn_wide.2 HI.out).mono ?_⟩
   rintro e w1 ⟨rfl, rfl⟩
   gi_wp2_with fail
   refine hR.mono ?_
   rintro e W3 ⟨rfl, hJ3, hk3⟩
   gi_wp2_with fail
   go_end0
   exact ⟨⟨_, rfl⟩, by rw [HP.out]; exact hJ3⟩
  ·obtain ⟨hlt, hpc⟩ := pcs_hit hi
   have HP := Lib.hid (hp.out.trans (by rw [hpc]))
   obtain ⟨fn, tmps, assign, body, hy, hR⟩ := HY.out pre (r.take o) wr hJ ⟨_, HP.out⟩
   rw [hi] at HI
   have hsz : (⟨r.toArray⟩ : ByteArray).size = r.length := by show r.toArray.size = _; simp
   have het := ext_take r o
   clear hi hpc
   gi_wp2_with fail
   refine ⟨trivial, (callsIn_wide.2 HI.out).mono ?_⟩
   rintro e w1 ⟨rfl, rfl⟩
   gi_wp2_with fail
   refine hR.mono ?_
   rintro e W3 ⟨rfl, hJ3, hk3⟩
   have D3 := Lib.hid (D.out.keep hk3)
   have hm := D.out.len
   have HM := Lib.hid hm
   clear c0 c1 c2 hy hR het hJ hm hk3
   have c0 := blk_cell D3.out.s 0
   have c1 := blk_cell D3.out.sep 0
   have f0 := blk_free D3.out.s 0
   have hed := ext_drop r (o + 1)
   have P3 := Lib.hid (D3.out.put (r.drop (o + 1)))
   have J3 := Lib.hid (HS.out _ _ _ hJ3 ⟨enS (r.drop (o + 1)), rfl⟩)
   have L3 := Lib.hid P3.out.len
   clear hJ3 D
   gi_wp2_with fail
   go_roundw
   case rel => exact ⟨pre ++ [r.take o], r.drop (o + 1), Lib.hid (by (show _ = _); rw [HP.out]; simp), by rw [List.length_drop]; omega, J3.out, P3⟩
   case measure => rw [L3.out, HM.out, List.length_drop]; omega
theorem bldSize : (Tryz.prog.info? 112).map (·.size) = some 2 := by kernel_rfl
theorem bldLies : liesAt Tryz.prog Tryz.prog.depth 112 (2 / Tryz.prog.cellsOf 112) 0 112 1 = true := by kernel_rfl
theorem byteInfo : (Tryz.prog.info? 5).map (fun i => (i.zero, i.size, i.bytes)) = some (some (.int .u8 0), 1, 1) := by kernel_rfl
theorem own_row {w : World} {base n size : Nat} {e : TypeId} {v : Value} {xs : List Value} (h : w.ownsRow base e size v n xs) : ∀ g, v.ownBlock = some g → ∃ c fz, w.heap[g]? = some (.cells c e fz) := by
 intro g hg
 rcases h.2 with ⟨e1, _⟩ | ⟨g', cap, cur, e1, _, hg', _⟩
 ·subst e1; cases hg
 ·subst e1; cases hg; exact ⟨_, _, hg'⟩
set_option maxHeartbeats 1000000 in
set_option maxRecDepth 100000 in
theorem bldCheck_used (b : Nat) (w : World) (h0 : w.cell? ⟨b, 0, none⟩ = some (.pointer (some ⟨b, 0, none⟩))) :
  Calls Tryz.prog 108 #[.pointer (some ⟨b, 0, none⟩)] w fun e w' => e = .returned (.tuple #[]) ∧ w' = w := by
 obtain ⟨j, hj, _⟩ := Option.map_eq_some_iff.1 bldSize
 go_enter Tryz.func108, Tryz.ntmps108
 go_wp2
 rw [Lib.run_neq_ptr_same w _ Tryz.underlying110 hj]
 go_wp2
 go_end0
 exact ⟨rfl, rfl⟩
set_option maxHeartbeats 1000000 in
set_option maxRecDepth 100000 in
theorem bldCheck_fresh (b : Nat) (w : World) (h0 : w.cell? ⟨b, 0, none⟩ = some (.pointer none)) (hsh : w.shape? b = some (112, 2)) (hfz : w.frozen? ⟨b, 0, none⟩ = false) :
  Calls Tryz.prog 108 #[.pointer (some ⟨b, 0, none⟩)] w fun e w' => e = .returned (.tuple #[]) ∧ w' = w.setCell ⟨b, 0, none⟩ (.pointer (some ⟨b, 0, none⟩)) := by
 obtain ⟨j, hj, hjs⟩ := Option.map_eq_some_iff.1 bldSize
 go_enter Tryz.func108, Tryz.ntmps108
 go_wp2
 rw [Lib.run_to_unsafe w ⟨b, 0, none⟩ Tryz.underlying110 Tryz.underlying183 hj (by rw [hjs]; decide) hsh (Nat.zero_lt_succ 1)]
 simp only [Result.andThen]
 rw [Oper.upon_value]
 go_wp2
 rw [run_callFunc_extern Tryz.func137 (by kernel_rfl) (by kernel_rfl) (by kernel_rfl) (e := Extern.AbiNoEscape.same) (by kernel_rfl)]
 rw [Lib.run_noEscape]
 simp only [Result.andThen]
 rw [Oper.upon_value]
 go_wp2
 rw [Lib.run_from_unsafe w ⟨b, 0, none⟩ Tryz.underlying183 Tryz.underlying110 hj hsh bldLies]
 simp only [Result.andThen]
 rw [Oper.upon_value]
 go_wp2
 go_end0
 exact ⟨rfl, rfl⟩
theorem bldCheck (B b : Nat) (bs : List Value) (w : World) (h : Lib.IsBuilder 112 5 B b bs w) :
  Calls Tryz.prog 108 #[.pointer (some ⟨b, 0, none⟩)] w fun e w' => e = .returned (.tuple #[]) ∧ (Lib.BuilderAt 112 5 B b (.pointer (some ⟨b, 0, none⟩)) bs w' ∧ Below B w w' ∧ Lib.OthersKept 5 (some b) w w') := by
 rcases h with h | h
 ·refine (bldCheck_fresh b w h.cell0 h.shape h.frozen0).mono ?_
  rintro e w' ⟨rfl, rfl⟩
  exact ⟨rfl, h.used _, (Below.refl B w).setCell (p := ⟨b, 0, none⟩) h.1 _, (Lib.OthersKept.refl 5 (some b) w).setCell ⟨b, 0, none⟩ rfl _⟩
 ·refine (bldCheck_used b w h.cell0).mono ?_
  rintro e w' ⟨rfl, rfl⟩
  exact ⟨rfl, h, Below.refl B _, Lib.OthersKept.refl 5 (some b) _⟩
set_option maxHeartbeats 2000000 in
set_option maxRecDepth 100000 in
theorem bldByte (B b : Nat) (bs : List Value) (c : Int) (w : World) (h : Lib.IsBuilder 112 5 B b bs w) (hlen : bs.length + 1 ≤ 140737488355328) (hBw : B ≤ w.heap.size) :
  Calls Tryz.prog 64 #[.pointer (some ⟨b, 0, none⟩), .int .u8 c] w fun e w' => e = .returned .nilIface ∧ (Lib.BuilderAt 112 5 B b (.pointer (some ⟨b, 0, none⟩)) (bs ++ [.int .u8 c]) w' ∧ Below B w w' ∧ Lib.OthersKept 5 (some b) w w') := by
 obtain ⟨i0, hi, hz0, hz1, hz2⟩ := info_parts byteInfo
 go_enter Tryz.func64, Tryz.ntmps64
 go_wp2_with fail
 refine (bldCheck B b bs _ h).mono ?_
 rintro e w1 ⟨rfl, h1, hb1, hk1⟩
 obtain ⟨hB, v, hbk, hown, hne⟩ := h1
 have c0 : w1.cell? ⟨b, 0, none⟩ = some (.pointer (some ⟨b, 0, none⟩)) := by rw [Lib.cell_of_heap hbk]; rfl
 have c1 : w1.cell? ⟨b, 1, none⟩ = some v := by rw [Lib.cell_of_heap hbk]; rfl
 go_wp2_with (at_builtin; refine wpList_append_own _ rfl _ _ 66 rfl B 5 i0 (.int .u8 0) 1 1 Tryz.underlying66 hi hz0 hz1 hz2 rfl (by decide) _ _ _ rfl (hown.alloc _) ⟨w1.heap.size, 0, none⟩ 1 1 [.int .u8 c] rfl rfl ?c1 ?c2 ?c3 ?c4 ?c5 ?_)
 case c1 =>
  intro j u hj
  match j, hj with
  | 0, hj => simp at hj; subst hj; simp [Addr.add]
 case c2 => intro u hu; simp at hu; subst hu; rfl
 case c3 => unfold maxLen; omega
 case c4 => omega
 case c5 => have := hb1.size; simp; omega
 intro v' w2 hown' hgrow _
 have hlt : b < w1.heap.size := blk_lt hbk
 have hb2 : w2.heap[b]? = some (.cells #[.pointer (some ⟨b, 0, none⟩), v] 112 (0, 0)) := by
  rw [hgrow.block b (by simp; omega) (fun e => hne e.symm), Lib.alloc_old w1 _ b hlt]
  exact hbk
 have d0 : w2.cell? ⟨b, 0, none⟩ = some (.pointer (some ⟨b, 0, none⟩)) := by rw [Lib.cell_of_heap hb2]; rfl
 have d1 : w2.cell? ⟨b, 1, none⟩ = some v := by rw [Lib.cell_of_heap hb2]; rfl
 have f1 : w2.frozen? ⟨b, 1, none⟩ = false := Lib.frozen_of_heap hb2 1
 obtain ⟨g, cap, rfl⟩ : ∃ g cap, v' = .slice (some ⟨g, 0, none⟩) (bs.length + 1) cap := by
  rcases hown'.2 with ⟨_, h0⟩ | ⟨g, cap, cur, hv, _⟩
  ·omega
  ·exact ⟨g, cap, hv⟩
 go_wp2
 go_ret
 refine ⟨rfl, ?_, ?_, ?_⟩
 ·exact Lib.BuilderAt.put (T := 112) (e := 5) hB hb2 (bs' := bs ++ [.int .u8 c]) (by simpa using hown') (by decide)
 ·exact ((hb1.alloc (by have := hb1.size; omega) _).grown hgrow (by have := hb1.size; simp; omega) (fun k hk => (hown.lt k hk).1)).setCell (p := ⟨b, 1, none⟩) hB _
 ·exact ((hk1.alloc _).grown hgrow (own_row (hown.alloc _))).setCell ⟨b, 1, none⟩ rfl _
set_option maxHeartbeats 2000000 in
set_option maxRecDepth 100000 in
theorem bldStr (B b : Nat) (bs : List Value) (s : ByteArray) (w : World) (h : Lib.IsBuilder 112 5 B b bs w) (hlen : bs.length + s.size ≤ 140737488355328) (hBw : B ≤ w.heap.size) :
  Calls Tryz.prog 63 #[.pointer (some ⟨b, 0, none⟩), .string s] w fun e w' => e = .returned (.tuple #[.int .i64 s.size, .nilIface]) ∧ (Lib.BuilderAt 112 5 B b (.pointer (some ⟨b, 0, none⟩)) (bs ++ Lib.strCells s) w' ∧ Below B w w' ∧ Lib.OthersKept 5 (some b) w w') := by
 obtain ⟨i0, hi, hz0, hz1, hz2⟩ := info_parts byteInfo
 go_enter Tryz.func63, Tryz.ntmps63
 go_wp2_with fail
 refine (bldCheck B b bs _ h).mono ?_
 rintro e w1 ⟨rfl, h1, hb1, hk1⟩
 obtain ⟨hB, v, hbk, hown, hne⟩ := h1
 have c0 : w1.cell? ⟨b, 0, none⟩ = some (.pointer (some ⟨b, 0, none⟩)) := by rw [Lib.cell_of_heap hbk]; rfl
 have c1 : w1.cell? ⟨b, 1, none⟩ = some v := by rw [Lib.cell_of_heap hbk]; rfl
 go_wp2_with (at_builtin; refine Lib.wpList_append_own_string _ rfl _ _ 66 9 rfl B 5 i0 Tryz.underlying66 Tryz.underlying9 hi hz0 hz1 hz2 _ _ _ rfl hown s rfl ?c3 ?c4 ?c5 ?_)
 case c3 => unfold maxLen; omega
 case c4 => omega
 case c5 => have := hb1.size; omega
 intro v' w2 hown' hgrow _
 have hlt : b < w1.heap.size := blk_lt hbk
 have hb2 : w2.heap[b]? = some (.cells #[.pointer (some ⟨b, 0, none⟩), v] 112 (0, 0)) := by
  rw [hgrow.block b hlt (fun e => hne e.symm)]
  exact hbk
 have d0 : w2.cell? ⟨b, 0, none⟩ = some (.pointer (some ⟨b, 0, none⟩)) := by rw [Lib.cell_of_heap hb2]; rfl
 have d1 : w2.cell? ⟨b, 1, none⟩ = some v := by rw [Lib.cell_of_heap hb2]; rfl
 have f1 : w2.frozen? ⟨b, 1, none⟩ = false := Lib.frozen_of_heap hb2 1
 obtain ⟨ao, n', cap, rfl⟩ : ∃ ao n' cap, v' = .slice ao n' cap := by
  rcases hown'.2 with ⟨hv, _⟩ | ⟨g, cap, cur, hv, _⟩
  ·exact ⟨_, _, _, hv⟩
  ·exact ⟨_, _, _, hv⟩
 go_wp2
 go_ret2
 refine ⟨rfl, ?_, ?_, ?_⟩
 ·exact Lib.BuilderAt.put (T := 112) (e := 5) hB hb2 (bs' := bs ++ Lib.strCells s) (by simpa [Lib.strCells_length] using hown') (by decide)
 ·exact (hb1.grown hgrow (by have := hb1.size; omega) (fun k hk => (hown.lt k hk).1)).setCell (p := ⟨b, 1, none⟩) hB _
 ·exact (hk1.grown hgrow (own_row hown)).setCell ⟨b, 1, none⟩ rfl _
abbrev i64 (n : Int) : Value := .int .i64 n
theorem tl_eq (s : List UInt8) : (⟨s.toArray⟩ : ByteArray).data.toList = s := by simp
theorem sz_eq (s : List UInt8) : (⟨s.toArray⟩ : ByteArray).size = s.length := by show s.toArray.size = _; simp
theorem hasPre (s p : List UInt8) (w : World) : Calls Tryz.prog 48 #[enS s, enS p] w fun e w' => e = .returned (.bool (p.isPrefixOf s)) ∧ w = w' := by
 have h := Tryz.strings_HasPrefix ⟨s.toArray⟩ ⟨p.toArray⟩ w
 rw [tl_eq, tl_eq] at h
 exact h.mono fun e w' ⟨h1, h2⟩ => ⟨h1, h2.symm⟩
theorem hasSuf (s p : List UInt8) (w : World) (hl : s.length ≤ 9223372036854775807) : Calls Tryz.prog 72 #[enS s, enS p] w fun e w' => e = .returned (.bool (p.isSuffixOf s)) ∧ w = w' := by
 have h := Tryz.strings_HasSuffix ⟨s.toArray⟩ ⟨p.toArray⟩ w (by rw [sz_eq]; exact hl)
 rw [tl_eq, tl_eq] at h
 exact h.mono fun e w' ⟨h1, h2⟩ => ⟨h1, h2.symm⟩
theorem pre1 (s : List UInt8) (c : UInt8) : [c].isPrefixOf s = (s.head? == some c) := by
 cases s with
 | nil => rfl
 | cons d s =>
  by_cases h : c = d
  ·subst h; simp [List.isPrefixOf]
  ·have h' : ¬ d = c := fun e => h e.symm
   simp only [List.isPrefixOf, List.head?_cons, Bool.and_true]
   rw [Bool.eq_iff_iff]
   simp [h, h']
theorem suf1 (s : List UInt8) (c : UInt8) : [c].isSuffixOf s = (s.getLast? == some c) := by
 rw [List.isSuffixOf, List.reverse_singleton, pre1, List.head?_reverse]
theorem has13_idx (s : List UInt8) : decide (0 ≤ Lib.indexByte s 13) = has13 s := by
 rw [Bool.eq_iff_iff, decide_eq_true_eq, has13_iff]
 have h0 := Lib.indexByte_ge s 13
 constructor
 ·intro h
  have := Lib.indexByte_some (l := s) (c := 13) (o := (Lib.indexByte s 13).toNat) (by omega)
  exact List.mem_of_getElem? this.1
 ·intro h
  obtain ⟨k, hk⟩ := List.mem_iff_getElem?.1 h
  false_or_by_contra
  exact Lib.indexByte_none (show Lib.indexByte s 13 = -1 by omega) k hk
theorem has13_any (s : List UInt8) (w : World) : Calls Tryz.prog 61 #[enS s, .string ⟨#[13]⟩] w fun e w' => e = .returned (.bool (has13 s)) ∧ w = w' := by
 have h := Tryz.strings_Contains_one ⟨s.toArray⟩ 13 w
 rw [tl_eq, has13_idx] at h
 exact h.mono fun e w' ⟨h1, h2⟩ => ⟨h1, h2.symm⟩
theorem all_take_succ {p : UInt8 → Bool} {s : List UInt8} {k : Nat} (hk : k < s.length) : (s.take (k + 1)).all p = ((s.take k).all p && p (s.getD k 0)) := by
 rw [List.take_succ_eq_append_getElem hk, List.all_append]
 simp [hk]
theorem all_of_bad {p : UInt8 → Bool} {s : List UInt8} {k : Nat} (hk : k < s.length) (h : p (s.getD k 0) = false) : s.all p = false := by
 rw [List.all_eq_false]
 exact ⟨s.getD k 0, by simp [hk], by rw [h]; simp⟩
set_option maxRecDepth 100000 in
set_option maxHeartbeats 2000000 in
theorem isPlain_any (s : List UInt8) (w : World) (hl : s.length ≤ 1000000000) :
  Calls Tryz.prog 104 #[enS s] w fun e w' => e = .returned (.bool (plainB s)) ∧ w = w' := by
 have H1 := Lib.hid (fun u => hasPre s [32] u)
 have H2 := Lib.hid (fun u => hasSuf s [32] u (by omega))
 rw [pre1] at H1
 rw [suf1] at H2
 have V := Lib.hid (show plainB s = (s.all okC && (s.head? != some 32) && (s.getLast? != some 32)) from rfl)
 go_enter Tryz.func104, Tryz.ntmps104
 go_wp2_with fail
 go_loopg [6] s.length (fun gg iv wr => ∃ k : Nat, k ≤ s.length ∧ s.length - k ≤ gg ∧ iv = i64 k ∧ Hid ((s.take k).all okC = true) ∧ wr = w)
 case atStart => exact ⟨0, Nat.zero_le _, by omega, rfl, Lib.hid rfl, rfl⟩
 case round =>
  obtain ⟨k, hk, hg, rfl, HA, rfl⟩ := hrel
  by_cases hlt : k < s.length
  ·have bg := bget (t := s) (p := k) (show k < s.toArray.size by simpa using hlt) hlt
   have hts := all_take_succ (p := okC) hlt
   obtain ⟨c, hc⟩ : ∃ c, s.getD k 0 = c := ⟨_, rfl⟩
   rw [hc] at bg hts
   have HC := Lib.hid hc
   have HT := Lib.hid hts
   clear hc hts
   have hok : okC c = (decide (32 ≤ c.toNat) && decide (c.toNat ≤ 126)) := rfl
   have HO := Lib.hid hok
   clear hok
   by_cases h1 : (c.toNat : Int) < 32
   ·have VB : Hid (plainB s = false) := Lib.hid (by
     (show _ = _); rw [V.out, all_of_bad hlt (p := okC) (by rw [HC.out, HO.out]; simp; omega)]; rfl)
    go_wp2_with fail
    go_ret
    exact ⟨ret_bool VB.out.symm, rfl⟩
   by_cases h2 : 126 < (c.toNat : Int)
   ·have VB : Hid (plainB s = false) := Lib.hid (by
     (show _ = _); rw [V.out, all_of_bad hlt (p := okC) (by rw [HC.out, HO.out]; simp; omega)]; rfl)
    go_wp2_with fail
    go_ret
    exact ⟨ret_bool VB.out.symm, rfl⟩
   have HA2 : Hid ((s.take (k + 1)).all okC = true) := Lib.hid (by
    (show _ = _); rw [HT.out, HA.out, HO.out]; simp; omega)
   go_wp2_with fail
   go_roundg (s.length - (k + 1))
   case measure => omega
   case rel => exact ⟨k + 1, by omega, by omega, by go_num, HA2, rfl⟩
  ·obtain rfl : k = s.length := by omega
   have HA2 : Hid (s.all okC = true) := Lib.hid (by (show _ = _); have := HA.out; rwa [List.take_length] at this)
   cases hp : (s.head? == some 32) with
   | true =>
    rw [hp] at H1
    have VB : Hid (plainB s = false) := Lib.hid (by
     (show _ = _); rw [V.out, bne, hp]; simp)
    clear hp
    go_wp2_with fail
    refine (H1.out _).mono ?_; rintro e w1 ⟨rfl, rfl⟩
    go_wp2_with fail
    go_ret
    exact ⟨ret_bool VB.out.symm, rfl⟩
   | false =>
    rw [hp] at H1
    cases hq : (s.getLast? == some 32) with
    | true =>
     rw [hq] at H2
     have VB : Hid (plainB s = false) := Lib.hid (by
      (show _ = _); rw [V.out, bne, bne, hq]; simp)
     clear hp hq
     go_wp2_with fail
     refine (H1.out _).mono ?_; rintro e w1 ⟨rfl, rfl⟩
     go_wp2_with fail
     refine (H2.out _).mono ?_; rintro e w1 ⟨rfl, rfl⟩
     go_wp2_with fail
     go_ret
     exact ⟨ret_bool VB.out.symm, rfl⟩
    | false =>
     rw [hq] at H2
     have VB : Hid (plainB s = true) := Lib.hid (by
      (show _ = _); rw [V.out, bne, bne, hp, hq, HA2.out]; rfl)
     clear hp hq
     go_wp2_with fail
     refine (H1.out _).mono ?_; rintro e w1 ⟨rfl, rfl⟩
     go_wp2_with fail
     refine (H2.out _).mono ?_; rintro e w1 ⟨rfl, rfl⟩
     go_wp2_with fail
     go_ret
     exact ⟨ret_bool VB.out.symm, rfl⟩
set_option maxHeartbeats 1000000 in
theorem isTitle_any (s : List UInt8) (w : World) (hl : s.length ≤ 1000000000) :
  Calls Tryz.prog 55 #[enS s] w fun e w' => e = .returned (.bool (titleB s)) ∧ w = w' := by
 have H := Lib.hid (isPlain_any s w hl)
 have V := Lib.hid (show titleB s = (plainB s && decide (1 ≤ s.length) && decide (s.length ≤ 100)) from rfl)
 have hsz := sz_eq s
 cases hp : plainB s with
 | false =>
  rw [hp] at H V
  have VB : Hid (titleB s = false) := Lib.hid (by (show _ = _); rw [V.out]; rfl)
  clear hp V
  go_enter Tryz.func55, Tryz.ntmps55
  go_wp2_with fail
  refine H.out.mono ?_; rintro e w1 ⟨rfl, rfl⟩
  go_wp2_with fail
  go_ret
  exact ⟨ret_bool VB.out.symm, rfl⟩
 | true =>
  rw [hp] at H V
  clear hp
  by_cases h1 : 1 ≤ s.length
  case neg =>
   have VB : Hid (titleB s = false) := Lib.hid (by (show _ = _); rw [V.out, decide_eq_false h1]; rfl)
   have hz : s.length = 0 := by omega
   have hz2 : decide ((s.length : Int) ≥ 1) = false := by simp; omega
   have hz3 : decide ((1 : Int) ≤ (s.length : Int)) = false := by simp; omega
   clear V h1 hz
   go_enter Tryz.func55, Tryz.ntmps55
   go_wp2_with fail
   refine H.out.mono ?_; rintro e w1 ⟨rfl, rfl⟩
   go_wp2_with fail
   go_ret
   exact ⟨ret_bool VB.out.symm, rfl⟩
  have hz3 : decide ((1 : Int) ≤ (s.length : Int)) = true := by simp; omega
  have VB : Hid (titleB s = decide ((s.length : Int) ≤ 100)) := Lib.hid (by
   (show _ = _); rw [V.out, Bool.eq_iff_iff]; simp; omega)
  clear V
  go_enter Tryz.func55, Tryz.ntmps55
  go_wp2_with fail
  refine H.out.mono ?_; rintro e w1 ⟨rfl, rfl⟩
  go_wp2_with fail
  go_ret
  exact ⟨ret_bool VB.out.symm, rfl⟩
set_option maxHeartbeats 1000000 in
theorem isFrom_any (s : List UInt8) (w : World) (hl : s.length ≤ 1000000000) :
  Calls Tryz.prog 94 #[enS s] w fun e w' => e = .returned (.bool (fromB s)) ∧ w = w' := by
 have H := Lib.hid (isPlain_any s w hl)
 have V := Lib.hid (show fromB s = (plainB s && decide (1 ≤ s.length) && decide (s.length ≤ 200)) from rfl)
 have hsz := sz_eq s
 cases hp : plainB s with
 | false =>
  rw [hp] at H V
  have VB : Hid (fromB s = false) := Lib.hid (by (show _ = _); rw [V.out]; rfl)
  clear hp V
  go_enter Tryz.func94, Tryz.ntmps94
  go_wp2_with fail
  refine H.out.mono ?_; rintro e w1 ⟨rfl, rfl⟩
  go_wp2_with fail
  go_ret
  exact ⟨ret_bool VB.out.symm, rfl⟩
 | true =>
  rw [hp] at H V
  clear hp
  by_cases h1 : 1 ≤ s.length
  case neg =>
   have VB : Hid (fromB s = false) := Lib.hid (by (show _ = _); rw [V.out, decide_eq_false h1]; rfl)
   have hz : s.length = 0 := by omega
   have hz2 : decide ((s.length : Int) ≥ 1) = false := by simp; omega
   have hz3 : decide ((1 : Int) ≤ (s.length : Int)) = false := by simp; omega
   clear V h1 hz
   go_enter Tryz.func94, Tryz.ntmps94
   go_wp2_with fail
   refine H.out.mono ?_; rintro e w1 ⟨rfl, rfl⟩
   go_wp2_with fail
   go_ret
   exact ⟨ret_bool VB.out.symm, rfl⟩
  have hz3 : decide ((1 : Int) ≤ (s.length : Int)) = true := by simp; omega
  have VB : Hid (fromB s = decide ((s.length : Int) ≤ 200)) := Lib.hid (by
   (show _ = _); rw [V.out, Bool.eq_iff_iff]; simp; omega)
  clear V
  go_enter Tryz.func94, Tryz.ntmps94
  go_wp2_with fail
  refine H.out.mono ?_; rintro e w1 ⟨rfl, rfl⟩
  go_wp2_with fail
  go_ret
  exact ⟨ret_bool VB.out.symm, rfl⟩
set_option maxHeartbeats 1000000 in
theorem isSubject_any (s : List UInt8) (w : World) (hl : s.length ≤ 1000000000) :
  Calls Tryz.prog 95 #[enS s] w fun e w' => e = .returned (.bool (subjB s)) ∧ w = w' := by
 have H := Lib.hid (isPlain_any s w hl)
 have V := Lib.hid (show subjB s = (plainB s && decide (s.length ≤ 200)) from rfl)
 have hsz := sz_eq s
 cases hp : plainB s with
 | false =>
  rw [hp] at H V
  have VB : Hid (subjB s = false) := Lib.hid (by (show _ = _); rw [V.out]; rfl)
  clear hp V
  go_enter Tryz.func95, Tryz.ntmps95
  go_wp2_with fail
  refine H.out.mono ?_; rintro e w1 ⟨rfl, rfl⟩
  go_wp2_with fail
  go_ret
  exact ⟨ret_bool VB.out.symm, rfl⟩
 | true =>
  rw [hp] at H V
  clear hp
  have VB : Hid (subjB s = decide ((s.length : Int) ≤ 200)) := Lib.hid (by
   (show _ = _); rw [V.out, Bool.eq_iff_iff]; simp; omega)
  clear V
  go_enter Tryz.func95, Tryz.ntmps95
  go_wp2_with fail
  refine H.out.mono ?_; rintro e w1 ⟨rfl, rfl⟩
  go_wp2_with fail
  go_ret
  exact ⟨ret_bool VB.out.symm, rfl⟩
set_option maxHeartbeats 1000000 in
theorem isOrdinal_any (n : Int) (w : World) :
  Calls Tryz.prog 56 #[i64 n] w fun e w' => e = .returned (.bool (ordB n)) ∧ w = w' := by
 by_cases h1 : 1 ≤ n
 ·have VB : Hid (ordB n = decide (n ≤ 1000000)) := Lib.hid (by (show _ = _); unfold ordB; rw [decide_eq_true h1]; rfl)
  have hz : decide (1 ≤ n) = true := by simpa using h1
  go_enter Tryz.func56, Tryz.ntmps56
  go_wp2_with fail
  go_ret
  exact ⟨ret_bool VB.out.symm, rfl⟩
 ·have VB : Hid (ordB n = false) := Lib.hid (by (show _ = _); unfold ordB; rw [decide_eq_false h1]; rfl)
  have hz : decide (1 ≤ n) = false := by simpa using h1
  go_enter Tryz.func56, Tryz.ntmps56
  go_wp2_with fail
  go_ret
  exact ⟨ret_bool VB.out.symm, rfl⟩
set_option maxHeartbeats 1000000 in
theorem isMinute_any (n : Int) (w : World) :
  Calls Tryz.prog 57 #[i64 n] w fun e w' => e = .returned (.bool (minB n)) ∧ w = w' := by
 by_cases h1 : 0 ≤ n
 ·have VB : Hid (minB n = decide (n ≤ 105190559)) := Lib.hid (by (show _ = _); unfold minB; rw [decide_eq_true h1]; rfl)
  have hz : decide (0 ≤ n) = true := by simpa using h1
  go_enter Tryz.func57, Tryz.ntmps57
  go_wp2_with fail
  go_ret
  exact ⟨ret_bool VB.out.symm, rfl⟩
 ·have VB : Hid (minB n = false) := Lib.hid (by (show _ = _); unfold minB; rw [decide_eq_false h1]; rfl)
  have hz : decide (0 ≤ n) = false := by simpa using h1
  go_enter Tryz.func57, Tryz.ntmps57
  go_wp2_with fail
  go_ret
  exact ⟨ret_bool VB.out.symm, rfl⟩
/-- What unprotect answers. -/
def unV (s : List UInt8) : Value := match unprot s with
 | some p => .tuple #[enS p, .bool true]
 | none => .tuple #[enS [], .bool false]
set_option maxHeartbeats 1000000 in
theorem unprotect_any (s : List UInt8) (w : World) (hl : s.length ≤ 1000000000) :
  Calls Tryz.prog 75 #[enS s] w fun e w' => e = .returned (unV s) ∧ w = w' := by
 have H1 := Lib.hid (fun u => hasPre s [45] u)
 have H2 := Lib.hid (fun u => hasPre s [45, 32, 45] u)
 rw [pre1] at H1
 have hsz := sz_eq s
 cases hp : (s.head? == some 45) with
 | false =>
  rw [hp] at H1
  have VB : Hid (unV s = .tuple #[enS s, .bool true]) := Lib.hid (by
   (show _ = _); unfold unV unprot; rw [if_neg (by simpa using hp)])
  clear hp
  go_enter Tryz.func75, Tryz.ntmps75
  go_wp2_with fail
  refine (H1.out _).mono ?_; rintro e w1 ⟨rfl, rfl⟩
  go_wp2_with fail
  go_ret2
  rw [VB.out]
  exact ⟨rfl, rfl⟩
 | true =>
  rw [hp] at H1
  have hp' : s.head? = some 45 := by simpa using hp
  cases hq : [45, 32, 45].isPrefixOf s with
  | false =>
   rw [hq] at H2
   have VB : Hid (unV s = .tuple #[enS [], .bool false]) := Lib.hid (by
    (show _ = _); unfold unV unprot; rw [if_pos hp', hq, if_neg (by simp)])
   clear hp hq hp'
   go_enter Tryz.func75, Tryz.ntmps75
   go_wp2_with fail
   refine (H1.out _).mono ?_; rintro e w1 ⟨rfl, rfl⟩
   go_wp2_with fail
   refine (H2.out _).mono ?_; rintro e w1 ⟨rfl, rfl⟩
   go_wp2_with fail
   go_ret2
   rw [VB.out]
   exact ⟨rfl, rfl⟩
  | true =>
   rw [hq] at H2
   have VB : Hid (unV s = .tuple #[enS (s.drop 2), .bool true]) := Lib.hid (by
    (show _ = _); unfold unV unprot; rw [if_pos hp', hq, if_pos rfl])
   have h2 : 2 ≤ s.length := by
    have := congrArg List.length (prefix_eq hq)
    rw [List.length_append] at this
    have e : ([45, 32, 45] : List UInt8).length = 3 := rfl
    omega
   have hed := ext_drop s 2
   clear hp hq hp'
   go_enter Tryz.func75, Tryz.ntmps75
   go_wp2_with fail
   refine (H1.out _).mono ?_; rintro e w1 ⟨rfl, rfl⟩
   go_wp2_with fail
   refine (H2.out _).mono ?_; rintro e w1 ⟨rfl, rfl⟩
   go_wp2_with fail
   go_ret2
   rw [VB.out]
   exact ⟨rfl, rfl⟩
open Go.RowKit Go.Shelf Go.Dg Go.Maps
set_option maxRecDepth 100000
abbrev enB (b : UInt8) : Value := .int .u8 b.toNat
def kB (k : List UInt8) (i : Nat) : Value := enB (k.getD i 0)
/-- An identity's cells. -/
def idL (k : List UInt8) : List Value := [kB k 0, kB k 1, kB k 2, kB k 3, kB k 4, kB k 5, kB k 6, kB k 7, kB k 8, kB k 9, kB k 10, kB k 11, kB k 12, kB k 13, kB k 14, kB k 15, kB k 16, kB k 17, kB k 18, kB k 19, kB k 20, kB k 21, kB k 22, kB k 23, kB k 24, kB k 25, kB k 26, kB k 27, kB k 28, kB k 29, kB k 30, kB k 31]
abbrev idA (k : List UInt8) : Value := .agg (idL k).toArray
/-- An item's cells. -/
def itL (x : It) : List Value := [enS x.fr, i64 x.dt, enS x.su, kB x.ky 0, kB x.ky 1, kB x.ky 2, kB x.ky 3, kB x.ky 4, kB x.ky 5, kB x.ky 6, kB x.ky 7, kB x.ky 8, kB x.ky 9, kB x.ky 10, kB x.ky 11, kB x.ky 12, kB x.ky 13, kB x.ky 14, kB x.ky 15, kB x.ky 16, kB x.ky 17, kB x.ky 18, kB x.ky 19, kB x.ky 20, kB x.ky 21, kB x.ky 22, kB x.ky 23, kB x.ky 24, kB x.ky 25, kB x.ky 26, kB x.ky 27, kB x.ky 28, kB x.ky 29, kB x.ky 30, kB x.ky 31, enS x.bo]
abbrev itA (x : It) : Value := .agg (itL x).toArray
theorem idL_length (k : List UInt8) : (idL k).length = 32 := rfl
theorem itL_length (x : It) : (itL x).length = 36 := rfl
theorem one_idL (k : List UInt8) : ∀ u ∈ idL k, u.oneCell' = true := fun u hu => by
 simp only [idL, List.mem_cons, List.not_mem_nil, or_false] at hu
 repeat (first | (rcases hu with rfl | hu; · rfl) | (subst hu; rfl))
theorem one_itL (x : It) : ∀ u ∈ itL x, u.oneCell' = true := fun u hu => by
 simp only [itL, List.mem_cons, List.not_mem_nil, or_false] at hu
 repeat (first | (rcases hu with rfl | hu; · rfl) | (subst hu; rfl))
theorem idL_map {k : List UInt8} (h : k.length = 32) : idL k = k.map enB := by
 apply List.ext_getElem?
 intro i
 by_cases hi : i < 32
 ·have e : (idL k)[i]? = some (kB k i) := by
   have : i = 0 ∨ i = 1 ∨ i = 2 ∨ i = 3 ∨ i = 4 ∨ i = 5 ∨ i = 6 ∨ i = 7 ∨ i = 8 ∨ i = 9 ∨ i = 10 ∨ i = 11 ∨ i = 12 ∨ i = 13 ∨ i = 14 ∨ i = 15 ∨ i = 16 ∨ i = 17 ∨ i = 18 ∨ i = 19 ∨ i = 20 ∨ i = 21 ∨ i = 22 ∨ i = 23 ∨ i = 24 ∨ i = 25 ∨ i = 26 ∨ i = 27 ∨ i = 28 ∨ i = 29 ∨ i = 30 ∨ i = 31 := by omega
   rcases this with rfl | rfl | rfl | rfl | rfl | rfl | rfl | rfl | rfl | rfl | rfl | rfl | rfl | rfl | rfl | rfl | rfl | rfl | rfl | rfl | rfl | rfl | rfl | rfl | rfl | rfl | rfl | rfl | rfl | rfl | rfl | rfl <;> rfl
  rw [e]
  unfold kB
  simp [show i < k.length by omega]
 ·rw [List.getElem?_eq_none (by rw [idL_length]; omega), List.getElem?_eq_none (by simp; omega)]
theorem enB_inj {a b : UInt8} (h : enB a = enB b) : a = b := by
 unfold enB at h
 injection h with _ h2
 exact UInt8.toNat_inj.1 (by omega)
theorem idL_inj {j k : List UInt8} (hj : j.length = 32) (hk : k.length = 32) (h : idL j = idL k) : j = k := by
 rw [idL_map hj, idL_map hk] at h
 exact List.map_inj_right (fun a b => enB_inj) |>.1 h
/-! ### identities as keys -/
theorem mapM_some {α β : Type} {f : α → Option β} {g : α → β} : ∀ (l : List α), (∀ i ∈ l, f i = some (g i)) → l.mapM f = some (l.map g)
 | [], _ => rfl
 | a :: l, h => by
  rw [List.mapM_cons, h a (by simp), mapM_some l fun i hi => h i (by simp [hi])]; rfl
theorem id_laidOut : laidOutB Tryz.prog = true := by kernel_rfl
theorem id_row : (57 : TypeId) < Tryz.prog.types.size := of_decide_eq_true (by kernel_rfl)
theorem id_wide : (match Tryz.prog.underlying 57 with | some (.array _ _) | some (.struct _) => true | _ => false) = true := by rw [Tryz.underlying57]
theorem id_law : WideMaps.KeyLaw Tryz.prog 57 := deep_law_laid id_laidOut (m := 2) (by omega) id_row (by kernel_rfl) id_wide
theorem id_keyed : Keyed Tryz.prog 57 := Keyed.of_law id_law
theorem id_cells : Tryz.prog.cellsOf 57 = 32 := by kernel_rfl
theorem byte_cells : Tryz.prog.cellsOf 5 = 1 := by kernel_rfl
theorem id_keyType : Tryz.prog.keyType 57 = true := by kernel_rfl
theorem byte_wf (b : UInt8) : (Lit.int .u8 b.toNat).wf = true := by
 have e1 : IntKind.u8.min = 0 := by decide
 have e2 : IntKind.u8.max = 255 := by decide
 have := b.toNat_lt
 simp [Lit.wf, e1, e2]; omega
theorem keyOf_id (i : List UInt8) (h : i.length = 32) : ∃ k, keyOf Tryz.prog 57 (idA i) = some k := by
 obtain ⟨m, hm⟩ : ∃ m, Tryz.prog.types.size = m + 1 := Nat.exists_eq_succ_of_ne_zero (Nat.ne_of_gt (Nat.lt_of_le_of_lt (Nat.zero_le _) id_row))
 unfold idA
 rw [idL_map h]
 unfold keyOf
 simp only [Tryz.underlying57]
 rw [if_pos (by simp [id_keyType, Value.formed, Tryz.underlying57, id_cells, h]), hm]
 unfold Program.keyLits
 simp only [Tryz.underlying57, Value.cells]
 rw [if_pos (by rw [id_cells]; simp [h])]
 rw [mapM_some (g := fun j => [Lit.int .u8 (i.getD j 0).toNat])]
 ·exact ⟨_, rfl⟩
 ·intro j hj
  have hj' : j < i.length := by rw [h]; exact List.mem_range.1 hj
  have e : ((((i.map enB).toArray.toList.drop (j * Tryz.prog.cellsOf 5)).take (Tryz.prog.cellsOf 5))) = [enB (i.getD j 0)] := by
   rw [byte_cells, Nat.mul_one, List.drop_eq_getElem_cons (by simpa using hj')]
   simp [List.getD, List.getElem?_eq_getElem hj']
  rw [e]
  unfold Program.keyLits
  simp [Tryz.underlying5, enB, byte_wf]
noncomputable def idKey (i : List UInt8) : Lit := (keyOf Tryz.prog 57 (idA i)).getD (.bool false)
theorem keyOf_idKey {i : List UInt8} (h : i.length = 32) : keyOf Tryz.prog 57 (idA i) = some (idKey i) := by
 obtain ⟨k, e⟩ := keyOf_id i h
 unfold idKey; rw [e]; rfl
theorem idKey_inj {i j : List UInt8} (hi : i.length = 32) (hj : j.length = 32) (h : idKey i = idKey j) : i = j := by
 have e1 := keyOf_idKey hi
 have e2 := keyOf_idKey hj
 rw [h] at e1
 have e := id_keyed.inj e1 e2
 unfold idA at e
 injection e with e
 exact idL_inj hi hj (by simpa using congrArg Array.toList e)
theorem idKey_lit {i : List UInt8} (h : i.length = 32) : WideAt.IsKeyLit (idKey i) := id_keyed.key (keyOf_idKey h)
/-- A set of identities in memory. -/
def SetI (w : World) (b : Nat) (ks : List (List UInt8)) : Prop := (∀ k ∈ ks, k.length = 32) ∧ MapB Tryz.prog 57 4 w b (ks.map idKey)
theorem SetI.on {w : World} {b : Nat} {ks : List (List UInt8)} (h : SetI w b ks) {i : List UInt8} (hi : i.length = 32) : onL (ks.map idKey) (idKey i) = decide (i ∈ ks) := by
 rw [Bool.eq_iff_iff, onL_iff h.2.1, decide_eq_true_eq, List.mem_map]
 constructor
 ·rintro ⟨k, hk, e⟩; rw [← idKey_inj (h.1 k hk) hi e]; exact hk
 ·intro hk; exact ⟨i, hk, rfl⟩
theorem SetI.below {w w' : World} {b : Nat} {ks : List (List UInt8)} (h : SetI w b ks) (hb : Below w.heap.size w w') : SetI w' b ks := ⟨h.1, h.2.below hb⟩
theorem SetI.keep {w w' : World} {b : Nat} {ks : List (List UInt8)} (h : SetI w b ks) (e : w'.heap[b]? = w.heap[b]?) : SetI w' b ks := ⟨h.1, h.2.keep e⟩
theorem zeroBool (w : World) : (zeroValue 4).run Tryz.prog w = .ok (.bool false) w := by kernel_rfl
/-! ### arrays of bytes as values, compared -/
theorem all_range_bytes : ∀ (xs ys : List UInt8), xs.length = ys.length → ((List.range xs.length).all fun i => xs.getD i 0 == ys.getD i 0) = (xs == ys)
 | [], [], _ => rfl
 | x :: xs, y :: ys, h => by
  have ih := all_range_bytes xs ys (by simpa using h)
  rw [List.length_cons, List.range_succ_eq_map, List.all_cons, List.all_map]
  simp only [List.getD_cons_zero, Function.comp_def, List.getD_cons_succ, ih]
  simp [List.cons_beq_cons]
 | [], _ :: _, h => by simp at h
 | _ :: _, [], h => by simp at h
section
variable {P : Program}
theorem u8_eq (a b : UInt8) : ((a.toNat : Int) == (b.toNat : Int)) = (a == b) := by
 rw [Bool.eq_iff_iff, beq_iff_eq, beq_iff_eq]
 exact ⟨fun h => UInt8.toNat_inj.1 (by omega), fun h => by rw [h]⟩
theorem run_equalIn_bytes (w : World) (d : Nat) (t e : TypeId) (n : Nat) (ht : P.underlying t = some (.array n e)) (he : P.underlying e = some (.int .u8)) (hsz : ∀ w, (Go.sizeOf e).run P w = .ok 1 w)
  (xs ys : List UInt8) (hx : xs.length = n) (hy : ys.length = n) :
  (Op.equalIn (d + 2) t (.agg (xs.map enB).toArray) (.agg (ys.map enB).toArray)).run P w = .ok (xs == ys) w := by
 rw [← all_range_bytes xs ys (hx.trans hy.symm), hx, List.range_eq_range', Op.equalIn]
 simp only [Sem.run_bind, run_underlying ht, Result.andThen_ok, hsz, Std.Legacy.Range.forIn_eq_forIn_range', Std.Legacy.Range.size, Nat.sub_zero, Nat.add_sub_cancel, Nat.div_one]
 have hl : ∀ i ∈ List.range' 0 n 1, i < n := fun i hi => by simpa using (List.mem_range'_1.1 hi).2
 generalize List.range' 0 n 1 = l at hl ⊢
 induction l with
 | nil => simp
 | cons i l ih =>
  have hi : i < n := hl i (by simp)
  have px : (part e (xs.map enB).toArray (i * 1)).run P w = .ok (enB (xs.getD i 0)) w := by
   simp [part, isAgg, run_underlying he, List.getD, List.getElem?_eq_getElem (show i < xs.length by omega)]
  have py : (part e (ys.map enB).toArray (i * 1)).run P w = .ok (enB (ys.getD i 0)) w := by
   simp [part, isAgg, run_underlying he, List.getD, List.getElem?_eq_getElem (show i < ys.length by omega)]
  have pe : (Op.equalIn (d + 1) e (enB (xs.getD i 0)) (enB (ys.getD i 0))).run P w = .ok (xs.getD i 0 == ys.getD i 0) w := by
   rw [run_equalIn_int w d e .u8 .u8 _ _ he, u8_eq]
  simp only [List.forIn_cons, Sem.run_bind, px, py, pe, Result.andThen_ok, List.all_cons]
  cases hb : (xs.getD i 0 == ys.getD i 0)
  ·simp
  ·simp only [Bool.not_true, Bool.false_eq_true, if_false, Sem.run_pure, Result.andThen_ok, Bool.true_and]
   exact ih fun j hj => hl j (by simp [hj])
end
theorem byteSize (w : World) : (Go.sizeOf 5).run Tryz.prog w = .ok 1 w := by kernel_rfl
theorem eqIn_id (w : World) {j k : List UInt8} (hj : j.length = 32) (hk : k.length = 32) : Sem.run Tryz.prog (Op.equalIn 10000 57 (.agg (idL j).toArray) (.agg (idL k).toArray)) w = .ok (j == k) w := by
 rw [idL_map hj, idL_map hk]
 exact run_equalIn_bytes w 9998 57 5 32 Tryz.underlying57 Tryz.underlying5 byteSize j k hj hk
theorem zId_len : zId.length = 32 := rfl
theorem idL_zero : (idL zId).toArray = #[.int .u8 0, .int .u8 0, .int .u8 0, .int .u8 0, .int .u8 0, .int .u8 0, .int .u8 0, .int .u8 0, .int .u8 0, .int .u8 0, .int .u8 0, .int .u8 0, .int .u8 0, .int .u8 0, .int .u8 0, .int .u8 0, .int .u8 0, .int .u8 0, .int .u8 0, .int .u8 0, .int .u8 0, .int .u8 0, .int .u8 0, .int .u8 0, .int .u8 0, .int .u8 0, .int .u8 0, .int .u8 0, .int .u8 0, .int .u8 0, .int .u8 0, .int .u8 0] := by kernel_rfl
theorem eqIn_zero (w : World) {k : List UInt8} (hk : k.length = 32) : Sem.run Tryz.prog (Op.equalIn 10000 57 (.agg (idL k).toArray) (.agg #[.int .u8 0, .int .u8 0, .int .u8 0, .int .u8 0, .int .u8 0, .int .u8 0, .int .u8 0, .int .u8 0, .int .u8 0, .int .u8 0, .int .u8 0, .int .u8 0, .int .u8 0, .int .u8 0, .int .u8 0, .int .u8 0, .int .u8 0, .int .u8 0, .int .u8 0, .int .u8 0, .int .u8 0, .int .u8 0, .int .u8 0, .int .u8 0, .int .u8 0, .int .u8 0, .int .u8 0, .int .u8 0, .int .u8 0, .int .u8 0, .int .u8 0, .int .u8 0])) w = .ok (k == zId) w := by
 rw [← idL_zero]
 exact eqIn_id w hk zId_len
/-! ### items in memory -/
theorem it_size : (Tryz.prog.info? 59).map (·.size) = some 36 := by kernel_rfl
theorem id_size : (Tryz.prog.info? 57).map (·.size) = some 32 := by kernel_rfl
/-- A slice of items reads as xs. -/
structure RdI (w : World) (A : Option Addr) (xs : List It) : Prop where
 rd : 0 < xs.length → ∃ b o, A = some ⟨b, o, none⟩ ∧ b < w.heap.size ∧ ∀ j x, xs[j]? = some x → w.rangeAt b (o + j * 36) (itL x)
 ky : ∀ x ∈ xs, x.ky.length = 32
theorem RdI.below {w w' : World} {A : Option Addr} {xs : List It} (h : RdI w A xs) (hb : Below w.heap.size w w') : RdI w' A xs :=
 ⟨fun hp => by
  obtain ⟨b, o, e, hlt, hc⟩ := h.rd hp
  exact ⟨b, o, e, Nat.lt_of_lt_of_le hlt hb.size, fun j x hj => range_below (hc j x hj) hb⟩, h.ky⟩
theorem RdI.at_ {w : World} {A : Option Addr} {xs : List It} {k : Nat} (h : RdI w A xs) (hk : k < xs.length) : ∃ b o x, A = some ⟨b, o, none⟩ ∧ b < w.heap.size ∧ xs[k]? = some x ∧ w.rangeAt b (o + k * 36) (itL x) ∧ x.ky.length = 32 := by
 obtain ⟨b, o, e, hlt, hc⟩ := h.rd (by omega)
 exact ⟨b, o, xs[k], e, hlt, List.getElem?_eq_getElem hk, hc k _ (List.getElem?_eq_getElem hk), h.ky _ (List.getElem_mem hk)⟩
theorem RdI.nil {w : World} {A : Option Addr} : RdI w A [] := ⟨fun h => absurd h (by simp), by simp⟩
/-- A block that holds an item. -/
theorem it_ky {w : World} {b : Nat} {x : It} {t : TypeId} (h : w.heap[b]? = some (.cells (itL x).toArray t (0, 0))) : w.rangeAt b 3 (idL x.ky) := fun j v hj => by
 rw [blk_cell h (3 + j)]
 have hl : j < 32 := by
  have := (List.getElem?_eq_some_iff.1 hj).1
  rwa [idL_length] at this
 have e : (itL x)[3 + j]? = (idL x.ky)[j]? := by
  have : j = 0 ∨ j = 1 ∨ j = 2 ∨ j = 3 ∨ j = 4 ∨ j = 5 ∨ j = 6 ∨ j = 7 ∨ j = 8 ∨ j = 9 ∨ j = 10 ∨ j = 11 ∨ j = 12 ∨ j = 13 ∨ j = 14 ∨ j = 15 ∨ j = 16 ∨ j = 17 ∨ j = 18 ∨ j = 19 ∨ j = 20 ∨ j = 21 ∨ j = 22 ∨ j = 23 ∨ j = 24 ∨ j = 25 ∨ j = 26 ∨ j = 27 ∨ j = 28 ∨ j = 29 ∨ j = 30 ∨ j = 31 := by omega
  rcases this with rfl | rfl | rfl | rfl | rfl | rfl | rfl | rfl | rfl | rfl | rfl | rfl | rfl | rfl | rfl | rfl | rfl | rfl | rfl | rfl | rfl | rfl | rfl | rfl | rfl | rfl | rfl | rfl | rfl | rfl | rfl | rfl <;> rfl
 rw [List.getElem?_toArray, e]
 exact hj
/-- The single cells of such a block. -/
theorem it_cells {w : World} {b : Nat} {x : It} {t : TypeId} (h : w.heap[b]? = some (.cells (itL x).toArray t (0, 0))) :
  w.cell? ⟨b, 0, none⟩ = some (enS x.fr) ∧ w.cell? ⟨b, 1, none⟩ = some (i64 x.dt) ∧ w.cell? ⟨b, 2, none⟩ = some (enS x.su) ∧ w.cell? ⟨b, 35, none⟩ = some (enS x.bo) :=
 ⟨blk_cell h 0, blk_cell h 1, blk_cell h 2, blk_cell h 35⟩
open Go.RowKit Go.Shelf Go.Dg Go.Maps
set_option maxRecDepth 100000 in
set_option maxHeartbeats 4000000 in
theorem itCheck_any (x : It) (w : World) (hk : x.ky.length = 32) (h1 : x.fr.length ≤ 1000000000) (h2 : x.su.length ≤ 1000000000) :
  Calls Tryz.prog 58 #[itA x] w fun e w' => e = .returned (i64 (chkI x)) ∧ Below w.heap.size w w' := by
 have HF := Lib.hid (fun u => isFrom_any x.fr u h1)
 have HD := Lib.hid (fun u => isMinute_any x.dt u)
 have HS := Lib.hid (fun u => isSubject_any x.su u h2)
 have HB := Lib.hid (fun u => has13_any x.bo u)
 have V := Lib.hid (show chkI x = if fromB x.fr = false then 12 else if minB x.dt = false then 13 else if subjB x.su = false then 3 else if x.ky = zId then 1 else if has13 x.bo = true then 6 else 0 from rfl)
 have HE := Lib.hid (fun u => eqIn_zero u hk)
 clear h1 h2
 unfold itA
 have HBK := Lib.hid (blk_new w (.cells (itL x).toArray 59))
 have hb := below_new w (.cells (itL x).toArray 59)
 go_enter Tryz.func58, Tryz.ntmps58
 obtain ⟨c0, c1, c2, c35⟩ := it_cells HBK.out
 go_wp2_with fail
 refine (HF.out _).mono ?_; rintro e w1 ⟨rfl, rfl⟩
 cases q1 : fromB x.fr with
 | false =>
  have VB : Hid (chkI x = 12) := Lib.hid (by (show _ = _); rw [V.out, q1]; rfl)
  clear q1 V
  go_wp2_with fail
  go_ret
  rw [VB.out]
  exact ⟨rfl, hb⟩
 | true =>
 rw [q1] at V
 clear q1
 go_wp2_with fail
 refine (HD.out _).mono ?_; rintro e w1 ⟨rfl, rfl⟩
 cases q1 : minB x.dt with
 | false =>
  have VB : Hid (chkI x = 13) := Lib.hid (by (show _ = _); rw [V.out, q1]; rfl)
  clear q1 V
  go_wp2_with fail
  go_ret
  rw [VB.out]
  exact ⟨rfl, hb⟩
 | true =>
 rw [q1] at V
 clear q1
 go_wp2_with fail
 refine (HS.out _).mono ?_; rintro e w1 ⟨rfl, rfl⟩
 cases q1 : subjB x.su with
 | false =>
  have VB : Hid (chkI x = 3) := Lib.hid (by (show _ = _); rw [V.out, q1]; rfl)
  clear q1 V
  go_wp2_with fail
  go_ret
  rw [VB.out]
  exact ⟨rfl, hb⟩
 | true =>
 rw [q1] at V
 clear q1
 have HR := Lib.hid (it_ky HBK.out)
 have HE2 := HE.out (w.alloc (.cells (itL x).toArray 59))
 by_cases hz : x.ky = zId
 ·have VB : Hid (chkI x = 1) := Lib.hid (by (show _ = _); rw [V.out, if_pos hz]; rfl)
  have hz2 : (x.ky == zId) = true := by simpa using hz
  rw [hz2] at HE2
  clear V hz hz2
  go_wp2_with (refine wpList_load_mid rfl 57 _ rfl w.heap.size 3 rfl (idL x.ky) _ HR.out Tryz.underlying57 rfl (by rw [idL_length]; exact id_size) ?_)
  go_ret
  rw [VB.out]
  exact ⟨rfl, hb⟩
 have hz2 : (x.ky == zId) = false := by simpa using hz
 rw [hz2] at HE2
 have V2 := Lib.hid (show chkI x = if has13 x.bo = true then 6 else 0 by rw [V.out, if_neg hz]; rfl)
 clear V hz hz2
 go_wp2_with (refine wpList_load_mid rfl 57 _ rfl w.heap.size 3 rfl (idL x.ky) _ HR.out Tryz.underlying57 rfl (by rw [idL_length]; exact id_size) ?_)
 refine (HB.out _).mono ?_; rintro e w1 ⟨rfl, rfl⟩
 cases q1 : has13 x.bo with
 | false =>
  have VB : Hid (chkI x = 0) := Lib.hid (by (show _ = _); rw [V2.out, q1]; rfl)
  clear q1 V2
  go_wp2_with fail
  go_ret
  rw [VB.out]
  exact ⟨rfl, hb⟩
 | true =>
  have VB : Hid (chkI x = 6) := Lib.hid (by (show _ = _); rw [V2.out, q1]; rfl)
  clear q1 V2
  go_wp2_with fail
  go_ret
  rw [VB.out]
  exact ⟨rfl, hb⟩
open Go.RowKit Go.Shelf Go.Dg Go.Maps
/-- The table of powers of ten of strconv lies as the program's text lays it. -/
def Tab (w : World) : Prop := Lib.TabIs Tryz.prog w "internal/strconv.uint64pow10" .u64 Lib.pow10Tab
theorem tab_global : ∃ g, Tryz.prog.globalNamed "internal/strconv.uint64pow10" = some g := Option.isSome_iff_exists.1 (by kernel_rfl)
theorem Tab.lt {w : World} (h : Tab w) {g : Nat} (hg : Tryz.prog.globalNamed "internal/strconv.uint64pow10" = some g) : g < w.heap.size := by
 unfold Tab Lib.TabIs World.var? at h
 simp only [hg, Option.bind_some] at h
 rcases Nat.lt_or_ge g w.heap.size with h' | h'
 ·exact h'
 ·rw [Array.getElem?_eq_none h'] at h; cases h
theorem Tab.below {w w' : World} (h : Tab w) (hb : Below w.heap.size w w') : Tab w' := by
 obtain ⟨g, hg⟩ := tab_global
 exact var?_below hb hg (h.lt hg) h
theorem below_grow (w : World) (k : Nat) (os : Array Obj) : Below w.heap.size w (Sort.grow (w.drewN k) os) :=
 ⟨rfl, rfl, rfl, by simp [Sort.grow, World.drewN], fun i hi => by simp only [Sort.grow, World.drewN]; rw [Array.getElem?_append_left hi]⟩
theorem itoa_any (n : Int) (w : World) (h0 : 0 ≤ n) (h1 : n ≤ 1000000000000000) (ht : Tab w) : Calls Tryz.prog 99 #[i64 n] w fun e w' => e = .returned (enS (Lib.decDigits n.toNat)) ∧ Below w.heap.size w w' := by
 refine (Tryz.strconv_Itoa n (by omega) (by omega) w ht).mono fun e w' ⟨h2, k, os, h3⟩ => ⟨?_, by rw [h3]; exact below_grow w k os⟩
 rw [h2]; unfold Lib.itoa; rw [if_neg (by omega)]
/-- A digest as a value: its items lie in a slice. -/
abbrev dgA (d : Dg) (A : Option Addr) (c : Nat) : Value := .agg #[enS d.ti, i64 d.vo, i64 d.ie, i64 d.da, .slice A d.its.length c]
theorem head_parts (d : Dg) : headT d = d.ti ++ [32, 68, 105, 103, 101, 115, 116, 44, 32, 86, 111, 108, 117, 109, 101, 32] ++ Lib.decDigits d.vo.toNat ++ [44, 32, 73, 115, 115, 117, 101, 32] ++ Lib.decDigits d.ie.toNat := rfl
theorem dd_len (n : Int) (h1 : n ≤ 1000000000) : (Lib.decDigits n.toNat).length ≤ 10 := by
 rw [Lib.decDigits_length]
 by_cases hz : n.toNat = 0
 ·rw [hz, Lib.nDigits_small (by decide)]; decide
 ·have := nDigits_le n.toNat hz
  false_or_by_contra
  have h2 : 10 ^ 10 ≤ 10 ^ (Lib.nDigits n.toNat - 1) := Nat.pow_le_pow_right (by decide) (by omega)
  omega
set_option maxRecDepth 100000 in
set_option maxHeartbeats 4000000 in
theorem head_any (d : Dg) (A : Option Addr) (c : Nat) (w : World) (ht : Tab w) (hl : d.ti.length ≤ 1000000000) (hv : 0 ≤ d.vo ∧ d.vo ≤ 1000000000) (hi : 0 ≤ d.ie ∧ d.ie ≤ 1000000000) :
  Calls Tryz.prog 50 #[dgA d A c] w fun e w' => e = .returned (enS (headT d)) ∧ Below w.heap.size w w' := by
 have HT := Lib.hid ht
 have V := Lib.hid (head_parts d)
 have L1 := dd_len d.vo hv.2
 have L2 := dd_len d.ie hi.2
 have HV := Lib.hid hv
 have HI := Lib.hid hi
 clear ht hv hi
 obtain ⟨ti, vo, ie, da, its⟩ := d
 simp only at L1 L2 hl HV HI V
 go_enter Tryz.func50, Tryz.ntmps50
 go_wp2_with fail
 have t1 := Lib.hid (HT.out.below (below_new w (.cells #[enS ti, i64 vo, i64 ie, i64 da, .slice A its.length c] 32))); clear HT
 have B1 := Lib.hid (below_new w (.cells #[enS ti, i64 vo, i64 ie, i64 da, .slice A its.length c] 32))
 have d1 := Lib.hid (blk_new w (.cells #[enS ti, i64 vo, i64 ie, i64 da, .slice A its.length c] 32))
 refine Flow.wp_region_segs Flow.Later Flow.Later.refl Flow.Later.trans [([0, 1, 2, 3, 4, 8, 9], 5), ([6, 7], 10)] [11, 12] (by kernel_rfl) (by kernel_rfl) ?_
 have b' : Below (w.alloc (.cells #[enS ti, i64 vo, i64 ie, i64 da, .slice A its.length c] 32)).heap.size (w.alloc (.cells #[enS ti, i64 vo, i64 ie, i64 da, .slice A its.length c] 32)) (World.drew (w.alloc (.cells #[enS ti, i64 vo, i64 ie, i64 da, .slice A its.length c] 32))) := (Below.refl _ _).drew
 have t2 := Lib.hid (t1.out.below b'); clear t1
 have d2 := Lib.hid (blk_below b' d1.out); clear d1
 have B2 := Lib.hid (B1.out.tr b'); clear B1
 clear b'
 generalize World.drew _ = w2 at *
 have cd0 := blk_cell d2.out 0
 have qd0 : ∀ t : Flow.Cls (Flow.Later w2), t.val.cell? _ = some (enS ti) := fun t => Flow.cls_cell cd0 t
 have cd1 := blk_cell d2.out 1
 have qd1 : ∀ t : Flow.Cls (Flow.Later w2), t.val.cell? _ = some (i64 vo) := fun t => Flow.cls_cell cd1 t
 have cd2 := blk_cell d2.out 2
 have qd2 : ∀ t : Flow.Cls (Flow.Later w2), t.val.cell? _ = some (i64 ie) := fun t => Flow.cls_cell cd2 t
 have cd3 := blk_cell d2.out 3
 have qd3 : ∀ t : Flow.Cls (Flow.Later w2), t.val.cell? _ = some (i64 da) := fun t => Flow.cls_cell cd3 t
 have cd4 := blk_cell d2.out 4
 have qd4 : ∀ t : Flow.Cls (Flow.Later w2), t.val.cell? _ = some (.slice A its.length c) := fun t => Flow.cls_cell cd4 t
 haveI nonE := Flow.cls_nonempty w2
 rw [Flow.wpSegs_cons]
 simp only [Flow.pick, List.getElem?_toArray, List.getElem?_cons_succ, List.getElem?_cons_zero]
 repeat go_big_quiet_step (fail)
 refine wpQuiet_nil ?_
 clear nonE qd0 cd0 qd1 cd1 qd2 cd2 qd3 cd3 qd4 cd4
 rw [Flow.callAt_eq]
 simp only [List.getElem?_toArray, List.getElem?_cons_succ, List.getElem?_cons_zero]
 rw [if_pos (by rfl)]
 refine Flow.wp_behind (fun K0 hK => ?_)
 go_wp2_with fail
 refine (itoa_any vo _ HV.out.1 (by have := HV.out.2; omega) (t2.out.below (by first | exact Below.refl _ _ | exact below_new _ _))).mono ?_; rintro e w3 ⟨rfl, b⟩
 have b' : Below w2.heap.size w2 w3 := Below.tr (by first | exact Below.refl _ _ | exact below_new _ _) b
 clear b
 refine hK.out _ _ ⟨b', ?_⟩
 clear hK K0
 have t3 := Lib.hid (t2.out.below b'); clear t2
 have d3 := Lib.hid (blk_below b' d2.out); clear d2
 have B3 := Lib.hid (B2.out.tr b'); clear B2
 clear b'
 generalize Lib.decDigits vo.toNat = D1 at *
 haveI nonE := Flow.cls_nonempty w3
 rw [Flow.wpSegs_cons]
 simp only [Flow.pick, List.getElem?_toArray, List.getElem?_cons_succ, List.getElem?_cons_zero]
 repeat go_big_quiet_step (fail)
 refine wpQuiet_nil ?_
 clear nonE 
 rw [Flow.callAt_eq]
 simp only [List.getElem?_toArray, List.getElem?_cons_succ, List.getElem?_cons_zero]
 rw [if_pos (by rfl)]
 refine Flow.wp_behind (fun K0 hK => ?_)
 go_wp2_with fail
 refine (itoa_any ie _ HI.out.1 (by have := HI.out.2; omega) (t3.out.below (by first | exact Below.refl _ _ | exact below_new _ _))).mono ?_; rintro e w4 ⟨rfl, b⟩
 have b' : Below w3.heap.size w3 w4 := Below.tr (by first | exact Below.refl _ _ | exact below_new _ _) b
 clear b
 refine hK.out _ _ ⟨b', ?_⟩
 clear hK K0
 have t4 := Lib.hid (t3.out.below b'); clear t3
 have d4 := Lib.hid (blk_below b' d3.out); clear d3
 have B4 := Lib.hid (B3.out.tr b'); clear B3
 clear b'
 generalize Lib.decDigits ie.toNat = D2 at *
 haveI nonE := Flow.cls_nonempty w4
 rw [Flow.wpSegs_nil]
 simp only [Flow.pick, List.getElem?_toArray, List.getElem?_cons_succ, List.getElem?_cons_zero]
 repeat go_big_quiet_step (fail)
 refine wpQuiet_nil ?_
 clear nonE 
 go_wp2_with fail
 go_ret
 refine ⟨?_, (B4.out.tr (by first | exact Below.refl _ _ | exact below_new _ _))⟩
 rw [V.out]
 simp only [bcat]
 rfl
open Go.RowKit Go.Shelf Go.Dg Go.Maps
/-- append(v, s...) as an operation of a drawn region. -/
theorem wp_appC {t E : TypeId} {i : TypeInfo} {z : Value} {size bytes : Nat} (ht : Tryz.prog.underlying t = some (.slice E)) (hi : Tryz.prog.info? E = some i) (hz0 : i.zero = some z) (hz1 : i.size = size) (hz2 : i.bytes = bytes) (hzs : z.cells.size = size) (hsz : 0 < size)
  {o : Oper} {a : Act} {w : World} {K : Act → World → Prop} {Q : Exit → Act → World → Prop} (s x : Operand) (ho : o.op = .call { callee := .builtin .append, args := #[s, x], argTypes := #[t, t] })
  (base : Nat) (v : Value) (n : Nat) (xs : List Value) (hown : w.ownsRow base E size v n xs) (hs : a.eval s = v) (A : Option Addr) (m c : Nat) (ys : List Value) (hm : ys.length = m * size) (hr : RdC w A ys) (hx : a.eval x = .slice A m c) (h1 : ∀ u ∈ ys, u.oneCell' = true)
  (hlen : n + m ≤ 1000000000) (hby : bytes ≤ 1000) (hbase : base ≤ w.heap.size)
  (h : ∀ v' w', w'.ownsRow base E size v' (n + m) (xs ++ ys) → w.grownBy w' v.ownBlock → Below base w w' → K (a.put o.dst v') w') : o.wp Tryz.prog a w K Q := by
 obtain ⟨v', w', hrun, h2, h3⟩ := run_appC ht hi hz0 hz1 hz2 hzs hsz w o.type base v n xs hown A m c ys hm hr h1 hlen hby hbase
 unfold Oper.wp execOp
 simp only [ho, resolve, invoke, builtin, Sem.run_bind, Sem.run_pure, Result.andThen_ok, List.map_toArray, List.map_cons, List.map_nil, hs, hx, hrun]
 exact h v' w' h2 h3 ((Below.refl base w).grown h3 hbase fun k hk => (hown.lt k hk).1)
theorem RdC.new (w : World) (cs : List Value) (t : TypeId) : RdC (w.alloc (.cells cs.toArray t)) (some ⟨w.heap.size, 0, none⟩) cs := fun _ =>
 ⟨_, _, rfl, fun j u hj => by rw [Nat.zero_add, new_cell w _ t _ j rfl]; simpa using hj⟩
theorem enB_one (l : List UInt8) : ∀ u ∈ l.map enB, u.oneCell' = true := fun u hu => by
 obtain ⟨x, _, rfl⟩ := List.mem_map.1 hu; rfl
/-- Worlds in which what lay below N is as it was. -/
def BelowR (N : Nat) (A B : World) : Prop := Below N A B
theorem BelowR.refl (N : Nat) (w : World) : BelowR N w w := Below.refl _ _
theorem BelowR.trans (N : Nat) (u v w : World) (h : BelowR N u v) (k : BelowR N v w) : BelowR N u w := Below.trans h k
theorem belowR_nonempty (N : Nat) (w : World) : Nonempty (Flow.Cls (BelowR N w)) := ⟨⟨w, BelowR.refl N w⟩⟩
theorem own_below2 {w w' : World} {base n size : Nat} {e : TypeId} {v : Value} {xs : List Value} (h : w.ownsRow base e size v n xs) (hb : Below w.heap.size w w') : w'.ownsRow base e size v n xs :=
 ⟨h.1, h.2.imp id fun ⟨g, cap, cur, e1, h1, h2, h3⟩ => ⟨g, cap, cur, e1, h1, (hb.block g (blk_lt h2)).trans h2, h3⟩⟩
theorem conv_nil (w : World) : (convert 66 9 (.slice none 0 0)).run Tryz.prog w = .ok (enS []) w := by kernel_rfl
/-- A row of bytes of the call's own, as a text. -/
theorem of_own_bytes {w : World} {base n : Nat} {v : Value} {m : List UInt8} (h : w.ownsRow base 5 1 v n (m.map enB)) : (convert 66 9 v).run Tryz.prog w = .ok (enS m) w := by
 have hn : n = m.length := by have := h.1; simpa using this.symm
 subst hn
 rcases h.2 with ⟨e1, e2⟩ | ⟨g, cap, cur, e1, hb, hg, hcap, hml, hsz, ht⟩
 ·have : m = [] := List.eq_nil_of_length_eq_zero e2
  subst this
  rw [e1]
  exact conv_nil w
 ·rw [e1]
  refine run_convert_bytes_back (P := Tryz.prog) w 66 9 5 ⟨g, 0, none⟩ cap m Tryz.underlying66 Tryz.underlying5 Tryz.underlying9 fun j hj => ?_
  rw [addr_addN, Nat.zero_add, blk_cell hg j, ← Array.getElem?_toList]
  have h1 : (cur.toList.take (m.length * 1))[j]? = (m.map enB)[j]? := by rw [ht]
  rw [List.getElem?_take_of_lt (by omega)] at h1
  rw [h1]
  simp [hj]
theorem hexAt_fin : ∀ n : Fin 16, (⟨#[48, 49, 50, 51, 52, 53, 54, 55, 56, 57, 97, 98, 99, 100, 101, 102]⟩ : ByteArray)[n.val]'(by have := n.isLt; exact this) = hx n.val := by decide +kernel
theorem hexAt (n : Nat) (h : n < 16) : (⟨#[48, 49, 50, 51, 52, 53, 54, 55, 56, 57, 97, 98, 99, 100, 101, 102]⟩ : ByteArray)[n]'h = hx n := hexAt_fin ⟨n, h⟩
theorem hexT_succ {k : List UInt8} {i : Nat} (h : i < k.length) : (hexT (k.take (i + 1))).map enB = (hexT (k.take i)).map enB ++ [enB (hx ((k.getD i 0).toNat / 16)), enB (hx ((k.getD i 0).toNat % 16))] := by
 rw [List.take_succ_eq_append_getElem h]
 unfold hexT
 rw [List.flatMap_append]
 simp [h]
set_option maxRecDepth 100000 in
set_option maxHeartbeats 4000000 in
theorem hex_any (b o c : Nat) (k : List UInt8) (w : World) (hc : w.rangeAt b o (k.map enB)) (hb : b < w.heap.size) (hl : k.length ≤ 1000) :
  Calls Tryz.prog 196 #[.slice (some ⟨b, o, none⟩) k.length c] w fun e w' => e = .returned (enS (hexT k)) ∧ Below w.heap.size w w' := by
 obtain ⟨i0, hi, hz0, hz1, hz2⟩ := info_parts byteInfo
 go_enter Tryz.func196, Tryz.ntmps196
 go_wp2_with (refine wpList_make_own _ rfl _ _ 66 rfl w.heap.size 5 i0 (.int .u8 0) 1 Tryz.underlying66 hi hz0 hz1 .i64 .i64 _ (2 * k.length) rfl rfl (by omega) (by rw [hz2]; omega) (by unfold maxLen; omega) (Nat.le_refl _) ?_; intro w1 ho1 hg1)
 have b1 : Below w.heap.size w w1 := (Below.refl _ _).grown hg1 (Nat.le_refl _) (fun k e => by cases e)
 have O1 := Lib.hid ho1
 have B1 := Lib.hid b1
 have HC := Lib.hid hc
 clear ho1 hg1 b1 hc
 go_loopg [3, 12] k.length (fun gg v iv wr => ∃ i : Nat, i ≤ k.length ∧ k.length - i ≤ gg ∧ iv = i64 i ∧ Hid (wr.ownsRow w.heap.size 5 1 v (2 * i) ((hexT (k.take i)).map enB)) ∧ Hid (Below w.heap.size w wr))
 case atStart => exact ⟨0, Nat.zero_le _, by omega, rfl, O1, B1⟩
 case round =>
  obtain ⟨i, hik, hg, rfl, O, B⟩ := hrel
  clear O1 B1
  by_cases hlt : i < k.length
  ·have hc0 : wr.cell? ⟨b, o + i, none⟩ = some (enB (k.getD i 0)) := by
    have h1 := HC.out i (enB (k.getD i 0)) (by simp [hlt])
    rw [B.out.cell hb]; exact h1
   obtain ⟨x, hx⟩ : ∃ x, k.getD i 0 = x := ⟨_, rfl⟩
   rw [hx] at hc0
   have HX := Lib.hid hx
   have hx256 := x.toNat_lt
   clear hx
   go_wp2_with fail
   refine Flow.wp_region_segs (BelowR w.heap.size) (BelowR.refl _) (BelowR.trans _) [([0, 1, 2, 3, 4, 5, 6], 7), ([], 8)] [9] (by kernel_rfl) (by kernel_rfl) ?_
   have O2 := Lib.hid ((own_below2 O.out (Below.refl _ wr).drew))
   have B2 := Lib.hid (B.out.drew)
   clear O B hc0
   generalize World.drew wr = w2 at *
   haveI nonE := belowR_nonempty w.heap.size w2
   rw [Flow.wpSegs_cons]
   simp only [Flow.pick, List.getElem?_toArray, List.getElem?_cons_succ, List.getElem?_cons_zero]
   have hq1 : 0 ≤ (x.toNat : Int) / 16 := by omega
   have hq2 : (x.toNat : Int) / 16 < 16 := by omega
   have hq4 : 0 ≤ (x.toNat : Int) % 16 := by omega
   have hq5 : (x.toNat : Int) % 16 < 16 := by omega
   have hq3 : (⟨#[48, 49, 50, 51, 52, 53, 54, 55, 56, 57, 97, 98, 99, 100, 101, 102]⟩ : ByteArray).size = 16 := rfl
   repeat go_big_quiet_step (fail)
   refine wpQuiet_nil ?_
   rw [hexAt (x.toNat / 16) (by omega), hexAt (x.toNat % 16) (by omega)]
   have HT := Lib.hid (hexT_succ hlt)
   rw [show k.getD i 0 = x from HX.out] at HT
   generalize hx (x.toNat / 16) = p at *
   generalize hx (x.toNat % 16) = q at *
   clear nonE hq1 hq2 hq3 hq4 hq5
   rw [Flow.callAt_eq]
   simp only [List.getElem?_toArray, List.getElem?_cons_succ, List.getElem?_cons_zero]
   rw [if_pos (by rfl)]
   refine Flow.wp_behind (fun K0 hK => ?_)
   go_wp2_with fail
   refine hK.out _ _ ⟨(below_new _ _).mono B2.out.size, ?_⟩
   clear hK K0
   have O3 := Lib.hid (own_below2 O2.out (below_new w2 (.cells #[enB p, enB q] 5)))
   have B3 := Lib.hid (B2.out.tr (below_new w2 (.cells #[enB p, enB q] 5)))
   have R3 := Lib.hid (RdC.new w2 [enB p, enB q] 5)
   clear O2 B2
   generalize w2.alloc (.cells #[enB p, enB q] 5) = w3 at *
   rw [Flow.wpSegs_cons]
   simp only [Flow.pick]
   haveI nonE := belowR_nonempty w.heap.size w3
   refine wpQuiet_nil ?_
   clear nonE
   rw [Flow.callAt_eq]
   simp only [List.getElem?_toArray, List.getElem?_cons_succ, List.getElem?_cons_zero]
   rw [if_pos (by rfl)]
   refine Flow.wp_behind (fun K0 hK => ?_)
   refine wp_appC Tryz.underlying66 hi hz0 hz1 hz2 rfl (by decide) _ _ rfl w.heap.size _ (2 * i) _ O3.out rfl _ 2 2 [enB p, enB q] rfl R3.out rfl (enB_one [p, q]) (by omega) (by omega) B3.out.size ?_
   intro v' w4 ho4 hg4 hb4
   refine hK.out _ _ ⟨hb4, ?_⟩
   clear hK K0
   have O4 : Hid (w4.ownsRow w.heap.size 5 1 v' (2 * (i + 1)) ((hexT (k.take (i + 1))).map enB)) := Lib.hid (by
    (show _); rw [HT.out]; exact ho4)
   have B4 := Lib.hid (B3.out.trans hb4)
   clear O3 B3 ho4 hg4 hb4 R3
   haveI nonE := belowR_nonempty w.heap.size w4
   rw [Flow.wpSegs_nil]
   simp only [Flow.pick, Act.put, List.setIfInBounds_toArray, List.set_cons_succ, List.set_cons_zero, List.getElem?_toArray, List.getElem?_cons_succ, List.getElem?_cons_zero]
   repeat go_big_quiet_step (fail)
   refine wpQuiet_nil ?_
   clear nonE
   go_wp2_with fail
   go_roundg (k.length - (i + 1))
   case measure => omega
   case rel => exact ⟨i + 1, by omega, by omega, by go_num, O4, B4⟩
  ·obtain rfl : i = k.length := by omega
   rw [List.take_length] at O
   have hrun := of_own_bytes O.out
   go_wp2_with fail
   go_ret
   exact ⟨rfl, B.out⟩
open Go.RowKit Go.Shelf Go.Dg Go.Maps
theorem belowCells {N b : Nat} (hb : N ≤ b) : ∀ (vs : List Value) (o : Nat) (w : World), Below N w (w.setCells b o vs)
 | [], _, _w => Below.refl _ _
 | v :: vs, o, w => ((Below.refl N w).setCell (p := ⟨b, o, none⟩) hb v).trans (belowCells hb vs (o + 1) _)
theorem there_blk {w : World} {b n : Nat} {cs : Array Value} {t : TypeId} (h : w.heap[b]? = some (.cells cs t (0, 0))) (hn : cs.size = n) : w.there b 0 n := fun j hj => by
 rw [Nat.zero_add]
 refine ⟨?_, blk_free h j⟩
 rw [blk_cell h j, Array.getElem?_eq_getElem (by omega)]
 rfl
theorem results_cell1 {P : Program} {fn : Func} {tmps : Array Value} {w : World} {a : Nat} {ty : TypeId} {q : Addr} {vs : Value} (hr : fn.results = #[.cell a ty]) (ha : tmps.getD a undef = .pointer (some q)) (hl : (loadVar ty q).run P w = .ok vs w) : (results fn tmps).run P w = .ok vs w := by
 unfold results
 rw [hr]
 have hA : (asAddr (tmps.getD a undef)).run P w = .ok q w := by rw [ha]; rfl
 have hmap : ∀ u : Sem (List Value), (Functor.map List.toArray u) = u >>= fun l => pure l.toArray := fun _ => rfl
 have hp : ∀ {α : Type} (u : α), (pure u : Sem α).run P w = .ok u w := fun _ => rfl
 simp only [List.mapM_toArray, List.mapM_cons, List.mapM_nil, hmap, Sem.run_bind, hA, Result.andThen, hl, hp]
 rfl
theorem d64_size : (Tryz.prog.info? 198).map (·.size) = some 64 := by kernel_rfl
theorem range_row {w : World} {b : Nat} {m : List UInt8} (h : Dt.Row w b m) : w.rangeAt b 0 (m.map enB) := fun j v hj => by
 rw [List.getElem?_map] at hj
 cases hm : m[j]? with
 | none => rw [hm] at hj; exact absurd hj (by simp)
 | some x =>
  rw [hm] at hj
  obtain ⟨hlt, hx⟩ := List.getElem?_eq_some_iff.1 hm
  have h1 := (h j hlt).1
  rw [Nat.zero_add, h1]
  have e : m.getD j 0 = x := by simp [hm]
  rw [e]
  simpa using hj
theorem arrayAt64 (b cap : Nat) (w : World) : (Instr.arrayAt 198 (.slice (some ⟨b, 0, none⟩) 64 cap)).run Tryz.prog w = .ok (.pointer (some ⟨b, 0, none⟩)) w := by kernel_rfl
theorem arrayAt32 (b cap : Nat) (w : World) : (Instr.arrayAt 57 (.slice (some ⟨b, 0, none⟩) 32 cap)).run Tryz.prog w = .ok (.pointer (some ⟨b, 0, none⟩)) w := by kernel_rfl
set_option maxRecDepth 100000 in
set_option maxHeartbeats 8000000 in
theorem digits_any (k : List UInt8) (w : World) (hk : k.length = 32) :
  Calls Tryz.prog 152 #[idA k] w fun e w' => e = .returned (.agg ((hexT k).map enB).toArray) ∧ Below w.heap.size w w' := by
 have hl64 : (hexT k).length = 64 := by rw [hexT_length, hk]
 have HL := Lib.hid hl64
 have HB := Lib.hid (blk_new w (.cells (idL k).toArray 57))
 have HM := Lib.hid (idL_map hk)
 unfold idA
 go_enter Tryz.func152, Tryz.ntmps152
 go_wp2_with fail
 have hB1 := blk_below (below_new (w.alloc (.cells (idL k).toArray 57)) (.cells #[.int .u8 0, .int .u8 0, .int .u8 0, .int .u8 0, .int .u8 0, .int .u8 0, .int .u8 0, .int .u8 0, .int .u8 0, .int .u8 0, .int .u8 0, .int .u8 0, .int .u8 0, .int .u8 0, .int .u8 0, .int .u8 0, .int .u8 0, .int .u8 0, .int .u8 0, .int .u8 0, .int .u8 0, .int .u8 0, .int .u8 0, .int .u8 0, .int .u8 0, .int .u8 0, .int .u8 0, .int .u8 0, .int .u8 0, .int .u8 0, .int .u8 0, .int .u8 0, .int .u8 0, .int .u8 0, .int .u8 0, .int .u8 0, .int .u8 0, .int .u8 0, .int .u8 0, .int .u8 0, .int .u8 0, .int .u8 0, .int .u8 0, .int .u8 0, .int .u8 0, .int .u8 0, .int .u8 0, .int .u8 0, .int .u8 0, .int .u8 0, .int .u8 0, .int .u8 0, .int .u8 0, .int .u8 0, .int .u8 0, .int .u8 0, .int .u8 0, .int .u8 0, .int .u8 0, .int .u8 0, .int .u8 0, .int .u8 0, .int .u8 0, .int .u8 0] 198)) HB.out
 have hB2 := blk_new (w.alloc (.cells (idL k).toArray 57)) (.cells #[.int .u8 0, .int .u8 0, .int .u8 0, .int .u8 0, .int .u8 0, .int .u8 0, .int .u8 0, .int .u8 0, .int .u8 0, .int .u8 0, .int .u8 0, .int .u8 0, .int .u8 0, .int .u8 0, .int .u8 0, .int .u8 0, .int .u8 0, .int .u8 0, .int .u8 0, .int .u8 0, .int .u8 0, .int .u8 0, .int .u8 0, .int .u8 0, .int .u8 0, .int .u8 0, .int .u8 0, .int .u8 0, .int .u8 0, .int .u8 0, .int .u8 0, .int .u8 0, .int .u8 0, .int .u8 0, .int .u8 0, .int .u8 0, .int .u8 0, .int .u8 0, .int .u8 0, .int .u8 0, .int .u8 0, .int .u8 0, .int .u8 0, .int .u8 0, .int .u8 0, .int .u8 0, .int .u8 0, .int .u8 0, .int .u8 0, .int .u8 0, .int .u8 0, .int .u8 0, .int .u8 0, .int .u8 0, .int .u8 0, .int .u8 0, .int .u8 0, .int .u8 0, .int .u8 0, .int .u8 0, .int .u8 0, .int .u8 0, .int .u8 0, .int .u8 0] 198)
 have hbb : Below w.heap.size w ((w.alloc (.cells (idL k).toArray 57)).alloc (.cells #[.int .u8 0, .int .u8 0, .int .u8 0, .int .u8 0, .int .u8 0, .int .u8 0, .int .u8 0, .int .u8 0, .int .u8 0, .int .u8 0, .int .u8 0, .int .u8 0, .int .u8 0, .int .u8 0, .int .u8 0, .int .u8 0, .int .u8 0, .int .u8 0, .int .u8 0, .int .u8 0, .int .u8 0, .int .u8 0, .int .u8 0, .int .u8 0, .int .u8 0, .int .u8 0, .int .u8 0, .int .u8 0, .int .u8 0, .int .u8 0, .int .u8 0, .int .u8 0, .int .u8 0, .int .u8 0, .int .u8 0, .int .u8 0, .int .u8 0, .int .u8 0, .int .u8 0, .int .u8 0, .int .u8 0, .int .u8 0, .int .u8 0, .int .u8 0, .int .u8 0, .int .u8 0, .int .u8 0, .int .u8 0, .int .u8 0, .int .u8 0, .int .u8 0, .int .u8 0, .int .u8 0, .int .u8 0, .int .u8 0, .int .u8 0, .int .u8 0, .int .u8 0, .int .u8 0, .int .u8 0, .int .u8 0, .int .u8 0, .int .u8 0, .int .u8 0] 198)) := (below_new _ _).tr (below_new _ _)
 rw [World.size_alloc] at hB2
 obtain ⟨Z, hZ⟩ : ∃ Z : Array Value, #[.int .u8 0, .int .u8 0, .int .u8 0, .int .u8 0, .int .u8 0, .int .u8 0, .int .u8 0, .int .u8 0, .int .u8 0, .int .u8 0, .int .u8 0, .int .u8 0, .int .u8 0, .int .u8 0, .int .u8 0, .int .u8 0, .int .u8 0, .int .u8 0, .int .u8 0, .int .u8 0, .int .u8 0, .int .u8 0, .int .u8 0, .int .u8 0, .int .u8 0, .int .u8 0, .int .u8 0, .int .u8 0, .int .u8 0, .int .u8 0, .int .u8 0, .int .u8 0, .int .u8 0, .int .u8 0, .int .u8 0, .int .u8 0, .int .u8 0, .int .u8 0, .int .u8 0, .int .u8 0, .int .u8 0, .int .u8 0, .int .u8 0, .int .u8 0, .int .u8 0, .int .u8 0, .int .u8 0, .int .u8 0, .int .u8 0, .int .u8 0, .int .u8 0, .int .u8 0, .int .u8 0, .int .u8 0, .int .u8 0, .int .u8 0, .int .u8 0, .int .u8 0, .int .u8 0, .int .u8 0, .int .u8 0, .int .u8 0, .int .u8 0, .int .u8 0] = Z := ⟨_, rfl⟩
 have hZs : Z.size = 64 := by rw [← hZ]; rfl
 have HZS := Lib.hid hZs
 rw [hZ] at hB1 hB2 hbb ⊢
 clear hZ hZs HB
 generalize (w.alloc (.cells (idL k).toArray 57)).alloc (.cells Z 198) = w2 at *
 have HB1 := Lib.hid hB1
 have HB2 := Lib.hid hB2
 have HBB := Lib.hid hbb
 clear hB1 hB2 hbb
 have hrange : w2.rangeAt w.heap.size 0 (k.map enB) := by
  have := range_blk HB1.out
  rw [HM.out] at this
  exact this
 have hlt := blk_lt HB1.out
 have hh := hex_any w.heap.size 0 32 k w2 hrange hlt (by omega)
 rw [hk] at hh
 clear hrange
 refine hh.mono ?_; rintro e w3 ⟨rfl, b3⟩
 have HB3 := Lib.hid (blk_below b3 HB2.out)
 have HBB3 := Lib.hid (HBB.out.tr b3)
 clear b3 HB2 HBB HB1 hlt
 obtain ⟨cap, w4, hconv, b4, hlt4, hrow⟩ := Dt.to_bytes w3 (hexT k)
 have HB4 := Lib.hid (blk_below b4 HB3.out)
 have HBB4 := Lib.hid (HBB3.out.tr b4)
 have HR := Lib.hid (range_row hrow)
 rw [hl64] at hconv
 have HD64 := Lib.hid d64_size
 have haa := arrayAt64 w3.heap.size cap w4
 obtain ⟨m, hm⟩ : ∃ m, hexT k = m := ⟨_, rfl⟩
 rw [hm] at hconv HR hl64 HL ⊢
 have HMM := Lib.hid hm
 clear hrow b4 hm hh
 go_wp2_with (first | refine wpList_load_mid rfl 198 _ rfl w3.heap.size 0 rfl (m.map enB) _ HR.out Tryz.underlying198 rfl (by rw [List.length_map, HL.out]; exact HD64.out) ?_ | refine wpList_store_mid rfl 198 _ _ rfl (w.heap.size + 1) 0 _ rfl rfl ?_ ?_ ?_ ?_)
 ·exact there_blk HB4.out (by rw [HZS.out]; simpa using HL.out.symm)
 ·rw [HD64.out]; simpa using HL.out.symm
 ·exact all_oneCell_toArray (enB_one m)
 have HS := Lib.hid (World.rangeAt_setCells_same w4 (w.heap.size + 1) 0 (m.map enB) (there_blk HB4.out (by rw [HZS.out]; simpa using HL.out.symm)))
 have HBZ := Lib.hid (HBB4.out.trans (belowCells (N := w.heap.size) (b := w.heap.size + 1) (by omega) (m.map enB) 0 w4))
 go_wp2_with fail
 refine bodyPost_ret (v := .agg (m.map enB).toArray) (results_cell1 (a := 2) rfl rfl ?_) rfl ⟨by rw [HMM.out], HBZ.out⟩
 exact run_loadVar_mid _ _ _ _ (m.map enB) _ HS.out Tryz.underlying198 rfl (by rw [List.length_map, HL.out]; exact HD64.out)
theorem conv64 (b : Nat) (m : List UInt8) (w : World) (hl : m.length = 64) (h : w.heap[b]? = some (.cells (m.map enB).toArray 198 (0, 0))) : (convert 66 9 (.slice (some ⟨b, 0, none⟩) 64 64)).run Tryz.prog w = .ok (enS m) w := by
 have := run_convert_bytes_back (P := Tryz.prog) w 66 9 5 ⟨b, 0, none⟩ 64 m Tryz.underlying66 Tryz.underlying5 Tryz.underlying9 fun j hj => by
  rw [addr_addN, Nat.zero_add, blk_cell h j]
  simp [hj]
 rw [hl] at this
 exact this
set_option maxRecDepth 100000 in
set_option maxHeartbeats 8000000 in
theorem print_any (k : List UInt8) (w : World) (hk : k.length = 32) :
  Calls Tryz.prog 118 #[idA k] w fun e w' => e = .returned (enS (prId k)) ∧ Below w.heap.size w w' := by
 have hl64 : (hexT k).length = 64 := by rw [hexT_length, hk]
 have V := Lib.hid (show prId k = [60] ++ hexT k ++ [64, 104, 97, 115, 104, 62] from rfl)
 have HB := Lib.hid (range_blk (blk_new w (.cells (idL k).toArray 57)))
 have HD := Lib.hid (fun u => digits_any k u hk)
 have b1 := below_new w (.cells (idL k).toArray 57)
 have HS := Lib.hid id_size
 unfold idA at *
 go_enter Tryz.func118, Tryz.ntmps118
 go_wp2_with (refine wpList_load_mid rfl 57 _ rfl w.heap.size 0 rfl (idL k) _ HB.out Tryz.underlying57 rfl (by rw [idL_length]; exact HS.out) ?_)
 refine (HD.out _).mono ?_; rintro e w2 ⟨rfl, b2⟩
 obtain ⟨m, hm⟩ : ∃ m, hexT k = m := ⟨_, rfl⟩
 rw [hm] at hl64 V ⊢
 clear hm HD HB
 have B2 := Lib.hid (b1.tr b2)
 clear b1 b2
 have HL := Lib.hid hl64
 have HD64 := Lib.hid d64_size
 have hcv := conv64 w2.heap.size m (w2.alloc (.cells (m.map enB).toArray 198)) hl64 (blk_new w2 _)
 go_wp2_with (refine wpList_store_new rfl 198 _ _ rfl _ (m.map enB).toArray rfl rfl ?_ ?_ ?_ ?_)
 ·rw [HD64.out]; simpa using HL.out.symm
 ·simpa using HL.out.symm
 ·exact all_oneCell_toArray (enB_one m)
 go_ret
 refine ⟨?_, B2.out.tr (below_new _ _)⟩
 rw [V.out]
 simp only [bcat]
 rfl
open Go.RowKit Go.Shelf Go.Dg Go.Maps
/-! ### worlds that keep some blocks -/
def KeepT (B : Nat) (K : List Nat) (u v : World) : Prop := Below B u v ∧ ∀ k ∈ K, v.heap[k]? = u.heap[k]?
theorem KeepT.refl (B : Nat) (K : List Nat) (u : World) : KeepT B K u u := ⟨Below.refl _ _, fun _ _ => rfl⟩
theorem KeepT.trans {B : Nat} {K : List Nat} {u v w : World} (h : KeepT B K u v) (k : KeepT B K v w) : KeepT B K u w := ⟨h.1.trans k.1, fun i hi => (k.2 i hi).trans (h.2 i hi)⟩
theorem KeepT.of_below {B : Nat} {K : List Nat} {u v : World} (h : Below u.heap.size u v) (hB : B ≤ u.heap.size) (hK : ∀ k ∈ K, k < u.heap.size) : KeepT B K u v := ⟨h.mono hB, fun k hk => h.block k (hK k hk)⟩
theorem KeepT.grown {B : Nat} {K : List Nat} {u v : World} {row : Option Nat} (h : u.grownBy v row) (hB : B ≤ u.heap.size) (hr : ∀ g, row = some g → B ≤ g) (hK : ∀ k ∈ K, k < u.heap.size ∧ some k ≠ row) : KeepT B K u v := ⟨(Below.refl B u).grown h hB hr, fun k hk => h.block k (hK k hk).1 (hK k hk).2⟩
theorem cls_keep {B : Nat} {K : List Nat} (w : World) : Nonempty (Flow.Cls (KeepT B K w)) := ⟨⟨w, KeepT.refl _ _ _⟩⟩
theorem KeepT.cell {B : Nat} {K : List Nat} {u : World} {k o : Nat} {x : Value} (hk : k ∈ K) (h : u.cell? ⟨k, o, none⟩ = some x) (t : Flow.Cls (KeepT B K u)) : t.val.cell? ⟨k, o, none⟩ = some x := by
 rw [World.cell?_of_block (t.2.2 k hk)]; exact h
theorem MapA.isMap {κ β : Type} {P : Program} {k : TypeId} {S : KV P k κ β} {w : World} {b : Nat} {L : List (κ × β)} (h : MapA S w b L) : ∃ es c, w.heap[b]? = some (.map es c) := by
 obtain ⟨D, ⟨es, c, hb, _⟩, _⟩ := h
 exact ⟨es, c, hb⟩
theorem MapA.noCells {P : Program} {k : TypeId} {κ β : Type} {S : KV P k κ β} {w : World} {b : Nat} {L : List (κ × β)} (h : MapA S w b L) : ∀ cs e fr, w.heap[b]? ≠ some (.cells cs e fr) := fun cs e fr hc => by
 obtain ⟨es, c, hm⟩ := h.isMap
 rw [hc] at hm
 cases hm
theorem own_noCells {w : World} {base n size : Nat} {e : TypeId} {v : Value} {xs : List Value} (h : w.ownsRow base e size v n xs) {k : Nat} (hk : ∀ cs e fr, w.heap[k]? ≠ some (.cells cs e fr)) : some k ≠ v.ownBlock := fun e2 => by
 rcases h.2 with ⟨h1, _⟩ | ⟨g, cap, cur, h1, _, hb, _⟩
 ·rw [h1] at e2; cases e2
 ·rw [h1] at e2
  cases e2
  exact hk _ _ _ hb
theorem quiet_lookup_r {P : Program} {k : TypeId} {κ β : Type} {o : Oper} {a : Act} [DecidableEq κ] {C : World → Prop} {K : Act → Prop} (m x : Operand) (t : TypeId) (ho : o.op = .lookup t m x false)
  (S : KV P k κ β) (e : TypeId) (ht : P.underlying t = some (.map k e)) (z : Value) (hz : ∀ w, (zeroValue e).run P w = .ok z w) (b : Nat) (L : List (κ × β))
  (hm : a.eval m = .map (some b)) (hown : ∀ w, C w → MapA S w b L) (y : κ) (hy : S.ok y) (hx : a.eval x = S.kv y) (r : Value) (hr : ((getA L y).map S.vv).getD z = r) (hk : K (a.put o.dst r)) : o.quiet P a C K :=
 quiet_lookup_a m x t ho S e ht z hz b L hm hown y hy hx (by rw [hr]; exact hk)
theorem own_any {w : World} {b base n size : Nat} {e : TypeId} {v : Value} {xs : List Value} (h : w.ownsRow b e size v n xs) (hb : base ≤ b) : w.ownsRow base e size v n xs := by
 refine ⟨h.1, ?_⟩
 rcases h.2 with h | ⟨g, cap, cur, e1, hg, rest⟩
 ·exact .inl h
 ·exact .inr ⟨g, cap, cur, e1, Nat.le_trans hb hg, rest⟩
/-- append to a row of the call's own: in its block, or in one behind all others. -/
theorem run_append_far {P : Program} (w : World) (t ty e : TypeId) (i : TypeInfo) (z : Value) (size bytes : Nat) (ht : P.underlying t = some (.slice e)) (hi : P.info? e = some i) (hz : i.zero = some z)
  (hsize : i.size = size) (hby : i.bytes = bytes) (hzs : z.cells.size = size) (hsz : 0 < size)
  (v : Value) (n : Nat) (xs : List Value) (hown : w.ownsRow 0 e size v n xs)
  (a : Addr) (m c : Nat) (news : List Value) (hl : news.length = m * size) (hnews : ∀ j u, news[j]? = some u → w.cell? (a.add j) = some u) (h1 : ∀ u ∈ news, u.oneCell' = true)
  (h63 : n + m ≤ maxLen) (hbytes : (n + m) * bytes ≤ 140737488355328) :
  ∃ v' w', (Builtin.append_ #[t, t] ty #[v, .slice (some a) m c]).run P w = .ok v' w' ∧ w'.ownsRow 0 e size v' (n + m) (xs ++ news) ∧ w.grownBy w' v.ownBlock ∧ (v'.ownBlock = v.ownBlock ∨ ∃ g, v'.ownBlock = some g ∧ w.heap.size ≤ g) := by
 have hsmall : n + m ≤ 9223372036854775807 := by simp only [maxLen] at h63; omega
 rcases hown.2 with ⟨rfl, rfl⟩ | ⟨g, cap, cur, rfl, hbg, hg, hnc, hcm, hcs, htake⟩
 ·have hx : xs = [] := List.eq_nil_of_length_eq_zero (by simpa using hown.1)
  subst hx
  obtain ⟨v', w', a1, a2, a3, _⟩ := run_append_own (P := P) w w.heap.size t ty e i z size bytes ht hi hz hsize hby hzs hsz _ 0 [] (World.ownsRow_nil w w.heap.size e size) a m c news hl hnews h1 h63 hbytes (Nat.le_refl _)
  refine ⟨v', w', a1, own_any a2 (Nat.zero_le _), a3, ?_⟩
  rcases a2.2 with ⟨rfl, _⟩ | ⟨g, cap, cur, rfl, hg, _⟩
  ·exact .inl rfl
  ·exact .inr ⟨g, rfl, hg⟩
 ·obtain ⟨v', w', a1, a2, a3, _⟩ := run_append_own (P := P) w 0 t ty e i z size bytes ht hi hz hsize hby hzs hsz _ n xs hown a m c news hl hnews h1 h63 hbytes (Nat.zero_le _)
  refine ⟨v', w', a1, a2, a3, ?_⟩
  subst hsize
  by_cases hroom : n + m ≤ cap
  ·have hfit : n * i.size + news.length ≤ cur.size := by rw [hl, hcs, ← Nat.add_mul]; exact Nat.mul_le_mul_right _ hroom
   have hr := run_append_room (P := P) w t ty e i ht hi g n cap cur hg a m c news hl hnews h1 hroom hfit
   rw [a1] at hr
   cases hr
   exact .inl rfl
  ·subst hby
   have hr := run_append_grow (P := P) w t ty e i z ht hi hz ⟨g, 0, none⟩ n cap xs hown.1 (hown.cells (g := g) rfl) a m c news hl hnews (by omega) (by omega) (growslice_fits (by omega) hbytes)
   rw [a1] at hr
   cases hr
   exact .inr ⟨_, rfl, Nat.le_refl _⟩
theorem wpList_append_far {P : Program} (w : World) {ops : Array Oper} {rest : List Oper} {o : Oper} {a : Act} {Q : Exit → Act → World → Prop} (hgd : o.guard = none) (s x : Operand) (t : TypeId)
  (ho : o.op = .call { callee := .builtin .append, args := #[s, x], argTypes := #[t, t] })
  (e : TypeId) (i : TypeInfo) (z : Value) (size bytes : Nat) (ht : P.underlying t = some (.slice e)) (hi : P.info? e = some i) (hz : i.zero = some z)
  (hsize : i.size = size) (hby : i.bytes = bytes) (hzs : z.cells.size = size) (hsz : 0 < size)
  (v : Value) (n : Nat) (xs : List Value) (hs : a.eval s = v) (hown : w.ownsRow 0 e size v n xs)
  (ad : Addr) (m c : Nat) (news : List Value) (hx : a.eval x = .slice (some ad) m c) (hl : news.length = m * size) (hnews : ∀ j u, news[j]? = some u → w.cell? (ad.add j) = some u) (h1 : ∀ u ∈ news, u.oneCell' = true)
  (h63 : n + m ≤ maxLen) (hbytes : (n + m) * bytes ≤ 140737488355328)
  (h : ∀ v' w', w'.ownsRow 0 e size v' (n + m) (xs ++ news) → w.grownBy w' v.ownBlock → (v'.ownBlock = v.ownBlock ∨ ∃ g, v'.ownBlock = some g ∧ w.heap.size ≤ g) → wpList P ops Q rest (a.put o.dst v') w') : wpList P ops Q (o :: rest) a w := by
 refine wpList_plain hgd fun K hK => ?_
 obtain ⟨v', w', hr, h2, h3, h4⟩ := run_append_far (P := P) w t o.type e i z size bytes ht hi hz hsize hby hzs hsz v n xs hown ad m c news hl hnews h1 h63 hbytes
 unfold Oper.wp execOp
 simp only [ho, resolve, invoke, builtin, Sem.run_bind, Sem.run_pure, Result.andThen_ok, List.map_toArray, List.map_cons, List.map_nil, hs, hx, hr]
 exact hK _ _ (h v' w' h2 h3 h4)
/-- append as an operation of a drawn region: in its block, or in one behind all others. -/
theorem wp_app_far {P : Program} {o : Oper} {a : Act} {w : World} {K : Act → World → Prop} {Q : Exit → Act → World → Prop} (s x : Operand) (t : TypeId)
  (ho : o.op = .call { callee := .builtin .append, args := #[s, x], argTypes := #[t, t] })
  (e : TypeId) (i : TypeInfo) (z : Value) (size bytes : Nat) (ht : P.underlying t = some (.slice e)) (hi : P.info? e = some i) (hz : i.zero = some z)
  (hsize : i.size = size) (hby : i.bytes = bytes) (hzs : z.cells.size = size) (hsz : 0 < size)
  (v : Value) (n : Nat) (xs : List Value) (hs : a.eval s = v) (hown : w.ownsRow 0 e size v n xs)
  (ad : Addr) (m c : Nat) (news : List Value) (hx : a.eval x = .slice (some ad) m c) (hl : news.length = m * size) (hnews : ∀ j u, news[j]? = some u → w.cell? (ad.add j) = some u) (h1 : ∀ u ∈ news, u.oneCell' = true)
  (h63 : n + m ≤ maxLen) (hbytes : (n + m) * bytes ≤ 140737488355328)
  (h : ∀ v' w', w'.ownsRow 0 e size v' (n + m) (xs ++ news) → w.grownBy w' v.ownBlock → (v'.ownBlock = v.ownBlock ∨ ∃ g, v'.ownBlock = some g ∧ w.heap.size ≤ g) → K (a.put o.dst v') w') : o.wp P a w K Q := by
 obtain ⟨v', w', hr, h2, h3, h4⟩ := run_append_far (P := P) w t o.type e i z size bytes ht hi hz hsize hby hzs hsz v n xs hown ad m c news hl hnews h1 h63 hbytes
 unfold Oper.wp execOp
 simp only [ho, resolve, invoke, builtin, Sem.run_bind, Sem.run_pure, Result.andThen_ok, List.map_toArray, List.map_cons, List.map_nil, hs, hx, hr]
 exact h v' w' h2 h3 h4
/-! ### the numbers of the subjects -/
theorem enS_inj {a b : List UInt8} (h : enS a = enS b) : a = b := by
 unfold enS at h
 injection h with h
 have := congrArg (fun x : ByteArray => x.data.toList) h
 simpa using this
noncomputable def numK : KV Tryz.prog 9 (List UInt8) Value := KV.of (string_keyed Tryz.underlying9) enS (fun s => s.length ≤ maxLen) (fun s h => by rw [Go.WideMaps.keyOf_string_mk (s := ⟨s.toArray⟩) Tryz.underlying9 (show s.toArray.size ≤ maxLen by simpa using h)]; rfl) (fun a b h => enS_inj h) id (fun _ _ h => h)
abbrev nilV : Value := .slice none 0 0
theorem zeroStrs (w : World) : (zeroValue 41).run Tryz.prog w = .ok nilV w := by kernel_rfl
/-- The subjects S in a slice, and the rows R of their numbers in the map b; all blocks are of the call's own and apart. -/
structure Con (w0 : World) (w : World) (b : Nat) (E : List (List UInt8 × Value)) (sv : Value) (S : List (List UInt8)) (R : List UInt8 → List (List UInt8)) : Prop where
 m : MapA numK w b E
 su : w.ownsRow 0 9 1 sv S.length (S.map enS)
 row : ∀ p ∈ E, w.ownsRow 0 9 1 p.2 (R p.1).length ((R p.1).map enS)
 none : ∀ s, s ∉ E.map (·.1) → R s = []
 dis : ∀ p ∈ E, ∀ q ∈ E, p.1 ≠ q.1 → p.2.ownBlock ≠ q.2.ownBlock
 dsv : ∀ p ∈ E, p.2.ownBlock ≠ sv.ownBlock
 nz : ∀ p ∈ E, p.2.ownBlock ≠ Option.none
 lo : w0.heap.size ≤ b ∧ (∀ p ∈ E, ∀ g, p.2.ownBlock = some g → w0.heap.size ≤ g) ∧ (∀ g, sv.ownBlock = some g → w0.heap.size ≤ g)
 bel : Below w0.heap.size w0 w
def getV (E : List (List UInt8 × Value)) (s : List UInt8) : Value := (getA E s).getD nilV
theorem own_lt {w : World} {base n size : Nat} {e : TypeId} {v : Value} {xs : List Value} (h : w.ownsRow base e size v n xs) {g : Nat} (hg : v.ownBlock = some g) : g < w.heap.size := (h.lt g hg).2
section
variable {w0 w w' : World} {b : Nat} {E : List (List UInt8 × Value)} {sv : Value} {S : List (List UInt8)} {R : List UInt8 → List (List UInt8)}
theorem Con.nb (h : Con w0 w b E sv S R) (p : List UInt8 × Value) (hp : p ∈ E) : some b ≠ p.2.ownBlock := own_noCells (h.row p hp) h.m.noCells
theorem Con.sb (h : Con w0 w b E sv S R) : some b ≠ sv.ownBlock := own_noCells h.su h.m.noCells
theorem Con.at_ (h : Con w0 w b E sv S R) (s : List UInt8) : w.ownsRow 0 9 1 (getV E s) (R s).length ((R s).map enS) := by
 unfold getV
 cases hg : getA E s with
 | none => rw [h.none s (getA_none hg)]; exact own2_nil _ _ _ _
 | some v => exact h.row (s, v) (getA_some hg)
theorem Con.nb_at (h : Con w0 w b E sv S R) (s : List UInt8) : some b ≠ (getV E s).ownBlock := own_noCells (h.at_ s) h.m.noCells
theorem Con.lo_at (h : Con w0 w b E sv S R) (s : List UInt8) : ∀ g, (getV E s).ownBlock = some g → w0.heap.size ≤ g := fun g e => by
 unfold getV at e
 cases hg : getA E s with
 | none => rw [hg] at e; cases e
 | some v => rw [hg] at e; exact h.lo.2.1 (s, v) (getA_some hg) g e
theorem Con.sv_at (h : Con w0 w b E sv S R) (s : List UInt8) : sv.ownBlock = Option.none ∨ sv.ownBlock ≠ (getV E s).ownBlock := by
 unfold getV
 cases hg : getA E s with
 | none =>
  cases ho : sv.ownBlock with
  | none => exact .inl rfl
  | some g => exact .inr (by intro e; cases e)
 | some v => exact .inr fun e => h.dsv (s, v) (getA_some hg) e.symm
theorem Con.dis_at (h : Con w0 w b E sv S R) (p : List UInt8 × Value) (hp : p ∈ E) (s : List UInt8) (hne : p.1 ≠ s) : p.2.ownBlock ≠ (getV E s).ownBlock := by
 unfold getV
 cases hg : getA E s with
 | none => exact h.nz p hp
 | some v => exact h.dis p hp (s, v) (getA_some hg) hne
/-- Other blocks are as they were. -/
theorem Con.below (h : Con w0 w b E sv S R) (hb : Below w.heap.size w w') : Con w0 w' b E sv S R :=
 ⟨h.m.below hb, own_below2 h.su hb, fun p hp => own_below2 (h.row p hp) hb, h.none, h.dis, h.dsv, h.nz, h.lo, h.bel.tr hb⟩
theorem far_ne {w : World} {a c v : Option Nat} (h : v = c ∨ ∃ g, v = some g ∧ w.heap.size ≤ g) (hne : a ≠ c) (hlt : ∀ g, a = some g → g < w.heap.size) : a ≠ v := fun e => by
 rcases h with h | ⟨g, h1, h2⟩
 ·exact hne (e.trans h)
 ·have := hlt g (e.trans h1); omega
/-- A subject more. -/
theorem Con.more {sv' : Value} {s : List UInt8} (h : Con w0 w b E sv S R) (ho : w'.ownsRow 0 9 1 sv' (S ++ [s]).length ((S ++ [s]).map enS)) (hg : w.grownBy w' sv.ownBlock) (hf : sv'.ownBlock = sv.ownBlock ∨ ∃ g, sv'.ownBlock = some g ∧ w.heap.size ≤ g) : Con w0 w' b E sv' (S ++ [s]) R where
 m := h.m.kept hg h.sb
 su := ho
 row := fun p hp => (h.row p hp).kept hg (.inr (h.dsv p hp))
 none := h.none
 dis := h.dis
 dsv := fun p hp => far_ne hf (h.dsv p hp) fun g e => own_lt (h.row p hp) e
 nz := h.nz
 lo := ⟨h.lo.1, h.lo.2.1, fun g e => by
  rcases hf with h1 | ⟨g', h1, h2⟩
  ·exact h.lo.2.2 g (h1.symm.trans e)
  ·rw [h1] at e; cases e; have := h.bel.size; omega⟩
 bel := h.bel.grown hg h.bel.size fun k e => h.lo.2.2 k e
/-- A number more: the row grown, stored. -/
theorem Con.put {w1 w2 : World} {s n : List UInt8} {v : Value} (h : Con w0 w b E sv S R) (ho : w1.ownsRow 0 9 1 v (R s ++ [n]).length ((R s ++ [n]).map enS)) (hg : w.grownBy w1 (getV E s).ownBlock)
  (hf : v.ownBlock = (getV E s).ownBlock ∨ ∃ g, v.ownBlock = some g ∧ w.heap.size ≤ g) (hm : MapA numK w2 b (putA E s v)) (hg2 : w1.grownBy w2 (some b)) : Con w0 w2 b (putA E s v) sv S fun x => if x = s then R s ++ [n] else R x := by
 have hv : v.ownBlock ≠ Option.none := fun e => by
  rcases ho.2 with ⟨_, h2⟩ | ⟨g, cap, cur, h1, _⟩
  ·simp at h2
  ·rw [h1] at e; cases e
 have hb1 : MapA numK w1 b E := h.m.kept hg (h.nb_at s)
 have hnv : some b ≠ v.ownBlock := own_noCells ho hb1.noCells
 have hlt : ∀ p ∈ E, ∀ g, p.2.ownBlock = some g → g < w.heap.size := fun p hp g e => own_lt (h.row p hp) e
 have hlv : ∀ g, v.ownBlock = some g → w0.heap.size ≤ g := fun g e => by
  rcases hf with h1 | ⟨g', h1, h2⟩
  ·exact h.lo_at s g (h1.symm.trans e)
  ·rw [h1] at e; cases e; have := h.bel.size; omega
 refine ⟨hm, (h.su.kept hg (h.sv_at s)).kept hg2 (.inr fun e => h.sb e.symm), fun p hp => ?_, fun x hx => ?_, fun p hp q hq hne => ?_, fun p hp => ?_, fun p hp => ?_, ⟨h.lo.1, fun p hp g e => ?_, h.lo.2.2⟩, (h.bel.grown hg h.bel.size fun k e => h.lo_at s k e).grown hg2 ?_ fun k e => by cases e; exact h.lo.1⟩
 ·rcases (mem_putA p).1 hp with rfl | ⟨hp, hne⟩
  ·simp only [if_true]; exact ho.kept hg2 (.inr fun e => hnv e.symm)
  ·rw [if_neg hne]; exact ((h.row p hp).kept hg (.inr (h.dis_at p hp s hne))).kept hg2 (.inr fun e => h.nb p hp e.symm)
 ·rw [keys_putA] at hx
  split at hx
  ·rename_i hd
   rw [if_neg (show ¬ x = s from fun e => hx (by rw [e]; exact hd))]
   exact h.none x hx
  ·rw [if_neg (show ¬ x = s from fun e => hx (by rw [e]; simp))]
   exact h.none x fun e => hx (by simp [e])
 ·rcases (mem_putA p).1 hp with rfl | ⟨hp, hp1⟩ <;> rcases (mem_putA q).1 hq with rfl | ⟨hq, hq1⟩
  ·exact absurd rfl hne
  ·exact fun e => far_ne hf (h.dis_at q hq s hq1) (hlt q hq) e.symm
  ·exact far_ne hf (h.dis_at p hp s hp1) (hlt p hp)
  ·exact h.dis p hp q hq hne
 ·rcases (mem_putA p).1 hp with rfl | ⟨hp, hp1⟩
  ·intro e
   rcases h.sv_at s with h1 | h1
   ·exact hv (e.trans h1)
   ·exact far_ne hf h1 (fun g e => own_lt h.su e) e.symm
  ·exact h.dsv p hp
 ·rcases (mem_putA p).1 hp with rfl | ⟨hp, hp1⟩
  ·exact hv
  ·exact h.nz p hp
 ·rcases (mem_putA p).1 hp with rfl | ⟨hp, hp1⟩
  ·exact hlv g e
  ·exact h.lo.2.1 p hp g e
 ·have := h.bel.size; have := hg.size; omega
end
open Go.RowKit Go.Shelf Go.Dg Go.Maps
theorem look_num (E : List (List UInt8 × Value)) (s : List UInt8) : ((getA E s).map numK.vv).getD nilV = getV E s := by
 unfold getV numK KV.of
 cases getA E s <;> rfl
section
variable (w : World) {ops : Array Oper} {rest : List Oper} {o : Oper} {a : Act} {Q : Exit → Act → World → Prop}
theorem wpList_num_ok (hg : o.guard = none) (m x : Operand) (hop : o.op = Op.lookup 150 m x true) (b : Nat) (E : List (List UInt8 × Value)) (hm : a.eval m = .map (some b)) (hown : MapA numK w b E) (s : List UInt8) (hs : s.length ≤ maxLen) (hx : a.eval x = enS s)
  (hK : wpList Tryz.prog ops Q rest (a.put o.dst (.tuple #[getV E s, .bool (getA E s).isSome])) w) : wpList Tryz.prog ops Q (o :: rest) a w :=
 wpList_lookup_a_ok w hg m x 150 hop numK 41 Tryz.underlying150 nilV (zeroStrs w) b E hm hown s hs hx (by rw [look_num]; exact hK)
theorem wpList_num_okF (hg : o.guard = none) (m x : Operand) (hop : o.op = Op.lookup 150 m x true) (b : Nat) (E : List (List UInt8 × Value)) (hm : a.eval m = .map (some b)) (hown : MapA numK w b E) (s : List UInt8) (hs : s.length ≤ maxLen) (hx : a.eval x = enS s) (f : Bool) (hf : (getA E s).isSome = f)
  (hK : wpList Tryz.prog ops Q rest (a.put o.dst (.tuple #[getV E s, .bool f])) w) : wpList Tryz.prog ops Q (o :: rest) a w := by
 subst hf
 exact wpList_num_ok w hg m x hop b E hm hown s hs hx hK
theorem wpList_num (hg : o.guard = none) (m x : Operand) (hop : o.op = Op.lookup 150 m x false) (b : Nat) (E : List (List UInt8 × Value)) (hm : a.eval m = .map (some b)) (hown : MapA numK w b E) (s : List UInt8) (hs : s.length ≤ maxLen) (hx : a.eval x = enS s)
  (hK : wpList Tryz.prog ops Q rest (a.put o.dst (getV E s)) w) : wpList Tryz.prog ops Q (o :: rest) a w :=
 wpList_lookup_a w hg m x 150 hop numK 41 Tryz.underlying150 nilV (zeroStrs w) b E hm hown s hs hx (by rw [look_num]; exact hK)
end
theorem it_su2 {w : World} {b : Nat} {x : It} {t : TypeId} (h : w.heap[b]? = some (.cells (itL x).toArray t (0, 0))) : w.cell? ⟨b, 2, none⟩ = some (enS x.su) := blk_cell h 2
theorem new1 (w : World) (v : Value) (T : TypeId) : ∀ j u, [v][j]? = some u → (w.alloc (.cells #[v] T)).cell? ((⟨w.heap.size, 0, none⟩ : Addr).add j) = some u := fun j u h => by
 cases j with
 | zero =>
  simp only [List.getElem?_cons_zero, Option.some.injEq] at h
  subst h
  rw [addr_add, blk_cell (blk_new w _)]; rfl
 | succ j => simp at h
theorem take_one_map {α β : Type} {l : List α} {k : Nat} {x : α} (f : α → β) (h : l[k]? = some x) : (l.take (k + 1)).map f = (l.take k).map f ++ [f x] := by
 obtain ⟨hl, hx⟩ := List.getElem?_eq_some_iff.1 h
 rw [List.take_succ_eq_append_getElem hl, hx, List.map_append]; rfl
/-- What the first loop knows. -/
structure Con1 (w wr : World) (bm : Nat) (its : List It) (k : Nat) (E : List (List UInt8 × Value)) (sv : Value) : Prop where
 c : Con w wr bm E sv (subjL [] (its.take k)) (fun s => numsOf s 0 (its.take k))
 ks : E.map (·.1) = subjL [] (its.take k)
theorem subj_len (l : List It) : (subjL [] l).length ≤ l.length := by
 have key : ∀ (l : List It) (acc : List (List UInt8)), (subjL acc l).length ≤ acc.length + l.length := by
  intro l
  induction l with
  | nil => intro acc; simp [subjL]
  | cons x l ih =>
   intro acc
   unfold subjL
   by_cases hm : x.su ∈ acc
   ·rw [if_pos hm]
    have := ih acc
    simp only [List.length_cons]; omega
   ·rw [if_neg hm]
    have := ih (acc ++ [x.su])
    simp only [List.length_cons, List.length_append, List.length_nil] at this ⊢; omega
 simpa using key l []
theorem nums_len : ∀ (l : List It) (s : List UInt8) (k : Nat), (numsOf s k l).length ≤ l.length
 | [], _, _ => by simp [numsOf]
 | x :: l, s, k => by
  have := nums_len l s (k + 1)
  unfold numsOf
  split <;> simp <;> omega
theorem take_one {its : List It} {k : Nat} {x : It} (h : its[k]? = some x) : its.take (k + 1) = its.take k ++ [x] := by
 obtain ⟨hl, hx⟩ := List.getElem?_eq_some_iff.1 h
 rw [List.take_succ_eq_append_getElem hl, hx]
theorem nums_succ {its : List It} {k : Nat} {x : It} (h : its[k]? = some x) : (fun s => numsOf s 0 (its.take (k + 1))) = fun s => if s = x.su then numsOf x.su 0 (its.take k) ++ [Lib.decDigits (k + 1)] else numsOf s 0 (its.take k) := by
 funext s
 have hk : k ≤ its.length := Nat.le_of_lt (List.getElem?_eq_some_iff.1 h).1
 rw [take_one h, numsOf_snoc]
 have e : 0 + (its.take k).length + 1 = k + 1 := by rw [List.length_take]; omega
 rw [e]
 by_cases hs : x.su = s
 ·subst hs; rw [if_pos rfl]
 ·rw [if_neg hs, if_neg fun e => hs e.symm]
theorem join_any2 (A : Option Addr) (c : Nat) (xs : List (List UInt8)) (s : List UInt8) (w : World) (hr : Rd w A xs) (hn : xs.length ≤ 1000000000) (hc : xs.length ≤ c) (hl : (Lib.join xs s).length ≤ 100000000000) :
  Calls Tryz.prog 76 #[.slice A xs.length c, enS s] w fun e w' => e = .returned (enS (Lib.join xs s)) ∧ Below w.heap.size w w' := by
 by_cases h0 : xs = []
 ·subst h0
  exact (Tryz.strings_Join_none A c ⟨s.toArray⟩ w).mono fun e w' ⟨h1, h2⟩ => ⟨h1, h2 ▸ Below.refl _ _⟩
 ·obtain ⟨b, o, rfl, hb, hcell⟩ := hr (List.length_pos_iff.2 h0)
  have e1 : (xs.map fun x => (⟨x.toArray⟩ : ByteArray)).map (·.data.toList) = xs := by
   rw [List.map_map]; exact (List.map_congr_left fun x _ => rfl).trans (List.map_id xs)
  have h := Tryz.strings_Join b o c (xs.map fun x => (⟨x.toArray⟩ : ByteArray)) ⟨s.toArray⟩ w (fun j x hx => by
   rw [List.getElem?_map] at hx
   cases hj : xs[j]? with
   | none => rw [hj] at hx; cases hx
   | some y => rw [hj] at hx; cases hx; exact hcell j y hj) hb (by simp; omega) (by simpa using hc) (by rw [e1]; exact Nat.le_trans hl (by decide))
  rw [e1, List.length_map] at h
  exact h
theorem lens_le (m : Nat) : ∀ ps : List (List UInt8), (∀ p ∈ ps, p.length ≤ m) → Lib.lens ps ≤ ps.length * m
 | [], _ => by simp [Lib.lens]
 | p :: r, h => by
  have h1 := h p (by simp)
  have h2 := lens_le m r fun x hx => h x (by simp [hx])
  simp only [Lib.lens, List.map_cons, List.sum_cons, List.length_cons, Nat.add_mul] at h2 ⊢
  omega
theorem join_len (sep : List UInt8) (m : Nat) (ps : List (List UInt8)) (h : ∀ p ∈ ps, p.length ≤ m) : (Lib.join ps sep).length ≤ ps.length * m + sep.length * ps.length := by
 cases ps with
 | nil => simp [Lib.join_nil]
 | cons p r =>
  have h1 := lens_le m _ h
  rw [Lib.join_length]
  have h2 : sep.length * r.length ≤ sep.length * (p :: r).length := Nat.mul_le_mul_left _ (by simp)
  omega
theorem nums_dd : ∀ (l : List It) (s : List UInt8) (k : Nat), k + l.length ≤ 100000 → ∀ p ∈ numsOf s k l, p.length ≤ 7
 | [], _, _, _, p, hp => by simp [numsOf] at hp
 | x :: l, s, k, h, p, hp => by
  simp only [List.length_cons] at h
  have ih := nums_dd l s (k + 1) (by omega) p
  unfold numsOf at hp
  split at hp
  ·rcases List.mem_cons.1 hp with rfl | hp
   ·exact (dd_length (by omega)).2
   ·exact ih hp
  ·exact ih hp
theorem nums_join {l : List It} (h : l.length ≤ 100000) (s : List UInt8) : (Lib.join (numsOf s 0 l) wCm).length ≤ 1000000 := by
 have h1 := join_len wCm 7 (numsOf s 0 l) (nums_dd l s 0 (by omega))
 have h2 := nums_len l s 0
 have h3 : wCm.length = 2 := rfl
 rw [h3] at h1
 omega
set_option maxRecDepth 100000 in
set_option maxHeartbeats 16000000 in
theorem contents_any (d : Dg) (A : Option Addr) (c : Nat) (w : World) (hr : RdI w A d.its) (hc : d.its.length ≤ c) (ht : Tab w) (hn : d.its.length ≤ 100000) (hs : ∀ x ∈ d.its, x.su.length ≤ 10000) :
  Calls Tryz.prog 52 #[dgA d A c] w fun e w' => (∃ v, e = .returned v ∧ w'.ownsRow w.heap.size 9 1 v (linesD d.its).length ((linesD d.its).map enS)) ∧ Below w.heap.size w w' := by
 obtain ⟨i0, hi, hz0, hz1, hz2⟩ := info_parts str_info
 have HR := Lib.hid hr
 have HT := Lib.hid ht
 have HS := Lib.hid hs
 obtain ⟨ti, vo, ie, da, its⟩ := d
 simp only at hc hn HR HS ⊢
 clear hr ht hs
 have BD := Lib.hid (blk_new w (.cells #[enS ti, i64 vo, i64 ie, i64 da, .slice A its.length c] 32))
 have b1 := below_new w (.cells #[enS ti, i64 vo, i64 ie, i64 da, .slice A its.length c] 32)
 have hmm := @run_makeMap Tryz.prog
 have hd4 := blk_cell BD.out 4
 go_enter Tryz.func52, Tryz.ntmps52
 go_wp2_with fail
 have hmp := blk_new (w.alloc (.cells #[enS ti, i64 vo, i64 ie, i64 da, .slice A its.length c] 32)) (.map #[] 0)
 have C0 : Hid (Con1 w ((w.alloc (.cells #[enS ti, i64 vo, i64 ie, i64 da, .slice A its.length c] 32)).alloc (.map #[] 0)) (w.heap.size + 1) its 0 [] nilV) := Lib.hid (by
  have hm := MapA.made numK (w.alloc (.cells #[enS ti, i64 vo, i64 ie, i64 da, .slice A its.length c] 32))
  rw [World.size_alloc] at hm
  exact ⟨⟨hm, own2_nil _ _ _ _, by simp, fun _ _ => rfl, by simp, by simp, by simp, ⟨by omega, by simp, fun g e => by cases e⟩, b1.tr (below_new _ _)⟩, rfl⟩)
 clear hmp hd4 b1 BD
 generalize (w.alloc (.cells #[enS ti, i64 vo, i64 ie, i64 da, .slice A its.length c] 32)).alloc (.map #[] 0) = w1 at *
 go_loopg [3, 17] its.length (fun gg sv kv wr => ∃ (k : Nat) (E : List (List UInt8 × Value)), k ≤ its.length ∧ its.length - k ≤ gg ∧ kv = i64 k ∧ Hid (Con1 w wr (w.heap.size + 1) its k E sv))
 case atStart => exact ⟨0, [], Nat.zero_le _, by omega, rfl, C0⟩
 case round =>
  obtain ⟨k, E, hk, hgg, rfl, C1⟩ := hrel
  clear C0
  by_cases hlt : k < its.length
  ·obtain ⟨b, o, x, rfl, hbl, hx, hrg, h32⟩ := (HR.out.below C1.out.c.bel).at_ hlt
   have HRG := Lib.hid hrg
   have HSZ := Lib.hid it_size
   have hsu := HS.out x (List.mem_of_getElem? hx)
   have HX := Lib.hid hx
   have BI := Lib.hid (blk_new wr (.cells (itL x).toArray 59))
   have bi := below_new wr (.cells (itL x).toArray 59)
   have C2 := Lib.hid (C1.out.c.below bi)
   have KS := Lib.hid C1.out.ks
   have NK : Hid (∀ g, (getV E x.su).ownBlock = some g → g < wr.heap.size) := Lib.hid (fun g e => own_lt (C1.out.c.at_ x.su) e)
   have TB := Lib.hid (HT.out.below (C2.out.bel))
   have hsu2 := it_su2 BI.out
   have hib : w.heap.size ≤ wr.heap.size := C1.out.c.bel.size
   have hsm : x.su.length ≤ maxLen := by unfold maxLen; omega
   clear hrg hx h32 bi
   have HSJ := Lib.hid (subjL_acc (its.take k) [] x)
   rw [← take_one HX.out] at HSJ
   obtain ⟨fnd, hfnd⟩ : ∃ z, (getA E x.su).isSome = z := ⟨_, rfl⟩
   have HF := Lib.hid hfnd
   clear hfnd
   go_upto_if 30 with (first | refine wpList_load_mid rfl 59 _ rfl b (o + k * 36) rfl (itL x) _ HRG.out Tryz.underlying59 rfl (by rw [itL_length]; exact HSZ.out) ?_ | refine wpList_store_new rfl 59 _ _ rfl _ (itL x).toArray rfl rfl (by simp [itL_length, HSZ.out]) (by simp [itL_length]) (all_oneCell_toArray (one_itL x)) ?_ | (at_lookup; refine wpList_num_okF _ rfl _ _ rfl (w.heap.size + 1) E rfl C2.out.m x.su hsm rfl fnd HF.out ?_))
   go_cut [3] (fun sv wx => Hid (Con w wx (w.heap.size + 1) E sv (subjL [] (its.take (k + 1))) (fun s => numsOf s 0 (its.take k))) ∧ Hid (wx.heap[wr.heap.size]? = some (.cells (itL x).toArray 59 (0, 0))) ∧ wr.heap.size < wx.heap.size)
   case first =>
    cases fnd with
    | true =>
     have hin : x.su ∈ subjL [] (its.take k) := by
      have h1 := HF.out
      cases hg : getA E x.su with
      | none => rw [hg] at h1; exact absurd h1 (by simp)
      | some v => rw [← KS.out]; exact List.mem_map.2 ⟨_, getA_some hg, rfl⟩
     have e := HSJ.out
     rw [if_pos hin] at e
     have E1 := Lib.hid e
     clear hin e
     go_wp2_with fail
     go_meet
     exact ⟨by rw [E1.out]; exact C2, BI, by simp⟩
    | false =>
     have hin : ¬ x.su ∈ subjL [] (its.take k) := fun hm => by
      have h1 := HF.out
      rw [← KS.out] at hm
      cases hg : getA E x.su with
      | none => exact getA_none hg hm
      | some v => rw [hg] at h1; exact absurd h1 (by simp)
     have e := HSJ.out
     rw [if_neg hin] at e
     have E1 := Lib.hid e
     clear hin e
     have HN1 := Lib.hid (new1 (wr.alloc (.cells (itL x).toArray 59)) (enS x.su) 9)
     rw [World.size_alloc] at HN1
     have HN2 : Hid ((subjL [] (its.take k)).length + 1 ≤ maxLen) := Lib.hid (by have := subj_len (its.take k); rw [List.length_take] at this; (show _ ≤ _); unfold maxLen; omega)
     have HN3 : Hid (((subjL [] (its.take k)).length + 1) * 16 ≤ 140737488355328) := Lib.hid (by have := subj_len (its.take k); rw [List.length_take] at this; (show _ ≤ _); omega)
     clear HF
     go_wp2_with (first | (at_builtin; refine wpList_append_far _ rfl _ _ 41 rfl 9 i0 (.string ByteArray.empty) 1 16 Tryz.underlying41 hi hz0 hz1 hz2 rfl (by decide) _ (subjL [] (its.take k)).length ((subjL [] (its.take k)).map enS) rfl (C2.out.below (below_new _ (.cells #[enS x.su] 9))).su ⟨wr.heap.size + 1, 0, none⟩ 1 1 [enS x.su] rfl rfl HN1.out (texts_one [x.su]) HN2.out HN3.out ?_; intro sv4 w4 ho4 hg4 hf4))
     go_meet
     have C3 := C2.out.below (below_new _ (.cells #[enS x.su] 9))
     refine ⟨?_, ?_, ?_⟩
     ·rw [E1.out]
      exact Lib.hid (C3.more (by simpa using ho4) hg4 hf4)
     ·refine Lib.hid ((hg4.block wr.heap.size (by simp; omega) fun e => ?_).trans (blk_below (below_new _ _) BI.out))
      have := own_lt C1.out.c.su e.symm
      omega
     ·have := hg4.size; simp at this; omega
   obtain ⟨C4, KB4, hw4⟩ := hcut
   apply_assumption
   have hbk : wr.heap.size ≠ w.heap.size + 1 := fun e => by
    have := C4.out.m.noCells
    rw [← e] at this
    exact this _ _ _ KB4.out
   go_wp2_with fail
   refine Flow.wp_region_pre (KeepT w.heap.size [wr.heap.size, w.heap.size + 1]) (KeepT.refl _ _) (fun _ _ _ h k => h.trans k) [12] (.held [0, 1, 2, 3, 4, 5, 6, 7, 8] (.call 9 (.call 10 (.call 11 (.tail (.step [] 12 (.done []))))))) (by kernel_rfl) (by kernel_rfl) ?_
   have b' := fun (W : World) => ((Below.refl W.heap.size W).drew : Below W.heap.size W (World.drew W))
   have C5 := Lib.hid (C4.out.below (b' _))
   have K5 := Lib.hid (blk_below (b' _) KB4.out)
   have HTK : Hid (HT.out.below (C5.out.bel) = HT.out.below (C5.out.bel)) := Lib.hid rfl
   have T5 := Lib.hid (HT.out.below C5.out.bel)
   clear b' HTK C4 KB4 C2 BI HRG hsu2 hw4 C1 TB
   obtain ⟨kb, hkb⟩ : ∃ n, wr.heap.size = n := ⟨_, rfl⟩
   generalize World.drew _ = wd at *
   simp only [hkb] at K5 hbk ⊢
   have k2 := it_su2 K5.out
   have q2 := fun t => KeepT.cell (B := w.heap.size) (K := [kb, w.heap.size + 1]) (by simp) k2 t
   haveI nonE := cls_keep (B := w.heap.size) (K := [kb, w.heap.size + 1]) wd
   rw [Flow.wpPre_held]
   simp only [Flow.pick, List.getElem?_toArray, List.getElem?_cons_succ, List.getElem?_cons_zero]
   iterate 6 go_big_quiet_step (fail)
   refine BigFrame.wpQuiet_want rfl (fun K hK => quiet_lookup_r _ _ 150 rfl numK 41 Tryz.underlying150 nilV zeroStrs (w.heap.size + 1) E rfl (fun _ he => by obtain ⟨t, rfl⟩ := he; exact C5.out.m.keep (t.2.2 _ (by simp))) x.su hsm rfl (getV E x.su) (look_num E x.su) (hK _ ?_))
   clear hK K
   simp only [Act.put, List.setIfInBounds_toArray, List.set_cons_succ, List.set_cons_zero]
   go_big_quiet_step (fail)
   go_big_quiet_step (fail)
   refine wpQuiet_nil ?_
   clear nonE q2 k2
   rw [Flow.wpPre_call, Flow.callAt_eq]
   simp only [List.getElem?_toArray, List.getElem?_cons_succ, List.getElem?_cons_zero]
   rw [if_pos (by rfl)]
   refine Flow.wp_behind (fun K hK => ?_)
   go_wp2_with fail
   have h1k : (0 : Int) ≤ (k : Int) + 1 := by omega
   have h2k : (k : Int) + 1 ≤ 1000000000000000 := by omega
   refine (itoa_any _ _ h1k h2k T5.out).mono ?_; rintro e w7 ⟨rfl, b7⟩
   have hks : kb < wd.heap.size := blk_lt K5.out
   have hms : w.heap.size + 1 < wd.heap.size := C5.out.m.lt
   refine hK.out _ _ ⟨KeepT.of_below b7 (by omega) (by simp; omega), ?_⟩
   clear hK K
   have C7 := Lib.hid (C5.out.below b7)
   have K7 := Lib.hid (blk_below b7 K5.out)
   have T7 := Lib.hid (T5.out.below b7)
   have e7 : ((k : Int) + 1).toNat = k + 1 := by omega
   simp only [e7]
   have hs7 := b7.size
   clear b7 C5 K5 T5
   rw [Flow.wpPre_call, Flow.callAt_eq]
   simp only [List.getElem?_toArray, List.getElem?_cons_succ, List.getElem?_cons_zero]
   rw [if_pos (by rfl)]
   refine Flow.wp_behind (fun K hK => ?_)
   go_wp2_with fail
   refine hK.out _ _ ⟨KeepT.of_below (below_new _ _) (by omega) (by simp; omega), ?_⟩
   clear hK K
   have C8 := Lib.hid (C7.out.below (below_new w7 (.cells #[enS (Lib.decDigits (k + 1))] 9)))
   have K8 := Lib.hid (blk_below (below_new w7 (.cells #[enS (Lib.decDigits (k + 1))] 9)) K7.out)
   have N8 := Lib.hid (new1 w7 (enS (Lib.decDigits (k + 1))) 9)
   have hs8 : w7.heap.size < (w7.alloc (.cells #[enS (Lib.decDigits (k + 1))] 9)).heap.size := by simp
   clear C7 K7 T7
   generalize w7.alloc (.cells #[enS (Lib.decDigits (k + 1))] 9) = w8 at *
   rw [Flow.wpPre_call, Flow.callAt_eq]
   simp only [List.getElem?_toArray, List.getElem?_cons_succ, List.getElem?_cons_zero]
   rw [if_pos (by rfl)]
   refine Flow.wp_behind (fun K hK => ?_)
   have hnl := nums_len (its.take k) x.su 0
   rw [List.length_take] at hnl
   refine wp_app_far _ _ 41 rfl 9 i0 (.string ByteArray.empty) 1 16 Tryz.underlying41 hi hz0 hz1 hz2 rfl (by decide) _ (numsOf x.su 0 (its.take k)).length ((numsOf x.su 0 (its.take k)).map enS) rfl (C8.out.at_ x.su) _ 1 _ [enS (Lib.decDigits (k + 1))] rfl rfl N8.out (texts_one [_]) (by unfold maxLen; omega) (by omega) ?_
   intro v9 w9 hown9 hg9 hf9
   have nb := C8.out.nb_at x.su
   have nk : some kb ≠ (getV E x.su).ownBlock := fun e => by
    have := NK.out kb e.symm
    omega
   refine hK.out _ _ ⟨KeepT.grown hg9 (by omega) (C8.out.lo_at x.su) (fun k hk => by
    simp only [List.mem_cons, List.not_mem_nil, or_false] at hk
    rcases hk with rfl | rfl
    ·exact ⟨by omega, nk⟩
    ·exact ⟨by omega, nb⟩), ?_⟩
   clear hK K
   have M9 := Lib.hid (C8.out.m.kept hg9 nb)
   rw [Flow.wpPre_tail, Flow.wpSched_step]
   simp only [Flow.pick, Act.put, List.setIfInBounds_toArray, List.set_cons_succ, List.set_cons_zero]
   refine wpQuiet_nil ?_
   rw [Flow.callAt_eq]
   simp only [List.getElem?_toArray, List.getElem?_cons_succ, List.getElem?_cons_zero]
   rw [if_pos (by rfl)]
   refine Flow.wp_behind (fun K hK => ?_)
   have hEl : E.length ≤ 100000 := by
    have h1 := congrArg List.length KS.out
    have h2 := subj_len (its.take k)
    rw [List.length_map] at h1
    rw [List.length_take] at h2
    omega
   refine wp_mapUpdate_a w9 _ _ _ 150 rfl numK 41 Tryz.underlying150 (w.heap.size + 1) E rfl M9.out (by unfold maxLen; omega) x.su hsm v9 rfl rfl ?_
   intro w10 hm10 hg10
   refine hK.out _ _ ⟨trivial, ?_⟩
   clear hK K
   have hown9 : w9.ownsRow 0 9 1 v9 (numsOf x.su 0 (its.take k) ++ [Lib.decDigits (k + 1)]).length ((numsOf x.su 0 (its.take k) ++ [Lib.decDigits (k + 1)]).map enS) := by
    rw [List.length_append, List.map_append]; exact hown9
   have C10 := C8.out.put hown9 hg9 hf9 hm10 hg10
   rw [← nums_succ HX.out] at C10
   have KS10 : (putA E x.su v9).map (·.1) = subjL [] (its.take (k + 1)) := by
    rw [keys_putA, HSJ.out, KS.out]
    by_cases hm : x.su ∈ subjL [] (its.take k) <;> simp [hm]
   have C11 : Hid (Con1 w w10 (w.heap.size + 1) its (k + 1) (putA E x.su v9) _) := Lib.hid ⟨C10, KS10⟩
   clear C10 KS10 hown9 hg9 hf9 hm10 hg10 nb nk M9 C8 K8 N8 hEl hnl
   rw [Flow.wpSched_done]
   simp only [Flow.pick, Act.put]
   refine wpQuiet_nil ?_
   go_wp2_with fail
   go_roundg (its.length - (k + 1))
   case measure => omega
   case rel => exact ⟨k + 1, _, by omega, by omega, by simp, C11⟩
  ·obtain rfl : k = its.length := by omega
   have C2 : Hid (Con w wr (w.heap.size + 1) E _ (subjL [] its) (fun s => numsOf s 0 its)) := Lib.hid (by have := C1.out.c; rw [List.take_length] at this; exact this)
   have KS : Hid (E.map (·.1) = subjL [] its) := Lib.hid (by have := C1.out.ks; rw [List.take_length] at this; exact this)
   obtain ⟨A2, c2, hsv⟩ := own2_slice C2.out.su
   subst hsv
   have hcc := own2_cap C2.out.su
   obtain ⟨RD, hl1, hl2⟩ := Rd.of_own C2.out.su
   have RD := Lib.hid RD
   have hS := subj_len its
   have LD := Lib.hid (show linesD its = (subjL [] its).map (lineOf its) from rfl)
   have HSL := Lib.hid (fun s (h : s ∈ subjL [] its) => (subjL_mem its [] s h).resolve_left (by simp))
   clear hl1 C1
   obtain ⟨S, hSe⟩ : ∃ S, subjL [] its = S := ⟨_, rfl⟩
   simp only [hSe] at *
   have SL : Hid (∀ s ∈ S, s.length ≤ 10000) := Lib.hid (fun s h => by
    obtain ⟨x, hx, e⟩ := HSL.out s h
    rw [← e]; exact HS.out x hx)
   have O0 : Hid (wr.ownsRow wr.heap.size 9 1 (.slice none 0 0) (([] : List (List UInt8))).length ((([] : List (List UInt8))).map enS) ∧ Below wr.heap.size wr wr) := Lib.hid ⟨own2_nil _ _ _ _, Below.refl _ _⟩
   go_wp2_with fail
   go_loopg [9, 11, 12, 51] S.length (fun gg lv _ _ kv wq => ∃ k : Nat, k ≤ S.length ∧ S.length - k ≤ gg ∧ kv = i64 k ∧ Hid (wq.ownsRow wr.heap.size 9 1 lv ((S.take k).map (lineOf its)).length (((S.take k).map (lineOf its)).map enS) ∧ Below wr.heap.size wr wq))
   case atStart => exact ⟨0, Nat.zero_le _, by omega, rfl, O0⟩
   case round =>
    obtain ⟨k, hk, hgg, rfl, OW⟩ := hrel
    clear O0
    by_cases hlt : k < S.length
    ·obtain ⟨b, o, x, rfl, hbl, hx, hcell⟩ := (RD.out.below OW.out.2).at_ hlt
     have HX := Lib.hid hx
     have hxm := List.mem_of_getElem? hx
     have hxl := SL.out x hxm
     have hsm : x.length ≤ maxLen := by unfold maxLen; omega
     have C3 := Lib.hid (C2.out.below OW.out.2)
     obtain ⟨A3, c3, hv3⟩ := own2_slice (C3.out.at_ x)
     have hcc3 := own2_cap (by rw [← hv3]; exact C3.out.at_ x)
     obtain ⟨RN, -, hl3⟩ := Rd.of_own (by rw [← hv3]; exact C3.out.at_ x)
     have RN := Lib.hid RN
     have NJ := Lib.hid (nums_join hn x)
     have NL := nums_len its x 0
     have LO := Lib.hid (show lineOf its x = (if x = [] then wNo else x) ++ (wPar ++ Lib.join (numsOf x 0 its) wCm ++ [41]) from rfl)
     have HV3 := Lib.hid hv3
     clear hxm hx hv3
     go_wp2_with (first | (at_lookup; refine wpList_num _ rfl _ _ rfl (w.heap.size + 1) E rfl C3.out.m x hsm rfl ?_; rw [HV3.out]))
     refine (join_any2 A3 c3 _ wCm _ RN.out (by omega) hl3 (by have := NJ.out; omega)).mono ?_; rintro e w5 ⟨rfl, b5⟩
     have O5 := Lib.hid (own_below2 OW.out.1 b5)
     have B5 := Lib.hid (OW.out.2.tr b5)
     have LO2 := Lib.hid (take_one_map (lineOf its) HX.out)
     clear b5 C3 RN OW NL hl3 HV3
     have hJ5 := NJ.out
     clear NJ
     generalize Lib.join (numsOf x 0 its) wCm = J5 at *
     have hlen5 : ((S.take k).map (lineOf its)).length ≤ 1000000000 := by rw [List.length_map, List.length_take]; omega
     by_cases he : x = []
     ·subst he
      have E1 : Hid ((Value.string ((⟨#[40, 110, 111, 32, 115, 117, 98, 106, 101, 99, 116, 41]⟩ : ByteArray) ++ ((⟨#[32, 40]⟩ : ByteArray) ++ ⟨J5.toArray⟩ ++ ⟨#[41]⟩))) = enS (lineOf its [])) := Lib.hid (by (show _ = _); rw [LO.out]; rw [if_pos rfl]; exact str_congr (by rw [← bcat, ← bcat, ← bcat]; rfl))
      clear LO
      go_wp2_with (first | (at_builtin; rw [E1.out]; refine wpList_app1 _ rfl _ _ rfl _ _ _ (lineOf its []) O5.out rfl rfl hlen5 B5.out.size ?_; intro v6 w6 o6 b6))
      rw [← LO2.out] at o6
      have OW6 := Lib.hid (And.intro o6 (Below.trans B5.out b6))
      clear o6 b6 O5 B5
      go_wp2_with fail
      go_roundg (S.length - (k + 1))
      case measure => omega
      case rel => exact ⟨k + 1, by omega, by omega, by simp, OW6⟩
     ·have he1 := he
      have E1 : Hid ((Value.string ((⟨x.toArray⟩ : ByteArray) ++ ((⟨#[32, 40]⟩ : ByteArray) ++ ⟨J5.toArray⟩ ++ ⟨#[41]⟩))) = enS (lineOf its x)) := Lib.hid (by (show _ = _); rw [LO.out]; rw [if_neg he]; exact str_congr (by rw [← bcat, ← bcat, ← bcat]; rfl))
      clear LO
      go_upto_if 62 with fail
      rw [show x.isEmpty = false by cases x with | nil => exact absurd rfl he | cons _ _ => rfl]
      go_wp2_with (first | (at_builtin; rw [E1.out]; refine wpList_app1 _ rfl _ _ rfl _ _ _ (lineOf its x) O5.out rfl rfl hlen5 B5.out.size ?_; intro v6 w6 o6 b6))
      rw [← LO2.out] at o6
      have OW6 := Lib.hid (And.intro o6 (Below.trans B5.out b6))
      clear o6 b6 O5 B5
      go_wp2_with fail
      go_roundg (S.length - (k + 1))
      case measure => omega
      case rel => exact ⟨k + 1, by omega, by omega, by simp, OW6⟩
    ·obtain rfl : k = S.length := by omega
     obtain ⟨A4, c4, hv4⟩ := own2_slice OW.out.1
     go_wp2_with fail
     go_ret
     have h1 := OW.out.1
     have h2 := C2.out.bel.tr OW.out.2
     rw [List.take_length, ← LD.out] at h1
     exact ⟨⟨_, rfl, own_any h1 C2.out.bel.size⟩, h2⟩
/-- The sink's block and all rows of bytes are as they were. -/
structure SkW (s : Nat) (w w' : World) : Prop where
 size : w.heap.size ≤ w'.heap.size
 own : w'.heap[s]? = w.heap[s]?
 byte : ∀ (k : Nat) (c : Array Value) (fz : Nat × Nat), w.heap[k]? = some (Obj.cells c 5 fz) → w'.heap[k]? = w.heap[k]?
theorem SkW.of_below {s : Nat} {w w' : World} (h : Below w.heap.size w w') (hs : s < w.heap.size) : SkW s w w' := ⟨h.size, h.block s hs, fun k _ _ e => h.block k (blk_lt e)⟩
/-- What a call of the sink keeps. -/
structure SkB (N s : Nat) (w w' : World) : Prop where
 below : Below N w w'
 oth : Lib.OthersKept 5 (some s) w w'
theorem SkB.refl (N s : Nat) (w : World) : SkB N s w w := ⟨Below.refl _ _, Lib.OthersKept.refl _ _ _⟩
theorem SkB.trans {N s : Nat} {u v w : World} (h : SkB N s u v) (k : SkB N s v w) : SkB N s u w := ⟨h.1.trans k.1, h.2.trans k.2⟩
theorem SkB.of_below {N s : Nat} {w w' : World} (h : Below w.heap.size w w') (hN : N ≤ w.heap.size) : SkB N s w w' := ⟨h.mono hN, fun k _o hk _ _ => (h.block k (blk_lt hk)).trans hk⟩
theorem SkB.blk {N s : Nat} {w w' : World} (h : SkB N s w w') {b : Nat} {cs : Array Value} {t : TypeId} {fr : Nat × Nat} (hb : w.heap[b]? = some (.cells cs t fr)) (hs : b ≠ s) (ht : t ≠ 5) : w'.heap[b]? = some (.cells cs t fr) :=
 h.oth b _ hb (fun e => hs (by injection e)) (fun c fz e => ht (by injection e))
theorem SkB.obj {N s : Nat} {w w' : World} (h : SkB N s w w') {b : Nat} {o : Obj} (hb : w.heap[b]? = some o) (hs : b ≠ s) (ht : ∀ c t fz, o ≠ .cells c t fz) : w'.heap[b]? = some o :=
 h.oth b _ hb (fun e => hs (by injection e)) (fun c fz => ht c _ fz)
structure Sink (F s N M : Nat) (T : List UInt8 → World → Prop) : Prop where
 ent : ∀ (args : Array Value) (w : World), (callFunc F args).run Tryz.prog w = .ok (.enter F args) w
 lt : ∀ t w, T t w → N ≤ s ∧ s < w.heap.size
 call : ∀ (w : World) (t : List UInt8) (b : Nat) (ps : List (List UInt8)), T t w → w.heap[b]? = some (.cells (ps.map enS).toArray 9 (0, 0)) → 0 < ps.length → ps.length ≤ 1000 → t.length + ps.flatten.length ≤ M →
  Calls Tryz.prog F #[.slice (some ⟨b, 0, none⟩) ps.length ps.length, .pointer (some ⟨s, 0, none⟩)] w fun e w' => e = .returned (.tuple #[]) ∧ T (t ++ ps.flatten) w' ∧ SkB N s w w'
 keep : ∀ (t : List UInt8) (w w' : World), T t w → SkW s w w' → T t w'
/-! ### into a Builder -/
abbrev TxT (N s : Nat) (t : List UInt8) (w : World) : Prop := Lib.IsBuilder 112 5 N s (Lib.byteCells t) w
theorem bldAt_keep {N s : Nat} {p : Value} {bs : List Value} {w w' : World} (h : Lib.BuilderAt 112 5 N s p bs w) (k : SkW s w w') : Lib.BuilderAt 112 5 N s p bs w' := by
 obtain ⟨hB, v, hb, hown, hne⟩ := h
 refine ⟨hB, v, k.own.trans hb, own_keep hown fun g _ e => ?_, hne⟩
 obtain ⟨c, fz, hg⟩ := own_row hown g e
 exact k.byte g c fz hg
theorem txT_blk {N s : Nat} {t : List UInt8} {w : World} (h : TxT N s t w) : N ≤ s ∧ ∃ c fr, w.heap[s]? = some (.cells c 112 fr) := by
 rcases h with ⟨hB, v, hb, _⟩ | ⟨hB, v, hb, _⟩
 ·exact ⟨hB, _, _, hb⟩
 ·exact ⟨hB, _, _, hb⟩
theorem flat_take {ps : List (List UInt8)} {k : Nat} {p : List UInt8} (h : ps[k]? = some p) : (ps.take (k + 1)).flatten = (ps.take k).flatten ++ p := by
 obtain ⟨hl, hx⟩ := List.getElem?_eq_some_iff.1 h
 rw [List.take_succ_eq_append_getElem hl, hx, List.flatten_append]; simp
theorem flat_le {ps : List (List UInt8)} {k : Nat} {p : List UInt8} (h : ps[k]? = some p) : (ps.take k).flatten.length + p.length ≤ ps.flatten.length := by
 rw [← List.length_append, ← flat_take h]
 have := congrArg (fun l => l.flatten.length) (List.take_append_drop (k + 1) ps)
 simp only [List.flatten_append, List.length_append] at this
 omega
theorem parts_cell {w : World} {b : Nat} {ps : List (List UInt8)} {fr : Nat × Nat} (h : w.heap[b]? = some (.cells (ps.map enS).toArray 9 fr)) {k : Nat} {p : List UInt8} (hk : ps[k]? = some p) : w.cell? ⟨b, k, none⟩ = some (enS p) := by
 rw [blk_cell h k]
 simp [hk]
set_option maxRecDepth 100000 in
set_option maxHeartbeats 4000000 in
theorem text1_any (N s : Nat) (w : World) (t : List UInt8) (b : Nat) (ps : List (List UInt8)) (hT : TxT N s t w) (hN : N ≤ w.heap.size) (hb : w.heap[b]? = some (.cells (ps.map enS).toArray 9 (0, 0))) (hn : ps.length ≤ 1000) (hl : t.length + ps.flatten.length ≤ 100000000000000) :
  Calls Tryz.prog 84 #[.slice (some ⟨b, 0, none⟩) ps.length ps.length, .pointer (some ⟨s, 0, none⟩)] w fun e w' => e = .returned (.tuple #[]) ∧ TxT N s (t ++ ps.flatten) w' ∧ SkB N s w w' := by
 have HB := Lib.hid hb
 have hne : b ≠ s := fun e => by
  obtain ⟨_, c, fr, h⟩ := txT_blk hT
  rw [← e, hb] at h
  simp at h
 have T0 : Hid (TxT N s (t ++ (ps.take 0).flatten) w ∧ SkB N s w w) := Lib.hid ⟨by simpa using hT, SkB.refl _ _ _⟩
 clear hb hT
 go_enter Tryz.func84, Tryz.ntmps84
 go_wp2_with fail
 go_loopg [4, 7] ps.length (fun gg _ kv wr => ∃ k : Nat, k ≤ ps.length ∧ ps.length - k ≤ gg ∧ kv = i64 k ∧ Hid (TxT N s (t ++ (ps.take k).flatten) wr ∧ SkB N s w wr))
 case atStart => exact ⟨0, Nat.zero_le _, by omega, rfl, T0⟩
 case round =>
  obtain ⟨k, hk, hgg, rfl, TW⟩ := hrel
  clear T0
  by_cases hlt : k < ps.length
  ·obtain ⟨p, hp⟩ : ∃ p, ps[k]? = some p := ⟨_, List.getElem?_eq_getElem hlt⟩
   have hcell := parts_cell (TW.out.2.blk HB.out hne (by decide)) hp
   have HP := Lib.hid hp
   have hfl := flat_le hp
   have hlb : (Lib.byteCells (t ++ (ps.take k).flatten)).length = t.length + (ps.take k).flatten.length := by rw [Lib.byteCells_length, List.length_append]
   have hsp : (⟨p.toArray⟩ : ByteArray).size = p.length := by show p.toArray.size = _; simp
   have HLB := Lib.hid hlb
   have HSP := Lib.hid hsp
   clear hp hlb hsp
   go_wp2_with fail
   refine (bldStr N s _ _ _ TW.out.1 (by rw [HLB.out, HSP.out]; omega) (Nat.le_trans hN TW.out.2.below.size)).mono ?_
   rintro e w2 ⟨rfl, t2, b2, o2⟩
   have T2 : Hid (TxT N s (t ++ (ps.take (k + 1)).flatten) w2 ∧ SkB N s w w2) := Lib.hid ⟨by
    have : Lib.byteCells (t ++ (ps.take (k + 1)).flatten) = Lib.byteCells (t ++ (ps.take k).flatten) ++ Lib.strCells ⟨p.toArray⟩ := by
     rw [flat_take HP.out]; simp [Lib.byteCells, Lib.strCells]
    unfold TxT
    rw [this]; exact .inr t2, TW.out.2.trans ⟨b2, o2⟩⟩
   clear t2 b2 o2 TW
   go_wp2_with fail
   go_roundg (ps.length - (k + 1))
   case measure => omega
   case rel => exact ⟨k + 1, by omega, by omega, by simp, T2⟩
  ·obtain rfl : k = ps.length := by omega
   have TE := TW.out
   rw [List.take_length] at TE
   go_wp2_with fail
   go_end0
   exact ⟨rfl, TE⟩
theorem sink_text (N s : Nat) : Sink 84 s N 100000000000000 (fun t w => TxT N s t w) where
 ent := enters_of Tryz.func84 (by kernel_rfl) rfl
 lt := fun t w h => by
  obtain ⟨h1, c, fr, h2⟩ := txT_blk h
  exact ⟨h1, blk_lt h2⟩
 call := fun w t b ps hT hb _ hn hl => by
  obtain ⟨h1, c, fr, h2⟩ := txT_blk hT
  exact text1_any N s w t b ps hT (Nat.le_trans h1 (Nat.le_of_lt (blk_lt h2))) hb hn hl
 keep := fun t w w' h k => h.imp (fun h => bldAt_keep h k) (fun h => bldAt_keep h k)
/-! ### counted -/
def TxN (N s : Nat) (t : List UInt8) (w : World) : Prop := N ≤ s ∧ w.heap[s]? = some (.cells #[i64 t.length] 3 (0, 0))
set_option maxRecDepth 100000 in
set_option maxHeartbeats 4000000 in
theorem size1_any (N s : Nat) (w : World) (t : List UInt8) (b : Nat) (ps : List (List UInt8)) (hT : TxN N s t w) (hb : w.heap[b]? = some (.cells (ps.map enS).toArray 9 (0, 0))) (hn : ps.length ≤ 1000) (hl : t.length + ps.flatten.length ≤ 100000000000000) :
  Calls Tryz.prog 105 #[.slice (some ⟨b, 0, none⟩) ps.length ps.length, .pointer (some ⟨s, 0, none⟩)] w fun e w' => e = .returned (.tuple #[]) ∧ TxN N s (t ++ ps.flatten) w' ∧ SkB N s w w' := by
 have HB := Lib.hid hb
 have hne : b ≠ s := fun e => by
  have h := hT.2
  rw [← e, hb] at h
  simp at h
 have T0 : Hid (TxN N s (t ++ (ps.take 0).flatten) w ∧ SkB N s w w) := Lib.hid ⟨by simpa using hT, SkB.refl _ _ _⟩
 clear hb hT
 go_enter Tryz.func105, Tryz.ntmps105
 go_wp2_with fail
 go_loopg [4, 7] ps.length (fun gg _ kv wr => ∃ k : Nat, k ≤ ps.length ∧ ps.length - k ≤ gg ∧ kv = i64 k ∧ Hid (TxN N s (t ++ (ps.take k).flatten) wr ∧ SkB N s w wr))
 case atStart => exact ⟨0, Nat.zero_le _, by omega, rfl, T0⟩
 case round =>
  obtain ⟨k, hk, hgg, rfl, TW⟩ := hrel
  clear T0
  by_cases hlt : k < ps.length
  ·obtain ⟨p, hp⟩ : ∃ p, ps[k]? = some p := ⟨_, List.getElem?_eq_getElem hlt⟩
   have hcell := parts_cell (TW.out.2.blk HB.out hne (by decide)) hp
   have HP := Lib.hid hp
   have hfl := flat_le hp
   have hcs := blk_cell TW.out.1.2 0
   have hfs := blk_free TW.out.1.2 0
   have hnl : (t ++ (ps.take k).flatten).length ≤ 100000000000000 := by rw [List.length_append]; omega
   have hnp : (t ++ (ps.take k).flatten).length + p.length ≤ 100000000000000 := by rw [List.length_append]; omega
   obtain ⟨L, hL⟩ : ∃ L, (t ++ (ps.take k).flatten).length = L := ⟨_, rfl⟩
   have HL := Lib.hid hL
   rw [hL] at hcs hnl hnp
   clear hp hL
   have T2 : Hid (TxN N s (t ++ (ps.take (k + 1)).flatten) (wr.setCell ⟨s, 0, none⟩ (.int .i64 (↑L + ↑p.length))) ∧ SkB N s w (wr.setCell ⟨s, 0, none⟩ (.int .i64 (↑L + ↑p.length)))) := Lib.hid ⟨⟨TW.out.1.1, by
    rw [blk_set TW.out.1.2 0]
    have e2 : (t ++ (ps.take (k + 1)).flatten).length = L + p.length := by
     rw [flat_take HP.out, ← List.append_assoc, List.length_append, HL.out]
    rw [e2]; simp⟩, TW.out.2.trans ⟨(Below.refl _ _).setCell (p := ⟨s, 0, none⟩) TW.out.1.1 _, (Lib.OthersKept.refl _ _ _).setCell ⟨s, 0, none⟩ rfl _⟩⟩
   go_wp2_with fail
   clear TW
   go_roundg (ps.length - (k + 1))
   case measure => omega
   case rel => exact ⟨k + 1, by omega, by omega, by simp, T2⟩
  ·obtain rfl : k = ps.length := by omega
   have TE := TW.out
   rw [List.take_length] at TE
   go_wp2_with fail
   go_end0
   exact ⟨rfl, TE⟩
theorem sink_size (N s : Nat) : Sink 105 s N 100000000000000 (fun t w => TxN N s t w) where
 ent := enters_of Tryz.func105 (by kernel_rfl) rfl
 lt := fun t w h => ⟨h.1, blk_lt h.2⟩
 call := fun w t b ps hT hb _ hn hl => size1_any N s w t b ps hT hb hn hl
 keep := fun t w w' h k => ⟨h.1, k.own.trans h.2⟩
end Go.Proofs.YtlchcjnbbhpiaaaGreatDoor
