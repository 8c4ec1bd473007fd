/- Contracts: the law's item, a builder that is nil.
   Arguments of the statements of this chapter laid open: an item, a digest. -/
import Derived.Test.YtlchcjnbbhpiaaaGreatDoorZk
import Derived.Test.YtlchcjnbbhpiaaaGreatDoorZc
import Derived.Deep.Slices
import Derived.Deep.Fields
import Derived.ChangeSame
import Derived.OpenShut
import Derived.SliceStrings
import Derived.ProofKit
namespace Go.Proofs.YtlchcjnbbhpiaaaGreatDoor
open Go.RowKit Go.Shelf Go.Dg Go.Maps
theorem results_cell2 {P : Program} {fn : Func} {tmps : Array Value} {w : World} {a i : Nat} {ty : TypeId} {q : Addr} {vs x : Value} (hr : fn.results = #[.cell a ty, .tmp i]) (ha : tmps.getD a undef = .pointer (some q)) (hl : (loadVar ty q).run P w = .ok vs w) (hx : tmps.getD i undef = x) : (results fn tmps).run P w = .ok (.tuple #[vs, x]) w := by
 unfold results
 rw [hr]
 have hA : (asAddr (tmps.getD a undef)).run P w = .ok q w := by rw [ha]; rfl
 have hmap : ∀ u : Sem (List Value), (Functor.map List.toArray u) = u >>= fun l => pure l.toArray := fun _ => rfl
 have hp : ∀ {α : Type} (u : α), (pure u : Sem α).run P w = .ok u w := fun _ => rfl
 simp only [List.mapM_toArray, List.mapM_cons, List.mapM_nil, hmap, Sem.run_bind, hA, Result.andThen, hl, hx, hp]
 rfl
/-- An item is put together. -/
theorem built_it (x : It) : Tryz.prog.built 59 [(0, enS x.fr), (1, i64 x.dt), (2, enS x.su), (3, idA x.ky), (4, enS x.bo)] = some (itL x).toArray := by kernel_rfl
theorem wpList_build_it {ops : Array Oper} {rest : List Oper} {o : Oper} {a : Act} {w : World} {Q : Exit → Act → World → Prop} (hg : o.guard = none) (X0 X1 X2 X3 X4 : Operand) (ho : o.op = .build 59 #[(0, X0), (1, X1), (2, X2), (3, X3), (4, X4)]) (x : It)
  (h0 : a.eval X0 = enS x.fr) (h1 : a.eval X1 = i64 x.dt) (h2 : a.eval X2 = enS x.su) (h3 : a.eval X3 = idA x.ky) (h4 : a.eval X4 = enS x.bo)
  (h : wpList Tryz.prog ops Q rest (a.put o.dst (itA x)) w) : wpList Tryz.prog ops Q (o :: rest) a w :=
 wpList_plain hg fun K hK => by
  unfold Oper.wp execOp
  simp only [ho, Sem.run_bind, run_build w 59 #[(0, enS x.fr), (1, i64 x.dt), (2, enS x.su), (3, idA x.ky), (4, enS x.bo)] (itL x).toArray (built_it x), List.map_toArray, List.map_cons, List.map_nil, h0, h1, h2, h3, h4, Result.andThen_ok]
  exact hK _ _ h
set_option maxRecDepth 100000 in
set_option maxHeartbeats 4000000 in
theorem item_any (x : It) (w : World) : Calls Tryz.prog 25 #[itA x] w fun e w' => e = .returned (itA x) ∧ Below w.heap.size w w' := by
 have HSZ := Lib.hid it_size
 have HSI := Lib.hid id_size
 go_enter Tryz.func25, Tryz.ntmps25
 go_upto_region 1 with fail
 generalize hw1 : World.alloc (World.alloc w _) _ = w1
 have b1 : w1.heap[w.heap.size]? = some (.cells (itL x).toArray 53 (0, 0)) := by rw [← hw1]; exact blk_old _ (blk_new w _)
 have b2 : w1.heap[w.heap.size + 1]? = some (.cells (itL it0).toArray 59 (0, 0)) := by
  rw [← hw1]
  have h := blk_new (w.alloc (.cells (itL x).toArray 53)) (.cells (itL it0).toArray 59)
  rw [World.size_alloc] at h
  exact h
 have K1 := Lib.hid (show Below w.heap.size w w1 from hw1 ▸ ((below_new _ _).tr (below_new _ _)))
 have B1 := Lib.hid b1
 have B2 := Lib.hid b2
 have KI := Lib.hid (it_ky B1.out)
 obtain ⟨c0, c1, c2, c3⟩ := it_cells B1.out
 clear b1 b2 hw1
 go_wp2_with (first | (refine wpList_load_mid rfl 51 _ rfl w.heap.size 3 rfl (idL x.ky) _ KI.out Tryz.underlying51 rfl (by kernel_rfl) ?_) | (refine wpList_build_it rfl _ _ _ _ _ rfl x rfl rfl rfl rfl rfl ?_; refine wpList_store_mid rfl 59 _ _ rfl (w.heap.size + 1) 0 (itL x).toArray rfl rfl (there_at B2.out (by rw [List.size_toArray, List.size_toArray, itL_length, itL_length]; exact Nat.le_refl _)) (by rw [List.size_toArray, itL_length]; exact HSZ.out) (all_oneCell_toArray (one_itL x)) ?_))
 have HRz := set_range B2.out (n := 36) (by rw [List.size_toArray, itL_length]) (itL x) (itL_length x)
 have hload := run_loadVar_mid (P := Tryz.prog) _ (w.heap.size + 1) 0 59 (itL x) _ HRz Tryz.underlying59 rfl (by rw [itL_length]; exact HSZ.out)
 have hbs := but_setCells (b := w.heap.size + 1) (itL x) 0 w1
 exact bodyPost_ret (v := itA x) (results_cell1 (a := 2) rfl rfl hload) rfl ⟨rfl, hbs.tail K1.out (by omega)⟩
open Go.ChangeShapes Go.WideShapes Go.ChangeAt Go.RowKit Go.Dg Go.Maps Go.Deep
section
variable {H : Type} {enc : TypeId × Value → H} {P : Program} {W : World}
/-- The cells of an array of bytes. -/
theorem open_bytes {t e : TypeId} {n : Nat} {base : Nat} {sp : Nat → Bool} {held : Bool} {fuel : Nat} {cs : List Value} {x : DataW H × List MemPlace} (ht : P.underlying t = some (.array n e)) (he : P.underlying e = some (.int .u8)) (ce : P.cellsOf e = 1) (ct : cs.length = n)
  (h : DataW.trod enc P W base sp held fuel t cs = some x) : ∃ bs : List UInt8, bs.length = n ∧ cs = bs.map enB := by
 obtain ⟨xs, k, _, _, hl, hxl, hf⟩ := DataW.trod_array ht h
 have each : ∀ i, i < n → ∃ b : UInt8, cs[i]? = some (enB b) := fun i hi => by
  have h1 := hf i hi
  rw [List.getElem?_eq_getElem (by omega)] at h1
  obtain ⟨z, e1, _, wz⟩ := DataW.trod_int he h1
  rw [ce, Nat.mul_one, List.drop_eq_getElem_cons (by omega), List.take_succ_cons, List.take_zero] at e1
  injection e1 with e1
  have em : IntKind.u8.min = 0 := by decide
  have eM : IntKind.u8.max = 255 := by decide
  simp [Lit.wf, em, eM] at wz
  refine ⟨UInt8.ofNat z.toNat, ?_⟩
  rw [List.getElem?_eq_getElem (by omega), e1]
  have : (UInt8.ofNat z.toNat).toNat = z.toNat := by rw [UInt8.toNat_ofNat']; omega
  unfold enB
  rw [this, Int.toNat_of_nonneg (by omega)]
 obtain ⟨q, hq⟩ := choose_lt each
 refine ⟨(List.range n).map q, by simp, ?_⟩
 apply List.ext_getElem?
 intro i
 by_cases hi : i < n
 ·rw [hq i hi]; simp [hi]
 ·rw [List.getElem?_eq_none (by omega), List.getElem?_eq_none (by simp; omega)]
/-- The cell of a text. -/
theorem open_str {t : TypeId} {base : Nat} {sp : Nat → Bool} {held : Bool} {fuel : Nat} {cs : List Value} {x : DataW H × List MemPlace} (ht : P.underlying t = some .string) (h : DataW.trod enc P W base sp held fuel t cs = some x) : ∃ s : List UInt8, cs = [enS s] ∧ s.length ≤ maxLen := by
 obtain ⟨b, e, _, hb⟩ := DataW.trod_string ht h
 refine ⟨b.data.toList, by rw [e], ?_⟩
 have h1 : b.data.size ≤ maxLen := hb
 rwa [Array.length_toList]
theorem cut_it {cs : List Value} (h : cs.length = 36) : cs = (cs.drop 0).take 1 ++ ((cs.drop 1).take 1 ++ ((cs.drop 2).take 1 ++ ((cs.drop 3).take 32 ++ (cs.drop 35).take 1))) := by
 apply List.ext_getElem?
 intro i
 simp only [List.getElem?_append, List.getElem?_take, List.getElem?_drop, List.length_take, List.length_drop]
 grind
theorem itL_eq {fr su ky bo : List UInt8} {dt : Int} (h : ky.length = 32) : itL ⟨fr, dt, su, ky, bo⟩ = [enS fr] ++ ([i64 dt] ++ ([enS su] ++ (ky.map enB ++ [enS bo]))) := by
 rw [← idL_map h]; rfl
/-- The lengths of the texts of an item. -/
def LenI (x : It) : Prop := x.fr.length ≤ maxLen ∧ x.su.length ≤ maxLen ∧ x.bo.length ≤ maxLen
theorem slot_none {b o : Nat} {s : Option Nat} {v : Value} (h : W.cell? ⟨b, o, s⟩ = some v) : s = none := by
 cases s with
 | none => rfl
 | some q =>
  unfold World.cell? at h
  split at h <;> simp at h
set_option maxRecDepth 100000 in
/-- The cells of an item. -/
theorem open_it {t tb : TypeId} {f0 f1 f2 f3 f4 : Field} {base : Nat} {sp : Nat → Bool} {held : Bool} {fuel : Nat} {cs : List Value} {x : DataW H × List MemPlace} (ht : P.underlying t = some (.struct #[f0, f1, f2, f3, f4])) (ct : P.cellsOf t = 36)
  (o0 : f0.offset = 0) (o1 : f1.offset = 1) (o2 : f2.offset = 2) (o3 : f3.offset = 3) (o4 : f4.offset = 35) (c0 : P.cellsOf f0.type = 1) (c1 : P.cellsOf f1.type = 1) (c2 : P.cellsOf f2.type = 1) (c3 : P.cellsOf f3.type = 32) (c4 : P.cellsOf f4.type = 1)
  (u0 : P.underlying f0.type = some .string) (u1 : P.underlying f1.type = some (.int .i64)) (u2 : P.underlying f2.type = some .string) (u3 : P.underlying f3.type = some (.array 32 tb)) (ub : P.underlying tb = some (.int .u8)) (cb : P.cellsOf tb = 1) (u4 : P.underlying f4.type = some .string)
  (h : DataW.trod enc P W base sp held fuel t cs = some x) : ∃ m : It, cs = itL m ∧ m.ky.length = 32 ∧ LenI m ∧ (∃ z : Int, m.dt = z ∧ (Lit.int .i64 z).wf = true) := by
 obtain ⟨xs, k, _, rfl, hl, hxl, hf⟩ := DataW.trod_struct ht h
 match xs, hxl with
 | [y0, y1, y2, y3, y4], _ =>
 have g0 : DataW.trod enc P W base sp held k f0.type ((cs.drop f0.offset).take (P.cellsOf f0.type)) = some y0 := by simpa using hf 0 f0 rfl
 have g1 : DataW.trod enc P W base sp held k f1.type ((cs.drop f1.offset).take (P.cellsOf f1.type)) = some y1 := by simpa using hf 1 f1 rfl
 have g2 : DataW.trod enc P W base sp held k f2.type ((cs.drop f2.offset).take (P.cellsOf f2.type)) = some y2 := by simpa using hf 2 f2 rfl
 have g3 : DataW.trod enc P W base sp held k f3.type ((cs.drop f3.offset).take (P.cellsOf f3.type)) = some y3 := by simpa using hf 3 f3 rfl
 have g4 : DataW.trod enc P W base sp held k f4.type ((cs.drop f4.offset).take (P.cellsOf f4.type)) = some y4 := by simpa using hf 4 f4 rfl
 rw [o0, c0] at g0
 rw [o1, c1] at g1
 rw [o2, c2] at g2
 rw [o3, c3] at g3
 rw [o4, c4] at g4
 rw [ct] at hl
 obtain ⟨s0, e0, l0⟩ := open_str u0 g0
 obtain ⟨z1, e1, _, w1⟩ := DataW.trod_int u1 g1
 obtain ⟨s2, e2, l2⟩ := open_str u2 g2
 obtain ⟨bs, hb, e3⟩ := open_bytes u3 ub cb (by simp; omega) g3
 obtain ⟨s4, e4, l4⟩ := open_str u4 g4
 refine ⟨⟨s0, z1, s2, bs, s4⟩, ?_, hb, ⟨l0, l2, l4⟩, z1, rfl, w1⟩
 rw [cut_it hl, e0, e1, e2, e3, e4, itL_eq hb]
set_option maxRecDepth 100000 in
theorem it_at {base : Nat} {sp : Nat → Bool} {held : Bool} (fuel : Nat) (cs : List Value) (x : DataW H × List MemPlace) (h : DataW.trod enc Tryz.prog W base sp held fuel 53 cs = some x) : ∃ m : It, cs = itL m ∧ m.ky.length = 32 ∧ LenI m := by
 obtain ⟨m, a, b, c, _⟩ := open_it Tryz.underlying53 (by kernel_rfl) rfl rfl rfl rfl rfl (by kernel_rfl) (by kernel_rfl) (by kernel_rfl) (by kernel_rfl) (by kernel_rfl) Tryz.underlying9 Tryz.underlying3 Tryz.underlying9 Tryz.underlying51 Tryz.underlying5 (by kernel_rfl) Tryz.underlying9 h
 exact ⟨m, a, b, c⟩
theorem cut_op {cs : List Value} (h : cs.length = 38) : cs = (cs.drop 0).take 1 ++ ((cs.drop 1).take 36 ++ (cs.drop 37).take 1) := by
 apply List.ext_getElem?
 intro i
 simp only [List.getElem?_append, List.getElem?_take, List.getElem?_drop, List.length_take, List.length_drop]
 grind
/-- The cells of an operation. -/
def opL (kd : Int) (x : It) (nw : Int) : List Value := i64 kd :: (itL x ++ [i64 nw])
/-- The cells of an operation among the arguments. -/
theorem open_op {t : TypeId} {f0 f1 f2 : Field} {base : Nat} {sp : Nat → Bool} {held : Bool} {fuel : Nat} {cs : List Value} {x : DataW H × List MemPlace} (ht : P.underlying t = some (.struct #[f0, f1, f2])) (ct : P.cellsOf t = 38)
  (o0 : f0.offset = 0) (o1 : f1.offset = 1) (o2 : f2.offset = 37) (c0 : P.cellsOf f0.type = 1) (c1 : P.cellsOf f1.type = 36) (c2 : P.cellsOf f2.type = 1)
  (u0 : P.underlying f0.type = some (.int .i64)) (u2 : P.underlying f2.type = some (.int .i64))
  (hit : ∀ (fuel : Nat) (cs : List Value) (x : DataW H × List MemPlace), DataW.trod enc P W base sp held fuel f1.type cs = some x → ∃ m : It, cs = itL m ∧ m.ky.length = 32 ∧ LenI m)
  (h : DataW.trod enc P W base sp held fuel t cs = some x) : ∃ (kd : Int) (m : It) (nw : Int), cs = opL kd m nw ∧ m.ky.length = 32 ∧ LenI m := by
 obtain ⟨xs, k, _, rfl, hl, hxl, hf⟩ := DataW.trod_struct ht h
 match xs, hxl with
 | [y0, y1, y2], _ =>
 have g0 : DataW.trod enc P W base sp held k f0.type ((cs.drop f0.offset).take (P.cellsOf f0.type)) = some y0 := by simpa using hf 0 f0 rfl
 have g1 : DataW.trod enc P W base sp held k f1.type ((cs.drop f1.offset).take (P.cellsOf f1.type)) = some y1 := by simpa using hf 1 f1 rfl
 have g2 : DataW.trod enc P W base sp held k f2.type ((cs.drop f2.offset).take (P.cellsOf f2.type)) = some y2 := by simpa using hf 2 f2 rfl
 rw [o0, c0] at g0
 rw [o1, c1] at g1
 rw [o2, c2] at g2
 rw [ct] at hl
 obtain ⟨z0, e0, _, _⟩ := DataW.trod_int u0 g0
 obtain ⟨m, e1, hk, hL⟩ := hit _ _ _ g1
 obtain ⟨z2, e2, _, _⟩ := DataW.trod_int u2 g2
 refine ⟨z0, m, z2, ?_, hk, hL⟩
 rw [cut_op hl, e0, e1, e2]
 rfl
end
end Go.Proofs.YtlchcjnbbhpiaaaGreatDoor
