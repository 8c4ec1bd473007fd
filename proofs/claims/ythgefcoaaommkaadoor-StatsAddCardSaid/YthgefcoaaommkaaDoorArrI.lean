/- Arrays of numbers as values: compared. -/
import Derived.Test.YthgefcoaaommkaaDoorStU
import Derived.Stop.BytesEq
namespace Go.Proofs.YthgefcoaaommkaaDoor
open Go.RowKit

theorem all_range_ints : ∀ (xs ys : List Int), xs.length = ys.length → ((List.range xs.length).all fun i => xs.getD i 0 == ys.getD i 0) = (xs == ys)
  | [], [], _ => rfl
  | x :: xs, y :: ys, h => by
    have ih := all_range_ints xs ys (by simpa using h)
    rw [List.length_cons, List.range_succ_eq_map, List.all_cons, List.all_map]
    simp only [List.getD_cons_zero, Function.comp_def, List.getD_cons_succ, ih]
    simp [List.cons_beq_cons]
  | [], _ :: _, h => by simp at h
  | _ :: _, [], h => by simp at h
section
variable {P : Program}
theorem run_equalIn_ints (w : World) (d : Nat) (t e : TypeId) (n : Nat) (ht : P.underlying t = some (.array n e)) (he : P.underlying e = some (.int .i64)) (hsz : ∀ w, (Go.sizeOf e).run P w = .ok 1 w)
    (xs ys : List Int) (hx : xs.length = n) (hy : ys.length = n) :
    (Op.equalIn (d + 2) t (.agg (xs.map i64).toArray) (.agg (ys.map i64).toArray)).run P w = .ok (xs == ys) w := by
  rw [← all_range_ints xs ys (hx.trans hy.symm), hx, List.range_eq_range', Op.equalIn]
  simp only [Sem.run_bind, run_underlying ht, Result.andThen_ok, hsz, Std.Legacy.Range.forIn_eq_forIn_range', Std.Legacy.Range.size, Nat.sub_zero, Nat.add_sub_cancel, Nat.div_one]
  have hl : ∀ i ∈ List.range' 0 n 1, i < n := fun i hi => by simpa using (List.mem_range'_1.1 hi).2
  generalize List.range' 0 n 1 = l at hl ⊢
  induction l with
  | nil => simp
  | cons i l ih =>
    have hi : i < n := hl i (by simp)
    have px : (part e (xs.map i64).toArray (i * 1)).run P w = .ok (i64 (xs.getD i 0)) w := by
      simp [part, isAgg, run_underlying he, List.getD, List.getElem?_eq_getElem (show i < xs.length by omega)]
    have py : (part e (ys.map i64).toArray (i * 1)).run P w = .ok (i64 (ys.getD i 0)) w := by
      simp [part, isAgg, run_underlying he, List.getD, List.getElem?_eq_getElem (show i < ys.length by omega)]
    have pe : (Op.equalIn (d + 1) e (i64 (xs.getD i 0)) (i64 (ys.getD i 0))).run P w = .ok (xs.getD i 0 == ys.getD i 0) w := by
      rw [run_equalIn_int w d e .i64 .i64 _ _ he]
    simp only [List.forIn_cons, Sem.run_bind, px, py, pe, Result.andThen_ok, List.all_cons]
    cases hb : (xs.getD i 0 == ys.getD i 0)
    · simp
    · simp only [Bool.not_true, Bool.false_eq_true, if_false, Sem.run_pure, Result.andThen_ok, Bool.true_and]
      exact ih fun j hj => hl j (by simp [hj])
theorem run_eql_ints (w : World) (t e : TypeId) (n : Nat) (ht : P.underlying t = some (.array n e)) (he : P.underlying e = some (.int .i64)) (hsz : ∀ w, (Go.sizeOf e).run P w = .ok 1 w) (xs ys : List Int) (hx : xs.length = n) (hy : ys.length = n) :
    (binOp .eql t (.agg (xs.map i64).toArray) (.agg (ys.map i64).toArray)).run P w = .ok (.bool (xs == ys)) w := by
  rw [run_eql_struct, run_equalIn_ints w 9998 t e n ht he hsz xs ys hx hy]
  rfl
theorem run_neq_ints (w : World) (t e : TypeId) (n : Nat) (ht : P.underlying t = some (.array n e)) (he : P.underlying e = some (.int .i64)) (hsz : ∀ w, (Go.sizeOf e).run P w = .ok 1 w) (xs ys : List Int) (hx : xs.length = n) (hy : ys.length = n) :
    (binOp .neq t (.agg (xs.map i64).toArray) (.agg (ys.map i64).toArray)).run P w = .ok (.bool (!(xs == ys))) w := by
  rw [run_neq_struct, run_equalIn_ints w 9998 t e n ht he hsz xs ys hx hy]
  rfl
variable {ops : Array Oper} {rest : List Oper} {op : Oper} {a : Act} {w : World} {Q : Exit → Act → World → Prop}
theorem wpList_neqI_g (hw : Region.wanted op (yielded ops a.tmps) = true) (t e : TypeId) (n : Nat) (ht : P.underlying t = some (.array n e)) (he : P.underlying e = some (.int .i64)) (hsz : ∀ w, (Go.sizeOf e).run P w = .ok 1 w) (hm : P.eqGuardType P.depth t = false)
    (x y : Operand) (r : TypeId) (ho : op.op = .binOp .neq t x y r) (xs ys : List Int) (hx : a.eval x = .agg (xs.map i64).toArray) (hy : a.eval y = .agg (ys.map i64).toArray) (lx : xs.length = n) (ly : ys.length = n)
    (h : wpList P ops Q rest (a.put op.dst (.bool (!(xs == ys)))) w) : wpList P ops Q (op :: rest) a w :=
  wpList_step fun K hK => by
    rw [if_pos hw]
    unfold Oper.wp execOp
    simp only [ho, Sem.run_bind, Sem.run_pure, hx, hy, run_eqGuard_agg w .neq t x y _ _ hm, run_neq_ints w t e n ht he hsz xs ys lx ly, Result.andThen_ok]
    exact hK _ _ h
theorem wpList_eqlI_g (hw : Region.wanted op (yielded ops a.tmps) = true) (t e : TypeId) (n : Nat) (ht : P.underlying t = some (.array n e)) (he : P.underlying e = some (.int .i64)) (hsz : ∀ w, (Go.sizeOf e).run P w = .ok 1 w) (hm : P.eqGuardType P.depth t = false)
    (x y : Operand) (r : TypeId) (ho : op.op = .binOp .eql t x y r) (xs ys : List Int) (hx : a.eval x = .agg (xs.map i64).toArray) (hy : a.eval y = .agg (ys.map i64).toArray) (lx : xs.length = n) (ly : ys.length = n)
    (h : wpList P ops Q rest (a.put op.dst (.bool (xs == ys))) w) : wpList P ops Q (op :: rest) a w :=
  wpList_step fun K hK => by
    rw [if_pos hw]
    unfold Oper.wp execOp
    simp only [ho, Sem.run_bind, Sem.run_pure, hx, hy, run_eqGuard_agg w .eql t x y _ _ hm, run_eql_ints w t e n ht he hsz xs ys lx ly, Result.andThen_ok]
    exact hK _ _ h
end
end Go.Proofs.YthgefcoaaommkaaDoor
