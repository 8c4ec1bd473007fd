/- What StatsAdd's walk leans on: events in a row of the call's own, an array's element, the model's numbers as those of the statistics. -/
import Derived.Test.YthgefcoaaommkaaDoorStU
import Derived.Test.YthgefcoaaommkaaDoorStO
import Derived.Test.YthgefcoaaommkaaDoorStV
namespace Go.Proofs.YthgefcoaaommkaaDoor
open Go.RowKit Go.Gn Go.Sr Go.Maps

theorem flatE_inv : ∀ {l : List EvM} {j : Nat} {u : Value} (_ : (l.flatMap evL)[j]? = some u), ∃ m, l[j / 20]? = some m ∧ (evL m)[j % 20]? = some u
  | [], _, _, h => by simp at h
  | y :: r, j, u, h => by
    have hy := evL_length y
    have h' : (evL y ++ r.flatMap evL)[j]? = some u := h
    by_cases hj : j < 20
    · rw [List.getElem?_append_left (by omega)] at h'
      exact ⟨y, by rw [Nat.div_eq_of_lt hj]; rfl, by rw [Nat.mod_eq_of_lt hj]; exact h'⟩
    · rw [List.getElem?_append_right (by omega), hy] at h'
      obtain ⟨m, h1, h2⟩ := flatE_inv h'
      refine ⟨m, ?_, ?_⟩
      · rw [show j / 20 = (j - 20) / 20 + 1 by omega, List.getElem?_cons_succ]; exact h1
      · rw [show j % 20 = (j - 20) % 20 by omega]; exact h2
theorem RdE.rdC {w : World} {A : Option Addr} {ms : List EvM} (h : RdE w A ms) : RdC w A (ms.flatMap evL) := fun hl => by
  rw [flatE_length] at hl
  obtain ⟨b, o, e, _, hc⟩ := h.rd (by omega)
  refine ⟨b, o, e, fun j u hj => ?_⟩
  obtain ⟨m, h1, h2⟩ := flatE_inv hj
  have := hc _ _ h1 _ _ h2
  rwa [show o + j / 20 * 20 + j % 20 = o + j by omega] at this
theorem RdE.one (w : World) (m : EvM) (h : GoodM w m) : RdE (w.alloc (.cells (evL m).toArray 37)) (some ⟨w.heap.size, 0, none⟩) [m] := by
  refine ⟨fun _ => ⟨w.heap.size, 0, rfl, by simp, fun j x hj => ?_⟩, fun x hx => ?_⟩
  · cases j with
    | zero =>
      obtain rfl : m = x := by simpa using hj
      exact range_blk (blk_new _ _)
    | succ j => simp at hj
  · obtain rfl := List.mem_singleton.1 hx
    exact h.below (below_new _ _)
theorem wpList_buildEv_g {ops : Array Oper} {rest : List Oper} {op : Oper} {a : Act} {w : World} {Q : Exit → Act → World → Prop} (hw : Region.wanted op (yielded ops a.tmps) = true) (x : Operand) (ho : op.op = .buildSlice 22 1 #[(0, x)]) (m : EvM) (hx : a.eval x = evA m)
    (h : wpList Tryd.prog ops Q rest (a.put op.dst (.slice (some ⟨w.heap.size, 0, none⟩) 1 1)) (w.alloc (.cells (evL m).toArray 37))) : wpList Tryd.prog ops Q (op :: rest) a w :=
  wpList_step fun K hK => by
    rw [if_pos hw]
    have e : (#[(0, x)] : Array (Nat × Operand)).map (fun (q : Nat × Operand) => (q.1, a.eval q.2)) = #[(0, evA m)] := by simp [hx]
    unfold Oper.wp execOp
    simp only [ho, Sem.run_bind, Sem.run_pure, e, run_buildEv, Result.andThen_ok]
    exact hK _ _ h
theorem wp_buildEv {op : Oper} {a : Act} {w : World} {K : Act → World → Prop} {Q : Exit → Act → World → Prop} (x : Operand) (ho : op.op = .buildSlice 22 1 #[(0, x)]) (m : EvM) (hx : a.eval x = evA m)
    (h : K (a.put op.dst (.slice (some ⟨w.heap.size, 0, none⟩) 1 1)) (w.alloc (.cells (evL m).toArray 37))) : op.wp Tryd.prog a w K Q := by
  have e : (#[(0, x)] : Array (Nat × Operand)).map (fun (q : Nat × Operand) => (q.1, a.eval q.2)) = #[(0, evA m)] := by simp [hx]
  unfold Oper.wp execOp
  simp only [ho, Sem.run_bind, Sem.run_pure, e, run_buildEv, Result.andThen_ok]
  exact h
/-- An element of an array of numbers that is a value. -/
theorem run_index18 (cs : Array Value) (_hc : cs.size = 18) (k : Nat) (hk : k < 18) (v : Value) (hv : cs[k]? = some v) (w : World) : (Instr.index 43 (.agg cs) (.int .i64 k)).run Tryd.prog w = .ok v w := by
  have hag : ∀ u : World, (isAgg 3).run Tryd.prog u = .ok false u := fun u => by kernel_rfl
  have hso : ∀ u : World, (sizeOf 3).run Tryd.prog u = .ok 1 u := fun u => by kernel_rfl
  unfold Instr.index part
  simp [run_underlying Tryd.underlying43, asIntOf, hag, hso, hv, hk]
theorem wpList_index18 {ops : Array Oper} {rest : List Oper} {op : Oper} {a : Act} {w : World} {Q : Exit → Act → World → Prop} (hgd : op.guard = none) (x y : Operand) (ho : op.op = .index 43 x y) (cs : Array Value) (hc : cs.size = 18) (k : Nat) (hk : k < 18) (v : Value) (hv : cs[k]? = some v) (hx : a.eval x = .agg cs) (hy : a.eval y = .int .i64 k)
    (h : wpList Tryd.prog ops Q rest (a.put op.dst v) w) : wpList Tryd.prog ops Q (op :: rest) a w :=
  wpList_plain hgd fun _ hK => by
    unfold Oper.wp execOp
    simp only [ho, hx, hy, Sem.run_bind, Sem.run_pure, run_index18 cs hc k hk v hv, Result.andThen_ok]
    exact hK _ _ h
theorem list18 : ∀ {l : List Int}, l.length = 18 → ∃ a0 a1 a2 a3 a4 a5 a6 a7 a8 a9 a10 a11 a12 a13 a14 a15 a16 a17, l = [a0, a1, a2, a3, a4, a5, a6, a7, a8, a9, a10, a11, a12, a13, a14, a15, a16, a17]
  | [a0, a1, a2, a3, a4, a5, a6, a7, a8, a9, a10, a11, a12, a13, a14, a15, a16, a17], _ => ⟨a0, a1, a2, a3, a4, a5, a6, a7, a8, a9, a10, a11, a12, a13, a14, a15, a16, a17, rfl⟩
/-- An empty name counts all. -/
theorem ofM_all {ms : List EvM} (hg : ∀ m ∈ ms, GoodE m.e) : ofM 0 [] 0 80000 ms = sumE (ms.map (·.e)) := by
  unfold ofM
  rw [List.filter_eq_self.2]
  intro e he
  obtain ⟨m, hm, rfl⟩ := List.mem_map.1 he
  have h := (hg m hm).minute
  unfold pickE dayE
  rw [decide_eq_true (by omega), decide_eq_true (by omega)]
  simp
theorem sorted_days {l : List Ev} {ss : List Int} (h : ss.Perm ((daysL l).map (·.1))) : ss.mergeSort (fun x y => decide (x ≤ y)) = daysM l := by
  have hp := (List.mergeSort_perm ss (fun x y => decide (x ≤ y))).trans h
  unfold daysM
  refine sorted_insAll icmp_lin ?_ (hp.nodup_iff.2 (daysL_two l)) fun x => ?_
  · have tr : ∀ a b c : Int, decide (a ≤ b) = true → decide (b ≤ c) = true → decide (a ≤ c) = true := fun a b c h1 h2 => by simp only [decide_eq_true_eq] at *; omega
    have tot : ∀ a b : Int, (decide (a ≤ b) || decide (b ≤ a)) = true := fun a b => by simp only [Bool.or_eq_true, decide_eq_true_eq]; omega
    refine (List.pairwise_mergeSort tr tot ss).imp fun {a b} hab => ?_
    have hab := of_decide_eq_true hab
    unfold icmp
    split <;> (try split) <;> omega
  · rw [hp.mem_iff, keys_daysL, mem_daysM, List.mem_map]
theorem take_sum {l : List Int} {k : Nat} {x : Int} (h : l[k]? = some x) : (l.take (k + 1)).foldl (· + ·) 0 = (l.take k).foldl (· + ·) 0 + x := by
  rw [take_snoc h, List.foldl_append]; rfl
end Go.Proofs.YthgefcoaaommkaaDoor
