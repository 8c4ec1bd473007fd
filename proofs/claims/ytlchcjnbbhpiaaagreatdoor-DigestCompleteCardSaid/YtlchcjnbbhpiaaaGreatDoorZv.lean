/- Contract: the laws' small.
   Contracts: the laws' own and back: a digest of one type as one of the other. -/
import Derived.Test.YtlchcjnbbhpiaaaGreatDoorZt
namespace Go.Proofs.YtlchcjnbbhpiaaaGreatDoor
open Go.RowKit Go.Shelf Go.Dg Go.Maps
theorem refit_size : (Tryz.prog.info? 53).map (·.size) = some 36 := by kernel_rfl
section
variable {o : Oper} {a : Act} {w : World} {K : Act → World → Prop} {Q : Exit → Act → World → Prop}
theorem wp_store1 (x y : Operand) (ho : o.op = .store 30 x y) (hd : o.dst = none) (b i : Nat) (A : Option Addr) (n c : Nat) (hx : a.eval x = .pointer (some ⟨b, i, none⟩)) (hy : a.eval y = .slice A n c)
  (old : Value) (hc : w.cell? ⟨b, i, none⟩ = some old) (hf : w.frozen? ⟨b, i, none⟩ = false) (h : K a (w.setCell ⟨b, i, none⟩ (.slice A n c))) : o.wp Tryz.prog a w K Q := by
 unfold Oper.wp execOp
 simp only [ho, hx, hy]
 simp [go_sem, hc, hf, hd]
 exact h
theorem wp_one_it (X : Operand) (ho : o.op = .buildSlice 30 1 #[(0, X)]) (x : It) (hx : a.eval X = itA x)
  (h : K (a.put o.dst (.slice (some ⟨w.heap.size, 0, none⟩) 1 1)) (w.alloc (.cells (itL x).toArray 59))) : o.wp Tryz.prog a w K Q := by
 obtain ⟨i0, hi, hz0, hz1, hz2⟩ := info_parts it_info
 refine wp_buildSlice _ _ 1 _ ho (itL x).toArray i0 _ Tryz.underlying30 hi hz0 (by rw [hz1]; omega) (by rw [hz1]; omega) ?_ h
 rw [hz1]
 have h2 := Great.fill_whole (s := 36) (by decide) [itA x] ((Array.range (1 * 36)).map ((Value.agg (itL it0).toArray).cells[· % (Value.agg (itL it0).toArray).cells.size]!)) (fun v hv => by
  obtain rfl := List.mem_singleton.1 hv
  show (itL x).toArray.size = 36
  rw [List.size_toArray, itL_length]) (by simp)
 have e1 : ((#[(0, X)] : Array (Nat × Operand)).map fun (i, y) => (i, a.eval y)).toList = [(0, itA x)] := by
  simp [hx]
 rw [e1]
 refine Eq.trans h2 ?_
 show some (List.flatMap (fun v => v.cells.toList) [itA x]).toArray = _
 rw [List.flatMap_cons, List.flatMap_nil, List.append_nil]
 show some (itL x).toArray.toList.toArray = _
 rfl
end
section
variable {tS tO tI : TypeId} {w W W' : World} {ti : List UInt8} {vo ie da : Int} {A A' A2 : Option Addr} {n c c' c2 : Nat} {xs : List It} {x : It}
end
end Go.Proofs.YtlchcjnbbhpiaaaGreatDoor
