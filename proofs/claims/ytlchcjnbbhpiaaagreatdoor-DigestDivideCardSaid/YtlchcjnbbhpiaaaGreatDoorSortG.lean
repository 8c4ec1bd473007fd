/- slices.SortFunc at structs in a row of the call's own: what the row holds behind it. Of no program. -/
import Derived.Shelf.SlSortCmp.WholeK
import Derived.Shelf.SlSortCmp.NoneTotal
import Derived.Sort.OwnSorted
namespace Go.Proofs.YtlchcjnbbhpiaaaGreatDoor
open Go.RowKit Go.Shelf Go.Sort Go.Lib
theorem flat_get {α : Type} [Inhabited α] (enc : α → List Value) {k : Nat} (hk : ∀ x, (enc x).length = k) : ∀ (l : List α) (t : Nat), t < l.length * k → (l.flatMap enc)[t]? = some ((enc l.toArray[t / k]!)[t % k]!)
 | [], t, h => by simp at h
 | a :: l, t, h => by
  have hk0 : 0 < k := by rcases Nat.eq_zero_or_pos k with h0 | h0; · subst h0; simp at h
                         ·exact h0
  rw [List.flatMap_cons]
  by_cases ht : t < k
  ·rw [List.getElem?_append_left (by rw [hk]; exact ht), Nat.div_eq_of_lt ht, Nat.mod_eq_of_lt ht]
   have hl : t < (enc a).length := by rw [hk]; exact ht
   simp [hl]
  ·rw [List.getElem?_append_right (by rw [hk]; omega), hk, flat_get enc hk l (t - k) (by rw [List.length_cons, Nat.add_mul] at h; omega)]
   have e1 : t / k = (t - k) / k + 1 := by
    rw [← Nat.add_div_right _ hk0]; congr 1; omega
   have e2 : t % k = (t - k) % k := by
    rw [← Nat.add_mod_right (t - k) k]; congr 1; omega
   rw [e1, e2]
   simp
theorem flatMap_len {α : Type} (enc : α → List Value) {k : Nat} (hk : ∀ x, (enc x).length = k) : ∀ (l : List α), (l.flatMap enc).length = l.length * k
 | [] => by simp
 | a :: l => by rw [List.flatMap_cons, List.length_append, hk, flatMap_len enc hk l, List.length_cons, Nat.add_mul]; omega
theorem flatK_list {α : Type} [Inhabited α] (enc : α → List Value) {k : Nat} (hk : ∀ x, (enc x).length = k) (l : List α) : flatK enc k l.toArray = (l.flatMap enc).toArray := by
 refine ext_get! (by simp [flatMap_len enc hk]) fun t ht => ?_
 have ht' : t < l.length * k := by simpa using ht
 rw [get_flatK _ _ _ t (by simpa using ht')]
 have h := flat_get enc hk l t ht'
 have e : (l.flatMap enc).toArray[t]! = ((l.flatMap enc)[t]?).getD default := by simp
 rw [e, h]
 rfl
theorem heap_sortedG {w : World} {g n : Nat} {os : Array Obj} {cur : Array Value} {e : TypeId} {fr : Nat × Nat} (d : Array Value) (hb : w.heap[g]? = some (.cells cur e fr)) :
  (grow (putRow id (Sort.ahead w n) g 0 d) os).heap[g]? = some (.cells (putCells id 0 d cur) e fr) := by
 have hg : g < w.heap.size := (Array.getElem?_eq_some_iff.1 hb).1
 rw [heap_grow_old _ _ (by simpa using hg)]
 simp [putRow, mapBlock, Sort.ahead, Array.getElem?_modify, hb, onCells]
theorem grownBy_sortedG {w : World} {g n : Nat} {os : Array Obj} (d : Array Value) : w.grownBy (grow (putRow id (Sort.ahead w n) g 0 d) os) (some g) := by
 refine ⟨rfl, rfl, rfl, by simp, fun k hk hne => ?_⟩
 rw [heap_grow_old _ _ (by simpa using hk)]
 have : g ≠ k := fun e => hne (by rw [e])
 simp [putRow, mapBlock, Sort.ahead, Array.getElem?_modify, this]
theorem take_putCellsG (cur : Array Value) (ts : List Value) (h : ts.length ≤ cur.size) : (putCells id 0 ts.toArray cur).toList.take ts.length = ts := by
 apply List.ext_getElem?
 intro j
 by_cases hj : j < ts.length
 ·rw [List.getElem?_take_of_lt hj, Array.getElem?_toList]
  simp [putCells, hj, show j < cur.size by omega]
 ·rw [List.getElem?_take_eq_none (by omega), List.getElem?_eq_none (by omega)]
theorem holdsG_of_block {w : World} {g m : Nat} {cur : Array Value} {e : TypeId} {xs : List Value} (hb : w.heap[g]? = some (.cells cur e (0, 0))) (hm : m = xs.length) (ht : cur.toList.take m = xs) : Holds id w g 0 xs.toArray := by
 intro j hj
 have hj' : j < xs.length := by simpa using hj
 refine ⟨?_, by simp [World.frozen?, hb]⟩
 have h1 : (cur.toList.take m)[j]? = xs[j]? := by rw [ht]
 rw [List.getElem?_take_of_lt (by omega)] at h1
 simp only [World.cell?, hb, Nat.zero_add]
 simp only [Option.isSome_none, Bool.false_eq_true, if_false]
 rw [← Array.getElem?_toList, h1]
 simp [hj']
theorem sortG {P : Program} {ρ : Ren} {α : Type} [Inhabited α] (L : SlLaysF0.n6 P ρ) (k : Nat) (aE : ∀ w, (isAgg (ρ.t 24)).run P w = .ok true w) (zE : ∀ w, (Go.sizeOf (ρ.t 24)).run P w = .ok k w) (enc : α → List Value) (hk : ∀ x, (enc x).length = k) (h1 : ∀ x, ∀ v ∈ enc x, v.oneCell' = true) (cf : α → α → Int) (hO : SWO (ltOf cf)) (f : Nat) (cb : Array Value)
  (eg : ∀ args w, (callFunc f args).run P w = .ok (.enter f args) w) (hf : ∀ x y W, Calls P f (#[.agg (enc x).toArray, .agg (enc y).toArray] ++ cb) W fun e w' => e = .returned (.int .i64 (cf x y)) ∧ ∃ q os', w' = grow (W.drewN q) os')
  (base : Nat) (e : TypeId) (A : Option Addr) (c : Nat) (l : List α) (w : World) (hown : w.ownsRow base e k (.slice A l.length c) l.length (l.flatMap enc)) (hn : l.length ≤ 1000000) :
  Calls P (ρ.f 6) #[.slice A l.length c, .func (.func f) #[] cb] w fun e' w' => e' = .returned (.tuple #[]) ∧
   ∃ m : List α, m.Perm l ∧ (m.Pairwise fun x y => ltOf cf y x = false) ∧ w'.ownsRow base e k (.slice A l.length c) l.length (m.flatMap enc) ∧ w.grownBy w' (Value.slice A l.length c).ownBlock := by
 rcases hown.2 with ⟨e1, e2⟩ | ⟨g, cap, cur, e1, hbase, hb, h2, h3, h4, h5⟩
 ·have hl : l = [] := List.eq_nil_of_length_eq_zero (by omega)
  subst hl
  cases e1
  refine (AnyF.slices_SortFunc_none L none 0 (.func (.func f) #[] cb) w).mono fun e' w' ⟨h1, h2⟩ => ⟨h1, [], List.Perm.refl _, by simp, by rw [h2]; exact hown, by rw [h2]; exact ⟨rfl, rfl, rfl, Nat.le_refl _, fun _ _ _ => rfl⟩⟩
 ·cases e1
  have hg : g < w.heap.size := (Array.getElem?_eq_some_iff.1 hb).1
  have hlen := flatMap_len enc hk l
  have hH : Holds id w g 0 (l.flatMap enc).toArray := holdsG_of_block hb hlen.symm h5
  have hHK : HoldsK enc k w g 0 l.toArray := by unfold HoldsK; rw [flatK_list enc hk]; exact hH
  have h := AnyQ.slices_SortFunc L k aE zE enc hk h1 cf hO f cb g 0 c l.toArray w eg (fun _ _ _ _ x y => hf x y _) hHK hg (by simp; omega)
  rw [show l.toArray.size = l.length by simp] at h
  refine h.mono fun e' w' ⟨h1, d, n, os, hp, hs, hw⟩ => ?_
  have hds : d.size = l.length := by have := hp.1; simpa using this
  have hF : flatK enc k d = (d.toList.flatMap enc).toArray := flatK_list enc hk d.toList
  refine ⟨h1, d.toList, ?_, ?_, ?_, ?_⟩
  ·have h3 := hp.2.2
   have e1 : (d.extract 0 l.length).toList = d.toList := by rw [← hds]; simp
   have e2 : (l.toArray.extract 0 l.length).toList = l := by simp
   rw [e1, e2] at h3
   exact h3
  ·rw [List.pairwise_iff_getElem]
   intro i j hi hj hij
   have hi' : i < d.size := by simpa using hi
   have hj' : j < d.size := by simpa using hj
   have := hs i j (Nat.zero_le _) hij (by omega)
   simp [hi', hj'] at this
   simpa using this
  ·rw [hw]
   unfold sortWorldK putRowK
   rw [hF]
   have hdl : (d.toList.flatMap enc).length = l.length * k := by rw [flatMap_len enc hk]; simp [hds]
   refine ⟨hdl, .inr ⟨g, c, _, rfl, hbase, heap_sortedG _ hb, h2, h3, by simp [putCells, h4], ?_⟩⟩
   rw [← hdl]
   exact take_putCellsG cur _ (by rw [hdl, h4]; exact Nat.mul_le_mul_right _ h2)
  ·rw [hw]; exact grownBy_sortedG _
end Go.Proofs.YtlchcjnbbhpiaaaGreatDoor
