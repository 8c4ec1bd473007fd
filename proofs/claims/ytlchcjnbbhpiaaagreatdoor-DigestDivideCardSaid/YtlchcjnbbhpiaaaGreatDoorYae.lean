/- Contract: Take of a builder.
   The reference's builder in memory; contracts: the reference's NewBuilder, Due.
   Contract: the reference's Add.
   Contract: the reference's Take. -/
import Derived.Test.YtlchcjnbbhpiaaaGreatDoorYad
import Derived.Test.YtlchcjnbbhpiaaaGreatDoorZb
import Derived.Test.YtlchcjnbbhpiaaaGreatDoorYaa
import Derived.Test.YtlchcjnbbhpiaaaGreatDoorZw
import Derived.Test.YtlchcjnbbhpiaaaGreatDoorYac
namespace Go.Proofs.YtlchcjnbbhpiaaaGreatDoor
open Go.RowKit Go.Shelf Go.Dg Go.Maps
/-! ### rows of equal cells -/
theorem flatG_len {α : Type} (enc : α → List Value) {k : Nat} (hk : ∀ x, (enc x).length = k) : ∀ l : List α, (l.flatMap enc).length = l.length * k
 | [] => by simp
 | x :: l => by rw [List.flatMap_cons, List.length_append, hk, flatG_len enc hk l, List.length_cons, Nat.succ_mul]; omega
theorem flatG_inv {α : Type} (enc : α → List Value) {k : Nat} (hk : ∀ x, (enc x).length = k) (h0 : 0 < k) : ∀ {l : List α} {j : Nat} {v : Value}, (l.flatMap enc)[j]? = some v → ∃ x, l[j / k]? = some x ∧ (enc x)[j % k]? = some v
 | [], j, v, h => by simp at h
 | y :: l, j, v, h => by
  rw [List.flatMap_cons] at h
  rcases Nat.lt_or_ge j k with hj | hj
  ·rw [List.getElem?_append_left (by rw [hk]; exact hj)] at h
   exact ⟨y, by rw [Nat.div_eq_of_lt hj]; rfl, by rw [Nat.mod_eq_of_lt hj]; exact h⟩
  ·rw [List.getElem?_append_right (by rw [hk]; exact hj), hk] at h
   obtain ⟨x, h1, h2⟩ := flatG_inv enc hk h0 h
   obtain ⟨i, rfl⟩ : ∃ i, j = i + k := ⟨j - k, by omega⟩
   rw [Nat.add_sub_cancel] at h1 h2
   refine ⟨x, ?_, ?_⟩
   ·rw [Nat.add_div_right i h0, List.getElem?_cons_succ]; exact h1
   ·rw [Nat.add_mod_right]; exact h2
theorem flatG_at {α : Type} (enc : α → List Value) {k : Nat} (hk : ∀ x, (enc x).length = k) : ∀ {l : List α} {j : Nat} {x : α} {t : Nat} {v : Value}, l[j]? = some x → (enc x)[t]? = some v → (l.flatMap enc)[j * k + t]? = some v
 | [], _, _, _, _, h, _ => by simp at h
 | a :: l, 0, x, t, v, h, hv => by
  obtain rfl : a = x := by simpa using h
  rw [Nat.zero_mul, Nat.zero_add, List.flatMap_cons, List.getElem?_append_left (List.getElem?_eq_some_iff.1 hv).1]; exact hv
 | a :: l, j + 1, x, t, v, h, hv => by
  rw [List.flatMap_cons, List.getElem?_append_right (by rw [hk, Nat.succ_mul]; omega), hk, show (j + 1) * k + t - k = j * k + t from by have : (j + 1) * k = j * k + k := Nat.succ_mul j k; omega]
  exact flatG_at enc hk (by simpa using h) hv
theorem RdI.cells {w : World} {A : Option Addr} {its : List It} (h : RdI w A its) : RdC w A (its.flatMap itL) := fun hl => by
 obtain ⟨b, o, e, _, hc⟩ := h.rd (by rw [flatG_len itL itL_length] at hl; omega)
 refine ⟨b, o, e, fun j u hj => ?_⟩
 obtain ⟨m, h1, h2⟩ := flatG_inv itL itL_length (by decide) hj
 have := hc _ _ h1 _ _ h2
 rwa [show o + j / 36 * 36 + j % 36 = o + j by omega] at this
/-! ### identities in a row -/
/-! ### the reference's builder -/
/-- A row's block is one of cells of this type. -/
def TyR (w : World) (A : Option Addr) (t : TypeId) : Prop := ∀ p, A = some p → ∃ cur, w.heap[p.block]? = some (.cells cur t (0, 0))
theorem TyR.none {w : World} {t : TypeId} : TyR w none t := fun _ h => by cases h
theorem TyR.below {w w' : World} {A : Option Addr} {t : TypeId} (h : TyR w A t) (hb : Below w.heap.size w w') : TyR w' A t := fun p hp => by
 obtain ⟨cur, e⟩ := h p hp
 exact ⟨cur, blk_below hb e⟩
theorem TyR.of_own {w : World} {base n c size : Nat} {e : TypeId} {A : Option Addr} {xs : List Value} (h : w.ownsRow base e size (.slice A n c) n xs) : TyR w A e := fun p hp => by
 rcases h.2 with ⟨e1, _⟩ | ⟨g, cap, cur, e1, _, h2, _⟩
 ·cases e1; cases hp
 ·cases e1; cases hp; exact ⟨cur, h2⟩
section
variable {o : Oper} {a : Act} {w : World} {K : Act → World → Prop} {Q : Exit → Act → World → Prop}
set_option maxRecDepth 100000 in
theorem wp_storeW (x y : Operand) (ho : o.op = .store 22 x y) (hd : o.dst = none) (b i : Nat) (A : Option Addr) (n c : Nat) (hx : a.eval x = .pointer (some ⟨b, i, none⟩)) (hy : a.eval y = .slice A n c)
  (old : Value) (hc : w.cell? ⟨b, i, none⟩ = some old) (hf : w.frozen? ⟨b, i, none⟩ = false) (h : K a (w.setCell ⟨b, i, none⟩ (.slice A n c))) : o.wp Tryz.prog a w K Q := by
 unfold Oper.wp execOp
 simp only [ho, hx, hy]
 simp [go_sem, hc, hf, hd]
 exact h
set_option maxRecDepth 100000 in
theorem wp_one_ref (X : Operand) (ho : o.op = .buildSlice 22 1 #[(0, X)]) (x : It) (hx : a.eval X = itA x)
  (h : K (a.put o.dst (.slice (some ⟨w.heap.size, 0, none⟩) 1 1)) (w.alloc (.cells (itL x).toArray 53))) : o.wp Tryz.prog a w K Q := by
 obtain ⟨i0, hi, hz0, hz1, hz2⟩ := info_parts ref_info
 refine wp_buildSlice _ _ 1 _ ho (itL x).toArray i0 _ Tryz.underlying22 hi hz0 (by rw [hz1]; omega) (by rw [hz1]; omega) ?_ h
 rw [hz1]
 have h2 := Great.fill_whole (s := 36) (by decide) [itA x] ((Array.range (1 * 36)).map ((Value.agg (itL it0).toArray).cells[· % (Value.agg (itL it0).toArray).cells.size]!)) (fun v hv => by
  obtain rfl := List.mem_singleton.1 hv
  show (itL x).toArray.size = 36
  rw [List.size_toArray, itL_length]) (by simp)
 have e1 : ((#[(0, X)] : Array (Nat × Operand)).map fun (i, y) => (i, a.eval y)).toList = [(0, itA x)] := by
  simp [hx]
 rw [e1]
 refine Eq.trans h2 ?_
 show some (List.flatMap (fun v => v.cells.toList) [itA x]).toArray = _
 rw [List.flatMap_cons, List.flatMap_nil, List.append_nil]
 show some (itL x).toArray.toList.toArray = _
 rfl
theorem flat_oneG {α : Type} (enc : α → List Value) (h : ∀ x, ∀ u ∈ enc x, u.oneCell' = true) (l : List α) : ∀ u ∈ l.flatMap enc, u.oneCell' = true := fun u hu => by
 obtain ⟨x, _, hx⟩ := List.mem_flatMap.1 hu
 exact h x u hx
theorem rdC_below {w w' : World} {A : Option Addr} {xs : List Value} (h : RdC w A xs) (hb : Below w.heap.size w w') : RdC w' A xs := fun hp => by
 obtain ⟨b, o, e, hc⟩ := h hp
 exact ⟨b, o, e, fun j u hu => by have h1 := hc j u hu; rw [World.cell?_of_block (hb.block b (World.block_lt_of_cell? w _ h1))]; exact h1⟩
theorem own_base {w : World} {B B' e size n : Nat} {v : Value} {xs : List Value} (h : w.ownsRow B' e size v n xs) (hB : B ≤ B') : w.ownsRow B e size v n xs := by
 refine ⟨h.1, ?_⟩
 rcases h.2 with hl | ⟨g, cap, cur, e1, hb, hr⟩
 ·exact .inl hl
 ·exact .inr ⟨g, cap, cur, e1, Nat.le_trans hB hb, hr⟩
theorem RdC.grown1 {w w' : World} {g : Nat} {ys : List Value} {row : Option Nat} (h : RdC w (some ⟨g, 0, none⟩) ys) (hg : w.grownBy w' row) (hl : g < w.heap.size) (hne : some g ≠ row) : RdC w' (some ⟨g, 0, none⟩) ys := fun hp => by
 obtain ⟨b, o, e, hc⟩ := h hp
 cases e
 exact ⟨g, 0, rfl, fun j u hu => by rw [World.cell?_of_block (hg.block g hl hne)]; exact hc j u hu⟩
end
end Go.Proofs.YtlchcjnbbhpiaaaGreatDoor
