/- An article's identity as a map's key. -/
import Derived.Test.YtcpennlojjlpaaaGreatDoorNyO
import Derived.Test.YtcpennlojjlpaaaGreatDoorMapB
import Derived.DeepKeys4
namespace Go.Proofs.YtcpennlojjlpaaaGreatDoor
open Go.RowKit Go.Nr Go.Gn Go.Maps

set_option maxRecDepth 100000
theorem mapM_some {α β : Type} {f : α → Option β} {g : α → β} : ∀ (l : List α), (∀ i ∈ l, f i = some (g i)) → l.mapM f = some (l.map g)
  | [], _ => rfl
  | a :: l, h => by
    rw [List.mapM_cons, h a (by simp), mapM_some l fun i hi => h i (by simp [hi])]; rfl
theorem id_laidOut : laidOutB Tryz.prog = true := by kernel_rfl
theorem id_row : (67 : TypeId) < Tryz.prog.types.size := of_decide_eq_true (by kernel_rfl)
theorem id_wide : (match Tryz.prog.underlying 67 with | some (.array _ _) | some (.struct _) => true | _ => false) = true := by rw [Tryz.underlying67]
theorem id_law : WideMaps.KeyLaw Tryz.prog 67 := deep_law_laid id_laidOut (m := 2) (by omega) id_row (by kernel_rfl) id_wide
theorem id_keyed : Keyed Tryz.prog 67 := Keyed.of_law id_law
theorem id_cells : Tryz.prog.cellsOf 67 = 32 := by kernel_rfl
theorem byte_cells : Tryz.prog.cellsOf 5 = 1 := by kernel_rfl
theorem id_keyType : Tryz.prog.keyType 67 = true := by kernel_rfl
theorem byte_wf (b : UInt8) : (Lit.int .u8 b.toNat).wf = true := by
  have e1 : IntKind.u8.min = 0 := by decide
  have e2 : IntKind.u8.max = 255 := by decide
  have := b.toNat_lt
  simp [Lit.wf, e1, e2]; omega
/-- The identity as a value. -/
def idV (i : List UInt8) : Value := .agg (i.map enB).toArray
theorem keyOf_id (i : List UInt8) (h : i.length = 32) : ∃ k, keyOf Tryz.prog 67 (idV i) = some k := by
  obtain ⟨m, hm⟩ : ∃ m, Tryz.prog.types.size = m + 1 := Nat.exists_eq_succ_of_ne_zero (Nat.ne_of_gt (Nat.lt_of_le_of_lt (Nat.zero_le _) id_row))
  unfold keyOf
  simp only [Tryz.underlying67]
  rw [if_pos (by simp [id_keyType, Value.formed, Tryz.underlying67, id_cells, idV, h]), hm]
  unfold Program.keyLits
  simp only [Tryz.underlying67, idV, Value.cells]
  rw [if_pos (by rw [id_cells]; simp [h])]
  rw [mapM_some (g := fun j => [Lit.int .u8 (i.getD j 0).toNat])]
  · exact ⟨_, rfl⟩
  · intro j hj
    have hj' : j < i.length := by rw [h]; exact List.mem_range.1 hj
    have e : ((((i.map enB).toArray.toList.drop (j * Tryz.prog.cellsOf 5)).take (Tryz.prog.cellsOf 5))) = [enB (i.getD j 0)] := by
      rw [byte_cells, Nat.mul_one, List.drop_eq_getElem_cons (by simpa using hj')]
      simp [List.getD, List.getElem?_eq_getElem hj']
    rw [e]
    unfold Program.keyLits
    simp [Tryz.underlying5, enB, byte_wf]
noncomputable def idKey (i : List UInt8) : Lit := (keyOf Tryz.prog 67 (idV i)).getD (.bool false)
theorem keyOf_idKey {i : List UInt8} (h : i.length = 32) : keyOf Tryz.prog 67 (idV i) = some (idKey i) := by
  obtain ⟨k, e⟩ := keyOf_id i h
  unfold idKey; rw [e]; rfl
theorem enB_inj {a b : UInt8} (h : enB a = enB b) : a = b := by
  unfold enB at h
  injection h with _ h2
  exact UInt8.toNat_inj.1 (by omega)
theorem idKey_inj {i j : List UInt8} (hi : i.length = 32) (hj : j.length = 32) (h : idKey i = idKey j) : i = j := by
  have e1 := keyOf_idKey hi
  have e2 := keyOf_idKey hj
  rw [h] at e1
  have e := id_keyed.inj e1 e2
  unfold idV at e
  injection e with e
  have e3 : i.map enB = j.map enB := by simpa using congrArg Array.toList e
  exact List.map_inj_right (fun a b => enB_inj) |>.1 e3
theorem idKey_lit {i : List UInt8} (h : i.length = 32) : WideAt.IsKeyLit (idKey i) := id_keyed.key (keyOf_idKey h)
/-- The keys of the articles that are read here. -/
noncomputable def keysN (S : List Rg) (l : List N) : List Lit := (l.filter fun y => has S y.2).map fun y => idKey y.1
theorem keysN_known {S : List Rg} {l : List N} (hl : OkN l) {i : List UInt8} (hi : i.length = 32) : onL (keysN S l) (idKey i) = knownN S l i := by
  rw [Bool.eq_iff_iff, onL_iff (fun x hx => by
    obtain ⟨y, hy, rfl⟩ := List.mem_map.1 hx
    exact idKey_lit (hl y (List.mem_filter.1 hy).1))]
  simp only [keysN, List.mem_map, List.mem_filter, knownN, List.any_eq_true, Bool.and_eq_true, beq_iff_eq]
  constructor
  · rintro ⟨y, ⟨hy, h⟩, e⟩
    exact ⟨y, hy, idKey_inj (hl y hy) hi e, h⟩
  · rintro ⟨y, hy, rfl, h⟩
    exact ⟨y, ⟨hy, h⟩, rfl⟩
theorem keysN_snoc {S : List Rg} {l : List N} {k : Nat} {x : N} (h : l[k]? = some x) : keysN S (l.take (k + 1)) = keysN S (l.take k) ++ if has S x.2 then [idKey x.1] else [] := by
  obtain ⟨hl, hx⟩ := List.getElem?_eq_some_iff.1 h
  rw [List.take_succ_eq_append_getElem hl, hx]
  unfold keysN
  rw [List.filter_append, List.map_append]
  cases hq : has S x.2 <;> simp [hq]
theorem keysN_length (S : List Rg) (l : List N) : (keysN S l).length ≤ l.length := by
  unfold keysN
  rw [List.length_map]; exact List.length_filter_le _ _
end Go.Proofs.YtcpennlojjlpaaaGreatDoor
