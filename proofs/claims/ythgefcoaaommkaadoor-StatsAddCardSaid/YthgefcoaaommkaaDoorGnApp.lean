/- An append to a slice of texts of the call's own: one new text; the elements of a slice that is read. -/
import Derived.Test.YthgefcoaaommkaaDoorGnBase
namespace Go.Proofs.YthgefcoaaommkaaDoor
open Go.RowKit

theorem texts_one (xs : List (List UInt8)) : ∀ u ∈ xs.map enS, u.oneCell' = true := by
  intro u hu
  obtain ⟨x, _, rfl⟩ := List.mem_map.1 hu
  rfl
theorem addr_add (b o j : Nat) : (⟨b, o, none⟩ : Addr).add j = ⟨b, o + j, none⟩ := by
  unfold Addr.add; split
  · rename_i h; subst h; rfl
  · rfl
/-- out = append(out, y). -/
theorem wpList_app1 (wr : World) {ops : Array Oper} {rest : List Oper} {o : Oper} {a : Act} {Q : Exit → Act → World → Prop} (hgd : o.guard = none) (s x : Operand)
    (ho : o.op = .call { callee := .builtin .append, args := #[s, x], argTypes := #[35, 35] })
    (base : Nat) (v : Value) (out : List (List UInt8)) (y : List UInt8) (hown : wr.ownsRow base 9 1 v out.length (out.map enS)) (hs : a.eval s = v) (hx : a.eval x = .slice (some ⟨wr.heap.size, 0, none⟩) 1 1)
    (hlen : out.length ≤ 1000000000) (hbase : base ≤ wr.heap.size)
    (h : ∀ v' w', w'.ownsRow base 9 1 v' (out ++ [y]).length ((out ++ [y]).map enS) → Below base wr w' → wpList Tryd.prog ops Q rest (a.put o.dst v') w') : wpList Tryd.prog ops Q (o :: rest) a (wr.alloc (.cells #[enS y] 9)) := by
  obtain ⟨i0, hi, hz0, hz1, hz2⟩ := info_parts str_info
  refine wpList_append_own (P := Tryd.prog) _ hgd s x 35 ho base 9 i0 (.string ByteArray.empty) 1 16 Tryd.underlying35 hi hz0 hz1 hz2 rfl (by decide) v out.length (out.map enS) hs (hown.alloc _) ⟨wr.heap.size, 0, none⟩ 1 1 [enS y] hx rfl ?_ ?_ ?_ ?_ ?_ ?_
  · intro j u hu
    cases j with
    | zero =>
      simp only [List.getElem?_cons_zero, Option.some.injEq] at hu
      subst hu
      rw [addr_add, blk_cell (blk_new wr _)]; rfl
    | succ j => simp at hu
  · exact texts_one [y]
  · simp only [maxLen]; omega
  · omega
  · simp; omega
  · intro v' w' h1 h2 _
    refine h v' w' (by simpa using h1) ?_
    refine (((Below.refl base wr).alloc hbase _).grown h2 (by simp; omega) ?_)
    intro k hk
    exact (hown.lt k hk).1
/-- out = append(out, xs...). -/
theorem run_appN (w : World) (ty : TypeId) (base : Nat) (v : Value) (out : List (List UInt8)) (hown : w.ownsRow base 9 1 v out.length (out.map enS)) (A : Option Addr) (c : Nat) (xs : List (List UInt8)) (hr : Rd w A xs)
    (hlen : out.length + xs.length ≤ 1000000000) (hbase : base ≤ w.heap.size) :
    ∃ v' w', (Builtin.append_ #[35, 35] ty #[v, .slice A xs.length c]).run Tryd.prog w = .ok v' w' ∧ w'.ownsRow base 9 1 v' (out ++ xs).length ((out ++ xs).map enS) ∧ Below base w w' := by
  obtain ⟨i0, hi, hz0, hz1, hz2⟩ := info_parts str_info
  by_cases hx : xs = []
  · subst hx
    rcases A with _ | ad
    · refine ⟨v, w, ?_, by simpa using hown, Below.refl _ _⟩
      rcases hown.2 with ⟨rfl, h0⟩ | ⟨g, cap, cur, rfl, _, _, hnc, _⟩
      · simp [Builtin.append_, run_underlying Tryd.underlying35, sizeOf, typeInfo, hi, Builtin.lenOf, Builtin.firstCells]
      · simp [Builtin.append_, run_underlying Tryd.underlying35, sizeOf, typeInfo, hi, Builtin.lenOf, Builtin.firstCells, hnc, storeCells]
    · obtain ⟨v', w', h1, h2, h3, _⟩ := run_append_own (P := Tryd.prog) w base 35 ty 9 i0 (.string ByteArray.empty) 1 16 Tryd.underlying35 hi hz0 hz1 hz2 rfl (by decide) v out.length (out.map enS) hown ad 0 c [] rfl (fun j u hu => by simp at hu) (fun u hu => by simp at hu) (by simp only [maxLen]; omega) (by omega) hbase
      refine ⟨v', w', h1, by simpa using h2, (Below.refl base w).grown h3 hbase ?_⟩
      intro k hk
      exact (hown.lt k hk).1
  · obtain ⟨b, o, rfl, hb, hc⟩ := hr (List.length_pos_iff.2 hx)
    obtain ⟨v', w', h1, h2, h3, _⟩ := run_append_own (P := Tryd.prog) w base 35 ty 9 i0 (.string ByteArray.empty) 1 16 Tryd.underlying35 hi hz0 hz1 hz2 rfl (by decide) v out.length (out.map enS) hown ⟨b, o, none⟩ xs.length c (xs.map enS) (by simp) (by
      intro j u hu
      rw [List.getElem?_map] at hu
      cases hj : xs[j]? with
      | none => rw [hj] at hu; cases hu
      | some x =>
        rw [hj] at hu
        cases hu
        rw [addr_add]; exact hc j x hj) (texts_one xs) (by simp only [maxLen]; omega) (by omega) hbase
    refine ⟨v', w', h1, by simpa using h2, (Below.refl base w).grown h3 hbase ?_⟩
    intro k hk
    exact (hown.lt k hk).1
theorem Rd.new (w : World) (xs : List (List UInt8)) (t : TypeId) : Rd (w.alloc (.cells (xs.map enS).toArray t)) (some ⟨w.heap.size, 0, none⟩) xs := fun _ => by
  refine ⟨w.heap.size, 0, rfl, by simp, fun j x hj => ?_⟩
  rw [Nat.zero_add, blk_cell (blk_new w _) j]
  simp [hj]
theorem below_new (w : World) (o : Obj) : Below w.heap.size w (w.alloc o) := (Below.refl _ _).alloc (Nat.le_refl _) o
end Go.Proofs.YthgefcoaaommkaaDoor
