/- Contract of zones of package date: the map that it makes, and what a look-up in it yields. -/
import Derived.Test.YtpdncgfkoibacaaDoorCap
import Derived.Maps.OwnSet
import Derived.StringKeys
namespace Go.Proofs.YtpdncgfkoibacaaDoor
open Go.RowKit Go.Maps Go.WideMaps

theorem zlaw : Keyed Tryd.prog 9 := string_keyed Tryd.underlying9
/-- A map of the call's own, and what was there before as it was. -/
def Zst (w0 w : World) (b n : Nat) (D : DataW Unit) : Prop := w.ownsMap Tryd.prog 9 (plainElem Tryd.prog 3) b n D ∧ Below w0.heap.size w0 w ∧ w0.heap.size ≤ b

theorem wpList_insert_z {w0 w : World} {ops : Array Oper} {rest : List Oper} {o : Oper} {a : Act} {Q : Exit → Act → World → Prop}
    (hg : o.guard = none) (m x v : Operand) (hop : o.op = Op.insert 83 m x v) (b n : Nat) (D : DataW Unit)
    (hm : a.eval m = .map (some b)) (hz : Zst w0 w b n D) (hn : n < 100) (key : ByteArray) (c : Int) (hx : a.eval x = .string key) (hv : a.eval v = .int .i64 c) (hkey : key.size ≤ maxLen) (hwc : (Lit.int .i64 c).wf = true)
    (hK : ∀ w', Zst w0 w' b (n + 1) (D.put (.string key.data.toList) (.lit (.int .i64 c))) → wpList Tryd.prog ops Q rest (a.put o.dst undef) w') :
    wpList Tryd.prog ops Q (o :: rest) a w := by
  have hmx : n < maxLen := by unfold maxLen; omega
  have hgr : ∀ w', w.grownBy w' (some b) → Below w0.heap.size w0 w' := fun w' r2 => hz.2.1.grown r2 hz.2.1.size (fun k hk => by injection hk with hk; rw [← hk]; exact hz.2.2)
  refine wpList_plain hg fun K' hK' => ?_
  obtain ⟨w', hrun, r1, r2⟩ := hz.1.update zlaw Tryd.underlying83 hmx (keyOf_string_mk Tryd.underlying9 hkey) (plainElem_int Tryd.underlying3 hwc)
  unfold Oper.wp
  simp [execOp, hop, hm, hx, hv, hrun, Result.andThen]
  exact hK' _ _ (hK w' ⟨r1, hgr w' r2, hz.2.2⟩)

/-- What the map of the zones reads as. -/
def zoneD : DataW Unit := .map [(.string [67, 68, 84], .lit (.int .i64 (-300))), (.string [67, 83, 84], .lit (.int .i64 (-360))), (.string [69, 68, 84], .lit (.int .i64 (-240))), (.string [69, 83, 84], .lit (.int .i64 (-300))), (.string [71, 77, 84], .lit (.int .i64 (0))), (.string [77, 68, 84], .lit (.int .i64 (-360))), (.string [77, 83, 84], .lit (.int .i64 (-420))), (.string [80, 68, 84], .lit (.int .i64 (-420))), (.string [80, 83, 84], .lit (.int .i64 (-480))), (.string [85, 84], .lit (.int .i64 (0))), (.string [85, 84, 67], .lit (.int .i64 (0))), (.string [90], .lit (.int .i64 (0)))]

set_option maxRecDepth 100000 in
set_option maxHeartbeats 2000000 in
theorem zones_any (w : World) :
    Calls Tryd.prog 53 #[] w fun e w' => e = .returned (.map (some w.heap.size)) ∧ Zst w w' w.heap.size 12 zoneD := by
  have hmm := @run_makeMap Tryd.prog
  have hz : Zst w (w.alloc (.map #[] 0)) w.heap.size 0 (.map []) := ⟨World.ownsMap_made _ _ _ _, (Below.refl _ _).alloc (Nat.le_refl _) _, Nat.le_refl _⟩
  go_enter Tryd.func53, Tryd.ntmps53
  go_wp2_with (refine wpList_insert_z rfl _ _ _ rfl _ _ _ rfl hz (by decide) _ _ rfl rfl (by decide) (by decide) ?_; clear hz; intro w1 hz)
  go_ret
  exact ⟨rfl, hz⟩
end Go.Proofs.YtpdncgfkoibacaaDoor
