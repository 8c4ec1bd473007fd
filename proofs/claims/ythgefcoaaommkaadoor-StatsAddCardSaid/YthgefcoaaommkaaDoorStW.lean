/- Events among the arguments, at this dump; the sizes of what they hold. -/
import Derived.Test.YthgefcoaaommkaaDoorStS
import Derived.Test.YthgefcoaaommkaaDoorGnLaid
namespace Go.Proofs.YthgefcoaaommkaaDoor
open Go.ChangeShapes Go.WideShapes Go.ChangeAt Go.RowKit Go.Gn Go.Sr Go.Maps

section
variable {H : Type} {enc : TypeId × Value → H} {W : World}
theorem weights_at {P : Program} {B : Nat} : ∀ {ts : List TypeId} {ds : List (DataW H)} {i : Nat} {t : TypeId} {d : DataW H}, (DataW.weightsEach P ts ds).all (· ≤ B) = true → ts[i]? = some t → ds[i]? = some d → ∀ n ∈ d.weights P t, n ≤ B
  | [], _, _, _, _, _, h, _ => by simp at h
  | _ :: _, [], _, _, _, _, _, h => by simp at h
  | t :: ts, d :: ds, 0, t', d', h, ht, hd => fun n hn => by
    simp only [List.getElem?_cons_zero, Option.some.injEq] at ht hd
    subst ht; subst hd
    unfold DataW.weightsEach at h
    rw [List.all_append, Bool.and_eq_true] at h
    simpa using List.all_eq_true.1 h.1 n hn
  | t :: ts, d :: ds, i + 1, t', d', h, ht, hd => fun n hn => by
    unfold DataW.weightsEach at h
    rw [List.all_append, Bool.and_eq_true] at h
    exact weights_at h.2 (by simpa using ht) (by simpa using hd) n hn
set_option maxRecDepth 100000 in
theorem ev_at {base : Nat} {sp : Nat → Bool} {held : Bool} (fuel : Nat) (cs : List Value) (x : DataW H × List MemPlace) (h : DataW.trod enc Tryd.prog W base sp held fuel 37 cs = some x) : ∃ m : EvM, cs = evL m ∧ GoodM W m ∧ ((∀ n ∈ x.1.weights Tryd.prog 37, n ≤ reachBytes) → LenM m) :=
  open_ev Tryd.underlying37 (by kernel_rfl) rfl rfl rfl rfl rfl (by kernel_rfl) (by kernel_rfl) (by kernel_rfl) (by kernel_rfl) (by kernel_rfl) Tryd.underlying3 Tryd.underlying34 Tryd.underlying5 (by kernel_rfl) Tryd.underlying35 Tryd.underlying35 Tryd.underlying9 (by kernel_rfl) Tryd.underlying3 h
set_option maxRecDepth 100000 in
theorem evs_at {r : Reach} {b0 base : Nat} {sp : Nat → Bool} {held : Bool} {v : Value} {d : DataW H} {p : List MemPlace} (hv : Value.okWide Tryd.prog W r b0 22 v) (h : DataW.Trod enc Tryd.prog W base sp held 22 v d p) :
    ∃ (A : Option Addr) (c : Nat) (ms : List EvM), v = .slice A ms.length c ∧ RdE W A ms ∧ ms.length ≤ c ∧ c ≤ maxLen ∧ ((∀ n ∈ d.weights Tryd.prog 22, n ≤ reachBytes) → ∀ m ∈ ms, LenM m) :=
  open_evs Tryd.underlying22 (by kernel_rfl) (fun fuel cs x h => ev_at fuel cs x h) hv h
set_option maxRecDepth 100000 in
theorem evarg_at {r : Reach} {b0 base : Nat} {sp : Nat → Bool} {held : Bool} {v : Value} {d : DataW H} {p : List MemPlace} (hv : Value.okWide Tryd.prog W r b0 37 v) (h : DataW.Trod enc Tryd.prog W base sp held 37 v d p) :
    ∃ m : EvM, v = evA m ∧ GoodM W m ∧ ((∀ n ∈ d.weights Tryd.prog 37, n ≤ reachBytes) → LenM m) := by
  obtain ⟨cs, rfl, _⟩ := okWide_struct Tryd.underlying37 hv
  obtain ⟨fuel, hf⟩ := h
  obtain ⟨m, e, hg, hL⟩ := ev_at fuel _ _ hf
  refine ⟨m, ?_, hg, hL⟩
  have e2 : cs.toList = evL m := e
  unfold evA
  rw [← e2]
end
end Go.Proofs.YthgefcoaaommkaaDoor
