/- The rows' condition on the listed variables: a world that meets it; the wrap that keeps the world's shape beside it; what the shape gives the walks; a slice of texts among the arguments. -/
import Derived.Test.YthgefcoaaommkaaDoorRows
import Derived.Test.YthgefcoaaommkaaDoorGnBase
import Derived.HandedShaped
import Derived.Shelf.Vars
import Derived.SliceStrings
import Derived.ProofKit
import Derived.LaidMore
import Derived.Lay
import Derived.OpenShut
import Derived.Stop.Joined
namespace Go.Proofs.YthgefcoaaommkaaDoor
open Go.ChangeShapes Go.WideShapes Go.ChangeAt Go.RowKit

section
variable {H : Type} {enc : TypeId × Value → H}
/-- A row with a condition of its own on the world, the world's shape handed to the contract. -/
theorem handed_and_shaped {a : Assume} {C : Checked} {os : Os} {f : FuncId} {fn : Func} {s : ChangeSpec} {conds : List PathCond} {apart fresh handsOn again : Bool} {X : World → Array Value → Prop}
    (hX : ∀ (w w' : World) (args : Array Value), w.heap = w'.heap → X w args → X w' args)
    (own : ownKnob C.prog.godebug = none) (started : os.Started) (noInit : C.prog.inits.idxOf? f = none) (hfn : C.prog.funcs[f]? = some fn)
    (witness : ∃ (w : World) (tape : Tape) (i : Input), w.os = os ∧ (w.forCall tape i).Shaped C.prog ∧ i.vars = [] ∧ Input.okWide C.prog (w.forCall tape i) .any w.heap.size f i ∧
      ((s.pre enc C.prog fn conds apart (w.forCall tape i).memory i.args ∧ X (w.forCall tape i).memory i.args) ∧ sizedMet enc C.prog fn (OpenSpec.ofChange s) apart (w.forCall tape i).memory i.args) ∧ a.holds C.prog (lone (Frame.enter C.prog f i.args .normal) [] (w.forCall tape i)))
    (contract : ∀ (W : World) (base : Nat) (args : Array Value) (ds gs : List (DataW H)) (before : List MemPlace),
      (∀ (j : Nat) t v, fn.params[j]? = some t → args[j]? = some v → Value.okWide C.prog W .any base t v) →
      DataW.Whole enc C.prog fn.params.toList s.vars apart W args.toList ds gs before →
      (DataW.weightsEach C.prog (fn.params.toList ++ s.plain.varTypes C.prog) (ds ++ gs)).all (· ≤ reachBytes) = true → X W args → W.ShapedOpen C.prog →
      Calls C.prog f args W fun e W' => ∃ v, e = .returned v ∧ s.post enc C.prog fn apart fresh handsOn again W args v W') :
    ReturnsInHanded a C os f .any (fun w args => (s.pre enc C.prog fn conds apart w args ∧ X w args) ∧ sizedMet enc C.prog fn (OpenSpec.ofChange s) apart w args) (s.post enc C.prog fn apart fresh handsOn again) := by
  refine returnsInHanded_of_calls own started noInit witness ?_
  intro w tape i _ hsh _ hok hpre _
  obtain ⟨_, _, _, fn', hfn', _, _, _, _, hval⟩ := hok
  obtain rfl : fn' = fn := Option.some.inj (hfn'.symm.trans hfn)
  obtain ⟨⟨⟨ds, gs, before, hw, _⟩, hx⟩, hz⟩ := hpre
  have hw' := DataW.Whole.of_heap (w' := w.forCall tape i) (by rfl) hw
  refine (contract (w.forCall tape i) w.heap.size i.args ds gs before hval hw' (hz.weights hw) (hX _ _ _ (by rfl) hx) hsh).mono fun e W' ⟨v, he, hp⟩ => ?_
  subst he
  exact ChangeSpec.post_blind hp
/-- A slice of texts among the arguments. -/
theorem open_texts {P : Program} {W : World} {r : Reach} {b0 base : Nat} {sp : Nat → Bool} {held : Bool} {t e : TypeId} {v : Value} {d : DataW H} {p : List MemPlace} (ht : P.underlying t = some (.slice e)) (he : P.underlying e = some .string) (hc : P.cellsOf e = 1)
    (hv : Value.okWide P W r b0 t v) (h : DataW.Trod enc P W base sp held t v d p) :
    ∃ (A : Option Addr) (c : Nat) (xs : List (List UInt8)), v = .slice A xs.length c ∧ Rd W A xs ∧ xs.length ≤ c ∧ c ≤ maxLen ∧ ∀ x ∈ xs, x.length ≤ maxLen := by
  obtain ⟨a0, len, cap, rfl⟩ := okWide_slice ht hv
  obtain ⟨fuel, hf⟩ := h
  rcases open_strings ht he hc hf with ⟨hcs, _⟩ | ⟨a, len', cap', ss, hcs, _, hl, hm, hz, _, hcell, hws⟩
  · cases hcs
    exact ⟨none, 0, [], rfl, Rd.nil, by simp, by simp [maxLen], fun x hx => by simp at hx⟩
  · cases hcs
    have hle : len ≤ ss.length := by rw [hz]; split <;> omega
    refine ⟨some a, cap, (ss.take len).map fun s => s.data.toList, ?_, ?_, ?_, hm, ?_⟩
    · congr 1; simp; omega
    · intro hpos
      have h0 : 0 < len := by simp at hpos; omega
      obtain ⟨b, o, s⟩ := a
      have hs : s = none := by
        have := hcell 0 (by omega)
        cases s with
        | none => rfl
        | some q =>
          rw [show (⟨b, o, some q⟩ : Addr).add 0 = ⟨b, o, some q⟩ from rfl] at this
          unfold World.cell? at this
          split at this <;> simp at this
      subst hs
      refine ⟨b, o, rfl, ?_, fun j x hj => ?_⟩
      · exact World.block_lt_of_cell? W _ (hcell 0 (by omega))
      · have hj' : j < len := by
          have := (List.getElem?_eq_some_iff.1 hj).1
          simp at this; omega
        have := hcell j (by omega)
        have e1 : (⟨b, o, none⟩ : Addr).add j = ⟨b, o + j, none⟩ := by
          unfold Addr.add; split
          · rename_i e; subst e; rfl
          · rfl
        rw [e1] at this
        rw [this]
        simp [hj', show j < ss.length by omega] at hj ⊢
        rw [← hj]
    · simp; omega
    · intro x hx
      obtain ⟨s, hs, rfl⟩ := List.mem_map.1 hx
      have h1 : s.data.size ≤ maxLen := hws s (List.mem_of_mem_take hs)
      rw [Array.length_toList]
      exact h1
end

abbrev laidL : List (String × DataW Unit) := [("unicode/utf8.acceptRanges", Rows.laid_unicode_utf8_acceptRanges), ("unicode/utf8.first", Rows.laid_unicode_utf8_first)]
theorem own : ownKnob Tryd.prog.godebug = none := by kernel_rfl
/-- A heap that meets the condition. -/
theorem door_met (os : Os) (args : Array Value) : laidMetH Tryd.prog laidL ((World.laidAll Tryd.prog os laidL).forCall (fun _ _ => 0) ⟨#[], args, []⟩).memory := by
  rw [MakeChecks.laidMetH_plain _ _ _ (by kernel_rfl)]; exact laidMet_laidAll _ (by kernel_rfl) (by kernel_rfl)
/-- What the world's shape gives the walks. -/
theorem env_of_shaped {W : World} (h : W.ShapedOpen Tryd.prog) : Env W :=
  cell_of_shapedOpen_int (t := 3) (zero := #[.int .i64 0]) h (of_decide_eq_true (by kernel_rfl)) (by kernel_rfl) rfl (by kernel_rfl) (by kernel_rfl) Tryd.underlying3
end Go.Proofs.YthgefcoaaommkaaDoor
