/- For every input the law DateFromCivil returns true and leaves its arguments as they were: the row, and the card that ties its listed variables. Conditions: none. -/
import Derived.Test.YtpdncgfkoibacaaDoorRows
import Derived.Test.YtpdncgfkoibacaaDoorCards
import Derived.Test.YtpdncgfkoibacaaDoorTie
import Derived.Test.YtpdncgfkoibacaaDoorLaid
import Derived.Test.YtpdncgfkoibacaaDoorKeep
import Derived.Test.YtpdncgfkoibacaaDoorFromWalk
import Derived.ProofKit
import Derived.LaidMore
import Derived.OpenShut
import Derived.ShutString
import Derived.SevenTiedAt
import Derived.Stop.Joined
import Derived.Deep.Fields
namespace Go.Proofs.YtpdncgfkoibacaaDoor
open Go.ChangeShapes Go.WideShapes Go.ChangeAt Go.RowKit
open Go.ChangeMaps (open_string shut_string)

/-- A struct of five fields of one cell each, by value: its cells, and that each is read as its field's type. -/
theorem five_fields {H : Type} {enc : TypeId × Value → H} {P : Program} {W : World} {r : Reach} {b0 base : Nat} {sp : Nat → Bool} {held : Bool} {t : TypeId} {f0 f1 f2 f3 f4 : Field} {v : Value} {d : DataW H} {p : List MemPlace}
    (hs : P.underlying t = some (.struct #[f0, f1, f2, f3, f4])) (hone : Go.Deep.oneCellFields P #[f0, f1, f2, f3, f4] = true) (hC : P.cellsOf t = 5) (hv : Value.okWide P W r b0 t v) (h : DataW.Trod enc P W base sp held t v d p) :
    ∃ (c0 c1 c2 c3 c4 : Value) (y0 y1 y2 y3 y4 : DataW H × List MemPlace) (n : Nat), v = .agg #[c0, c1, c2, c3, c4] ∧ DataW.trod enc P W base sp held n f0.type [c0] = some y0 ∧ DataW.trod enc P W base sp held n f1.type [c1] = some y1 ∧
      DataW.trod enc P W base sp held n f2.type [c2] = some y2 ∧ DataW.trod enc P W base sp held n f3.type [c3] = some y3 ∧ DataW.trod enc P W base sp held n f4.type [c4] = some y4 := by
  obtain ⟨cs, rfl, hsz⟩ := okWide_struct hs hv
  obtain ⟨l⟩ := cs
  match l, hsz.trans hC with
  | [c0, c1, c2, c3, c4], _ =>
    obtain ⟨fuel, hf⟩ := h
    obtain ⟨xs, n, _, _, _, hlen, hg⟩ := DataW.trod_struct hs hf
    have one := Go.Deep.hone_of hone
    match xs, hlen with
    | [y0, y1, y2, y3, y4], _ =>
      exact ⟨c0, c1, c2, c3, c4, y0, y1, y2, y3, y4, n, rfl, by simpa [Value.cells, one 0 f0 rfl] using hg 0 f0 rfl, by simpa [Value.cells, one 1 f1 rfl] using hg 1 f1 rfl, by simpa [Value.cells, one 2 f2 rfl] using hg 2 f2 rfl,
        by simpa [Value.cells, one 3 f3 rfl] using hg 3 f3 rfl, by simpa [Value.cells, one 4 f4 rfl] using hg 4 f4 rfl⟩
set_option maxRecDepth 100000 in
/-- A date by value, as its five numbers. -/
theorem open_civil {H : Type} {enc : TypeId × Value → H} {W : World} {r : Reach} {b0 base : Nat} {sp : Nat → Bool} {held : Bool} {v : Value} {d : DataW H} {p : List MemPlace}
    (hv : Value.okWide Tryd.prog W r b0 28 v) (h : DataW.Trod enc Tryd.prog W base sp held 28 v d p) : ∃ y m d h n : Int, v = .agg #[.int .i64 y, .int .i64 m, .int .i64 d, .int .i64 h, .int .i64 n] := by
  obtain ⟨c0, c1, c2, c3, c4, _, _, _, _, _, n, rfl, g0, g1, g2, g3, g4⟩ := five_fields Tryd.underlying28 (by kernel_rfl) (by kernel_rfl) hv h
  obtain ⟨n0, e0, _, _⟩ := DataW.trod_int Tryd.underlying3 g0
  obtain ⟨n1, e1, _, _⟩ := DataW.trod_int Tryd.underlying3 g1
  obtain ⟨n2, e2, _, _⟩ := DataW.trod_int Tryd.underlying3 g2
  obtain ⟨n3, e3, _, _⟩ := DataW.trod_int Tryd.underlying3 g3
  obtain ⟨n4, e4, _, _⟩ := DataW.trod_int Tryd.underlying3 g4
  obtain rfl := List.singleton_inj.1 e0
  obtain rfl := List.singleton_inj.1 e1
  obtain rfl := List.singleton_inj.1 e2
  obtain rfl := List.singleton_inj.1 e3
  obtain rfl := List.singleton_inj.1 e4
  exact ⟨n0, n1, n2, n3, n4, rfl⟩

set_option maxRecDepth 100000 in
theorem dateFromCivil_lifted (os : Os) (started : os.Started) (H : Type) (enc : TypeId × Value → H) :
    ReturnsInHanded {} Tryd.checked os 4 .any (fun w args => (Rows.dateFromCivilSpec.pre enc Tryd.prog Tryd.f4 [] false w args ∧ laidMetH Tryd.prog laid3 w) ∧ sizedMet enc Tryd.prog Tryd.f4 (OpenSpec.ofChange Rows.dateFromCivilSpec) false w args)
      (Rows.dateFromCivilSpec.post enc Tryd.prog Tryd.f4 false true false false) := by
  refine returnsInHanded_of_change_and (C := Tryd.checked) (X := fun w _ => laidMetH Tryd.prog laid3 w) (fun _ _ _ hh h => h.of_heap hh) own started (by kernel_rfl) Tryd.func4
    (ChangeSpec.witness_shaped (enc := enc) (C := Tryd.checked) (os := os) (X := fun w _ => laidMetH Tryd.prog laid3 w) false (World.doorLaid Tryd.prog 24 os) #[.agg #[.int .i64 0, .int .i64 0, .int .i64 0, .int .i64 0, .int .i64 0]] 8 rfl (World.shaped_of_RefB (by kernel_rfl) (by kernel_rfl)) (by kernel_rfl) (by kernel_rfl) (by kernel_rfl) (door_met os _)) ?_
  intro W base args ds gs before hval0 hW _ _ hL _
  have hval : ∀ (j : Nat) t v, Tryd.f4.params[j]? = some t → args[j]? = some v → Value.okWide Tryd.prog W .any base t v := hval0
  have hW' := hW
  obtain ⟨p, q, hA0, hV, rfl, hfz, hnd⟩ := hW
  have hA : DataW.TrodAll enc Tryd.prog W 0 (fun _ => true) true Tryd.f4.params.toList args.toList ds p := hA0
  have hKeep : ∀ W' : World, Below W.heap.size W W' → DataW.TrodAll enc Tryd.prog W' 0 (fun b => decide (b < W.heap.size)) true Tryd.f4.params.toList args.toList ds p := fun W' hb => Keep.args_keep (by kernel_rfl) (by kernel_rfl) (by kernel_rfl) (by kernel_rfl) hA0 hb
  rw [Tryd.params4] at hA hval
  obtain ⟨v0, vs0, d0, ds0, p0, q0, hargs, rfl, rfl, h0, r0⟩ := trodAll_cons hA
  obtain ⟨rfl, rfl, rfl⟩ := trodAll_nil r0
  obtain rfl : args = #[v0] := by cases args; simp_all
  obtain ⟨rfl, rfl⟩ := trodVars_none hV
  obtain ⟨y0, m0, e0, x0, n0, rfl⟩ := open_civil (hval 0 28 v0 rfl rfl) h0
  have hT := tab_of_laid hL
  simp only [List.append_nil] at hW'
  refine (dateFromCivil_walk y0 m0 e0 x0 n0 W hT).mono fun e W' ⟨he, hg⟩ => ?_
  subst he
  refine ⟨_, rfl, _, _, _, [], _, [], hW', ?_, hKeep W' hg, ?_, hg.frame _, fun h => by cases h⟩
  · exact (trodAll_cons_mk (shut_bool Tryd.underlying4 _) trodAll_mk0)
  · rfl

theorem dateFromCivil_said : Rows.DateFromCivilSaid :=
  OpenClaim.holds_of_wide 4 Tryd.f4 rfl rfl rfl rfl rfl rfl rfl ⟨rfl, rfl, rfl, rfl, rfl⟩ rfl rfl rfl rfl rfl (by kernel_rfl) Tryd.func4 (by kernel_rfl)
    (of_decide_eq_true (by kernel_rfl)) (by unfold Func.isWrapper; first | (rw [if_pos (by decide +kernel)]; kernel_rfl) | (rw [if_neg (by decide +kernel)]; exact ⟨rfl, rfl⟩))
    (fun os started H enc _ => dateFromCivil_lifted os started H enc)

theorem dateFromCivil_holds : Rows.DateFromCivilCardSaid :=
  Claim7.holds_tied_plain_at .later [] [.data, .data, .data] true Rows.dateFromCivilCard.stood.harness false
    dateFromCivil_said (fun _ h => by cases h) (by kernel_rfl) (fun _ h => by cases h) dateFromCivil_row_tie rfl ⟨rfl, rfl⟩ (by kernel_rfl) rfl
    (fun f fn hf hfn => by
      obtain rfl : f = 4 := Option.some.inj ((show Tryd.prog.funcNamed "bulletin/bulletinlaw04.DateFromCivil" = some 4 by kernel_rfl).symm.trans hf) |>.symm
      obtain rfl : fn = Tryd.f4 := (Option.some.inj (Tryd.func4.symm.trans hfn)).symm
      exact ⟨by kernel_rfl, fun j t ht => by
        rw [Tryd.params4] at ht
        have hm : t = 28 := by
          rcases j with _ | j
          all_goals simp at ht
          all_goals (subst ht; simp)
        subst hm
        exact (show Tryd.prog.wantsStandIn 28 = false by kernel_rfl)⟩)
    (by kernel_rfl)

end Go.Proofs.YtpdncgfkoibacaaDoor
