/- The rows' condition on the listed variables: a world that meets it; the wrap that keeps the world's shape beside it; what the shape gives the walks; a slice of texts among the arguments.
   The rows' condition on the listed variables, with strconv's tables and its two errors: a world that meets it, what it gives the walks. -/
import Derived.Test.YtlchcjnbbhpiaaaGreatDoorRows
import Derived.Test.YtlchcjnbbhpiaaaGreatDoorZb
import Derived.HandedShaped
import Derived.Shelf.Vars
import Derived.SliceStrings
import Derived.ProofKit
import Derived.LaidMore
import Derived.Lay
import Derived.OpenShut
import Derived.Stop.Joined
import Derived.Test.YtlchcjnbbhpiaaaGreatDoorZi
import Derived.Lib.LaidTab
import Derived.LaidLaws
import Derived.ChangeBears2
namespace Go.Proofs.YtlchcjnbbhpiaaaGreatDoor
open Go.ChangeShapes Go.WideShapes Go.ChangeAt Go.RowKit
section
variable {H : Type} {enc : TypeId × Value → H}
/-- A row with a condition of its own on the world, the world's shape handed to the contract. -/
theorem handed_and_shaped {a : Assume} {C : Checked} {os : Os} {f : FuncId} {fn : Func} {s : ChangeSpec} {conds : List PathCond} {apart fresh handsOn again : Bool} {X : World → Array Value → Prop}
  (hX : ∀ (w w' : World) (args : Array Value), w.heap = w'.heap → X w args → X w' args)
  (own : ownKnob C.prog.godebug = none) (started : os.Started) (noInit : C.prog.inits.idxOf? f = none) (hfn : C.prog.funcs[f]? = some fn)
  (witness : ∃ (w : World) (tape : Tape) (i : Input), w.os = os ∧ (w.forCall tape i).Shaped C.prog ∧ i.vars = [] ∧ Input.okWide C.prog (w.forCall tape i) .any w.heap.size f i ∧
   ((s.pre enc C.prog fn conds apart (w.forCall tape i).memory i.args ∧ X (w.forCall tape i).memory i.args) ∧ sizedMet enc C.prog fn (OpenSpec.ofChange s) apart (w.forCall tape i).memory i.args) ∧ a.holds C.prog (lone (Frame.enter C.prog f i.args .normal) [] (w.forCall tape i)))
  (contract : ∀ (W : World) (base : Nat) (args : Array Value) (ds gs : List (DataW H)) (before : List MemPlace),
   (∀ (j : Nat) t v, fn.params[j]? = some t → args[j]? = some v → Value.okWide C.prog W .any base t v) →
   DataW.Whole enc C.prog fn.params.toList s.vars apart W args.toList ds gs before →
   (DataW.weightsEach C.prog (fn.params.toList ++ s.plain.varTypes C.prog) (ds ++ gs)).all (· ≤ reachBytes) = true → X W args → W.ShapedOpen C.prog →
   Calls C.prog f args W fun e W' => ∃ v, e = .returned v ∧ s.post enc C.prog fn apart fresh handsOn again W args v W') :
  ReturnsInHanded a C os f .any (fun w args => (s.pre enc C.prog fn conds apart w args ∧ X w args) ∧ sizedMet enc C.prog fn (OpenSpec.ofChange s) apart w args) (s.post enc C.prog fn apart fresh handsOn again) := by
 refine returnsInHanded_of_calls own started noInit witness ?_
 intro w tape i _ hsh _ hok hpre _
 obtain ⟨_, _, _, fn', hfn', _, _, _, _, hval⟩ := hok
 obtain rfl : fn' = fn := Option.some.inj (hfn'.symm.trans hfn)
 obtain ⟨⟨⟨ds, gs, before, hw, _⟩, hx⟩, hz⟩ := hpre
 have hw' := DataW.Whole.of_heap (w' := w.forCall tape i) (by rfl) hw
 refine (contract (w.forCall tape i) w.heap.size i.args ds gs before hval hw' (hz.weights hw) (hX _ _ _ (by rfl) hx) hsh).mono fun e W' ⟨v, he, hp⟩ => ?_
 subst he
 exact ChangeSpec.post_blind hp
end
theorem own : ownKnob Tryz.prog.godebug = none := by kernel_rfl
/-- What the world's shape gives the walks. -/
theorem env_of_shaped {W : World} (h : W.ShapedOpen Tryz.prog) : Env W :=
 cell_of_shapedOpen_int (t := 3) (zero := #[.int .i64 0]) h (of_decide_eq_true (by kernel_rfl)) (by kernel_rfl) rfl (by kernel_rfl) (by kernel_rfl) Tryz.underlying3
abbrev laidL7 : List (String × DataW Unit) := [("math/bits.deBruijn32tab", Rows.laid_math_bits_deBruijn32tab), ("math/bits.deBruijn64tab", Rows.laid_math_bits_deBruijn64tab), ("internal/strconv.uint64pow10", Rows.laid_internal_strconv_uint64pow10), ("unicode/utf8.acceptRanges", Rows.laid_unicode_utf8_acceptRanges), ("strconv.ErrRange", Rows.laid_strconv_ErrRange), ("strconv.ErrSyntax", Rows.laid_strconv_ErrSyntax), ("unicode/utf8.first", Rows.laid_unicode_utf8_first)]
/-- A heap that meets the condition. -/
theorem door_met7 (os : Os) (args : Array Value) : laidMetH Tryz.prog laidL7 ((World.laidAll Tryz.prog os laidL7).forCall (fun _ _ => 0) ⟨#[], args, []⟩).memory := by
 rw [MakeChecks.laidMetH_plain _ _ _ (by kernel_rfl)]; exact laidMet_laidAll _ (by kernel_rfl) (by kernel_rfl)
theorem gPow : Tryz.prog.globalNamed "internal/strconv.uint64pow10" = some 5 := by kernel_rfl
theorem tPow : (Tryz.prog.globals[5]?).map (·.type) = some 263 := by kernel_rfl
theorem cPow : Tryz.prog.cellsOf 263 = 20 := by kernel_rfl
theorem cU64 : Tryz.prog.cellsOf 196 = 1 := by kernel_rfl
theorem powData : (Rows.laid_internal_strconv_uint64pow10 : DataW Unit) = Lib.tabData .u64 Lib.pow10Tab := by rfl
theorem gErrR : Tryz.prog.globalNamed "strconv.ErrRange" = some 4 := by kernel_rfl
theorem tErrR : (Tryz.prog.globals[4]?).map (·.type) = some 117 := by kernel_rfl
theorem gErrS : Tryz.prog.globalNamed "strconv.ErrSyntax" = some 3 := by kernel_rfl
theorem tErrS : (Tryz.prog.globals[3]?).map (·.type) = some 117 := by kernel_rfl
/-- What the condition gives the walks. -/
theorem gld_of_laid {W : World} (he : Env W) (h : laidMetH Tryz.prog laidL7 W) : GlD W := by
 rw [MakeChecks.laidMetH_plain _ _ _ (by kernel_rfl)] at h
 obtain ⟨ps, ⟨g0, t0, cs0, f0, p0, q0, hg0, ht0, hv0, hd0, ⟨g1, t1, cs1, f1, p1, q1, hg1, ht1, hv1, hd1, ⟨g2, t2, cs2, f2, p2, q2, hg2, ht2, hv2, hd2, ⟨g3, t3, cs3, f3, p3, q3, hg3, ht3, hv3, hd3, ⟨g4, t4, cs4, f4, p4, q4, hg4, ht4, hv4, hd4, ⟨g5, t5, cs5, f5, p5, q5, hg5, ht5, hv5, hd5, _, _⟩, _⟩, _⟩, _⟩, _⟩, _⟩, _, _⟩ := h
 obtain rfl := Option.some.inj (gPow.symm.trans hg2)
 obtain rfl := Option.some.inj (tPow.symm.trans ht2)
 obtain rfl := Option.some.inj (gErrR.symm.trans hg4)
 obtain rfl := Option.some.inj (tErrR.symm.trans ht4)
 obtain rfl := Option.some.inj (gErrS.symm.trans hg5)
 obtain rfl := Option.some.inj (tErrS.symm.trans ht5)
 have key : ∀ (n : String) (g : Nat) (cs : Array Value) (fuel : Nat) (nm : String) (d : DataW Unit) (p : List MemPlace), Tryz.prog.globalNamed n = some g → W.var? Tryz.prog n = some cs → DataW.trod (fun _ => ()) Tryz.prog W 0 (fun _ => true) false fuel 117 cs.toList = some (.iface nm d, p) →
   ∃ ev, W.cell? ⟨g, 0, none⟩ = some ev ∧ (ev = .nilIface ∨ ∃ te pe, ev = .iface te pe) := fun n g cs fuel nm d p hg hv hd => by
  obtain ⟨_, u, v, e, _⟩ := iface_of_trod Tryz.underlying117 hd
  refine ⟨.iface u v, ?_, .inr ⟨u, v, rfl⟩⟩
  rw [var?_cell hg hv 0, ← Array.getElem?_toList, e]
  rfl
 refine ⟨?_, he, key _ _ _ _ _ _ _ hg5 hv5 hd5, key _ _ _ _ _ _ _ hg4 hv4 hd4⟩
 unfold Tab Lib.TabIs
 rw [powData] at hd2
 rw [hv2, ← Lib.cells_of_tab Tryz.underlying263 Tryz.underlying196 cU64 cPow hd2]
end Go.Proofs.YtlchcjnbbhpiaaaGreatDoor
