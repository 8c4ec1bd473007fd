/- The rows' condition on the listed variables: a world that meets it; the wrap that keeps the world's shape beside it; what both give the walks.
   A law's frame, of no program: what was laid before a call that only lays new blocks reads behind it as it read before.
   Arguments of the statements of this chapter laid open: a slice of ranges, a range, a slice of numbers. -/
import Derived.Test.YtcpennlojjlpaaaGreatDoorRows
import Derived.Test.YtcpennlojjlpaaaGreatDoorZe
import Derived.HandedShaped
import Derived.Shelf.Vars
import Derived.Lib.LaidTab
import Derived.ProofKit
import Derived.LaidMore
import Derived.Lay
import Derived.OpenShut
import Derived.Stop.Joined
import Derived.Below
import Derived.ReadAgain
import Derived.ChangeOld
import Derived.ChangeShapes
import Derived.Test.YtcpennlojjlpaaaGreatDoorZd
import Derived.Deep.SlicePairs
import Derived.Lib.SmallJoins
import Derived.ChangeSlices
namespace Go.Proofs.YtcpennlojjlpaaaGreatDoor
open Go.ChangeShapes Go.WideShapes Go.ChangeAt Go.RowKit

section
variable {H : Type} {enc : TypeId × Value → H}
/-- A row with a condition of its own on the world, the world's shape handed to the contract. -/
theorem handed_and_shaped {a : Assume} {C : Checked} {os : Os} {f : FuncId} {fn : Func} {s : ChangeSpec} {conds : List PathCond} {apart fresh handsOn again : Bool} {X : World → Array Value → Prop}
    (hX : ∀ (w w' : World) (args : Array Value), w.heap = w'.heap → X w args → X w' args)
    (own : ownKnob C.prog.godebug = none) (started : os.Started) (noInit : C.prog.inits.idxOf? f = none) (hfn : C.prog.funcs[f]? = some fn)
    (witness : ∃ (w : World) (tape : Tape) (i : Input), w.os = os ∧ (w.forCall tape i).Shaped C.prog ∧ i.vars = [] ∧ Input.okWide C.prog (w.forCall tape i) .any w.heap.size f i ∧
      ((s.pre enc C.prog fn conds apart (w.forCall tape i).memory i.args ∧ X (w.forCall tape i).memory i.args) ∧ sizedMet enc C.prog fn (OpenSpec.ofChange s) apart (w.forCall tape i).memory i.args) ∧ a.holds C.prog (lone (Frame.enter C.prog f i.args .normal) [] (w.forCall tape i)))
    (contract : ∀ (W : World) (base : Nat) (args : Array Value) (ds gs : List (DataW H)) (before : List MemPlace),
      (∀ (j : Nat) t v, fn.params[j]? = some t → args[j]? = some v → Value.okWide C.prog W .any base t v) →
      DataW.Whole enc C.prog fn.params.toList s.vars apart W args.toList ds gs before →
      (DataW.weightsEach C.prog (fn.params.toList ++ s.plain.varTypes C.prog) (ds ++ gs)).all (· ≤ reachBytes) = true → X W args → W.ShapedOpen C.prog →
      Calls C.prog f args W fun e W' => ∃ v, e = .returned v ∧ s.post enc C.prog fn apart fresh handsOn again W args v W') :
    ReturnsInHanded a C os f .any (fun w args => (s.pre enc C.prog fn conds apart w args ∧ X w args) ∧ sizedMet enc C.prog fn (OpenSpec.ofChange s) apart w args) (s.post enc C.prog fn apart fresh handsOn again) := by
  refine returnsInHanded_of_calls own started noInit witness ?_
  intro w tape i _ hsh _ hok hpre _
  obtain ⟨_, _, _, fn', hfn', _, _, _, _, hval⟩ := hok
  obtain rfl : fn' = fn := Option.some.inj (hfn'.symm.trans hfn)
  obtain ⟨⟨⟨ds, gs, before, hw, _⟩, hx⟩, hz⟩ := hpre
  have hw' := DataW.Whole.of_heap (w' := w.forCall tape i) (by rfl) hw
  refine (contract (w.forCall tape i) w.heap.size i.args ds gs before hval hw' (hz.weights hw) (hX _ _ _ (by rfl) hx) hsh).mono fun e W' ⟨v, he, hp⟩ => ?_
  subst he
  exact ChangeSpec.post_blind hp
end

abbrev laidL : List (String × DataW Unit) := [("math/bits.deBruijn32tab", Rows.laid_math_bits_deBruijn32tab), ("math/bits.deBruijn64tab", Rows.laid_math_bits_deBruijn64tab), ("internal/strconv.uint64pow10", Rows.laid_internal_strconv_uint64pow10), ("unicode/utf8.acceptRanges", Rows.laid_unicode_utf8_acceptRanges), ("unicode/utf8.first", Rows.laid_unicode_utf8_first)]
theorem own : ownKnob Tryz.prog.godebug = none := by kernel_rfl
/-- A heap that meets the condition. -/
theorem door_met (os : Os) (args : Array Value) : laidMetH Tryz.prog laidL ((World.laidAll Tryz.prog os laidL).forCall (fun _ _ => 0) ⟨#[], args, []⟩).memory := by
  rw [MakeChecks.laidMetH_plain _ _ _ (by kernel_rfl)]; exact laidMet_laidAll _ (by kernel_rfl) (by kernel_rfl)
/-- What the world's shape gives the walks. -/
theorem env_of_shaped {W : World} (h : W.ShapedOpen Tryz.prog) : Env W :=
  cell_of_shapedOpen_int (t := 3) (zero := #[.int .i64 0]) h (of_decide_eq_true (by kernel_rfl)) (by kernel_rfl) rfl (by kernel_rfl) (by kernel_rfl) Tryz.underlying3
theorem gPow : Tryz.prog.globalNamed "internal/strconv.uint64pow10" = some 1 := by kernel_rfl
theorem tPow : (Tryz.prog.globals[1]?).map (·.type) = some 226 := by kernel_rfl
theorem cPow : Tryz.prog.cellsOf 226 = 20 := by kernel_rfl
theorem cU64 : Tryz.prog.cellsOf 184 = 1 := by kernel_rfl
theorem powData : (Rows.laid_internal_strconv_uint64pow10 : DataW Unit) = Lib.tabData .u64 Lib.pow10Tab := by rfl
/-- What the condition gives the walks. -/
theorem tab_of_laid {W : World} (h : laidMetH Tryz.prog laidL W) : Tab W := by
  rw [MakeChecks.laidMetH_plain _ _ _ (by kernel_rfl)] at h
  obtain ⟨ps, ⟨g0, t0, cs0, f0, p0, q0, hg0, ht0, hv0, hd0, ⟨g1, t1, cs1, f1, p1, q1, hg1, ht1, hv1, hd1, ⟨g2, t2, cs2, f2, p2, q2, hg2, ht2, hv2, hd2, _, _⟩, _⟩, _⟩, _, _⟩ := h
  obtain rfl := Option.some.inj (gPow.symm.trans hg2)
  obtain rfl := Option.some.inj (tPow.symm.trans ht2)
  unfold Tab Lib.TabIs
  rw [powData] at hd2
  rw [hv2, ← Lib.cells_of_tab Tryz.underlying226 Tryz.underlying184 cU64 cPow hd2]
end Go.Proofs.YtcpennlojjlpaaaGreatDoor

namespace Go.Keep
open Go.RowKit Go.ChangeShapes

section
variable {H : Type} {enc : TypeId × Value → H} {P : Program} {W W' : World}
theorem trodAll_carry (hb : Below W.heap.size W W') {base : Nat} {sp : Nat → Bool} {held : Bool} : ∀ {ts : List TypeId} {vs : List Value} {ds : List (DataW H)} {ps : List MemPlace},
    DataW.TrodAll enc P W base sp held ts vs ds ps → DataW.TrodAll enc P W' base sp held ts vs ds ps
  | [], [], [], _, h => h
  | _ :: _, _ :: _, _ :: _, _, ⟨p, q, ⟨n, h1⟩, h2, e⟩ => ⟨p, q, ⟨n, DataW.trod_carry n _ _ _ h1 (fun x hx => hb.same (DataW.trod_lt n _ _ _ h1 x hx))⟩, trodAll_carry hb h2, e⟩
/-- The arguments behind the call. -/
theorem args_keep (hl : laidOutB P = true) (hm : mapsRowed P = true)
    (hz : ((List.range P.types.size).all fun t => match P.underlying t with | some (.slice e) => decide (0 < P.cellsOf e) | _ => true) = true)
    {ts : List TypeId} {vs : List Value} {ds : List (DataW H)} {p : List MemPlace} (hts : (ts.all fun t => decide (t < P.types.size)) = true)
    (h : DataW.TrodAll enc P W 0 (fun _ => true) true ts vs ds p) (hb : Below W.heap.size W W') :
    DataW.TrodAll enc P W' 0 (fun b => decide (b < W.heap.size)) true ts vs ds p :=
  trodAll_carry hb (DataW.TrodAll.respare (kids_rows hl hm) (slices_full_of P hz) (fun t ht => by simpa using List.all_eq_true.1 hts t ht) h (fun x hx => by simpa using h.lt x hx))
end
end Go.Keep

namespace Go.Proofs.YtcpennlojjlpaaaGreatDoor
open Go.ChangeShapes Go.WideShapes Go.ChangeAt Go.RowKit Go.Nr Go.Deep Go.Joins

section
variable {H : Type} {enc : TypeId × Value → H} {P : Program} {W : World}
theorem slot_none {b o : Nat} {s : Option Nat} {v : Value} {w : World} (h : w.cell? ⟨b, o, s⟩ = some v) : s = none := by
  cases s with
  | none => rfl
  | some q => unfold World.cell? at h; split at h <;> simp at h
/-- A slice of ranges among the arguments. -/
theorem open_rgs {r : Reach} {b0 base : Nat} {sp : Nat → Bool} {held : Bool} {t e : TypeId} {f0 f1 : Field} {v : Value} {d : DataW H} {p : List MemPlace} (ht : P.underlying t = some (.slice e)) (he : P.underlying e = some (.struct #[f0, f1]))
    (ce : P.cellsOf e = 2) (hone : oneCellFields P #[f0, f1] = true) (u0 : P.underlying f0.type = some (.int .i64)) (u1 : P.underlying f1.type = some (.int .i64))
    (hv : Value.okWide P W r b0 t v) (h : DataW.Trod enc P W base sp held t v d p) :
    ∃ (A : Option Addr) (c : Nat) (l : List Rg), v = .slice A l.length c ∧ RdR W A l ∧ l.length ≤ c ∧ c ≤ maxLen := by
  obtain ⟨a0, len, cap, rfl⟩ := okWide_slice ht hv
  obtain ⟨fuel, hf⟩ := h
  obtain ⟨o0, k0⟩ := hone_of hone 0 f0 rfl
  obtain ⟨o1, k1⟩ := hone_of hone 1 f1 rfl
  rcases open_slice_pairs ht he ce o0 o1 k0 k1 hf with ⟨hcs, _⟩ | ⟨a, len', cap', m, n, V0, V1, D0, D1, P0, P1, hcs, _, hl, hm, hmm, _, hi⟩
  · cases hcs
    exact ⟨none, 0, [], rfl, RdR.nil, by simp, by simp [maxLen]⟩
  · cases hcs
    have hlm : len ≤ m := by rw [hmm]; split <;> omega
    have each : ∀ i, i < len → ∃ q : Rg, W.cell? (a.add (i * 2)) = some (i64 q.1) ∧ W.cell? (a.add (i * 2 + 1)) = some (i64 q.2) := fun i hil => by
      obtain ⟨h1, h2, h3, h4⟩ := hi i (by omega)
      obtain ⟨x, e1, _⟩ := DataW.trod_int u0 h3
      obtain ⟨y, e2, _⟩ := DataW.trod_int u1 h4
      injection e1 with e1; injection e2 with e2
      exact ⟨(x, y), by rw [h1, e1], by rw [h2, e2]⟩
    obtain ⟨q, hq⟩ := choose_lt each
    refine ⟨some a, cap, (List.range len).map q, by simp, ?_, by simpa using hl, hm⟩
    intro hpos
    have h0 : 0 < len := by simpa using hpos
    obtain ⟨b, o, s⟩ := a
    have hs : s = none := by
      have := (hq 0 h0).1
      rw [show (⟨b, o, s⟩ : Addr).add (0 * 2) = ⟨b, o, s⟩ by cases s <;> rfl] at this
      exact slot_none this
    subst hs
    refine ⟨b, o, rfl, ?_, fun j x hj => ?_⟩
    · have := (hq 0 h0).1
      rw [addr_addN] at this
      exact World.block_lt_of_cell? W _ this
    · obtain ⟨hjl, hje⟩ := List.getElem?_eq_some_iff.1 hj
      have hjl' : j < len := by simpa using hjl
      obtain ⟨h1, h2⟩ := hq j hjl'
      rw [addr_addN] at h1 h2
      simp at hje
      rw [← hje]
      exact ⟨h1, by rw [Nat.add_assoc]; exact h2⟩
/-- A range among the arguments. -/
theorem open_rg {r : Reach} {b0 base : Nat} {sp : Nat → Bool} {held : Bool} {t : TypeId} {f0 f1 : Field} {v : Value} {d : DataW H} {p : List MemPlace} (hs : P.underlying t = some (.struct #[f0, f1])) (hone : oneCellFields P #[f0, f1] = true) (hC : P.cellsOf t = 2)
    (u0 : P.underlying f0.type = some (.int .i64)) (u1 : P.underlying f1.type = some (.int .i64)) (hv : Value.okWide P W r b0 t v) (h : DataW.Trod enc P W base sp held t v d p) : ∃ x : Rg, v = .agg #[i64 x.1, i64 x.2] := by
  obtain ⟨v0, v1, y0, y1, n, rfl, _, _, h0, h1⟩ := open_agg2 hs hone hC hv h
  obtain ⟨x, e1, _⟩ := DataW.trod_int u0 h0
  obtain ⟨y, e2, _⟩ := DataW.trod_int u1 h1
  injection e1 with e1; injection e2 with e2
  exact ⟨(x, y), by rw [e1, e2]⟩
/-- A slice of numbers among the arguments. -/
theorem open_nums {r : Reach} {b0 base : Nat} {sp : Nat → Bool} {held : Bool} {t e : TypeId} {v : Value} {d : DataW H} {p : List MemPlace} (ht : P.underlying t = some (.slice e)) (he : P.underlying e = some (.int .i64)) (hc : P.cellsOf e = 1)
    (hv : Value.okWide P W r b0 t v) (h : DataW.Trod enc P W base sp held t v d p) : ∃ (A : Option Addr) (c : Nat) (xs : List Int), v = .slice A xs.length c ∧ RdI W A xs ∧ xs.length ≤ c ∧ c ≤ maxLen := by
  obtain ⟨a0, len, cap, rfl⟩ := okWide_slice ht hv
  obtain ⟨fuel, hf⟩ := h
  rcases open_ints ht he hc hf with ⟨hcs, _⟩ | ⟨a, len', cap', zs, hcs, _, hl, hm, hz, _, hcell, _⟩
  · cases hcs
    exact ⟨none, 0, [], rfl, RdI.nil, by simp, by simp [maxLen]⟩
  · cases hcs
    have hle : len ≤ zs.length := by rw [hz]; split <;> omega
    refine ⟨some a, cap, zs.take len, by rw [List.length_take, Nat.min_eq_left hle], ?_, by rw [List.length_take]; omega, hm⟩
    intro hpos
    have h0 : 0 < len := by rw [List.length_take] at hpos; omega
    obtain ⟨b, o, s⟩ := a
    have hs : s = none := by
      have := hcell 0 (by omega)
      rw [show (⟨b, o, s⟩ : Addr).add 0 = ⟨b, o, s⟩ by cases s <;> rfl] at this
      exact slot_none this
    subst hs
    refine ⟨b, o, rfl, World.block_lt_of_cell? W _ (hcell 0 (by omega)), fun j x hj => ?_⟩
    have hjl : j < len := by
      have := (List.getElem?_eq_some_iff.1 hj).1
      rw [List.length_take] at this; omega
    have := hcell j (by omega)
    rw [addr_addN] at this
    rw [this]
    rw [List.getElem?_take_of_lt hjl] at hj
    rw [List.getD_eq_getElem?_getD, hj]; rfl
end
end Go.Proofs.YtcpennlojjlpaaaGreatDoor
