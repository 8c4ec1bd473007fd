/- The rows' condition on the listed variables: a world that meets it; the wrap that keeps the world's shape beside it; what the shape gives the walks; a slice of texts among the arguments.
   The rows' condition on the listed variables, with the tables of strconv: a world that meets it, what it gives the walks.
   An argument of the statements of this chapter laid open: a slice of events.
   Events among the arguments, at this dump; the sizes of what they hold. -/
import Derived.Test.YthgefcoaaommkaaGreatDoorRows
import Derived.Test.YthgefcoaaommkaaGreatDoorZb
import Derived.HandedShaped
import Derived.Shelf.Vars
import Derived.SliceStrings
import Derived.ProofKit
import Derived.LaidMore
import Derived.Lay
import Derived.OpenShut
import Derived.Stop.Joined
import Derived.Test.YthgefcoaaommkaaGreatDoorZc
import Derived.Lib.LaidTab
import Derived.Test.YthgefcoaaommkaaGreatDoorZe
import Derived.Deep.Slices
import Derived.Deep.Fields
import Derived.ChangeSame
namespace Go.Proofs.YthgefcoaaommkaaGreatDoor
open Go.ChangeShapes Go.WideShapes Go.ChangeAt Go.RowKit

section
variable {H : Type} {enc : TypeId × Value → H}
/-- A row with a condition of its own on the world, the world's shape handed to the contract. -/
theorem handed_and_shaped {a : Assume} {C : Checked} {os : Os} {f : FuncId} {fn : Func} {s : ChangeSpec} {conds : List PathCond} {apart fresh handsOn again : Bool} {X : World → Array Value → Prop}
    (hX : ∀ (w w' : World) (args : Array Value), w.heap = w'.heap → X w args → X w' args)
    (own : ownKnob C.prog.godebug = none) (started : os.Started) (noInit : C.prog.inits.idxOf? f = none) (hfn : C.prog.funcs[f]? = some fn)
    (witness : ∃ (w : World) (tape : Tape) (i : Input), w.os = os ∧ (w.forCall tape i).Shaped C.prog ∧ i.vars = [] ∧ Input.okWide C.prog (w.forCall tape i) .any w.heap.size f i ∧
      ((s.pre enc C.prog fn conds apart (w.forCall tape i).memory i.args ∧ X (w.forCall tape i).memory i.args) ∧ sizedMet enc C.prog fn (OpenSpec.ofChange s) apart (w.forCall tape i).memory i.args) ∧ a.holds C.prog (lone (Frame.enter C.prog f i.args .normal) [] (w.forCall tape i)))
    (contract : ∀ (W : World) (base : Nat) (args : Array Value) (ds gs : List (DataW H)) (before : List MemPlace),
      (∀ (j : Nat) t v, fn.params[j]? = some t → args[j]? = some v → Value.okWide C.prog W .any base t v) →
      DataW.Whole enc C.prog fn.params.toList s.vars apart W args.toList ds gs before →
      (DataW.weightsEach C.prog (fn.params.toList ++ s.plain.varTypes C.prog) (ds ++ gs)).all (· ≤ reachBytes) = true → X W args → W.ShapedOpen C.prog →
      Calls C.prog f args W fun e W' => ∃ v, e = .returned v ∧ s.post enc C.prog fn apart fresh handsOn again W args v W') :
    ReturnsInHanded a C os f .any (fun w args => (s.pre enc C.prog fn conds apart w args ∧ X w args) ∧ sizedMet enc C.prog fn (OpenSpec.ofChange s) apart w args) (s.post enc C.prog fn apart fresh handsOn again) := by
  refine returnsInHanded_of_calls own started noInit witness ?_
  intro w tape i _ hsh _ hok hpre _
  obtain ⟨_, _, _, fn', hfn', _, _, _, _, hval⟩ := hok
  obtain rfl : fn' = fn := Option.some.inj (hfn'.symm.trans hfn)
  obtain ⟨⟨⟨ds, gs, before, hw, _⟩, hx⟩, hz⟩ := hpre
  have hw' := DataW.Whole.of_heap (w' := w.forCall tape i) (by rfl) hw
  refine (contract (w.forCall tape i) w.heap.size i.args ds gs before hval hw' (hz.weights hw) (hX _ _ _ (by rfl) hx) hsh).mono fun e W' ⟨v, he, hp⟩ => ?_
  subst he
  exact ChangeSpec.post_blind hp
/-- A slice of texts among the arguments. -/
theorem open_texts {P : Program} {W : World} {r : Reach} {b0 base : Nat} {sp : Nat → Bool} {held : Bool} {t e : TypeId} {v : Value} {d : DataW H} {p : List MemPlace} (ht : P.underlying t = some (.slice e)) (he : P.underlying e = some .string) (hc : P.cellsOf e = 1)
    (hv : Value.okWide P W r b0 t v) (h : DataW.Trod enc P W base sp held t v d p) :
    ∃ (A : Option Addr) (c : Nat) (xs : List (List UInt8)), v = .slice A xs.length c ∧ Rd W A xs ∧ xs.length ≤ c ∧ c ≤ maxLen ∧ ∀ x ∈ xs, x.length ≤ maxLen := by
  obtain ⟨a0, len, cap, rfl⟩ := okWide_slice ht hv
  obtain ⟨fuel, hf⟩ := h
  rcases open_strings ht he hc hf with ⟨hcs, _⟩ | ⟨a, len', cap', ss, hcs, _, hl, hm, hz, _, hcell, hws⟩
  · cases hcs
    exact ⟨none, 0, [], rfl, Rd.nil, by simp, by simp [maxLen], fun x hx => by simp at hx⟩
  · cases hcs
    have hle : len ≤ ss.length := by rw [hz]; split <;> omega
    refine ⟨some a, cap, (ss.take len).map fun s => s.data.toList, ?_, ?_, ?_, hm, ?_⟩
    · congr 1; simp; omega
    · intro hpos
      have h0 : 0 < len := by simp at hpos; omega
      obtain ⟨b, o, s⟩ := a
      have hs : s = none := by
        have := hcell 0 (by omega)
        cases s with
        | none => rfl
        | some q =>
          rw [show (⟨b, o, some q⟩ : Addr).add 0 = ⟨b, o, some q⟩ from rfl] at this
          unfold World.cell? at this
          split at this <;> simp at this
      subst hs
      refine ⟨b, o, rfl, ?_, fun j x hj => ?_⟩
      · exact World.block_lt_of_cell? W _ (hcell 0 (by omega))
      · have hj' : j < len := by
          have := (List.getElem?_eq_some_iff.1 hj).1
          simp at this; omega
        have := hcell j (by omega)
        have e1 : (⟨b, o, none⟩ : Addr).add j = ⟨b, o + j, none⟩ := by
          unfold Addr.add; split
          · rename_i e; subst e; rfl
          · rfl
        rw [e1] at this
        rw [this]
        simp [hj', show j < ss.length by omega] at hj ⊢
        rw [← hj]
    · simp; omega
    · intro x hx
      obtain ⟨s, hs, rfl⟩ := List.mem_map.1 hx
      have h1 : s.data.size ≤ maxLen := hws s (List.mem_of_mem_take hs)
      rw [Array.length_toList]
      exact h1
end

abbrev laidL : List (String × DataW Unit) := [("unicode/utf8.acceptRanges", Rows.laid_unicode_utf8_acceptRanges), ("unicode/utf8.first", Rows.laid_unicode_utf8_first)]
theorem own : ownKnob Tryz.prog.godebug = none := by kernel_rfl
/-- A heap that meets the condition. -/
theorem door_met (os : Os) (args : Array Value) : laidMetH Tryz.prog laidL ((World.laidAll Tryz.prog os laidL).forCall (fun _ _ => 0) ⟨#[], args, []⟩).memory := by
  rw [MakeChecks.laidMetH_plain _ _ _ (by kernel_rfl)]; exact laidMet_laidAll _ (by kernel_rfl) (by kernel_rfl)
/-- What the world's shape gives the walks. -/
theorem env_of_shaped {W : World} (h : W.ShapedOpen Tryz.prog) : Env W :=
  cell_of_shapedOpen_int (t := 3) (zero := #[.int .i64 0]) h (of_decide_eq_true (by kernel_rfl)) (by kernel_rfl) rfl (by kernel_rfl) (by kernel_rfl) Tryz.underlying3
end Go.Proofs.YthgefcoaaommkaaGreatDoor

namespace Go.Proofs.YthgefcoaaommkaaGreatDoor
open Go.ChangeShapes Go.WideShapes Go.ChangeAt Go.RowKit

abbrev laidL5 : List (String × DataW Unit) := [("math/bits.deBruijn32tab", Rows.laid_math_bits_deBruijn32tab), ("math/bits.deBruijn64tab", Rows.laid_math_bits_deBruijn64tab), ("internal/strconv.uint64pow10", Rows.laid_internal_strconv_uint64pow10), ("unicode/utf8.acceptRanges", Rows.laid_unicode_utf8_acceptRanges), ("unicode/utf8.first", Rows.laid_unicode_utf8_first)]
/-- A heap that meets the condition. -/
theorem door_met5 (os : Os) (args : Array Value) : laidMetH Tryz.prog laidL5 ((World.laidAll Tryz.prog os laidL5).forCall (fun _ _ => 0) ⟨#[], args, []⟩).memory := by
  rw [MakeChecks.laidMetH_plain _ _ _ (by kernel_rfl)]; exact laidMet_laidAll _ (by kernel_rfl) (by kernel_rfl)
theorem gPow : Tryz.prog.globalNamed "internal/strconv.uint64pow10" = some 1 := by kernel_rfl
theorem tPow : (Tryz.prog.globals[1]?).map (·.type) = some 223 := by kernel_rfl
theorem cPow : Tryz.prog.cellsOf 223 = 20 := by kernel_rfl
theorem cU64 : Tryz.prog.cellsOf 152 = 1 := by kernel_rfl
theorem powData : (Rows.laid_internal_strconv_uint64pow10 : DataW Unit) = Lib.tabData .u64 Lib.pow10Tab := by rfl
/-- What the condition gives the walks. -/
theorem tab_of_laid {W : World} (h : laidMetH Tryz.prog laidL5 W) : Tab W := by
  rw [MakeChecks.laidMetH_plain _ _ _ (by kernel_rfl)] at h
  obtain ⟨ps, ⟨g0, t0, cs0, f0, p0, q0, hg0, ht0, hv0, hd0, ⟨g1, t1, cs1, f1, p1, q1, hg1, ht1, hv1, hd1, ⟨g2, t2, cs2, f2, p2, q2, hg2, ht2, hv2, hd2, _, _⟩, _⟩, _⟩, _, _⟩ := h
  obtain rfl := Option.some.inj (gPow.symm.trans hg2)
  obtain rfl := Option.some.inj (tPow.symm.trans ht2)
  unfold Tab Lib.TabIs
  rw [powData] at hd2
  rw [hv2, ← Lib.cells_of_tab Tryz.underlying223 Tryz.underlying152 cU64 cPow hd2]
end Go.Proofs.YthgefcoaaommkaaGreatDoor

namespace Go.Proofs.YthgefcoaaommkaaGreatDoor
open Go.ChangeShapes Go.WideShapes Go.ChangeAt Go.RowKit Go.Gn Go.Sr Go.Maps Go.Deep

section
variable {H : Type} {enc : TypeId × Value → H} {P : Program} {W : World}
theorem weightsAll_mem {e : TypeId} {n : Nat} : ∀ {l : List (DataW H)} {d : DataW H}, d ∈ l → n ∈ d.weights P e → n ∈ DataW.weightsAll P e l
  | [], _, h, _ => by simp at h
  | a :: r, d, h, hn => by
    unfold DataW.weightsAll
    rcases List.mem_cons.1 h with rfl | h
    · exact List.mem_append_left _ hn
    · exact List.mem_append_right _ (weightsAll_mem h hn)
theorem weights_slice {t e : TypeId} {elems spare : List (DataW H)} (ht : P.underlying t = some (.slice e)) {d : DataW H} (hd : d ∈ elems) {n : Nat} (hn : n ∈ d.weights P e) : n ∈ (DataW.slice elems spare).weights P t := by
  unfold DataW.weights
  rw [ht]
  exact List.mem_cons_of_mem _ (List.mem_append_left _ (weightsAll_mem hd hn))
/-- The cells of a slice of texts. -/
theorem open_texts_cs {base : Nat} {sp : Nat → Bool} {held : Bool} {t e : TypeId} {fuel : Nat} {cs : List Value} {x : DataW H × List MemPlace} (ht : P.underlying t = some (.slice e)) (he : P.underlying e = some .string) (hc : P.cellsOf e = 1)
    (h : DataW.trod enc P W base sp held fuel t cs = some x) :
    ∃ (A : Option Addr) (c : Nat) (xs : List (List UInt8)), cs = [.slice A xs.length c] ∧ Rd W A xs ∧ xs.length ≤ c ∧ c ≤ maxLen ∧ (∀ y ∈ xs, y.length ≤ maxLen) ∧ ((∀ n ∈ x.1.weights P t, n ≤ reachBytes) → ∀ y ∈ xs, y.length ≤ reachBytes) := by
  rcases open_strings ht he hc h with ⟨hcs, _⟩ | ⟨a, len, cap, ss, hcs, _, hl, hm, hz, hx, hcell, hws⟩
  · subst hcs
    exact ⟨none, 0, [], rfl, Rd.nil, by simp, by simp [maxLen], fun x hx => by simp at hx, fun _ x hx => by simp at hx⟩
  · subst hcs
    have hle : len ≤ ss.length := by rw [hz]; split <;> omega
    refine ⟨some a, cap, (ss.take len).map fun s => s.data.toList, ?_, ?_, ?_, hm, ?_, ?_⟩
    · simp; omega
    · intro hpos
      have h0 : 0 < len := by simp at hpos; omega
      obtain ⟨b, o, s⟩ := a
      have hs : s = none := by
        have := hcell 0 (by omega)
        cases s with
        | none => rfl
        | some q =>
          rw [show (⟨b, o, some q⟩ : Addr).add 0 = ⟨b, o, some q⟩ from rfl] at this
          unfold World.cell? at this
          split at this <;> simp at this
      subst hs
      refine ⟨b, o, rfl, ?_, fun j x hj => ?_⟩
      · exact World.block_lt_of_cell? W _ (hcell 0 (by omega))
      · have hj' : j < len := by
          have := (List.getElem?_eq_some_iff.1 hj).1
          simp at this; omega
        have := hcell j (by omega)
        have e1 : (⟨b, o, none⟩ : Addr).add j = ⟨b, o + j, none⟩ := by
          unfold Addr.add; split
          · rename_i e; subst e; rfl
          · rfl
        rw [e1] at this
        rw [this]
        simp [hj', show j < ss.length by omega] at hj ⊢
        rw [← hj]
    · simp; omega
    · intro x hx
      obtain ⟨s, hs, rfl⟩ := List.mem_map.1 hx
      have h1 : s.data.size ≤ maxLen := hws s (List.mem_of_mem_take hs)
      rw [Array.length_toList]
      exact h1
    · intro hw y hy
      obtain ⟨s, hs, rfl⟩ := List.mem_map.1 hy
      refine hw _ ?_
      rw [hx]
      exact weights_slice ht (d := .lit (.string s.data.toList)) (List.mem_map.2 ⟨s, hs, rfl⟩) (by simp [DataW.weights])
/-- The cells of an array of bytes. -/
theorem open_bytes {t e : TypeId} {n : Nat} {base : Nat} {sp : Nat → Bool} {held : Bool} {fuel : Nat} {cs : List Value} {x : DataW H × List MemPlace} (ht : P.underlying t = some (.array n e)) (he : P.underlying e = some (.int .u8)) (ce : P.cellsOf e = 1) (ct : cs.length = n)
    (h : DataW.trod enc P W base sp held fuel t cs = some x) : ∃ bs : List UInt8, bs.length = n ∧ cs = bs.map enB := by
  obtain ⟨xs, k, _, _, hl, hxl, hf⟩ := DataW.trod_array ht h
  have each : ∀ i, i < n → ∃ b : UInt8, cs[i]? = some (enB b) := fun i hi => by
    have h1 := hf i hi
    rw [List.getElem?_eq_getElem (by omega)] at h1
    obtain ⟨z, e1, _, wz⟩ := DataW.trod_int he h1
    rw [ce, Nat.mul_one, List.drop_eq_getElem_cons (by omega), List.take_succ_cons, List.take_zero] at e1
    injection e1 with e1
    have em : IntKind.u8.min = 0 := by decide
    have eM : IntKind.u8.max = 255 := by decide
    simp [Lit.wf, em, eM] at wz
    refine ⟨UInt8.ofNat z.toNat, ?_⟩
    rw [List.getElem?_eq_getElem (by omega), e1]
    have : (UInt8.ofNat z.toNat).toNat = z.toNat := by rw [UInt8.toNat_ofNat']; omega
    unfold enB
    rw [this, Int.toNat_of_nonneg (by omega)]
  obtain ⟨q, hq⟩ := choose_lt each
  refine ⟨(List.range n).map q, by simp, ?_⟩
  apply List.ext_getElem?
  intro i
  by_cases hi : i < n
  · rw [hq i hi]; simp [hi]
  · rw [List.getElem?_eq_none (by omega), List.getElem?_eq_none (by simp; omega)]
theorem bytes16 : ∀ {bs : List UInt8}, bs.length = 16 → bs.map enB = [auB bs 0, auB bs 1, auB bs 2, auB bs 3, auB bs 4, auB bs 5, auB bs 6, auB bs 7, auB bs 8, auB bs 9, auB bs 10, auB bs 11, auB bs 12, auB bs 13, auB bs 14, auB bs 15]
  | [_a0, _a1, _a2, _a3, _a4, _a5, _a6, _a7, _a8, _a9, _a10, _a11, _a12, _a13, _a14, _a15], _ => rfl
theorem cut5 {cs : List Value} (h : cs.length = 20) : cs = (cs.drop 0).take 1 ++ ((cs.drop 1).take 16 ++ ((cs.drop 17).take 1 ++ ((cs.drop 18).take 1 ++ (cs.drop 19).take 1))) := by
  apply List.ext_getElem?
  intro i
  simp only [List.getElem?_append, List.getElem?_take, List.getElem?_drop, List.length_take, List.length_drop]
  grind
theorem mem_weights_struct {t : TypeId} {fs : Array Field} {n : Nat} (ht : P.underlying t = some (.struct fs)) {xs : List (DataW H)} (h : n ∈ DataW.weightsEach P (fs.toList.map (·.type)) xs) : n ∈ (DataW.agg xs).weights P t := by
  unfold DataW.weights
  rw [ht]
  exact h
/-- The cells of an event. -/
theorem open_ev {t tb ts : TypeId} {f0 f1 f2 f3 f4 : Field} {base : Nat} {sp : Nat → Bool} {held : Bool} {fuel : Nat} {cs : List Value} {x : DataW H × List MemPlace} (ht : P.underlying t = some (.struct #[f0, f1, f2, f3, f4])) (ct : P.cellsOf t = 20)
    (o0 : f0.offset = 0) (o1 : f1.offset = 1) (o2 : f2.offset = 17) (o3 : f3.offset = 18) (o4 : f4.offset = 19) (c0 : P.cellsOf f0.type = 1) (c1 : P.cellsOf f1.type = 16) (c2 : P.cellsOf f2.type = 1) (c3 : P.cellsOf f3.type = 1) (c4 : P.cellsOf f4.type = 1)
    (u0 : P.underlying f0.type = some (.int .i64)) (u1 : P.underlying f1.type = some (.array 16 tb)) (ub : P.underlying tb = some (.int .u8)) (cb : P.cellsOf tb = 1) (u2 : P.underlying f2.type = some (.slice ts)) (u3 : P.underlying f3.type = some (.slice ts)) (us : P.underlying ts = some .string) (cc : P.cellsOf ts = 1) (u4 : P.underlying f4.type = some (.int .i64))
    (h : DataW.trod enc P W base sp held fuel t cs = some x) : ∃ m : EvM, cs = evL m ∧ GoodM W m ∧ ((∀ n ∈ x.1.weights P t, n ≤ reachBytes) → LenM m) := by
  obtain ⟨xs, k, _, rfl, hl, hxl, hf⟩ := DataW.trod_struct ht h
  match xs, hxl with
  | [y0, y1, y2, y3, y4], _ =>
  have g0 : DataW.trod enc P W base sp held k f0.type ((cs.drop f0.offset).take (P.cellsOf f0.type)) = some y0 := by simpa using hf 0 f0 rfl
  have g1 : DataW.trod enc P W base sp held k f1.type ((cs.drop f1.offset).take (P.cellsOf f1.type)) = some y1 := by simpa using hf 1 f1 rfl
  have g2 : DataW.trod enc P W base sp held k f2.type ((cs.drop f2.offset).take (P.cellsOf f2.type)) = some y2 := by simpa using hf 2 f2 rfl
  have g3 : DataW.trod enc P W base sp held k f3.type ((cs.drop f3.offset).take (P.cellsOf f3.type)) = some y3 := by simpa using hf 3 f3 rfl
  have g4 : DataW.trod enc P W base sp held k f4.type ((cs.drop f4.offset).take (P.cellsOf f4.type)) = some y4 := by simpa using hf 4 f4 rfl
  rw [o0, c0] at g0
  rw [o1, c1] at g1
  rw [o2, c2] at g2
  rw [o3, c3] at g3
  rw [o4, c4] at g4
  rw [ct] at hl
  obtain ⟨z0, e0, _, w0⟩ := DataW.trod_int u0 g0
  obtain ⟨bs, hb, e1⟩ := open_bytes u1 ub cb (by simp; omega) g1
  obtain ⟨ga, gc, gs, e2, r2, l2, m2, t2, q2⟩ := open_texts_cs u2 us cc g2
  obtain ⟨sa, sc, ss, e3, r3, l3, m3, t3, q3⟩ := open_texts_cs u3 us cc g3
  obtain ⟨z4, e4, _, w4⟩ := DataW.trod_int u4 g4
  refine ⟨⟨{ minute := z0, author := bs, groups := gs, sites := ss, bytes := z4 }, ga, gc, sa, sc⟩, ?_, ⟨hb, r2, r3, l2, l3, m2, m3, t2, t3, w0, w4⟩, fun hw => ?_⟩
  · rw [cut5 hl, e0, e1, e2, e3, e4, bytes16 hb]
    rfl
  · have hw2 : ∀ n ∈ y2.1.weights P f2.type, n ≤ reachBytes := fun n hn => hw n (mem_weights_struct ht (by
      simp only [List.map_cons, List.map_nil, DataW.weightsEach, List.mem_append]
      exact .inr (.inr (.inl hn))))
    have hw3 : ∀ n ∈ y3.1.weights P f3.type, n ≤ reachBytes := fun n hn => hw n (mem_weights_struct ht (by
      simp only [List.map_cons, List.map_nil, DataW.weightsEach, List.mem_append]
      exact .inr (.inr (.inr (.inl hn)))))
    exact ⟨fun x hx => Nat.le_trans (q2 hw2 x hx) (by decide), fun x hx => Nat.le_trans (q3 hw3 x hx) (by decide)⟩
theorem slot_none {b o : Nat} {s : Option Nat} {v : Value} (h : W.cell? ⟨b, o, s⟩ = some v) : s = none := by
  cases s with
  | none => rfl
  | some q =>
    unfold World.cell? at h
    split at h <;> simp at h
/-- A slice of events among the arguments. -/
theorem open_evs {r : Reach} {b0 base : Nat} {sp : Nat → Bool} {held : Bool} {t e : TypeId} {v : Value} {d : DataW H} {p : List MemPlace} (ht : P.underlying t = some (.slice e)) (ce : P.cellsOf e = 20)
    (hev : ∀ (fuel : Nat) (cs : List Value) (x : DataW H × List MemPlace), DataW.trod enc P W base sp held fuel e cs = some x → ∃ m : EvM, cs = evL m ∧ GoodM W m ∧ ((∀ n ∈ x.1.weights P e, n ≤ reachBytes) → LenM m))
    (hv : Value.okWide P W r b0 t v) (h : DataW.Trod enc P W base sp held t v d p) :
    ∃ (A : Option Addr) (c : Nat) (ms : List EvM), v = .slice A ms.length c ∧ RdE W A ms ∧ ms.length ≤ c ∧ c ≤ maxLen ∧ ((∀ n ∈ d.weights P t, n ≤ reachBytes) → ∀ m ∈ ms, LenM m) := by
  obtain ⟨a0, len, cap, rfl⟩ := okWide_slice ht hv
  obtain ⟨fuel, hf⟩ := h
  rcases open_slice ht hf with ⟨hcs, _⟩ | ⟨a, len', cap', m, n, D, Pl, hcs, _, hl, hm, hmm, hdx, hi⟩
  · cases hcs
    exact ⟨none, 0, [], rfl, ⟨fun h => absurd h (by simp), fun m hm => by simp at hm⟩, by simp, by simp [maxLen], fun _ x hx => by simp at hx⟩
  · cases hcs
    have hlm : len ≤ m := by rw [hmm]; split <;> omega
    have each : ∀ i, i < len → ∃ q : EvM, (∀ j u, (evL q)[j]? = some u → W.cell? (a.add (i * 20 + j)) = some u) ∧ GoodM W q ∧ ((∀ n ∈ (D i).weights P e, n ≤ reachBytes) → LenM q) := fun i hil => by
      obtain ⟨cs', h1, h2⟩ := hi i (by omega)
      rw [ce] at h1
      obtain ⟨_, hlen, hcell⟩ := World.cells?_some h1
      obtain ⟨q, ecs, hg, hL⟩ := hev _ _ _ h2
      refine ⟨q, fun j u hj => ?_, hg, hL⟩
      rw [← ecs] at hj
      obtain ⟨hjl, hje⟩ := List.getElem?_eq_some_iff.1 hj
      have e0 := hcell j (by omega)
      rw [Go.Deep.add_add] at e0
      rw [e0, List.getElem?_eq_getElem hjl, hje]
    haveI : Inhabited EvM := ⟨⟨{ minute := 0, author := [], groups := [], sites := [], bytes := 0 }, none, 0, none, 0⟩⟩
    obtain ⟨q, hq⟩ := choose_lt each
    refine ⟨some a, cap, (List.range len).map q, by simp, ⟨?_, fun x hx => ?_⟩, by simpa using hl, hm, fun hw x hx => ?_⟩
    · intro hpos
      have h0 : 0 < len := by simpa using hpos
      obtain ⟨b, o, s⟩ := a
      have hc0 := (hq 0 h0).1 0 _ (List.getElem?_eq_getElem (by rw [evL_length]; omega))
      have hs : s = none := by
        rw [show (⟨b, o, s⟩ : Addr).add (0 * 20 + 0) = ⟨b, o, s⟩ by cases s <;> rfl] at hc0
        exact slot_none hc0
      subst hs
      refine ⟨b, o, rfl, ?_, fun j x hj t u hu => ?_⟩
      · rw [addr_addN] at hc0
        exact World.block_lt_of_cell? W _ hc0
      · obtain ⟨hjl, hje⟩ := List.getElem?_eq_some_iff.1 hj
        have hjl' : j < len := by simpa using hjl
        simp at hje
        rw [← hje] at hu
        have := (hq j hjl').1 t u hu
        rw [addr_addN] at this
        rw [Nat.add_assoc]; exact this
    · obtain ⟨j, hj, rfl⟩ := List.mem_map.1 hx
      exact (hq j (by simpa using hj)).2.1
    · obtain ⟨j, hj, rfl⟩ := List.mem_map.1 hx
      refine (hq j (by simpa using hj)).2.2 fun n hn => hw n ?_
      have hd : d = _ := congrArg Prod.fst hdx
      rw [hd]
      exact weights_slice ht (List.mem_map.2 ⟨j, hj, rfl⟩) hn
end
end Go.Proofs.YthgefcoaaommkaaGreatDoor

namespace Go.Proofs.YthgefcoaaommkaaGreatDoor
open Go.ChangeShapes Go.WideShapes Go.ChangeAt Go.RowKit Go.Gn Go.Sr Go.Maps

section
variable {H : Type} {enc : TypeId × Value → H} {W : World}
theorem weights_at {P : Program} {B : Nat} : ∀ {ts : List TypeId} {ds : List (DataW H)} {i : Nat} {t : TypeId} {d : DataW H}, (DataW.weightsEach P ts ds).all (· ≤ B) = true → ts[i]? = some t → ds[i]? = some d → ∀ n ∈ d.weights P t, n ≤ B
  | [], _, _, _, _, _, h, _ => by simp at h
  | _ :: _, [], _, _, _, _, _, h => by simp at h
  | t :: ts, d :: ds, 0, t', d', h, ht, hd => fun n hn => by
    simp only [List.getElem?_cons_zero, Option.some.injEq] at ht hd
    subst ht; subst hd
    unfold DataW.weightsEach at h
    rw [List.all_append, Bool.and_eq_true] at h
    simpa using List.all_eq_true.1 h.1 n hn
  | t :: ts, d :: ds, i + 1, t', d', h, ht, hd => fun n hn => by
    unfold DataW.weightsEach at h
    rw [List.all_append, Bool.and_eq_true] at h
    exact weights_at h.2 (by simpa using ht) (by simpa using hd) n hn
set_option maxRecDepth 100000 in
theorem ev_at {base : Nat} {sp : Nat → Bool} {held : Bool} (fuel : Nat) (cs : List Value) (x : DataW H × List MemPlace) (h : DataW.trod enc Tryz.prog W base sp held fuel 51 cs = some x) : ∃ m : EvM, cs = evL m ∧ GoodM W m ∧ ((∀ n ∈ x.1.weights Tryz.prog 51, n ≤ reachBytes) → LenM m) :=
  open_ev Tryz.underlying51 (by kernel_rfl) rfl rfl rfl rfl rfl (by kernel_rfl) (by kernel_rfl) (by kernel_rfl) (by kernel_rfl) (by kernel_rfl) Tryz.underlying3 Tryz.underlying49 Tryz.underlying5 (by kernel_rfl) Tryz.underlying40 Tryz.underlying40 Tryz.underlying9 (by kernel_rfl) Tryz.underlying3 h
set_option maxRecDepth 100000 in
theorem evs_at {r : Reach} {b0 base : Nat} {sp : Nat → Bool} {held : Bool} {v : Value} {d : DataW H} {p : List MemPlace} (hv : Value.okWide Tryz.prog W r b0 22 v) (h : DataW.Trod enc Tryz.prog W base sp held 22 v d p) :
    ∃ (A : Option Addr) (c : Nat) (ms : List EvM), v = .slice A ms.length c ∧ RdE W A ms ∧ ms.length ≤ c ∧ c ≤ maxLen ∧ ((∀ n ∈ d.weights Tryz.prog 22, n ≤ reachBytes) → ∀ m ∈ ms, LenM m) :=
  open_evs Tryz.underlying22 (by kernel_rfl) (fun fuel cs x h => ev_at fuel cs x h) hv h
set_option maxRecDepth 100000 in
theorem evarg_at {r : Reach} {b0 base : Nat} {sp : Nat → Bool} {held : Bool} {v : Value} {d : DataW H} {p : List MemPlace} (hv : Value.okWide Tryz.prog W r b0 51 v) (h : DataW.Trod enc Tryz.prog W base sp held 51 v d p) :
    ∃ m : EvM, v = evA m ∧ GoodM W m ∧ ((∀ n ∈ d.weights Tryz.prog 51, n ≤ reachBytes) → LenM m) := by
  obtain ⟨cs, rfl, _⟩ := okWide_struct Tryz.underlying51 hv
  obtain ⟨fuel, hf⟩ := h
  obtain ⟨m, e, hg, hL⟩ := ev_at fuel _ _ hf
  refine ⟨m, ?_, hg, hL⟩
  have e2 : cs.toList = evL m := e
  unfold evA
  rw [← e2]
end
end Go.Proofs.YthgefcoaaommkaaGreatDoor
