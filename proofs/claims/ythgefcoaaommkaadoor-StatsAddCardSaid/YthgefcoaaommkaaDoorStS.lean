/- An argument of the statements of this chapter laid open: a slice of events. -/
import Derived.Test.YthgefcoaaommkaaDoorStR
import Derived.Deep.Slices
import Derived.Deep.Fields
import Derived.ChangeSame
import Derived.OpenShut
import Derived.SliceStrings
import Derived.ProofKit
namespace Go.Proofs.YthgefcoaaommkaaDoor
open Go.ChangeShapes Go.WideShapes Go.ChangeAt Go.RowKit Go.Gn Go.Sr Go.Maps Go.Deep

section
variable {H : Type} {enc : TypeId × Value → H} {P : Program} {W : World}
theorem weightsAll_mem {e : TypeId} {n : Nat} : ∀ {l : List (DataW H)} {d : DataW H}, d ∈ l → n ∈ d.weights P e → n ∈ DataW.weightsAll P e l
  | [], _, h, _ => by simp at h
  | a :: r, d, h, hn => by
    unfold DataW.weightsAll
    rcases List.mem_cons.1 h with rfl | h
    · exact List.mem_append_left _ hn
    · exact List.mem_append_right _ (weightsAll_mem h hn)
theorem weights_slice {t e : TypeId} {elems spare : List (DataW H)} (ht : P.underlying t = some (.slice e)) {d : DataW H} (hd : d ∈ elems) {n : Nat} (hn : n ∈ d.weights P e) : n ∈ (DataW.slice elems spare).weights P t := by
  unfold DataW.weights
  rw [ht]
  exact List.mem_cons_of_mem _ (List.mem_append_left _ (weightsAll_mem hd hn))
/-- The cells of a slice of texts. -/
theorem open_texts_cs {base : Nat} {sp : Nat → Bool} {held : Bool} {t e : TypeId} {fuel : Nat} {cs : List Value} {x : DataW H × List MemPlace} (ht : P.underlying t = some (.slice e)) (he : P.underlying e = some .string) (hc : P.cellsOf e = 1)
    (h : DataW.trod enc P W base sp held fuel t cs = some x) :
    ∃ (A : Option Addr) (c : Nat) (xs : List (List UInt8)), cs = [.slice A xs.length c] ∧ Rd W A xs ∧ xs.length ≤ c ∧ c ≤ maxLen ∧ (∀ y ∈ xs, y.length ≤ maxLen) ∧ ((∀ n ∈ x.1.weights P t, n ≤ reachBytes) → ∀ y ∈ xs, y.length ≤ reachBytes) := by
  rcases open_strings ht he hc h with ⟨hcs, _⟩ | ⟨a, len, cap, ss, hcs, _, hl, hm, hz, hx, hcell, hws⟩
  · subst hcs
    exact ⟨none, 0, [], rfl, Rd.nil, by simp, by simp [maxLen], fun x hx => by simp at hx, fun _ x hx => by simp at hx⟩
  · subst hcs
    have hle : len ≤ ss.length := by rw [hz]; split <;> omega
    refine ⟨some a, cap, (ss.take len).map fun s => s.data.toList, ?_, ?_, ?_, hm, ?_, ?_⟩
    · simp; omega
    · intro hpos
      have h0 : 0 < len := by simp at hpos; omega
      obtain ⟨b, o, s⟩ := a
      have hs : s = none := by
        have := hcell 0 (by omega)
        cases s with
        | none => rfl
        | some q =>
          rw [show (⟨b, o, some q⟩ : Addr).add 0 = ⟨b, o, some q⟩ from rfl] at this
          unfold World.cell? at this
          split at this <;> simp at this
      subst hs
      refine ⟨b, o, rfl, ?_, fun j x hj => ?_⟩
      · exact World.block_lt_of_cell? W _ (hcell 0 (by omega))
      · have hj' : j < len := by
          have := (List.getElem?_eq_some_iff.1 hj).1
          simp at this; omega
        have := hcell j (by omega)
        have e1 : (⟨b, o, none⟩ : Addr).add j = ⟨b, o + j, none⟩ := by
          unfold Addr.add; split
          · rename_i e; subst e; rfl
          · rfl
        rw [e1] at this
        rw [this]
        simp [hj', show j < ss.length by omega] at hj ⊢
        rw [← hj]
    · simp; omega
    · intro x hx
      obtain ⟨s, hs, rfl⟩ := List.mem_map.1 hx
      have h1 : s.data.size ≤ maxLen := hws s (List.mem_of_mem_take hs)
      rw [Array.length_toList]
      exact h1
    · intro hw y hy
      obtain ⟨s, hs, rfl⟩ := List.mem_map.1 hy
      refine hw _ ?_
      rw [hx]
      exact weights_slice ht (d := .lit (.string s.data.toList)) (List.mem_map.2 ⟨s, hs, rfl⟩) (by simp [DataW.weights])
/-- The cells of an array of bytes. -/
theorem open_bytes {t e : TypeId} {n : Nat} {base : Nat} {sp : Nat → Bool} {held : Bool} {fuel : Nat} {cs : List Value} {x : DataW H × List MemPlace} (ht : P.underlying t = some (.array n e)) (he : P.underlying e = some (.int .u8)) (ce : P.cellsOf e = 1) (ct : cs.length = n)
    (h : DataW.trod enc P W base sp held fuel t cs = some x) : ∃ bs : List UInt8, bs.length = n ∧ cs = bs.map enB := by
  obtain ⟨xs, k, _, _, hl, hxl, hf⟩ := DataW.trod_array ht h
  have each : ∀ i, i < n → ∃ b : UInt8, cs[i]? = some (enB b) := fun i hi => by
    have h1 := hf i hi
    rw [List.getElem?_eq_getElem (by omega)] at h1
    obtain ⟨z, e1, _, wz⟩ := DataW.trod_int he h1
    rw [ce, Nat.mul_one, List.drop_eq_getElem_cons (by omega), List.take_succ_cons, List.take_zero] at e1
    injection e1 with e1
    have em : IntKind.u8.min = 0 := by decide
    have eM : IntKind.u8.max = 255 := by decide
    simp [Lit.wf, em, eM] at wz
    refine ⟨UInt8.ofNat z.toNat, ?_⟩
    rw [List.getElem?_eq_getElem (by omega), e1]
    have : (UInt8.ofNat z.toNat).toNat = z.toNat := by rw [UInt8.toNat_ofNat']; omega
    unfold enB
    rw [this, Int.toNat_of_nonneg (by omega)]
  obtain ⟨q, hq⟩ := choose_lt each
  refine ⟨(List.range n).map q, by simp, ?_⟩
  apply List.ext_getElem?
  intro i
  by_cases hi : i < n
  · rw [hq i hi]; simp [hi]
  · rw [List.getElem?_eq_none (by omega), List.getElem?_eq_none (by simp; omega)]
theorem bytes16 : ∀ {bs : List UInt8}, bs.length = 16 → bs.map enB = [auB bs 0, auB bs 1, auB bs 2, auB bs 3, auB bs 4, auB bs 5, auB bs 6, auB bs 7, auB bs 8, auB bs 9, auB bs 10, auB bs 11, auB bs 12, auB bs 13, auB bs 14, auB bs 15]
  | [_a0, _a1, _a2, _a3, _a4, _a5, _a6, _a7, _a8, _a9, _a10, _a11, _a12, _a13, _a14, _a15], _ => rfl
theorem cut5 {cs : List Value} (h : cs.length = 20) : cs = (cs.drop 0).take 1 ++ ((cs.drop 1).take 16 ++ ((cs.drop 17).take 1 ++ ((cs.drop 18).take 1 ++ (cs.drop 19).take 1))) := by
  apply List.ext_getElem?
  intro i
  simp only [List.getElem?_append, List.getElem?_take, List.getElem?_drop, List.length_take, List.length_drop]
  grind
theorem mem_weights_struct {t : TypeId} {fs : Array Field} {n : Nat} (ht : P.underlying t = some (.struct fs)) {xs : List (DataW H)} (h : n ∈ DataW.weightsEach P (fs.toList.map (·.type)) xs) : n ∈ (DataW.agg xs).weights P t := by
  unfold DataW.weights
  rw [ht]
  exact h
/-- The cells of an event. -/
theorem open_ev {t tb ts : TypeId} {f0 f1 f2 f3 f4 : Field} {base : Nat} {sp : Nat → Bool} {held : Bool} {fuel : Nat} {cs : List Value} {x : DataW H × List MemPlace} (ht : P.underlying t = some (.struct #[f0, f1, f2, f3, f4])) (ct : P.cellsOf t = 20)
    (o0 : f0.offset = 0) (o1 : f1.offset = 1) (o2 : f2.offset = 17) (o3 : f3.offset = 18) (o4 : f4.offset = 19) (c0 : P.cellsOf f0.type = 1) (c1 : P.cellsOf f1.type = 16) (c2 : P.cellsOf f2.type = 1) (c3 : P.cellsOf f3.type = 1) (c4 : P.cellsOf f4.type = 1)
    (u0 : P.underlying f0.type = some (.int .i64)) (u1 : P.underlying f1.type = some (.array 16 tb)) (ub : P.underlying tb = some (.int .u8)) (cb : P.cellsOf tb = 1) (u2 : P.underlying f2.type = some (.slice ts)) (u3 : P.underlying f3.type = some (.slice ts)) (us : P.underlying ts = some .string) (cc : P.cellsOf ts = 1) (u4 : P.underlying f4.type = some (.int .i64))
    (h : DataW.trod enc P W base sp held fuel t cs = some x) : ∃ m : EvM, cs = evL m ∧ GoodM W m ∧ ((∀ n ∈ x.1.weights P t, n ≤ reachBytes) → LenM m) := by
  obtain ⟨xs, k, _, rfl, hl, hxl, hf⟩ := DataW.trod_struct ht h
  match xs, hxl with
  | [y0, y1, y2, y3, y4], _ =>
  have g0 : DataW.trod enc P W base sp held k f0.type ((cs.drop f0.offset).take (P.cellsOf f0.type)) = some y0 := by simpa using hf 0 f0 rfl
  have g1 : DataW.trod enc P W base sp held k f1.type ((cs.drop f1.offset).take (P.cellsOf f1.type)) = some y1 := by simpa using hf 1 f1 rfl
  have g2 : DataW.trod enc P W base sp held k f2.type ((cs.drop f2.offset).take (P.cellsOf f2.type)) = some y2 := by simpa using hf 2 f2 rfl
  have g3 : DataW.trod enc P W base sp held k f3.type ((cs.drop f3.offset).take (P.cellsOf f3.type)) = some y3 := by simpa using hf 3 f3 rfl
  have g4 : DataW.trod enc P W base sp held k f4.type ((cs.drop f4.offset).take (P.cellsOf f4.type)) = some y4 := by simpa using hf 4 f4 rfl
  rw [o0, c0] at g0
  rw [o1, c1] at g1
  rw [o2, c2] at g2
  rw [o3, c3] at g3
  rw [o4, c4] at g4
  rw [ct] at hl
  obtain ⟨z0, e0, _, w0⟩ := DataW.trod_int u0 g0
  obtain ⟨bs, hb, e1⟩ := open_bytes u1 ub cb (by simp; omega) g1
  obtain ⟨ga, gc, gs, e2, r2, l2, m2, t2, q2⟩ := open_texts_cs u2 us cc g2
  obtain ⟨sa, sc, ss, e3, r3, l3, m3, t3, q3⟩ := open_texts_cs u3 us cc g3
  obtain ⟨z4, e4, _, w4⟩ := DataW.trod_int u4 g4
  refine ⟨⟨{ minute := z0, author := bs, groups := gs, sites := ss, bytes := z4 }, ga, gc, sa, sc⟩, ?_, ⟨hb, r2, r3, l2, l3, m2, m3, t2, t3, w0, w4⟩, fun hw => ?_⟩
  · rw [cut5 hl, e0, e1, e2, e3, e4, bytes16 hb]
    rfl
  · have hw2 : ∀ n ∈ y2.1.weights P f2.type, n ≤ reachBytes := fun n hn => hw n (mem_weights_struct ht (by
      simp only [List.map_cons, List.map_nil, DataW.weightsEach, List.mem_append]
      exact .inr (.inr (.inl hn))))
    have hw3 : ∀ n ∈ y3.1.weights P f3.type, n ≤ reachBytes := fun n hn => hw n (mem_weights_struct ht (by
      simp only [List.map_cons, List.map_nil, DataW.weightsEach, List.mem_append]
      exact .inr (.inr (.inr (.inl hn)))))
    exact ⟨fun x hx => Nat.le_trans (q2 hw2 x hx) (by decide), fun x hx => Nat.le_trans (q3 hw3 x hx) (by decide)⟩
theorem slot_none {b o : Nat} {s : Option Nat} {v : Value} (h : W.cell? ⟨b, o, s⟩ = some v) : s = none := by
  cases s with
  | none => rfl
  | some q =>
    unfold World.cell? at h
    split at h <;> simp at h
/-- A slice of events among the arguments. -/
theorem open_evs {r : Reach} {b0 base : Nat} {sp : Nat → Bool} {held : Bool} {t e : TypeId} {v : Value} {d : DataW H} {p : List MemPlace} (ht : P.underlying t = some (.slice e)) (ce : P.cellsOf e = 20)
    (hev : ∀ (fuel : Nat) (cs : List Value) (x : DataW H × List MemPlace), DataW.trod enc P W base sp held fuel e cs = some x → ∃ m : EvM, cs = evL m ∧ GoodM W m ∧ ((∀ n ∈ x.1.weights P e, n ≤ reachBytes) → LenM m))
    (hv : Value.okWide P W r b0 t v) (h : DataW.Trod enc P W base sp held t v d p) :
    ∃ (A : Option Addr) (c : Nat) (ms : List EvM), v = .slice A ms.length c ∧ RdE W A ms ∧ ms.length ≤ c ∧ c ≤ maxLen ∧ ((∀ n ∈ d.weights P t, n ≤ reachBytes) → ∀ m ∈ ms, LenM m) := by
  obtain ⟨a0, len, cap, rfl⟩ := okWide_slice ht hv
  obtain ⟨fuel, hf⟩ := h
  rcases open_slice ht hf with ⟨hcs, _⟩ | ⟨a, len', cap', m, n, D, Pl, hcs, _, hl, hm, hmm, hdx, hi⟩
  · cases hcs
    exact ⟨none, 0, [], rfl, ⟨fun h => absurd h (by simp), fun m hm => by simp at hm⟩, by simp, by simp [maxLen], fun _ x hx => by simp at hx⟩
  · cases hcs
    have hlm : len ≤ m := by rw [hmm]; split <;> omega
    have each : ∀ i, i < len → ∃ q : EvM, (∀ j u, (evL q)[j]? = some u → W.cell? (a.add (i * 20 + j)) = some u) ∧ GoodM W q ∧ ((∀ n ∈ (D i).weights P e, n ≤ reachBytes) → LenM q) := fun i hil => by
      obtain ⟨cs', h1, h2⟩ := hi i (by omega)
      rw [ce] at h1
      obtain ⟨_, hlen, hcell⟩ := World.cells?_some h1
      obtain ⟨q, ecs, hg, hL⟩ := hev _ _ _ h2
      refine ⟨q, fun j u hj => ?_, hg, hL⟩
      rw [← ecs] at hj
      obtain ⟨hjl, hje⟩ := List.getElem?_eq_some_iff.1 hj
      have e0 := hcell j (by omega)
      rw [Go.Deep.add_add] at e0
      rw [e0, List.getElem?_eq_getElem hjl, hje]
    haveI : Inhabited EvM := ⟨⟨{ minute := 0, author := [], groups := [], sites := [], bytes := 0 }, none, 0, none, 0⟩⟩
    obtain ⟨q, hq⟩ := choose_lt each
    refine ⟨some a, cap, (List.range len).map q, by simp, ⟨?_, fun x hx => ?_⟩, by simpa using hl, hm, fun hw x hx => ?_⟩
    · intro hpos
      have h0 : 0 < len := by simpa using hpos
      obtain ⟨b, o, s⟩ := a
      have hc0 := (hq 0 h0).1 0 _ (List.getElem?_eq_getElem (by rw [evL_length]; omega))
      have hs : s = none := by
        rw [show (⟨b, o, s⟩ : Addr).add (0 * 20 + 0) = ⟨b, o, s⟩ by cases s <;> rfl] at hc0
        exact slot_none hc0
      subst hs
      refine ⟨b, o, rfl, ?_, fun j x hj t u hu => ?_⟩
      · rw [addr_addN] at hc0
        exact World.block_lt_of_cell? W _ hc0
      · obtain ⟨hjl, hje⟩ := List.getElem?_eq_some_iff.1 hj
        have hjl' : j < len := by simpa using hjl
        simp at hje
        rw [← hje] at hu
        have := (hq j hjl').1 t u hu
        rw [addr_addN] at this
        rw [Nat.add_assoc]; exact this
    · obtain ⟨j, hj, rfl⟩ := List.mem_map.1 hx
      exact (hq j (by simpa using hj)).2.1
    · obtain ⟨j, hj, rfl⟩ := List.mem_map.1 hx
      refine (hq j (by simpa using hj)).2.2 fun n hn => hw n ?_
      have hd : d = _ := congrArg Prod.fst hdx
      rw [hd]
      exact weights_slice ht (List.mem_map.2 ⟨j, hj, rfl⟩) hn
end
end Go.Proofs.YthgefcoaaommkaaDoor
