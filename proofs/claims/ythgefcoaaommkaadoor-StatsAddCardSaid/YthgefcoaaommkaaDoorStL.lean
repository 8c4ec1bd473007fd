/- Bounds of the statistics of accepted events; rows of events of the call's own. -/
import Derived.Test.YthgefcoaaommkaaDoorStK
namespace Go.Proofs.YthgefcoaaommkaaDoor
open Go.RowKit Go.Gn Go.Sr Go.Maps

theorem daysL_len (l : List Ev) : (daysL l).length ≤ l.length := snoc_ind (p := fun l => (daysL l).length ≤ l.length) (by simp [daysL]) (fun l e ih => by
  rw [daysL_snoc, List.length_append, List.length_singleton]
  have := addA_length (daysL l) (dayE e) (oneE e)
  omega) l
theorem keysE_len {e : Ev} (h : GoodE e) : (keysE e).length ≤ 71 := by
  have h1 := h.ng.2
  have h2 := h.ns
  simp only [keysE, List.length_append, List.length_map, List.length_singleton]
  omega
theorem namesL_len (l : List Ev) : (∀ e ∈ l, GoodE e) → (namesL l).length ≤ 71 * l.length := snoc_ind (p := fun l => (∀ e ∈ l, GoodE e) → (namesL l).length ≤ 71 * l.length) (by simp [namesL]) (fun l e ih h => by
  rw [namesL_snoc, List.length_append, List.length_singleton]
  have h1 := addAll_length (oneE e) (keysE e) (namesL l)
  have h2 := keysE_len (h e (by simp))
  have h3 := ih fun x hx => h x (by simp [hx])
  omega) l
theorem oneE_fst (e : Ev) : 0 ≤ (oneE e).1 ∧ (oneE e).1 ≤ 65536 := by unfold oneE; constructor <;> simp
theorem oneE_snd {e : Ev} (h : GoodE e) : 0 ≤ (oneE e).2 ∧ (oneE e).2 ≤ 65536 := h.bytes
theorem daysL_bnd (l : List Ev) : (∀ e ∈ l, GoodE e) → bndL (daysL l) (65536 * l.length) := snoc_ind (p := fun l => (∀ e ∈ l, GoodE e) → bndL (daysL l) (65536 * l.length)) (fun _ q hq => by simp [daysL] at hq) (fun l e ih h => by
  rw [daysL_snoc, List.length_append, List.length_singleton]
  have h3 := ih fun x hx => h x (by simp [hx])
  exact (h3.add (by omega) (dayE e) (oneE_fst e) (oneE_snd (h e (by simp)))).mono (by omega)) l
theorem namesL_bnd (l : List Ev) : (∀ e ∈ l, GoodE e) → bndL (namesL l) (4653056 * l.length) := snoc_ind (p := fun l => (∀ e ∈ l, GoodE e) → bndL (namesL l) (4653056 * l.length)) (fun _ q hq => by simp [namesL] at hq) (fun l e ih h => by
  rw [namesL_snoc, List.length_append, List.length_singleton]
  have h3 := ih fun x hx => h x (by simp [hx])
  have h2 := keysE_len (h e (by simp))
  exact (bndL.addAll (oneE_fst e) (oneE_snd (h e (by simp))) (keysE e) h3 (by omega)).mono (by omega)) l
theorem upAt_get (z : List Int) (k j : Nat) (hk : k < z.length) : (upAt z k).getD j 0 = if j = k then z.getD k 0 + 1 else z.getD j 0 := by
  unfold upAt
  rw [List.getD_eq_getElem?_getD, List.getElem?_set]
  by_cases h : k = j
  · subst h; rw [if_pos rfl, if_pos hk, if_pos rfl]; rfl
  · rw [if_neg h, if_neg fun e => h e.symm, List.getD_eq_getElem?_getD]
theorem sizesL_bnd (l : List Ev) : (∀ e ∈ l, GoodE e) → ∀ k, 0 ≤ (sizesL l).getD k 0 ∧ (sizesL l).getD k 0 ≤ l.length := snoc_ind (p := fun l => (∀ e ∈ l, GoodE e) → ∀ k, 0 ≤ (sizesL l).getD k 0 ∧ (sizesL l).getD k 0 ≤ l.length) (fun _ k => by
    have e : (sizesL []) = List.replicate 18 0 := rfl
    rw [e, List.getD_eq_getElem?_getD, List.getElem?_replicate]
    split <;> simp) (fun l e ih h k => by
  have he := h e (by simp)
  have hb := blen_le he.bytes.1 he.bytes.2
  have h3 := ih fun x hx => h x (by simp [hx])
  rw [sizesL_snoc, upAt_get _ _ _ (by rw [sizesL_length]; omega), List.length_append, List.length_singleton]
  have h4 := h3 k
  have h5 := h3 (blen e.bytes)
  split <;> omega) l
theorem daysL_tot (l : List Ev) : (sumC ((daysL l).map (·.2))).1 = l.length := by rw [total_days, sumE_fst]

/-! ### rows of events -/
theorem flatE_get : ∀ {l : List EvM} {k : Nat} {m : EvM} (_ : l[k]? = some m) {j : Nat} {v : Value} (_ : (evL m)[j]? = some v), (l.flatMap evL)[k * 20 + j]? = some v
  | [], _, _, h, _, _, _ => by simp at h
  | y :: r, k, x, hx, j, v, hv => by
    have hy := evL_length y
    cases k with
    | zero =>
      obtain rfl : y = x := by simpa using hx
      have hj : j < 20 := by rw [← hy]; exact (List.getElem?_eq_some_iff.1 hv).1
      show (evL y ++ r.flatMap evL)[0 * 20 + j]? = some v
      rw [List.getElem?_append_left (by omega)]
      simpa using hv
    | succ k =>
      show (evL y ++ r.flatMap evL)[(k + 1) * 20 + j]? = some v
      rw [List.getElem?_append_right (by omega), hy, show (k + 1) * 20 + j - 20 = k * 20 + j by omega]
      exact flatE_get (by simpa using hx) hv
theorem flatE_length : ∀ l : List EvM, (l.flatMap evL).length = l.length * 20
  | [] => rfl
  | x :: r => by
    have ih := flatE_length r
    have hx := evL_length x
    simp only [List.flatMap_cons, List.length_append, List.length_cons] at ih ⊢
    omega
theorem one_flatE (l : List EvM) : ∀ u ∈ l.flatMap evL, u.oneCell' = true := fun u hu => by
  obtain ⟨x, _, h⟩ := List.mem_flatMap.1 hu
  exact one_evL x u h
theorem RdE.of_own {w : World} {base c : Nat} {e : TypeId} {A : Option Addr} {l : List EvM} (h : w.ownsRow base e 20 (.slice A l.length c) l.length (l.flatMap evL)) (hg : ∀ m ∈ l, GoodM w m) : RdE w A l := by
  refine ⟨fun hp => ?_, hg⟩
  rcases h.2 with ⟨e1, e2⟩ | ⟨g, cap, cur, e1, hb, hg, hcap, hml, hsz, ht⟩
  · omega
  · injection e1 with a1 a2 a3
    subst a1
    refine ⟨g, 0, rfl, blk_lt hg, fun j x hj t v hv => ?_⟩
    have h1 := flatE_get hj hv
    rw [Nat.zero_add, blk_cell hg]
    rw [← ht, List.getElem?_take] at h1
    split at h1
    · simpa using h1
    · cases h1
theorem ev_info : ∃ i, Tryd.prog.info? 37 = some i ∧ i.zero = some (.agg #[i64 0, .int .u8 0, .int .u8 0, .int .u8 0, .int .u8 0, .int .u8 0, .int .u8 0, .int .u8 0, .int .u8 0, .int .u8 0, .int .u8 0, .int .u8 0, .int .u8 0, .int .u8 0, .int .u8 0, .int .u8 0, .int .u8 0, .slice none 0 0, .slice none 0 0, i64 0]) ∧ i.size = 20 ∧ i.bytes = 80 := by
  obtain ⟨i, hi⟩ := Option.isSome_iff_exists.1 (show (Tryd.prog.info? 37).isSome = true by kernel_rfl)
  have h1 : (Tryd.prog.info? 37).bind (·.zero) = some (.agg #[i64 0, .int .u8 0, .int .u8 0, .int .u8 0, .int .u8 0, .int .u8 0, .int .u8 0, .int .u8 0, .int .u8 0, .int .u8 0, .int .u8 0, .int .u8 0, .int .u8 0, .int .u8 0, .int .u8 0, .int .u8 0, .int .u8 0, .slice none 0 0, .slice none 0 0, i64 0]) := by kernel_rfl
  have h2 : (Tryd.prog.info? 37).map (·.size) = some 20 := by kernel_rfl
  have h3 : (Tryd.prog.info? 37).map (·.bytes) = some 80 := by kernel_rfl
  rw [hi] at h1 h2 h3
  exact ⟨i, hi, h1, Option.some.inj h2, Option.some.inj h3⟩
end Go.Proofs.YthgefcoaaommkaaDoor
