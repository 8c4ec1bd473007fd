/- How many names belong to a hierarchy: plain laws. -/
import Derived.Test.YtcagooijkecmoaaDoorGnKidP
namespace Go.Proofs.YtcagooijkecmoaaDoor
open Go.Gn

/-- The hierarchies to which a name belongs. -/
def hiers (a : List UInt8) : List (List UInt8) := (List.range (parts 46 a).length).map fun i => text 46 ((parts 46 a).take (i + 1))
theorem hiers_length (a : List UInt8) : (hiers a).length = (parts 46 a).length := by simp [hiers]
theorem hiers_at (a : List UInt8) (j : Nat) (h : j < (parts 46 a).length) : (hiers a)[j]? = some (text 46 ((parts 46 a).take (j + 1))) := by
  unfold hiers
  rw [List.getElem?_map, List.getElem?_range h]; rfl
theorem hiers_take (a : List UInt8) (j : Nat) (h : j < (parts 46 a).length) : (hiers a).take (j + 1) = (hiers a).take j ++ [text 46 ((parts 46 a).take (j + 1))] := by
  rw [List.take_add_one, hiers_at a j h]; rfl
theorem hiers_le {a x : List UInt8} (h : x ∈ hiers a) : x.length ≤ a.length := by
  unfold hiers at h
  obtain ⟨i, _, rfl⟩ := List.mem_map.1 h
  have := text_length_take 46 (parts 46 a) (i + 1)
  rwa [text_parts] at this
theorem flat_snoc (ns : List (List UInt8)) (k : Nat) (x : List UInt8) (h : ns[k]? = some x) : (ns.take (k + 1)).flatMap hiers = (ns.take k).flatMap hiers ++ hiers x := by
  obtain ⟨hl, hx⟩ := List.getElem?_eq_some_iff.1 h
  rw [List.take_succ_eq_append_getElem hl, hx]
  simp
theorem flat_length (ns : List (List UInt8)) (h : ∀ x ∈ ns, check x = 0) : (ns.flatMap hiers).length ≤ ns.length * 10 := by
  induction ns with
  | nil => simp
  | cons a r ih =>
    have h1 := ih fun x hx => h x (by simp [hx])
    have h2 := ((check_zero a).1 (h a (by simp))).2.2
    simp only [List.flatMap_cons, List.length_append, hiers_length, List.length_cons]
    omega
/-- A hierarchy of a name is one to which it belongs. -/
theorem mem_hiers {a h : List UInt8} (ha : check a = 0) : h ∈ hiers a ↔ within a h = true := by
  unfold hiers
  simp only [List.mem_map, List.mem_range]
  constructor
  · rintro ⟨i, hi, rfl⟩
    exact within_take ha (i + 1) (by omega)
  · intro hw
    obtain ⟨_, hh, hp⟩ := (within_iff a h).1 hw
    have hpos := parts_pos 46 h
    have hle := hp.length_le
    refine ⟨(parts 46 h).length - 1, by omega, ?_⟩
    rw [show (parts 46 h).length - 1 + 1 = (parts 46 h).length by omega]
    exact (take_text a h hle).2 hp
/-- How many names of a list belong to a hierarchy. -/
def countN (ns : List (List UInt8)) (h : List UInt8) : Nat := (ns.filter fun x => within x h).length

theorem sum_parts {α β : Type} [DecidableEq β] (f : α → Option β) (K : List β) (hK : K.Nodup) : ∀ (ns : List α), (∀ x ∈ ns, ∀ c, f x = some c → c ∈ K) →
    (K.map fun c => (ns.filter fun x => decide (f x = some c)).length).sum = (ns.filter fun x => (f x).isSome).length
  | [], _ => by
    simp
    induction K with
    | nil => rfl
    | cons a r ih => simp [ih (List.nodup_cons.1 hK).2]
  | x :: ns, h => by
    have ih := sum_parts f K hK ns fun y hy => h y (by simp [hy])
    cases hx : f x with
    | none => simpa [List.filter_cons, hx] using ih
    | some c =>
      have hc := h x (by simp) c hx
      have e : ∀ d, (List.filter (fun x => decide (f x = some d)) (x :: ns)).length = (List.filter (fun x => decide (f x = some d)) ns).length + if d = c then 1 else 0 := by
        intro d
        simp only [List.filter_cons, hx, Option.some.injEq]
        by_cases hd : d = c
        · subst hd; simp
        · simp [hd, Ne.symm hd]
      simp only [e]
      have e2 : ∀ (L : List β), L.Nodup → (L.map fun d => (List.filter (fun x => decide (f x = some d)) ns).length + if d = c then 1 else 0).sum = (L.map fun d => (List.filter (fun x => decide (f x = some d)) ns).length).sum + if c ∈ L then 1 else 0 := by
        intro L hL
        induction L with
        | nil => simp
        | cons a r ih2 =>
          have hL' := List.nodup_cons.1 hL
          have := ih2 hL'.2
          simp only [List.map_cons, List.sum_cons, this, List.mem_cons]
          by_cases ha : a = c
          · subst ha; simp [hL'.1]; omega
          · simp [ha, Ne.symm ha]; omega
      rw [e2 K hK, if_pos hc, ih]
      simp [hx]
theorem inc_nodup {c : List UInt8 → List UInt8 → Int} (h : Lin c) {l : List (List UInt8)} (hi : Inc c l) : l.Nodup := by
  refine List.Pairwise.imp ?_ hi
  intro a b hab e
  subst e
  have := h.self a
  omega
/-- A name that belongs to a hierarchy is the hierarchy itself or has a next component. -/
theorem within_kid {h x : List UInt8} (hx : check x = 0) (hh : check h = 0) : within x h = (decide (x = h) || (kid (preOf h) x).isSome) := by
  have h0 : h ≠ [] := fun e => by rw [e, check_nil] at hh; cases hh
  have e1 : (kid (preOf h) x).isSome = (h ++ [46]).isPrefixOf x := by
    unfold kid preOf Lib.hasPrefix
    rw [if_neg h0]
    cases hq : (h ++ [46]).isPrefixOf x <;> simp
  rw [e1, Bool.eq_iff_iff, within_iff, ← dot_prefix]
  simp [hx, hh]
/-- .. and belongs to the hierarchy with that component. -/
theorem kid_within {h x c : List UInt8} (hx : check x = 0) (hh : check h = 0) (hc : (46 : UInt8) ∉ c) : decide (kid (preOf h) x = some c) = within x (h ++ 46 :: c) := by
  have h0 : h ≠ [] := fun e => by rw [e, check_nil] at hh; cases hh
  have ek : kid (preOf h) x = if below h x then some ((parts 46 x).getD (depth h) []) else none := kid_ref hx (.inr hh)
  have hd : depth h = (parts 46 h).length := by unfold depth; rw [if_neg h0]
  have hpc : parts 46 (h ++ 46 :: c) = parts 46 h ++ [c] := by rw [parts_sep, parts_plain 46 c hc]
  rw [Bool.eq_iff_iff, decide_eq_true_eq]
  constructor
  · intro e
    rw [ek] at e
    split at e
    · rename_i hb
      cases e
      unfold below at hb
      rw [hd] at hb
      simp only [Bool.and_eq_true, Bool.or_eq_true, decide_eq_true_eq] at hb
      obtain ⟨h1, h2⟩ := hb
      have h2 : within x h = true := by rcases h2 with e | e; exact absurd e h0; exact e
      obtain ⟨_, _, hp⟩ := (within_iff x h).1 h2
      have hp2 : parts 46 h ++ [(parts 46 x).getD (depth h) []] <+: parts 46 x := by
        obtain ⟨t, ht⟩ := hp
        rw [hd, ← ht]
        rw [← ht] at h1
        cases t with
        | nil => simp at h1
        | cons y r => refine ⟨r, ?_⟩; simp
      have htx : within x (text 46 ((parts 46 x).take ((parts 46 h).length + 1))) = true := within_take hx _ (by omega)
      have htk : (parts 46 x).take ((parts 46 h).length + 1) = parts 46 h ++ [(parts 46 x).getD (depth h) []] := by
        have := List.prefix_iff_eq_take.1 hp2
        rw [this]; simp
      rw [htk, text_snoc 46 _ _ (parts_ne_nil 46 h), text_parts] at htx
      exact htx
    · cases e
  · intro hw
    obtain ⟨_, _, hp⟩ := (within_iff _ _).1 hw
    rw [hpc] at hp
    obtain ⟨t, ht⟩ := hp
    have hb : below h x = true := by
      unfold below
      rw [hd, ← ht, (within_iff x h).2 ⟨hx, hh, ⟨[c] ++ t, by rw [← ht]; simp⟩⟩]
      simp
    rw [ek, if_pos hb, hd, ← ht]
    simp
theorem count_one (ns : List (List UInt8)) (hn : ns.Nodup) (h : List UInt8) : (ns.filter fun x => decide (x = h)).length = if h ∈ ns then 1 else 0 := by
  induction ns with
  | nil => simp
  | cons a r ih =>
    have hn' := List.nodup_cons.1 hn
    have := ih hn'.2
    by_cases ha : a = h
    · subst ha
      simp [this, hn'.1]
    · simp [ha, this, Ne.symm ha]
theorem filter_or (p q : List UInt8 → Bool) (ns : List (List UInt8)) (h : ∀ x ∈ ns, ¬ (p x = true ∧ q x = true)) : (ns.filter fun x => p x || q x).length = (ns.filter p).length + (ns.filter q).length := by
  induction ns with
  | nil => simp
  | cons a r ih =>
    have := ih fun x hx => h x (by simp [hx])
    have ha := h a (by simp)
    cases hp : p a <;> cases hq : q a <;> simp_all [] <;> omega
/-- **The number of a hierarchy is the sum of those of its children, plus 1 for an element.** -/
theorem count_sum (ns : List (List UInt8)) (hn : ns.Nodup) (hc : ∀ x ∈ ns, check x = 0) (h : List UInt8) (hh : check h = 0) :
    countN ns h = (if h ∈ ns then 1 else 0) + ((insAll scmp (kids (preOf h) ns)).map fun c => countN ns (h ++ 46 :: c)).sum := by
  have hK := inc_nodup scmp_lin (insAll_inc scmp_lin (kids (preOf h) ns))
  have hs := sum_parts (kid (preOf h)) _ hK ns (fun x hx c e => by
    rw [mem_insAll scmp_lin]
    exact List.mem_filterMap.2 ⟨x, hx, e⟩)
  have e1 : countN ns h = (ns.filter fun x => decide (x = h) || (kid (preOf h) x).isSome).length := by
    unfold countN
    congr 1
    apply List.filter_congr
    intro x hx
    exact within_kid (hc x hx) hh
  have h0 : h ≠ [] := fun e => by rw [e, check_nil] at hh; cases hh
  rw [e1, filter_or _ _ ns (fun x _ ⟨a, b⟩ => by
    have : x = h := by simpa using a
    subst this
    unfold kid preOf Lib.hasPrefix at b
    rw [if_neg h0] at b
    split at b
    · rename_i e
      have := (List.isPrefixOf_iff_prefix.1 e).length_le
      rw [List.length_append] at this
      simp only [List.length_cons, List.length_nil] at this
      omega
    · simp at b), count_one ns hn h, ← hs]
  congr 2
  apply List.map_congr_left
  intro c hcm
  rw [mem_insAll scmp_lin] at hcm
  unfold countN
  congr 1
  apply List.filter_congr
  intro x hx
  exact kid_within (hc x hx) hh (kids_free _ _ c hcm)
end Go.Proofs.YtcagooijkecmoaaDoor
