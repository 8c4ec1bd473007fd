/- A map that counts texts: what it holds after the texts of a list. Of no program. -/
import Derived.Maps.Views
import Derived.Maps.Range
import Derived.Sort.KeysCollected
namespace Go.Gn
open Go.Maps

/-- The map holds how often each text stands in the list. -/
structure Tally {H : Type} (D : DataW H) (L : List (List UInt8)) : Prop where
  isMap : IsMap D
  at_ : ∀ h, D.atKey (.string h) (.lit (.int .i64 0)) = .lit (.int .i64 (L.count h : Nat))
  has_ : ∀ h, has D (.string h) = true ↔ h ∈ L
theorem tally_start {H : Type} : Tally (H := H) (.map []) [] :=
  ⟨⟨[], rfl⟩, fun _ => by simp [DataW.atKey], fun _ => by simp [has]⟩
theorem tally_step {H : Type} {D : DataW H} {L : List (List UInt8)} (h : Tally D L) (x : List UInt8) : Tally (D.put (.string x) (.lit (.int .i64 ((L.count x : Nat) + 1 : Int)))) (L ++ [x]) := by
  have hk : WideAt.IsKeyLit (.string x) := trivial
  refine ⟨?_, fun y => ?_, fun y => ?_⟩
  · obtain ⟨es, e⟩ := h.isMap
    rw [e]; exact ⟨_, rfl⟩
  · by_cases e : y = x
    · subst e
      rw [atKey_put_same h.isMap hk]
      simp
    · rw [atKey_put_other (by intro e2; cases e2; exact e rfl), h.at_ y]
      simp [Ne.symm e]
  · by_cases e : y = x
    · subst e
      rw [has_put_same h.isMap hk]
      simp
    · rw [has_put_other (by intro e2; cases e2; exact e rfl), h.has_ y]
      simp [e]
/-- The keys are the texts. -/
theorem tally_keys {H : Type} {D : DataW H} {L : List (List UInt8)} (h : Tally D L) (hs : ∃ es, D = .map es ∧ es.Pairwise (fun p q => p.1 ≠ q.1) ∧ ∀ p ∈ es, ∃ x, p.1 = .string x) : (strKeys D).Nodup ∧ ∀ x, x ∈ strKeys D ↔ x ∈ L := by
  obtain ⟨es, rfl, hp, hk⟩ := hs
  have hm : ∀ x, x ∈ strKeys (.map es) ↔ (.string x) ∈ es.map (·.1) := by
    intro x
    unfold strKeys
    simp only [List.mem_map]
    constructor
    · rintro ⟨p, hp1, hp2⟩
      obtain ⟨y, hy⟩ := hk p hp1
      rw [hy] at hp2
      refine ⟨p, hp1, ?_⟩
      rw [hy, ← hp2]; rfl
    · rintro ⟨p, hp1, hp2⟩
      exact ⟨p, hp1, by rw [hp2]; rfl⟩
  constructor
  · unfold strKeys
    rw [List.nodup_iff_pairwise_ne, List.pairwise_map]
    refine List.Pairwise.imp_of_mem ?_ hp
    intro p q h1 h2 hne e
    obtain ⟨x, hx⟩ := hk p h1
    obtain ⟨y, hy⟩ := hk q h2
    apply hne
    rw [hx, hy] at e ⊢
    congr 1
  · intro x
    rw [hm, ← h.has_ x]
    simp only [has, List.any_eq_true, List.mem_map]
    constructor
    · rintro ⟨p, hp1, hp2⟩
      exact ⟨p, hp1, by rw [hp2]; exact WideAt.sameKey_self trivial⟩
    · rintro ⟨p, hp1, hp2⟩
      exact ⟨p, hp1, WideAt.sameKey_eq hp2⟩
end Go.Gn
