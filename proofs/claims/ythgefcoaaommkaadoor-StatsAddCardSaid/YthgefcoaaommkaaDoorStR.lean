/- The counts of names are those of the model. -/
import Derived.Test.YthgefcoaaommkaaDoorStQ
namespace Go.Proofs.YthgefcoaaommkaaDoor
open Go.RowKit Go.Gn Go.Sr Go.Maps

theorem sumE_none (l : List Ev) (p : Ev → Bool) (h : ∀ e ∈ l, p e = false) : sumE (l.filter p) = (0, 0) := by
  rw [List.filter_eq_nil_iff.2 fun e he => by rw [h e he]; simp]
  rfl
theorem hasE_kind {e : Ev} {k : Int} {n : List UInt8} (h : ¬ (1 ≤ k ∧ k ≤ 3)) : hasE e k n = false := by unfold hasE; rw [decide_eq_false h, Bool.false_and]
theorem hasE_nil {e : Ev} {k : Int} (h : GoodE e) (ha : e.author.length = 16) : hasE e k [] = false := by
  unfold hasE ofKind
  have hc : check [] ≠ 0 := by decide +kernel
  have hs : siteE [] ≠ 0 := by decide +kernel
  have hn : ([] : List UInt8) ∉ (if k = 3 then [hexT e.author] else if k = 2 then e.sites else e.groups) := by
    split
    · intro hm
      have hm2 := List.mem_singleton.1 hm
      have := hexT_length e.author
      rw [← hm2, ha] at this
      cases this
    · split
      · exact fun hm => hs (h.sites _ hm)
      · exact fun hm => hc (h.groups _ hm)
  rw [decide_eq_false hn, Bool.and_false]
/-- What Of answers. -/
def wantOf (kind : Int) (name : List UInt8) (a b : Int) (ms : List EvM) : C := if name = [] ∨ ¬ (1 ≤ kind ∧ kind ≤ 3) then (0, 0) else ofM kind name a b ms
theorem of_eq {ms : List EvM} (hg : ∀ e ∈ ms.map (·.e), GoodE e) (ha : ∀ e ∈ ms.map (·.e), e.author.length = 16) (kind : Int) (name : List UInt8) (a b : Int) : sumP (pickKy kind name a b) (namesL (ms.map (·.e))) = wantOf kind name a b ms := by
  have h1 := of_names (l := ms.map (·.e)) (fun e he => (hg e he).apart) kind name a b
  have h2 : sumP (pickKy kind name a b) (namesL (ms.map (·.e))) = _ := h1
  rw [h2]
  unfold wantOf
  by_cases hn : name = []
  · subst hn
    rw [if_pos (.inl rfl)]
    exact sumE_none _ _ fun e he => by rw [hasE_nil (hg e he) (ha e he)]; simp
  · by_cases hk : 1 ≤ kind ∧ kind ≤ 3
    · rw [if_neg (by intro h; rcases h with h | h; exact hn h; exact h hk)]
      unfold ofM
      congr 2
      funext e
      unfold pickE
      rw [decide_eq_false hn, Bool.false_or]
      cases hasE e kind name <;> simp
    · rw [if_pos (.inr hk)]
      exact sumE_none _ _ fun e he => by rw [hasE_kind hk]; simp
end Go.Proofs.YthgefcoaaommkaaDoor
