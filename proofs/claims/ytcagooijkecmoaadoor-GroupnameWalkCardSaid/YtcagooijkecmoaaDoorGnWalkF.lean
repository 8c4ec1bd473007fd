/- Contract of Walk: the function value over the hierarchies in order and the map of their numbers. -/
import Derived.Test.YtcagooijkecmoaaDoorGnWalkI
import Derived.Test.YtcagooijkecmoaaDoorGnAbove
import Derived.Test.YtcagooijkecmoaaDoorGnTally
import Derived.Test.YtcagooijkecmoaaDoorIter
import Derived.Maps.OwnOps
import Derived.Maps.OwnSet
import Derived.Deep.DeepCutAuto
namespace Go.Proofs.YtcagooijkecmoaaDoor
open Go.RowKit Go.Gn Go.Sort Go.Maps

/-- maps.Keys at a map that is there. -/
theorem keys_any (b : Nat) (W : World) : Calls Tryd.prog 51 #[.map (some b)] W fun e w' => e = .returned (.func (.func 68) #[] #[.pointer (some ⟨W.heap.size, 0, none⟩)]) ∧ w' = W.alloc (.cells #[.map (some b)] 41) :=
  callsIn_wide.1 (AnyZ.keys_in Tryd.keys51 Fence.wide 5 trivial rfl (some b) W)
/-- slices.Collect at what maps.Keys handed back. -/
theorem collect_any (b nn : Nat) (D0 : DataW Unit) (w : World) (hown : w.ownsMap Tryd.prog 9 (plainElem Tryd.prog 3) b nn D0) (hmax : Maps.size D0 ≤ 1000000) :
    Calls Tryd.prog 67 #[.func (.func 68) #[] #[.pointer (some ⟨w.heap.size, 0, none⟩)]] (w.alloc (.cells #[.map (some b)] 41)) fun e w' => ∃ (v : Value) (ss : List (List UInt8)), e = .returned v ∧ ss.Perm (strKeys D0) ∧
      w'.ownsRow (w.alloc (.cells #[.map (some b)] 41)).heap.size 9 1 v ss.length (ss.map encStr) ∧ (v = .slice none 0 0 ↔ ss = []) ∧ Below (w.alloc (.cells #[.map (some b)] 41)).heap.size (w.alloc (.cells #[.map (some b)] 41)) w' := by
  have hbl := hown.lt
  have hseq : SeqGives Fence.wide 3 Tryd.prog 68 #[.pointer (some ⟨w.heap.size, 0, none⟩)] encStr (fun ss => ss.Perm (strKeys D0)) (Maps.size D0) (w.alloc (.cells #[.map (some b)] 41)) :=
    AnyZ.keys_gives (ρ := Tryd.keys51_ren) { Tryd.keys51 with } Fence.wide _ trivial rfl (by omega) w.heap.size b nn D0 _ (by simp) (by simp) (by
      obtain ⟨es, clock, hb, Ft, hs, hD⟩ := hown
      exact ⟨es, clock, (Below.heap_alloc _ _ b hbl).trans hb, Ft, hs, hD⟩)
  exact callsIn_wide.1 (AnyZ.collect_in Tryd.collect67 Fence.wide 5 trivial trivial rfl (by omega) 68 _ trivial (enters_of Tryd.func68 (by kernel_rfl) rfl) _ _ (by unfold maxLen; omega) (by omega) _ hseq)
/-- The sorted keys are the texts that are put in one by one. -/
theorem sorted_insAll {ys L : List (List UInt8)} (hm : ∀ x, x ∈ ys ↔ x ∈ L) (hn : ys.Nodup) (hs : ys.Pairwise fun a b => gcmp a b ≤ 0) : ys = insAll gcmp L := by
  refine inc_uniq gcmp_lin _ _ ?_ (insAll_inc gcmp_lin L) (fun x => by rw [hm, mem_insAll gcmp_lin])
  have h2 : ys.Pairwise fun a b => a ≠ b := hn
  refine List.Pairwise.imp₂ ?_ hs h2
  intro a b h1 hne
  have : gcmp a b ≠ 0 := fun e => hne ((gcmp_lin.zero a b).1 e)
  omega

theorem len_sub {α : Type} [DecidableEq α] : ∀ (t l : List α), t.Nodup → (∀ x ∈ t, x ∈ l) → t.length ≤ l.length
  | [], _, _, _ => by simp
  | a :: t, l, hn, h => by
    have hn' := List.nodup_cons.1 hn
    have ha := h a (by simp)
    have := len_sub t (l.erase a) hn'.2 (fun x hx => by
      have hne : x ≠ a := fun e => hn'.1 (e ▸ hx)
      exact (List.mem_erase_of_ne hne).2 (h x (by simp [hx])))
    rw [List.length_erase_of_mem ha] at this
    have hpos : 0 < l.length := List.length_pos_iff.2 (fun e => by rw [e] at ha; simp at ha)
    simp; omega
theorem nodup_len {α : Type} [DecidableEq α] : ∀ (ys ss : List α), ss.Nodup → (∀ x ∈ ss, x ∈ ys) → ys.length ≤ ss.length → ys.Nodup
  | [], _, _, _, _ => List.nodup_nil
  | a :: r, ss, hn, h, hl => by
    have key : ¬ ∀ x ∈ ss, x ∈ r := fun hh => by
      have := len_sub ss r hn hh
      simp at hl; omega
    have ha : a ∈ ss := Classical.byContradiction fun hna => key fun x hx => by
      have := h x hx
      simp at this
      rcases this with e | e
      · exact absurd (e ▸ hx) hna
      · exact e
    refine List.nodup_cons.2 ⟨fun har => key fun x hx => ?_, nodup_len r (ss.erase a) (hn.erase a) (fun x hx => ?_) ?_⟩
    · have := h x hx
      simp at this
      rcases this with e | e
      · rw [e]; exact har
      · exact e
    · have hne : x ≠ a := fun e => by rw [e] at hx; exact absurd hx (List.Nodup.not_mem_erase hn)
      have := h x (List.mem_of_mem_erase hx)
      simp at this
      rcases this with e | e
      · exact absurd e hne
      · exact e
    · rw [List.length_erase_of_mem ha]
      simp at hl; omega

set_option maxRecDepth 100000 in
set_option maxHeartbeats 4000000 in
/-- slices.SortedFunc(maps.Keys(m), Compare). -/
theorem sortedFunc_any (b nn : Nat) (D0 : DataW Unit) (L : List (List UInt8)) (hT : Tally D0 L) (hle : ∀ x ∈ L, x.length ≤ 80) (w : World) (hE : Env w) (hown : w.ownsMap Tryd.prog 9 (plainElem Tryd.prog 3) b nn D0) (hmax : Maps.size D0 ≤ 1000000) :
    Calls Tryd.prog 50 #[.func (.func 68) #[] #[.pointer (some ⟨w.heap.size, 0, none⟩)], .func (.func 15) #[] #[]] (w.alloc (.cells #[.map (some b)] 41)) fun e w' =>
      ∃ A c, e = .returned (.slice A (insAll gcmp L).length c) ∧ (0 < (insAll gcmp L).length → ∃ bb o, A = some ⟨bb, o, none⟩ ∧ w.heap.size ≤ bb ∧ bb < w'.heap.size ∧ ∀ j x, (insAll gcmp L)[j]? = some x → w'.cell? ⟨bb, o + j, none⟩ = some (enS x)) ∧ Below w.heap.size w w' := by
  have hk : (strKeys D0).Nodup ∧ ∀ x, x ∈ strKeys D0 ↔ x ∈ L := tally_keys hT (by
    obtain ⟨es, hD, hpw, _⟩ := hown.entries (string_keyed Tryd.underlying9)
    obtain ⟨es', hD', hko⟩ := hown.keysOf
    obtain rfl : es = es' := by rw [hD] at hD'; simpa using hD'
    exact ⟨es, hD, hpw, fun p hp => by obtain ⟨v, hv⟩ := hko p hp; obtain ⟨x, _, hx, _⟩ := Maps.keyOf_str Tryd.underlying9 hv; exact ⟨x, hx⟩⟩)
  obtain ⟨R, hRq⟩ : ∃ r, insAll gcmp L = r := ⟨_, rfl⟩
  rw [hRq]
  have VR := Lib.hid hRq; clear hRq
  have hc := collect_any b nn D0 w hown hmax
  have hsl : (strKeys D0).length ≤ 1000000 := by
    obtain ⟨es, rfl, _, _⟩ := hown.entries (string_keyed Tryd.underlying9)
    simpa [strKeys, Maps.size] using hmax
  have hb0 : Below w.heap.size w (w.alloc (.cells #[.map (some b)] 41)) := below_new w _
  have hE1 : Env (w.alloc (.cells #[.map (some b)] 41)) := hE.below hb0
  have hgE : 0 < w.heap.size := by
    obtain ⟨m, hm⟩ := hE
    exact World.block_lt_of_cell? w _ hm
  have HK := Lib.hid hk
  have HLE := Lib.hid hle
  have HT := Lib.hid hT
  have HE1 := Lib.hid hE1
  clear hk hle hT hown hmax hE hE1
  have hsz1 : w.heap.size ≤ (w.alloc (.cells #[.map (some b)] 41)).heap.size := hb0.size
  generalize w.alloc (.cells #[.map (some b)] 41) = w1 at *
  go_enter Tryd.func50, Tryd.ntmps50
  go_wp2_with fail
  refine hc.mono ?_; rintro e w2 ⟨v, ss, rfl, hperm, hown2, _, b2⟩
  have hmem : Hid (∀ x, x ∈ ss ↔ x ∈ L) := fun x => by rw [hperm.mem_iff]; exact HK.out.2 x
  have hnd : Hid ss.Nodup := (hperm.nodup_iff).2 HK.out.1
  have hslen : ss.length ≤ 1000000 := by rw [hperm.length_eq]; exact hsl
  have hown' : w2.ownsRow w1.heap.size 9 1 v ss.length (ss.map enS) := hown2
  clear hown2 hperm hc hsl
  obtain ⟨A2, c2, rfl⟩ := own_slice hown'
  by_cases h0 : ss = []
  · have hL : L = [] := by
      cases L with
      | nil => rfl
      | cons a r =>
        have := (hmem.out a).2 (by simp)
        rw [h0] at this; simp at this
    subst hL
    subst h0
    clear hown'
    have hR0 : R = [] := VR.out.symm
    subst hR0
    simp only [List.length_nil]
    go_wp2_with fail
    refine (Tryd.slices_SortFunc_none (α := Short) A2 c2 (.func (.func 15) #[] #[]) _).mono ?_; rintro e w3 ⟨rfl, rfl⟩
    go_wp2_with fail
    go_ret
    exact ⟨A2, c2, rfl, fun h => absurd h (by simp), hb0.trans (b2.mono hsz1)⟩
  · have hpos : 0 < ss.length := List.length_pos_iff.2 h0
    obtain ⟨g, rfl⟩ : ∃ g, A2 = some ⟨g, 0, none⟩ := by
      rcases hown'.2 with ⟨e1, e2⟩ | ⟨g, cap, cur, e1, _⟩
      · omega
      · cases e1; exact ⟨g, rfl⟩
    obtain ⟨hH, hg1, hg2, _, hcap⟩ := holds_of_own hown'
    clear hown'
    have hsort := sortNames g c2 ss w2 (HE1.out.below b2) (by omega) hH hg1 (fun x hx => HLE.out x ((hmem.out x).1 hx)) (by omega)
    have HH := Lib.hid hH; clear hH h0
    go_wp2_with fail
    refine hsort.mono ?_; rintro e w3 ⟨rfl, n, os, ys, hw3, hyl, hym, hys⟩
    have hys2 : ys = R := VR.out ▸ sorted_insAll (fun x => by rw [hym, hmem.out]) (nodup_len ys ss hnd.out (fun x hx => (hym x).2 hx) (by omega)) hys
    have hH3 : Holds encStr w3 g 0 ys.toArray := by
      rw [hw3]
      exact holds_grow encStr _ _ _ _ _ (by simpa using hg1) (holds_putRow encStr (Sort.ahead w2 n) g 0 ss.toArray _ HH.out (by simp [hyl]))
    have hg3 : g < w3.heap.size := by rw [hw3]; simp; omega
    have b3 : Below w.heap.size w w3 := by
      refine (hb0.trans (b2.mono hsz1)).trans ?_
      rw [hw3]
      exact sort_below encStr w2 g 0 n _ os (by omega) (by have := b2.size; omega)
    have hR := Rd.of_holds hH3 hg3
    have HL : Hid (ys.length = ss.length) := hyl
    clear hsort hw3 hym hys hH3 hyl
    subst hys2
    have HR := Lib.hid hR; clear hR
    rw [← HL.out]
    go_wp2_with fail
    go_ret
    refine ⟨some ⟨g, 0, none⟩, c2, rfl, fun hp => ?_, b3⟩
    obtain ⟨bb, o, e, h1, h2⟩ := HR.out hp
    cases e
    exact ⟨g, 0, rfl, by omega, h1, h2⟩
end Go.Proofs.YtcagooijkecmoaaDoor
