/- Contract: the days of statistics, sorted. -/
import Derived.Test.YthgefcoaaommkaaDoorIter
import Derived.Test.YthgefcoaaommkaaDoorStU
import Derived.Shelf.SlIterI.Nil
import Derived.Shelf.SortM.Plain
import Derived.Shelf.SortM.SortNone
import Derived.Ground.GgzProg
import Derived.Ground.SlgmProg
namespace Go.Proofs.YthgefcoaaommkaaDoor
open Go.RowKit Go.Gn Go.Sr Go.Maps Go.Sort Go.Shelf

/-- The keys of the days' map, as the iterator's contract names them. -/
theorem kl_day {d : Int} (h : (Lit.int .i64 d).wf = true) : dayK.kl d = .int .i64 d := by
  have h1 := dayK.key d h
  have e : dayK.kv d = i64 d := by unfold dayK KV.of; rfl
  rw [e, keyOf_int_mk Tryd.underlying3 h] at h1
  exact (Option.some.inj h1).symm
theorem ent_intKeys {w : World} {b n : Nat} {D : DataW Value} {L : List (Int × C)} (hown : w.ownsMap Tryd.prog 3 heldR b n D) (h : Ent dayK D L) : (intKeys D).Perm (L.map (·.1)) := by
  refine (CollectedI.perm (left := fun _ => false) ⟨h.two, fun x => ?_⟩ hown dayK.K Tryd.underlying3 (fun _ => rfl)).symm
  constructor
  · intro hx
    obtain ⟨p, hp, rfl⟩ := List.mem_map.1 hx
    refine ⟨?_, rfl⟩
    rw [← kl_day (h.ok p hp)]
    exact has_true_of_atKey (h.at_ p hp)
  · rintro ⟨hx, _⟩
    obtain ⟨p, hp, e⟩ := h.has _ hx
    rw [kl_day (h.ok p hp)] at e
    injection e with _ e
    exact List.mem_map.2 ⟨p, hp, e.symm⟩
/-- slices.Sort's two contracts at this dump, at the fence that asks nothing. -/
theorem sortsD (m : Nat) : AnyZI.SortsIn Tryd.prog Tryd.sortedD_ren Fence.wide m :=
  ⟨fun blk off cap ss W hH hblk hsz => callsIn_wide.2 (AnyM.slices_Sort_int Tryd.sortD blk off cap ss W hH hblk hsz),
   fun p cap W => callsIn_wide.2 (AnyM.slices_Sort_int_none Tryd.sortD p cap W)⟩
set_option maxRecDepth 100000 in
set_option maxHeartbeats 1000000 in
theorem days_any (p bd bn : Nat) (ds : List (Int × C)) (ns : List (Ky × C)) (zs : List Int) (w : World) (h : StM w p bd bn ds ns zs) (hn : ds.length ≤ 100000) :
    Calls Tryd.prog 12 #[.pointer (some ⟨p, 0, none⟩)] w fun e w' => ∃ (v : Value) (ss : List Int), e = .returned v ∧ ss.Perm (ds.map (·.1)) ∧
      w'.ownsRow w.heap.size 3 1 v ss.length ((ss.mergeSort (fun x y => decide (x ≤ y))).map i64) ∧ Below w.heap.size w w' := by
  have hcell := h.c0
  have hpl := h.lp
  have hbl := h.ld
  obtain ⟨D, hown, hent⟩ := h.md
  have hperm := ent_intKeys hown hent
  have hown := own_tight hown
  have hsz : Maps.size D = ds.length := hent.size
  have hmax : Maps.size D ≤ maxLen := by rw [hsz]; unfold maxLen; omega
  have hbytes : Maps.size D * 8 ≤ 140737488355328 := by rw [hsz]; omega
  have hseq : SeqGives Fence.wide 2 Tryd.prog 38 #[.pointer (some ⟨w.heap.size, 0, none⟩)] encZ (fun ss => ss.Perm (intKeys D)) (Maps.size D) (w.alloc (.cells #[.map (some bd)] 54)) :=
    AnyZI.keys_gives (ρ := Tryd.keysD_ren) { Tryd.keysD with } Fence.wide _ trivial rfl (by omega) w.heap.size bd (Maps.size D) D _ (by simp) (by simp) (by
      obtain ⟨es, clock, hb, Ft, hs, hD⟩ := hown
      exact ⟨es, clock, (Below.heap_alloc _ _ bd hbl).trans hb, Ft, hs, hD⟩)
  have cK : ∀ mb W, CallsIn Fence.wide 5 Tryd.prog 25 #[.map mb] W fun e w' => e = .returned (.func (.func 38) #[] #[.pointer (some ⟨W.heap.size, 0, none⟩)]) ∧ w' = W.alloc (.cells #[.map mb] 54) := fun mb W => AnyZI.keys_in Tryd.keysD Fence.wide 5 trivial rfl mb W
  have cS := AnyZI.sorted_in Tryd.sortedD Fence.wide 5 trivial trivial trivial trivial rfl (by omega) (sortsD _) (enters_of Tryd.func37 (by kernel_rfl) rfl) 38 #[.pointer (some ⟨w.heap.size, 0, none⟩)] trivial (enters_of Tryd.func38 (by kernel_rfl) rfl) _ _ hmax hbytes _ hseq
  change CallsIn _ _ Tryd.prog 24 _ _ _ at cS
  have hfK : Fence.wide.fn 25 := trivial
  have hfS : Fence.wide.fn 24 := trivial
  refine (callsIn_wide (n := 6)).1 ?_
  refine callsIn_of_wp Tryd.func12 rfl trivial ?_ rfl
  simp only [Tryd.ntmps12, List.size_toArray, List.length_cons, List.length_nil, Nat.reduceAdd, Nat.reduceSub, Array.replicate_succ, Array.replicate_zero, List.push_toArray, List.append_toArray, List.nil_append, List.cons_append]
  clear hown hent h
  gi_wp2_with (first
    | (gi_at_call 25; refine (cK _ _).mono ?_; rintro e w' ⟨rfl, rfl⟩)
    | (gi_at_call 24; refine cS.mono ?_; rintro e w' ⟨v, ss, rfl, hS, hrow, hnil, hb⟩))
  go_ret
  exact ⟨v, ss, rfl, hS.trans hperm, ownsRow_base_a hrow (by simp), ((Below.refl _ w).alloc (Nat.le_refl _) _).trans (hb.mono (by simp))⟩
end Go.Proofs.YthgefcoaaommkaaDoor
