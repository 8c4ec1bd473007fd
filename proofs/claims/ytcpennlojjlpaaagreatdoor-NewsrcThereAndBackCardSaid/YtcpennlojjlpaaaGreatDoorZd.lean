/- Contracts: isNumber, valid, limited, appendRange, slices.Clone and slices.SortFunc at ranges, FromRanges, Of.
   Contracts: slices.Clone and slices.SortFunc at ranges, FromRanges.
   Contracts: FromRanges, Of.
   Contracts: Of, Ranges, slices.BinarySearchFunc at ranges, find, Has.
   Contracts: Ranges, slices.BinarySearchFunc at ranges, find, Has.
   Contracts: Count, Next, slices.Equal at ranges, EqualSets. -/
import Derived.Test.YtcpennlojjlpaaaGreatDoorZc
import Derived.Test.YtcpennlojjlpaaaGreatDoorShelf
import Derived.Test.YtcpennlojjlpaaaGreatDoorSortR
import Derived.Laws.OwnMore
import Derived.Sort.OwnSorted
import Derived.Test.YtcpennlojjlpaaaGreatDoorZb
import Derived.Laws.StructEq
namespace Go.Proofs.YtcpennlojjlpaaaGreatDoor
open Go.RowKit Go.Nr

def num (n : Int) : Bool := decide (1 ≤ n) && decide (n ≤ M)
def okB (r : Rg) : Bool := num r.1 && num r.2 && decide (r.1 ≤ r.2)
theorem okB_iff (r : Rg) : okB r = true ↔ ok r := by
  simp [okB, num, ok]; omega
theorem M_eq : M = 1099511627776 := rfl

set_option maxHeartbeats 400000 in
theorem isNumber_any (n : Int) (w : World) : Calls Tryz.prog 81 #[i64 n] w fun e w' => e = .returned (.bool (num n)) ∧ w = w' := by
  by_cases h1 : 1 ≤ n
  · by_cases h2 : n ≤ 1099511627776
    · have V : Hid (num n = true) := by (show num n = true); unfold num; rw [M_eq]; simp [h1, h2]
      go_enter Tryz.func81, Tryz.ntmps81
      go_wp2
      go_ret
      exact ⟨ret_bool V.out.symm, rfl⟩
    · have V : Hid (num n = false) := by (show num n = false); unfold num; rw [M_eq]; simp [h2]
      go_enter Tryz.func81, Tryz.ntmps81
      go_wp2
      go_ret
      exact ⟨ret_bool V.out.symm, rfl⟩
  · have V : Hid (num n = false) := by (show num n = false); unfold num; simp [h1]
    go_enter Tryz.func81, Tryz.ntmps81
    go_wp2
    go_ret
    exact ⟨ret_bool V.out.symm, rfl⟩

set_option maxHeartbeats 1000000 in
theorem valid_any (a b : Int) (w : World) : Calls Tryz.prog 67 #[.agg #[i64 a, i64 b]] w fun e w' => e = .returned (.bool (okB (a, b))) ∧ Below w.heap.size w w' := by
  have h1 := Lib.hid (fun W => isNumber_any a W)
  have h2 := Lib.hid (fun W => isNumber_any b W)
  have V : Hid (okB (a, b) = (num a && num b && decide (a ≤ b))) := rfl
  cases ha : num a with
  | false =>
    rw [ha] at h1 V
    clear ha
    go_enter Tryz.func67, Tryz.ntmps67
    go_wp2_with fail
    refine (h1.out _).mono ?_; rintro e w1 ⟨rfl, rfl⟩
    go_wp2_with fail
    go_ret
    exact ⟨ret_bool (by rw [V.out]; rfl), (Below.refl _ _).alloc (Nat.le_refl _) _⟩
  | true =>
    rw [ha] at h1 V
    clear ha
    cases hb : num b with
    | false =>
      rw [hb] at h2 V
      clear hb
      go_enter Tryz.func67, Tryz.ntmps67
      go_wp2_with fail
      refine (h1.out _).mono ?_; rintro e w1 ⟨rfl, rfl⟩
      go_wp2_with fail
      refine (h2.out _).mono ?_; rintro e w1 ⟨rfl, rfl⟩
      go_wp2_with fail
      go_ret
      exact ⟨ret_bool (by rw [V.out]; rfl), (Below.refl _ _).alloc (Nat.le_refl _) _⟩
    | true =>
      rw [hb] at h2 V
      clear hb
      go_enter Tryz.func67, Tryz.ntmps67
      go_wp2_with fail
      refine (h1.out _).mono ?_; rintro e w1 ⟨rfl, rfl⟩
      go_wp2_with fail
      refine (h2.out _).mono ?_; rintro e w1 ⟨rfl, rfl⟩
      go_wp2_with fail
      go_ret
      exact ⟨ret_bool (by rw [V.out]; simp), (Below.refl _ _).alloc (Nat.le_refl _) _⟩

set_option maxHeartbeats 400000 in
theorem limited_any (A : Option Addr) (n c : Nat) (w : World) (hn : n ≤ 4096) : Calls Tryz.prog 73 #[.slice A n c] w fun e w' => e = .returned (.tuple #[.agg #[.slice A n c], i64 0]) ∧ Below w.heap.size w w' := by
  go_enter Tryz.func73, Tryz.ntmps73
  go_wp2
  exact bodyPost_ret (v := .tuple #[.agg #[.slice A n c], i64 0]) (by simp [results, Tryz.results73, go_sem]) rfl ⟨rfl, below_new _ _⟩

/-- What hands back a row of the call's own. -/
def GivesRow (E : TypeId) (base : Nat) (w : World) (l : List Rg) (e : Ending) (w' : World) : Prop :=
  ∃ A c, e = .returned (.slice A l.length c) ∧ w'.ownsRow base E 2 (.slice A l.length c) l.length (flat l) ∧ Below base w w'

set_option maxRecDepth 100000 in
set_option maxHeartbeats 2000000 in
theorem appR_any (base : Nat) (A : Option Addr) (c : Nat) (l : List Rg) (r : Rg) (w : World) (hown : w.ownsRow base 42 2 (.slice A l.length c) l.length (flat l)) (hb : base ≤ w.heap.size) (hl : l.length ≤ 1000000) (hq : ∀ q ∈ l, 0 ≤ q.2 ∧ q.2 ≤ M) :
    Calls Tryz.prog 72 #[.slice A l.length c, .agg #[i64 r.1, i64 r.2]] w (GivesRow 42 base w (app l r)) := by
  obtain ⟨i0, hi, hz0, hz1, hz2⟩ := info_parts rng_info
  rcases List.eq_nil_or_concat l with rfl | ⟨p, q, rfl⟩
  · have V : Hid (app [] r = [r]) := app_nil r
    obtain ⟨a, b⟩ := r
    go_enter Tryz.func72, Tryz.ntmps72
    go_wp2_with fail
    go_quiet (fail)
    go_wp2_with (at_builtin; refine wpList_append_own _ rfl _ _ 24 rfl base 42 i0 (.agg #[i64 0, i64 0]) 2 16 Tryz.underlying24 hi hz0 hz1 hz2 rfl (by decide) (.slice A 0 c) 0 [] rfl ?own ⟨w.heap.size + 1, 0, none⟩ 1 1 [i64 a, i64 b] rfl rfl ?c1 ?c2 ?c3 ?c4 ?c5 ?_)
    case own => exact own_below (own_below (own_below hown (below_new _ _)) ((Below.refl _ _).drewN _)) (below_new _ _)
    case c1 =>
      intro j u hj
      rw [addr_addN, new_cell _ _ _ _ _ (by simp)]
      simpa using hj
    case c2 => intro u hu; simp at hu; rcases hu with rfl | rfl <;> rfl
    case c3 => unfold maxLen; omega
    case c4 => omega
    case c5 => simp; omega
    intro v' w2 hown2 hg2 _
    obtain ⟨A2, c2, rfl⟩ := own2_slice hown2
    go_wp2
    go_ret
    rw [V.out]
    refine ⟨A2, c2, rfl, hown2, ?_⟩
    have b2 := own_grown_below (own_below (own_below (own_below hown (below_new w (.cells #[i64 a, i64 b] 42))) ((Below.refl _ _).drewN nq)) (below_new _ (.cells #[i64 a, i64 b] 42))) (by simp; omega) hg2
    exact ((((Below.refl base w).alloc hb _).drewN nq).alloc (by simp; omega) _).trans b2
  · rw [List.concat_eq_append] at *
    have hlen : (p ++ [q]).length = p.length + 1 := by simp
    have V : Hid (app (p ++ [q]) r = if r.1 ≤ q.2 + 1 then p ++ [(q.1, max q.2 r.2)] else p ++ [q] ++ [r]) := app_snoc p q r
    have hq' := hq q (by simp)
    rw [M_eq] at hq'
    have hqc := (RdR.of_own hown).1
    obtain ⟨g, rfl, hgb, hglt⟩ : ∃ g, A = some ⟨g, 0, none⟩ ∧ base ≤ g ∧ g < w.heap.size := by
      rcases hown.2 with ⟨e1, e2⟩ | ⟨g, cap, cur, e1, h1, h2, _⟩
      · rw [hlen] at e2; omega
      · cases e1; exact ⟨g, rfl, h1, blk_lt h2⟩
    obtain ⟨b', o', e', _, hcells⟩ := hqc (by rw [hlen]; omega)
    cases e'
    have hc2 := (hcells p.length q (by simp)).2
    have hfz : w.frozen? ⟨g, 0 + p.length * 2 + 1, none⟩ = false := by
      rcases hown.2 with ⟨e1, e2⟩ | ⟨g', cap, cur, e1, h1, h2, _⟩
      · cases e1
      · cases e1; exact blk_free h2 _
    rw [Nat.zero_add] at hc2 hfz
    clear hcells hqc hq
    rw [hlen] at hown hl ⊢
    have HOWN := Lib.hid hown; clear hown
    clear hlen
    obtain ⟨a, b⟩ := r
    obtain ⟨q1, q2⟩ := q
    simp only at hq' hc2 V
    have hpb : (0 : Int) ≤ (p.length : Int) := by omega
    by_cases hj : a ≤ q2 + 1
    · rw [if_pos hj] at V
      go_enter Tryz.func72, Tryz.ntmps72
      go_wp2_with fail
      go_quiet (fail)
      go_wp2_with fail
      refine wp_region_calm 12 (by kernel_rfl) (by kernel_rfl) ?_
      simp only [List.take_succ_cons, List.take_zero, List.drop_succ_cons, List.drop_zero]
      have hbx : ((w.alloc (.cells #[i64 a, i64 b] 42)).drewN nq).drew.cell? ⟨w.heap.size, 1, none⟩ = some (i64 b) := new_cell w _ _ _ _ rfl
      have hcc : ((w.alloc (.cells #[i64 a, i64 b] 42)).drewN nq).drew.cell? ⟨g, p.length * 2 + 1, none⟩ = some (i64 q2) := Below.cellv (below_new _ _) hc2
      have hff : ((w.alloc (.cells #[i64 a, i64 b] 42)).drewN nq).drew.frozen? ⟨g, p.length * 2 + 1, none⟩ = false := by
        rw [← hfz]; exact (below_new w _).frozen (p := ⟨g, p.length * 2 + 1, none⟩) hglt
      have hown2 : ((w.alloc (.cells #[i64 a, i64 b] 42)).drewN nq).drew.ownsRow base _ 2 _ _ _ := own_below (own_below HOWN.out (below_new w (.cells #[i64 a, i64 b] 42))) ((Below.refl _ _).drewN nq).drew
      have hb2 : Below base w ((w.alloc (.cells #[i64 a, i64 b] 42)).drewN nq).drew := (((Below.refl base w).alloc hb _).drewN nq).drew
      generalize ((w.alloc (.cells #[i64 a, i64 b] 42)).drewN nq).drew = wq at *
      have k1 := One.cell hbx
      have k2 := One.cell hcc
      have HO2 := Lib.hid hown2
      clear hc2 hfz hbx hown2
      haveI nonE := one_nonempty wq
      repeat go_big_quiet_step (fail)
      refine wpQuiet_nil ?_
      clear k1 k2 nonE
      go_wp2_with fail
      go_ret
      rw [V.out]
      have e1 : (p ++ [(q1, max q2 b)]).length = p.length + 1 := by simp
      refine ⟨some ⟨g, 0, none⟩, c, by rw [e1]; rfl, ?_, hb2.setCell hgb _⟩
      have h := (HO2.out.stored (p.length * 2 + 1) (i64 (max q2 b))).1
      rw [flat_set_last] at h
      rw [e1]; exact h
    · rw [if_neg hj] at V
      go_enter Tryz.func72, Tryz.ntmps72
      go_wp2_with fail
      go_quiet (fail)
      go_wp2_with (at_builtin; refine wpList_append_own _ rfl _ _ 24 rfl base 42 i0 (.agg #[i64 0, i64 0]) 2 16 Tryz.underlying24 hi hz0 hz1 hz2 rfl (by decide) (.slice (some ⟨g, 0, none⟩) (p.length + 1) c) (p.length + 1) (flat (p ++ [(q1, q2)])) rfl ?own ⟨w.heap.size + 1, 0, none⟩ 1 1 [i64 a, i64 b] rfl rfl ?c1 ?c2 ?c3 ?c4 ?c5 ?_)
      case own => exact own_below (own_below (own_below HOWN.out (below_new _ _)) ((Below.refl _ _).drewN _)) (below_new _ _)
      case c1 =>
        intro j u hj
        rw [addr_addN, new_cell _ _ _ _ _ (by simp)]
        simpa using hj
      case c2 => intro u hu; simp at hu; rcases hu with rfl | rfl <;> rfl
      case c3 => unfold maxLen; omega
      case c4 => omega
      case c5 => simp; omega
      intro v' w2 hown2 hg2 _
      obtain ⟨A2, c2, rfl⟩ := own2_slice hown2
      go_wp2
      go_ret
      rw [V.out]
      have e1 : (p ++ [(q1, q2)] ++ [(a, b)]).length = p.length + 1 + 1 := by simp
      refine ⟨A2, c2, by rw [e1]; rfl, ?_, ?_⟩
      · rw [e1, flat_append]; exact hown2
      · have b2 := own_grown_below (own_below (own_below (own_below HOWN.out (below_new w (.cells #[i64 a, i64 b] 42))) ((Below.refl _ _).drewN nq)) (below_new _ (.cells #[i64 a, i64 b] 42))) (by simp; omega) hg2
        exact ((((Below.refl base w).alloc hb _).drewN nq).alloc (by simp; omega) _).trans b2
end Go.Proofs.YtcpennlojjlpaaaGreatDoor

namespace Go.Proofs.YtcpennlojjlpaaaGreatDoor
open Go.RowKit Go.Nr Go.Shelf Go.Sort

/-- A slice value with room, nil only without room. -/
def SlR (A : Option Addr) (c n : Nat) : Prop := n ≤ c ∧ c ≤ maxLen ∧ (A = none → c = 0)
theorem SlR.nil : SlR none 0 0 := ⟨Nat.le_refl _, by simp [maxLen], fun _ => rfl⟩
theorem SlR.of_own {w : World} {base n c size : Nat} {e : TypeId} {A : Option Addr} {xs : List Value} (h : w.ownsRow base e size (.slice A n c) n xs) : SlR A c n := by
  refine ⟨?_, own2_cap h, fun hA => ?_⟩
  · rcases h.2 with ⟨e1, e2⟩ | ⟨g, cap, cur, e1, _, _, hnc, _⟩
    · omega
    · cases e1; exact hnc
  · subst hA
    rcases h.2 with ⟨e1, e2⟩ | ⟨g, cap, cur, e1, _⟩
    · cases e1; rfl
    · cases e1

set_option maxRecDepth 100000 in
set_option maxHeartbeats 1000000 in
theorem cloneR_any (A : Option Addr) (c : Nat) (l : List Rg) (w : World) (hr : RdR w A l) (hs : SlR A c l.length) (hn : l.length ≤ 1000000) :
    Calls Tryz.prog 68 #[.slice A l.length c] w (GivesRow 42 w.heap.size w l) := by
  obtain ⟨i0, hi, hz0, hz1, hz2⟩ := info_parts rng_info
  rcases A with _ | ad
  · obtain ⟨h1, _, h2⟩ := hs
    have hc := h2 rfl
    subst hc
    have hl : l = [] := List.eq_nil_of_length_eq_zero (by omega)
    subst hl
    clear h1 h2
    simp only [List.length_nil]
    have he := fun (w : World) => Lib.run_eql_slice_nil (P := Tryz.prog) w 24 42 none 0 0 0 0 Tryz.underlying24
    go_enter Tryz.func68, Tryz.ntmps68
    go_wp2
    go_ret
    exact ⟨none, 0, rfl, own2_nil _ _ _ _, Below.refl _ _⟩
  · have he := fun (w : World) => Lib.run_eql_slice_nil (P := Tryz.prog) w 24 42 (some ad) l.length c 0 0 Tryz.underlying24
    have HR := Lib.hid hr
    clear hr hs
    go_enter Tryz.func68, Tryz.ntmps68
    go_wp2_with (at_builtin; refine wpList_appC Tryz.underlying24 hi hz0 hz1 hz2 rfl (by decide) _ rfl _ _ rfl w.heap.size _ 0 [] (own2_empty w w.heap.size 2 42 (Nat.le_refl _)) rfl (some ad) l.length c (flat l) (flat_length l) (HR.out.below (below_new _ _)).cells rfl (flat_one' l) (by omega) (by decide) (by simp) ?_)
    intro v' w' hown _ hb
    obtain ⟨A2, c2, rfl⟩ := own2_slice hown
    have HOWN := Lib.hid hown
    clear hown
    go_wp2
    go_ret
    exact ⟨A2, c2, rfl, HOWN.out, (below_new _ _).trans hb⟩

/-- Two ranges' cells as the library's sort has them. -/
def encR (x : Int × Int) : List Value := [i64 x.1, i64 x.2]
theorem closure70 (x y : Int × Int) (W : World) : Calls Tryz.prog 70 #[.agg #[i64 x.1, i64 x.2], .agg #[i64 y.1, i64 y.2]] W fun e w' => e = .returned (.int .i64 (Lib.compareInt x.1 y.1)) ∧ ∃ q os', w' = grow (W.drewN q) os' := by
  have hcon := fun W' => Tryz.cmp_Compare_int x.1 y.1 W'
  generalize Lib.compareInt x.1 y.1 = r at hcon ⊢
  go_enter Tryz.func70, Tryz.ntmps70
  go_wp2_with fail
  refine (hcon _).mono ?_; rintro e w' ⟨rfl, rfl⟩
  go_wp2_with fail
  go_ret
  exact ⟨rfl, 0, _, by rw [alloc_eq_grow, alloc_eq_grow, grow_grow]; rfl⟩
theorem ltLo (x y : Int × Int) : ltOf (fun x y : Int × Int => Lib.compareInt x.1 y.1) x y = decide (x.1 < y.1) := by
  unfold ltOf Lib.compareInt
  by_cases h1 : x.1 < y.1
  · simp [h1]
  · by_cases h2 : y.1 < x.1 <;> simp [h1, h2]
theorem swoLo : SWO (ltOf fun x y : Int × Int => Lib.compareInt x.1 y.1) where
  irrefl x := by rw [ltLo]; simp
  trans x y z h1 h2 := by rw [ltLo] at *; simp at *; omega
  ntrans x y z h1 h2 := by rw [ltLo] at *; simp at *; omega
theorem flatK_eq (l : List Rg) : flatK encR 2 l.toArray = (flat l).toArray := by
  refine ext_get! (by simp [flat_length]) fun t ht => ?_
  have ht' : t < l.length * 2 := by simpa using ht
  rw [get_flatK _ _ _ t (by simpa using ht')]
  have hj : t / 2 < l.length := by omega
  have hr : l[t / 2]? = some l[t / 2] := List.getElem?_eq_getElem hj
  obtain ⟨f1, f2⟩ := flat_at l (t / 2) _ hr
  have hm : t % 2 = 0 ∨ t % 2 = 1 := by omega
  have e0 : l.toArray[t / 2]! = l[t / 2] := by simp [hj]
  rw [e0]
  have hfl : t < (flat l).length := by rw [flat_length]; exact ht'
  have eg : (flat l).toArray[t]! = (flat l)[t] := by simp [hfl]
  rw [eg]
  rcases hm with hm | hm
  · have : t / 2 * 2 = t := by omega
    rw [this, List.getElem?_eq_getElem hfl] at f1
    rw [hm]
    exact (Option.some.inj f1).symm
  · have : t / 2 * 2 + 1 = t := by omega
    rw [this, List.getElem?_eq_getElem hfl] at f2
    rw [hm]
    exact (Option.some.inj f2).symm
theorem RdR.of_holds {w : World} {blk off : Nat} {l : List Rg} (h : Holds id w blk off (flat l).toArray) (hb : blk < w.heap.size) : RdR w (some ⟨blk, off, none⟩) l := fun _ => by
  refine ⟨blk, off, rfl, hb, fun j r hj => ?_⟩
  obtain ⟨f1, f2⟩ := flat_at l j r hj
  obtain ⟨l1, e1⟩ := List.getElem?_eq_some_iff.1 f1
  obtain ⟨l2, e2⟩ := List.getElem?_eq_some_iff.1 f2
  have a1 := (h (j * 2) (by simpa using l1)).1
  have a2 := (h (j * 2 + 1) (by simpa using l2)).1
  rw [show (flat l).toArray[j * 2]! = i64 r.1 by simp [l1, e1]] at a1
  rw [show (flat l).toArray[j * 2 + 1]! = i64 r.2 by simp [l2, e2]] at a2
  exact ⟨a1, by rw [Nat.add_assoc]; exact a2⟩
theorem holdsR_of_own {w : World} {base c n g : Nat} {e : TypeId} {l : List Rg} (h : w.ownsRow base e 2 (.slice (some ⟨g, 0, none⟩) n c) n (flat l)) : Holds id w g 0 (flat l).toArray ∧ g < w.heap.size ∧ base ≤ g := by
  obtain ⟨h1, h2⟩ := h
  rcases h2 with ⟨e1, e2⟩ | ⟨g', cap, cur, e1, hb, hg, hcap, hml, hsz, ht⟩
  · cases e1
  · cases e1
    refine ⟨fun j hj => ?_, blk_lt hg, hb⟩
    simp at hj
    refine ⟨?_, blk_free hg _⟩
    rw [Nat.zero_add, blk_cell hg j]
    obtain ⟨u, hu⟩ : ∃ u, (flat l)[j]? = some u := ⟨_, List.getElem?_eq_getElem hj⟩
    have hv : (flat l).toArray[j]! = u := by
      obtain ⟨_, e⟩ := List.getElem?_eq_some_iff.1 hu
      simp [hj, e]
    rw [hv]
    rw [← ht, List.getElem?_take] at hu
    split at hu
    · simpa using hu
    · cases hu
theorem sortK_below {α : Type} [Inhabited α] {B : Nat} (enc : α → List Value) (k : Nat) (w : World) (blk off n : Nat) (d : Array α) (os : Array Obj) (hB : B ≤ blk) (hw : B ≤ w.heap.size) : RowKit.Below B w (sortWorldK enc k w blk off n d os) := by
  refine ⟨rfl, rfl, rfl, by simp [sortWorldK, putRowK], fun t ht => ?_⟩
  unfold sortWorldK putRowK
  rw [heap_grow_old _ _ (by simp; exact Nat.lt_of_lt_of_le ht hw)]
  have : blk ≠ t := by omega
  simp [putRow, mapBlock, Sort.ahead, Array.getElem?_modify, this]
/-- slices.SortFunc at ranges, by their first numbers. -/
theorem sortR_any (g c : Nat) (l : List Rg) (w : World) (hH : Holds id w g 0 (flat l).toArray) (hg : g < w.heap.size) (hn : l.length ≤ 1000000) :
    Calls Tryz.prog 69 #[.slice (some ⟨g, 0, none⟩) l.length c, .func (.func 70) #[] #[]] w fun e w' => e = .returned (.tuple #[]) ∧
      ∃ m : List Rg, m.length = l.length ∧ (∀ r, r ∈ m ↔ r ∈ l) ∧ (m.Pairwise fun a b => a.1 ≤ b.1) ∧ Holds id w' g 0 (flat m).toArray ∧ RowKit.Below g w w' := by
  have hHK : HoldsK encR 2 w g 0 l.toArray := by unfold HoldsK; rw [flatK_eq]; exact hH
  have hcmp : CmpLays Tryz.prog 70 #[] encR 2 (fun x y : Int × Int => Lib.compareInt x.1 y.1) g 0 l.toArray.size w := fun _ _ _ _ x y => closure70 x y _
  have h := AnyQ.slices_SortFunc Tryz.sortRange 2 Tryz.isAgg42 Tryz.sizeOf42 encR (fun _ => rfl) (fun x v hv => by simp [encR] at hv; rcases hv with rfl | rfl <;> rfl) (fun x y : Int × Int => Lib.compareInt x.1 y.1) swoLo 70 #[] g 0 c l.toArray w (enters_of Tryz.func70 (by kernel_rfl) rfl) hcmp hHK hg (by simp; omega)
  change Calls Tryz.prog 69 _ _ _ at h
  rw [show l.toArray.size = l.length by simp] at h
  refine h.mono fun e w' ⟨h1, d, n, os, hp, hs, hw⟩ => ⟨h1, d.toList, ?_, ?_, ?_, ?_, ?_⟩
  · have := hp.1; simpa using this
  · intro r
    have h3 := hp.2.2
    have hds : d.size = l.length := by have := hp.1; simpa using this
    have e1 : (d.extract 0 l.length).toList = d.toList := by rw [← hds]; simp
    have e2 : (l.toArray.extract 0 l.length).toList = l := by simp
    rw [e1, e2] at h3
    exact h3.mem_iff
  · have hds : d.size = l.length := by have := hp.1; simpa using this
    rw [List.pairwise_iff_getElem]
    intro i j hi hj hij
    have hi' : i < d.size := by simpa using hi
    have hj' : j < d.size := by simpa using hj
    have := hs i j (Nat.zero_le _) hij (by omega)
    rw [ltLo] at this
    simp [hi', hj'] at this
    simpa using this
  · rw [hw]
    have hds : d.size = l.length := by have := hp.1; simpa using this
    have e := flatK_eq d.toList
    rw [show d.toList.toArray = d from rfl] at e
    rw [← e]
    unfold sortWorldK putRowK
    refine holds_grow id _ _ _ _ _ (by simpa using hg) (holds_putRow id (Sort.ahead w n) g 0 (flat l).toArray _ hH ?_)
    rw [size_flatK, hds]; simp [flat_length]
  · rw [hw]; exact sortK_below encR 2 w g 0 n d os (Nat.le_refl _) (Nat.le_of_lt hg)
/-- .. at whatever row of the call's own, nil too. -/
theorem sortR_all (base : Nat) (A : Option Addr) (c : Nat) (l : List Rg) (w : World) (hown : w.ownsRow base 42 2 (.slice A l.length c) l.length (flat l)) (_hb : base ≤ w.heap.size) (hn : l.length ≤ 1000000) :
    Calls Tryz.prog 69 #[.slice A l.length c, .func (.func 70) #[] #[]] w fun e w' => e = .returned (.tuple #[]) ∧
      ∃ m : List Rg, m.length = l.length ∧ (∀ r, r ∈ m ↔ r ∈ l) ∧ (m.Pairwise fun a b => a.1 ≤ b.1) ∧ RdR w' A m ∧ RowKit.Below base w w' := by
  by_cases h0 : l = []
  · subst h0
    refine (AnyF.slices_SortFunc_none Tryz.sortRange A c (.func (.func 70) #[] #[]) w).mono fun e w' ⟨h1, h2⟩ => ⟨h1, [], rfl, fun _ => Iff.rfl, by simp, RdR.nil, by rw [h2]; exact RowKit.Below.refl _ _⟩
  · have hpos : 0 < l.length := List.length_pos_iff.2 h0
    obtain ⟨g, rfl⟩ : ∃ g, A = some ⟨g, 0, none⟩ := by
      rcases hown.2 with ⟨e1, e2⟩ | ⟨g, cap, cur, e1, _⟩
      · omega
      · cases e1; exact ⟨g, rfl⟩
    obtain ⟨hH, hg1, hg2⟩ := holdsR_of_own hown
    refine (sortR_any g c l w hH hg1 hn).mono fun e w' ⟨h1, m, a1, a2, a3, a4, a5⟩ => ⟨h1, m, a1, a2, a3, RdR.of_holds a4 (Nat.lt_of_lt_of_le hg1 a5.size), a5.mono hg2⟩
end Go.Proofs.YtcpennlojjlpaaaGreatDoor

namespace Go.Proofs.YtcpennlojjlpaaaGreatDoor
open Go.RowKit Go.Nr

/-- What FromRanges returns. -/
def fromE (l : List Rg) : Nat := if l.all okB then 0 else 2
def fromS (l : List Rg) : List Rg := if l.all okB then norm l else []
theorem fromS_ok (l : List Rg) : Okset (fromS l) := by
  unfold fromS
  split
  · rename_i h
    exact norm_okset fun r hr => (okB_iff r).1 (List.all_eq_true.1 h r hr)
  · exact Okset.nil
theorem fromS_length (l : List Rg) : (fromS l).length ≤ l.length := by
  unfold fromS
  split
  · exact norm_length l
  · simp
/-- Block b is of cells of type T. -/
def Ty (w : World) (b : Nat) (T : TypeId) : Prop := ∃ cs fr, w.heap[b]? = some (.cells cs T fr)
theorem Ty.keep {w w' : World} {b : Nat} {T : TypeId} (h : Ty w b T) (e : w'.heap[b]? = w.heap[b]?) : Ty w' b T := by
  obtain ⟨cs, fr, h⟩ := h
  exact ⟨cs, fr, e.trans h⟩
theorem Ty.lt {w : World} {b : Nat} {T : TypeId} (h : Ty w b T) : b < w.heap.size := by
  obtain ⟨cs, fr, h⟩ := h
  exact blk_lt h
theorem Ty.below {w w' : World} {b : Nat} {T : TypeId} (h : Ty w b T) (hb : Below w.heap.size w w') : Ty w' b T := h.keep (hb.block b h.lt)
theorem Ty.uniq {w : World} {b : Nat} {T U : TypeId} (h : Ty w b T) (k : Ty w b U) : T = U := by
  obtain ⟨cs, fr, h⟩ := h
  obtain ⟨cs', fr', k⟩ := k
  rw [h] at k; cases k; rfl
/-- A set and an error. -/
def GivesSet (w : World) (S : List Rg) (er : Int) (e : Ending) (w' : World) : Prop :=
  ∃ A c, e = .returned (.tuple #[.agg #[.slice A S.length c], i64 er]) ∧ RdR w' A S ∧ SlR A c S.length ∧ (∀ a, A = some a → w.heap.size ≤ a.block ∧ Ty w' a.block 42) ∧ Below w.heap.size w w'
theorem own_new {w : World} {base n c size B : Nat} {e : TypeId} {A : Option Addr} {xs : List Value} (h : w.ownsRow base e size (.slice A n c) n xs) (hB : B ≤ base) : ∀ a, A = some a → B ≤ a.block ∧ Ty w a.block e := fun a ha => by
  subst ha
  rcases h.2 with ⟨e1, _⟩ | ⟨g, cap, cur, e1, hb, hg, _⟩
  · cases e1
  · cases e1; exact ⟨Nat.le_trans hB hb, _, _, hg⟩
theorem all_take_succ {l : List Rg} {k : Nat} {x : Rg} (h : l[k]? = some x) (p : Rg → Bool) : (l.take (k + 1)).all p = ((l.take k).all p && p x) := by
  obtain ⟨hl, hx⟩ := List.getElem?_eq_some_iff.1 h
  rw [List.take_succ_eq_append_getElem hl, hx]
  simp
theorem all_false_at {l : List Rg} {k : Nat} {x : Rg} (h : l[k]? = some x) {p : Rg → Bool} (hp : p x = false) : l.all p = false := by
  rw [List.all_eq_false]
  exact ⟨x, List.mem_of_getElem? h, by simp [hp]⟩
theorem merge_take {m : List Rg} {k : Nat} {x : Rg} (h : m[k]? = some x) : merge (m.take (k + 1)) = app (merge (m.take k)) x := by
  obtain ⟨hl, hx⟩ := List.getElem?_eq_some_iff.1 h
  rw [List.take_succ_eq_append_getElem hl, hx, merge_snoc]
theorem app_mem_snd {l : List Rg} {r q : Rg} (h : q ∈ app l r) : (∃ a ∈ l, q.2 = a.2) ∨ q.2 = r.2 := by
  rcases List.eq_nil_or_concat l with rfl | ⟨p, t, rfl⟩
  · rw [app_nil] at h; simp at h; exact .inr (by rw [h])
  · rw [List.concat_eq_append, app_snoc] at h
    rw [List.concat_eq_append]
    split at h
    · rcases List.mem_append.1 h with h | h
      · exact .inl ⟨q, by simp [h], rfl⟩
      · simp at h
        rw [h]
        show (∃ a ∈ p ++ [t], max t.2 r.2 = a.2) ∨ max t.2 r.2 = r.2
        rcases Int.le_total t.2 r.2 with h1 | h1
        · right; omega
        · left; exact ⟨t, by simp, by omega⟩
    · rcases List.mem_append.1 h with h | h
      · exact .inl ⟨q, h, rfl⟩
      · simp at h; exact .inr (by rw [h])
theorem merge_snd {P : Int → Prop} : ∀ (m : List Rg) (k : Nat), (∀ r ∈ m, P r.2) → ∀ q ∈ merge (m.take k), P q.2 := by
  intro m k
  induction k with
  | zero => intro _ q hq; simp [merge] at hq
  | succ k ih =>
    intro h q hq
    cases hm : m[k]? with
    | none =>
      have : m.length ≤ k := List.getElem?_eq_none_iff.1 hm
      rw [List.take_of_length_le (by omega)] at hq
      have := ih h q (by rwa [List.take_of_length_le (by omega)])
      exact this
    | some x =>
      rw [merge_take hm] at hq
      rcases app_mem_snd hq with ⟨a, ha, e⟩ | e
      · rw [e]; exact ih h a ha
      · rw [e]; exact h x (List.mem_of_getElem? hm)
theorem merge_take_length (m : List Rg) (k : Nat) : (merge (m.take k)).length ≤ k := by
  have := merge_length (m.take k)
  rw [List.length_take] at this; omega

set_option maxRecDepth 100000 in
set_option maxHeartbeats 4000000 in
theorem fromR_any (A : Option Addr) (c : Nat) (l : List Rg) (w : World) (hr : RdR w A l) (hs : SlR A c l.length) (hn : l.length ≤ 4096) :
    Calls Tryz.prog 16 #[.slice A l.length c] w (GivesSet w (fromS l) (fromE l)) := by
  have HR := Lib.hid hr; clear hr
  obtain ⟨SE, hSE⟩ : ∃ n, fromE l = n := ⟨_, rfl⟩
  obtain ⟨SS, hSS⟩ : ∃ n, fromS l = n := ⟨_, rfl⟩
  rw [hSE, hSS]
  have VE := Lib.hid hSE
  have VS := Lib.hid hSS
  clear hSE hSS
  have hcl := hs.1
  have HS := Lib.hid hs; clear hs
  go_enter Tryz.func16, Tryz.ntmps16
  go_wp2_with fail
  go_loopg [12] l.length (fun gg iv wr => ∃ k : Nat, k ≤ l.length ∧ l.length - k ≤ gg ∧ iv = .int .i64 k ∧ Hid ((l.take k).all okB = true ∧ wr.heap[w.heap.size]? = some (.cells #[.slice none 0 0] 26 (0, 0))) ∧ Below w.heap.size w wr)
  case atStart => exact ⟨0, by omega, by omega, rfl, ⟨rfl, blk_new w _⟩, below_new _ _⟩
  case round =>
    obtain ⟨k, hk, hg, rfl, O, hB⟩ := hrel
    by_cases hlt : k < l.length
    · obtain ⟨b, o, x, rfl, _, hxk, hc1, hc2⟩ := (HR.out.below hB).at_ hlt
      have hts := all_take_succ hxk okB
      rw [O.out.1] at hts
      have HTS := Lib.hid hts
      have HX := Lib.hid hxk
      clear hts hxk
      obtain ⟨x1, x2⟩ := x
      simp only at hc1 hc2
      have hv := valid_any x1 x2 (wr.alloc (.cells #[i64 x1, i64 x2] 42))
      cases hok : okB (x1, x2) with
      | true =>
        rw [hok] at hv HTS
        clear hok
        go_wp2_with fail
        refine hv.mono ?_; rintro e w1 ⟨rfl, b1⟩
        clear hv
        go_wp2_with fail
        go_roundg (l.length - (k + 1))
        case measure => omega
        case rel => exact ⟨k + 1, by omega, by omega, by go_num, ⟨by rw [HTS.out]; rfl, blk_below b1 (blk_old _ O.out.2)⟩, hB.tr ((below_new _ _).tr b1)⟩
      | false =>
        rw [hok] at hv
        have e1 : Hid (SE = 2) := by (show SE = 2); rw [← VE.out]; unfold fromE; rw [if_neg (by rw [all_false_at HX.out hok]; exact Bool.false_ne_true)]
        have e2 : Hid (SS = []) := by (show SS = []); rw [← VS.out]; unfold fromS; rw [if_neg (by rw [all_false_at HX.out hok]; exact Bool.false_ne_true)]
        clear hok
        go_wp2_with fail
        refine hv.mono ?_; rintro e w1 ⟨rfl, b1⟩
        clear hv
        have hb1 := blk_below b1 (blk_old (.cells #[i64 x1, i64 x2] 42) O.out.2)
        have hrc := blk_cell hb1 0
        have hrf := blk_free hb1 0
        have HB1 := Lib.hid hb1
        clear hb1
        go_wp2_with fail
        refine bodyPost_ret (v := .tuple #[.agg #[.slice none 0 0], i64 2]) (by simp [results, Tryz.results16, go_sem, hrc]) rfl ?_
        rw [e2.out, e1.out]
        exact ⟨none, 0, rfl, RdR.nil, SlR.nil, (fun a h => by cases h), (hB.tr ((below_new _ _).tr b1)).setCell (Nat.le_refl _) _⟩
    · obtain rfl : k = l.length := by omega
      have hall := O.out.1
      rw [List.take_length] at hall
      have e1 : Hid (SE = 0) := by (show SE = 0); rw [← VE.out]; unfold fromE; rw [if_pos hall]
      have e2 : Hid (SS = norm l) := by (show SS = norm l); rw [← VS.out]; unfold fromS; rw [if_pos hall]
      have HALL : Hid (∀ r ∈ l, ok r) := fun r hr => (okB_iff r).1 (List.all_eq_true.1 hall r hr)
      clear hall
      have hcl2 := cloneR_any A c l wr (HR.out.below hB) HS.out (by omega)
      go_wp2_with fail
      refine hcl2.mono ?_; rintro e w2 ⟨A2, c2, rfl, hown2, b2⟩
      clear hcl2
      have hB2 : Below w.heap.size w w2 := hB.tr b2
      have hR2 := Lib.hid (blk_below b2 O.out.2)
      have hsw : w.heap.size < wr.heap.size := blk_lt O.out.2
      have hsz2 := b2.size
      have hsort := sortR_all wr.heap.size A2 c2 l w2 hown2 hsz2 (by omega)
      clear b2 hown2
      go_wp2_with fail
      refine hsort.mono ?_; rintro e w3 ⟨rfl, m, hml, hmm, hms, hm3, b3⟩
      have hB3 : Below w.heap.size w w3 := hB2.trans (b3.mono (Nat.le_of_lt hsw))
      have hR3 : Hid (w3.heap[w.heap.size]? = some (.cells #[.slice none 0 0] 26 (0, 0))) := (b3.block _ hsw).trans hR2.out
      have hMN : Hid (merge m = norm l) := merge_norm (fun r hr => (HALL.out r hr).2.1) hms hmm
      have hMP : Hid (∀ j, ∀ q ∈ merge (m.take j), 0 ≤ q.2 ∧ q.2 ≤ M) := fun j => merge_snd (P := fun z => 0 ≤ z ∧ z ≤ M) m j fun r hr => by
        have := HALL.out r ((hmm r).1 hr)
        obtain ⟨z1, z2, z3⟩ := this
        exact ⟨by omega, z3⟩
      have hM3 := Lib.hid hm3
      have hs3 := b3.size
      have HML := Lib.hid hml
      clear hsort hR2 hB2 hml hmm hms hm3 b3
      rw [← HML.out]
      rw [← HML.out] at hn
      go_wp2_with fail
      go_loopg [7, 27] m.length (fun gg ov iv wq => ∃ (j : Nat) (A3 : Option Addr) (c3 : Nat), j ≤ m.length ∧ m.length - j ≤ gg ∧ iv = .int .i64 j ∧ ov = .slice A3 (merge (m.take j)).length c3 ∧ Hid (wq.ownsRow w3.heap.size 42 2 (.slice A3 (merge (m.take j)).length c3) (merge (m.take j)).length (flat (merge (m.take j)))) ∧ Below w3.heap.size w3 wq)
      case atStart => exact ⟨0, none, 0, by omega, by omega, rfl, rfl, own2_nil _ _ _ _, Below.refl _ _⟩
      case round =>
        obtain ⟨j, A3, c3, hj, hgj, rfl, rfl, Oq, hBq⟩ := hrel
        by_cases hlt2 : j < m.length
        · obtain ⟨b, o, x, hA, _, hxk, hc1, hc2⟩ := (hM3.out.below hBq).at_ hlt2
          subst hA
          have hmt := merge_take hxk
          have hml := merge_take_length m j
          obtain ⟨x1, x2⟩ := x
          simp only at hc1 hc2
          have ha := appR_any w3.heap.size A3 c3 (merge (m.take j)) (x1, x2) (wr.alloc (.cells #[i64 x1, i64 x2] 42)) (own_below Oq.out (below_new _ _)) (by have := hBq.size; simp; omega) (by omega) (hMP.out j)
          simp only at ha
          rw [← hmt] at ha
          have hsq := hBq.size
          clear hmt hxk
          obtain ⟨mj1, hmj1⟩ : ∃ q, merge (m.take (j + 1)) = q := ⟨_, rfl⟩
          rw [hmj1] at ha
          have HMJ := Lib.hid hmj1
          clear hmj1
          go_wp2_with fail
          refine ha.mono ?_; rintro e w4 ⟨A4, c4, rfl, hown4, b4⟩
          have HO4 := Lib.hid hown4
          clear ha hown4
          go_wp2_with fail
          go_roundg (m.length - (j + 1))
          case measure => omega
          case rel =>
            refine ⟨j + 1, A4, c4, by omega, by omega, by go_num, ?_⟩
            rw [HMJ.out]
            exact ⟨rfl, HO4.out, (hBq.tr (below_new _ _)).trans b4⟩
        · obtain rfl : j = m.length := by omega
          rw [List.take_length, hMN.out] at Oq
          rw [List.take_length, hMN.out]
          have hnl := norm_length l
          have hlm := limited_any A3 (norm l).length c3 wr (by have := HML.out; omega)
          have hR4 := (hBq.block _ (blk_lt hR3.out)).trans hR3.out
          have HR4 := Lib.hid hR4
          clear hR4
          go_wp2_with fail
          refine hlm.mono ?_; rintro e w5 ⟨rfl, b5⟩
          clear hlm
          have hb5 := blk_below b5 HR4.out
          have hrc := blk_cell hb5 0
          have hrf := blk_free hb5 0
          clear hb5
          go_wp2_with fail
          refine bodyPost_ret (v := .tuple #[.agg #[.slice A3 (norm l).length c3], i64 0]) (by simp [results, Tryz.results16, go_sem, hrc]) rfl ?_
          rw [e2.out, e1.out]
          have ho5 := own_below Oq.out b5
          have hs3w : w.heap.size < w3.heap.size := blk_lt hR3.out
          have hBw : Below w.heap.size w wr := hB3.trans (hBq.mono hB3.size)
          have ho6 := own_keep (w' := w5.setCell ⟨w.heap.size, 0, none⟩ (.slice A3 (norm l).length c3)) ho5 (fun k _ e => blk_set_ne 0 _ (by have := (ho5.lt k e).1; omega))
          exact ⟨A3, c3, rfl, (RdR.of_own ho6).1, SlR.of_own ho6, own_new ho6 (Nat.le_of_lt hs3w), (hBw.tr b5).setCell (Nat.le_refl _) _⟩
end Go.Proofs.YtcpennlojjlpaaaGreatDoor

namespace Go.Proofs.YtcpennlojjlpaaaGreatDoor
open Go.RowKit Go.Nr

/-- A slice of numbers. -/
def RdI (w : World) (A : Option Addr) (xs : List Int) : Prop := 0 < xs.length → ∃ b o, A = some ⟨b, o, none⟩ ∧ b < w.heap.size ∧ ∀ (j : Nat) (x : Int), xs[j]? = some x → w.cell? ⟨b, o + j, none⟩ = some (i64 x)
theorem RdI.nil {w : World} {A : Option Addr} : RdI w A [] := fun h => absurd h (by simp)
theorem RdI.below {w w' : World} {A : Option Addr} {xs : List Int} (h : RdI w A xs) (hb : Below w.heap.size w w') : RdI w' A xs := fun hl => by
  obtain ⟨b, o, e, hlt, hc⟩ := h hl
  exact ⟨b, o, e, Nat.lt_of_lt_of_le hlt hb.size, fun j x hj => Below.cellv hb (hc j x hj)⟩
theorem RdI.at_ {w : World} {A : Option Addr} {xs : List Int} {k : Nat} (h : RdI w A xs) (hk : k < xs.length) : ∃ b o x, A = some ⟨b, o, none⟩ ∧ b < w.heap.size ∧ xs[k]? = some x ∧ w.cell? ⟨b, o + k, none⟩ = some (i64 x) := by
  obtain ⟨b, o, e, hlt, hc⟩ := h (by omega)
  exact ⟨b, o, xs[k], e, hlt, List.getElem?_eq_getElem hk, hc k _ (List.getElem?_eq_getElem hk)⟩
theorem RdI.of_own {w : World} {base n c : Nat} {e : TypeId} {A : Option Addr} {xs : List Int} (h : w.ownsRow base e 1 (.slice A n c) n (xs.map i64)) : RdI w A xs ∧ n = xs.length ∧ n ≤ c := by
  obtain ⟨h1, h2⟩ := h
  have hn : n = xs.length := by simpa using h1.symm
  rcases h2 with ⟨e1, e2⟩ | ⟨g, cap, cur, e1, hb, hg, hcap, hml, hsz, ht⟩
  · injection e1 with a1 a2 a3
    subst a1
    exact ⟨fun hl => absurd hl (by omega), hn, by omega⟩
  · injection e1 with a1 a2 a3
    subst a1 a3
    refine ⟨fun hl => ⟨g, 0, rfl, blk_lt hg, fun j x hj => ?_⟩, hn, hcap⟩
    rw [Nat.zero_add, blk_cell hg j]
    have hj' : (xs.map i64)[j]? = some (i64 x) := by rw [List.getElem?_map, hj]; rfl
    rw [← ht, List.getElem?_take] at hj'
    split at hj'
    · simpa using hj'
    · cases hj'
theorem RdI.new (w : World) (xs : List Int) (t : TypeId) : RdI (w.alloc (.cells (xs.map i64).toArray t)) (some ⟨w.heap.size, 0, none⟩) xs := fun _ => by
  refine ⟨w.heap.size, 0, rfl, by simp, fun j x hj => ?_⟩
  rw [Nat.zero_add, blk_cell (blk_new w _) j]
  simp [hj]
theorem pts_snoc (xs : List Int) (k : Nat) (x : Int) (h : xs[k]? = some x) : pts (xs.take (k + 1)) = pts (xs.take k) ++ [(x, x)] := by
  obtain ⟨hl, hx⟩ := List.getElem?_eq_some_iff.1 h
  rw [List.take_succ_eq_append_getElem hl, hx]
  simp [pts]
theorem pts_length (xs : List Int) : (pts xs).length = xs.length := by simp [pts]

set_option maxRecDepth 100000 in
set_option maxHeartbeats 2000000 in
theorem of_any (A : Option Addr) (c : Nat) (xs : List Int) (w : World) (hr : RdI w A xs) (_hc : xs.length ≤ c) (hn : xs.length ≤ 4096) :
    Calls Tryz.prog 41 #[.slice A xs.length c] w (GivesSet w (fromS (pts xs)) (fromE (pts xs))) := by
  obtain ⟨i0, hi, hz0, hz1, hz2⟩ := info_parts rng_info
  have HR := Lib.hid hr; clear hr
  obtain ⟨SE, hSE⟩ : ∃ n, fromE (pts xs) = n := ⟨_, rfl⟩
  obtain ⟨SS, hSS⟩ : ∃ n, fromS (pts xs) = n := ⟨_, rfl⟩
  rw [hSE, hSS]
  have VE := Lib.hid hSE
  have VS := Lib.hid hSS
  clear hSE hSS
  go_enter Tryz.func41, Tryz.ntmps41
  go_wp2_with (at_make; refine wpList_make_own _ rfl _ _ 24 rfl (w.heap.size + 1) 42 i0 (.agg #[i64 0, i64 0]) 2 Tryz.underlying24 hi hz0 hz1 .i64 .i64 _ xs.length rfl rfl rfl (by rw [hz2]; omega) (by unfold maxLen; omega) (by simp) ?_)
  intro w1 hown1 hg1
  have hb1 : Below w.heap.size w w1 := (below_new w (.cells #[.slice none 0 0] 26)).trans ((Below.refl _ _).grown hg1 (by simp) (fun k e => by cases e))
  have hres : w1.heap[w.heap.size]? = some (.cells #[.slice none 0 0] 26 (0, 0)) := (hg1.block w.heap.size (by simp) (by simp)).trans (blk_new w _)
  have hs1 : w.heap.size + 1 ≤ w1.heap.size := by have := hg1.size; simpa using this
  have HO1 := Lib.hid hown1
  have HRES := Lib.hid hres
  clear hown1 hg1 hres
  go_wp2_with fail
  go_loopg [4, 12] xs.length (fun gg ov iv wr => ∃ (k : Nat) (A1 : Option Addr) (c1 : Nat), k ≤ xs.length ∧ xs.length - k ≤ gg ∧ iv = .int .i64 k ∧ ov = .slice A1 k c1 ∧ Hid (wr.ownsRow (w.heap.size + 1) 42 2 (.slice A1 k c1) k (flat (pts (xs.take k)))) ∧ Below (w.heap.size + 1) w1 wr)
  case atStart => exact ⟨0, _, _, by omega, by omega, rfl, rfl, HO1.out, Below.refl _ _⟩
  case round =>
    obtain ⟨k, A1, c1, hk, hg, rfl, rfl, O, hB⟩ := hrel
    by_cases hlt : k < xs.length
    · obtain ⟨b, o, x, rfl, _, hxk, hcx⟩ := (HR.out.below (hb1.trans (hB.mono (by omega)))).at_ hlt
      have hsn := pts_snoc xs k x hxk
      have HSN := Lib.hid hsn
      clear hsn hxk
      have hsB := hB.size
      go_wp2_with (at_builtin; refine wpList_append_own _ rfl _ _ 24 rfl (w.heap.size + 1) 42 i0 (.agg #[i64 0, i64 0]) 2 16 Tryz.underlying24 hi hz0 hz1 hz2 rfl (by decide) (.slice A1 k c1) k (flat (pts (xs.take k))) rfl (own_below O.out (below_new _ _)) ⟨wr.heap.size, 0, none⟩ 1 1 [i64 x, i64 x] rfl rfl ?c1 ?c2 ?c3 ?c4 ?c5 ?_)
      case c1 =>
        intro j u hj
        rw [addr_addN, new_cell _ _ _ _ _ rfl]
        simpa using hj
      case c2 => intro u hu; simp at hu; rw [hu]; rfl
      case c3 => unfold maxLen; omega
      case c4 => omega
      case c5 => simp; omega
      intro v' w2 hown2 hg2 _
      obtain ⟨A2, c2, rfl⟩ := own2_slice hown2
      have b2 := own_grown_below (own_below O.out (below_new wr (.cells #[i64 x, i64 x] 42))) (by simp; omega) hg2
      have HO2 := Lib.hid hown2
      clear hown2 hg2
      go_wp2_with fail
      go_roundg (xs.length - (k + 1))
      case measure => omega
      case rel =>
        refine ⟨k + 1, A2, c2, by omega, by omega, by go_num, rfl, ?_, (hB.trans ((Below.refl _ wr).alloc (by omega) _)).trans b2⟩
        rw [HSN.out, flat_append]
        exact HO2
    · obtain rfl : k = xs.length := by omega
      rw [List.take_length] at O
      have hf := fromR_any A1 c1 (pts xs) wr (RdR.of_own O.out).1 (by rw [pts_length]; exact SlR.of_own O.out) (by rw [pts_length]; omega)
      rw [VE.out, VS.out, pts_length] at hf
      have hR4 := Lib.hid ((hB.block _ (by omega)).trans HRES.out)
      have hBw : Below w.heap.size w wr := hb1.trans (hB.mono (by omega))
      go_wp2_with fail
      refine hf.mono ?_; rintro e w5 ⟨A5, c5, rfl, hr5, hs5, hn5, b5⟩
      clear hf
      have hb5 := blk_below b5 hR4.out
      have hrc := blk_cell hb5 0
      have hrf := blk_free hb5 0
      clear hb5
      have HR5 := Lib.hid hr5
      have HS5 := Lib.hid hs5
      clear hr5 hs5
      go_wp2_with fail
      refine bodyPost_ret (v := .tuple #[.agg #[.slice A5 SS.length c5], i64 SE]) (by simp [results, Tryz.results41, go_sem, hrc]) rfl ?_
      have hsB := hB.size
      exact ⟨A5, c5, rfl, HR5.out.setCell (fun a ha => by have := (hn5 a ha).1; omega) _, HS5.out, (fun a ha => ⟨by have := (hn5 a ha).1; omega, (hn5 a ha).2.keep (blk_set_ne 0 _ (by have := (hn5 a ha).1; omega))⟩), (hBw.tr b5).setCell (Nat.le_refl _) _⟩
end Go.Proofs.YtcpennlojjlpaaaGreatDoor

namespace Go.Proofs.YtcpennlojjlpaaaGreatDoor
open Go.RowKit Go.Nr

set_option maxHeartbeats 1000000 in
theorem ranges_any (A : Option Addr) (c : Nat) (l : List Rg) (w : World) (hr : RdR w A l) (hs : SlR A c l.length) (hn : l.length ≤ 1000000) :
    Calls Tryz.prog 79 #[.agg #[.slice A l.length c]] w (GivesRow 42 w.heap.size w l) := by
  have h1 := cloneR_any A c l (w.alloc (.cells #[.slice A l.length c] 26)) (hr.below (below_new _ _)) hs hn
  clear hr hs
  go_enter Tryz.func79, Tryz.ntmps79
  go_wp2_with fail
  refine h1.mono ?_; rintro e w1 ⟨A2, c2, rfl, hown, b1⟩
  have HO := Lib.hid hown
  clear hown
  go_wp2_with fail
  go_ret
  refine ⟨A2, c2, rfl, ?_, (below_new w _).tr b1⟩
  obtain ⟨a1, a2⟩ := HO.out
  refine ⟨a1, ?_⟩
  rcases a2 with h | ⟨g, cap, cur, e1, hb, hg, hr⟩
  · exact .inl h
  · exact .inr ⟨g, cap, cur, e1, by have : w.heap.size + 1 ≤ g := by simpa using hb
                                    omega, hg, hr⟩

set_option maxHeartbeats 1000000 in
theorem find1_any (a b n : Int) (w : World) : Calls Tryz.prog 115 #[.agg #[i64 a, i64 b], i64 n] w fun e w' => e = .returned (i64 (Lib.compareInt b n)) ∧ Below w.heap.size w w' := by
  have hcon := fun W' => Tryz.cmp_Compare_int b n W'
  generalize Lib.compareInt b n = r at hcon ⊢
  go_enter Tryz.func115, Tryz.ntmps115
  go_wp2_with fail
  refine (hcon _).mono ?_; rintro e w' ⟨rfl, rfl⟩
  go_wp2_with fail
  go_ret
  exact ⟨rfl, below_new _ _⟩
theorem cmpI_neg {b n : Int} (h : b < n) : Lib.compareInt b n = -1 := by unfold Lib.compareInt; simp [h]
theorem cmpI_pos {b n : Int} (h : n ≤ b) : 0 ≤ Lib.compareInt b n := by
  unfold Lib.compareInt
  rw [if_neg (by omega)]
  split <;> simp

set_option maxRecDepth 100000 in
set_option maxHeartbeats 4000000 in
theorem search_any (A : Option Addr) (c : Nat) (l : List Rg) (n : Int) (w : World) (hr : RdR w A l) (hl : Nrm l) (hn : l.length ≤ 1000000) :
    Calls Tryz.prog 114 #[.slice A l.length c, i64 n, .func (.func 115) #[] #[]] w fun e w' => (∃ bb, e = .returned (.tuple #[i64 (find l n), .bool bb])) ∧ Below w.heap.size w w' := by
  have HR := Lib.hid hr; clear hr
  have HL := Lib.hid hl; clear hl
  go_enter Tryz.func114, Tryz.ntmps114
  go_wp2_with fail
  go_loopg [9, 10] l.length (fun gg iv jv wr => ∃ i j : Nat, i ≤ j ∧ j ≤ l.length ∧ j - i ≤ gg ∧ iv = .int .i64 i ∧ jv = .int .i64 j ∧ Below w.heap.size w wr ∧ Hid ((∀ (t : Nat) (r : Rg), t < i → l[t]? = some r → r.2 < n) ∧ ∀ (t : Nat) (r : Rg), j ≤ t → l[t]? = some r → n ≤ r.2))
  case atStart => exact ⟨0, l.length, by omega, by omega, by omega, rfl, rfl, Below.refl _ _, fun t r ht => by omega, fun t r ht h => by
    have := (List.getElem?_eq_some_iff.1 h).1
    omega⟩
  case round =>
    obtain ⟨i, j, hij, hj, hg, rfl, rfl, hB, T⟩ := hrel
    by_cases hlt : i < j
    · obtain ⟨b, o, x, rfl, _, hxk, hc1, hc2⟩ := (HR.out.below hB).at_ (k := (i + j) / 2) (by omega)
      obtain ⟨x1, x2⟩ := x
      simp only at hc1 hc2
      have hcm := find1_any x1 x2 n wr
      have HX := Lib.hid hxk
      clear hxk
      by_cases hx2 : x2 < n
      · rw [cmpI_neg hx2] at hcm
        go_wp2_with fail
        refine hcm.mono ?_; rintro e w1 ⟨rfl, b1⟩
        clear hcm
        go_wp2_with fail
        go_roundg (j - ((i + j) / 2 + 1))
        case measure => omega
        case rel => exact ⟨(i + j) / 2 + 1, j, by omega, by omega, by omega, by congr 1, rfl, hB.tr b1, fun t r ht hr => by
            rcases Nat.lt_or_ge t ((i + j) / 2) with h | h
            · have h1 := nrm_mono HL.out (Nat.le_of_lt h) hr HX.out
              have := h1.1
              simp only at this; omega
            · obtain rfl : t = (i + j) / 2 := by omega
              have := hr.symm.trans HX.out
              cases this; exact hx2, T.out.2⟩
      · have hge : n ≤ x2 := by omega
        have hp := cmpI_pos hge
        generalize Lib.compareInt x2 n = r at *
        go_wp2_with fail
        refine hcm.mono ?_; rintro e w1 ⟨rfl, b1⟩
        clear hcm
        go_wp2_with fail
        go_roundg ((i + j) / 2 - i)
        case measure => omega
        case rel => exact ⟨i, (i + j) / 2, by omega, by omega, by omega, rfl, by congr 1, hB.tr b1, T.out.1, fun t r ht hr => by
            have h1 := nrm_mono HL.out ht HX.out hr
            have := h1.1
            simp only at this; omega⟩
    · obtain rfl : i = j := by omega
      have hf : Hid (find l n = i) := find_eq l n i hj T.out.1 (fun r hr => T.out.2 i r (Nat.le_refl _) hr)
      by_cases hil : i < l.length
      · obtain ⟨b, o, x, rfl, _, hxk, hc1, hc2⟩ := (HR.out.below hB).at_ hil
        obtain ⟨x1, x2⟩ := x
        simp only at hc1 hc2
        have hcm := find1_any x1 x2 n wr
        generalize Lib.compareInt x2 n = r at *
        clear hxk
        go_wp2_with fail
        refine hcm.mono ?_; rintro e w1 ⟨rfl, b1⟩
        clear hcm
        go_wp2_with fail
        go_ret2
        rw [hf.out]
        exact ⟨⟨_, rfl⟩, hB.tr b1⟩
      · go_wp2_with fail
        go_ret2
        rw [hf.out]
        exact ⟨⟨_, rfl⟩, hB⟩

set_option maxHeartbeats 1000000 in
theorem find_any (A : Option Addr) (c : Nat) (l : List Rg) (n : Int) (w : World) (hr : RdR w A l) (hl : Nrm l) (hn : l.length ≤ 1000000) :
    Calls Tryz.prog 83 #[.agg #[.slice A l.length c], i64 n] w fun e w' => e = .returned (i64 (find l n)) ∧ Below w.heap.size w w' := by
  have h1 := search_any A c l n (w.alloc (.cells #[.slice A l.length c] 26)) (hr.below (below_new _ _)) hl hn
  clear hr hl
  generalize find l n = f at *
  go_enter Tryz.func83, Tryz.ntmps83
  go_wp2_with fail
  refine h1.mono ?_; rintro e w1 ⟨⟨bb, rfl⟩, b1⟩
  go_wp2_with fail
  go_ret
  exact ⟨rfl, (below_new w _).tr b1⟩

set_option maxRecDepth 100000 in
set_option maxHeartbeats 1000000 in
theorem has_any (A : Option Addr) (c : Nat) (l : List Rg) (n : Int) (w : World) (hr : RdR w A l) (hl : Nrm l) (hn : l.length ≤ 1000000) :
    Calls Tryz.prog 35 #[.agg #[.slice A l.length c], i64 n] w fun e w' => e = .returned (.bool (has l n)) ∧ Below w.heap.size w w' := by
  have hb0 := below_new w (.cells #[.slice A l.length c] 26)
  have hc0 := blk_new w (.cells #[.slice A l.length c] 26)
  have h1 := find_any A c l n (w.alloc (.cells #[.slice A l.length c] 26)) (hr.below hb0) hl hn
  have V : Hid (has l n = match l[find l n]? with | some r => decide (r.1 ≤ n) | none => false) := has_find hl n
  have hfl := find_le l n
  have HR := Lib.hid (hr.below hb0)
  have HC := Lib.hid hc0
  clear hr hl hc0
  obtain ⟨f, hf⟩ : ∃ q, find l n = q := ⟨_, rfl⟩
  rw [hf] at h1 V hfl
  clear hf
  by_cases hlt : f < l.length
  · go_enter Tryz.func35, Tryz.ntmps35
    go_wp2_with fail
    refine h1.mono ?_; rintro e w1 ⟨rfl, b1⟩
    clear h1
    obtain ⟨b, o, x, rfl, _, hxk, hc1, hc2⟩ := (HR.out.below b1).at_ hlt
    obtain ⟨x1, x2⟩ := x
    simp only at hc1 hc2
    rw [hxk] at V
    have hcs := blk_cell (blk_below b1 HC.out) 0
    clear hxk hc2
    by_cases hx1 : x1 ≤ n
    · go_wp2_with fail
      go_ret
      exact ⟨ret_bool (by simp [V.out, hx1]), hb0.tr b1⟩
    · go_wp2_with fail
      go_ret
      exact ⟨ret_bool (by simp [V.out]), hb0.tr b1⟩
  · have hge : l[f]? = none := List.getElem?_eq_none_iff.2 (by omega)
    rw [hge] at V
    clear hge
    go_enter Tryz.func35, Tryz.ntmps35
    go_wp2_with fail
    refine h1.mono ?_; rintro e w1 ⟨rfl, b1⟩
    clear h1
    have hcs := blk_cell (blk_below b1 HC.out) 0
    go_wp2_with fail
    go_ret
    exact ⟨ret_bool V.out.symm, hb0.tr b1⟩
end Go.Proofs.YtcpennlojjlpaaaGreatDoor

namespace Go.Proofs.YtcpennlojjlpaaaGreatDoor
open Go.RowKit Go.Nr

theorem count_take {l : List Rg} {k : Nat} {r : Rg} (h : l[k]? = some r) : count (l.take (k + 1)) = count (l.take k) + (r.2 - r.1 + 1) := by
  obtain ⟨hl, hx⟩ := List.getElem?_eq_some_iff.1 h
  rw [List.take_succ_eq_append_getElem hl, hx, count_snoc]
theorem count_rng : ∀ (l : List Rg), (∀ r ∈ l, ok r) → 0 ≤ count l ∧ count l ≤ 1099511627776 * l.length
  | [], _ => by simp [count]
  | r :: l, h => by
    obtain ⟨h1, h2, h3⟩ := h r (by simp)
    have := count_rng l fun q hq => h q (by simp [hq])
    rw [M_eq] at h3
    rw [count_cons]; simp only [List.length_cons]; omega

set_option maxRecDepth 100000 in
set_option maxHeartbeats 1000000 in
theorem count_any (A : Option Addr) (c : Nat) (l : List Rg) (w : World) (hr : RdR w A l) (ho : ∀ r ∈ l, ok r) (hn : l.length ≤ 1000000) :
    Calls Tryz.prog 37 #[.agg #[.slice A l.length c]] w fun e w' => e = .returned (i64 (count l)) ∧ Below w.heap.size w w' := by
  have HR := Lib.hid hr; clear hr
  have HO := Lib.hid ho; clear ho
  go_enter Tryz.func37, Tryz.ntmps37
  go_wp2_with fail
  go_loopg [3, 9] l.length (fun gg sv iv wr => ∃ k : Nat, k ≤ l.length ∧ l.length - k ≤ gg ∧ iv = .int .i64 k ∧ sv = .int .i64 (count (l.take k)) ∧ Below w.heap.size w wr)
  case atStart => exact ⟨0, by omega, by omega, rfl, rfl, below_new _ _⟩
  case round =>
    obtain ⟨k, hk, hg, rfl, rfl, hB⟩ := hrel
    by_cases hlt : k < l.length
    · obtain ⟨b, o, x, rfl, _, hxk, hc1, hc2⟩ := (HR.out.below hB).at_ hlt
      have hct := count_take hxk
      have hcr := count_rng (l.take k) fun r hr => HO.out r (List.mem_of_mem_take hr)
      have htl : (l.take k).length ≤ k := List.length_take_le _ _
      obtain ⟨x1, x2⟩ := x
      obtain ⟨ho1, ho2, ho3⟩ := HO.out (x1, x2) (List.mem_of_getElem? hxk)
      rw [M_eq] at ho3
      simp only at hc1 hc2 hct ho1 ho2 ho3
      have HCT := Lib.hid hct
      clear hct hxk
      generalize count (l.take k) = ck at *
      have hck : ck ≤ 1099511627776000000 := by omega
      clear htl
      go_wp2_with fail
      go_roundg (l.length - (k + 1))
      case measure => omega
      case rel => exact ⟨k + 1, by omega, by omega, by go_num, by rw [HCT.out], hB.tr (below_new _ _)⟩
    · obtain rfl : k = l.length := by omega
      rw [List.take_length]
      go_wp2_with fail
      go_ret
      exact ⟨rfl, hB⟩

/-- The smallest number from another one on that is not in a set, 0: there is none. -/
def nextV (l : List Rg) (n : Int) : Int :=
  let k := match l[find l (max n 1)]? with | some r => if r.1 ≤ max n 1 then r.2 + 1 else max n 1 | none => max n 1
  if M < k then 0 else k

set_option maxRecDepth 100000 in
set_option maxHeartbeats 2000000 in
theorem next_any (A : Option Addr) (c : Nat) (l : List Rg) (n : Int) (w : World) (hr : RdR w A l) (hl : Okset l) (hn : l.length ≤ 1000000) :
    Calls Tryz.prog 39 #[.agg #[.slice A l.length c], i64 n] w fun e w' => e = .returned (i64 (nextV l n)) ∧ Below w.heap.size w w' := by
  have hb0 := below_new w (.cells #[.slice A l.length c] 26)
  have hc0 := blk_new w (.cells #[.slice A l.length c] 26)
  have V : Hid (nextV l n = if M < (match l[find l (max n 1)]? with | some r => if r.1 ≤ max n 1 then r.2 + 1 else max n 1 | none => max n 1) then 0 else (match l[find l (max n 1)]? with | some r => if r.1 ≤ max n 1 then r.2 + 1 else max n 1 | none => max n 1)) := rfl
  have hfl := find_le l (max n 1)
  obtain ⟨m, hm⟩ : ∃ q, max n 1 = q := ⟨_, rfl⟩
  have h1 := find_any A c l m (w.alloc (.cells #[.slice A l.length c] 26)) (hr.below hb0) hl.1 hn
  rw [hm] at V hfl
  have hmx : Hid (max n 1 = m) := hm
  clear hm
  have HR := Lib.hid (hr.below hb0)
  have HC := Lib.hid hc0
  have HO := Lib.hid hl
  clear hr hl hc0
  obtain ⟨f, hf⟩ : ∃ q, find l m = q := ⟨_, rfl⟩
  rw [hf] at h1 V hfl
  clear hf
  by_cases hlt : f < l.length
  · obtain ⟨x, hx⟩ : ∃ x, l[f]? = some x := ⟨_, List.getElem?_eq_getElem hlt⟩
    obtain ⟨x1, x2⟩ := x
    obtain ⟨ho1, ho2, ho3⟩ := HO.out.2 (x1, x2) (List.mem_of_getElem? hx)
    rw [M_eq] at ho3
    simp only at ho1 ho2 ho3
    rw [hx, M_eq] at V
    simp only at V
    have HX := Lib.hid hx
    clear hx
    go_enter Tryz.func39, Tryz.ntmps39
    go_wp2_with fail
    rw [hmx.out]
    refine h1.mono ?_; rintro e w1 ⟨rfl, b1⟩
    clear h1
    obtain ⟨b, o, e1, _, hcc⟩ := (HR.out.below b1) (by omega)
    subst e1
    obtain ⟨hc1, hc2⟩ := hcc f _ HX.out
    simp only at hc1 hc2
    have hcs := blk_cell (blk_below b1 HC.out) 0
    clear hcc
    by_cases hx1 : x1 ≤ m
    · rw [if_pos hx1] at V
      by_cases hM : 1099511627776 < x2 + 1
      · rw [if_pos hM] at V
        go_wp2_with fail
        go_ret
        exact ⟨ret_int V.out.symm, hb0.tr b1⟩
      · rw [if_neg hM] at V
        go_wp2_with fail
        go_ret
        exact ⟨ret_int V.out.symm, hb0.tr b1⟩
    · rw [if_neg hx1] at V
      by_cases hM : 1099511627776 < m
      · exfalso; omega
      · rw [if_neg hM] at V
        go_wp2_with fail
        go_ret
        exact ⟨ret_int V.out.symm, hb0.tr b1⟩
  · have hge : l[f]? = none := List.getElem?_eq_none_iff.2 (by omega)
    rw [hge, M_eq] at V
    simp only at V
    clear hge
    go_enter Tryz.func39, Tryz.ntmps39
    go_wp2_with fail
    rw [hmx.out]
    refine h1.mono ?_; rintro e w1 ⟨rfl, b1⟩
    clear h1
    have hcs := blk_cell (blk_below b1 HC.out) 0
    by_cases hM : 1099511627776 < m
    · rw [if_pos hM] at V
      go_wp2_with fail
      go_ret
      exact ⟨ret_int V.out.symm, hb0.tr b1⟩
    · rw [if_neg hM] at V
      go_wp2_with fail
      go_ret
      exact ⟨ret_int V.out.symm, hb0.tr b1⟩
theorem rng_neq (x y : Rg) (w : World) : (binOp .neq 42 (.agg #[i64 x.1, i64 x.2]) (.agg #[i64 y.1, i64 y.2])).run Tryz.prog w = .ok (.bool (decide (x ≠ y))) w := by
  obtain ⟨x1, x2⟩ := x
  obtain ⟨y1, y2⟩ := y
  rw [run_neq_struct, run_equalIn_agg w 9999 42 #[i64 x1, i64 x2] #[i64 y1, i64 y2] (by kernel_rfl) (by kernel_rfl)]
  simp [Program.fieldsOf, Tryz.underlying42, go_sem]
  by_cases h1 : x1 = y1 <;> by_cases h2 : x2 = y2 <;> simp [h1, h2]
theorem take_eq_succ {a b : List Rg} {k : Nat} {x : Rg} (ha : a[k]? = some x) (hb : b[k]? = some x) (h : a.take k = b.take k) : a.take (k + 1) = b.take (k + 1) := by
  obtain ⟨h1, e1⟩ := List.getElem?_eq_some_iff.1 ha
  obtain ⟨h2, e2⟩ := List.getElem?_eq_some_iff.1 hb
  rw [List.take_succ_eq_append_getElem h1, List.take_succ_eq_append_getElem h2, e1, e2, h]

set_option maxRecDepth 100000 in
set_option maxHeartbeats 2000000 in
theorem equalR_any (A B : Option Addr) (c d : Nat) (a b : List Rg) (w : World) (ha : RdR w A a) (hb : RdR w B b) (hn : a.length ≤ 1000000) (hm : b.length ≤ 1000000) :
    Calls Tryz.prog 84 #[.slice A a.length c, .slice B b.length d] w fun e w' => e = .returned (.bool (decide (a = b))) ∧ Below w.heap.size w w' := by
  by_cases hl : a.length = b.length
  · have hq1 : ((a.length : Int) == (b.length : Int)) = true := by simp [hl]
    have hq2 : ((a.length : Int) != (b.length : Int)) = false := by simp [hl]
    have HA := Lib.hid ha
    have HB := Lib.hid hb
    have HL := Lib.hid hl
    have hle : a.length ≤ b.length := by omega
    clear ha hb hl
    go_enter Tryz.func84, Tryz.ntmps84
    go_wp2_with fail
    go_loopg [13] a.length (fun gg iv wr => ∃ k : Nat, k ≤ a.length ∧ a.length - k ≤ gg ∧ iv = .int .i64 k ∧ Below w.heap.size w wr ∧ Hid (a.take k = b.take k))
    case atStart => exact ⟨0, by omega, by omega, rfl, Below.refl _ _, rfl⟩
    case round =>
      obtain ⟨k, hk, hg, rfl, hB, T⟩ := hrel
      by_cases hlt : k < a.length
      · obtain ⟨b1, o1, x, rfl, _, hxk, hx1, hx2⟩ := (HA.out.below hB).at_ hlt
        obtain ⟨b2, o2, y, rfl, _, hyk, hy1, hy2⟩ := (HB.out.below hB).at_ (k := k) (by omega)
        have hne := rng_neq x y
        have hkb : (0 : Int) ≤ (k : Int) := by omega
        have hkb2 : (k : Int) < (a.length : Int) := by omega
        have hkb3 : (k : Int) < (b.length : Int) := by omega
        by_cases hxy : x = y
        · subst hxy
          have hts := take_eq_succ hxk hyk T.out
          have HTS := Lib.hid hts
          rw [decide_eq_false (by simp)] at hne
          clear hts hxk hyk
          go_wp2_with fail
          go_quiet (fail)
          go_wp2_with fail
          go_roundg (a.length - (k + 1))
          case measure => omega
          case rel => exact ⟨k + 1, by omega, by omega, by go_num, hB.drewN _, HTS⟩
        · have V : Hid (decide (a = b) = false) := decide_eq_false fun e => hxy (by
            rw [e] at hxk
            have := hxk.symm.trans hyk
            cases this; rfl)
          rw [decide_eq_true hxy] at hne
          clear hxk hyk hxy
          go_wp2_with fail
          go_quiet (fail)
          go_wp2_with fail
          go_ret
          exact ⟨ret_bool V.out.symm, hB.drewN _⟩
      · obtain rfl : k = a.length := by omega
        have V : Hid (decide (a = b) = true) := decide_eq_true (by
          have := T.out
          rw [List.take_length, HL.out, List.take_length] at this; exact this)
        go_wp2_with fail
        go_ret
        exact ⟨ret_bool V.out.symm, hB⟩
  · have hq1 : ((a.length : Int) == (b.length : Int)) = false := by simp; omega
    have hq2 : ((a.length : Int) != (b.length : Int)) = true := by simp; omega
    have V : Hid (decide (a = b) = false) := decide_eq_false fun e => hl (by rw [e])
    clear ha hb hl
    go_enter Tryz.func84, Tryz.ntmps84
    go_wp2_with fail
    go_ret
    exact ⟨ret_bool V.out.symm, Below.refl _ _⟩

set_option maxHeartbeats 1000000 in
theorem equalSets_any (A B : Option Addr) (c d : Nat) (a b : List Rg) (w : World) (ha : RdR w A a) (hb : RdR w B b) (hn : a.length ≤ 1000000) (hm : b.length ≤ 1000000) :
    Calls Tryz.prog 36 #[.agg #[.slice A a.length c], .agg #[.slice B b.length d]] w fun e w' => e = .returned (.bool (decide (a = b))) ∧ Below w.heap.size w w' := by
  have hb0 : Below w.heap.size w ((w.alloc (.cells #[.slice A a.length c] 26)).alloc (.cells #[.slice B b.length d] 26)) := (below_new _ _).tr (below_new _ _)
  have h1 := equalR_any A B c d a b _ (ha.below hb0) (hb.below hb0) hn hm
  clear ha hb
  generalize decide (a = b) = q at *
  go_enter Tryz.func36, Tryz.ntmps36
  go_wp2_with fail
  refine h1.mono ?_; rintro e w1 ⟨rfl, b1⟩
  go_wp2_with fail
  go_ret
  exact ⟨rfl, hb0.tr b1⟩
end Go.Proofs.YtcpennlojjlpaaaGreatDoor
