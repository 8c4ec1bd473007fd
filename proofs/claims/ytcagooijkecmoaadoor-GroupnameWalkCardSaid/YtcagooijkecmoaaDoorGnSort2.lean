/- Contract of Sort. -/
import Derived.Test.YtcagooijkecmoaaDoorGnSort
namespace Go.Proofs.YtcagooijkecmoaaDoor
open Go.RowKit Go.Gn Go.Sort

/-- The first error of names. -/
def errOf : List (List UInt8) → Nat
  | [] => 0
  | x :: r => if check x ≠ 0 then check x else errOf r
theorem errOf_zero : ∀ (l : List (List UInt8)), errOf l = 0 → ∀ x ∈ l, check x = 0
  | [], _, x, hx => by simp at hx
  | y :: r, h, x, hx => by
    unfold errOf at h
    split at h
    · rename_i hc; exact absurd h hc
    · simp at hx
      rcases hx with rfl | hx
      · omega
      · exact errOf_zero r h x hx
theorem errOf_zero_iff (l : List (List UInt8)) : errOf l = 0 ↔ ∀ x ∈ l, check x = 0 := by
  refine ⟨errOf_zero l, fun h => ?_⟩
  induction l with
  | nil => rfl
  | cons y r ih =>
    unfold errOf
    rw [if_neg (by have := h y (by simp); omega)]
    exact ih fun x hx => h x (by simp [hx])
theorem errOf_at {l : List (List UInt8)} {k : Nat} {x : List UInt8} (h : l[k]? = some x) : errOf (l.drop k) = if check x ≠ 0 then check x else errOf (l.drop (k + 1)) := by
  obtain ⟨hl, hx⟩ := List.getElem?_eq_some_iff.1 h
  rw [List.drop_eq_getElem_cons hl, hx, errOf]
/-- What Sort returns. -/
def sortE (l : List (List UInt8)) : Nat := if 4096 < l.length then 9 else errOf l
def sortS (l : List (List UInt8)) : List (List UInt8) := if sortE l = 0 then insAll gcmp l else []
theorem sortE_zero {l : List (List UInt8)} (h : sortE l = 0) : l.length ≤ 4096 ∧ ∀ x ∈ l, check x = 0 := by
  unfold sortE at h
  split at h
  · cases h
  · exact ⟨by omega, errOf_zero l h⟩
/-- The sorted names without repetitions are those that are put in one by one. -/
theorem compact_insAll {ys xs : List (List UInt8)} (hm : ∀ x, x ∈ ys ↔ x ∈ xs) (hs : ys.Pairwise fun a b => gcmp a b ≤ 0) : Lib.compact ys = insAll gcmp xs := by
  have h := compact_inc gcmp_lin ys hs
  refine inc_uniq gcmp_lin _ _ h.1 (insAll_inc gcmp_lin xs) (fun x => ?_)
  rw [h.2, hm, mem_insAll gcmp_lin]

set_option maxRecDepth 100000 in
set_option maxHeartbeats 4000000 in
theorem gsort_any (A : Option Addr) (c : Nat) (xs : List (List UInt8)) (w : World) (hE : Env w) (hr : Rd w A xs) (hn : xs.length ≤ 1000000000) (hl : ∀ x ∈ xs, x.length ≤ 1000000000) :
    Calls Tryd.prog 17 #[.slice A xs.length c] w (Gives2 w (sortS xs) (sortE xs)) := by
  have HR := Lib.hid hr; clear hr
  have HL := Lib.hid hl; clear hl
  obtain ⟨SE, hSE⟩ : ∃ n, sortE xs = n := ⟨_, rfl⟩
  obtain ⟨SS, hSS⟩ : ∃ n, sortS xs = n := ⟨_, rfl⟩
  rw [hSE, hSS]
  have VE := Lib.hid hSE; clear hSE
  have VS := Lib.hid hSS; clear hSS
  by_cases h40 : 4096 < xs.length
  · have e1 : Hid (SE = 9) := by (show SE = 9); rw [← VE.out]; unfold sortE; rw [if_pos h40]
    have e2 : Hid (SS = []) := by (show SS = []); rw [← VS.out]; unfold sortS; rw [VE.out, e1.out, if_neg (by decide)]
    rw [e1.out, e2.out]
    go_enter Tryd.func17, Tryd.ntmps17
    go_wp2
    go_ret2
    exact ⟨none, 0, rfl, Rd.nil, by simp, Below.refl _ _⟩
  · have V : Hid (SE = errOf xs) := by (show SE = _); rw [← VE.out]; unfold sortE; rw [if_neg h40]
    go_enter Tryd.func17, Tryd.ntmps17
    go_wp2
    go_loopg [5, 6, 13] xs.length (fun gg _ _ iv wr => ∃ k : Nat, k ≤ xs.length ∧ xs.length - k ≤ gg ∧ iv = .int .i64 k ∧ Below w.heap.size w wr ∧ Hid (SE = errOf (xs.drop k)))
    case atStart => exact ⟨0, by omega, by omega, rfl, Below.refl _ _, V⟩
    case round =>
      obtain ⟨k, hk, hg, rfl, hB, T⟩ := hrel
      by_cases hlt : k < xs.length
      · obtain ⟨b, o, x, rfl, _, hxk, hcell⟩ := (HR.out.below hB).at_ hlt
        have hst := errOf_at hxk
        have HX := Lib.hid hxk; clear hxk
        have hlx := HL.out x (List.mem_of_getElem? HX.out)
        by_cases hz : check x = 0
        · rw [if_neg (by omega)] at hst
          have h1 := check_ok hz wr (hE.below hB) hlx
          clear hz
          have HS := Lib.hid hst; clear hst
          go_wp2_with fail
          refine h1.mono ?_; rintro e w2 ⟨rfl, b2⟩
          go_wp2_with fail
          go_roundg (xs.length - (k + 1))
          case measure => omega
          case rel => exact ⟨k + 1, by omega, by omega, by go_num, hB.tr b2, (T.out.trans HS.out)⟩
        · rw [if_pos (by omega)] at hst
          have h1 := check_any x wr (hE.below hB) hlx
          have hne : ((check x : Int) != 0) = true := by simp; omega
          have e1 : Hid (SE = check x) := T.out.trans hst
          have e2 : Hid (SS = []) := by (show SS = []); rw [← VS.out]; unfold sortS; rw [VE.out, e1.out, if_neg hz]
          rw [e2.out]
          clear hst hz
          rw [e1.out]
          generalize check x = r at *
          go_wp2_with fail
          refine h1.mono ?_; rintro e w2 ⟨rfl, b2⟩
          go_wp2_with fail
          go_ret2
          exact ⟨none, 0, rfl, Rd.nil, by simp, hB.tr b2⟩
      · obtain rfl : k = xs.length := by omega
        have E : Hid (SE = 0) := by
          have := T.out
          rw [List.drop_length] at this
          exact this
        have hall := errOf_zero xs (by rw [← V.out, E.out])
        have hSS : Hid (SS = insAll gcmp xs) := by (show SS = _); rw [← VS.out]; unfold sortS; rw [VE.out, E.out, if_pos rfl]
        have HALL := Lib.hid hall; clear hall
        by_cases h0 : xs = []
        · subst h0
          have hS0 : Hid (SS = []) := hSS.out
          rcases A with _ | ad
          · have hcl := Tryd.slices_Clone_string_nil 0 c wr
            go_wp2_with fail
            refine hcl.mono ?_; rintro e w2 ⟨rfl, rfl⟩
            go_wp2_with fail
            refine (Tryd.slices_SortFunc_none (α := Short) none 0 (.func (.func 15) #[] #[]) _).mono ?_; rintro e w3 ⟨rfl, rfl⟩
            go_wp2_with fail
            refine (Tryd.slices_Compact_string_empty none 0 _).mono ?_; rintro e w4 ⟨rfl, rfl⟩
            go_wp2_with fail
            go_ret2
            rw [hS0.out, E.out]
            exact ⟨none, 0, rfl, Rd.nil, by simp, hB⟩
          · have hcl := Tryd.slices_Clone_string_zero ad c wr
            go_wp2_with fail
            refine hcl.mono ?_; rintro e w2 ⟨v, rfl, hown, _, b2⟩
            obtain ⟨A2, c2, rfl⟩ := own_slice hown
            clear hown
            go_wp2_with fail
            refine (Tryd.slices_SortFunc_none (α := Short) A2 c2 (.func (.func 15) #[] #[]) _).mono ?_; rintro e w3 ⟨rfl, rfl⟩
            go_wp2_with fail
            refine (Tryd.slices_Compact_string_empty A2 c2 _).mono ?_; rintro e w4 ⟨rfl, rfl⟩
            go_wp2_with fail
            go_ret2
            rw [hS0.out, E.out]
            exact ⟨A2, c2, rfl, Rd.nil, by simp, hB.tr b2⟩
        · have hpos : 0 < xs.length := List.length_pos_iff.2 h0
          obtain ⟨b, o, rfl, hb, hcell⟩ := (HR.out.below hB) hpos
          have hcl := Tryd.slices_Clone_string b o xs.length c (xs.map fun x => (⟨x.toArray⟩ : ByteArray)) wr (by simp) (by omega) (fun j hj => by
            simp at hj
            have := hcell j _ (List.getElem?_eq_getElem hj)
            rw [this]
            simp [hj])
          rw [List.take_of_length_le (by simp), List.map_map] at hcl
          have HE := Lib.hid (hE.below hB)
          clear hcell h0
          go_wp2_with fail
          refine hcl.mono ?_; rintro e w2 ⟨v, rfl, hown, hnn, b2⟩
          have hown' : w2.ownsRow wr.heap.size 9 1 v xs.length (xs.map enS) := hown
          clear hown
          obtain ⟨A2, c2, rfl⟩ := own_slice hown'
          obtain ⟨g, rfl⟩ : ∃ g, A2 = some ⟨g, 0, none⟩ := by
            rcases hown'.2 with ⟨e1, e2⟩ | ⟨g, cap, cur, e1, _⟩
            · omega
            · cases e1; exact ⟨g, rfl⟩
          obtain ⟨hH, hg1, hg2, _, hcap⟩ := holds_of_own hown'
          clear hown' hnn hcl
          have hEl : 0 < wr.heap.size := by
            obtain ⟨m, hm⟩ := HE.out
            exact World.block_lt_of_cell? wr _ hm
          have hsort := sortNames g c2 xs w2 (HE.out.below b2) (by omega) hH hg1 (fun x hx => ((check_zero x).1 (HALL.out x hx)).1) (by omega)
          have HH := Lib.hid hH; clear hH
          go_wp2_with fail
          refine hsort.mono ?_; rintro e w3 ⟨rfl, n, os, ys, hw3, hyl, hym, hys⟩
          have hH3 : Holds encStr w3 g 0 ys.toArray := by
            rw [hw3]
            exact holds_grow encStr _ _ _ _ _ (by simpa using hg1) (holds_putRow encStr (Sort.ahead w2 n) g 0 xs.toArray _ HH.out (by simp [hyl]))
          have hg3 : g < w3.heap.size := by rw [hw3]; simp; omega
          have b3 : Below w.heap.size w w3 := by
            have h1 := hB.tr b2
            refine h1.trans ?_
            rw [hw3]
            exact sort_below encStr w2 g 0 n _ os (by have := hB.size; omega) h1.size
          have hci := compact_insAll hym hys
          have hcomp := Tryd.slices_Compact_string g 0 c2 ys w3 hH3 (by omega) (by omega)
          rw [hyl, hci] at hcomp
          have HSi : Hid ((insAll gcmp xs).length ≤ xs.length) := insAll_length gcmp xs
          have HY : Hid (ys.length = xs.length) := hyl
          have H3 := Lib.hid hH3
          clear hsort hw3 hym hys hci hH3 hyl
          generalize insAll gcmp xs = rs at *
          go_wp2_with fail
          refine hcomp.mono ?_; rintro e w4 ⟨rfl, q, hw4⟩
          have HW4 := Lib.hid hw4; clear hw4
          go_wp2_with fail
          go_ret2
          rw [hSS.out, E.out]
          refine ⟨_, _, rfl, ?_, Nat.le_trans HSi.out hcap, ?_⟩
          · rw [HW4.out]
            exact take_pad w3 H3.out HSi.out (by simp; exact HY.out) hg3
          · rw [HW4.out]
            exact b3.trans (put_below encStr w3 g 0 q _ (by have := hB.size; omega))
end Go.Proofs.YtcagooijkecmoaaDoor
