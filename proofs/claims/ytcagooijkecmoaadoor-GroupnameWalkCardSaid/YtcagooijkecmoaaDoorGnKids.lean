/- Contract of Children. -/
import Derived.Test.YtcagooijkecmoaaDoorGnSort2
import Derived.Test.YtcagooijkecmoaaDoorGnKidP
namespace Go.Proofs.YtcagooijkecmoaaDoor
open Go.RowKit Go.Gn Go.Sort

/-- What Children returns. -/
def kidsE (l : List (List UInt8)) (h : List UInt8) : Nat := if h ≠ [] ∧ check h ≠ 0 then check h else sortE l
def kidsS (l : List (List UInt8)) (h : List UInt8) : List (List UInt8) := if kidsE l h = 0 then insAll scmp (kids (preOf h) (sortS l)) else []
theorem sorted_scmp (zs : List (List UInt8)) : (zs.mergeSort fun x y => decide (x ≤ y)).Pairwise fun a b => scmp a b ≤ 0 := by
  have hp := List.pairwise_mergeSort (le := fun x y : List UInt8 => decide (x ≤ y)) (fun a b c h1 h2 => by
    simp only [decide_eq_true_eq] at *
    exact List.le_trans h1 h2) (fun a b => by
    simp only [Bool.or_eq_true, decide_eq_true_eq]
    exact List.le_total a b) zs
  refine hp.imp fun {a b} h => ?_
  simp only [decide_eq_true_eq] at h
  have h1 := scmp_gt a b
  have h2 : ¬ b < a := h
  have : ¬ 0 < scmp a b := fun e => h2 (h1.1 e)
  omega
theorem compact_scmp (zs : List (List UInt8)) : Lib.compact (zs.mergeSort fun x y => decide (x ≤ y)) = insAll scmp zs := by
  have h := compact_inc scmp_lin _ (sorted_scmp zs)
  refine inc_uniq scmp_lin _ _ h.1 (insAll_inc scmp_lin zs) (fun x => ?_)
  rw [h.2, List.mem_mergeSort, mem_insAll scmp_lin]
theorem cutPrefix_any (a p : List UInt8) (W : World) : Calls Tryd.prog 46 #[enS a, enS p] W fun e w' => e = .returned (.tuple #[enS (Lib.trimPrefix a p), .bool (Lib.hasPrefix a p)]) ∧ w' = W := by
  have h := Tryd.strings_CutPrefix ⟨a.toArray⟩ ⟨p.toArray⟩ W
  have e : Lib.hasPrefix (⟨a.toArray⟩ : ByteArray).data.toList (⟨p.toArray⟩ : ByteArray).data.toList = Lib.hasPrefix a p := by simp only []
  have e2 : Lib.trimPrefix (⟨a.toArray⟩ : ByteArray).data.toList (⟨p.toArray⟩ : ByteArray).data.toList = Lib.trimPrefix a p := by simp only []
  rw [e, e2] at h
  exact h
theorem sortS_mem {l : List (List UInt8)} {x : List UInt8} (hx : x ∈ sortS l) : check x = 0 ∧ x ∈ l := by
  unfold sortS at hx
  split at hx
  · rename_i h
    rw [mem_insAll gcmp_lin] at hx
    exact ⟨(sortE_zero h).2 x hx, hx⟩
  · simp at hx
theorem sortS_length (l : List (List UInt8)) : (sortS l).length ≤ l.length := by
  unfold sortS
  split
  · exact insAll_length gcmp l
  · simp

/-- The library's sort of texts and the texts without repetitions: of a slice of the call's own, or of none. -/
theorem sortCompact {zs : List (List UInt8)} {w : World} {g c B : Nat} (hH : Holds encStr w g 0 zs.toArray) (hg : g < w.heap.size) (hB : B ≤ g) (hz : zs.length ≤ c) (hn : zs.length ≤ 1000000000) :
    Calls Tryd.prog 47 #[.slice (some ⟨g, 0, none⟩) zs.length c] w fun e w1 => e = .returned (.tuple #[]) ∧ Below B w w1 ∧
      Calls Tryd.prog 44 #[.slice (some ⟨g, 0, none⟩) zs.length c] w1 fun e w2 => e = .returned (.slice (some ⟨g, 0, none⟩) (insAll scmp zs).length c) ∧ Rd w2 (some ⟨g, 0, none⟩) (insAll scmp zs) ∧ Below B w1 w2 := by
  refine (Tryd.slices_Sort_string g 0 c zs w hH hg (by omega)).mono fun e w1 ⟨h1, n, os, hw1⟩ => ?_
  have hB1 : Below B w w1 := by rw [hw1]; exact sort_below encStr w g 0 n _ os hB (by omega)
  have hH1 : Holds encStr w1 g 0 (zs.mergeSort fun x y => decide (x ≤ y)).toArray := by
    rw [hw1]
    exact holds_grow encStr _ _ _ _ _ (by simpa using hg) (holds_putRow encStr (Sort.ahead w n) g 0 zs.toArray _ hH (by simp))
  have hg1 : g < w1.heap.size := by have := hB1.size; omega
  refine ⟨h1, hB1, ?_⟩
  have h2 := Tryd.slices_Compact_string g 0 c (zs.mergeSort fun x y => decide (x ≤ y)) w1 hH1 (by simp; omega) (by simpa using hz)
  rw [compact_scmp, List.length_mergeSort] at h2
  refine h2.mono fun e w2 ⟨h3, q, hw2⟩ => ⟨h3, ?_, ?_⟩
  · rw [hw2]
    exact take_pad w1 hH1 (insAll_length scmp zs) (by simp) hg1
  · rw [hw2]
    exact put_below encStr w1 g 0 q _ hB
end Go.Proofs.YtcagooijkecmoaaDoor
