/- Contract of Sort: the clone, the library's sort with the order of names, the names without repetitions. -/
import Derived.Test.YtcagooijkecmoaaDoorGnComm2
import Derived.Test.YtcagooijkecmoaaDoorShelfB
import Derived.Sort.OwnSorted
namespace Go.Proofs.YtcagooijkecmoaaDoor
open Go.RowKit Go.Gn Go.Sort

theorem sort_below {α : Type} [Inhabited α] {B : Nat} (enc : α → Value) (w : World) (blk off n : Nat) (d : Array α) (os : Array Obj) (hB : B ≤ blk) (hw : B ≤ w.heap.size) : Below B w (grow (putRow enc (Sort.ahead w n) blk off d) os) := by
  refine ⟨rfl, rfl, rfl, by simp, fun k hk => ?_⟩
  rw [heap_grow_old _ _ (by simp; exact Nat.lt_of_lt_of_le hk hw)]
  have : blk ≠ k := by omega
  simp [putRow, mapBlock, Sort.ahead, Array.getElem?_modify, this]
theorem put_below {α : Type} [Inhabited α] {B : Nat} (enc : α → Value) (w : World) (blk off n : Nat) (d : Array α) (hB : B ≤ blk) : Below B w (putRow enc (Sort.ahead w n) blk off d) := by
  refine ⟨rfl, rfl, rfl, by simp, fun k hk => ?_⟩
  have : blk ≠ k := by omega
  simp [putRow, mapBlock, Sort.ahead, Array.getElem?_modify, this]
theorem Rd.of_holds {w : World} {blk off : Nat} {xs : List (List UInt8)} (h : Holds encStr w blk off xs.toArray) (hb : blk < w.heap.size) : Rd w (some ⟨blk, off, none⟩) xs := fun _ => by
  refine ⟨blk, off, rfl, hb, fun j x hj => ?_⟩
  obtain ⟨hl, hx⟩ := List.getElem?_eq_some_iff.1 hj
  rw [(h j (by simpa using hl)).1]
  simp [hl, hx]
theorem holds_of_own {w : World} {base c n : Nat} {g : Nat} {e : TypeId} {xs : List (List UInt8)} (h : w.ownsRow base e 1 (.slice (some ⟨g, 0, none⟩) n c) n (xs.map enS)) : Holds encStr w g 0 xs.toArray ∧ g < w.heap.size ∧ base ≤ g ∧ n = xs.length ∧ n ≤ c := by
  obtain ⟨h1, h2⟩ := h
  have hn : n = xs.length := by simpa using h1.symm
  rcases h2 with ⟨e1, e2⟩ | ⟨g', cap, cur, e1, hb, hg, hcap, hml, hsz, ht⟩
  · cases e1
  · cases e1
    refine ⟨fun j hj => ?_, blk_lt hg, hb, hn, hcap⟩
    simp at hj
    refine ⟨?_, blk_free hg _⟩
    rw [Nat.zero_add, blk_cell hg j]
    have hj' : (xs.map enS)[j]? = some (enS xs[j]) := by rw [List.getElem?_map, List.getElem?_eq_getElem hj]; rfl
    rw [← ht, List.getElem?_take] at hj'
    split at hj'
    · simp at hj'; simp [hj', hj]
    · cases hj'
theorem compact_length {α : Type} [DecidableEq α] [Inhabited α] (zs : List α) : (Lib.compact zs).length ≤ zs.length := by
  unfold Lib.compact Lib.compactUpTo
  rw [List.length_map]
  exact Nat.le_trans (List.length_filter_le _ _) (by simp)
theorem take_pad {xs : List (List UInt8)} {n : Nat} (w : World) {blk q : Nat} {d0 : Array (List UInt8)} (h0 : Holds encStr w blk 0 d0) (hn : xs.length ≤ n) (hs : d0.size = n) (hb : blk < w.heap.size) :
    Rd (putRow encStr (Sort.ahead w q) blk 0 (xs ++ List.replicate (n - xs.length) []).toArray) (some ⟨blk, 0, none⟩) xs := by
  have hH : Holds encStr (putRow encStr (Sort.ahead w q) blk 0 (xs ++ List.replicate (n - xs.length) []).toArray) blk 0 (xs ++ List.replicate (n - xs.length) []).toArray :=
    holds_putRow encStr (Sort.ahead w q) blk 0 d0 _ h0 (by simp; omega)
  have := (Rd.of_holds hH (by simpa using hb)).take xs.length
  rwa [List.take_left'] at this
  rfl

/-- The texts of at most 80 bytes, that names are. -/
abbrev Short := { l : List UInt8 // l.length ≤ 80 }
instance : Inhabited Short := ⟨⟨[], by simp⟩⟩
abbrev enSh (x : Short) : Value := enS x.1
def shcmp (x y : Short) : Int := gcmp x.1 y.1
theorem lt_true (x y : Short) : ltOf shcmp x y = true ↔ gcmp x.1 y.1 < 0 := by
  show decide (gcmp x.1 y.1 < 0) = true ↔ _
  exact decide_eq_true_iff
theorem lt_false (x y : Short) : ltOf shcmp x y = false ↔ ¬ gcmp x.1 y.1 < 0 := by
  show decide (gcmp x.1 y.1 < 0) = false ↔ _
  exact decide_eq_false_iff_not
theorem shcmp_swo : SWO (ltOf shcmp) where
  irrefl x := by rw [lt_false, gcmp_lin.self]; omega
  trans x y z h1 h2 := by
    rw [lt_true] at *
    exact gcmp_lin.lt_le h1 (by omega)
  ntrans x y z h1 h2 := by
    rw [lt_false] at *
    have a1 := gcmp_lin.anti x.1 y.1
    have a2 := gcmp_lin.anti y.1 z.1
    have a3 := gcmp_lin.anti x.1 z.1
    have := gcmp_lin.trans z.1 y.1 x.1 (by omega) (by omega)
    omega
theorem shcmp_total (x y : Short) (h1 : ltOf shcmp x y = false) (h2 : ltOf shcmp y x = false) : x = y := by
  rw [lt_false] at *
  have a1 := gcmp_lin.anti x.1 y.1
  exact Subtype.ext ((gcmp_lin.zero x.1 y.1).1 (by omega))

theorem putCells_short (off : Nat) (d : Array Short) (cur : Array Value) : putCells enSh off d cur = putCells encStr off (d.map (·.1)) cur := by
  unfold putCells
  simp only [Array.size_map]
  apply Array.ext
  · simp
  · intro i h1 h2
    simp
    split
    · rename_i h
      have hl : i - off < d.size := by omega
      simp [hl]
    · rfl
theorem putRow_short (w : World) (blk off : Nat) (d : Array Short) : putRow enSh w blk off d = putRow encStr w blk off (d.map (·.1)) := by
  unfold putRow
  congr 1
  funext cur
  exact putCells_short off d cur

/-- The library's sort with the order of names. -/
theorem sortNames (g c : Nat) (xs : List (List UInt8)) (w : World) (hE : Env w) (hgE : 0 < g) (hH : Holds encStr w g 0 xs.toArray) (hg : g < w.heap.size) (hx : ∀ x ∈ xs, x.length ≤ 80) (hn : xs.length ≤ 1000000000) :
    Calls Tryd.prog 43 #[.slice (some ⟨g, 0, none⟩) xs.length c, .func (.func 15) #[] #[]] w fun e w' =>
      e = .returned (.tuple #[]) ∧ ∃ (n : Nat) (os : Array Obj) (ys : List (List UInt8)), w' = grow (putRow encStr (Sort.ahead w n) g 0 ys.toArray) os ∧ ys.length = xs.length ∧ (∀ x, x ∈ ys ↔ x ∈ xs) ∧ ys.Pairwise fun a b => gcmp a b ≤ 0 := by
  let D : List Short := xs.attach.map fun x => ⟨x.1, hx x.1 x.2⟩
  have hD : D.map (·.1) = xs := by
    show (xs.attach.map _).map _ = xs
    rw [List.map_map]
    exact List.attach_map_subtype_val xs
  have hDl : D.length = xs.length := by have := congrArg List.length hD; rwa [List.length_map] at this
  have hH' : Holds enSh w g 0 D.toArray := fun j hj => by
    have hj' : j < D.length := by simpa using hj
    have hj2 : j < xs.length := by omega
    have := hH j (by simpa using hj2)
    have e : (D.toArray[j]!).1 = xs.toArray[j]! := by
      have e1 : xs[j] = (D[j]).1 := by
        have := congrArg (fun l : List (List UInt8) => l[j]?) hD
        simp only [List.getElem?_map, List.getElem?_eq_getElem hj', List.getElem?_eq_getElem hj2, Option.map_some, Option.some.injEq] at this
        exact this.symm
      simp [hj', hj2, e1]
    rw [← e] at this
    exact this
  have hcmp : CmpLays1 Tryd.prog 15 #[] enSh shcmp g 0 D.toArray.size w := by
    intro m os dk hs x y
    have hE' : Env (sortWorld enSh w g 0 m dk os) := by
      have hb := sort_below (B := g) enSh w g 0 m dk os (Nat.le_refl _) (Nat.le_of_lt hg)
      obtain ⟨m0, hm⟩ := hE
      exact ⟨m0, by rw [← hm]; exact hb.cell hgE⟩
    refine (compare_any x.1 y.1 (sortWorld enSh w g 0 m dk os) hE' (by have := x.2; omega) (by have := y.2; omega)).mono fun e w' ⟨h1, h2⟩ => ⟨h1, 0, #[.cells ((parts 46 x.1).map enS).toArray 9] ++ #[.cells ((parts 46 y.1).map enS).toArray 9], ?_⟩
    rw [h2, alloc_eq_grow, alloc_eq_grow, grow_grow]
    rfl
  have h := Tryd.slices_SortFunc_total enSh (fun _ => rfl) shcmp shcmp_swo 15 #[] g 0 c D.toArray w (enters_of Tryd.func15 (by kernel_rfl) rfl) hcmp hH' hg (by simp; omega) shcmp_total
  rw [show D.toArray.size = xs.length by simp [hDl]] at h
  refine h.mono fun e w' ⟨h1, n, os, h2⟩ => ⟨h1, n, os, (D.mergeSort fun x y => !(ltOf shcmp) y x).map (·.1), ?_, ?_, ?_, ?_⟩
  · rw [h2]
    unfold sortWorld
    rw [putRow_short]
    simp
  · simp [hDl]
  · intro x
    rw [List.mem_map, ← hD, List.mem_map]
    simp only [List.mem_mergeSort]
  · rw [List.pairwise_map]
    have hp := List.pairwise_mergeSort (le := fun x y : Short => !(ltOf shcmp) y x) (fun a b c h1 h2 => by
      rw [Bool.not_eq_true', lt_false] at *
      have a1 := gcmp_lin.anti a.1 b.1
      have a2 := gcmp_lin.anti b.1 c.1
      have a3 := gcmp_lin.anti a.1 c.1
      have := gcmp_lin.trans a.1 b.1 c.1 (by omega) (by omega)
      omega) (fun a b => by
      rw [Bool.or_eq_true, Bool.not_eq_true', Bool.not_eq_true', lt_false, lt_false]
      have a1 := gcmp_lin.anti a.1 b.1
      omega) D
    refine hp.imp fun {a b} h => ?_
    rw [Bool.not_eq_true', lt_false] at h
    have a1 := gcmp_lin.anti a.1 b.1
    omega
end Go.Proofs.YtcagooijkecmoaaDoor
