/- Digests sorted by their issues; the program's Join, whole; the walk of the statement DigestJoin. -/
import Derived.Test.YtlchcjnbbhpiaaaGreatDoorDrtL
import Derived.Test.YtlchcjnbbhpiaaaGreatDoorSortG
import Derived.Test.YtlchcjnbbhpiaaaGreatDoorDzC
namespace Go.Proofs.YtlchcjnbbhpiaaaGreatDoor
open Go.RowKit Go.Shelf Go.Dg Go.Maps
open Go.Sort (SWO)
theorem cmpIe_lt (x y : DgX) : ltOf (fun a b : DgX => Lib.compareInt a.1.ie b.1.ie) x y = decide (x.1.ie < y.1.ie) := by
 unfold ltOf Lib.compareInt
 by_cases h : x.1.ie < y.1.ie
 ·simp [h]
 ·by_cases h2 : x.1.ie > y.1.ie <;> simp [h, h2]
theorem cmpIe_swo : SWO (ltOf fun a b : DgX => Lib.compareInt a.1.ie b.1.ie) where
 irrefl x := by rw [cmpIe_lt]; simp
 trans x y z h k := by rw [cmpIe_lt] at *; simp at *; omega
 ntrans x y z h k := by rw [cmpIe_lt] at *; simp at *; omega
instance : Inhabited DgX := ⟨⟨⟨[], 0, 0, 0, []⟩, none, 0⟩⟩
set_option maxRecDepth 100000 in
theorem sortDg_any (base : Nat) (A : Option Addr) (c : Nat) (l : List DgX) (w : World) (hown : w.ownsRow base 32 5 (.slice A l.length c) l.length (l.flatMap dgxL)) (hn : l.length ≤ 1000000) :
  Calls Tryz.prog 79 #[.slice A l.length c, .func (.func 80) #[] #[]] w fun e' w' => e' = .returned (.tuple #[]) ∧
   ∃ m : List DgX, m.Perm l ∧ (m.Pairwise fun x y => ¬ y.1.ie < x.1.ie) ∧ w'.ownsRow base 32 5 (.slice A l.length c) l.length (m.flatMap dgxL) ∧ w.grownBy w' (Value.slice A l.length c).ownBlock :=
 (sortG Tryz.srtDgD 5 (fun w => by kernel_rfl) (fun w => by kernel_rfl) dgxL dgxL_length one_dgxL (fun a b => Lib.compareInt a.1.ie b.1.ie) cmpIe_swo 80 #[] (enters_of Tryz.func80 (by kernel_rfl) rfl) (fun x y W => (cmpDg_any x y W).mono fun e w' h => h) base 32 A c l w hown hn).mono
  fun e' w' ⟨h1, m, h2, h3, h4, h5⟩ => ⟨h1, m, h2, h3.imp fun {a b} h => by rw [cmpIe_lt] at h; simpa using h, h4, h5⟩
theorem join_all (A : Option Addr) (c : Nat) (xs : List DgX) (w : World) (h : RdG w A xs) (hc : xs.length ≤ c) (hn : xs.length ≤ 1000) (ht : Tab w) (hs : ∀ x ∈ xs, SmX x) :
  Calls Tryz.prog 38 #[.slice A xs.length c] w fun e w' => (∃ A' c', e = .returned (.tuple #[dgA (joinF (xs.map (·.1))).1 A' c', i64 (joinF (xs.map (·.1))).2]) ∧ RdI w' A' (joinF (xs.map (·.1))).1.its ∧ (joinF (xs.map (·.1))).1.its.length ≤ c') ∧ Below w.heap.size w w' := by
 cases xs with
 | nil => exact join_nil A c w
 | cons x0 xr => exact join_of A c x0 xr w h hc hn ht hs (Lib.hid fun base A c l w hown hn => sortDg_any base A c l w hown hn)
end Go.Proofs.YtlchcjnbbhpiaaaGreatDoor
