/- What the walks over slices of texts share: a slice that reads as a list of texts, the library's variable that a search reads. -/
import Derived.Test.YthgefcoaaommkaaDoorBase
import Derived.Laws.AppendOwn
import Derived.Deep.LoopGhost
import Derived.Deep.Draws
import Derived.OwnWalk
namespace Go.Proofs.YthgefcoaaommkaaDoor
open Go.RowKit

theorem bcat (a b : List UInt8) : (⟨a.toArray⟩ : ByteArray) ++ ⟨b.toArray⟩ = ⟨(a ++ b).toArray⟩ := by
  apply ByteArray.ext; simp
theorem str_congr {a b : ByteArray} (h : a = b) : Value.string a = Value.string b := by rw [h]
theorem ret_str {a b : List UInt8} (h : a = b) : Ending.returned (.string ⟨a.toArray⟩) = .returned (.string ⟨b.toArray⟩) := by rw [h]
theorem bget {t : List UInt8} {p : Nat} (h : p < (⟨t.toArray⟩ : ByteArray).size) (hp : p < t.length) : (⟨t.toArray⟩ : ByteArray)[p]'h = t.getD p 0 := by
  show t.toArray[p] = t.getD p 0
  simp [hp]
theorem _root_.Go.RowKit.Below.cellv {w w' : World} (h : Below w.heap.size w w') {p : Addr} {v : Value} (hv : w.cell? p = some v) : w'.cell? p = some v := by
  have hl := World.block_lt_of_cell? w p hv
  rw [h.cell hl]; exact hv
theorem _root_.Go.RowKit.Below.tr {u v w : World} (h : Below u.heap.size u v) (k : Below v.heap.size v w) : Below u.heap.size u w := h.trans (k.mono h.size)

/-- A text as a value. -/
abbrev enS (x : List UInt8) : Value := .string ⟨x.toArray⟩

/-- The slice with the address A and as many elements as xs has reads as xs. -/
def Rd (w : World) (A : Option Addr) (xs : List (List UInt8)) : Prop :=
  0 < xs.length → ∃ b o, A = some ⟨b, o, none⟩ ∧ b < w.heap.size ∧ ∀ j x, xs[j]? = some x → w.cell? ⟨b, o + j, none⟩ = some (enS x)
theorem Rd.nil {w : World} {A : Option Addr} : Rd w A [] := fun h => absurd h (by simp)
theorem Rd.below {w w' : World} {A : Option Addr} {xs : List (List UInt8)} (h : Rd w A xs) (hb : Below w.heap.size w w') : Rd w' A xs := fun hl => by
  obtain ⟨b, o, e, hlt, hc⟩ := h hl
  exact ⟨b, o, e, Nat.lt_of_lt_of_le hlt hb.size, fun j x hj => Below.cellv hb (hc j x hj)⟩
theorem Rd.at_ {w : World} {A : Option Addr} {xs : List (List UInt8)} {k : Nat} (h : Rd w A xs) (hk : k < xs.length) : ∃ b o x, A = some ⟨b, o, none⟩ ∧ b < w.heap.size ∧ xs[k]? = some x ∧ w.cell? ⟨b, o + k, none⟩ = some (enS x) := by
  obtain ⟨b, o, e, hlt, hc⟩ := h (by omega)
  exact ⟨b, o, xs[k], e, hlt, List.getElem?_eq_getElem hk, hc k _ (List.getElem?_eq_getElem hk)⟩
theorem Rd.take {w : World} {A : Option Addr} {xs : List (List UInt8)} (h : Rd w A xs) (k : Nat) : Rd w A (xs.take k) := fun hl => by
  obtain ⟨b, o, e, hlt, hc⟩ := h (by rw [List.length_take] at hl; omega)
  refine ⟨b, o, e, hlt, fun j x hj => hc j x ?_⟩
  rw [List.getElem?_take] at hj
  split at hj
  · exact hj
  · cases hj
/-- A slice in memory of the call's own reads as what it holds. -/
theorem Rd.of_own {w : World} {base n c : Nat} {e : TypeId} {A : Option Addr} {xs : List (List UInt8)} (h : w.ownsRow base e 1 (.slice A n c) n (xs.map enS)) : Rd w A xs ∧ n = xs.length ∧ n ≤ c := by
  obtain ⟨h1, h2⟩ := h
  have hn : n = xs.length := by simpa using h1.symm
  rcases h2 with ⟨e1, e2⟩ | ⟨g, cap, cur, e1, hb, hg, hcap, hml, hsz, ht⟩
  · injection e1 with a1 a2 a3
    subst a1
    refine ⟨fun hl => absurd hl (by omega), hn, by omega⟩
  · injection e1 with a1 a2 a3
    subst a1 a3
    refine ⟨fun hl => ⟨g, 0, rfl, blk_lt hg, fun j x hj => ?_⟩, hn, hcap⟩
    rw [Nat.zero_add, blk_cell hg j]
    have hj' : (xs.map enS)[j]? = some (enS x) := by rw [List.getElem?_map, hj]; rfl
    rw [← ht, List.getElem?_take] at hj'
    split at hj'
    · simpa using hj'
    · cases hj'
/-- The value of a slice of the call's own. -/
theorem own_slice {w : World} {base n : Nat} {e : TypeId} {v : Value} {xs : List Value} (h : w.ownsRow base e 1 v n xs) : ∃ A c, v = .slice A n c := by
  rcases h.2 with ⟨e1, e2⟩ | ⟨g, cap, cur, e1, _⟩
  · exact ⟨none, 0, by rw [e1, e2]⟩
  · exact ⟨_, cap, e1⟩

/-- What the searches of texts read: a variable of the library's, whatever number it holds. -/
def Env (w : World) : Prop := ∃ m, w.cell? ⟨0, 0, none⟩ = some (.int .i64 m)
theorem Env.below {w w' : World} (h : Env w) (hb : Below w.heap.size w w') : Env w' := h.imp fun _ hm => Below.cellv hb hm
theorem Env.drewN {w : World} (h : Env w) (n : Nat) : Env (w.drewN n) := h
theorem str_info : (Tryd.prog.info? 9).map (fun i => (i.zero, i.size, i.bytes)) = some (some (.string ByteArray.empty), 1, 16) := by kernel_rfl
end Go.Proofs.YthgefcoaaommkaaDoor
