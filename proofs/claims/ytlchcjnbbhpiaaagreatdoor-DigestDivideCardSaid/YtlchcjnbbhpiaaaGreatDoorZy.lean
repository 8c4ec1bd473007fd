/- Group names as lists of bytes: the parts of a text at a byte, and the text of parts. Of no program.
   Restoring: the pieces of a text that ends with a line feed. Of no program.
   Lines of a text read byte by byte; what the reference's loops have put together. Of no program. -/
import Derived.Lib.SplitLaws
import Derived.Lib.Join
import Derived.Test.YtlchcjnbbhpiaaaGreatDoorZa
import Derived.Lib.Strings
namespace Go.Gn
end Go.Gn
namespace Go.Dg
open Go.Lib
theorem lns_snoc : ∀ t : List UInt8, lns (t ++ [10]) = (pcs t, [])
 | [] => rfl
 | c :: t => by
  have ih := lns_snoc t
  unfold pcs at ih ⊢
  rw [List.cons_append, lns, ih, lns]
  by_cases h : c = 10
  ·rw [if_pos h, if_pos h]; rfl
  ·rw [if_neg h, if_neg h]
   cases hl : (lns t).1 with
   | nil => rfl
   | cons l ls => rfl
theorem lns_snoc_ne : ∀ (t : List UInt8) {c : UInt8}, c ≠ 10 → lns (t ++ [c]) = ((lns t).1, (lns t).2 ++ [c])
 | [], c, h => by
  show lns [c] = ([], [c])
  simp [lns, h]
 | b :: t, c, h => by
  have ih := lns_snoc_ne t h
  rw [List.cons_append, lns, ih, lns]
  by_cases hb : b = 10
  ·rw [if_pos hb, if_pos hb]
  ·rw [if_neg hb, if_neg hb]
   cases hl : (lns t).1 with
   | nil => rfl
   | cons l ls => rfl
/-- The place where the line under way begins, the line. -/
def frm (t : List UInt8) : Nat := (unl (lns t).1).length
def curL (t : List UInt8) : List UInt8 := (lns t).2
def outP (t : List UInt8) : List UInt8 := unl ((lns t).1.map fun p => dash p ++ p)
theorem frm_le (t : List UInt8) : frm t + (curL t).length = t.length := by
 have h := congrArg List.length (lns_eq t)
 rw [List.length_append] at h
 exact h
theorem cur_eq (t : List UInt8) : t.drop (frm t) = curL t := by
 have h : t.drop (frm t) = (unl (lns t).1 ++ (lns t).2).drop (unl (lns t).1).length := by rw [lns_eq]; rfl
 rw [h, List.drop_left]
 rfl
theorem outP_end (t : List UInt8) : prot t = outP t ++ (dash (curL t) ++ curL t ++ [10]) := by
 unfold prot protL pcs outP curL
 rw [List.map_append, List.map_singleton]
 have e : ∀ a b : List (List UInt8), unl (a ++ b) = unl a ++ unl b := fun a b => by simp [unl]
 rw [e]
 congr 1
 simp [unl]
theorem frm_nl (t : List UInt8) : frm (t ++ [10]) = t.length + 1 := by
 have h := frm_le (t ++ [10])
 have e : curL (t ++ [10]) = [] := by unfold curL; rw [lns_snoc]
 rw [e] at h
 simpa using h
theorem frm_ne (t : List UInt8) {c : UInt8} (h : c ≠ 10) : frm (t ++ [c]) = frm t := by unfold frm; rw [lns_snoc_ne t h]
theorem outP_nl (t : List UInt8) : outP (t ++ [10]) = outP t ++ (dash (curL t) ++ curL t ++ [10]) := by
 rw [← outP_end]
 unfold outP
 rw [lns_snoc]
 rfl
theorem outP_ne (t : List UInt8) {c : UInt8} (h : c ≠ 10) : outP (t ++ [c]) = outP t := by unfold outP; rw [lns_snoc_ne t h]
theorem outP_len (t : List UInt8) : (outP t).length ≤ 3 * t.length + 3 := by
 have h := prot_length t
 rw [outP_end, List.length_append] at h
 omega
end Go.Dg
