/- Contracts of padded and of the reference's Digits, and of the functions that return the names of days and months.
   The names of days and months: what an index into their arrays yields, and the contracts of the functions that return them. -/
import Derived.Test.YtlchcjnbbhpiaaaGreatDoorZb
import Derived.Test.YtlchcjnbbhpiaaaGreatDoorShE
import Derived.Test.YtlchcjnbbhpiaaaGreatDoorZa
namespace Go.Proofs.YtlchcjnbbhpiaaaGreatDoor.Dt
open Go.Dt
open Go.RowKit
theorem bcat (a b : List UInt8) : (⟨a.toArray⟩ : ByteArray) ++ ⟨b.toArray⟩ = ⟨(a ++ b).toArray⟩ := by
 apply ByteArray.ext; simp
theorem str_congr {a b : ByteArray} (h : a = b) : Value.string a = Value.string b := by rw [h]
theorem conv_one (w : World) (c : Int) (h0 : 0 ≤ c) (h1 : c ≤ 255) :
  (convert 66 9 (.slice (some ⟨w.heap.size, 0, none⟩) 1 1)).run Tryz.prog (w.alloc (.cells #[.int .u8 c] 5)) = .ok (.string ⟨#[UInt8.ofNat c.toNat]⟩) (w.alloc (.cells #[.int .u8 c] 5)) := by
 have h := run_convert_bytes_back (P := Tryz.prog) (w.alloc (.cells #[.int .u8 c] 5)) 66 9 5 ⟨w.heap.size, 0, none⟩ 1 [UInt8.ofNat c.toNat] Tryz.underlying66 Tryz.underlying5 Tryz.underlying9 (by
  intro j hj
  have hj0 : j = 0 := by simpa using hj
  subst hj0
  have hb : (UInt8.ofNat c.toNat).toNat = c.toNat := by simp; omega
  simp [Addr.add, hb]; omega)
 simpa using h
set_option maxRecDepth 100000 in
set_option maxHeartbeats 400000 in
theorem refDigits_any (n : Int) (k : Nat) (w : World) (h0 : 0 ≤ n) (h1 : n ≤ 100000) (hk : k ≤ 100) :
  Calls Tryz.prog 179 #[.int .i64 n, .int .i64 k] w fun e w' => e = .returned (.string ⟨(digs k n).toArray⟩) ∧ Below w.heap.size w w' := by
 go_enter Tryz.func179, Tryz.ntmps179
 go_wp2
 go_loopw [0, 5, 6] (fun x s i wr => ∃ j : Nat, j ≤ k ∧ i = .int .i64 j ∧ x = .int .i64 (dv j n) ∧ s = .string ⟨(digs j n).toArray⟩ ∧ Below w.heap.size w wr) (fun _ _ i _ => k - (intOf i).toNat)
 case atStart => exact ⟨0, by omega, rfl, rfl, rfl, Below.refl _ _⟩
 case round =>
  obtain ⟨j, hj, rfl, rfl, rfl, hB⟩ := hrel
  have d0 := dv_nonneg j n h0
  have d1 : dv j n ≤ 100000 := by have := dv_le j n h0; omega
  clear h1 h0
  have hlen : (digs j n).length ≤ 100 := by rw [digs_length]; omega
  have hcv := conv_one wr (48 + dv j n % 10) (by omega) (by omega)
  by_cases hlt : j < k
  ·have e1 : UInt8.ofNat (48 + dv j n % 10).toNat = dg (dv j n) := by unfold dg; congr 1; omega
   rw [e1] at hcv
   have hd : digs (j + 1) n = dg (dv j n) :: digs j n := rfl
   have HD := Lib.hid hd; clear hd e1
   go_wp2_with fail
   go_roundw
   case rel => exact ⟨j + 1, by omega, by go_num, rfl, by rw [HD.out]; exact str_congr (bcat [dg (dv j n)] (digs j n)), hB.alloc hB.size _⟩
   case measure => simp [intOf]; omega
  ·obtain rfl : j = k := by omega
   go_wp2_with fail
   go_ret
   exact ⟨rfl, hB⟩
/-- The table of powers of ten of strconv lies as the program's text lays it. -/
def Tab (w : World) : Prop := Lib.TabIs Tryz.prog w "internal/strconv.uint64pow10" .u64 Lib.pow10Tab
theorem tab_global : ∃ g, Tryz.prog.globalNamed "internal/strconv.uint64pow10" = some g := Option.isSome_iff_exists.1 (by kernel_rfl)
theorem Tab.lt {w : World} (h : Tab w) {g : Nat} (hg : Tryz.prog.globalNamed "internal/strconv.uint64pow10" = some g) : g < w.heap.size := by
 unfold Tab Lib.TabIs World.var? at h
 simp only [hg, Option.bind_some] at h
 rcases Nat.lt_or_ge g w.heap.size with h' | h'
 ·exact h'
 ·rw [Array.getElem?_eq_none h'] at h; cases h
theorem Tab.below {w w' : World} (h : Tab w) (hb : Below w.heap.size w w') : Tab w' := by
 obtain ⟨g, hg⟩ := tab_global
 exact var?_below hb hg (h.lt hg) h
theorem below_grow (w : World) (k : Nat) (os : Array Obj) : Below w.heap.size w (Sort.grow (w.drewN k) os) :=
 ⟨rfl, rfl, rfl, by simp [Sort.grow, World.drewN], fun i hi => by simp only [Sort.grow, World.drewN]; rw [Array.getElem?_append_left hi]⟩
set_option maxHeartbeats 400000 in
theorem padded2_any (n : Int) (w : World) (h0 : 0 ≤ n) (h1 : n < 100) :
  Calls Tryz.prog 195 #[.int .i64 n, .int .i64 2] w fun e w' => e = .returned (.string ⟨(digs 2 n).toArray⟩) ∧ w = w' := by
 obtain ⟨i, rfl⟩ := Int.eq_ofNat_of_zero_le h0
 have hi : i < 100 := by omega
 clear h0 h1
 have m0 : max (0 : Int) 1 = 1 := rfl
 have m1 : max (0 : Int) 0 = 0 := rfl
 by_cases h9 : i < 10
 ·have hd := digs2_one h9
  have hl : (Lib.decDigits i).length = 1 := by rw [Lib.decDigits_one h9]; rfl
  have HD := Lib.hid hd; clear hd
  have hc := Tryz.strconv_Itoa_small i hi
  have HC := Lib.hid hc; clear hc
  generalize Lib.decDigits i = l at *
  go_enter Tryz.func195, Tryz.ntmps195
  go_wp2_with fail
  refine (HC.out _).mono ?_
  rintro e w' ⟨rfl, rfl⟩
  go_wp2_with fail
  refine (Tryz.strings_Repeat_one _ _).mono ?_
  rintro e w' ⟨rfl, rfl⟩
  go_wp2_with fail
  go_ret
  exact ⟨by rw [HD.out]; exact congrArg Ending.returned (str_congr (bcat [48] l)), rfl⟩
 ·have hd := digs2_two h9 hi
  have hl : (Lib.decDigits i).length = 2 := by rw [Lib.decDigits_two h9 hi]; rfl
  have HD := Lib.hid hd; clear hd
  have hc := Tryz.strconv_Itoa_small i hi
  have HC := Lib.hid hc; clear hc
  generalize Lib.decDigits i = l at *
  go_enter Tryz.func195, Tryz.ntmps195
  go_wp2_with fail
  refine (HC.out _).mono ?_
  rintro e w' ⟨rfl, rfl⟩
  go_wp2_with fail
  refine (Tryz.strings_Repeat_zero _ _).mono ?_
  rintro e w' ⟨rfl, rfl⟩
  go_wp2_with fail
  go_ret
  exact ⟨by rw [HD.out]; exact congrArg Ending.returned (str_congr (bcat [] l)), rfl⟩
set_option maxHeartbeats 400000 in
theorem padded4_any (n : Int) (w : World) (h0 : 1000 ≤ n) (h1 : n < 10000) (ht : Tab w) :
  Calls Tryz.prog 195 #[.int .i64 n, .int .i64 4] w fun e w' => e = .returned (.string ⟨(digs 4 n).toArray⟩) ∧ Below w.heap.size w w' := by
 obtain ⟨i, rfl⟩ := Int.eq_ofNat_of_zero_le (show 0 ≤ n by omega)
 have hd := digs4_four (i := i) (by omega) (by omega)
 have hl : (Lib.decDigits i).length = 4 := by rw [← hd, digs_length]
 have hc := fun w => Tryz.strconv_Itoa i (by omega) (by omega) w
 have ei : Lib.itoa (i : Int) = Lib.decDigits i := by unfold Lib.itoa; rw [if_neg (by omega)]; rfl
 rw [ei] at hc
 have m1 : max (0 : Int) 0 = 0 := rfl
 have HD := Lib.hid hd; clear hd
 have HC := Lib.hid hc; clear hc ei
 have HT := Lib.hid ht; clear ht
 generalize Lib.decDigits i = l at *
 go_enter Tryz.func195, Tryz.ntmps195
 go_wp2_with fail
 refine (HC.out _ HT.out).mono ?_
 rintro e w' ⟨rfl, k, os, rfl⟩
 have hb := below_grow w k os
 generalize Sort.grow (w.drewN k) os = w1 at *
 go_wp2_with fail
 refine (Tryz.strings_Repeat_zero _ _).mono ?_
 rintro e w' ⟨rfl, rfl⟩
 go_wp2_with fail
 go_ret
 exact ⟨by rw [HD.out]; exact congrArg Ending.returned (str_congr (bcat [] l)), hb⟩
open Go.RowKit
theorem index_day0 (w : World) : (Instr.index 203 (.agg #[.string ⟨#[77, 111, 110]⟩, .string ⟨#[84, 117, 101]⟩, .string ⟨#[87, 101, 100]⟩, .string ⟨#[84, 104, 117]⟩, .string ⟨#[70, 114, 105]⟩, .string ⟨#[83, 97, 116]⟩, .string ⟨#[83, 117, 110]⟩]) (.int .i64 0)).run Tryz.prog w = .ok (.string ⟨#[77, 111, 110]⟩) w := by kernel_rfl
theorem index_day1 (w : World) : (Instr.index 203 (.agg #[.string ⟨#[77, 111, 110]⟩, .string ⟨#[84, 117, 101]⟩, .string ⟨#[87, 101, 100]⟩, .string ⟨#[84, 104, 117]⟩, .string ⟨#[70, 114, 105]⟩, .string ⟨#[83, 97, 116]⟩, .string ⟨#[83, 117, 110]⟩]) (.int .i64 1)).run Tryz.prog w = .ok (.string ⟨#[84, 117, 101]⟩) w := by kernel_rfl
theorem index_day2 (w : World) : (Instr.index 203 (.agg #[.string ⟨#[77, 111, 110]⟩, .string ⟨#[84, 117, 101]⟩, .string ⟨#[87, 101, 100]⟩, .string ⟨#[84, 104, 117]⟩, .string ⟨#[70, 114, 105]⟩, .string ⟨#[83, 97, 116]⟩, .string ⟨#[83, 117, 110]⟩]) (.int .i64 2)).run Tryz.prog w = .ok (.string ⟨#[87, 101, 100]⟩) w := by kernel_rfl
theorem index_day3 (w : World) : (Instr.index 203 (.agg #[.string ⟨#[77, 111, 110]⟩, .string ⟨#[84, 117, 101]⟩, .string ⟨#[87, 101, 100]⟩, .string ⟨#[84, 104, 117]⟩, .string ⟨#[70, 114, 105]⟩, .string ⟨#[83, 97, 116]⟩, .string ⟨#[83, 117, 110]⟩]) (.int .i64 3)).run Tryz.prog w = .ok (.string ⟨#[84, 104, 117]⟩) w := by kernel_rfl
theorem index_day4 (w : World) : (Instr.index 203 (.agg #[.string ⟨#[77, 111, 110]⟩, .string ⟨#[84, 117, 101]⟩, .string ⟨#[87, 101, 100]⟩, .string ⟨#[84, 104, 117]⟩, .string ⟨#[70, 114, 105]⟩, .string ⟨#[83, 97, 116]⟩, .string ⟨#[83, 117, 110]⟩]) (.int .i64 4)).run Tryz.prog w = .ok (.string ⟨#[70, 114, 105]⟩) w := by kernel_rfl
theorem index_day5 (w : World) : (Instr.index 203 (.agg #[.string ⟨#[77, 111, 110]⟩, .string ⟨#[84, 117, 101]⟩, .string ⟨#[87, 101, 100]⟩, .string ⟨#[84, 104, 117]⟩, .string ⟨#[70, 114, 105]⟩, .string ⟨#[83, 97, 116]⟩, .string ⟨#[83, 117, 110]⟩]) (.int .i64 5)).run Tryz.prog w = .ok (.string ⟨#[83, 97, 116]⟩) w := by kernel_rfl
theorem index_day6 (w : World) : (Instr.index 203 (.agg #[.string ⟨#[77, 111, 110]⟩, .string ⟨#[84, 117, 101]⟩, .string ⟨#[87, 101, 100]⟩, .string ⟨#[84, 104, 117]⟩, .string ⟨#[70, 114, 105]⟩, .string ⟨#[83, 97, 116]⟩, .string ⟨#[83, 117, 110]⟩]) (.int .i64 6)).run Tryz.prog w = .ok (.string ⟨#[83, 117, 110]⟩) w := by kernel_rfl
theorem index_day (d : Int) (h0 : 0 ≤ d) (h1 : d < 7) (w : World) : (Instr.index 203 (.agg #[.string ⟨#[77, 111, 110]⟩, .string ⟨#[84, 117, 101]⟩, .string ⟨#[87, 101, 100]⟩, .string ⟨#[84, 104, 117]⟩, .string ⟨#[70, 114, 105]⟩, .string ⟨#[83, 97, 116]⟩, .string ⟨#[83, 117, 110]⟩]) (.int .i64 d)).run Tryz.prog w = .ok (.string ⟨(dayN d).toArray⟩) w := by
 have hm : d = 0 ∨ d = 1 ∨ d = 2 ∨ d = 3 ∨ d = 4 ∨ d = 5 ∨ d = 6 := by omega
 rcases hm with rfl | rfl | rfl | rfl | rfl | rfl | rfl
 ·exact index_day0 w
 ·exact index_day1 w
 ·exact index_day2 w
 ·exact index_day3 w
 ·exact index_day4 w
 ·exact index_day5 w
 ·exact index_day6 w
theorem index_mon0 (w : World) : (Instr.index 205 (.agg #[.string ⟨#[74, 97, 110]⟩, .string ⟨#[70, 101, 98]⟩, .string ⟨#[77, 97, 114]⟩, .string ⟨#[65, 112, 114]⟩, .string ⟨#[77, 97, 121]⟩, .string ⟨#[74, 117, 110]⟩, .string ⟨#[74, 117, 108]⟩, .string ⟨#[65, 117, 103]⟩, .string ⟨#[83, 101, 112]⟩, .string ⟨#[79, 99, 116]⟩, .string ⟨#[78, 111, 118]⟩, .string ⟨#[68, 101, 99]⟩]) (.int .i64 0)).run Tryz.prog w = .ok (.string ⟨#[74, 97, 110]⟩) w := by kernel_rfl
theorem index_mon1 (w : World) : (Instr.index 205 (.agg #[.string ⟨#[74, 97, 110]⟩, .string ⟨#[70, 101, 98]⟩, .string ⟨#[77, 97, 114]⟩, .string ⟨#[65, 112, 114]⟩, .string ⟨#[77, 97, 121]⟩, .string ⟨#[74, 117, 110]⟩, .string ⟨#[74, 117, 108]⟩, .string ⟨#[65, 117, 103]⟩, .string ⟨#[83, 101, 112]⟩, .string ⟨#[79, 99, 116]⟩, .string ⟨#[78, 111, 118]⟩, .string ⟨#[68, 101, 99]⟩]) (.int .i64 1)).run Tryz.prog w = .ok (.string ⟨#[70, 101, 98]⟩) w := by kernel_rfl
theorem index_mon2 (w : World) : (Instr.index 205 (.agg #[.string ⟨#[74, 97, 110]⟩, .string ⟨#[70, 101, 98]⟩, .string ⟨#[77, 97, 114]⟩, .string ⟨#[65, 112, 114]⟩, .string ⟨#[77, 97, 121]⟩, .string ⟨#[74, 117, 110]⟩, .string ⟨#[74, 117, 108]⟩, .string ⟨#[65, 117, 103]⟩, .string ⟨#[83, 101, 112]⟩, .string ⟨#[79, 99, 116]⟩, .string ⟨#[78, 111, 118]⟩, .string ⟨#[68, 101, 99]⟩]) (.int .i64 2)).run Tryz.prog w = .ok (.string ⟨#[77, 97, 114]⟩) w := by kernel_rfl
theorem index_mon3 (w : World) : (Instr.index 205 (.agg #[.string ⟨#[74, 97, 110]⟩, .string ⟨#[70, 101, 98]⟩, .string ⟨#[77, 97, 114]⟩, .string ⟨#[65, 112, 114]⟩, .string ⟨#[77, 97, 121]⟩, .string ⟨#[74, 117, 110]⟩, .string ⟨#[74, 117, 108]⟩, .string ⟨#[65, 117, 103]⟩, .string ⟨#[83, 101, 112]⟩, .string ⟨#[79, 99, 116]⟩, .string ⟨#[78, 111, 118]⟩, .string ⟨#[68, 101, 99]⟩]) (.int .i64 3)).run Tryz.prog w = .ok (.string ⟨#[65, 112, 114]⟩) w := by kernel_rfl
theorem index_mon4 (w : World) : (Instr.index 205 (.agg #[.string ⟨#[74, 97, 110]⟩, .string ⟨#[70, 101, 98]⟩, .string ⟨#[77, 97, 114]⟩, .string ⟨#[65, 112, 114]⟩, .string ⟨#[77, 97, 121]⟩, .string ⟨#[74, 117, 110]⟩, .string ⟨#[74, 117, 108]⟩, .string ⟨#[65, 117, 103]⟩, .string ⟨#[83, 101, 112]⟩, .string ⟨#[79, 99, 116]⟩, .string ⟨#[78, 111, 118]⟩, .string ⟨#[68, 101, 99]⟩]) (.int .i64 4)).run Tryz.prog w = .ok (.string ⟨#[77, 97, 121]⟩) w := by kernel_rfl
theorem index_mon5 (w : World) : (Instr.index 205 (.agg #[.string ⟨#[74, 97, 110]⟩, .string ⟨#[70, 101, 98]⟩, .string ⟨#[77, 97, 114]⟩, .string ⟨#[65, 112, 114]⟩, .string ⟨#[77, 97, 121]⟩, .string ⟨#[74, 117, 110]⟩, .string ⟨#[74, 117, 108]⟩, .string ⟨#[65, 117, 103]⟩, .string ⟨#[83, 101, 112]⟩, .string ⟨#[79, 99, 116]⟩, .string ⟨#[78, 111, 118]⟩, .string ⟨#[68, 101, 99]⟩]) (.int .i64 5)).run Tryz.prog w = .ok (.string ⟨#[74, 117, 110]⟩) w := by kernel_rfl
theorem index_mon6 (w : World) : (Instr.index 205 (.agg #[.string ⟨#[74, 97, 110]⟩, .string ⟨#[70, 101, 98]⟩, .string ⟨#[77, 97, 114]⟩, .string ⟨#[65, 112, 114]⟩, .string ⟨#[77, 97, 121]⟩, .string ⟨#[74, 117, 110]⟩, .string ⟨#[74, 117, 108]⟩, .string ⟨#[65, 117, 103]⟩, .string ⟨#[83, 101, 112]⟩, .string ⟨#[79, 99, 116]⟩, .string ⟨#[78, 111, 118]⟩, .string ⟨#[68, 101, 99]⟩]) (.int .i64 6)).run Tryz.prog w = .ok (.string ⟨#[74, 117, 108]⟩) w := by kernel_rfl
theorem index_mon7 (w : World) : (Instr.index 205 (.agg #[.string ⟨#[74, 97, 110]⟩, .string ⟨#[70, 101, 98]⟩, .string ⟨#[77, 97, 114]⟩, .string ⟨#[65, 112, 114]⟩, .string ⟨#[77, 97, 121]⟩, .string ⟨#[74, 117, 110]⟩, .string ⟨#[74, 117, 108]⟩, .string ⟨#[65, 117, 103]⟩, .string ⟨#[83, 101, 112]⟩, .string ⟨#[79, 99, 116]⟩, .string ⟨#[78, 111, 118]⟩, .string ⟨#[68, 101, 99]⟩]) (.int .i64 7)).run Tryz.prog w = .ok (.string ⟨#[65, 117, 103]⟩) w := by kernel_rfl
theorem index_mon8 (w : World) : (Instr.index 205 (.agg #[.string ⟨#[74, 97, 110]⟩, .string ⟨#[70, 101, 98]⟩, .string ⟨#[77, 97, 114]⟩, .string ⟨#[65, 112, 114]⟩, .string ⟨#[77, 97, 121]⟩, .string ⟨#[74, 117, 110]⟩, .string ⟨#[74, 117, 108]⟩, .string ⟨#[65, 117, 103]⟩, .string ⟨#[83, 101, 112]⟩, .string ⟨#[79, 99, 116]⟩, .string ⟨#[78, 111, 118]⟩, .string ⟨#[68, 101, 99]⟩]) (.int .i64 8)).run Tryz.prog w = .ok (.string ⟨#[83, 101, 112]⟩) w := by kernel_rfl
theorem index_mon9 (w : World) : (Instr.index 205 (.agg #[.string ⟨#[74, 97, 110]⟩, .string ⟨#[70, 101, 98]⟩, .string ⟨#[77, 97, 114]⟩, .string ⟨#[65, 112, 114]⟩, .string ⟨#[77, 97, 121]⟩, .string ⟨#[74, 117, 110]⟩, .string ⟨#[74, 117, 108]⟩, .string ⟨#[65, 117, 103]⟩, .string ⟨#[83, 101, 112]⟩, .string ⟨#[79, 99, 116]⟩, .string ⟨#[78, 111, 118]⟩, .string ⟨#[68, 101, 99]⟩]) (.int .i64 9)).run Tryz.prog w = .ok (.string ⟨#[79, 99, 116]⟩) w := by kernel_rfl
theorem index_mon10 (w : World) : (Instr.index 205 (.agg #[.string ⟨#[74, 97, 110]⟩, .string ⟨#[70, 101, 98]⟩, .string ⟨#[77, 97, 114]⟩, .string ⟨#[65, 112, 114]⟩, .string ⟨#[77, 97, 121]⟩, .string ⟨#[74, 117, 110]⟩, .string ⟨#[74, 117, 108]⟩, .string ⟨#[65, 117, 103]⟩, .string ⟨#[83, 101, 112]⟩, .string ⟨#[79, 99, 116]⟩, .string ⟨#[78, 111, 118]⟩, .string ⟨#[68, 101, 99]⟩]) (.int .i64 10)).run Tryz.prog w = .ok (.string ⟨#[78, 111, 118]⟩) w := by kernel_rfl
theorem index_mon11 (w : World) : (Instr.index 205 (.agg #[.string ⟨#[74, 97, 110]⟩, .string ⟨#[70, 101, 98]⟩, .string ⟨#[77, 97, 114]⟩, .string ⟨#[65, 112, 114]⟩, .string ⟨#[77, 97, 121]⟩, .string ⟨#[74, 117, 110]⟩, .string ⟨#[74, 117, 108]⟩, .string ⟨#[65, 117, 103]⟩, .string ⟨#[83, 101, 112]⟩, .string ⟨#[79, 99, 116]⟩, .string ⟨#[78, 111, 118]⟩, .string ⟨#[68, 101, 99]⟩]) (.int .i64 11)).run Tryz.prog w = .ok (.string ⟨#[68, 101, 99]⟩) w := by kernel_rfl
theorem index_mon (d : Int) (h0 : 0 ≤ d) (h1 : d < 12) (w : World) : (Instr.index 205 (.agg #[.string ⟨#[74, 97, 110]⟩, .string ⟨#[70, 101, 98]⟩, .string ⟨#[77, 97, 114]⟩, .string ⟨#[65, 112, 114]⟩, .string ⟨#[77, 97, 121]⟩, .string ⟨#[74, 117, 110]⟩, .string ⟨#[74, 117, 108]⟩, .string ⟨#[65, 117, 103]⟩, .string ⟨#[83, 101, 112]⟩, .string ⟨#[79, 99, 116]⟩, .string ⟨#[78, 111, 118]⟩, .string ⟨#[68, 101, 99]⟩]) (.int .i64 d)).run Tryz.prog w = .ok (.string ⟨(monN (d + 1)).toArray⟩) w := by
 have hm : d = 0 ∨ d = 1 ∨ d = 2 ∨ d = 3 ∨ d = 4 ∨ d = 5 ∨ d = 6 ∨ d = 7 ∨ d = 8 ∨ d = 9 ∨ d = 10 ∨ d = 11 := by omega
 rcases hm with rfl | rfl | rfl | rfl | rfl | rfl | rfl | rfl | rfl | rfl | rfl | rfl
 ·exact index_mon0 w
 ·exact index_mon1 w
 ·exact index_mon2 w
 ·exact index_mon3 w
 ·exact index_mon4 w
 ·exact index_mon5 w
 ·exact index_mon6 w
 ·exact index_mon7 w
 ·exact index_mon8 w
 ·exact index_mon9 w
 ·exact index_mon10 w
 ·exact index_mon11 w
set_option maxHeartbeats 400000 in
theorem dayNames_any (w : World) :
  Calls Tryz.prog 157 #[] w fun e w' => e = .returned (.agg #[.string ⟨#[77, 111, 110]⟩, .string ⟨#[84, 117, 101]⟩, .string ⟨#[87, 101, 100]⟩, .string ⟨#[84, 104, 117]⟩, .string ⟨#[70, 114, 105]⟩, .string ⟨#[83, 97, 116]⟩, .string ⟨#[83, 117, 110]⟩]) ∧ Below w.heap.size w w' := by
 go_enter Tryz.func157, Tryz.ntmps157
 go_wp2
 exact bodyPost_ret (v := .agg #[.string ⟨#[77, 111, 110]⟩, .string ⟨#[84, 117, 101]⟩, .string ⟨#[87, 101, 100]⟩, .string ⟨#[84, 104, 117]⟩, .string ⟨#[70, 114, 105]⟩, .string ⟨#[83, 97, 116]⟩, .string ⟨#[83, 117, 110]⟩]) (by simp [results, Tryz.results157, go_sem]) rfl ⟨rfl, (Below.refl _ _).alloc (Nat.le_refl _) _⟩
set_option maxHeartbeats 400000 in
theorem monthNames_any (w : World) :
  Calls Tryz.prog 158 #[] w fun e w' => e = .returned (.agg #[.string ⟨#[74, 97, 110]⟩, .string ⟨#[70, 101, 98]⟩, .string ⟨#[77, 97, 114]⟩, .string ⟨#[65, 112, 114]⟩, .string ⟨#[77, 97, 121]⟩, .string ⟨#[74, 117, 110]⟩, .string ⟨#[74, 117, 108]⟩, .string ⟨#[65, 117, 103]⟩, .string ⟨#[83, 101, 112]⟩, .string ⟨#[79, 99, 116]⟩, .string ⟨#[78, 111, 118]⟩, .string ⟨#[68, 101, 99]⟩]) ∧ Below w.heap.size w w' := by
 go_enter Tryz.func158, Tryz.ntmps158
 go_wp2
 exact bodyPost_ret (v := .agg #[.string ⟨#[74, 97, 110]⟩, .string ⟨#[70, 101, 98]⟩, .string ⟨#[77, 97, 114]⟩, .string ⟨#[65, 112, 114]⟩, .string ⟨#[77, 97, 121]⟩, .string ⟨#[74, 117, 110]⟩, .string ⟨#[74, 117, 108]⟩, .string ⟨#[65, 117, 103]⟩, .string ⟨#[83, 101, 112]⟩, .string ⟨#[79, 99, 116]⟩, .string ⟨#[78, 111, 118]⟩, .string ⟨#[68, 101, 99]⟩]) (by simp [results, Tryz.results158, go_sem]) rfl ⟨rfl, (Below.refl _ _).alloc (Nat.le_refl _) _⟩
set_option maxHeartbeats 400000 in
theorem refDayNames_any (w : World) :
  Calls Tryz.prog 177 #[] w fun e w' => e = .returned (.slice (some ⟨w.heap.size, 0, none⟩) 7 7) ∧ w' = w.alloc (.cells #[.string ⟨#[77, 111, 110]⟩, .string ⟨#[84, 117, 101]⟩, .string ⟨#[87, 101, 100]⟩, .string ⟨#[84, 104, 117]⟩, .string ⟨#[70, 114, 105]⟩, .string ⟨#[83, 97, 116]⟩, .string ⟨#[83, 117, 110]⟩] 9) := by
 go_enter Tryz.func177, Tryz.ntmps177
 go_wp2
 go_ret
 exact ⟨rfl, rfl⟩
set_option maxHeartbeats 400000 in
theorem refMonthNames_any (w : World) :
  Calls Tryz.prog 180 #[] w fun e w' => e = .returned (.slice (some ⟨w.heap.size, 0, none⟩) 12 12) ∧ w' = w.alloc (.cells #[.string ⟨#[74, 97, 110]⟩, .string ⟨#[70, 101, 98]⟩, .string ⟨#[77, 97, 114]⟩, .string ⟨#[65, 112, 114]⟩, .string ⟨#[77, 97, 121]⟩, .string ⟨#[74, 117, 110]⟩, .string ⟨#[74, 117, 108]⟩, .string ⟨#[65, 117, 103]⟩, .string ⟨#[83, 101, 112]⟩, .string ⟨#[79, 99, 116]⟩, .string ⟨#[78, 111, 118]⟩, .string ⟨#[68, 101, 99]⟩] 9) := by
 go_enter Tryz.func180, Tryz.ntmps180
 go_wp2
 go_ret
 exact ⟨rfl, rfl⟩
end Go.Proofs.YtlchcjnbbhpiaaaGreatDoor.Dt
