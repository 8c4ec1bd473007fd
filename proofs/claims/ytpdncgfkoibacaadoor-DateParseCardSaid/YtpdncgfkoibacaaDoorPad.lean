/- Contracts of padded and of the reference's Digits, and of the functions that return the names of days and months. -/
import Derived.Test.YtpdncgfkoibacaaDoorBase
import Derived.Test.YtpdncgfkoibacaaDoorShelf
import Derived.Test.YtpdncgfkoibacaaDoorTxt
namespace Go.Proofs.YtpdncgfkoibacaaDoor
open Go.RowKit

theorem bcat (a b : List UInt8) : (⟨a.toArray⟩ : ByteArray) ++ ⟨b.toArray⟩ = ⟨(a ++ b).toArray⟩ := by
  apply ByteArray.ext; simp
theorem str_congr {a b : ByteArray} (h : a = b) : Value.string a = Value.string b := by rw [h]
theorem conv_one (w : World) (c : Int) (h0 : 0 ≤ c) (h1 : c ≤ 255) :
    (convert 88 9 (.slice (some ⟨w.heap.size, 0, none⟩) 1 1)).run Tryd.prog (w.alloc (.cells #[.int .u8 c] 5)) = .ok (.string ⟨#[UInt8.ofNat c.toNat]⟩) (w.alloc (.cells #[.int .u8 c] 5)) := by
  have h := run_convert_bytes_back (P := Tryd.prog) (w.alloc (.cells #[.int .u8 c] 5)) 88 9 5 ⟨w.heap.size, 0, none⟩ 1 [UInt8.ofNat c.toNat] Tryd.underlying88 Tryd.underlying5 Tryd.underlying9 (by
    intro j hj
    have hj0 : j = 0 := by simpa using hj
    subst hj0
    have hb : (UInt8.ofNat c.toNat).toNat = c.toNat := by simp; omega
    simp [Addr.add, hb]; omega)
  simpa using h

set_option maxRecDepth 100000 in
set_option maxHeartbeats 400000 in
theorem refDigits_any (n : Int) (k : Nat) (w : World) (h0 : 0 ≤ n) (h1 : n ≤ 100000) (hk : k ≤ 100) :
    Calls Tryd.prog 27 #[.int .i64 n, .int .i64 k] w fun e w' => e = .returned (.string ⟨(digs k n).toArray⟩) ∧ Below w.heap.size w w' := by
  go_enter Tryd.func27, Tryd.ntmps27
  go_wp2
  go_loopw [0, 5, 6] (fun x s i wr => ∃ j : Nat, j ≤ k ∧ i = .int .i64 j ∧ x = .int .i64 (dv j n) ∧ s = .string ⟨(digs j n).toArray⟩ ∧ Below w.heap.size w wr) (fun _ _ i _ => k - (intOf i).toNat)
  case atStart => exact ⟨0, by omega, rfl, rfl, rfl, Below.refl _ _⟩
  case round =>
    obtain ⟨j, hj, rfl, rfl, rfl, hB⟩ := hrel
    have d0 := dv_nonneg j n h0
    have d1 : dv j n ≤ 100000 := by have := dv_le j n h0; omega
    clear h1 h0
    have hlen : (digs j n).length ≤ 100 := by rw [digs_length]; omega
    have hcv := conv_one wr (48 + dv j n % 10) (by omega) (by omega)
    by_cases hlt : j < k
    · have e1 : UInt8.ofNat (48 + dv j n % 10).toNat = dg (dv j n) := by unfold dg; congr 1; omega
      rw [e1] at hcv
      have hd : digs (j + 1) n = dg (dv j n) :: digs j n := rfl
      have HD := Lib.hid hd; clear hd e1
      go_wp2_with fail
      go_roundw
      case rel => exact ⟨j + 1, by omega, by go_num, rfl, by rw [HD.out]; exact str_congr (bcat [dg (dv j n)] (digs j n)), hB.alloc hB.size _⟩
      case measure => simp [intOf]; omega
    · obtain rfl : j = k := by omega
      go_wp2_with fail
      go_ret
      exact ⟨rfl, hB⟩

/-- The table of powers of ten of strconv lies as the program's text lays it. -/
def Tab (w : World) : Prop := Lib.TabIs Tryd.prog w "internal/strconv.uint64pow10" .u64 Lib.pow10Tab
theorem tab_global : ∃ g, Tryd.prog.globalNamed "internal/strconv.uint64pow10" = some g := ⟨0, by kernel_rfl⟩
theorem Tab.lt {w : World} (h : Tab w) {g : Nat} (hg : Tryd.prog.globalNamed "internal/strconv.uint64pow10" = some g) : g < w.heap.size := by
  unfold Tab Lib.TabIs World.var? at h
  simp only [hg, Option.bind_some] at h
  rcases Nat.lt_or_ge g w.heap.size with h' | h'
  · exact h'
  · rw [Array.getElem?_eq_none h'] at h; cases h
theorem Tab.below {w w' : World} (h : Tab w) (hb : Below w.heap.size w w') : Tab w' := by
  obtain ⟨g, hg⟩ := tab_global
  exact var?_below hb hg (h.lt hg) h
theorem below_grow (w : World) (k : Nat) (os : Array Obj) : Below w.heap.size w (Sort.grow (w.drewN k) os) :=
  ⟨rfl, rfl, rfl, by simp [Sort.grow, World.drewN], fun i hi => by simp only [Sort.grow, World.drewN]; rw [Array.getElem?_append_left hi]⟩

set_option maxHeartbeats 400000 in
theorem padded2_any (n : Int) (w : World) (h0 : 0 ≤ n) (h1 : n < 100) :
    Calls Tryd.prog 43 #[.int .i64 n, .int .i64 2] w fun e w' => e = .returned (.string ⟨(digs 2 n).toArray⟩) ∧ w = w' := by
  obtain ⟨i, rfl⟩ := Int.eq_ofNat_of_zero_le h0
  have hi : i < 100 := by omega
  clear h0 h1
  have m0 : max (0 : Int) 1 = 1 := rfl
  have m1 : max (0 : Int) 0 = 0 := rfl
  by_cases h9 : i < 10
  · have hd := digs2_one h9
    have hl : (Lib.decDigits i).length = 1 := by rw [Lib.decDigits_one h9]; rfl
    have HD := Lib.hid hd; clear hd
    have hc := Tryd.strconv_Itoa_small i hi
    have HC := Lib.hid hc; clear hc
    generalize Lib.decDigits i = l at *
    go_enter Tryd.func43, Tryd.ntmps43
    go_wp2_with fail
    refine (HC.out _).mono ?_
    rintro e w' ⟨rfl, rfl⟩
    go_wp2_with fail
    refine (Tryd.strings_Repeat_one _ _).mono ?_
    rintro e w' ⟨rfl, rfl⟩
    go_wp2_with fail
    go_ret
    exact ⟨by rw [HD.out]; exact congrArg Ending.returned (str_congr (bcat [48] l)), rfl⟩
  · have hd := digs2_two h9 hi
    have hl : (Lib.decDigits i).length = 2 := by rw [Lib.decDigits_two h9 hi]; rfl
    have HD := Lib.hid hd; clear hd
    have hc := Tryd.strconv_Itoa_small i hi
    have HC := Lib.hid hc; clear hc
    generalize Lib.decDigits i = l at *
    go_enter Tryd.func43, Tryd.ntmps43
    go_wp2_with fail
    refine (HC.out _).mono ?_
    rintro e w' ⟨rfl, rfl⟩
    go_wp2_with fail
    refine (Tryd.strings_Repeat_zero _ _).mono ?_
    rintro e w' ⟨rfl, rfl⟩
    go_wp2_with fail
    go_ret
    exact ⟨by rw [HD.out]; exact congrArg Ending.returned (str_congr (bcat [] l)), rfl⟩

set_option maxHeartbeats 400000 in
theorem padded4_any (n : Int) (w : World) (h0 : 1000 ≤ n) (h1 : n < 10000) (ht : Tab w) :
    Calls Tryd.prog 43 #[.int .i64 n, .int .i64 4] w fun e w' => e = .returned (.string ⟨(digs 4 n).toArray⟩) ∧ Below w.heap.size w w' := by
  obtain ⟨i, rfl⟩ := Int.eq_ofNat_of_zero_le (show 0 ≤ n by omega)
  have hd := digs4_four (i := i) (by omega) (by omega)
  have hl : (Lib.decDigits i).length = 4 := by rw [← hd, digs_length]
  have hc := fun w => Tryd.strconv_Itoa i (by omega) (by omega) w
  have ei : Lib.itoa (i : Int) = Lib.decDigits i := by unfold Lib.itoa; rw [if_neg (by omega)]; rfl
  rw [ei] at hc
  have m1 : max (0 : Int) 0 = 0 := rfl
  have HD := Lib.hid hd; clear hd
  have HC := Lib.hid hc; clear hc ei
  have HT := Lib.hid ht; clear ht
  generalize Lib.decDigits i = l at *
  go_enter Tryd.func43, Tryd.ntmps43
  go_wp2_with fail
  refine (HC.out _ HT.out).mono ?_
  rintro e w' ⟨rfl, k, os, rfl⟩
  have hb := below_grow w k os
  generalize Sort.grow (w.drewN k) os = w1 at *
  go_wp2_with fail
  refine (Tryd.strings_Repeat_zero _ _).mono ?_
  rintro e w' ⟨rfl, rfl⟩
  go_wp2_with fail
  go_ret
  exact ⟨by rw [HD.out]; exact congrArg Ending.returned (str_congr (bcat [] l)), hb⟩
end Go.Proofs.YtpdncgfkoibacaaDoor
