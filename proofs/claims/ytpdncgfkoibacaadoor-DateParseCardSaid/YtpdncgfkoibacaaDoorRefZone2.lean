/- Contract of Zone of the reference of package date. -/
import Derived.Test.YtpdncgfkoibacaaDoorRefZone
namespace Go.Proofs.YtpdncgfkoibacaaDoor
open Go.RowKit

theorem ret_pair {a b c d : Int} (h : a = c) (h' : b = d) : Ending.returned (.tuple #[.int .i64 a, .int .i64 b]) = .returned (.tuple #[.int .i64 c, .int .i64 d]) := by rw [h, h']

set_option maxRecDepth 100000 in
set_option maxHeartbeats 2000000 in
theorem refZone_len (z : List UInt8) (w : World) (hl : z.length ≤ 1000) (hf : find3 zNames z = none) (h5 : z.length ≠ 5) :
    Calls Tryd.prog 24 #[.string ⟨z.toArray⟩] w fun r w' => r = .returned (.tuple #[.int .i64 0, .int .i64 3]) ∧ Below w.heap.size w w' := by
  have HF := Lib.hid hf; clear hf
  have n5 : ((z.length : Int) == 5) = false := by simp; omega
  have m5 : ((z.length : Int) != 5) = true := by simp; omega
  clear h5
  go_enter Tryd.func24, Tryd.ntmps24
  go_wp2_with fail
  refine (index_any zNames z w.heap.size _ (by decide) zNames_lens hl (zNames_cells (blk_old _ (blk_new w _)))).mono ?_; rintro r w1 ⟨rfl, b1⟩
  rw [HF.out]
  have hio : idxOr none = -1 := rfl
  rw [hio]
  have hB : Below w.heap.size w w1 := ((((Below.refl _ _).alloc (Nat.le_refl _) _).alloc (by simp) _).trans (b1.mono (by simp; omega)))
  clear b1 hio
  go_wp2_with fail
  go_ret2
  exact ⟨rfl, hB⟩

set_option maxRecDepth 100000 in
set_option maxHeartbeats 2000000 in
theorem refZone_sign (z : List UInt8) (w : World) (hl : z.length ≤ 1000) (hf : find3 zNames z = none) (h5 : z.length = 5) (h0 : at0 z 0 ≠ 43 ∧ at0 z 0 ≠ 45) :
    Calls Tryd.prog 24 #[.string ⟨z.toArray⟩] w fun r w' => r = .returned (.tuple #[.int .i64 0, .int .i64 3]) ∧ Below w.heap.size w w' := by
  have HF := Lib.hid hf; clear hf
  have n5 : ((z.length : Int) == 5) = true := by simp [h5]
  have m5 : ((z.length : Int) != 5) = false := by simp [h5]
  have hz5 : 5 ≤ z.length := by omega
  clear h5
  have bg0 := bget (t := z) (p := 0) (show 0 < z.toArray.size by simpa using Nat.lt_of_lt_of_le (show 0 < 5 by decide) hz5) (Nat.lt_of_lt_of_le (show 0 < 5 by decide) hz5)
  obtain ⟨c0, hc0⟩ : ∃ c, at0 z 0 = c := ⟨_, rfl⟩
  have cb0 := c0.toNat_lt
  rw [hc0] at bg0
  have g0 : c0.toNat ≠ 43 ∧ c0.toNat ≠ 45 := by
    rw [hc0] at h0
    exact ⟨fun e => h0.1 (UInt8.toNat_inj.1 e), fun e => h0.2 (UInt8.toNat_inj.1 e)⟩
  have ec043 : ((c0.toNat : Int) == 43) = false := by simp; omega
  have fc043 : ((c0.toNat : Int) != 43) = true := by simp; omega
  have ec045 : ((c0.toNat : Int) == 45) = false := by simp; omega
  have fc045 : ((c0.toNat : Int) != 45) = true := by simp; omega
  clear h0 g0 hc0
  go_enter Tryd.func24, Tryd.ntmps24
  go_wp2_with fail
  refine (index_any zNames z w.heap.size _ (by decide) zNames_lens hl (zNames_cells (blk_old _ (blk_new w _)))).mono ?_; rintro r w1 ⟨rfl, b1⟩
  rw [HF.out]
  have hio : idxOr none = -1 := rfl
  rw [hio]
  have hB : Below w.heap.size w w1 := ((((Below.refl _ _).alloc (Nat.le_refl _) _).alloc (by simp) _).trans (b1.mono (by simp; omega)))
  clear b1 hio
  go_wp2_with fail
  go_ret2
  exact ⟨rfl, hB⟩

set_option maxRecDepth 100000 in
set_option maxHeartbeats 2000000 in
theorem refZone_p1 (z : List UInt8) (w : World) (hl : z.length ≤ 1000) (hf : find3 zNames z = none) (h5 : z.length = 5) (h0 : at0 z 0 = 43) (h1 : isDig (at0 z 1) = false) :
    Calls Tryd.prog 24 #[.string ⟨z.toArray⟩] w fun r w' => r = .returned (.tuple #[.int .i64 0, .int .i64 3]) ∧ Below w.heap.size w w' := by
  have HF := Lib.hid hf; clear hf
  have n5 : ((z.length : Int) == 5) = true := by simp [h5]
  have m5 : ((z.length : Int) != 5) = false := by simp [h5]
  have hz5 : 5 ≤ z.length := by omega
  clear h5
  have bg0 := bget (t := z) (p := 0) (show 0 < z.toArray.size by simpa using Nat.lt_of_lt_of_le (show 0 < 5 by decide) hz5) (Nat.lt_of_lt_of_le (show 0 < 5 by decide) hz5)
  obtain ⟨c0, hc0⟩ : ∃ c, at0 z 0 = c := ⟨_, rfl⟩
  have cb0 := c0.toNat_lt
  rw [hc0] at bg0
  have g0 : c0.toNat = 43 := by rw [← hc0, h0]; rfl
  have ec043 : ((c0.toNat : Int) == 43) = true := by simp; omega
  have fc043 : ((c0.toNat : Int) != 43) = false := by simp; omega
  have ec045 : ((c0.toNat : Int) == 45) = false := by simp; omega
  have fc045 : ((c0.toNat : Int) != 45) = true := by simp; omega
  clear g0 h0 hc0
  have bg1 := bget (t := z) (p := 1) (show 1 < z.toArray.size by simpa using Nat.lt_of_lt_of_le (show 1 < 5 by decide) hz5) (Nat.lt_of_lt_of_le (show 1 < 5 by decide) hz5)
  obtain ⟨c1, hc1⟩ : ∃ c, at0 z 1 = c := ⟨_, rfl⟩
  have cb1 := c1.toNat_lt
  rw [hc1] at bg1
  have d1 : isDig c1 = false := by rw [← hc1]; exact h1
  clear h1 hc1
  go_enter Tryd.func24, Tryd.ntmps24
  go_wp2_with fail
  refine (index_any zNames z w.heap.size _ (by decide) zNames_lens hl (zNames_cells (blk_old _ (blk_new w _)))).mono ?_; rintro r w1 ⟨rfl, b1⟩
  rw [HF.out]
  have hio : idxOr none = -1 := rfl
  rw [hio]
  have hB : Below w.heap.size w w1 := ((((Below.refl _ _).alloc (Nat.le_refl _) _).alloc (by simp) _).trans (b1.mono (by simp; omega)))
  clear b1 hio
  go_wp2_with fail
  refine (refDigit_any c1 _).mono ?_; rintro r w2 ⟨rfl, rfl⟩
  go_wp2_with fail
  go_ret2
  exact ⟨rfl, hB⟩

set_option maxRecDepth 100000 in
set_option maxHeartbeats 2000000 in
theorem refZone_p2 (z : List UInt8) (w : World) (hl : z.length ≤ 1000) (hf : find3 zNames z = none) (h5 : z.length = 5) (h0 : at0 z 0 = 43) (h1 : isDig (at0 z 1) = true) (h2 : isDig (at0 z 2) = false) :
    Calls Tryd.prog 24 #[.string ⟨z.toArray⟩] w fun r w' => r = .returned (.tuple #[.int .i64 0, .int .i64 3]) ∧ Below w.heap.size w w' := by
  have HF := Lib.hid hf; clear hf
  have n5 : ((z.length : Int) == 5) = true := by simp [h5]
  have m5 : ((z.length : Int) != 5) = false := by simp [h5]
  have hz5 : 5 ≤ z.length := by omega
  clear h5
  have bg0 := bget (t := z) (p := 0) (show 0 < z.toArray.size by simpa using Nat.lt_of_lt_of_le (show 0 < 5 by decide) hz5) (Nat.lt_of_lt_of_le (show 0 < 5 by decide) hz5)
  obtain ⟨c0, hc0⟩ : ∃ c, at0 z 0 = c := ⟨_, rfl⟩
  have cb0 := c0.toNat_lt
  rw [hc0] at bg0
  have g0 : c0.toNat = 43 := by rw [← hc0, h0]; rfl
  have ec043 : ((c0.toNat : Int) == 43) = true := by simp; omega
  have fc043 : ((c0.toNat : Int) != 43) = false := by simp; omega
  have ec045 : ((c0.toNat : Int) == 45) = false := by simp; omega
  have fc045 : ((c0.toNat : Int) != 45) = true := by simp; omega
  clear g0 h0 hc0
  have bg1 := bget (t := z) (p := 1) (show 1 < z.toArray.size by simpa using Nat.lt_of_lt_of_le (show 1 < 5 by decide) hz5) (Nat.lt_of_lt_of_le (show 1 < 5 by decide) hz5)
  obtain ⟨c1, hc1⟩ : ∃ c, at0 z 1 = c := ⟨_, rfl⟩
  have cb1 := c1.toNat_lt
  rw [hc1] at bg1
  have d1 : isDig c1 = true := by rw [← hc1]; exact h1
  clear h1 hc1
  have bg2 := bget (t := z) (p := 2) (show 2 < z.toArray.size by simpa using Nat.lt_of_lt_of_le (show 2 < 5 by decide) hz5) (Nat.lt_of_lt_of_le (show 2 < 5 by decide) hz5)
  obtain ⟨c2, hc2⟩ : ∃ c, at0 z 2 = c := ⟨_, rfl⟩
  have cb2 := c2.toNat_lt
  rw [hc2] at bg2
  have d2 : isDig c2 = false := by rw [← hc2]; exact h2
  clear h2 hc2
  go_enter Tryd.func24, Tryd.ntmps24
  go_wp2_with fail
  refine (index_any zNames z w.heap.size _ (by decide) zNames_lens hl (zNames_cells (blk_old _ (blk_new w _)))).mono ?_; rintro r w1 ⟨rfl, b1⟩
  rw [HF.out]
  have hio : idxOr none = -1 := rfl
  rw [hio]
  have hB : Below w.heap.size w w1 := ((((Below.refl _ _).alloc (Nat.le_refl _) _).alloc (by simp) _).trans (b1.mono (by simp; omega)))
  clear b1 hio
  go_wp2_with fail
  refine (refDigit_any c1 _).mono ?_; rintro r w2 ⟨rfl, rfl⟩
  go_wp2_with fail
  refine (refDigit_any c2 _).mono ?_; rintro r w2 ⟨rfl, rfl⟩
  go_wp2_with fail
  go_ret2
  exact ⟨rfl, hB⟩

set_option maxRecDepth 100000 in
set_option maxHeartbeats 2000000 in
theorem refZone_p3 (z : List UInt8) (w : World) (hl : z.length ≤ 1000) (hf : find3 zNames z = none) (h5 : z.length = 5) (h0 : at0 z 0 = 43) (h1 : isDig (at0 z 1) = true) (h2 : isDig (at0 z 2) = true) (h3 : isDig (at0 z 3) = false) :
    Calls Tryd.prog 24 #[.string ⟨z.toArray⟩] w fun r w' => r = .returned (.tuple #[.int .i64 0, .int .i64 3]) ∧ Below w.heap.size w w' := by
  have HF := Lib.hid hf; clear hf
  have n5 : ((z.length : Int) == 5) = true := by simp [h5]
  have m5 : ((z.length : Int) != 5) = false := by simp [h5]
  have hz5 : 5 ≤ z.length := by omega
  clear h5
  have bg0 := bget (t := z) (p := 0) (show 0 < z.toArray.size by simpa using Nat.lt_of_lt_of_le (show 0 < 5 by decide) hz5) (Nat.lt_of_lt_of_le (show 0 < 5 by decide) hz5)
  obtain ⟨c0, hc0⟩ : ∃ c, at0 z 0 = c := ⟨_, rfl⟩
  have cb0 := c0.toNat_lt
  rw [hc0] at bg0
  have g0 : c0.toNat = 43 := by rw [← hc0, h0]; rfl
  have ec043 : ((c0.toNat : Int) == 43) = true := by simp; omega
  have fc043 : ((c0.toNat : Int) != 43) = false := by simp; omega
  have ec045 : ((c0.toNat : Int) == 45) = false := by simp; omega
  have fc045 : ((c0.toNat : Int) != 45) = true := by simp; omega
  clear g0 h0 hc0
  have bg1 := bget (t := z) (p := 1) (show 1 < z.toArray.size by simpa using Nat.lt_of_lt_of_le (show 1 < 5 by decide) hz5) (Nat.lt_of_lt_of_le (show 1 < 5 by decide) hz5)
  obtain ⟨c1, hc1⟩ : ∃ c, at0 z 1 = c := ⟨_, rfl⟩
  have cb1 := c1.toNat_lt
  rw [hc1] at bg1
  have d1 : isDig c1 = true := by rw [← hc1]; exact h1
  clear h1 hc1
  have bg2 := bget (t := z) (p := 2) (show 2 < z.toArray.size by simpa using Nat.lt_of_lt_of_le (show 2 < 5 by decide) hz5) (Nat.lt_of_lt_of_le (show 2 < 5 by decide) hz5)
  obtain ⟨c2, hc2⟩ : ∃ c, at0 z 2 = c := ⟨_, rfl⟩
  have cb2 := c2.toNat_lt
  rw [hc2] at bg2
  have d2 : isDig c2 = true := by rw [← hc2]; exact h2
  clear h2 hc2
  have bg3 := bget (t := z) (p := 3) (show 3 < z.toArray.size by simpa using Nat.lt_of_lt_of_le (show 3 < 5 by decide) hz5) (Nat.lt_of_lt_of_le (show 3 < 5 by decide) hz5)
  obtain ⟨c3, hc3⟩ : ∃ c, at0 z 3 = c := ⟨_, rfl⟩
  have cb3 := c3.toNat_lt
  rw [hc3] at bg3
  have d3 : isDig c3 = false := by rw [← hc3]; exact h3
  clear h3 hc3
  go_enter Tryd.func24, Tryd.ntmps24
  go_wp2_with fail
  refine (index_any zNames z w.heap.size _ (by decide) zNames_lens hl (zNames_cells (blk_old _ (blk_new w _)))).mono ?_; rintro r w1 ⟨rfl, b1⟩
  rw [HF.out]
  have hio : idxOr none = -1 := rfl
  rw [hio]
  have hB : Below w.heap.size w w1 := ((((Below.refl _ _).alloc (Nat.le_refl _) _).alloc (by simp) _).trans (b1.mono (by simp; omega)))
  clear b1 hio
  go_wp2_with fail
  refine (refDigit_any c1 _).mono ?_; rintro r w2 ⟨rfl, rfl⟩
  go_wp2_with fail
  refine (refDigit_any c2 _).mono ?_; rintro r w2 ⟨rfl, rfl⟩
  go_wp2_with fail
  refine (refDigit_any c3 _).mono ?_; rintro r w2 ⟨rfl, rfl⟩
  go_wp2_with fail
  go_ret2
  exact ⟨rfl, hB⟩

set_option maxRecDepth 100000 in
set_option maxHeartbeats 2000000 in
theorem refZone_p4 (z : List UInt8) (w : World) (hl : z.length ≤ 1000) (hf : find3 zNames z = none) (h5 : z.length = 5) (h0 : at0 z 0 = 43) (h1 : isDig (at0 z 1) = true) (h2 : isDig (at0 z 2) = true) (h3 : isDig (at0 z 3) = true) (h4 : isDig (at0 z 4) = false) :
    Calls Tryd.prog 24 #[.string ⟨z.toArray⟩] w fun r w' => r = .returned (.tuple #[.int .i64 0, .int .i64 3]) ∧ Below w.heap.size w w' := by
  have HF := Lib.hid hf; clear hf
  have n5 : ((z.length : Int) == 5) = true := by simp [h5]
  have m5 : ((z.length : Int) != 5) = false := by simp [h5]
  have hz5 : 5 ≤ z.length := by omega
  clear h5
  have bg0 := bget (t := z) (p := 0) (show 0 < z.toArray.size by simpa using Nat.lt_of_lt_of_le (show 0 < 5 by decide) hz5) (Nat.lt_of_lt_of_le (show 0 < 5 by decide) hz5)
  obtain ⟨c0, hc0⟩ : ∃ c, at0 z 0 = c := ⟨_, rfl⟩
  have cb0 := c0.toNat_lt
  rw [hc0] at bg0
  have g0 : c0.toNat = 43 := by rw [← hc0, h0]; rfl
  have ec043 : ((c0.toNat : Int) == 43) = true := by simp; omega
  have fc043 : ((c0.toNat : Int) != 43) = false := by simp; omega
  have ec045 : ((c0.toNat : Int) == 45) = false := by simp; omega
  have fc045 : ((c0.toNat : Int) != 45) = true := by simp; omega
  clear g0 h0 hc0
  have bg1 := bget (t := z) (p := 1) (show 1 < z.toArray.size by simpa using Nat.lt_of_lt_of_le (show 1 < 5 by decide) hz5) (Nat.lt_of_lt_of_le (show 1 < 5 by decide) hz5)
  obtain ⟨c1, hc1⟩ : ∃ c, at0 z 1 = c := ⟨_, rfl⟩
  have cb1 := c1.toNat_lt
  rw [hc1] at bg1
  have d1 : isDig c1 = true := by rw [← hc1]; exact h1
  clear h1 hc1
  have bg2 := bget (t := z) (p := 2) (show 2 < z.toArray.size by simpa using Nat.lt_of_lt_of_le (show 2 < 5 by decide) hz5) (Nat.lt_of_lt_of_le (show 2 < 5 by decide) hz5)
  obtain ⟨c2, hc2⟩ : ∃ c, at0 z 2 = c := ⟨_, rfl⟩
  have cb2 := c2.toNat_lt
  rw [hc2] at bg2
  have d2 : isDig c2 = true := by rw [← hc2]; exact h2
  clear h2 hc2
  have bg3 := bget (t := z) (p := 3) (show 3 < z.toArray.size by simpa using Nat.lt_of_lt_of_le (show 3 < 5 by decide) hz5) (Nat.lt_of_lt_of_le (show 3 < 5 by decide) hz5)
  obtain ⟨c3, hc3⟩ : ∃ c, at0 z 3 = c := ⟨_, rfl⟩
  have cb3 := c3.toNat_lt
  rw [hc3] at bg3
  have d3 : isDig c3 = true := by rw [← hc3]; exact h3
  clear h3 hc3
  have bg4 := bget (t := z) (p := 4) (show 4 < z.toArray.size by simpa using Nat.lt_of_lt_of_le (show 4 < 5 by decide) hz5) (Nat.lt_of_lt_of_le (show 4 < 5 by decide) hz5)
  obtain ⟨c4, hc4⟩ : ∃ c, at0 z 4 = c := ⟨_, rfl⟩
  have cb4 := c4.toNat_lt
  rw [hc4] at bg4
  have d4 : isDig c4 = false := by rw [← hc4]; exact h4
  clear h4 hc4
  go_enter Tryd.func24, Tryd.ntmps24
  go_wp2_with fail
  refine (index_any zNames z w.heap.size _ (by decide) zNames_lens hl (zNames_cells (blk_old _ (blk_new w _)))).mono ?_; rintro r w1 ⟨rfl, b1⟩
  rw [HF.out]
  have hio : idxOr none = -1 := rfl
  rw [hio]
  have hB : Below w.heap.size w w1 := ((((Below.refl _ _).alloc (Nat.le_refl _) _).alloc (by simp) _).trans (b1.mono (by simp; omega)))
  clear b1 hio
  go_wp2_with fail
  refine (refDigit_any c1 _).mono ?_; rintro r w2 ⟨rfl, rfl⟩
  go_wp2_with fail
  refine (refDigit_any c2 _).mono ?_; rintro r w2 ⟨rfl, rfl⟩
  go_wp2_with fail
  refine (refDigit_any c3 _).mono ?_; rintro r w2 ⟨rfl, rfl⟩
  go_wp2_with fail
  refine (refDigit_any c4 _).mono ?_; rintro r w2 ⟨rfl, rfl⟩
  go_wp2_with fail
  go_ret2
  exact ⟨rfl, hB⟩

set_option maxRecDepth 100000 in
set_option maxHeartbeats 2000000 in
theorem refZone_pmin (z : List UInt8) (w : World) (hl : z.length ≤ 1000) (hf : find3 zNames z = none) (h5 : z.length = 5) (h0 : at0 z 0 = 43) (h1 : isDig (at0 z 1) = true) (h2 : isDig (at0 z 2) = true) (h3 : isDig (at0 z 3) = true) (h4 : isDig (at0 z 4) = true) (h6 : 53 < (at0 z 3).toNat) :
    Calls Tryd.prog 24 #[.string ⟨z.toArray⟩] w fun r w' => r = .returned (.tuple #[.int .i64 0, .int .i64 3]) ∧ Below w.heap.size w w' := by
  have HF := Lib.hid hf; clear hf
  have n5 : ((z.length : Int) == 5) = true := by simp [h5]
  have m5 : ((z.length : Int) != 5) = false := by simp [h5]
  have hz5 : 5 ≤ z.length := by omega
  clear h5
  have bg0 := bget (t := z) (p := 0) (show 0 < z.toArray.size by simpa using Nat.lt_of_lt_of_le (show 0 < 5 by decide) hz5) (Nat.lt_of_lt_of_le (show 0 < 5 by decide) hz5)
  obtain ⟨c0, hc0⟩ : ∃ c, at0 z 0 = c := ⟨_, rfl⟩
  have cb0 := c0.toNat_lt
  rw [hc0] at bg0
  have g0 : c0.toNat = 43 := by rw [← hc0, h0]; rfl
  have ec043 : ((c0.toNat : Int) == 43) = true := by simp; omega
  have fc043 : ((c0.toNat : Int) != 43) = false := by simp; omega
  have ec045 : ((c0.toNat : Int) == 45) = false := by simp; omega
  have fc045 : ((c0.toNat : Int) != 45) = true := by simp; omega
  clear g0 h0 hc0
  have bg1 := bget (t := z) (p := 1) (show 1 < z.toArray.size by simpa using Nat.lt_of_lt_of_le (show 1 < 5 by decide) hz5) (Nat.lt_of_lt_of_le (show 1 < 5 by decide) hz5)
  obtain ⟨c1, hc1⟩ : ∃ c, at0 z 1 = c := ⟨_, rfl⟩
  have cb1 := c1.toNat_lt
  rw [hc1] at bg1
  have d1 : isDig c1 = true := by rw [← hc1]; exact h1
  have dd1 : 48 ≤ c1.toNat ∧ c1.toNat ≤ 57 := by simpa [isDig] using d1
  have lo1 : (48 : Int) ≤ (c1.toNat : Int) := by omega
  have hi1 : (c1.toNat : Int) ≤ 57 := by omega
  clear dd1 h1
  have bg2 := bget (t := z) (p := 2) (show 2 < z.toArray.size by simpa using Nat.lt_of_lt_of_le (show 2 < 5 by decide) hz5) (Nat.lt_of_lt_of_le (show 2 < 5 by decide) hz5)
  obtain ⟨c2, hc2⟩ : ∃ c, at0 z 2 = c := ⟨_, rfl⟩
  have cb2 := c2.toNat_lt
  rw [hc2] at bg2
  have d2 : isDig c2 = true := by rw [← hc2]; exact h2
  have dd2 : 48 ≤ c2.toNat ∧ c2.toNat ≤ 57 := by simpa [isDig] using d2
  have lo2 : (48 : Int) ≤ (c2.toNat : Int) := by omega
  have hi2 : (c2.toNat : Int) ≤ 57 := by omega
  clear dd2 h2
  have bg3 := bget (t := z) (p := 3) (show 3 < z.toArray.size by simpa using Nat.lt_of_lt_of_le (show 3 < 5 by decide) hz5) (Nat.lt_of_lt_of_le (show 3 < 5 by decide) hz5)
  obtain ⟨c3, hc3⟩ : ∃ c, at0 z 3 = c := ⟨_, rfl⟩
  have cb3 := c3.toNat_lt
  rw [hc3] at bg3
  have d3 : isDig c3 = true := by rw [← hc3]; exact h3
  have dd3 : 48 ≤ c3.toNat ∧ c3.toNat ≤ 57 := by simpa [isDig] using d3
  have lo3 : (48 : Int) ≤ (c3.toNat : Int) := by omega
  have hi3 : (c3.toNat : Int) ≤ 57 := by omega
  clear dd3 h3
  have bg4 := bget (t := z) (p := 4) (show 4 < z.toArray.size by simpa using Nat.lt_of_lt_of_le (show 4 < 5 by decide) hz5) (Nat.lt_of_lt_of_le (show 4 < 5 by decide) hz5)
  obtain ⟨c4, hc4⟩ : ∃ c, at0 z 4 = c := ⟨_, rfl⟩
  have cb4 := c4.toNat_lt
  rw [hc4] at bg4
  have d4 : isDig c4 = true := by rw [← hc4]; exact h4
  have dd4 : 48 ≤ c4.toNat ∧ c4.toNat ≤ 57 := by simpa [isDig] using d4
  have lo4 : (48 : Int) ≤ (c4.toNat : Int) := by omega
  have hi4 : (c4.toNat : Int) ≤ 57 := by omega
  clear dd4 h4
  have g6 : (53 : Int) < (c3.toNat : Int) := by rw [hc3] at h6; omega
  clear h6 hc1 hc2 hc3 hc4
  go_enter Tryd.func24, Tryd.ntmps24
  go_wp2_with fail
  refine (index_any zNames z w.heap.size _ (by decide) zNames_lens hl (zNames_cells (blk_old _ (blk_new w _)))).mono ?_; rintro r w1 ⟨rfl, b1⟩
  rw [HF.out]
  have hio : idxOr none = -1 := rfl
  rw [hio]
  have hB : Below w.heap.size w w1 := ((((Below.refl _ _).alloc (Nat.le_refl _) _).alloc (by simp) _).trans (b1.mono (by simp; omega)))
  clear b1 hio
  go_wp2_with fail
  refine (refDigit_any c1 _).mono ?_; rintro r w2 ⟨rfl, rfl⟩
  go_wp2_with fail
  refine (refDigit_any c2 _).mono ?_; rintro r w2 ⟨rfl, rfl⟩
  go_wp2_with fail
  refine (refDigit_any c3 _).mono ?_; rintro r w2 ⟨rfl, rfl⟩
  go_wp2_with fail
  refine (refDigit_any c4 _).mono ?_; rintro r w2 ⟨rfl, rfl⟩
  go_wp2_with fail
  go_ret2
  exact ⟨rfl, hB⟩

set_option maxRecDepth 100000 in
set_option maxHeartbeats 2000000 in
theorem refZone_pbig (z : List UInt8) (w : World) (hl : z.length ≤ 1000) (hf : find3 zNames z = none) (h5 : z.length = 5) (h0 : at0 z 0 = 43) (h1 : isDig (at0 z 1) = true) (h2 : isDig (at0 z 2) = true) (h3 : isDig (at0 z 3) = true) (h4 : isDig (at0 z 4) = true) (h6 : (at0 z 3).toNat ≤ 53) (h7 : 840 < zoneN z) :
    Calls Tryd.prog 24 #[.string ⟨z.toArray⟩] w fun r w' => r = .returned (.tuple #[.int .i64 0, .int .i64 2]) ∧ Below w.heap.size w w' := by
  have HF := Lib.hid hf; clear hf
  have n5 : ((z.length : Int) == 5) = true := by simp [h5]
  have m5 : ((z.length : Int) != 5) = false := by simp [h5]
  have hz5 : 5 ≤ z.length := by omega
  clear h5
  have bg0 := bget (t := z) (p := 0) (show 0 < z.toArray.size by simpa using Nat.lt_of_lt_of_le (show 0 < 5 by decide) hz5) (Nat.lt_of_lt_of_le (show 0 < 5 by decide) hz5)
  obtain ⟨c0, hc0⟩ : ∃ c, at0 z 0 = c := ⟨_, rfl⟩
  have cb0 := c0.toNat_lt
  rw [hc0] at bg0
  have g0 : c0.toNat = 43 := by rw [← hc0, h0]; rfl
  have ec043 : ((c0.toNat : Int) == 43) = true := by simp; omega
  have fc043 : ((c0.toNat : Int) != 43) = false := by simp; omega
  have ec045 : ((c0.toNat : Int) == 45) = false := by simp; omega
  have fc045 : ((c0.toNat : Int) != 45) = true := by simp; omega
  clear g0 h0 hc0
  have bg1 := bget (t := z) (p := 1) (show 1 < z.toArray.size by simpa using Nat.lt_of_lt_of_le (show 1 < 5 by decide) hz5) (Nat.lt_of_lt_of_le (show 1 < 5 by decide) hz5)
  obtain ⟨c1, hc1⟩ : ∃ c, at0 z 1 = c := ⟨_, rfl⟩
  have cb1 := c1.toNat_lt
  rw [hc1] at bg1
  have d1 : isDig c1 = true := by rw [← hc1]; exact h1
  have dd1 : 48 ≤ c1.toNat ∧ c1.toNat ≤ 57 := by simpa [isDig] using d1
  have lo1 : (48 : Int) ≤ (c1.toNat : Int) := by omega
  have hi1 : (c1.toNat : Int) ≤ 57 := by omega
  clear dd1 h1
  have bg2 := bget (t := z) (p := 2) (show 2 < z.toArray.size by simpa using Nat.lt_of_lt_of_le (show 2 < 5 by decide) hz5) (Nat.lt_of_lt_of_le (show 2 < 5 by decide) hz5)
  obtain ⟨c2, hc2⟩ : ∃ c, at0 z 2 = c := ⟨_, rfl⟩
  have cb2 := c2.toNat_lt
  rw [hc2] at bg2
  have d2 : isDig c2 = true := by rw [← hc2]; exact h2
  have dd2 : 48 ≤ c2.toNat ∧ c2.toNat ≤ 57 := by simpa [isDig] using d2
  have lo2 : (48 : Int) ≤ (c2.toNat : Int) := by omega
  have hi2 : (c2.toNat : Int) ≤ 57 := by omega
  clear dd2 h2
  have bg3 := bget (t := z) (p := 3) (show 3 < z.toArray.size by simpa using Nat.lt_of_lt_of_le (show 3 < 5 by decide) hz5) (Nat.lt_of_lt_of_le (show 3 < 5 by decide) hz5)
  obtain ⟨c3, hc3⟩ : ∃ c, at0 z 3 = c := ⟨_, rfl⟩
  have cb3 := c3.toNat_lt
  rw [hc3] at bg3
  have d3 : isDig c3 = true := by rw [← hc3]; exact h3
  have dd3 : 48 ≤ c3.toNat ∧ c3.toNat ≤ 57 := by simpa [isDig] using d3
  have lo3 : (48 : Int) ≤ (c3.toNat : Int) := by omega
  have hi3 : (c3.toNat : Int) ≤ 57 := by omega
  clear dd3 h3
  have bg4 := bget (t := z) (p := 4) (show 4 < z.toArray.size by simpa using Nat.lt_of_lt_of_le (show 4 < 5 by decide) hz5) (Nat.lt_of_lt_of_le (show 4 < 5 by decide) hz5)
  obtain ⟨c4, hc4⟩ : ∃ c, at0 z 4 = c := ⟨_, rfl⟩
  have cb4 := c4.toNat_lt
  rw [hc4] at bg4
  have d4 : isDig c4 = true := by rw [← hc4]; exact h4
  have dd4 : 48 ≤ c4.toNat ∧ c4.toNat ≤ 57 := by simpa [isDig] using d4
  have lo4 : (48 : Int) ≤ (c4.toNat : Int) := by omega
  have hi4 : (c4.toNat : Int) ≤ 57 := by omega
  clear dd4 h4
  have g6 : (c3.toNat : Int) ≤ 53 := by rw [hc3] at h6; omega
  have hN : zoneN z = ((c1.toNat - 48 : Int) * 10 + (c2.toNat - 48)) * 60 + (c3.toNat - 48) * 10 + (c4.toNat - 48) := by unfold zoneN; rw [hc1, hc2, hc3, hc4]
  rw [hN] at h7
  have HN := Lib.hid hN; clear hN h6 hc1 hc2 hc3 hc4
  go_enter Tryd.func24, Tryd.ntmps24
  go_wp2_with fail
  refine (index_any zNames z w.heap.size _ (by decide) zNames_lens hl (zNames_cells (blk_old _ (blk_new w _)))).mono ?_; rintro r w1 ⟨rfl, b1⟩
  rw [HF.out]
  have hio : idxOr none = -1 := rfl
  rw [hio]
  have hB : Below w.heap.size w w1 := ((((Below.refl _ _).alloc (Nat.le_refl _) _).alloc (by simp) _).trans (b1.mono (by simp; omega)))
  clear b1 hio
  go_wp2_with fail
  refine (refDigit_any c1 _).mono ?_; rintro r w2 ⟨rfl, rfl⟩
  go_wp2_with fail
  refine (refDigit_any c2 _).mono ?_; rintro r w2 ⟨rfl, rfl⟩
  go_wp2_with fail
  refine (refDigit_any c3 _).mono ?_; rintro r w2 ⟨rfl, rfl⟩
  go_wp2_with fail
  refine (refDigit_any c4 _).mono ?_; rintro r w2 ⟨rfl, rfl⟩
  go_wp2_with fail
  go_quiet (fail)
  go_wp2_with fail
  go_ret2
  exact ⟨rfl, Below.drewN _ hB⟩

set_option maxRecDepth 100000 in
set_option maxHeartbeats 2000000 in
theorem refZone_pok (z : List UInt8) (w : World) (hl : z.length ≤ 1000) (hf : find3 zNames z = none) (h5 : z.length = 5) (h0 : at0 z 0 = 43) (h1 : isDig (at0 z 1) = true) (h2 : isDig (at0 z 2) = true) (h3 : isDig (at0 z 3) = true) (h4 : isDig (at0 z 4) = true) (h6 : (at0 z 3).toNat ≤ 53) (h7 : zoneN z ≤ 840) :
    Calls Tryd.prog 24 #[.string ⟨z.toArray⟩] w fun r w' => r = .returned (.tuple #[.int .i64 (zoneN z), .int .i64 0]) ∧ Below w.heap.size w w' := by
  have HF := Lib.hid hf; clear hf
  have n5 : ((z.length : Int) == 5) = true := by simp [h5]
  have m5 : ((z.length : Int) != 5) = false := by simp [h5]
  have hz5 : 5 ≤ z.length := by omega
  clear h5
  have bg0 := bget (t := z) (p := 0) (show 0 < z.toArray.size by simpa using Nat.lt_of_lt_of_le (show 0 < 5 by decide) hz5) (Nat.lt_of_lt_of_le (show 0 < 5 by decide) hz5)
  obtain ⟨c0, hc0⟩ : ∃ c, at0 z 0 = c := ⟨_, rfl⟩
  have cb0 := c0.toNat_lt
  rw [hc0] at bg0
  have g0 : c0.toNat = 43 := by rw [← hc0, h0]; rfl
  have ec043 : ((c0.toNat : Int) == 43) = true := by simp; omega
  have fc043 : ((c0.toNat : Int) != 43) = false := by simp; omega
  have ec045 : ((c0.toNat : Int) == 45) = false := by simp; omega
  have fc045 : ((c0.toNat : Int) != 45) = true := by simp; omega
  clear g0 h0 hc0
  have bg1 := bget (t := z) (p := 1) (show 1 < z.toArray.size by simpa using Nat.lt_of_lt_of_le (show 1 < 5 by decide) hz5) (Nat.lt_of_lt_of_le (show 1 < 5 by decide) hz5)
  obtain ⟨c1, hc1⟩ : ∃ c, at0 z 1 = c := ⟨_, rfl⟩
  have cb1 := c1.toNat_lt
  rw [hc1] at bg1
  have d1 : isDig c1 = true := by rw [← hc1]; exact h1
  have dd1 : 48 ≤ c1.toNat ∧ c1.toNat ≤ 57 := by simpa [isDig] using d1
  have lo1 : (48 : Int) ≤ (c1.toNat : Int) := by omega
  have hi1 : (c1.toNat : Int) ≤ 57 := by omega
  clear dd1 h1
  have bg2 := bget (t := z) (p := 2) (show 2 < z.toArray.size by simpa using Nat.lt_of_lt_of_le (show 2 < 5 by decide) hz5) (Nat.lt_of_lt_of_le (show 2 < 5 by decide) hz5)
  obtain ⟨c2, hc2⟩ : ∃ c, at0 z 2 = c := ⟨_, rfl⟩
  have cb2 := c2.toNat_lt
  rw [hc2] at bg2
  have d2 : isDig c2 = true := by rw [← hc2]; exact h2
  have dd2 : 48 ≤ c2.toNat ∧ c2.toNat ≤ 57 := by simpa [isDig] using d2
  have lo2 : (48 : Int) ≤ (c2.toNat : Int) := by omega
  have hi2 : (c2.toNat : Int) ≤ 57 := by omega
  clear dd2 h2
  have bg3 := bget (t := z) (p := 3) (show 3 < z.toArray.size by simpa using Nat.lt_of_lt_of_le (show 3 < 5 by decide) hz5) (Nat.lt_of_lt_of_le (show 3 < 5 by decide) hz5)
  obtain ⟨c3, hc3⟩ : ∃ c, at0 z 3 = c := ⟨_, rfl⟩
  have cb3 := c3.toNat_lt
  rw [hc3] at bg3
  have d3 : isDig c3 = true := by rw [← hc3]; exact h3
  have dd3 : 48 ≤ c3.toNat ∧ c3.toNat ≤ 57 := by simpa [isDig] using d3
  have lo3 : (48 : Int) ≤ (c3.toNat : Int) := by omega
  have hi3 : (c3.toNat : Int) ≤ 57 := by omega
  clear dd3 h3
  have bg4 := bget (t := z) (p := 4) (show 4 < z.toArray.size by simpa using Nat.lt_of_lt_of_le (show 4 < 5 by decide) hz5) (Nat.lt_of_lt_of_le (show 4 < 5 by decide) hz5)
  obtain ⟨c4, hc4⟩ : ∃ c, at0 z 4 = c := ⟨_, rfl⟩
  have cb4 := c4.toNat_lt
  rw [hc4] at bg4
  have d4 : isDig c4 = true := by rw [← hc4]; exact h4
  have dd4 : 48 ≤ c4.toNat ∧ c4.toNat ≤ 57 := by simpa [isDig] using d4
  have lo4 : (48 : Int) ≤ (c4.toNat : Int) := by omega
  have hi4 : (c4.toNat : Int) ≤ 57 := by omega
  clear dd4 h4
  have g6 : (c3.toNat : Int) ≤ 53 := by rw [hc3] at h6; omega
  have hN : zoneN z = ((c1.toNat - 48 : Int) * 10 + (c2.toNat - 48)) * 60 + (c3.toNat - 48) * 10 + (c4.toNat - 48) := by unfold zoneN; rw [hc1, hc2, hc3, hc4]
  rw [hN] at h7
  have HN := Lib.hid hN; clear hN h6 hc1 hc2 hc3 hc4
  go_enter Tryd.func24, Tryd.ntmps24
  go_wp2_with fail
  refine (index_any zNames z w.heap.size _ (by decide) zNames_lens hl (zNames_cells (blk_old _ (blk_new w _)))).mono ?_; rintro r w1 ⟨rfl, b1⟩
  rw [HF.out]
  have hio : idxOr none = -1 := rfl
  rw [hio]
  have hB : Below w.heap.size w w1 := ((((Below.refl _ _).alloc (Nat.le_refl _) _).alloc (by simp) _).trans (b1.mono (by simp; omega)))
  clear b1 hio
  go_wp2_with fail
  refine (refDigit_any c1 _).mono ?_; rintro r w2 ⟨rfl, rfl⟩
  go_wp2_with fail
  refine (refDigit_any c2 _).mono ?_; rintro r w2 ⟨rfl, rfl⟩
  go_wp2_with fail
  refine (refDigit_any c3 _).mono ?_; rintro r w2 ⟨rfl, rfl⟩
  go_wp2_with fail
  refine (refDigit_any c4 _).mono ?_; rintro r w2 ⟨rfl, rfl⟩
  go_wp2_with fail
  go_quiet (fail)
  go_wp2_with fail
  go_ret2
  exact ⟨ret_pair (by rw [HN.out]) rfl, Below.drewN _ hB⟩

set_option maxRecDepth 100000 in
set_option maxHeartbeats 2000000 in
theorem refZone_m1 (z : List UInt8) (w : World) (hl : z.length ≤ 1000) (hf : find3 zNames z = none) (h5 : z.length = 5) (h0 : at0 z 0 = 45) (h1 : isDig (at0 z 1) = false) :
    Calls Tryd.prog 24 #[.string ⟨z.toArray⟩] w fun r w' => r = .returned (.tuple #[.int .i64 0, .int .i64 3]) ∧ Below w.heap.size w w' := by
  have HF := Lib.hid hf; clear hf
  have n5 : ((z.length : Int) == 5) = true := by simp [h5]
  have m5 : ((z.length : Int) != 5) = false := by simp [h5]
  have hz5 : 5 ≤ z.length := by omega
  clear h5
  have bg0 := bget (t := z) (p := 0) (show 0 < z.toArray.size by simpa using Nat.lt_of_lt_of_le (show 0 < 5 by decide) hz5) (Nat.lt_of_lt_of_le (show 0 < 5 by decide) hz5)
  obtain ⟨c0, hc0⟩ : ∃ c, at0 z 0 = c := ⟨_, rfl⟩
  have cb0 := c0.toNat_lt
  rw [hc0] at bg0
  have g0 : c0.toNat = 45 := by rw [← hc0, h0]; rfl
  have ec043 : ((c0.toNat : Int) == 43) = false := by simp; omega
  have fc043 : ((c0.toNat : Int) != 43) = true := by simp; omega
  have ec045 : ((c0.toNat : Int) == 45) = true := by simp; omega
  have fc045 : ((c0.toNat : Int) != 45) = false := by simp; omega
  clear g0 h0 hc0
  have bg1 := bget (t := z) (p := 1) (show 1 < z.toArray.size by simpa using Nat.lt_of_lt_of_le (show 1 < 5 by decide) hz5) (Nat.lt_of_lt_of_le (show 1 < 5 by decide) hz5)
  obtain ⟨c1, hc1⟩ : ∃ c, at0 z 1 = c := ⟨_, rfl⟩
  have cb1 := c1.toNat_lt
  rw [hc1] at bg1
  have d1 : isDig c1 = false := by rw [← hc1]; exact h1
  clear h1 hc1
  go_enter Tryd.func24, Tryd.ntmps24
  go_wp2_with fail
  refine (index_any zNames z w.heap.size _ (by decide) zNames_lens hl (zNames_cells (blk_old _ (blk_new w _)))).mono ?_; rintro r w1 ⟨rfl, b1⟩
  rw [HF.out]
  have hio : idxOr none = -1 := rfl
  rw [hio]
  have hB : Below w.heap.size w w1 := ((((Below.refl _ _).alloc (Nat.le_refl _) _).alloc (by simp) _).trans (b1.mono (by simp; omega)))
  clear b1 hio
  go_wp2_with fail
  refine (refDigit_any c1 _).mono ?_; rintro r w2 ⟨rfl, rfl⟩
  go_wp2_with fail
  go_ret2
  exact ⟨rfl, hB⟩

set_option maxRecDepth 100000 in
set_option maxHeartbeats 2000000 in
theorem refZone_m2 (z : List UInt8) (w : World) (hl : z.length ≤ 1000) (hf : find3 zNames z = none) (h5 : z.length = 5) (h0 : at0 z 0 = 45) (h1 : isDig (at0 z 1) = true) (h2 : isDig (at0 z 2) = false) :
    Calls Tryd.prog 24 #[.string ⟨z.toArray⟩] w fun r w' => r = .returned (.tuple #[.int .i64 0, .int .i64 3]) ∧ Below w.heap.size w w' := by
  have HF := Lib.hid hf; clear hf
  have n5 : ((z.length : Int) == 5) = true := by simp [h5]
  have m5 : ((z.length : Int) != 5) = false := by simp [h5]
  have hz5 : 5 ≤ z.length := by omega
  clear h5
  have bg0 := bget (t := z) (p := 0) (show 0 < z.toArray.size by simpa using Nat.lt_of_lt_of_le (show 0 < 5 by decide) hz5) (Nat.lt_of_lt_of_le (show 0 < 5 by decide) hz5)
  obtain ⟨c0, hc0⟩ : ∃ c, at0 z 0 = c := ⟨_, rfl⟩
  have cb0 := c0.toNat_lt
  rw [hc0] at bg0
  have g0 : c0.toNat = 45 := by rw [← hc0, h0]; rfl
  have ec043 : ((c0.toNat : Int) == 43) = false := by simp; omega
  have fc043 : ((c0.toNat : Int) != 43) = true := by simp; omega
  have ec045 : ((c0.toNat : Int) == 45) = true := by simp; omega
  have fc045 : ((c0.toNat : Int) != 45) = false := by simp; omega
  clear g0 h0 hc0
  have bg1 := bget (t := z) (p := 1) (show 1 < z.toArray.size by simpa using Nat.lt_of_lt_of_le (show 1 < 5 by decide) hz5) (Nat.lt_of_lt_of_le (show 1 < 5 by decide) hz5)
  obtain ⟨c1, hc1⟩ : ∃ c, at0 z 1 = c := ⟨_, rfl⟩
  have cb1 := c1.toNat_lt
  rw [hc1] at bg1
  have d1 : isDig c1 = true := by rw [← hc1]; exact h1
  clear h1 hc1
  have bg2 := bget (t := z) (p := 2) (show 2 < z.toArray.size by simpa using Nat.lt_of_lt_of_le (show 2 < 5 by decide) hz5) (Nat.lt_of_lt_of_le (show 2 < 5 by decide) hz5)
  obtain ⟨c2, hc2⟩ : ∃ c, at0 z 2 = c := ⟨_, rfl⟩
  have cb2 := c2.toNat_lt
  rw [hc2] at bg2
  have d2 : isDig c2 = false := by rw [← hc2]; exact h2
  clear h2 hc2
  go_enter Tryd.func24, Tryd.ntmps24
  go_wp2_with fail
  refine (index_any zNames z w.heap.size _ (by decide) zNames_lens hl (zNames_cells (blk_old _ (blk_new w _)))).mono ?_; rintro r w1 ⟨rfl, b1⟩
  rw [HF.out]
  have hio : idxOr none = -1 := rfl
  rw [hio]
  have hB : Below w.heap.size w w1 := ((((Below.refl _ _).alloc (Nat.le_refl _) _).alloc (by simp) _).trans (b1.mono (by simp; omega)))
  clear b1 hio
  go_wp2_with fail
  refine (refDigit_any c1 _).mono ?_; rintro r w2 ⟨rfl, rfl⟩
  go_wp2_with fail
  refine (refDigit_any c2 _).mono ?_; rintro r w2 ⟨rfl, rfl⟩
  go_wp2_with fail
  go_ret2
  exact ⟨rfl, hB⟩

set_option maxRecDepth 100000 in
set_option maxHeartbeats 2000000 in
theorem refZone_m3 (z : List UInt8) (w : World) (hl : z.length ≤ 1000) (hf : find3 zNames z = none) (h5 : z.length = 5) (h0 : at0 z 0 = 45) (h1 : isDig (at0 z 1) = true) (h2 : isDig (at0 z 2) = true) (h3 : isDig (at0 z 3) = false) :
    Calls Tryd.prog 24 #[.string ⟨z.toArray⟩] w fun r w' => r = .returned (.tuple #[.int .i64 0, .int .i64 3]) ∧ Below w.heap.size w w' := by
  have HF := Lib.hid hf; clear hf
  have n5 : ((z.length : Int) == 5) = true := by simp [h5]
  have m5 : ((z.length : Int) != 5) = false := by simp [h5]
  have hz5 : 5 ≤ z.length := by omega
  clear h5
  have bg0 := bget (t := z) (p := 0) (show 0 < z.toArray.size by simpa using Nat.lt_of_lt_of_le (show 0 < 5 by decide) hz5) (Nat.lt_of_lt_of_le (show 0 < 5 by decide) hz5)
  obtain ⟨c0, hc0⟩ : ∃ c, at0 z 0 = c := ⟨_, rfl⟩
  have cb0 := c0.toNat_lt
  rw [hc0] at bg0
  have g0 : c0.toNat = 45 := by rw [← hc0, h0]; rfl
  have ec043 : ((c0.toNat : Int) == 43) = false := by simp; omega
  have fc043 : ((c0.toNat : Int) != 43) = true := by simp; omega
  have ec045 : ((c0.toNat : Int) == 45) = true := by simp; omega
  have fc045 : ((c0.toNat : Int) != 45) = false := by simp; omega
  clear g0 h0 hc0
  have bg1 := bget (t := z) (p := 1) (show 1 < z.toArray.size by simpa using Nat.lt_of_lt_of_le (show 1 < 5 by decide) hz5) (Nat.lt_of_lt_of_le (show 1 < 5 by decide) hz5)
  obtain ⟨c1, hc1⟩ : ∃ c, at0 z 1 = c := ⟨_, rfl⟩
  have cb1 := c1.toNat_lt
  rw [hc1] at bg1
  have d1 : isDig c1 = true := by rw [← hc1]; exact h1
  clear h1 hc1
  have bg2 := bget (t := z) (p := 2) (show 2 < z.toArray.size by simpa using Nat.lt_of_lt_of_le (show 2 < 5 by decide) hz5) (Nat.lt_of_lt_of_le (show 2 < 5 by decide) hz5)
  obtain ⟨c2, hc2⟩ : ∃ c, at0 z 2 = c := ⟨_, rfl⟩
  have cb2 := c2.toNat_lt
  rw [hc2] at bg2
  have d2 : isDig c2 = true := by rw [← hc2]; exact h2
  clear h2 hc2
  have bg3 := bget (t := z) (p := 3) (show 3 < z.toArray.size by simpa using Nat.lt_of_lt_of_le (show 3 < 5 by decide) hz5) (Nat.lt_of_lt_of_le (show 3 < 5 by decide) hz5)
  obtain ⟨c3, hc3⟩ : ∃ c, at0 z 3 = c := ⟨_, rfl⟩
  have cb3 := c3.toNat_lt
  rw [hc3] at bg3
  have d3 : isDig c3 = false := by rw [← hc3]; exact h3
  clear h3 hc3
  go_enter Tryd.func24, Tryd.ntmps24
  go_wp2_with fail
  refine (index_any zNames z w.heap.size _ (by decide) zNames_lens hl (zNames_cells (blk_old _ (blk_new w _)))).mono ?_; rintro r w1 ⟨rfl, b1⟩
  rw [HF.out]
  have hio : idxOr none = -1 := rfl
  rw [hio]
  have hB : Below w.heap.size w w1 := ((((Below.refl _ _).alloc (Nat.le_refl _) _).alloc (by simp) _).trans (b1.mono (by simp; omega)))
  clear b1 hio
  go_wp2_with fail
  refine (refDigit_any c1 _).mono ?_; rintro r w2 ⟨rfl, rfl⟩
  go_wp2_with fail
  refine (refDigit_any c2 _).mono ?_; rintro r w2 ⟨rfl, rfl⟩
  go_wp2_with fail
  refine (refDigit_any c3 _).mono ?_; rintro r w2 ⟨rfl, rfl⟩
  go_wp2_with fail
  go_ret2
  exact ⟨rfl, hB⟩

set_option maxRecDepth 100000 in
set_option maxHeartbeats 2000000 in
theorem refZone_m4 (z : List UInt8) (w : World) (hl : z.length ≤ 1000) (hf : find3 zNames z = none) (h5 : z.length = 5) (h0 : at0 z 0 = 45) (h1 : isDig (at0 z 1) = true) (h2 : isDig (at0 z 2) = true) (h3 : isDig (at0 z 3) = true) (h4 : isDig (at0 z 4) = false) :
    Calls Tryd.prog 24 #[.string ⟨z.toArray⟩] w fun r w' => r = .returned (.tuple #[.int .i64 0, .int .i64 3]) ∧ Below w.heap.size w w' := by
  have HF := Lib.hid hf; clear hf
  have n5 : ((z.length : Int) == 5) = true := by simp [h5]
  have m5 : ((z.length : Int) != 5) = false := by simp [h5]
  have hz5 : 5 ≤ z.length := by omega
  clear h5
  have bg0 := bget (t := z) (p := 0) (show 0 < z.toArray.size by simpa using Nat.lt_of_lt_of_le (show 0 < 5 by decide) hz5) (Nat.lt_of_lt_of_le (show 0 < 5 by decide) hz5)
  obtain ⟨c0, hc0⟩ : ∃ c, at0 z 0 = c := ⟨_, rfl⟩
  have cb0 := c0.toNat_lt
  rw [hc0] at bg0
  have g0 : c0.toNat = 45 := by rw [← hc0, h0]; rfl
  have ec043 : ((c0.toNat : Int) == 43) = false := by simp; omega
  have fc043 : ((c0.toNat : Int) != 43) = true := by simp; omega
  have ec045 : ((c0.toNat : Int) == 45) = true := by simp; omega
  have fc045 : ((c0.toNat : Int) != 45) = false := by simp; omega
  clear g0 h0 hc0
  have bg1 := bget (t := z) (p := 1) (show 1 < z.toArray.size by simpa using Nat.lt_of_lt_of_le (show 1 < 5 by decide) hz5) (Nat.lt_of_lt_of_le (show 1 < 5 by decide) hz5)
  obtain ⟨c1, hc1⟩ : ∃ c, at0 z 1 = c := ⟨_, rfl⟩
  have cb1 := c1.toNat_lt
  rw [hc1] at bg1
  have d1 : isDig c1 = true := by rw [← hc1]; exact h1
  clear h1 hc1
  have bg2 := bget (t := z) (p := 2) (show 2 < z.toArray.size by simpa using Nat.lt_of_lt_of_le (show 2 < 5 by decide) hz5) (Nat.lt_of_lt_of_le (show 2 < 5 by decide) hz5)
  obtain ⟨c2, hc2⟩ : ∃ c, at0 z 2 = c := ⟨_, rfl⟩
  have cb2 := c2.toNat_lt
  rw [hc2] at bg2
  have d2 : isDig c2 = true := by rw [← hc2]; exact h2
  clear h2 hc2
  have bg3 := bget (t := z) (p := 3) (show 3 < z.toArray.size by simpa using Nat.lt_of_lt_of_le (show 3 < 5 by decide) hz5) (Nat.lt_of_lt_of_le (show 3 < 5 by decide) hz5)
  obtain ⟨c3, hc3⟩ : ∃ c, at0 z 3 = c := ⟨_, rfl⟩
  have cb3 := c3.toNat_lt
  rw [hc3] at bg3
  have d3 : isDig c3 = true := by rw [← hc3]; exact h3
  clear h3 hc3
  have bg4 := bget (t := z) (p := 4) (show 4 < z.toArray.size by simpa using Nat.lt_of_lt_of_le (show 4 < 5 by decide) hz5) (Nat.lt_of_lt_of_le (show 4 < 5 by decide) hz5)
  obtain ⟨c4, hc4⟩ : ∃ c, at0 z 4 = c := ⟨_, rfl⟩
  have cb4 := c4.toNat_lt
  rw [hc4] at bg4
  have d4 : isDig c4 = false := by rw [← hc4]; exact h4
  clear h4 hc4
  go_enter Tryd.func24, Tryd.ntmps24
  go_wp2_with fail
  refine (index_any zNames z w.heap.size _ (by decide) zNames_lens hl (zNames_cells (blk_old _ (blk_new w _)))).mono ?_; rintro r w1 ⟨rfl, b1⟩
  rw [HF.out]
  have hio : idxOr none = -1 := rfl
  rw [hio]
  have hB : Below w.heap.size w w1 := ((((Below.refl _ _).alloc (Nat.le_refl _) _).alloc (by simp) _).trans (b1.mono (by simp; omega)))
  clear b1 hio
  go_wp2_with fail
  refine (refDigit_any c1 _).mono ?_; rintro r w2 ⟨rfl, rfl⟩
  go_wp2_with fail
  refine (refDigit_any c2 _).mono ?_; rintro r w2 ⟨rfl, rfl⟩
  go_wp2_with fail
  refine (refDigit_any c3 _).mono ?_; rintro r w2 ⟨rfl, rfl⟩
  go_wp2_with fail
  refine (refDigit_any c4 _).mono ?_; rintro r w2 ⟨rfl, rfl⟩
  go_wp2_with fail
  go_ret2
  exact ⟨rfl, hB⟩

set_option maxRecDepth 100000 in
set_option maxHeartbeats 2000000 in
theorem refZone_mmin (z : List UInt8) (w : World) (hl : z.length ≤ 1000) (hf : find3 zNames z = none) (h5 : z.length = 5) (h0 : at0 z 0 = 45) (h1 : isDig (at0 z 1) = true) (h2 : isDig (at0 z 2) = true) (h3 : isDig (at0 z 3) = true) (h4 : isDig (at0 z 4) = true) (h6 : 53 < (at0 z 3).toNat) :
    Calls Tryd.prog 24 #[.string ⟨z.toArray⟩] w fun r w' => r = .returned (.tuple #[.int .i64 0, .int .i64 3]) ∧ Below w.heap.size w w' := by
  have HF := Lib.hid hf; clear hf
  have n5 : ((z.length : Int) == 5) = true := by simp [h5]
  have m5 : ((z.length : Int) != 5) = false := by simp [h5]
  have hz5 : 5 ≤ z.length := by omega
  clear h5
  have bg0 := bget (t := z) (p := 0) (show 0 < z.toArray.size by simpa using Nat.lt_of_lt_of_le (show 0 < 5 by decide) hz5) (Nat.lt_of_lt_of_le (show 0 < 5 by decide) hz5)
  obtain ⟨c0, hc0⟩ : ∃ c, at0 z 0 = c := ⟨_, rfl⟩
  have cb0 := c0.toNat_lt
  rw [hc0] at bg0
  have g0 : c0.toNat = 45 := by rw [← hc0, h0]; rfl
  have ec043 : ((c0.toNat : Int) == 43) = false := by simp; omega
  have fc043 : ((c0.toNat : Int) != 43) = true := by simp; omega
  have ec045 : ((c0.toNat : Int) == 45) = true := by simp; omega
  have fc045 : ((c0.toNat : Int) != 45) = false := by simp; omega
  clear g0 h0 hc0
  have bg1 := bget (t := z) (p := 1) (show 1 < z.toArray.size by simpa using Nat.lt_of_lt_of_le (show 1 < 5 by decide) hz5) (Nat.lt_of_lt_of_le (show 1 < 5 by decide) hz5)
  obtain ⟨c1, hc1⟩ : ∃ c, at0 z 1 = c := ⟨_, rfl⟩
  have cb1 := c1.toNat_lt
  rw [hc1] at bg1
  have d1 : isDig c1 = true := by rw [← hc1]; exact h1
  have dd1 : 48 ≤ c1.toNat ∧ c1.toNat ≤ 57 := by simpa [isDig] using d1
  have lo1 : (48 : Int) ≤ (c1.toNat : Int) := by omega
  have hi1 : (c1.toNat : Int) ≤ 57 := by omega
  clear dd1 h1
  have bg2 := bget (t := z) (p := 2) (show 2 < z.toArray.size by simpa using Nat.lt_of_lt_of_le (show 2 < 5 by decide) hz5) (Nat.lt_of_lt_of_le (show 2 < 5 by decide) hz5)
  obtain ⟨c2, hc2⟩ : ∃ c, at0 z 2 = c := ⟨_, rfl⟩
  have cb2 := c2.toNat_lt
  rw [hc2] at bg2
  have d2 : isDig c2 = true := by rw [← hc2]; exact h2
  have dd2 : 48 ≤ c2.toNat ∧ c2.toNat ≤ 57 := by simpa [isDig] using d2
  have lo2 : (48 : Int) ≤ (c2.toNat : Int) := by omega
  have hi2 : (c2.toNat : Int) ≤ 57 := by omega
  clear dd2 h2
  have bg3 := bget (t := z) (p := 3) (show 3 < z.toArray.size by simpa using Nat.lt_of_lt_of_le (show 3 < 5 by decide) hz5) (Nat.lt_of_lt_of_le (show 3 < 5 by decide) hz5)
  obtain ⟨c3, hc3⟩ : ∃ c, at0 z 3 = c := ⟨_, rfl⟩
  have cb3 := c3.toNat_lt
  rw [hc3] at bg3
  have d3 : isDig c3 = true := by rw [← hc3]; exact h3
  have dd3 : 48 ≤ c3.toNat ∧ c3.toNat ≤ 57 := by simpa [isDig] using d3
  have lo3 : (48 : Int) ≤ (c3.toNat : Int) := by omega
  have hi3 : (c3.toNat : Int) ≤ 57 := by omega
  clear dd3 h3
  have bg4 := bget (t := z) (p := 4) (show 4 < z.toArray.size by simpa using Nat.lt_of_lt_of_le (show 4 < 5 by decide) hz5) (Nat.lt_of_lt_of_le (show 4 < 5 by decide) hz5)
  obtain ⟨c4, hc4⟩ : ∃ c, at0 z 4 = c := ⟨_, rfl⟩
  have cb4 := c4.toNat_lt
  rw [hc4] at bg4
  have d4 : isDig c4 = true := by rw [← hc4]; exact h4
  have dd4 : 48 ≤ c4.toNat ∧ c4.toNat ≤ 57 := by simpa [isDig] using d4
  have lo4 : (48 : Int) ≤ (c4.toNat : Int) := by omega
  have hi4 : (c4.toNat : Int) ≤ 57 := by omega
  clear dd4 h4
  have g6 : (53 : Int) < (c3.toNat : Int) := by rw [hc3] at h6; omega
  clear h6 hc1 hc2 hc3 hc4
  go_enter Tryd.func24, Tryd.ntmps24
  go_wp2_with fail
  refine (index_any zNames z w.heap.size _ (by decide) zNames_lens hl (zNames_cells (blk_old _ (blk_new w _)))).mono ?_; rintro r w1 ⟨rfl, b1⟩
  rw [HF.out]
  have hio : idxOr none = -1 := rfl
  rw [hio]
  have hB : Below w.heap.size w w1 := ((((Below.refl _ _).alloc (Nat.le_refl _) _).alloc (by simp) _).trans (b1.mono (by simp; omega)))
  clear b1 hio
  go_wp2_with fail
  refine (refDigit_any c1 _).mono ?_; rintro r w2 ⟨rfl, rfl⟩
  go_wp2_with fail
  refine (refDigit_any c2 _).mono ?_; rintro r w2 ⟨rfl, rfl⟩
  go_wp2_with fail
  refine (refDigit_any c3 _).mono ?_; rintro r w2 ⟨rfl, rfl⟩
  go_wp2_with fail
  refine (refDigit_any c4 _).mono ?_; rintro r w2 ⟨rfl, rfl⟩
  go_wp2_with fail
  go_ret2
  exact ⟨rfl, hB⟩

set_option maxRecDepth 100000 in
set_option maxHeartbeats 2000000 in
theorem refZone_mbig (z : List UInt8) (w : World) (hl : z.length ≤ 1000) (hf : find3 zNames z = none) (h5 : z.length = 5) (h0 : at0 z 0 = 45) (h1 : isDig (at0 z 1) = true) (h2 : isDig (at0 z 2) = true) (h3 : isDig (at0 z 3) = true) (h4 : isDig (at0 z 4) = true) (h6 : (at0 z 3).toNat ≤ 53) (h7 : 840 < zoneN z) :
    Calls Tryd.prog 24 #[.string ⟨z.toArray⟩] w fun r w' => r = .returned (.tuple #[.int .i64 0, .int .i64 2]) ∧ Below w.heap.size w w' := by
  have HF := Lib.hid hf; clear hf
  have n5 : ((z.length : Int) == 5) = true := by simp [h5]
  have m5 : ((z.length : Int) != 5) = false := by simp [h5]
  have hz5 : 5 ≤ z.length := by omega
  clear h5
  have bg0 := bget (t := z) (p := 0) (show 0 < z.toArray.size by simpa using Nat.lt_of_lt_of_le (show 0 < 5 by decide) hz5) (Nat.lt_of_lt_of_le (show 0 < 5 by decide) hz5)
  obtain ⟨c0, hc0⟩ : ∃ c, at0 z 0 = c := ⟨_, rfl⟩
  have cb0 := c0.toNat_lt
  rw [hc0] at bg0
  have g0 : c0.toNat = 45 := by rw [← hc0, h0]; rfl
  have ec043 : ((c0.toNat : Int) == 43) = false := by simp; omega
  have fc043 : ((c0.toNat : Int) != 43) = true := by simp; omega
  have ec045 : ((c0.toNat : Int) == 45) = true := by simp; omega
  have fc045 : ((c0.toNat : Int) != 45) = false := by simp; omega
  clear g0 h0 hc0
  have bg1 := bget (t := z) (p := 1) (show 1 < z.toArray.size by simpa using Nat.lt_of_lt_of_le (show 1 < 5 by decide) hz5) (Nat.lt_of_lt_of_le (show 1 < 5 by decide) hz5)
  obtain ⟨c1, hc1⟩ : ∃ c, at0 z 1 = c := ⟨_, rfl⟩
  have cb1 := c1.toNat_lt
  rw [hc1] at bg1
  have d1 : isDig c1 = true := by rw [← hc1]; exact h1
  have dd1 : 48 ≤ c1.toNat ∧ c1.toNat ≤ 57 := by simpa [isDig] using d1
  have lo1 : (48 : Int) ≤ (c1.toNat : Int) := by omega
  have hi1 : (c1.toNat : Int) ≤ 57 := by omega
  clear dd1 h1
  have bg2 := bget (t := z) (p := 2) (show 2 < z.toArray.size by simpa using Nat.lt_of_lt_of_le (show 2 < 5 by decide) hz5) (Nat.lt_of_lt_of_le (show 2 < 5 by decide) hz5)
  obtain ⟨c2, hc2⟩ : ∃ c, at0 z 2 = c := ⟨_, rfl⟩
  have cb2 := c2.toNat_lt
  rw [hc2] at bg2
  have d2 : isDig c2 = true := by rw [← hc2]; exact h2
  have dd2 : 48 ≤ c2.toNat ∧ c2.toNat ≤ 57 := by simpa [isDig] using d2
  have lo2 : (48 : Int) ≤ (c2.toNat : Int) := by omega
  have hi2 : (c2.toNat : Int) ≤ 57 := by omega
  clear dd2 h2
  have bg3 := bget (t := z) (p := 3) (show 3 < z.toArray.size by simpa using Nat.lt_of_lt_of_le (show 3 < 5 by decide) hz5) (Nat.lt_of_lt_of_le (show 3 < 5 by decide) hz5)
  obtain ⟨c3, hc3⟩ : ∃ c, at0 z 3 = c := ⟨_, rfl⟩
  have cb3 := c3.toNat_lt
  rw [hc3] at bg3
  have d3 : isDig c3 = true := by rw [← hc3]; exact h3
  have dd3 : 48 ≤ c3.toNat ∧ c3.toNat ≤ 57 := by simpa [isDig] using d3
  have lo3 : (48 : Int) ≤ (c3.toNat : Int) := by omega
  have hi3 : (c3.toNat : Int) ≤ 57 := by omega
  clear dd3 h3
  have bg4 := bget (t := z) (p := 4) (show 4 < z.toArray.size by simpa using Nat.lt_of_lt_of_le (show 4 < 5 by decide) hz5) (Nat.lt_of_lt_of_le (show 4 < 5 by decide) hz5)
  obtain ⟨c4, hc4⟩ : ∃ c, at0 z 4 = c := ⟨_, rfl⟩
  have cb4 := c4.toNat_lt
  rw [hc4] at bg4
  have d4 : isDig c4 = true := by rw [← hc4]; exact h4
  have dd4 : 48 ≤ c4.toNat ∧ c4.toNat ≤ 57 := by simpa [isDig] using d4
  have lo4 : (48 : Int) ≤ (c4.toNat : Int) := by omega
  have hi4 : (c4.toNat : Int) ≤ 57 := by omega
  clear dd4 h4
  have g6 : (c3.toNat : Int) ≤ 53 := by rw [hc3] at h6; omega
  have hN : zoneN z = ((c1.toNat - 48 : Int) * 10 + (c2.toNat - 48)) * 60 + (c3.toNat - 48) * 10 + (c4.toNat - 48) := by unfold zoneN; rw [hc1, hc2, hc3, hc4]
  rw [hN] at h7
  have HN := Lib.hid hN; clear hN h6 hc1 hc2 hc3 hc4
  go_enter Tryd.func24, Tryd.ntmps24
  go_wp2_with fail
  refine (index_any zNames z w.heap.size _ (by decide) zNames_lens hl (zNames_cells (blk_old _ (blk_new w _)))).mono ?_; rintro r w1 ⟨rfl, b1⟩
  rw [HF.out]
  have hio : idxOr none = -1 := rfl
  rw [hio]
  have hB : Below w.heap.size w w1 := ((((Below.refl _ _).alloc (Nat.le_refl _) _).alloc (by simp) _).trans (b1.mono (by simp; omega)))
  clear b1 hio
  go_wp2_with fail
  refine (refDigit_any c1 _).mono ?_; rintro r w2 ⟨rfl, rfl⟩
  go_wp2_with fail
  refine (refDigit_any c2 _).mono ?_; rintro r w2 ⟨rfl, rfl⟩
  go_wp2_with fail
  refine (refDigit_any c3 _).mono ?_; rintro r w2 ⟨rfl, rfl⟩
  go_wp2_with fail
  refine (refDigit_any c4 _).mono ?_; rintro r w2 ⟨rfl, rfl⟩
  go_wp2_with fail
  go_quiet (fail)
  go_wp2_with fail
  go_ret2
  exact ⟨rfl, Below.drewN _ hB⟩

set_option maxRecDepth 100000 in
set_option maxHeartbeats 2000000 in
theorem refZone_mok (z : List UInt8) (w : World) (hl : z.length ≤ 1000) (hf : find3 zNames z = none) (h5 : z.length = 5) (h0 : at0 z 0 = 45) (h1 : isDig (at0 z 1) = true) (h2 : isDig (at0 z 2) = true) (h3 : isDig (at0 z 3) = true) (h4 : isDig (at0 z 4) = true) (h6 : (at0 z 3).toNat ≤ 53) (h7 : zoneN z ≤ 840) :
    Calls Tryd.prog 24 #[.string ⟨z.toArray⟩] w fun r w' => r = .returned (.tuple #[.int .i64 (-zoneN z), .int .i64 0]) ∧ Below w.heap.size w w' := by
  have HF := Lib.hid hf; clear hf
  have n5 : ((z.length : Int) == 5) = true := by simp [h5]
  have m5 : ((z.length : Int) != 5) = false := by simp [h5]
  have hz5 : 5 ≤ z.length := by omega
  clear h5
  have bg0 := bget (t := z) (p := 0) (show 0 < z.toArray.size by simpa using Nat.lt_of_lt_of_le (show 0 < 5 by decide) hz5) (Nat.lt_of_lt_of_le (show 0 < 5 by decide) hz5)
  obtain ⟨c0, hc0⟩ : ∃ c, at0 z 0 = c := ⟨_, rfl⟩
  have cb0 := c0.toNat_lt
  rw [hc0] at bg0
  have g0 : c0.toNat = 45 := by rw [← hc0, h0]; rfl
  have ec043 : ((c0.toNat : Int) == 43) = false := by simp; omega
  have fc043 : ((c0.toNat : Int) != 43) = true := by simp; omega
  have ec045 : ((c0.toNat : Int) == 45) = true := by simp; omega
  have fc045 : ((c0.toNat : Int) != 45) = false := by simp; omega
  clear g0 h0 hc0
  have bg1 := bget (t := z) (p := 1) (show 1 < z.toArray.size by simpa using Nat.lt_of_lt_of_le (show 1 < 5 by decide) hz5) (Nat.lt_of_lt_of_le (show 1 < 5 by decide) hz5)
  obtain ⟨c1, hc1⟩ : ∃ c, at0 z 1 = c := ⟨_, rfl⟩
  have cb1 := c1.toNat_lt
  rw [hc1] at bg1
  have d1 : isDig c1 = true := by rw [← hc1]; exact h1
  have dd1 : 48 ≤ c1.toNat ∧ c1.toNat ≤ 57 := by simpa [isDig] using d1
  have lo1 : (48 : Int) ≤ (c1.toNat : Int) := by omega
  have hi1 : (c1.toNat : Int) ≤ 57 := by omega
  clear dd1 h1
  have bg2 := bget (t := z) (p := 2) (show 2 < z.toArray.size by simpa using Nat.lt_of_lt_of_le (show 2 < 5 by decide) hz5) (Nat.lt_of_lt_of_le (show 2 < 5 by decide) hz5)
  obtain ⟨c2, hc2⟩ : ∃ c, at0 z 2 = c := ⟨_, rfl⟩
  have cb2 := c2.toNat_lt
  rw [hc2] at bg2
  have d2 : isDig c2 = true := by rw [← hc2]; exact h2
  have dd2 : 48 ≤ c2.toNat ∧ c2.toNat ≤ 57 := by simpa [isDig] using d2
  have lo2 : (48 : Int) ≤ (c2.toNat : Int) := by omega
  have hi2 : (c2.toNat : Int) ≤ 57 := by omega
  clear dd2 h2
  have bg3 := bget (t := z) (p := 3) (show 3 < z.toArray.size by simpa using Nat.lt_of_lt_of_le (show 3 < 5 by decide) hz5) (Nat.lt_of_lt_of_le (show 3 < 5 by decide) hz5)
  obtain ⟨c3, hc3⟩ : ∃ c, at0 z 3 = c := ⟨_, rfl⟩
  have cb3 := c3.toNat_lt
  rw [hc3] at bg3
  have d3 : isDig c3 = true := by rw [← hc3]; exact h3
  have dd3 : 48 ≤ c3.toNat ∧ c3.toNat ≤ 57 := by simpa [isDig] using d3
  have lo3 : (48 : Int) ≤ (c3.toNat : Int) := by omega
  have hi3 : (c3.toNat : Int) ≤ 57 := by omega
  clear dd3 h3
  have bg4 := bget (t := z) (p := 4) (show 4 < z.toArray.size by simpa using Nat.lt_of_lt_of_le (show 4 < 5 by decide) hz5) (Nat.lt_of_lt_of_le (show 4 < 5 by decide) hz5)
  obtain ⟨c4, hc4⟩ : ∃ c, at0 z 4 = c := ⟨_, rfl⟩
  have cb4 := c4.toNat_lt
  rw [hc4] at bg4
  have d4 : isDig c4 = true := by rw [← hc4]; exact h4
  have dd4 : 48 ≤ c4.toNat ∧ c4.toNat ≤ 57 := by simpa [isDig] using d4
  have lo4 : (48 : Int) ≤ (c4.toNat : Int) := by omega
  have hi4 : (c4.toNat : Int) ≤ 57 := by omega
  clear dd4 h4
  have g6 : (c3.toNat : Int) ≤ 53 := by rw [hc3] at h6; omega
  have hN : zoneN z = ((c1.toNat - 48 : Int) * 10 + (c2.toNat - 48)) * 60 + (c3.toNat - 48) * 10 + (c4.toNat - 48) := by unfold zoneN; rw [hc1, hc2, hc3, hc4]
  rw [hN] at h7
  have HN := Lib.hid hN; clear hN h6 hc1 hc2 hc3 hc4
  go_enter Tryd.func24, Tryd.ntmps24
  go_wp2_with fail
  refine (index_any zNames z w.heap.size _ (by decide) zNames_lens hl (zNames_cells (blk_old _ (blk_new w _)))).mono ?_; rintro r w1 ⟨rfl, b1⟩
  rw [HF.out]
  have hio : idxOr none = -1 := rfl
  rw [hio]
  have hB : Below w.heap.size w w1 := ((((Below.refl _ _).alloc (Nat.le_refl _) _).alloc (by simp) _).trans (b1.mono (by simp; omega)))
  clear b1 hio
  go_wp2_with fail
  refine (refDigit_any c1 _).mono ?_; rintro r w2 ⟨rfl, rfl⟩
  go_wp2_with fail
  refine (refDigit_any c2 _).mono ?_; rintro r w2 ⟨rfl, rfl⟩
  go_wp2_with fail
  refine (refDigit_any c3 _).mono ?_; rintro r w2 ⟨rfl, rfl⟩
  go_wp2_with fail
  refine (refDigit_any c4 _).mono ?_; rintro r w2 ⟨rfl, rfl⟩
  go_wp2_with fail
  go_quiet (fail)
  go_wp2_with fail
  go_ret2
  exact ⟨ret_pair (by rw [HN.out]) rfl, Below.drewN _ hB⟩

theorem refZone_any (z : List UInt8) (w : World) (hl : z.length ≤ 1000) :
    Calls Tryd.prog 24 #[.string ⟨z.toArray⟩] w fun r w' => r = .returned (.tuple #[.int .i64 (zoneV z), .int .i64 (zoneE z)]) ∧ Below w.heap.size w w' := by
  rcases zNames_find z with ⟨hf, hn⟩ | ⟨i, hi, hf, hn⟩
  · by_cases h5 : z.length = 5
    · by_cases h0 : at0 z 0 ≠ 43 ∧ at0 z 0 ≠ 45
      · have r := zl_sign hn h0
        rw [r.1, r.2]; exact refZone_sign z w hl hf h5 h0
      · have h0' : at0 z 0 = 43 ∨ at0 z 0 = 45 := by
          by_cases h : at0 z 0 = 43
          · exact .inl h
          · exact .inr (Classical.byContradiction fun h2 => h0 ⟨h, h2⟩)
        cases d1 : isDig (at0 z 1) with
        | false =>
          have r := zl_nodig hn (.inl d1)
          rw [r.1, r.2]
          rcases h0' with h | h
          · exact refZone_p1 z w hl hf h5 h d1
          · exact refZone_m1 z w hl hf h5 h d1
        | true =>
        cases d2 : isDig (at0 z 2) with
        | false =>
          have r := zl_nodig hn (.inr (.inl d2))
          rw [r.1, r.2]
          rcases h0' with h | h
          · exact refZone_p2 z w hl hf h5 h d1 d2
          · exact refZone_m2 z w hl hf h5 h d1 d2
        | true =>
        cases d3 : isDig (at0 z 3) with
        | false =>
          have r := zl_nodig hn (.inr (.inr (.inl d3)))
          rw [r.1, r.2]
          rcases h0' with h | h
          · exact refZone_p3 z w hl hf h5 h d1 d2 d3
          · exact refZone_m3 z w hl hf h5 h d1 d2 d3
        | true =>
        cases d4 : isDig (at0 z 4) with
        | false =>
          have r := zl_nodig hn (.inr (.inr (.inr d4)))
          rw [r.1, r.2]
          rcases h0' with h | h
          · exact refZone_p4 z w hl hf h5 h d1 d2 d3 d4
          · exact refZone_m4 z w hl hf h5 h d1 d2 d3 d4
        | true =>
          by_cases h6 : 53 < (at0 z 3).toNat
          · have r := zl_min hn h5 d1 d2 d3 d4 h6
            rw [r.1, r.2]
            rcases h0' with h | h
            · exact refZone_pmin z w hl hf h5 h d1 d2 d3 d4 h6
            · exact refZone_mmin z w hl hf h5 h d1 d2 d3 d4 h6
          · have r := zl_num hn h5 d1 d2 d3 d4 (by omega) h0'
            by_cases h7 : 840 < zoneN z
            · rw [(r.1 h7).1, (r.1 h7).2]
              rcases h0' with h | h
              · exact refZone_pbig z w hl hf h5 h d1 d2 d3 d4 (by omega) h7
              · exact refZone_mbig z w hl hf h5 h d1 d2 d3 d4 (by omega) h7
            · rw [(r.2 (by omega)).1, (r.2 (by omega)).2]
              rcases h0' with h | h
              · rw [if_neg (by rw [h]; decide)]; exact refZone_pok z w hl hf h5 h d1 d2 d3 d4 (by omega) (by omega)
              · rw [if_pos h]; exact refZone_mok z w hl hf h5 h d1 d2 d3 d4 (by omega) (by omega)
    · have r := zl_len hn h5
      rw [r.1, r.2]; exact refZone_len z w hl hf h5
  · have e1 : zoneV z = zOffs.getD i 0 := by unfold zoneV; rw [hn]
    have e2 : zoneE z = 0 := by unfold zoneE; rw [hn]
    rw [e1, e2]
    exact refZone_name z i _ w hl hi hf rfl
end Go.Proofs.YtpdncgfkoibacaaDoor
