/- Contracts of the classes of bytes of package date, and of the scanner's fail, sees, need, skip.
   Contracts of the scanner's need and skip, for each class of bytes.
   Contracts of the scanner's skip and blanks, of the function is, and of the scanner's number.
   Contract of capital of package date; rows of bytes in memory.
   Contract of zones of package date: the map that it makes, and what a look-up in it yields.
   Contract of Zone of package date.
   Contract of the scanner's zone.
   Contracts of the scanner's name, of the function literal in it, and of slices.IndexFunc at it.
   Contract of the scanner's name. -/
import Derived.Test.YtlchcjnbbhpiaaaGreatDoorZb
import Derived.Test.YtlchcjnbbhpiaaaGreatDoorZa
import Derived.RegionTactic
import Derived.Deep.LoopGhost
import Derived.Laws.IdiomStrings
import Derived.Maps.OwnSet
import Derived.StringKeys
namespace Go.Proofs.YtlchcjnbbhpiaaaGreatDoor.Dt
open Go.Dt
open Go.RowKit
theorem bget {t : List UInt8} {p : Nat} (h : p < (⟨t.toArray⟩ : ByteArray).size) (hp : p < t.length) : (⟨t.toArray⟩ : ByteArray)[p]'h = at0 t p := by
 show t.toArray[p] = at0 t p
 simp [at0, hp]
/-- A scanner in memory. -/
def Scn (w : World) (b : Nat) (t : List UInt8) (s : St) : Prop := w.heap[b]? = some (.cells #[.string ⟨t.toArray⟩, .int .i64 (s.p : Nat), .int .i64 (s.e : Nat)] 168 (0, 0))
theorem Scn.c0 {w : World} {b : Nat} {t : List UInt8} {s : St} (h : Scn w b t s) : w.cell? ⟨b, 0, none⟩ = some (.string ⟨t.toArray⟩) := blk_cell h 0
theorem Scn.c1 {w : World} {b : Nat} {t : List UInt8} {s : St} (h : Scn w b t s) : w.cell? ⟨b, 1, none⟩ = some (.int .i64 (s.p : Nat)) := blk_cell h 1
theorem Scn.c2 {w : World} {b : Nat} {t : List UInt8} {s : St} (h : Scn w b t s) : w.cell? ⟨b, 2, none⟩ = some (.int .i64 (s.e : Nat)) := blk_cell h 2
theorem Scn.free {w : World} {b : Nat} {t : List UInt8} {s : St} (h : Scn w b t s) (i : Nat) : w.frozen? ⟨b, i, none⟩ = false := blk_free h i
theorem Scn.lt {w : World} {b : Nat} {t : List UInt8} {s : St} (h : Scn w b t s) : b < w.heap.size := blk_lt h
theorem Scn.below {w w' : World} {b : Nat} {t : List UInt8} {s : St} (h : Scn w b t s) (hb : Below w.heap.size w w') : Scn w' b t s := blk_below hb h
theorem Scn.set1 {w : World} {b : Nat} {t : List UInt8} {s : St} (h : Scn w b t s) (p : Nat) : Scn (w.setCell ⟨b, 1, none⟩ (.int .i64 (p : Nat))) b t ⟨p, s.e⟩ := by
 unfold Scn at h ⊢; rw [blk_set h]; rfl
theorem Scn.set12 {w : World} {b : Nat} {t : List UInt8} {s : St} (h : Scn w b t s) (p e : Nat) : Scn ((w.setCell ⟨b, 1, none⟩ (.int .i64 (p : Nat))).setCell ⟨b, 2, none⟩ (.int .i64 (e : Nat))) b t ⟨p, e⟩ := by
 have h1 := h.set1 p
 unfold Scn at h1 ⊢; rw [blk_set h1]; rfl
theorem ne_zero_b {e : Nat} (h : e ≠ 0) : ((e : Int) == 0) = false := by simp; omega
set_option maxHeartbeats 400000 in
theorem fail_any (b : Nat) (t : List UInt8) (s : St) (p e : Nat) (w : World) (h : Scn w b t s) :
  Calls Tryz.prog 202 #[.pointer (some ⟨b, 0, none⟩), .int .i64 p, .int .i64 e] w fun r w' => r = .returned (.tuple #[]) ∧ Scn w' b t (failAt s p e) ∧ But b w w' := by
 have c1 := h.c1
 have c2 := h.c2
 have f1 := h.free 1
 have f2 := h.free 2
 have HS := Lib.hid h; clear h
 by_cases h0 : s.e = 0
 ·have HF : Hid (failAt s p e = ⟨p, e⟩) := by show _ = _; unfold failAt; rw [if_pos h0]
  rw [h0] at c2
  clear h0
  go_enter Tryz.func202, Tryz.ntmps202
  go_wp2
  go_end0
  exact ⟨rfl, by rw [HF.out]; exact HS.out.set12 p e, ((But.refl b w).setCell _).setCell _⟩
 ·have HF : Hid (failAt s p e = s) := by show _ = _; unfold failAt; rw [if_neg h0]
  have hb := ne_zero_b h0
  go_enter Tryz.func202, Tryz.ntmps202
  go_wp2
  go_end0
  exact ⟨rfl, by rw [HF.out]; exact HS.out, But.refl b w⟩
set_option maxHeartbeats 400000 in
theorem isDigit_any (c : UInt8) (w : World) : Calls Tryz.prog 207 #[.int .u8 c.toNat] w fun e w' => e = .returned (.bool (isDig c)) ∧ w = w' := by
 have hc := c.toNat_lt
 by_cases a0 : 48 ≤ c.toNat <;> by_cases a1 : c.toNat ≤ 57
 all_goals
  first
   | (have V : Hid (isDig c = true) := by (show isDig c = true); simp only [isDig, Bool.and_eq_true, decide_eq_true_eq]; omega)
   | (have V : Hid (isDig c = false) := by (show isDig c = false); simp only [isDig, Bool.and_eq_false_iff, decide_eq_false_iff_not]; omega)
  generalize c.toNat = n at *
  go_enter Tryz.func207, Tryz.ntmps207
  go_wp2
  all_goals first | (exfalso; omega) | skip
  all_goals
   go_ret
   exact ⟨ret_bool (by first | (rw [V.out]; done) | (rw [V.out]; simp; done) | (rw [V.out]; simp; omega)), rfl⟩
set_option maxHeartbeats 400000 in
theorem isLetter_any (c : UInt8) (w : World) : Calls Tryz.prog 160 #[.int .u8 c.toNat] w fun e w' => e = .returned (.bool (isLet c)) ∧ w = w' := by
 have hc := c.toNat_lt
 by_cases a0 : 65 ≤ c.toNat <;> by_cases a1 : c.toNat ≤ 90 <;> by_cases a2 : 97 ≤ c.toNat <;> by_cases a3 : c.toNat ≤ 122
 all_goals
  first
   | (have V : Hid (isLet c = true) := by (show isLet c = true); simp only [isLet, Bool.or_eq_true, Bool.and_eq_true, decide_eq_true_eq]; omega)
   | (have V : Hid (isLet c = false) := by (show isLet c = false); simp only [isLet, Bool.or_eq_false_iff, Bool.and_eq_false_iff, decide_eq_false_iff_not]; omega)
  generalize c.toNat = n at *
  go_enter Tryz.func160, Tryz.ntmps160
  go_wp2
  all_goals first | (exfalso; omega) | skip
  all_goals
   go_ret
   exact ⟨ret_bool (by first | (rw [V.out]; done) | (rw [V.out]; simp; done) | (rw [V.out]; simp; omega)), rfl⟩
set_option maxHeartbeats 400000 in
theorem isBlank_any (c : UInt8) (w : World) : Calls Tryz.prog 165 #[.int .u8 c.toNat] w fun e w' => e = .returned (.bool (isBl c)) ∧ w = w' := by
 have V : Hid (isBl c = (((c.toNat : Int) == 32) || ((c.toNat : Int) == 9))) := by
  show isBl c = _
  unfold isBl
  rw [Bool.eq_iff_iff]; simp [← UInt8.toNat_inj]; omega
 cases a : ((c.toNat : Int) == 32) <;> cases b : ((c.toNat : Int) == 9)
 all_goals
  rw [a, b] at V
  generalize c.toNat = n at *
  go_enter Tryz.func165, Tryz.ntmps165
  go_wp2
  go_ret
  exact ⟨ret_bool (by rw [V.out]; try simp), rfl⟩
set_option maxHeartbeats 400000 in
theorem isCh_any (x c : UInt8) (cb : Nat) (w : World) (h : w.cell? ⟨cb, 0, none⟩ = some (.int .u8 x.toNat)) :
  Calls Tryz.prog 206 #[.int .u8 c.toNat, .pointer (some ⟨cb, 0, none⟩)] w fun e w' => e = .returned (.bool (isCh x c)) ∧ w = w' := by
 have V : Hid (isCh x c = ((c.toNat : Int) == (x.toNat : Int))) := by
  show isCh x c = _
  unfold isCh
  rw [Bool.eq_iff_iff]; simp [← UInt8.toNat_inj]; omega
 generalize c.toNat = n at *
 generalize x.toNat = k at *
 go_enter Tryz.func206, Tryz.ntmps206
 go_wp2
 go_ret
 exact ⟨ret_bool (by rw [V.out]; try simp), rfl⟩
set_option maxRecDepth 100000 in
set_option maxHeartbeats 1000000 in
theorem sees_dig (b : Nat) (t : List UInt8) (s : St) (w : World) (h : Scn w b t s) (_hl : t.length ≤ 1000) (_hp : s.p ≤ t.length) :
  Calls Tryz.prog 159 #[.pointer (some ⟨b, 0, none⟩), .func (.func 207) #[] #[]] w fun e w' => e = .returned (.bool (sees t (isDig) s)) ∧ Below w.heap.size w w' := by
 have c0 : ∀ t1 : Flow.Cls (Flow.Later w.drew), t1.val.cell? ⟨b, 0, none⟩ = some (.string ⟨t.toArray⟩) := Flow.cls_cell h.c0
 have c1 : ∀ t1 : Flow.Cls (Flow.Later w.drew), t1.val.cell? ⟨b, 1, none⟩ = some (.int .i64 s.p) := Flow.cls_cell h.c1
 have c2 : ∀ t1 : Flow.Cls (Flow.Later w.drew), t1.val.cell? ⟨b, 2, none⟩ = some (.int .i64 s.e) := Flow.cls_cell h.c2
 have HS := Lib.hid h; clear h
 haveI nonE := Flow.cls_nonempty w.drew
 by_cases h0 : s.e = 0
 ·rw [h0] at c2
  by_cases hlt : s.p < t.length
  ·have HV : Hid (sees t (isDig) s = (isDig) (at0 t s.p)) := by show _ = _; simp [sees, h0, hlt]
   clear h0
   go_enter Tryz.func159, Tryz.ntmps159
   go_wp2
   refine Flow.wp_region_segs Flow.Later Flow.Later.refl Flow.Later.trans [([0, 1, 2, 3, 4, 5, 6, 7, 8, 9, 10, 11, 12, 13, 14, 15, 16, 17, 18, 19, 20, 21, 22, 23, 24, 25, 26, 27], 28)] [29, 30] (by kernel_rfl) (by kernel_rfl) ?_
   rw [Flow.wpSegs_cons]
   simp only [Flow.pick, List.getElem?_toArray, List.getElem?_cons_succ, List.getElem?_cons_zero]
   repeat go_big_quiet_step (fail)
   refine wpQuiet_nil ?_
   rw [Flow.callAt_eq]
   simp only [List.getElem?_toArray, List.getElem?_cons_succ, List.getElem?_cons_zero]
   rw [if_pos (by rfl)]
   refine Flow.wp_behind (fun K hK => ?_)
   go_wp2_with fail
   rw [bget _ hlt]
   refine (isDigit_any _ _).mono ?_; rintro e w2 ⟨rfl, rfl⟩
   refine hK.out _ _ ⟨Flow.Later.refl _, ?_⟩
   clear hK K
   rw [Flow.wpSegs_nil]
   simp only [Flow.pick, List.getElem?_toArray, List.getElem?_cons_succ, List.getElem?_cons_zero]
   rw [← HV.out]
   generalize hB : sees t (isDig) s = B at *
   have HB := Lib.hid hB; clear hB
   repeat go_big_quiet_step (fail)
   refine wpQuiet_nil ?_
   clear c0 c1 c2 nonE
   go_wp2_with fail
   go_ret
   exact ⟨ret_bool HB.out.symm, Below.drew (Below.refl _ _)⟩
  ·have HV : Hid (sees t (isDig) s = false) := by show _ = _; simp [sees, hlt]
   clear h0
   have hlf : decide (s.p < t.length) = false := by simpa using hlt
   go_enter Tryz.func159, Tryz.ntmps159
   go_wp2
   refine Flow.wp_region_segs Flow.Later Flow.Later.refl Flow.Later.trans [([0, 1, 2, 3, 4, 5, 6, 7, 8, 9, 10, 11, 12, 13, 14, 15, 16, 17, 18, 19, 20, 21, 22, 23, 24, 25, 26, 27], 28)] [29, 30] (by kernel_rfl) (by kernel_rfl) ?_
   rw [Flow.wpSegs_cons]
   simp only [Flow.pick, List.getElem?_toArray, List.getElem?_cons_succ, List.getElem?_cons_zero]
   repeat go_big_quiet_step (fail)
   refine wpQuiet_nil ?_
   rw [Flow.callAt_eq]
   simp only [List.getElem?_toArray, List.getElem?_cons_succ, List.getElem?_cons_zero]
   rw [if_neg (by simp [Region.wanted, yielded])]
   rw [Flow.wpSegs_nil]
   simp only [Flow.pick, List.getElem?_toArray, List.getElem?_cons_succ, List.getElem?_cons_zero, Act.put, List.setIfInBounds_toArray, List.set_cons_zero, List.set_cons_succ]
   repeat go_big_quiet_step (fail)
   refine wpQuiet_nil ?_
   clear c0 c1 c2 nonE
   go_wp2_with fail
   go_ret
   exact ⟨ret_bool HV.out.symm, Below.drew (Below.refl _ _)⟩
 ·have HV : Hid (sees t (isDig) s = false) := by show _ = _; simp [sees, h0]
  have hb := ne_zero_b h0
  go_enter Tryz.func159, Tryz.ntmps159
  go_wp2
  refine Flow.wp_region_segs Flow.Later Flow.Later.refl Flow.Later.trans [([0, 1, 2, 3, 4, 5, 6, 7, 8, 9, 10, 11, 12, 13, 14, 15, 16, 17, 18, 19, 20, 21, 22, 23, 24, 25, 26, 27], 28)] [29, 30] (by kernel_rfl) (by kernel_rfl) ?_
  rw [Flow.wpSegs_cons]
  simp only [Flow.pick, List.getElem?_toArray, List.getElem?_cons_succ, List.getElem?_cons_zero]
  repeat go_big_quiet_step (fail)
  refine wpQuiet_nil ?_
  rw [Flow.callAt_eq]
  simp only [List.getElem?_toArray, List.getElem?_cons_succ, List.getElem?_cons_zero]
  rw [if_neg (by simp [Region.wanted, yielded])]
  rw [Flow.wpSegs_nil]
  simp only [Flow.pick, List.getElem?_toArray, List.getElem?_cons_succ, List.getElem?_cons_zero, Act.put, List.setIfInBounds_toArray, List.set_cons_zero, List.set_cons_succ]
  repeat go_big_quiet_step (fail)
  refine wpQuiet_nil ?_
  clear c0 c1 c2 nonE
  go_wp2_with fail
  go_ret
  exact ⟨ret_bool HV.out.symm, Below.drew (Below.refl _ _)⟩
set_option maxRecDepth 100000 in
set_option maxHeartbeats 1000000 in
theorem sees_let (b : Nat) (t : List UInt8) (s : St) (w : World) (h : Scn w b t s) (_hl : t.length ≤ 1000) (_hp : s.p ≤ t.length) :
  Calls Tryz.prog 159 #[.pointer (some ⟨b, 0, none⟩), .func (.func 160) #[] #[]] w fun e w' => e = .returned (.bool (sees t (isLet) s)) ∧ Below w.heap.size w w' := by
 have c0 : ∀ t1 : Flow.Cls (Flow.Later w.drew), t1.val.cell? ⟨b, 0, none⟩ = some (.string ⟨t.toArray⟩) := Flow.cls_cell h.c0
 have c1 : ∀ t1 : Flow.Cls (Flow.Later w.drew), t1.val.cell? ⟨b, 1, none⟩ = some (.int .i64 s.p) := Flow.cls_cell h.c1
 have c2 : ∀ t1 : Flow.Cls (Flow.Later w.drew), t1.val.cell? ⟨b, 2, none⟩ = some (.int .i64 s.e) := Flow.cls_cell h.c2
 have HS := Lib.hid h; clear h
 haveI nonE := Flow.cls_nonempty w.drew
 by_cases h0 : s.e = 0
 ·rw [h0] at c2
  by_cases hlt : s.p < t.length
  ·have HV : Hid (sees t (isLet) s = (isLet) (at0 t s.p)) := by show _ = _; simp [sees, h0, hlt]
   clear h0
   go_enter Tryz.func159, Tryz.ntmps159
   go_wp2
   refine Flow.wp_region_segs Flow.Later Flow.Later.refl Flow.Later.trans [([0, 1, 2, 3, 4, 5, 6, 7, 8, 9, 10, 11, 12, 13, 14, 15, 16, 17, 18, 19, 20, 21, 22, 23, 24, 25, 26, 27], 28)] [29, 30] (by kernel_rfl) (by kernel_rfl) ?_
   rw [Flow.wpSegs_cons]
   simp only [Flow.pick, List.getElem?_toArray, List.getElem?_cons_succ, List.getElem?_cons_zero]
   repeat go_big_quiet_step (fail)
   refine wpQuiet_nil ?_
   rw [Flow.callAt_eq]
   simp only [List.getElem?_toArray, List.getElem?_cons_succ, List.getElem?_cons_zero]
   rw [if_pos (by rfl)]
   refine Flow.wp_behind (fun K hK => ?_)
   go_wp2_with fail
   rw [bget _ hlt]
   refine (isLetter_any _ _).mono ?_; rintro e w2 ⟨rfl, rfl⟩
   refine hK.out _ _ ⟨Flow.Later.refl _, ?_⟩
   clear hK K
   rw [Flow.wpSegs_nil]
   simp only [Flow.pick, List.getElem?_toArray, List.getElem?_cons_succ, List.getElem?_cons_zero]
   rw [← HV.out]
   generalize hB : sees t (isLet) s = B at *
   have HB := Lib.hid hB; clear hB
   repeat go_big_quiet_step (fail)
   refine wpQuiet_nil ?_
   clear c0 c1 c2 nonE
   go_wp2_with fail
   go_ret
   exact ⟨ret_bool HB.out.symm, Below.drew (Below.refl _ _)⟩
  ·have HV : Hid (sees t (isLet) s = false) := by show _ = _; simp [sees, hlt]
   clear h0
   have hlf : decide (s.p < t.length) = false := by simpa using hlt
   go_enter Tryz.func159, Tryz.ntmps159
   go_wp2
   refine Flow.wp_region_segs Flow.Later Flow.Later.refl Flow.Later.trans [([0, 1, 2, 3, 4, 5, 6, 7, 8, 9, 10, 11, 12, 13, 14, 15, 16, 17, 18, 19, 20, 21, 22, 23, 24, 25, 26, 27], 28)] [29, 30] (by kernel_rfl) (by kernel_rfl) ?_
   rw [Flow.wpSegs_cons]
   simp only [Flow.pick, List.getElem?_toArray, List.getElem?_cons_succ, List.getElem?_cons_zero]
   repeat go_big_quiet_step (fail)
   refine wpQuiet_nil ?_
   rw [Flow.callAt_eq]
   simp only [List.getElem?_toArray, List.getElem?_cons_succ, List.getElem?_cons_zero]
   rw [if_neg (by simp [Region.wanted, yielded])]
   rw [Flow.wpSegs_nil]
   simp only [Flow.pick, List.getElem?_toArray, List.getElem?_cons_succ, List.getElem?_cons_zero, Act.put, List.setIfInBounds_toArray, List.set_cons_zero, List.set_cons_succ]
   repeat go_big_quiet_step (fail)
   refine wpQuiet_nil ?_
   clear c0 c1 c2 nonE
   go_wp2_with fail
   go_ret
   exact ⟨ret_bool HV.out.symm, Below.drew (Below.refl _ _)⟩
 ·have HV : Hid (sees t (isLet) s = false) := by show _ = _; simp [sees, h0]
  have hb := ne_zero_b h0
  go_enter Tryz.func159, Tryz.ntmps159
  go_wp2
  refine Flow.wp_region_segs Flow.Later Flow.Later.refl Flow.Later.trans [([0, 1, 2, 3, 4, 5, 6, 7, 8, 9, 10, 11, 12, 13, 14, 15, 16, 17, 18, 19, 20, 21, 22, 23, 24, 25, 26, 27], 28)] [29, 30] (by kernel_rfl) (by kernel_rfl) ?_
  rw [Flow.wpSegs_cons]
  simp only [Flow.pick, List.getElem?_toArray, List.getElem?_cons_succ, List.getElem?_cons_zero]
  repeat go_big_quiet_step (fail)
  refine wpQuiet_nil ?_
  rw [Flow.callAt_eq]
  simp only [List.getElem?_toArray, List.getElem?_cons_succ, List.getElem?_cons_zero]
  rw [if_neg (by simp [Region.wanted, yielded])]
  rw [Flow.wpSegs_nil]
  simp only [Flow.pick, List.getElem?_toArray, List.getElem?_cons_succ, List.getElem?_cons_zero, Act.put, List.setIfInBounds_toArray, List.set_cons_zero, List.set_cons_succ]
  repeat go_big_quiet_step (fail)
  refine wpQuiet_nil ?_
  clear c0 c1 c2 nonE
  go_wp2_with fail
  go_ret
  exact ⟨ret_bool HV.out.symm, Below.drew (Below.refl _ _)⟩
set_option maxRecDepth 100000 in
set_option maxHeartbeats 1000000 in
theorem sees_bl (b : Nat) (t : List UInt8) (s : St) (w : World) (h : Scn w b t s) (_hl : t.length ≤ 1000) (_hp : s.p ≤ t.length) :
  Calls Tryz.prog 159 #[.pointer (some ⟨b, 0, none⟩), .func (.func 165) #[] #[]] w fun e w' => e = .returned (.bool (sees t (isBl) s)) ∧ Below w.heap.size w w' := by
 have c0 : ∀ t1 : Flow.Cls (Flow.Later w.drew), t1.val.cell? ⟨b, 0, none⟩ = some (.string ⟨t.toArray⟩) := Flow.cls_cell h.c0
 have c1 : ∀ t1 : Flow.Cls (Flow.Later w.drew), t1.val.cell? ⟨b, 1, none⟩ = some (.int .i64 s.p) := Flow.cls_cell h.c1
 have c2 : ∀ t1 : Flow.Cls (Flow.Later w.drew), t1.val.cell? ⟨b, 2, none⟩ = some (.int .i64 s.e) := Flow.cls_cell h.c2
 have HS := Lib.hid h; clear h
 haveI nonE := Flow.cls_nonempty w.drew
 by_cases h0 : s.e = 0
 ·rw [h0] at c2
  by_cases hlt : s.p < t.length
  ·have HV : Hid (sees t (isBl) s = (isBl) (at0 t s.p)) := by show _ = _; simp [sees, h0, hlt]
   clear h0
   go_enter Tryz.func159, Tryz.ntmps159
   go_wp2
   refine Flow.wp_region_segs Flow.Later Flow.Later.refl Flow.Later.trans [([0, 1, 2, 3, 4, 5, 6, 7, 8, 9, 10, 11, 12, 13, 14, 15, 16, 17, 18, 19, 20, 21, 22, 23, 24, 25, 26, 27], 28)] [29, 30] (by kernel_rfl) (by kernel_rfl) ?_
   rw [Flow.wpSegs_cons]
   simp only [Flow.pick, List.getElem?_toArray, List.getElem?_cons_succ, List.getElem?_cons_zero]
   repeat go_big_quiet_step (fail)
   refine wpQuiet_nil ?_
   rw [Flow.callAt_eq]
   simp only [List.getElem?_toArray, List.getElem?_cons_succ, List.getElem?_cons_zero]
   rw [if_pos (by rfl)]
   refine Flow.wp_behind (fun K hK => ?_)
   go_wp2_with fail
   rw [bget _ hlt]
   refine (isBlank_any _ _).mono ?_; rintro e w2 ⟨rfl, rfl⟩
   refine hK.out _ _ ⟨Flow.Later.refl _, ?_⟩
   clear hK K
   rw [Flow.wpSegs_nil]
   simp only [Flow.pick, List.getElem?_toArray, List.getElem?_cons_succ, List.getElem?_cons_zero]
   rw [← HV.out]
   generalize hB : sees t (isBl) s = B at *
   have HB := Lib.hid hB; clear hB
   repeat go_big_quiet_step (fail)
   refine wpQuiet_nil ?_
   clear c0 c1 c2 nonE
   go_wp2_with fail
   go_ret
   exact ⟨ret_bool HB.out.symm, Below.drew (Below.refl _ _)⟩
  ·have HV : Hid (sees t (isBl) s = false) := by show _ = _; simp [sees, hlt]
   clear h0
   have hlf : decide (s.p < t.length) = false := by simpa using hlt
   go_enter Tryz.func159, Tryz.ntmps159
   go_wp2
   refine Flow.wp_region_segs Flow.Later Flow.Later.refl Flow.Later.trans [([0, 1, 2, 3, 4, 5, 6, 7, 8, 9, 10, 11, 12, 13, 14, 15, 16, 17, 18, 19, 20, 21, 22, 23, 24, 25, 26, 27], 28)] [29, 30] (by kernel_rfl) (by kernel_rfl) ?_
   rw [Flow.wpSegs_cons]
   simp only [Flow.pick, List.getElem?_toArray, List.getElem?_cons_succ, List.getElem?_cons_zero]
   repeat go_big_quiet_step (fail)
   refine wpQuiet_nil ?_
   rw [Flow.callAt_eq]
   simp only [List.getElem?_toArray, List.getElem?_cons_succ, List.getElem?_cons_zero]
   rw [if_neg (by simp [Region.wanted, yielded])]
   rw [Flow.wpSegs_nil]
   simp only [Flow.pick, List.getElem?_toArray, List.getElem?_cons_succ, List.getElem?_cons_zero, Act.put, List.setIfInBounds_toArray, List.set_cons_zero, List.set_cons_succ]
   repeat go_big_quiet_step (fail)
   refine wpQuiet_nil ?_
   clear c0 c1 c2 nonE
   go_wp2_with fail
   go_ret
   exact ⟨ret_bool HV.out.symm, Below.drew (Below.refl _ _)⟩
 ·have HV : Hid (sees t (isBl) s = false) := by show _ = _; simp [sees, h0]
  have hb := ne_zero_b h0
  go_enter Tryz.func159, Tryz.ntmps159
  go_wp2
  refine Flow.wp_region_segs Flow.Later Flow.Later.refl Flow.Later.trans [([0, 1, 2, 3, 4, 5, 6, 7, 8, 9, 10, 11, 12, 13, 14, 15, 16, 17, 18, 19, 20, 21, 22, 23, 24, 25, 26, 27], 28)] [29, 30] (by kernel_rfl) (by kernel_rfl) ?_
  rw [Flow.wpSegs_cons]
  simp only [Flow.pick, List.getElem?_toArray, List.getElem?_cons_succ, List.getElem?_cons_zero]
  repeat go_big_quiet_step (fail)
  refine wpQuiet_nil ?_
  rw [Flow.callAt_eq]
  simp only [List.getElem?_toArray, List.getElem?_cons_succ, List.getElem?_cons_zero]
  rw [if_neg (by simp [Region.wanted, yielded])]
  rw [Flow.wpSegs_nil]
  simp only [Flow.pick, List.getElem?_toArray, List.getElem?_cons_succ, List.getElem?_cons_zero, Act.put, List.setIfInBounds_toArray, List.set_cons_zero, List.set_cons_succ]
  repeat go_big_quiet_step (fail)
  refine wpQuiet_nil ?_
  clear c0 c1 c2 nonE
  go_wp2_with fail
  go_ret
  exact ⟨ret_bool HV.out.symm, Below.drew (Below.refl _ _)⟩
set_option maxRecDepth 100000 in
set_option maxHeartbeats 1000000 in
theorem sees_ch (b : Nat) (t : List UInt8) (s : St) (x : UInt8) (cb : Nat) (w : World) (h : Scn w b t s) (_hl : t.length ≤ 1000) (_hp : s.p ≤ t.length) (hx : w.cell? ⟨cb, 0, none⟩ = some (.int .u8 x.toNat)) :
  Calls Tryz.prog 159 #[.pointer (some ⟨b, 0, none⟩), .func (.func 206) #[] #[.pointer (some ⟨cb, 0, none⟩)]] w fun e w' => e = .returned (.bool (sees t (isCh x) s)) ∧ Below w.heap.size w w' := by
 have c0 : ∀ t1 : Flow.Cls (Flow.Later w.drew), t1.val.cell? ⟨b, 0, none⟩ = some (.string ⟨t.toArray⟩) := Flow.cls_cell h.c0
 have c1 : ∀ t1 : Flow.Cls (Flow.Later w.drew), t1.val.cell? ⟨b, 1, none⟩ = some (.int .i64 s.p) := Flow.cls_cell h.c1
 have c2 : ∀ t1 : Flow.Cls (Flow.Later w.drew), t1.val.cell? ⟨b, 2, none⟩ = some (.int .i64 s.e) := Flow.cls_cell h.c2
 have HS := Lib.hid h; clear h
 have HX := Lib.hid hx; clear hx
 haveI nonE := Flow.cls_nonempty w.drew
 by_cases h0 : s.e = 0
 ·rw [h0] at c2
  by_cases hlt : s.p < t.length
  ·have HV : Hid (sees t (isCh x) s = (isCh x) (at0 t s.p)) := by show _ = _; simp [sees, h0, hlt]
   clear h0
   go_enter Tryz.func159, Tryz.ntmps159
   go_wp2
   refine Flow.wp_region_segs Flow.Later Flow.Later.refl Flow.Later.trans [([0, 1, 2, 3, 4, 5, 6, 7, 8, 9, 10, 11, 12, 13, 14, 15, 16, 17, 18, 19, 20, 21, 22, 23, 24, 25, 26, 27], 28)] [29, 30] (by kernel_rfl) (by kernel_rfl) ?_
   rw [Flow.wpSegs_cons]
   simp only [Flow.pick, List.getElem?_toArray, List.getElem?_cons_succ, List.getElem?_cons_zero]
   repeat go_big_quiet_step (fail)
   refine wpQuiet_nil ?_
   rw [Flow.callAt_eq]
   simp only [List.getElem?_toArray, List.getElem?_cons_succ, List.getElem?_cons_zero]
   rw [if_pos (by rfl)]
   refine Flow.wp_behind (fun K hK => ?_)
   go_wp2_with fail
   rw [bget _ hlt]
   refine (isCh_any x _ cb w.drew HX.out).mono ?_; rintro e w2 ⟨rfl, rfl⟩
   refine hK.out _ _ ⟨Flow.Later.refl _, ?_⟩
   clear hK K
   rw [Flow.wpSegs_nil]
   simp only [Flow.pick, List.getElem?_toArray, List.getElem?_cons_succ, List.getElem?_cons_zero]
   rw [← HV.out]
   generalize hB : sees t (isCh x) s = B at *
   have HB := Lib.hid hB; clear hB
   repeat go_big_quiet_step (fail)
   refine wpQuiet_nil ?_
   clear c0 c1 c2 nonE
   go_wp2_with fail
   go_ret
   exact ⟨ret_bool HB.out.symm, Below.drew (Below.refl _ _)⟩
  ·have HV : Hid (sees t (isCh x) s = false) := by show _ = _; simp [sees, hlt]
   clear h0
   have hlf : decide (s.p < t.length) = false := by simpa using hlt
   go_enter Tryz.func159, Tryz.ntmps159
   go_wp2
   refine Flow.wp_region_segs Flow.Later Flow.Later.refl Flow.Later.trans [([0, 1, 2, 3, 4, 5, 6, 7, 8, 9, 10, 11, 12, 13, 14, 15, 16, 17, 18, 19, 20, 21, 22, 23, 24, 25, 26, 27], 28)] [29, 30] (by kernel_rfl) (by kernel_rfl) ?_
   rw [Flow.wpSegs_cons]
   simp only [Flow.pick, List.getElem?_toArray, List.getElem?_cons_succ, List.getElem?_cons_zero]
   repeat go_big_quiet_step (fail)
   refine wpQuiet_nil ?_
   rw [Flow.callAt_eq]
   simp only [List.getElem?_toArray, List.getElem?_cons_succ, List.getElem?_cons_zero]
   rw [if_neg (by simp [Region.wanted, yielded])]
   rw [Flow.wpSegs_nil]
   simp only [Flow.pick, List.getElem?_toArray, List.getElem?_cons_succ, List.getElem?_cons_zero, Act.put, List.setIfInBounds_toArray, List.set_cons_zero, List.set_cons_succ]
   repeat go_big_quiet_step (fail)
   refine wpQuiet_nil ?_
   clear c0 c1 c2 nonE
   go_wp2_with fail
   go_ret
   exact ⟨ret_bool HV.out.symm, Below.drew (Below.refl _ _)⟩
 ·have HV : Hid (sees t (isCh x) s = false) := by show _ = _; simp [sees, h0]
  have hb := ne_zero_b h0
  go_enter Tryz.func159, Tryz.ntmps159
  go_wp2
  refine Flow.wp_region_segs Flow.Later Flow.Later.refl Flow.Later.trans [([0, 1, 2, 3, 4, 5, 6, 7, 8, 9, 10, 11, 12, 13, 14, 15, 16, 17, 18, 19, 20, 21, 22, 23, 24, 25, 26, 27], 28)] [29, 30] (by kernel_rfl) (by kernel_rfl) ?_
  rw [Flow.wpSegs_cons]
  simp only [Flow.pick, List.getElem?_toArray, List.getElem?_cons_succ, List.getElem?_cons_zero]
  repeat go_big_quiet_step (fail)
  refine wpQuiet_nil ?_
  rw [Flow.callAt_eq]
  simp only [List.getElem?_toArray, List.getElem?_cons_succ, List.getElem?_cons_zero]
  rw [if_neg (by simp [Region.wanted, yielded])]
  rw [Flow.wpSegs_nil]
  simp only [Flow.pick, List.getElem?_toArray, List.getElem?_cons_succ, List.getElem?_cons_zero, Act.put, List.setIfInBounds_toArray, List.set_cons_zero, List.set_cons_succ]
  repeat go_big_quiet_step (fail)
  refine wpQuiet_nil ?_
  clear c0 c1 c2 nonE
  go_wp2_with fail
  go_ret
  exact ⟨ret_bool HV.out.symm, Below.drew (Below.refl _ _)⟩
open Go.RowKit
theorem Below.cellv {w w' : World} (h : Below w.heap.size w w') {p : Addr} {v : Value} (hv : w.cell? p = some v) : w'.cell? p = some v := by
 have hl := World.block_lt_of_cell? w p hv
 rw [h.cell hl]; exact hv
set_option maxRecDepth 100000 in
set_option maxHeartbeats 1000000 in
theorem need_dig (b : Nat) (t : List UInt8) (s : St) (w : World) (h : Scn w b t s) (hl : t.length ≤ 1000) (hp : s.p ≤ t.length) :
  Calls Tryz.prog 162 #[.pointer (some ⟨b, 0, none⟩), .func (.func 207) #[] #[]] w fun e w' => e = .returned (.int .u8 (needB t (isDig) s).toNat) ∧ Scn w' b t (need t (isDig) s) ∧ But b w w' := by
 have HS := Lib.hid h
 have HC := Lib.hid (sees_dig b t _ _ h hl hp)
 clear h
 skip
 cases hs : sees t (isDig) s with
 | true =>
  have hs' := hs
  simp only [sees, Bool.and_eq_true, decide_eq_true_eq] at hs'
  have hlt := hs'.1.2
  clear hs'
  have HN : Hid (need t (isDig) s = ⟨s.p + 1, s.e⟩) := by show _ = _; unfold need; rw [if_pos hs]
  have HB : Hid (needB t (isDig) s = at0 t s.p) := by show _ = _; unfold needB; rw [if_pos hs]
  have HC2 := HC.out
  rw [hs] at HC2
  have HC3 := Lib.hid HC2
  clear HC2 HC hs
  go_enter Tryz.func162, Tryz.ntmps162
  go_wp2_with fail
  refine HC3.out.mono ?_; rintro e w1 ⟨rfl, b1⟩
  have S1 := Lib.hid (HS.out.below b1)
  have c0 := S1.out.c0
  have c1 := S1.out.c1
  have f1 := S1.out.free 1
  have S2 := Lib.hid (S1.out.set1 (s.p + 1))
  go_wp2_with fail
  refine Flow.wp_region_segs Flow.Later Flow.Later.refl Flow.Later.trans [] [0, 1, 2, 3, 4, 5, 6, 7, 8, 9, 10] (by kernel_rfl) (by kernel_rfl) ?_
  obtain ⟨w2, hw2⟩ : ∃ w2, w2 = (w1.setCell ⟨b, 1, none⟩ (.int .i64 ((s.p : Int) + 1))).drew := ⟨_, rfl⟩
  have S3 : Hid (Scn w2 b t ⟨s.p + 1, s.e⟩) := by rw [hw2]; exact S2.out
  have B3 : But b w w2 := by rw [hw2]; exact ((But.of_below b1).setCell _).drew
  rw [← hw2]
  clear hw2 c0 c1 f1 S1 S2
  have c0 : ∀ t1 : Flow.Cls (Flow.Later w2), t1.val.cell? ⟨b, 0, none⟩ = some (.string ⟨t.toArray⟩) := Flow.cls_cell S3.out.c0
  have c1 : ∀ t1 : Flow.Cls (Flow.Later w2), t1.val.cell? ⟨b, 1, none⟩ = some (.int .i64 ((s.p : Int) + 1)) := Flow.cls_cell S3.out.c1
  haveI nonE := Flow.cls_nonempty w2
  rw [Flow.wpSegs_nil]
  simp only [Flow.pick, List.getElem?_toArray, List.getElem?_cons_succ, List.getElem?_cons_zero]
  repeat go_big_quiet_step (fail)
  refine wpQuiet_nil ?_
  clear c0 c1 nonE
  go_wp2_with fail
  go_ret
  refine ⟨?_, by rw [HN.out]; exact S3.out, B3⟩
  rw [HB.out]
  first
   | exact congrArg (fun c : UInt8 => Ending.returned (.int .u8 (c.toNat : Int))) (bget _ hlt)
   | (simp; exact bget _ hlt)
 | false =>
  have HB : Hid (needB t (isDig) s = 0) := by show _ = _; unfold needB; rw [if_neg (by rw [hs]; exact Bool.false_ne_true)]
  have HC2 := HC.out
  rw [hs] at HC2
  have HC3 := Lib.hid HC2
  clear HC2 HC
  by_cases hlt : s.p < t.length
  ·have HN : Hid (need t (isDig) s = failAt s s.p 3) := by show _ = _; unfold need; rw [if_neg (by rw [hs]; exact Bool.false_ne_true), if_pos hlt]
   clear hs
   go_enter Tryz.func162, Tryz.ntmps162
   go_wp2_with fail
   refine HC3.out.mono ?_; rintro e w1 ⟨rfl, b1⟩
   have S1 := Lib.hid (HS.out.below b1)
   go_wp2_with fail
   refine Flow.wp_region_segs Flow.Later Flow.Later.refl Flow.Later.trans [] [0, 1, 2, 3, 4, 5, 6, 7, 8, 9] (by kernel_rfl) (by kernel_rfl) ?_
   have S2 : Hid (Scn w1.drew b t s) := S1.out
   have b2 := Below.drew b1
   generalize w1.drew = w2 at *
   have c0 : ∀ t1 : Flow.Cls (Flow.Later w2), t1.val.cell? ⟨b, 0, none⟩ = some (.string ⟨t.toArray⟩) := Flow.cls_cell S2.out.c0
   have c1 : ∀ t1 : Flow.Cls (Flow.Later w2), t1.val.cell? ⟨b, 1, none⟩ = some (.int .i64 s.p) := Flow.cls_cell S2.out.c1
   haveI nonE := Flow.cls_nonempty w2
   rw [Flow.wpSegs_nil]
   simp only [Flow.pick, List.getElem?_toArray, List.getElem?_cons_succ, List.getElem?_cons_zero]
   repeat go_big_quiet_step (fail)
   refine wpQuiet_nil ?_
   clear c0 c1 nonE
   have c1 := S2.out.c1
   go_wp2_with fail
   refine (fail_any b t s s.p 3 w2 S2.out).mono ?_; rintro e w3 ⟨rfl, S3, b3⟩
   have S3' := Lib.hid S3
   clear S3 c1
   go_wp2_with fail
   go_ret
   exact ⟨by rw [HB.out]; rfl, by rw [HN.out]; exact S3'.out, (But.of_below b2).trans b3⟩
  ·have HN : Hid (need t (isDig) s = failAt s t.length 4) := by show _ = _; unfold need; rw [if_neg (by rw [hs]; exact Bool.false_ne_true), if_neg hlt]
   have hlf : decide (s.p < t.length) = false := by simpa using hlt
   clear hs
   go_enter Tryz.func162, Tryz.ntmps162
   go_wp2_with fail
   refine HC3.out.mono ?_; rintro e w1 ⟨rfl, b1⟩
   have S1 := Lib.hid (HS.out.below b1)
   go_wp2_with fail
   refine Flow.wp_region_segs Flow.Later Flow.Later.refl Flow.Later.trans [] [0, 1, 2, 3, 4, 5, 6, 7, 8, 9] (by kernel_rfl) (by kernel_rfl) ?_
   have S2 : Hid (Scn w1.drew b t s) := S1.out
   have b2 := Below.drew b1
   generalize w1.drew = w2 at *
   have c0 : ∀ t1 : Flow.Cls (Flow.Later w2), t1.val.cell? ⟨b, 0, none⟩ = some (.string ⟨t.toArray⟩) := Flow.cls_cell S2.out.c0
   have c1 : ∀ t1 : Flow.Cls (Flow.Later w2), t1.val.cell? ⟨b, 1, none⟩ = some (.int .i64 s.p) := Flow.cls_cell S2.out.c1
   haveI nonE := Flow.cls_nonempty w2
   rw [Flow.wpSegs_nil]
   simp only [Flow.pick, List.getElem?_toArray, List.getElem?_cons_succ, List.getElem?_cons_zero]
   repeat go_big_quiet_step (fail)
   refine wpQuiet_nil ?_
   clear c0 c1 nonE
   have c0 := S2.out.c0
   go_wp2_with fail
   refine (fail_any b t s t.length 4 w2 S2.out).mono ?_; rintro e w3 ⟨rfl, S3, b3⟩
   have S3' := Lib.hid S3
   clear S3 c0
   go_wp2_with fail
   go_ret
   exact ⟨by rw [HB.out]; rfl, by rw [HN.out]; exact S3'.out, (But.of_below b2).trans b3⟩
set_option maxRecDepth 100000 in
set_option maxHeartbeats 1000000 in
theorem need_bl (b : Nat) (t : List UInt8) (s : St) (w : World) (h : Scn w b t s) (hl : t.length ≤ 1000) (hp : s.p ≤ t.length) :
  Calls Tryz.prog 162 #[.pointer (some ⟨b, 0, none⟩), .func (.func 165) #[] #[]] w fun e w' => e = .returned (.int .u8 (needB t (isBl) s).toNat) ∧ Scn w' b t (need t (isBl) s) ∧ But b w w' := by
 have HS := Lib.hid h
 have HC := Lib.hid (sees_bl b t _ _ h hl hp)
 clear h
 skip
 cases hs : sees t (isBl) s with
 | true =>
  have hs' := hs
  simp only [sees, Bool.and_eq_true, decide_eq_true_eq] at hs'
  have hlt := hs'.1.2
  clear hs'
  have HN : Hid (need t (isBl) s = ⟨s.p + 1, s.e⟩) := by show _ = _; unfold need; rw [if_pos hs]
  have HB : Hid (needB t (isBl) s = at0 t s.p) := by show _ = _; unfold needB; rw [if_pos hs]
  have HC2 := HC.out
  rw [hs] at HC2
  have HC3 := Lib.hid HC2
  clear HC2 HC hs
  go_enter Tryz.func162, Tryz.ntmps162
  go_wp2_with fail
  refine HC3.out.mono ?_; rintro e w1 ⟨rfl, b1⟩
  have S1 := Lib.hid (HS.out.below b1)
  have c0 := S1.out.c0
  have c1 := S1.out.c1
  have f1 := S1.out.free 1
  have S2 := Lib.hid (S1.out.set1 (s.p + 1))
  go_wp2_with fail
  refine Flow.wp_region_segs Flow.Later Flow.Later.refl Flow.Later.trans [] [0, 1, 2, 3, 4, 5, 6, 7, 8, 9, 10] (by kernel_rfl) (by kernel_rfl) ?_
  obtain ⟨w2, hw2⟩ : ∃ w2, w2 = (w1.setCell ⟨b, 1, none⟩ (.int .i64 ((s.p : Int) + 1))).drew := ⟨_, rfl⟩
  have S3 : Hid (Scn w2 b t ⟨s.p + 1, s.e⟩) := by rw [hw2]; exact S2.out
  have B3 : But b w w2 := by rw [hw2]; exact ((But.of_below b1).setCell _).drew
  rw [← hw2]
  clear hw2 c0 c1 f1 S1 S2
  have c0 : ∀ t1 : Flow.Cls (Flow.Later w2), t1.val.cell? ⟨b, 0, none⟩ = some (.string ⟨t.toArray⟩) := Flow.cls_cell S3.out.c0
  have c1 : ∀ t1 : Flow.Cls (Flow.Later w2), t1.val.cell? ⟨b, 1, none⟩ = some (.int .i64 ((s.p : Int) + 1)) := Flow.cls_cell S3.out.c1
  haveI nonE := Flow.cls_nonempty w2
  rw [Flow.wpSegs_nil]
  simp only [Flow.pick, List.getElem?_toArray, List.getElem?_cons_succ, List.getElem?_cons_zero]
  repeat go_big_quiet_step (fail)
  refine wpQuiet_nil ?_
  clear c0 c1 nonE
  go_wp2_with fail
  go_ret
  refine ⟨?_, by rw [HN.out]; exact S3.out, B3⟩
  rw [HB.out]
  first
   | exact congrArg (fun c : UInt8 => Ending.returned (.int .u8 (c.toNat : Int))) (bget _ hlt)
   | (simp; exact bget _ hlt)
 | false =>
  have HB : Hid (needB t (isBl) s = 0) := by show _ = _; unfold needB; rw [if_neg (by rw [hs]; exact Bool.false_ne_true)]
  have HC2 := HC.out
  rw [hs] at HC2
  have HC3 := Lib.hid HC2
  clear HC2 HC
  by_cases hlt : s.p < t.length
  ·have HN : Hid (need t (isBl) s = failAt s s.p 3) := by show _ = _; unfold need; rw [if_neg (by rw [hs]; exact Bool.false_ne_true), if_pos hlt]
   clear hs
   go_enter Tryz.func162, Tryz.ntmps162
   go_wp2_with fail
   refine HC3.out.mono ?_; rintro e w1 ⟨rfl, b1⟩
   have S1 := Lib.hid (HS.out.below b1)
   go_wp2_with fail
   refine Flow.wp_region_segs Flow.Later Flow.Later.refl Flow.Later.trans [] [0, 1, 2, 3, 4, 5, 6, 7, 8, 9] (by kernel_rfl) (by kernel_rfl) ?_
   have S2 : Hid (Scn w1.drew b t s) := S1.out
   have b2 := Below.drew b1
   generalize w1.drew = w2 at *
   have c0 : ∀ t1 : Flow.Cls (Flow.Later w2), t1.val.cell? ⟨b, 0, none⟩ = some (.string ⟨t.toArray⟩) := Flow.cls_cell S2.out.c0
   have c1 : ∀ t1 : Flow.Cls (Flow.Later w2), t1.val.cell? ⟨b, 1, none⟩ = some (.int .i64 s.p) := Flow.cls_cell S2.out.c1
   haveI nonE := Flow.cls_nonempty w2
   rw [Flow.wpSegs_nil]
   simp only [Flow.pick, List.getElem?_toArray, List.getElem?_cons_succ, List.getElem?_cons_zero]
   repeat go_big_quiet_step (fail)
   refine wpQuiet_nil ?_
   clear c0 c1 nonE
   have c1 := S2.out.c1
   go_wp2_with fail
   refine (fail_any b t s s.p 3 w2 S2.out).mono ?_; rintro e w3 ⟨rfl, S3, b3⟩
   have S3' := Lib.hid S3
   clear S3 c1
   go_wp2_with fail
   go_ret
   exact ⟨by rw [HB.out]; rfl, by rw [HN.out]; exact S3'.out, (But.of_below b2).trans b3⟩
  ·have HN : Hid (need t (isBl) s = failAt s t.length 4) := by show _ = _; unfold need; rw [if_neg (by rw [hs]; exact Bool.false_ne_true), if_neg hlt]
   have hlf : decide (s.p < t.length) = false := by simpa using hlt
   clear hs
   go_enter Tryz.func162, Tryz.ntmps162
   go_wp2_with fail
   refine HC3.out.mono ?_; rintro e w1 ⟨rfl, b1⟩
   have S1 := Lib.hid (HS.out.below b1)
   go_wp2_with fail
   refine Flow.wp_region_segs Flow.Later Flow.Later.refl Flow.Later.trans [] [0, 1, 2, 3, 4, 5, 6, 7, 8, 9] (by kernel_rfl) (by kernel_rfl) ?_
   have S2 : Hid (Scn w1.drew b t s) := S1.out
   have b2 := Below.drew b1
   generalize w1.drew = w2 at *
   have c0 : ∀ t1 : Flow.Cls (Flow.Later w2), t1.val.cell? ⟨b, 0, none⟩ = some (.string ⟨t.toArray⟩) := Flow.cls_cell S2.out.c0
   have c1 : ∀ t1 : Flow.Cls (Flow.Later w2), t1.val.cell? ⟨b, 1, none⟩ = some (.int .i64 s.p) := Flow.cls_cell S2.out.c1
   haveI nonE := Flow.cls_nonempty w2
   rw [Flow.wpSegs_nil]
   simp only [Flow.pick, List.getElem?_toArray, List.getElem?_cons_succ, List.getElem?_cons_zero]
   repeat go_big_quiet_step (fail)
   refine wpQuiet_nil ?_
   clear c0 c1 nonE
   have c0 := S2.out.c0
   go_wp2_with fail
   refine (fail_any b t s t.length 4 w2 S2.out).mono ?_; rintro e w3 ⟨rfl, S3, b3⟩
   have S3' := Lib.hid S3
   clear S3 c0
   go_wp2_with fail
   go_ret
   exact ⟨by rw [HB.out]; rfl, by rw [HN.out]; exact S3'.out, (But.of_below b2).trans b3⟩
set_option maxRecDepth 100000 in
set_option maxHeartbeats 1000000 in
theorem need_ch (b : Nat) (t : List UInt8) (s : St) (x : UInt8) (cb : Nat) (w : World) (h : Scn w b t s) (hl : t.length ≤ 1000) (hp : s.p ≤ t.length) (hx : w.cell? ⟨cb, 0, none⟩ = some (.int .u8 x.toNat)) :
  Calls Tryz.prog 162 #[.pointer (some ⟨b, 0, none⟩), .func (.func 206) #[] #[.pointer (some ⟨cb, 0, none⟩)]] w fun e w' => e = .returned (.int .u8 (needB t (isCh x) s).toNat) ∧ Scn w' b t (need t (isCh x) s) ∧ But b w w' := by
 have HS := Lib.hid h
 have HC := Lib.hid (sees_ch b t _ x cb _ h hl hp hx)
 clear h
 clear hx
 cases hs : sees t (isCh x) s with
 | true =>
  have hs' := hs
  simp only [sees, Bool.and_eq_true, decide_eq_true_eq] at hs'
  have hlt := hs'.1.2
  clear hs'
  have HN : Hid (need t (isCh x) s = ⟨s.p + 1, s.e⟩) := by show _ = _; unfold need; rw [if_pos hs]
  have HB : Hid (needB t (isCh x) s = at0 t s.p) := by show _ = _; unfold needB; rw [if_pos hs]
  have HC2 := HC.out
  rw [hs] at HC2
  have HC3 := Lib.hid HC2
  clear HC2 HC hs
  go_enter Tryz.func162, Tryz.ntmps162
  go_wp2_with fail
  refine HC3.out.mono ?_; rintro e w1 ⟨rfl, b1⟩
  have S1 := Lib.hid (HS.out.below b1)
  have c0 := S1.out.c0
  have c1 := S1.out.c1
  have f1 := S1.out.free 1
  have S2 := Lib.hid (S1.out.set1 (s.p + 1))
  go_wp2_with fail
  refine Flow.wp_region_segs Flow.Later Flow.Later.refl Flow.Later.trans [] [0, 1, 2, 3, 4, 5, 6, 7, 8, 9, 10] (by kernel_rfl) (by kernel_rfl) ?_
  obtain ⟨w2, hw2⟩ : ∃ w2, w2 = (w1.setCell ⟨b, 1, none⟩ (.int .i64 ((s.p : Int) + 1))).drew := ⟨_, rfl⟩
  have S3 : Hid (Scn w2 b t ⟨s.p + 1, s.e⟩) := by rw [hw2]; exact S2.out
  have B3 : But b w w2 := by rw [hw2]; exact ((But.of_below b1).setCell _).drew
  rw [← hw2]
  clear hw2 c0 c1 f1 S1 S2
  have c0 : ∀ t1 : Flow.Cls (Flow.Later w2), t1.val.cell? ⟨b, 0, none⟩ = some (.string ⟨t.toArray⟩) := Flow.cls_cell S3.out.c0
  have c1 : ∀ t1 : Flow.Cls (Flow.Later w2), t1.val.cell? ⟨b, 1, none⟩ = some (.int .i64 ((s.p : Int) + 1)) := Flow.cls_cell S3.out.c1
  haveI nonE := Flow.cls_nonempty w2
  rw [Flow.wpSegs_nil]
  simp only [Flow.pick, List.getElem?_toArray, List.getElem?_cons_succ, List.getElem?_cons_zero]
  repeat go_big_quiet_step (fail)
  refine wpQuiet_nil ?_
  clear c0 c1 nonE
  go_wp2_with fail
  go_ret
  refine ⟨?_, by rw [HN.out]; exact S3.out, B3⟩
  rw [HB.out]
  first
   | exact congrArg (fun c : UInt8 => Ending.returned (.int .u8 (c.toNat : Int))) (bget _ hlt)
   | (simp; exact bget _ hlt)
 | false =>
  have HB : Hid (needB t (isCh x) s = 0) := by show _ = _; unfold needB; rw [if_neg (by rw [hs]; exact Bool.false_ne_true)]
  have HC2 := HC.out
  rw [hs] at HC2
  have HC3 := Lib.hid HC2
  clear HC2 HC
  by_cases hlt : s.p < t.length
  ·have HN : Hid (need t (isCh x) s = failAt s s.p 3) := by show _ = _; unfold need; rw [if_neg (by rw [hs]; exact Bool.false_ne_true), if_pos hlt]
   clear hs
   go_enter Tryz.func162, Tryz.ntmps162
   go_wp2_with fail
   refine HC3.out.mono ?_; rintro e w1 ⟨rfl, b1⟩
   have S1 := Lib.hid (HS.out.below b1)
   go_wp2_with fail
   refine Flow.wp_region_segs Flow.Later Flow.Later.refl Flow.Later.trans [] [0, 1, 2, 3, 4, 5, 6, 7, 8, 9] (by kernel_rfl) (by kernel_rfl) ?_
   have S2 : Hid (Scn w1.drew b t s) := S1.out
   have b2 := Below.drew b1
   generalize w1.drew = w2 at *
   have c0 : ∀ t1 : Flow.Cls (Flow.Later w2), t1.val.cell? ⟨b, 0, none⟩ = some (.string ⟨t.toArray⟩) := Flow.cls_cell S2.out.c0
   have c1 : ∀ t1 : Flow.Cls (Flow.Later w2), t1.val.cell? ⟨b, 1, none⟩ = some (.int .i64 s.p) := Flow.cls_cell S2.out.c1
   haveI nonE := Flow.cls_nonempty w2
   rw [Flow.wpSegs_nil]
   simp only [Flow.pick, List.getElem?_toArray, List.getElem?_cons_succ, List.getElem?_cons_zero]
   repeat go_big_quiet_step (fail)
   refine wpQuiet_nil ?_
   clear c0 c1 nonE
   have c1 := S2.out.c1
   go_wp2_with fail
   refine (fail_any b t s s.p 3 w2 S2.out).mono ?_; rintro e w3 ⟨rfl, S3, b3⟩
   have S3' := Lib.hid S3
   clear S3 c1
   go_wp2_with fail
   go_ret
   exact ⟨by rw [HB.out]; rfl, by rw [HN.out]; exact S3'.out, (But.of_below b2).trans b3⟩
  ·have HN : Hid (need t (isCh x) s = failAt s t.length 4) := by show _ = _; unfold need; rw [if_neg (by rw [hs]; exact Bool.false_ne_true), if_neg hlt]
   have hlf : decide (s.p < t.length) = false := by simpa using hlt
   clear hs
   go_enter Tryz.func162, Tryz.ntmps162
   go_wp2_with fail
   refine HC3.out.mono ?_; rintro e w1 ⟨rfl, b1⟩
   have S1 := Lib.hid (HS.out.below b1)
   go_wp2_with fail
   refine Flow.wp_region_segs Flow.Later Flow.Later.refl Flow.Later.trans [] [0, 1, 2, 3, 4, 5, 6, 7, 8, 9] (by kernel_rfl) (by kernel_rfl) ?_
   have S2 : Hid (Scn w1.drew b t s) := S1.out
   have b2 := Below.drew b1
   generalize w1.drew = w2 at *
   have c0 : ∀ t1 : Flow.Cls (Flow.Later w2), t1.val.cell? ⟨b, 0, none⟩ = some (.string ⟨t.toArray⟩) := Flow.cls_cell S2.out.c0
   have c1 : ∀ t1 : Flow.Cls (Flow.Later w2), t1.val.cell? ⟨b, 1, none⟩ = some (.int .i64 s.p) := Flow.cls_cell S2.out.c1
   haveI nonE := Flow.cls_nonempty w2
   rw [Flow.wpSegs_nil]
   simp only [Flow.pick, List.getElem?_toArray, List.getElem?_cons_succ, List.getElem?_cons_zero]
   repeat go_big_quiet_step (fail)
   refine wpQuiet_nil ?_
   clear c0 c1 nonE
   have c0 := S2.out.c0
   go_wp2_with fail
   refine (fail_any b t s t.length 4 w2 S2.out).mono ?_; rintro e w3 ⟨rfl, S3, b3⟩
   have S3' := Lib.hid S3
   clear S3 c0
   go_wp2_with fail
   go_ret
   exact ⟨by rw [HB.out]; rfl, by rw [HN.out]; exact S3'.out, (But.of_below b2).trans b3⟩
open Go.RowKit
theorem takeWhile_count (q : UInt8 → Bool) : ∀ (l : List UInt8) (k : Nat), k ≤ l.length → (∀ i, i < k → q (l.getD i 0) = true) → (k < l.length → q (l.getD k 0) = false) → (l.takeWhile q).length = k
 | [], k, hk, _, _ => by simp at hk; simp [hk]
 | a :: l, 0, _, _, h2 => by
  have := h2 (by simp)
  simp at this
  simp [this]
 | a :: l, k + 1, hk, h1, h2 => by
  have ha := h1 0 (by omega)
  simp at ha
  simp only [List.takeWhile_cons, ha, if_true, List.length_cons]
  rw [takeWhile_count q l k (by simpa using hk) (fun i hi => by have := h1 (i + 1) (by omega); simpa using this) (fun hlt => by have := h2 (by simpa using hlt); simpa using this)]
theorem skip_eq {t : List UInt8} {q : UInt8 → Bool} {s : St} (k : Nat) (h0 : s.e = 0) (hk : s.p + k ≤ t.length) (h1 : ∀ i, i < k → q (at0 t (s.p + i)) = true) (h2 : s.p + k < t.length → q (at0 t (s.p + k)) = false) : skip t q s = ⟨s.p + k, s.e⟩ := by
 unfold skip
 rw [if_pos h0, takeWhile_count q (t.drop s.p) k (by simp; omega) (fun i hi => by have := h1 i hi; simpa [at0] using this) (fun hlt => by have := h2 (by simp at hlt; omega); simpa [at0] using this)]
set_option maxRecDepth 100000 in
set_option maxHeartbeats 1000000 in
theorem skip_bl (b : Nat) (t : List UInt8) (s : St) (w : World) (h : Scn w b t s) (hl : t.length ≤ 1000) (hp : s.p ≤ t.length) :
  Calls Tryz.prog 164 #[.pointer (some ⟨b, 0, none⟩), .func (.func 165) #[] #[]] w fun e w' => e = .returned (.tuple #[]) ∧ Scn w' b t (skip t isBl s) ∧ But b w w' := by
 have HS := Lib.hid h; clear h
 go_enter Tryz.func164, Tryz.ntmps164
 go_wp2_with fail
 go_loopg [] (t.length - s.p) (fun g wr => ∃ k : Nat, g = t.length - s.p - k ∧ s.p + k ≤ t.length ∧ Scn wr b t ⟨s.p + k, s.e⟩ ∧ But b w wr ∧ (∀ i, i < k → isBl (at0 t (s.p + i)) = true) ∧ (0 < k → s.e = 0))
 case atStart => exact ⟨0, by omega, by omega, HS.out, But.refl _ _, fun i hi => absurd hi (by omega), fun h => absurd h (by omega)⟩
 case round =>
  obtain ⟨k, rfl, hk, hS, hB, h1, h2⟩ := hrel
  have A := Lib.hid (And.intro hS (And.intro h1 h2))
  clear hS h1 h2
  go_wp2_with fail
  refine (sees_bl b t ⟨s.p + k, s.e⟩ wr A.out.1 hl hk).mono ?_
  rintro e w1 ⟨rfl, b1⟩
  cases hs : sees t isBl ⟨s.p + k, s.e⟩ with
  | true =>
   have hs' := hs
   simp only [sees, Bool.and_eq_true, decide_eq_true_eq, beq_iff_eq] at hs'
   have X := Lib.hid hs'
   have hlt := hs'.1.2
   clear hs' hs
   have S1 := Lib.hid (A.out.1.below b1)
   have c1 := S1.out.c1
   have f1 := S1.out.free 1
   have S2 := Lib.hid (S1.out.set1 (s.p + k + 1))
   dsimp only at c1 hlt
   go_wp2_with fail
   go_roundg (t.length - s.p - (k + 1))
   case measure => omega
   case rel => exact ⟨k + 1, rfl, by omega, S2.out, (hB.trans (But.of_below b1)).setCell _, fun i hi => by
     rcases Nat.lt_succ_iff_lt_or_eq.1 hi with h | h
     ·exact A.out.2.1 i h
     ·subst h; exact X.out.2, fun _ => X.out.1.1⟩
  | false =>
   have X := Lib.hid hs; clear hs
   have S1 := Lib.hid (A.out.1.below b1)
   go_wp2_with fail
   go_end0
   refine ⟨rfl, ?_, hB.trans (But.of_below b1)⟩
   have hx := X.out
   by_cases h0 : s.e = 0
   ·rw [skip_eq k h0 hk A.out.2.1 (fun hlt => by simpa [sees, h0, hlt] using hx)]
    exact S1.out
   ·have hk0 : k = 0 := by
     rcases Nat.eq_zero_or_pos k with h | h
     ·exact h
     ·exact absurd (A.out.2.2 h) h0
    subst hk0
    have : skip t isBl s = s := by unfold skip; rw [if_neg h0]
    rw [this]; exact S1.out
set_option maxHeartbeats 1000000 in
theorem blanks_any (b : Nat) (t : List UInt8) (s : St) (w : World) (h : Scn w b t s) (hl : t.length ≤ 1000) (hp : s.p ≤ t.length) :
  Calls Tryz.prog 167 #[.pointer (some ⟨b, 0, none⟩)] w fun e w' => e = .returned (.tuple #[]) ∧ Scn w' b t (blanks t s) ∧ But b w w' := by
 have HS := Lib.hid h; clear h
 go_enter Tryz.func167, Tryz.ntmps167
 go_wp2_with fail
 refine (need_bl b t s w HS.out hl hp).mono ?_
 rintro e w1 ⟨rfl, S1, b1⟩
 have S1' := Lib.hid S1; clear S1
 go_wp2_with fail
 refine (skip_bl b t _ w1 S1'.out hl (need_p hp)).mono ?_
 rintro e w2 ⟨rfl, S2, b2⟩
 have S2' := Lib.hid S2; clear S2
 go_wp2_with fail
 go_end0
 exact ⟨rfl, S2'.out, b1.trans b2⟩
set_option maxHeartbeats 400000 in
theorem is_any (x : UInt8) (w : World) :
  Calls Tryz.prog 163 #[.int .u8 x.toNat] w fun e w' => e = .returned (.func (.func 206) #[] #[.pointer (some ⟨w.heap.size, 0, none⟩)]) ∧ w'.cell? ⟨w.heap.size, 0, none⟩ = some (.int .u8 x.toNat) ∧ Below w.heap.size w w' := by
 go_enter Tryz.func163, Tryz.ntmps163
 go_wp2
 go_ret
 exact ⟨rfl, by simp, (Below.refl _ _).alloc (Nat.le_refl _) _⟩
set_option maxRecDepth 100000 in
set_option maxHeartbeats 2000000 in
theorem number_any (b : Nat) (t : List UInt8) (s : St) (d m : Nat) (w : World) (h : Scn w b t s) (hl : t.length ≤ 1000) (hp : s.p ≤ t.length) (hd : d ≤ 4) (hm : m ≤ 1) :
  Calls Tryz.prog 166 #[.pointer (some ⟨b, 0, none⟩), .int .i64 d, .int .i64 m] w fun e w' => e = .returned (.tuple #[.int .i64 s.p, .int .i64 (numV t d (m == 1) s)]) ∧ Scn w' b t (numS t d (m == 1) s) ∧ But b w w' := by
 have c1 := h.c1
 have HS := Lib.hid h; clear h
 go_enter Tryz.func166, Tryz.ntmps166
 go_wp2_with fail
 clear c1
 go_loopw [7, 13] (fun n i wr => ∃ k : Nat, k ≤ d ∧ i = .int .i64 k ∧ n = .int .i64 (digV t k s) ∧ Scn wr b t (digS t k s) ∧ But b w wr) (fun _ i _ => d - (intOf i).toNat)
 case atStart => exact ⟨0, by omega, rfl, rfl, HS.out, But.refl _ _⟩
 case round =>
  obtain ⟨k, hk, rfl, rfl, hS, hB⟩ := hrel
  have A := Lib.hid hS; clear hS
  have vb := digV_small t s k (by omega)
  by_cases hlt : k < d
  ·have hc := (needB t isDig (digS t k s)).toNat_lt
   have HV : Hid (digV t (k + 1) s = 10 * digV t k s + (needB t isDig (digS t k s)).toNat - 48) := rfl
   have HP := Lib.hid (digS_p hp k)
   go_wp2_with fail
   refine (need_dig b t _ _ A.out hl HP.out).mono ?_
   rintro e w1 ⟨rfl, S1, b1⟩
   have S1' := Lib.hid S1; clear S1
   generalize (needB t isDig (digS t k s)).toNat = c at *
   go_wp2_with fail
   go_roundw
   case rel => exact ⟨k + 1, by omega, by go_num, by rw [HV.out], S1'.out, hB.trans b1⟩
   case measure => simp [intOf]; omega
  ·obtain rfl : k = d := by omega
   clear HS
   go_wp2_with fail
   go_loopw [2, 7] (fun x n wr => ∃ (j : Nat) (v : Int) (st : St), j ≤ 1 ∧ x = .int .i64 j ∧ n = .int .i64 v ∧ Scn wr b t st ∧ But b w wr ∧ -600000 ≤ v ∧ v ≤ 2300000 ∧ ((j = m ∧ st = digS t k s ∧ v = digV t k s) ∨ (j = 0 ∧ m = 1 ∧ sees t isDig (digS t k s) = true ∧ st = digS t (k + 1) s ∧ v = digV t (k + 1) s))) (fun x _ _ => (intOf x).toNat)
   case atStart => exact ⟨m, _, _, hm, rfl, rfl, A.out, hB, vb.1, vb.2, .inl ⟨rfl, rfl, rfl⟩⟩
   case round =>
    obtain ⟨j, v, st, hj, rfl, rfl, hS, hB2, v1, v2, hcase⟩ := hrel
    clear A hB vb
    have A := Lib.hid hS; clear hS
    have hst : st.p ≤ t.length := by
     rcases hcase with ⟨_, rfl, _⟩ | ⟨_, _, _, rfl, _⟩ <;> exact digS_p hp _
    have C := Lib.hid hcase; clear hcase
    by_cases hj0 : j = 0
    ·subst hj0
     have hj1 : decide ((0 : Int) < 0) = false := rfl
     go_wp2_with fail
     go_ret2
     have key : numV t k (m == 1) s = v ∧ numS t k (m == 1) s = st := by
      rcases C.out with ⟨rfl, rfl, rfl⟩ | ⟨_, rfl, h3, rfl, rfl⟩
      ·simp [numV, numS]
      ·simp [numV, numS, h3]
     exact ⟨by rw [key.1]; rfl, by rw [key.2]; exact A.out, hB2⟩
    ·obtain rfl : j = 1 := by omega
     have C2 := C.out
     rcases C2 with ⟨e1, e2, e3⟩ | ⟨e1, _⟩
     ·have M := Lib.hid (And.intro e1 (And.intro e2 e3))
      clear e1 e2 e3 C
      go_wp2_with fail
      refine (sees_dig b t st _ A.out hl hst).mono ?_
      rintro e w1 ⟨rfl, b1⟩
      have A1 := Lib.hid (A.out.below b1)
      cases hs : sees t isDig st with
      | true =>
       have X := Lib.hid hs; clear hs
       have hc := (needB t isDig st).toNat_lt
       go_wp2_with fail
       refine (need_dig b t _ _ A1.out hl hst).mono ?_
       rintro e w2 ⟨rfl, S2, b2⟩
       have S2' := Lib.hid S2; clear S2
       generalize hcc : (needB t isDig st).toNat = c at *
       have HC := Lib.hid hcc; clear hcc
       go_wp2_with fail
       go_roundw
       case rel =>
        obtain ⟨e1, e2, e3⟩ := M.out
        have hv : 10 * v + (c : Int) - 48 = digV t (k + 1) s := by
         show _ = 10 * digV t k s + ((needB t isDig (digS t k s)).toNat : Int) - 48
         rw [← e2, HC.out, e3]
        have hb2 := digV_small t s (k + 1) (by omega)
        refine ⟨0, _, _, by omega, by go_num, rfl, S2'.out, (hB2.trans (But.of_below b1)).trans b2, by omega, by omega, .inr ⟨rfl, e1.symm, by rw [← e2]; exact X.out, by rw [e2]; rfl, hv⟩⟩
       case measure => simp [intOf]
      | false =>
       have X := Lib.hid hs; clear hs
       go_wp2_with fail
       go_ret2
       obtain ⟨e1, e2, e3⟩ := M.out
       have key : numV t k (m == 1) s = v ∧ numS t k (m == 1) s = st := by
        have hx := X.out
        rw [e2] at hx
        simp [numV, numS, hx, e2, e3]
       exact ⟨by rw [key.1]; rfl, by rw [key.2]; exact A1.out, hB2.trans (But.of_below b1)⟩
     ·cases e1
open Go.RowKit
/-- A row of bytes in memory that may be written. -/
def Row (w : World) (b : Nat) (m : List UInt8) : Prop := ∀ j, j < m.length → w.cell? ⟨b, j, none⟩ = some (.int .u8 (m.getD j 0).toNat) ∧ w.frozen? ⟨b, j, none⟩ = false
theorem to_bytes (w : World) (l : List UInt8) : ∃ (cap : Nat) (w1 : World), (convert 9 66 (.string ⟨l.toArray⟩)).run Tryz.prog w = .ok (.slice (some ⟨w.heap.size, 0, none⟩) l.length cap) w1 ∧
  Below w.heap.size w w1 ∧ w.heap.size < w1.heap.size ∧ Row w1 w.heap.size l := by
 have h := run_bytes_of_string (P := Tryz.prog) w 9 66 5 ⟨l.toArray⟩ Tryz.underlying9 Tryz.underlying66 Tryz.underlying5
 have hsz : (⟨l.toArray⟩ : ByteArray).size = l.length := rfl
 rw [hsz] at h
 refine ⟨_, _, h, (Below.drew (Below.refl _ _)).alloc (Nat.le_refl _) _, by simp [World.drew, -World.drew_eq], fun j hj => ⟨?_, ?_⟩⟩
 ·have := World.cell?_alloc_mark w.drew (bytesRow ⟨l.toArray⟩ (grownCap w l.length 0 5)) 5 ((bytesRow ⟨l.toArray⟩ (grownCap w l.length 0 5)).size, (bytesRow ⟨l.toArray⟩ (grownCap w l.length 0 5)).size + 1) j
  refine Eq.trans this ?_
  rw [bytesRow_at _ _ _ (by simpa using hj)]
  simp [hj]
 ·have := World.frozen?_alloc_mark w.drew (bytesRow ⟨l.toArray⟩ (grownCap w l.length 0 5)) 5 (bytesRow ⟨l.toArray⟩ (grownCap w l.length 0 5)).size ((bytesRow ⟨l.toArray⟩ (grownCap w l.length 0 5)).size + 1) j
  refine Eq.trans this ?_
  have hs : l.length ≤ (bytesRow ⟨l.toArray⟩ (grownCap w l.length 0 5)).size := by simp [bytesRow]
  simp; omega
theorem of_bytes (w : World) (b cap : Nat) (m : List UInt8) (h : Row w b m) : (convert 66 9 (.slice (some ⟨b, 0, none⟩) m.length cap)).run Tryz.prog w = .ok (.string ⟨m.toArray⟩) w :=
 run_convert_bytes_back (P := Tryz.prog) w 66 9 5 ⟨b, 0, none⟩ cap m Tryz.underlying66 Tryz.underlying5 Tryz.underlying9 (by
  intro j hj
  have := (h j hj).1
  have e : (⟨b, 0, none⟩ : Addr).add j = ⟨b, j, none⟩ := by
   unfold Addr.add; split
   ·rename_i h0; simp_all
   ·simp
  rw [e]
  simpa [hj] using this)
theorem Row.set {w : World} {b : Nat} {m : List UInt8} (h : Row w b m) (i : Nat) (c : UInt8) : Row (w.setCell ⟨b, i, none⟩ (.int .u8 c.toNat)) b (m.set i c) := by
 intro j hj
 rw [List.length_set] at hj
 have hh := h j hj
 refine ⟨?_, by rw [World.frozen?_setCell]; exact hh.2⟩
 by_cases e : j = i
 ·subst e
  rw [World.cell?_setCell_same' _ _ _ (by rw [hh.1]; rfl)]
  simp [hj]
 ·rw [World.cell?_setCell_other _ _ _ _ (by intro h; injection h; omega), hh.1]
  simp [Ne.symm e, hj]
/-- The first k bytes as capital letters. -/
def capTo (l : List UInt8) (k : Nat) : List UInt8 := (l.take k).map cap ++ l.drop k
theorem capTo_len (l : List UInt8) (k : Nat) : (capTo l k).length = l.length := by simp [capTo]; omega
theorem capTo_all (l : List UInt8) : capTo l l.length = capL l := by simp [capTo, capL]
theorem capTo_get (l : List UInt8) (k : Nat) (h : k < l.length) : (capTo l k).getD k 0 = l.getD k 0 := by
 have : (List.map cap (List.take k l)).length = k := by simp; omega
 simp only [capTo, List.getD_eq_getElem?_getD]
 rw [List.getElem?_append_right (by rw [this]; exact Nat.le_refl _), this]
 simp
theorem capTo_succ (l : List UInt8) (k : Nat) (h : k < l.length) : capTo l (k + 1) = (capTo l k).set k (cap (l.getD k 0)) := by
 have hl : (List.map cap (List.take k l)).length = k := by simp; omega
 unfold capTo
 rw [List.set_append_right _ _ (by rw [hl]; exact Nat.le_refl _), hl, Nat.sub_self]
 rw [List.take_succ_eq_append_getElem h, List.map_append]
 have e : List.drop k l = l[k] :: List.drop (k + 1) l := List.drop_eq_getElem_cons h
 simp [h]
 rw [e]; rfl
theorem List.set_getElem_self' (m : List UInt8) (k : Nat) : m.set k (m.getD k 0) = m := by
 rcases Nat.lt_or_ge k m.length with h | h
 ·simp [h]
 ·rw [List.set_eq_of_length_le h]
theorem cap_low {c : UInt8} (h1 : 97 ≤ c.toNat) (h2 : c.toNat ≤ 122) : ((cap c).toNat : Int) = (c.toNat : Int) - 32 := by
 unfold cap; rw [if_pos ⟨h1, h2⟩]
 have : (32 : UInt8) ≤ c := by rw [UInt8.le_iff_toNat_le]; simp; omega
 rw [UInt8.toNat_sub_of_le _ _ this]; simp; omega
theorem cap_id {c : UInt8} (h : c.toNat < 97 ∨ 122 < c.toNat) : cap c = c := by
 unfold cap; rw [if_neg (by omega)]
set_option maxRecDepth 100000 in
set_option maxHeartbeats 1000000 in
theorem capital_any (l : List UInt8) (w : World) (hl : l.length ≤ 1000) :
  Calls Tryz.prog 203 #[.string ⟨l.toArray⟩] w fun e w' => e = .returned (.string ⟨(capL l).toArray⟩) ∧ Below w.heap.size w w' := by
 obtain ⟨cp, w1, hcv, b1, z1, R1⟩ := to_bytes w l
 have HR := Lib.hid R1; clear R1
 go_enter Tryz.func203, Tryz.ntmps203
 go_wp2_with fail
 clear hcv
 go_loopw [10] (fun i wr => ∃ k : Nat, k ≤ l.length ∧ i = .int .i64 k ∧ Row wr w.heap.size (capTo l k) ∧ Below w.heap.size w wr) (fun i _ => l.length - (intOf i).toNat)
 case atStart => exact ⟨0, by omega, rfl, by have : capTo l 0 = l := by simp [capTo]
                                             rw [this]; exact HR.out, b1⟩
 case round =>
  obtain ⟨k, hk, rfl, hR, hB⟩ := hrel
  have A := Lib.hid hR; clear hR
  by_cases hlt : k < l.length
  ·have hc : wr.cell? ⟨w.heap.size, k, none⟩ = some (.int .u8 (l.getD k 0).toNat) := by
    have := (A.out k (by rw [capTo_len]; exact hlt)).1
    rw [capTo_get l k hlt] at this; exact this
   have hf := (A.out k (by rw [capTo_len]; exact hlt)).2
   have hb := (l.getD k 0).toNat_lt
   have HS := Lib.hid (capTo_succ l k hlt)
   have RS := Lib.hid (A.out.set k (cap (l.getD k 0)))
   by_cases h1 : 97 ≤ (l.getD k 0).toNat ∧ (l.getD k 0).toNat ≤ 122
   ·have hcl := cap_low h1.1 h1.2
    have HCL := Lib.hid hcl; clear hcl
    have h2 : (97 : Int) ≤ ((l.getD k 0).toNat : Int) := by omega
    have h3 : ((l.getD k 0).toNat : Int) ≤ 122 := by omega
    clear h1
    generalize hgc : (l.getD k 0).toNat = c at *
    have GC := Lib.hid hgc; clear hgc
    go_wp2_with fail
    go_roundw
    case rel =>
     refine ⟨k + 1, by omega, by go_num, ?_, hB.setCell (by simp) _⟩
     have r := RS.out
     rw [HCL.out, ← HS.out] at r
     exact r
    case measure => simp [intOf]; omega
   ·have hci := cap_id (c := l.getD k 0) (by omega)
    have HCI := Lib.hid hci; clear hci
    have h1' : ((l.getD k 0).toNat : Int) < 97 ∨ (122 : Int) < ((l.getD k 0).toNat : Int) := by omega
    have keep : Hid (capTo l (k + 1) = capTo l k) := by
     show _ = _
     rw [HS.out, HCI.out, ← capTo_get l k hlt]
     exact List.set_getElem_self' _ _
    generalize hgc : (l.getD k 0).toNat = c at *
    clear hgc
    rcases h1' with h1' | h1'
    ·go_wp2_with fail
     go_roundw
     case rel => exact ⟨k + 1, by omega, by go_num, by rw [keep.out]; exact A.out, hB⟩
     case measure => simp [intOf]; omega
    ·have h2 : (97 : Int) ≤ c := by omega
     go_wp2_with fail
     go_roundw
     case rel => exact ⟨k + 1, by omega, by go_num, by rw [keep.out]; exact A.out, hB⟩
     case measure => simp [intOf]; omega
  ·obtain rfl : k = l.length := by omega
   have hb := of_bytes wr w.heap.size cp _ A.out
   rw [capTo_len, capTo_all] at hb
   go_wp2_with fail
   go_ret
   exact ⟨rfl, hB⟩
open Go.RowKit Go.Maps Go.WideMaps
theorem zlaw : Keyed Tryz.prog 9 := string_keyed Tryz.underlying9
/-- A map of the call's own, and what was there before as it was. -/
def Zst (w0 w : World) (b n : Nat) (D : DataW Unit) : Prop := w.ownsMap Tryz.prog 9 (plainElem Tryz.prog 3) b n D ∧ Below w0.heap.size w0 w ∧ w0.heap.size ≤ b
theorem wpList_insert_z {w0 w : World} {ops : Array Oper} {rest : List Oper} {o : Oper} {a : Act} {Q : Exit → Act → World → Prop}
  (hg : o.guard = none) (m x v : Operand) (hop : o.op = Op.insert 260 m x v) (b n : Nat) (D : DataW Unit)
  (hm : a.eval m = .map (some b)) (hz : Zst w0 w b n D) (hn : n < 100) (key : ByteArray) (c : Int) (hx : a.eval x = .string key) (hv : a.eval v = .int .i64 c) (hkey : key.size ≤ maxLen) (hwc : (Lit.int .i64 c).wf = true)
  (hK : ∀ w', Zst w0 w' b (n + 1) (D.put (.string key.data.toList) (.lit (.int .i64 c))) → wpList Tryz.prog ops Q rest (a.put o.dst undef) w') :
  wpList Tryz.prog ops Q (o :: rest) a w := by
 have hmx : n < maxLen := by unfold maxLen; omega
 have hgr : ∀ w', w.grownBy w' (some b) → Below w0.heap.size w0 w' := fun w' r2 => hz.2.1.grown r2 hz.2.1.size (fun k hk => by injection hk with hk; rw [← hk]; exact hz.2.2)
 refine wpList_plain hg fun K' hK' => ?_
 obtain ⟨w', hrun, r1, r2⟩ := hz.1.update zlaw Tryz.underlying260 hmx (keyOf_string_mk Tryz.underlying9 hkey) (plainElem_int Tryz.underlying3 hwc)
 unfold Oper.wp
 simp [execOp, hop, hm, hx, hv, hrun, Result.andThen]
 exact hK' _ _ (hK w' ⟨r1, hgr w' r2, hz.2.2⟩)
/-- What the map of the zones reads as. -/
def zoneD : DataW Unit := .map [(.string [67, 68, 84], .lit (.int .i64 (-300))), (.string [67, 83, 84], .lit (.int .i64 (-360))), (.string [69, 68, 84], .lit (.int .i64 (-240))), (.string [69, 83, 84], .lit (.int .i64 (-300))), (.string [71, 77, 84], .lit (.int .i64 (0))), (.string [77, 68, 84], .lit (.int .i64 (-360))), (.string [77, 83, 84], .lit (.int .i64 (-420))), (.string [80, 68, 84], .lit (.int .i64 (-420))), (.string [80, 83, 84], .lit (.int .i64 (-480))), (.string [85, 84], .lit (.int .i64 (0))), (.string [85, 84, 67], .lit (.int .i64 (0))), (.string [90], .lit (.int .i64 (0)))]
set_option maxRecDepth 100000 in
set_option maxHeartbeats 2000000 in
theorem zones_any (w : World) :
  Calls Tryz.prog 224 #[] w fun e w' => e = .returned (.map (some w.heap.size)) ∧ Zst w w' w.heap.size 12 zoneD := by
 have hmm := @run_makeMap Tryz.prog
 have hz : Zst w (w.alloc (.map #[] 0)) w.heap.size 0 (.map []) := ⟨World.ownsMap_made _ _ _ _, (Below.refl _ _).alloc (Nat.le_refl _) _, Nat.le_refl _⟩
 go_enter Tryz.func224, Tryz.ntmps224
 go_wp2_with (refine wpList_insert_z rfl _ _ _ rfl _ _ _ rfl hz (by decide) _ _ rfl rfl (by decide) (by decide) ?_; clear hz; intro w1 hz)
 go_ret
 exact ⟨rfl, hz⟩
open Go.RowKit Go.Maps Go.WideMaps
theorem zoneD_eq : zoneD = .map (zoneTab.map fun r => (.string r.1, .lit (.int .i64 r.2))) := rfl
theorem look_list (l : List UInt8) : ∀ (tab : List (List UInt8 × Int)),
  Maps.has (H := Unit) (.map (tab.map fun r => (.string r.1, .lit (.int .i64 r.2)))) (.string l) = (tab.find? fun r => r.1 == l).isSome ∧
  (DataW.map (H := Unit) (tab.map fun r => (.string r.1, .lit (.int .i64 r.2)))).atKey (.string l) (.lit (.int .i64 0)) = .lit (.int .i64 (((tab.find? fun r => r.1 == l).map (·.2)).getD 0))
 | [] => ⟨rfl, rfl⟩
 | (k, v) :: tab => by
  have ih := look_list l tab
  cases h : (k == l) with
  | true => simp [Maps.has, DataW.atKey, Lit.sameKey, h]
  | false =>
   simp only [Maps.has, DataW.atKey, List.map_cons, List.any_cons, List.find?_cons, Lit.sameKey, h] at ih ⊢
   simpa using ih
theorem zone_look (l : List UInt8) : Maps.has zoneD (.string l) = (zoneTab.find? fun r => r.1 == l).isSome ∧ zoneD.atKey (.string l) (.lit (.int .i64 0)) = .lit (.int .i64 (((zoneTab.find? fun r => r.1 == l).map (·.2)).getD 0)) := by
 rw [zoneD_eq]; exact look_list l zoneTab
theorem lit_inj {a b : Int} (h : (.lit (.int .i64 a) : DataW Unit) = .lit (.int .i64 b)) : a = b := by injection h with h; injection h
theorem zero3 (w : World) : (zeroValue 3).run Tryz.prog w = .ok (.int .i64 0) w := by kernel_rfl
/-- The look-up in the map of the zones. -/
theorem zone_run {w0 w w' : World} {b : Nat} (l : List UInt8) (hl : l.length ≤ 1000) (hz : Zst w0 w b 12 zoneD) (hb : Below w.heap.size w w') :
  (Instr.lookup 260 (.map (some b)) (.string ⟨l.toArray⟩) true).run Tryz.prog w' = .ok (.tuple #[.int .i64 (((zoneTab.find? fun r => r.1 == l).map (·.2)).getD 0), .bool (zoneTab.find? fun r => r.1 == l).isSome]) w' := by
 have hown : w'.ownsMap Tryz.prog 9 (plainElem Tryz.prog 3) b 12 zoneD := by
  obtain ⟨es, clock, h1, h2, h3, h4⟩ := hz.1
  exact ⟨es, clock, by rw [hb.block b (blk_lt h1)]; exact h1, h2, h3, h4⟩
 have hm : (⟨l.toArray⟩ : ByteArray).size ≤ maxLen := by
  show l.length ≤ maxLen
  unfold maxLen; omega
 obtain ⟨v, ps, hrun, hR⟩ := hown.look_ok zlaw Tryz.underlying260 (zero3 w') (plainElem_int Tryz.underlying3 (by decide)) (keyOf_string_mk Tryz.underlying9 hm)
 obtain ⟨c, rfl, hc, _⟩ := plainElem_int_inv Tryz.underlying3 hR
 have hk : (⟨l.toArray⟩ : ByteArray).data.toList = l := rfl
 rw [hk] at hrun hc
 have h2 := (zone_look l).2
 rw [(zone_look l).1] at hrun
 rw [hrun]
 have h3 : (.lit (.int .i64 c) : DataW Unit) = .lit (.int .i64 (((zoneTab.find? fun r => r.1 == l).map (·.2)).getD 0)) := by
  rw [← h2]; exact (congrArg Prod.fst hc).symm
 rw [lit_inj h3]
theorem ne_b {a b : Int} (h : a ≠ b) : (a != b) = true := by simpa using h
theorem eq_nb {a b : Int} (h : a = b) : (a != b) = false := by simpa using h
theorem u8_int {c : UInt8} {n : Nat} (hn : n < 256) : ((c.toNat : Int) = n) ↔ c = UInt8.ofNat n := by
 rw [← UInt8.toNat_inj]; simp; omega
set_option maxRecDepth 100000 in
set_option maxHeartbeats 2000000 in
theorem zone_name (l : List UInt8) (o : Int) (w : World) (hl : l.length ≤ 1000) (hz : zoneName l = some o) :
  Calls Tryz.prog 208 #[.string ⟨l.toArray⟩] w fun e w' => e = .returned (.tuple #[.int .i64 o, .int .i64 0]) ∧ Below w.heap.size w w' := by
 obtain ⟨r, hr, hro⟩ : ∃ r, (zoneTab.find? fun r => r.1 == capL l) = some r ∧ r.2 = o := by
  unfold zoneName at hz
  cases h : zoneTab.find? fun r => r.1 == capL l with
  | none => rw [h] at hz; cases hz
  | some r => rw [h] at hz; exact ⟨r, rfl, by simpa using hz⟩
 have HR := Lib.hid (And.intro hr hro); clear hr hro hz
 go_enter Tryz.func208, Tryz.ntmps208
 go_wp2_with fail
 refine (zones_any _).mono ?_; rintro e w1 ⟨rfl, Z1⟩
 have Z1' := Lib.hid Z1; clear Z1
 go_wp2_with fail
 refine (capital_any l _ hl).mono ?_; rintro e w2 ⟨rfl, b2⟩
 have hrun := zone_run (capL l) (by unfold capL; simpa using hl) Z1'.out b2
 rw [HR.out.1] at hrun
 simp only [Option.map_some, Option.getD_some, Option.isSome_some, HR.out.2] at hrun
 go_wp2_with fail
 go_ret2
 exact ⟨rfl, Z1'.out.2.1.trans (b2.mono Z1'.out.2.1.size)⟩
set_option maxRecDepth 100000 in
set_option maxHeartbeats 2000000 in
theorem zone_form (l : List UInt8) (w : World) (hl : l.length ≤ 1000) (hz : zoneName l = none) (h5 : l.length ≠ 5 ∨ (at0 l 0 ≠ 43 ∧ at0 l 0 ≠ 45)) :
  Calls Tryz.prog 208 #[.string ⟨l.toArray⟩] w fun e w' => e = .returned (.tuple #[.int .i64 0, .int .i64 3]) ∧ Below w.heap.size w w' := by
 have hr : (zoneTab.find? fun r => r.1 == capL l) = none := by
  unfold zoneName at hz
  cases h : zoneTab.find? fun r => r.1 == capL l with
  | none => rfl
  | some r => rw [h] at hz; cases hz
 have HR := Lib.hid hr; clear hr hz
 by_cases hlen : l.length = 5
 ·have h0 : at0 l 0 ≠ 43 ∧ at0 l 0 ≠ 45 := by
   rcases h5 with h | h
   ·exact absurd hlen h
   ·exact h
  clear h5
  have hpos : 0 < l.length := by omega
  have hb0 : ∀ h, (⟨l.toArray⟩ : ByteArray)[0]'h = at0 l 0 := fun h => bget h hpos
  have n1 : (((at0 l 0).toNat : Int) != 43) = true := ne_b (fun h => h0.1 ((u8_int (n := 43) (by omega)).1 h))
  have n2 : (((at0 l 0).toNat : Int) != 45) = true := ne_b (fun h => h0.2 ((u8_int (n := 45) (by omega)).1 h))
  have n3 : ((l.length : Int) != 5) = false := eq_nb (by omega)
  have l5 : (0 : Int) < l.length := by omega
  clear hlen h0
  go_enter Tryz.func208, Tryz.ntmps208
  go_wp2_with fail
  refine (zones_any _).mono ?_; rintro e w1 ⟨rfl, Z1⟩
  have Z1' := Lib.hid Z1; clear Z1
  go_wp2_with fail
  refine (capital_any l _ hl).mono ?_; rintro e w2 ⟨rfl, b2⟩
  have hrun := zone_run (capL l) (by unfold capL; simpa using hl) Z1'.out b2
  rw [HR.out] at hrun
  simp only [Option.map_none, Option.getD_none, Option.isSome_none] at hrun
  go_wp2_with fail
  go_ret2
  exact ⟨rfl, Z1'.out.2.1.trans (b2.mono Z1'.out.2.1.size)⟩
 ·have n3 : ((l.length : Int) != 5) = true := ne_b (by omega)
  clear h5 hlen
  go_enter Tryz.func208, Tryz.ntmps208
  go_wp2_with fail
  refine (zones_any _).mono ?_; rintro e w1 ⟨rfl, Z1⟩
  have Z1' := Lib.hid Z1; clear Z1
  go_wp2_with fail
  refine (capital_any l _ hl).mono ?_; rintro e w2 ⟨rfl, b2⟩
  have hrun := zone_run (capL l) (by unfold capL; simpa using hl) Z1'.out b2
  rw [HR.out] at hrun
  simp only [Option.map_none, Option.getD_none, Option.isSome_none] at hrun
  go_wp2_with fail
  go_ret2
  exact ⟨rfl, Z1'.out.2.1.trans (b2.mono Z1'.out.2.1.size)⟩
theorem numV0 (t : List UInt8) (k : Nat) (s : St) : numV t k ((0 : Nat) == 1) s = digV t k s := by simp [numV]
theorem numS0 (t : List UInt8) (k : Nat) (s : St) : numS t k ((0 : Nat) == 1) s = digS t k s := by simp [numS]
theorem number_0 (b : Nat) (t : List UInt8) (s : St) (d : Nat) (w : World) (h : Scn w b t s) (hl : t.length ≤ 1000) (hp : s.p ≤ t.length) (hd : d ≤ 4) :
  Calls Tryz.prog 166 #[.pointer (some ⟨b, 0, none⟩), .int .i64 d, .int .i64 0] w fun e w' => e = .returned (.tuple #[.int .i64 s.p, .int .i64 (digV t d s)]) ∧ Scn w' b t (digS t d s) ∧ But b w w' := by
 have := number_any b t s d 0 w h hl hp hd (by omega)
 rw [numV0, numS0] at this
 exact this
theorem scn_new (w : World) (t : List UInt8) (p : Nat) : Scn (w.alloc (.cells #[.string ⟨t.toArray⟩, .int .i64 (p : Nat), .int .i64 (0 : Nat)] 168)) w.heap.size t ⟨p, 0⟩ := blk_new _ _
set_option maxRecDepth 100000 in
set_option maxHeartbeats 4000000 in
theorem zone_num (l : List UInt8) (w : World) (hlen : l.length = 5) (hz : zoneName l = none) (h5 : at0 l 0 = 43 ∨ at0 l 0 = 45) :
  Calls Tryz.prog 208 #[.string ⟨l.toArray⟩] w fun e w' => e = .returned (.tuple #[.int .i64 (zoneV l), .int .i64 (zoneE l)]) ∧ Below w.heap.size w w' := by
 have hr : (zoneTab.find? fun r => r.1 == capL l) = none := by
  unfold zoneName at hz
  cases h : zoneTab.find? fun r => r.1 == capL l with
  | none => rfl
  | some r => rw [h] at hz; cases hz
 have HR := Lib.hid hr; clear hr
 have hE : zoneE l = if (zs l).e ≠ 0 ∨ 59 < zm l then 3 else if 840 < zh l * 60 + zm l then 2 else 0 := by
  unfold zoneE; rw [hz]
  by_cases hc : (zs l).e ≠ 0 ∨ 59 < zm l
  ·rw [if_pos hc]; simp only []; rw [if_pos (by rcases hc with h | h <;> simp [h])]
  ·rw [if_neg hc]; simp only []; rw [if_neg (by rcases h5 with h | h <;> simp [h, hlen] <;> omega)]
 have hV : zoneV l = if zoneE l ≠ 0 then 0 else if at0 l 0 = 45 then -(zh l * 60 + zm l) else zh l * 60 + zm l := by
  unfold zoneV; rw [hz]
 clear hz
 have hl : l.length ≤ 1000 := by omega
 have hpos : 0 < l.length := by omega
 have hb0 : ∀ h, (⟨l.toArray⟩ : ByteArray)[0]'h = at0 l 0 := fun h => bget h hpos
 have n3 : ((l.length : Int) != 5) = false := eq_nb (by omega)
 have l5 : (0 : Int) < l.length := by omega
 have HP1 := Lib.hid (show (1 : Nat) ≤ l.length by omega)
 have HP2 := Lib.hid (digS_p (t := l) (s := ⟨1, 0⟩) (by show 1 ≤ _; omega) 2)
 have zb := digV_small l ⟨1, 0⟩ 2 (by omega)
 have zb2 := digV_small l (digS l 2 ⟨1, 0⟩) 2 (by omega)
 have cs : ((zs l).e ≠ 0 ∧ ((((zs l).e : Nat) : Int) != 0) = true ∧ zoneE l = 3 ∧ zoneV l = 0) ∨
   ((((zs l).e : Nat) : Int) != 0) = false ∧ ((59 < zm l ∧ zoneE l = 3 ∧ zoneV l = 0) ∨ (zm l ≤ 59 ∧ ((840 < zh l * 60 + zm l ∧ zoneE l = 2 ∧ zoneV l = 0) ∨ (zh l * 60 + zm l ≤ 840 ∧ zoneE l = 0 ∧ ((at0 l 0 = 45 ∧ zoneV l = -(zh l * 60 + zm l)) ∨ (at0 l 0 = 43 ∧ zoneV l = zh l * 60 + zm l)))))) := by
  by_cases h1 : (zs l).e = 0
  ·refine .inr ⟨eq_nb (by omega), ?_⟩
   by_cases h2 : 59 < zm l
   ·have e : zoneE l = 3 := by rw [hE, if_pos (.inr h2)]
    exact .inl ⟨h2, e, by rw [hV, e]; rfl⟩
   ·refine .inr ⟨by omega, ?_⟩
    by_cases h3 : 840 < zh l * 60 + zm l
    ·have e : zoneE l = 2 := by rw [hE, if_neg (by simp [h1]; omega), if_pos h3]
     exact .inl ⟨h3, e, by rw [hV, e]; rfl⟩
    ·have e : zoneE l = 0 := by rw [hE, if_neg (by simp [h1]; omega), if_neg h3]
     refine .inr ⟨by omega, e, ?_⟩
     rcases h5 with h | h
     ·exact .inr ⟨h, by rw [hV, e, h]; simp⟩
     ·exact .inl ⟨h, by rw [hV, e, h]; simp⟩
  ·have e : zoneE l = 3 := by rw [hE, if_pos (.inl h1)]
   exact .inl ⟨h1, ne_b (by omega), e, by rw [hV, e]; rfl⟩
 have CS := Lib.hid cs
 clear cs hE hV
 have sg : ((((at0 l 0).toNat : Int) != 43) = false ∧ at0 l 0 = 43) ∨ ((((at0 l 0).toNat : Int) != 43) = true ∧ (((at0 l 0).toNat : Int) != 45) = false ∧ at0 l 0 = 45) := by
  rcases h5 with h | h
  ·exact .inl ⟨by rw [h]; rfl, h⟩
  ·exact .inr ⟨by rw [h]; rfl, by rw [h]; rfl, h⟩
 clear h5 hlen
 have HZS : Hid (digS l 2 (digS l 2 ⟨1, 0⟩) = zs l) := rfl
 have HZH : Hid (digV l 2 ⟨1, 0⟩ = zh l) := rfl
 have HZM : Hid (digV l 2 (digS l 2 ⟨1, 0⟩) = zm l) := rfl
 rcases sg with ⟨g1, g3⟩ | ⟨g1, g2, g3⟩
 all_goals
  have G3 := Lib.hid g3; clear g3
  go_enter Tryz.func208, Tryz.ntmps208
  go_wp2_with fail
  refine (zones_any _).mono ?_; rintro e w1 ⟨rfl, Z1⟩
  have Z1' := Lib.hid Z1; clear Z1
  go_wp2_with fail
  refine (capital_any l _ hl).mono ?_; rintro e w2 ⟨rfl, b2⟩
  have hrun := zone_run (capL l) (by unfold capL; simpa using hl) Z1'.out b2
  rw [HR.out] at hrun
  simp only [Option.map_none, Option.getD_none, Option.isSome_none] at hrun
  have hB2 := Z1'.out.2.1.trans (b2.mono Z1'.out.2.1.size)
  go_wp2_with fail
  clear hrun Z1' b2
  have S0 := Lib.hid (scn_new w2 l 1)
  have hB3 := hB2.alloc hB2.size (.cells #[.string ⟨l.toArray⟩, .int .i64 (1 : Nat), .int .i64 (0 : Nat)] 168)
  have hwb : w.heap.size ≤ w2.heap.size := hB2.size
  have hbs : w2.heap.size < (w2.alloc (.cells #[.string ⟨l.toArray⟩, .int .i64 (1 : Nat), .int .i64 (0 : Nat)] 168)).heap.size := by simp
  refine (number_0 w2.heap.size l ⟨1, 0⟩ 2 _ S0.out hl HP1.out (by omega)).mono ?_
  rintro e w3 ⟨rfl, S3, b3⟩
  have S3' := Lib.hid S3; clear S3
  have hB4 := hB3.trans (b3.below hwb (by omega))
  have hbs3 := Nat.lt_of_lt_of_le hbs b3.size
  clear S0 hB3 hB2 b3 hbs
  generalize w2.heap.size = bb at *
  go_wp2_with fail
  refine (number_0 bb l _ 2 _ S3'.out hl HP2.out (by omega)).mono ?_
  rintro e w4 ⟨rfl, S4, b4⟩
  rw [HZS.out] at S4
  rw [HZM.out, HZH.out]
  have S4' := Lib.hid S4; clear S4
  have hB5 := hB4.trans (b4.below hwb (by omega))
  have c2 := S4'.out.c2
  clear hB4 b4 S3' hbs3
  have zbA : -600000 ≤ zh l ∧ zh l ≤ 2300000 := zb
  have zbB : -600000 ≤ zm l ∧ zm l ≤ 2300000 := zb2
  clear zb zb2 HP2 HP1 HZS HZM HZH
  generalize zh l = HH at *
  generalize zm l = MM at *
  have C := CS.out
  clear CS
  rcases C with ⟨x1, x2, x3, x4⟩ | ⟨x0, ⟨x1, x2, x3⟩ | ⟨x1, ⟨x2, x3, x4⟩ | ⟨x2, x3, ⟨x4, x5⟩ | ⟨x4, x5⟩⟩⟩⟩
  ·have E := Lib.hid (And.intro x3 x4); clear x1 x3 x4
   go_wp2_with fail
   go_ret2
   exact ⟨by rw [E.out.1, E.out.2]; rfl, hB5⟩
  ·have E := Lib.hid (And.intro x2 x3); clear x2 x3
   go_wp2_with fail
   go_ret2
   exact ⟨by rw [E.out.1, E.out.2]; rfl, hB5⟩
  ·have E := Lib.hid (And.intro x3 x4); clear x3 x4
   go_wp2_with fail
   go_ret2
   exact ⟨by rw [E.out.1, E.out.2]; rfl, hB5⟩
  ·first
    | (exfalso; have := G3.out.symm.trans x4; revert this; decide)
    | (have E := Lib.hid (And.intro x3 x5); clear x3 x5
       have q1 : (((at0 l 0).toNat : Int) == 45) = true := by rw [G3.out]; rfl
       clear x4
       go_wp2_with fail
       go_ret2
       exact ⟨by rw [E.out.1, E.out.2]; rfl, hB5⟩)
  ·first
    | (exfalso; have := G3.out.symm.trans x4; revert this; decide)
    | (have E := Lib.hid (And.intro x3 x5); clear x3 x5
       have q1 : (((at0 l 0).toNat : Int) == 45) = false := by rw [G3.out]; rfl
       clear x4
       go_wp2_with fail
       go_ret2
       exact ⟨by rw [E.out.1, E.out.2]; rfl, hB5⟩)
theorem zone_any (l : List UInt8) (w : World) (hl : l.length ≤ 1000) :
  Calls Tryz.prog 208 #[.string ⟨l.toArray⟩] w fun e w' => e = .returned (.tuple #[.int .i64 (zoneV l), .int .i64 (zoneE l)]) ∧ Below w.heap.size w w' := by
 cases hz : zoneName l with
 | some o =>
  have e1 : zoneE l = 0 := by unfold zoneE; rw [hz]
  have e2 : zoneV l = o := by unfold zoneV; rw [hz]
  rw [e1, e2]; exact zone_name l o w hl hz
 | none =>
  by_cases h5 : l.length ≠ 5 ∨ (at0 l 0 ≠ 43 ∧ at0 l 0 ≠ 45)
  ·have e1 : zoneE l = 3 := by unfold zoneE; rw [hz]; simp only []; rw [if_pos (by rcases h5 with h | h <;> simp [h])]
   have e2 : zoneV l = 0 := by unfold zoneV; rw [hz]; simp [e1]
   rw [e1, e2]; exact zone_form l w hl hz h5
  ·have h1 : l.length = 5 := by
    rcases Nat.decEq l.length 5 with h | h
    ·exact absurd (.inl h) h5
    ·exact h
   refine zone_num l w h1 hz ?_
   by_cases a : at0 l 0 = 43
   ·exact .inl a
   ·by_cases b : at0 l 0 = 45
    ·exact .inr b
    ·exact absurd (.inr ⟨a, b⟩) h5
open Go.RowKit
theorem extract_drop (t : List UInt8) (p : Nat) : (⟨t.toArray⟩ : ByteArray).extract p t.length = ⟨(t.drop p).toArray⟩ := by
 apply ByteArray.ext
 simp [ByteArray.data_extract]
 exact List.take_of_length_le (by simp)
set_option maxRecDepth 100000 in
set_option maxHeartbeats 2000000 in
theorem zoneM_any (b : Nat) (t : List UInt8) (s : St) (w : World) (h : Scn w b t s) (hl : t.length ≤ 1000) (hp : s.p ≤ t.length) :
  Calls Tryz.prog 168 #[.pointer (some ⟨b, 0, none⟩)] w fun e w' => e = .returned (.int .i64 (zoneOf t s)) ∧ Scn w' b t (zoneSt t s) ∧ But b w w' := by
 have c2 := h.c2
 have HS := Lib.hid h; clear h
 by_cases h0 : s.e = 0
 ·rw [h0] at c2
  have S1 : Hid (Scn w.drew b t s) := HS.out
  by_cases hpl : s.p = t.length
  ·have HV : Hid (zoneOf t s = 0 ∧ zoneSt t s = failAt s s.p 4) := by show _ ∧ _; unfold zoneOf zoneSt failAt; simp [h0, hpl]
   have q1 : ((s.p : Int) == (t.length : Int)) = true := by simp; omega
   have q2 : (s.p == t.length) = true := by simp; omega
   have Q := Lib.hid (And.intro h0 hpl)
   clear h0 hpl
   go_enter Tryz.func168, Tryz.ntmps168
   go_wp2_with fail
   refine Flow.wp_region_segs Flow.Later Flow.Later.refl Flow.Later.trans [] [0, 1, 2, 3, 4, 5, 6, 7, 8, 9] (by kernel_rfl) (by kernel_rfl) ?_
   have b1 : Below w.heap.size w w.drew := Below.drew (Below.refl _ _)
   generalize w.drew = w1 at *
   have c0 : ∀ t1 : Flow.Cls (Flow.Later w1), t1.val.cell? ⟨b, 0, none⟩ = some (.string ⟨t.toArray⟩) := Flow.cls_cell S1.out.c0
   have c1 : ∀ t1 : Flow.Cls (Flow.Later w1), t1.val.cell? ⟨b, 1, none⟩ = some (.int .i64 s.p) := Flow.cls_cell S1.out.c1
   haveI nonE := Flow.cls_nonempty w1
   rw [Flow.wpSegs_nil]
   simp only [Flow.pick, List.getElem?_toArray, List.getElem?_cons_succ, List.getElem?_cons_zero]
   repeat go_big_quiet_step (fail)
   refine wpQuiet_nil ?_
   clear c0 c1 nonE
   have c1 := S1.out.c1
   go_wp2_with fail
   refine (fail_any b t s s.p 4 w1 S1.out).mono ?_; rintro e w2 ⟨rfl, S2, b2⟩
   have S2' := Lib.hid S2; clear S2
   go_wp2_with fail
   go_ret
   exact ⟨by rw [HV.out.1]; rfl, by rw [HV.out.2]; exact S2'.out, (But.of_below b1).trans b2⟩
  ·have HV : Hid (zoneOf t s = zoneV (t.drop s.p)) := by show _ = _; unfold zoneOf; rw [if_pos h0, if_neg hpl]
   have HZ : Hid (zoneSt t s = if zoneE (t.drop s.p) = 0 then s else failAt s s.p (zoneE (t.drop s.p))) := by
    show _ = _; unfold zoneSt failAt; rw [if_pos h0, if_neg hpl, if_pos h0]
   have q1 : ((s.p : Int) == (t.length : Int)) = false := by simp; omega
   have q2 : (s.p == t.length) = false := by simp; omega
   have Q := Lib.hid (And.intro h0 hpl)
   clear h0 hpl
   have hld : (t.drop s.p).length ≤ 1000 := by simp; omega
   go_enter Tryz.func168, Tryz.ntmps168
   go_wp2_with fail
   refine Flow.wp_region_segs Flow.Later Flow.Later.refl Flow.Later.trans [] [0, 1, 2, 3, 4, 5, 6, 7, 8, 9] (by kernel_rfl) (by kernel_rfl) ?_
   have b1 : Below w.heap.size w w.drew := Below.drew (Below.refl _ _)
   generalize w.drew = w1 at *
   have c0 : ∀ t1 : Flow.Cls (Flow.Later w1), t1.val.cell? ⟨b, 0, none⟩ = some (.string ⟨t.toArray⟩) := Flow.cls_cell S1.out.c0
   have c1 : ∀ t1 : Flow.Cls (Flow.Later w1), t1.val.cell? ⟨b, 1, none⟩ = some (.int .i64 s.p) := Flow.cls_cell S1.out.c1
   haveI nonE := Flow.cls_nonempty w1
   rw [Flow.wpSegs_nil]
   simp only [Flow.pick, List.getElem?_toArray, List.getElem?_cons_succ, List.getElem?_cons_zero]
   repeat go_big_quiet_step (fail)
   refine wpQuiet_nil ?_
   clear c0 c1 nonE
   go_wp2_with fail
   refine Flow.wp_region_segs Flow.Later Flow.Later.refl Flow.Later.trans [([0, 1, 2, 3, 4, 5, 6, 7, 8], 9)] [10, 11, 12, 13, 14] (by kernel_rfl) (by kernel_rfl) ?_
   have S2 : Hid (Scn w1.drew b t s) := S1.out
   have b2 : Below w.heap.size w w1.drew := Below.drew b1
   clear S1 b1
   generalize w1.drew = w2 at *
   have c0 : ∀ t1 : Flow.Cls (Flow.Later w2), t1.val.cell? ⟨b, 0, none⟩ = some (.string ⟨t.toArray⟩) := Flow.cls_cell S2.out.c0
   have c1 : ∀ t1 : Flow.Cls (Flow.Later w2), t1.val.cell? ⟨b, 1, none⟩ = some (.int .i64 s.p) := Flow.cls_cell S2.out.c1
   haveI nonE := Flow.cls_nonempty w2
   rw [Flow.wpSegs_cons]
   simp only [Flow.pick, List.getElem?_toArray, List.getElem?_cons_succ, List.getElem?_cons_zero]
   repeat go_big_quiet_step (fail)
   refine wpQuiet_nil ?_
   clear c0 c1 nonE
   rw [Flow.callAt_eq]
   simp only [List.getElem?_toArray, List.getElem?_cons_succ, List.getElem?_cons_zero]
   rw [if_pos (by rfl)]
   refine Flow.wp_behind (fun K hK => ?_)
   go_wp2_with fail
   rw [extract_drop]
   refine (zone_any _ _ hld).mono ?_; rintro e w3 ⟨rfl, b3⟩
   refine hK.out _ _ ⟨b3, ?_⟩
   clear hK K
   have S3 := Lib.hid (S2.out.below b3)
   have b3' := b2.trans (b3.mono b2.size)
   clear S2 b2 b3
   clear w2
   generalize hzv : zoneV (t.drop s.p) = ZV at *
   generalize hze : zoneE (t.drop s.p) = ZE at *
   clear hzv hze
   haveI nonE := Flow.cls_nonempty w3
   rw [Flow.wpSegs_nil]
   simp only [Flow.pick, List.getElem?_toArray, List.getElem?_cons_succ, List.getElem?_cons_zero]
   repeat go_big_quiet_step (fail)
   refine wpQuiet_nil ?_
   clear nonE
   by_cases hz0 : ZE = 0
   ·have n1 : ((ZE : Int) != 0) = false := by simp [hz0]
    have HZ2 : Hid (zoneSt t s = s) := by show _ = _; rw [HZ.out, if_pos hz0]
    clear hz0
    go_wp2_with fail
    go_ret
    exact ⟨by rw [HV.out]; rfl, by rw [HZ2.out]; exact S3.out, But.of_below b3'⟩
   ·have n1 : ((ZE : Int) != 0) = true := by simp; omega
    have HZ2 : Hid (zoneSt t s = failAt s s.p ZE) := by show _ = _; rw [HZ.out, if_neg hz0]
    clear hz0
    have c1 := S3.out.c1
    go_wp2_with fail
    refine (fail_any b t s s.p ZE w3 S3.out).mono ?_; rintro e w4 ⟨rfl, S4, b4⟩
    have S4' := Lib.hid S4; clear S4
    clear c1
    go_wp2_with fail
    go_ret
    exact ⟨by rw [HV.out]; rfl, by rw [HZ2.out]; exact S4'.out, (But.of_below b3').trans b4⟩
 ·have HV : Hid (zoneOf t s = 0 ∧ zoneSt t s = s) := by show _ ∧ _; unfold zoneOf zoneSt; simp [h0]
  have hb := ne_b (a := (s.e : Int)) (b := 0) (by omega)
  go_enter Tryz.func168, Tryz.ntmps168
  go_wp2_with fail
  go_ret
  exact ⟨by rw [HV.out.1]; rfl, by rw [HV.out.2]; exact HS.out, But.refl _ _⟩
open Go.RowKit
set_option maxRecDepth 100000 in
set_option maxHeartbeats 1000000 in
theorem nameLit_any (n cw : List UInt8) (wb : Nat) (w : World) (hn : n.length ≤ 1000) (hx : w.cell? ⟨wb, 0, none⟩ = some (.string ⟨cw.toArray⟩)) :
  Calls Tryz.prog 205 #[.string ⟨n.toArray⟩, .pointer (some ⟨wb, 0, none⟩)] w fun e w' => e = .returned (.bool (capL n == cw)) ∧ Below w.heap.size w w' := by
 have HX := Lib.hid hx; clear hx
 go_enter Tryz.func205, Tryz.ntmps205
 go_wp2_with fail
 refine Flow.wp_region_segs Flow.Later Flow.Later.refl Flow.Later.trans [([0, 2], 1)] [3, 4] (by kernel_rfl) (by kernel_rfl) ?_
 have X1 : Hid (w.drew.cell? ⟨wb, 0, none⟩ = some (.string ⟨cw.toArray⟩)) := HX.out
 have b1 : Below w.heap.size w w.drew := Below.drew (Below.refl _ _)
 generalize w.drew = w1 at *
 have c0 : ∀ t1 : Flow.Cls (Flow.Later w1), t1.val.cell? ⟨wb, 0, none⟩ = some (.string ⟨cw.toArray⟩) := Flow.cls_cell X1.out
 haveI nonE := Flow.cls_nonempty w1
 rw [Flow.wpSegs_cons]
 simp only [Flow.pick, List.getElem?_toArray, List.getElem?_cons_succ, List.getElem?_cons_zero]
 repeat go_big_quiet_step (fail)
 refine wpQuiet_nil ?_
 clear c0 nonE
 rw [Flow.callAt_eq]
 simp only [List.getElem?_toArray, List.getElem?_cons_succ, List.getElem?_cons_zero]
 rw [if_pos (by rfl)]
 refine Flow.wp_behind (fun K hK => ?_)
 go_wp2_with fail
 refine (capital_any n _ hn).mono ?_; rintro e w2 ⟨rfl, b2⟩
 refine hK.out _ _ ⟨b2, ?_⟩
 clear hK K
 haveI nonE := Flow.cls_nonempty w2
 rw [Flow.wpSegs_nil]
 simp only [Flow.pick, List.getElem?_toArray, List.getElem?_cons_succ, List.getElem?_cons_zero]
 repeat go_big_quiet_step (fail)
 refine wpQuiet_nil ?_
 clear nonE
 go_wp2_with fail
 go_ret
 exact ⟨rfl, b1.trans (b2.mono b1.size)⟩
/-- The place of a name, -1 without one. -/
def idxOr (o : Option Nat) : Int := match o with | some i => i | none => -1
theorem findIdx_snoc (p : List UInt8 → Bool) (l : List (List UInt8)) (k : Nat) (hk : k < l.length) (hno : ∀ i, i < k → p (l.getD i []) = false) (hyes : p (l.getD k []) = true) : l.findIdx? p = some k := by
 rw [List.findIdx?_eq_some_iff_getElem]
 refine ⟨hk, by simpa [hk] using hyes, fun j hj => ?_⟩
 have := hno j hj
 simpa [Nat.lt_trans hj hk] using this
theorem findIdx_none (p : List UInt8 → Bool) (l : List (List UInt8)) (hno : ∀ i, i < l.length → p (l.getD i []) = false) : l.findIdx? p = none := by
 rw [List.findIdx?_eq_none_iff]
 intro x hx
 obtain ⟨i, hi, rfl⟩ := List.getElem_of_mem hx
 have := hno i hi
 simpa [hi] using this
set_option maxRecDepth 100000 in
set_option maxHeartbeats 1000000 in
theorem indexFunc_any (names : List (List UInt8)) (cw : List UInt8) (nb wb : Nat) (w : World) (hnn : names.length ≤ 100) (hn : ∀ i, i < names.length → (names.getD i []).length ≤ 1000)
  (hc : ∀ i, i < names.length → w.cell? ⟨nb, i, none⟩ = some (.string ⟨(names.getD i []).toArray⟩)) (hx : w.cell? ⟨wb, 0, none⟩ = some (.string ⟨cw.toArray⟩)) :
  Calls Tryz.prog 204 #[.slice (some ⟨nb, 0, none⟩) names.length names.length, .func (.func 205) #[] #[.pointer (some ⟨wb, 0, none⟩)]] w fun e w' => e = .returned (.int .i64 (idxOr (names.findIdx? fun n => capL n == cw))) ∧ Below w.heap.size w w' := by
 have HX := Lib.hid hx; clear hx
 have HC := Lib.hid hc; clear hc
 have HN := Lib.hid hn; clear hn
 go_enter Tryz.func204, Tryz.ntmps204
 go_wp2_with fail
 go_loopw [8] (fun i wr => ∃ k : Nat, k ≤ names.length ∧ i = .int .i64 k ∧ Below w.heap.size w wr ∧ Hid (∀ i, i < k → (capL (names.getD i []) == cw) = false)) (fun i _ => names.length - (intOf i).toNat)
 case atStart => exact ⟨0, by omega, rfl, Below.refl _ _, fun i hi => absurd hi (by omega)⟩
 case round =>
  obtain ⟨k, hk, rfl, hB, A⟩ := hrel
  by_cases hlt : k < names.length
  ·have c1 : wr.cell? ⟨nb, k, none⟩ = some (.string ⟨(names.getD k []).toArray⟩) := Below.cellv hB (HC.out k hlt)
   have X1 : Hid (wr.cell? ⟨wb, 0, none⟩ = some (.string ⟨cw.toArray⟩)) := Below.cellv hB HX.out
   have hnk := HN.out k hlt
   cases hq : (capL (names.getD k []) == cw) with
   | true =>
    have HQ := Lib.hid hq; clear hq
    generalize hng : names.getD k [] = nk at *
    have NG := Lib.hid hng; clear hng
    go_wp2_with fail
    refine (nameLit_any nk cw wb wr hnk X1.out).mono ?_; rintro e w1 ⟨rfl, b1⟩
    rw [HQ.out]
    go_wp2_with fail
    go_ret
    exact ⟨by rw [findIdx_snoc _ names k hlt A.out (by rw [NG.out]; exact HQ.out)]; rfl, hB.trans (b1.mono hB.size)⟩
   | false =>
    have HQ := Lib.hid hq; clear hq
    generalize hng : names.getD k [] = nk at *
    have NG := Lib.hid hng; clear hng
    go_wp2_with fail
    refine (nameLit_any nk cw wb wr hnk X1.out).mono ?_; rintro e w1 ⟨rfl, b1⟩
    rw [HQ.out]
    go_wp2_with fail
    go_roundw
    case rel =>
     refine ⟨k + 1, by omega, by go_num, hB.trans (b1.mono hB.size), fun i hi => ?_⟩
     rcases Nat.lt_succ_iff_lt_or_eq.1 hi with h | h
     ·exact A.out i h
     ·subst h; rw [NG.out]; exact HQ.out
    case measure => simp [intOf]; omega
  ·obtain rfl : k = names.length := by omega
   go_wp2_with fail
   go_ret
   exact ⟨by rw [findIdx_none _ names A.out]; rfl, hB⟩
theorem extract_take (t : List UInt8) (p q : Nat) : (⟨t.toArray⟩ : ByteArray).extract p q = ⟨((t.drop p).take (q - p)).toArray⟩ := by
 apply ByteArray.ext
 simp [ByteArray.data_extract]
open Go.RowKit
/-- Below a fixed block number a later world is as the earlier one. -/
def LaterB (B : Nat) (u x : World) : Prop := Below B u x
theorem LaterB.refl (B : Nat) (w : World) : LaterB B w w := Below.refl _ _
theorem LaterB.trans (B : Nat) (u v w : World) (h : LaterB B u v) (k : LaterB B v w) : LaterB B u w := Below.trans h k
theorem clsB_nonempty (B : Nat) (w : World) : Nonempty (Flow.Cls (LaterB B w)) := ⟨⟨w, LaterB.refl B w⟩⟩
theorem clsB_cell {B : Nat} {w : World} {p : Addr} {v : Value} (h : w.cell? p = some v) (hp : p.block < B) (t : Flow.Cls (LaterB B w)) : t.val.cell? p = some v := by
 have hb : Below B w t.val := t.ok
 rw [hb.cell hp]; exact h
theorem below_alloc2 {B : Nat} {w : World} (hB : B ≤ w.heap.size) (o o' : Obj) : Below B (w.alloc o) (w.alloc o') :=
 ⟨rfl, rfl, rfl, by simp, fun k hk => by rw [Below.heap_alloc _ _ _ (by omega), Below.heap_alloc _ _ _ (by omega)]⟩
theorem nameS_e0 {t : List UInt8} {n : List (List UInt8)} {s : St} (h0 : s.e = 0) (h3 : s.p + 3 ≤ t.length) :
  (nameS t n s = match find3 n (word3 t s.p) with | none => failAt s s.p 3 | some _ => ⟨s.p + 3, s.e⟩) ∧ nameV t n s = (find3 n (word3 t s.p)).getD 0 := by
 have h : ¬ t.length < s.p + 3 := by omega
 unfold nameS nameV failAt
 rw [if_pos h0, if_pos h0, if_neg h, if_neg h, if_pos h0, h0]
 exact ⟨rfl, rfl⟩
set_option maxRecDepth 100000 in
set_option maxHeartbeats 4000000 in
theorem nameM_any (b nb : Nat) (t : List UInt8) (s : St) (names : List (List UInt8)) (w : World) (h : Scn w b t s) (hl : t.length ≤ 1000) (hp : s.p ≤ t.length) (_hbn : nb ≠ b)
  (hnn : names.length ≤ 100) (hn : ∀ i, i < names.length → (names.getD i []).length ≤ 1000)
  (hc : ∀ i, i < names.length → w.cell? ⟨nb, i, none⟩ = some (.string ⟨(names.getD i []).toArray⟩)) :
  Calls Tryz.prog 161 #[.pointer (some ⟨b, 0, none⟩), .slice (some ⟨nb, 0, none⟩) names.length names.length] w fun e w' => e = .returned (.int .i64 (nameV t names s : Nat)) ∧ Scn w' b t (nameS t names s) ∧ But b w w' := by
 have c2 := h.c2
 have HS := Lib.hid h; clear h
 have HC := Lib.hid hc; clear hc
 have HN := Lib.hid hn; clear hn
 by_cases h0 : s.e = 0
 ·rw [h0] at c2
  have S1 : Hid (Scn w.drew b t s) := HS.out
  have HC1 : Hid (∀ i, i < names.length → w.drew.cell? ⟨nb, i, none⟩ = some (.string ⟨(names.getD i []).toArray⟩)) := HC.out
  by_cases h3 : s.p + 3 ≤ t.length
  ·have HV := Lib.hid (nameS_e0 (n := names) h0 h3)
   have q1 : decide ((t.length : Int) - (s.p : Int) < 3) = false := by simp; omega
   have q3 : ¬ ((t.length : Int) - (s.p : Int) < 3) := by omega
   have H0 := Lib.hid h0; clear h0
   have hlw : (word3 t s.p).length ≤ 1000 := by unfold word3; simp; omega
   have HW : Hid ((⟨t.toArray⟩ : ByteArray).extract s.p (s.p + 3) = ⟨(word3 t s.p).toArray⟩) := by
    show _ = _; rw [extract_take, show s.p + 3 - s.p = 3 by omega]; rfl
   go_enter Tryz.func161, Tryz.ntmps161
   go_wp2_with fail
   refine Flow.wp_region_segs Flow.Later Flow.Later.refl Flow.Later.trans [] [0, 1, 2, 3, 4, 5, 6, 7, 8, 9, 10] (by kernel_rfl) (by kernel_rfl) ?_
   have b1 : Below w.heap.size w w.drew := Below.drew (Below.refl _ _)
   clear c2
   generalize w.drew = w1 at *
   have c0 : ∀ t1 : Flow.Cls (Flow.Later w1), t1.val.cell? ⟨b, 0, none⟩ = some (.string ⟨t.toArray⟩) := Flow.cls_cell S1.out.c0
   have c1 : ∀ t1 : Flow.Cls (Flow.Later w1), t1.val.cell? ⟨b, 1, none⟩ = some (.int .i64 s.p) := Flow.cls_cell S1.out.c1
   haveI nonE := Flow.cls_nonempty w1
   rw [Flow.wpSegs_nil]
   simp only [Flow.pick, List.getElem?_toArray, List.getElem?_cons_succ, List.getElem?_cons_zero]
   repeat go_big_quiet_step (fail)
   refine wpQuiet_nil ?_
   clear c0 c1 nonE
   go_wp2_with fail
   clear q1 q3
   refine Flow.wp_region_sched (LaterB w1.heap.size) (LaterB.refl _) (LaterB.trans _) (.fork [0, 1, 2, 3, 4, 5, 6, 7, 8, 9, 10, 11, 12, 13] 14 15 (.step [] 15 (.step [] 16 (.done []))) (.step [] 14 (.step [] 16 (.done [])))) (by kernel_rfl) (by kernel_rfl) ?_
   have S2 : Hid (Scn w1.drew b t s) := S1.out
   have b2 : Below w1.heap.size w1 w1.drew := Below.drew (Below.refl _ _)
   have hbl := S1.out.lt
   generalize w1.drew = w2 at *
   have c0 : ∀ t1 : Flow.Cls (LaterB w1.heap.size w2), t1.val.cell? ⟨b, 0, none⟩ = some (.string ⟨t.toArray⟩) := clsB_cell S2.out.c0 hbl
   have c1 : ∀ t1 : Flow.Cls (LaterB w1.heap.size w2), t1.val.cell? ⟨b, 1, none⟩ = some (.int .i64 s.p) := clsB_cell S2.out.c1 hbl
   haveI nonE := clsB_nonempty w1.heap.size w2
   rw [Flow.wpSched_fork]
   simp only [Flow.pick, List.getElem?_toArray, List.getElem?_cons_succ, List.getElem?_cons_zero]
   repeat go_big_quiet_step (fail)
   refine wpQuiet_nil ?_
   clear c0 c1 nonE
   refine ⟨?_, ?_⟩
   ·skip
    rw [Flow.callAt_eq]
    simp only [List.getElem?_toArray, List.getElem?_cons_succ, List.getElem?_cons_zero]
    rw [if_pos (by rfl)]
    refine Flow.wp_behind (fun K hK => ?_)
    go_wp2_with fail
    rw [HW.out]
    refine (capital_any _ _ hlw).mono ?_; rintro e w3 ⟨rfl, b3⟩
    have b23 := b2.trans (b3.mono b2.size)
    refine hK.out _ _ ⟨b3.mono b2.size, ?_⟩
    clear hK K
    rw [Flow.wpSched_step]
    simp only [Flow.pick]
    refine wpQuiet_nil ?_
    rw [Flow.callAt_eq]
    simp only [List.getElem?_toArray, List.getElem?_cons_succ, List.getElem?_cons_zero]
    rw [if_pos (by rfl)]
    refine Flow.wp_behind (fun K hK => ?_)
    go_wp2_with fail
    refine hK.out _ _ ⟨(Below.refl _ _).alloc b23.size _, ?_⟩
    clear hK K
    rw [Flow.wpSched_step]
    simp only [Flow.pick]
    refine wpQuiet_nil ?_
    rw [Flow.callAt_eq]
    simp only [List.getElem?_toArray, List.getElem?_cons_succ, List.getElem?_cons_zero]
    rw [if_pos (by rfl)]
    refine Flow.wp_behind (fun K hK => ?_)
    go_wp2_with fail
    refine hK.out _ _ ⟨below_alloc2 b23.size _ _, ?_⟩
    clear hK K
    rw [Flow.wpSched_done]
    simp only [Flow.pick]
    refine wpQuiet_nil ?_
    obtain ⟨wz, hwz⟩ : ∃ wz, wz = w3.alloc (.cells #[.string ⟨(capL (word3 t s.p)).toArray⟩] 9) := ⟨_, rfl⟩
    have b6 : Below w1.heap.size w1 wz := by rw [hwz]; exact b23.alloc b23.size _
    have X6 : Hid (wz.cell? ⟨w3.heap.size, 0, none⟩ = some (.string ⟨(capL (word3 t s.p)).toArray⟩)) := by rw [hwz]; show _ = _; simp
    have S6 := Lib.hid (S1.out.below b6)
    have C6 : Hid (∀ i, i < names.length → wz.cell? ⟨nb, i, none⟩ = some (.string ⟨(names.getD i []).toArray⟩)) := fun i hi => Below.cellv b6 (HC1.out i hi)
    rw [← hwz]
    clear hwz b23 b3 b2 S2
    generalize w3.heap.size = q at *
    go_wp2_with fail
    refine (indexFunc_any names (capL (word3 t s.p)) nb _ wz hnn HN.out C6.out X6.out).mono ?_; rintro e w7 ⟨rfl, b7⟩
    have S7 := Lib.hid (S6.out.below b7)
    have b8 := b6.trans (b7.mono b6.size)
    have b9 := b1.trans (b8.mono b1.size)
    clear S6 X6 C6 b6 b7 b8
    have HF : Hid ((names.findIdx? fun n => capL n == capL (word3 t s.p)) = find3 names (word3 t s.p)) := rfl
    rw [HF.out]
    cases hf : find3 names (word3 t s.p) with
    | none =>
     have V := HV.out
     rw [hf] at V
     have V' := Lib.hid V
     clear V HV HF hf
     simp only [idxOr]
     have c1 := S7.out.c1
     go_wp2_with fail
     refine (fail_any b t s s.p 3 w7 S7.out).mono ?_; rintro e w8 ⟨rfl, S8, b8⟩
     have S8' := Lib.hid S8; clear S8 c1
     go_wp2_with fail
     go_ret
     exact ⟨by rw [V'.out.2]; rfl, by rw [V'.out.1]; exact S8'.out, (But.of_below b9).trans b8⟩
    | some i =>
     have V := HV.out
     rw [hf] at V
     have V' := Lib.hid V
     clear V HV HF hf
     simp only [idxOr]
     have c1 := S7.out.c1
     have f1 := S7.out.free 1
     have S8 := Lib.hid (S7.out.set1 (s.p + 3))
     have hi0 : decide ((i : Int) < 0) = false := by simp
     go_wp2_with fail
     go_ret
     exact ⟨by rw [V'.out.2]; rfl, by rw [V'.out.1]; exact S8.out, (But.of_below b9).setCell _⟩
   ·skip
    rw [Flow.callAt_eq]
    simp only [List.getElem?_toArray, List.getElem?_cons_succ, List.getElem?_cons_zero]
    rw [if_pos (by rfl)]
    refine Flow.wp_behind (fun K hK => ?_)
    go_wp2_with fail
    refine hK.out _ _ ⟨(Below.refl _ _).alloc b2.size _, ?_⟩
    clear hK K
    rw [Flow.wpSched_step]
    simp only [Flow.pick]
    refine wpQuiet_nil ?_
    rw [Flow.callAt_eq]
    simp only [List.getElem?_toArray, List.getElem?_cons_succ, List.getElem?_cons_zero]
    rw [if_pos (by rfl)]
    refine Flow.wp_behind (fun K hK => ?_)
    go_wp2_with fail
    rw [HW.out]
    refine (capital_any _ _ hlw).mono ?_; rintro e w4 ⟨rfl, b4⟩
    have z2 := b2.size
    have b24 : Below w1.heap.size w1 w4 := (b2.alloc z2 _).trans (b4.mono (by simp; omega))
    have k4 := Lib.hid (blk_below b4 (blk_new w2 (.cells #[.string ⟨#[]⟩] 9)))
    refine hK.out _ _ ⟨b4.mono (by simp; omega), ?_⟩
    clear hK K
    have d4 : w4.cell? ⟨w2.heap.size, 0, none⟩ = some (.string ⟨#[]⟩) := blk_cell k4.out 0
    have g4 : w4.frozen? ⟨w2.heap.size, 0, none⟩ = false := blk_free k4.out 0
    have X5 := Lib.hid (blk_cell (blk_set k4.out 0 (.string ⟨(capL (word3 t s.p)).toArray⟩)) 0)
    rw [Flow.wpSched_step]
    simp only [Flow.pick]
    refine wpQuiet_nil ?_
    rw [Flow.callAt_eq]
    simp only [List.getElem?_toArray, List.getElem?_cons_succ, List.getElem?_cons_zero]
    rw [if_pos (by rfl)]
    refine Flow.wp_behind (fun K hK => ?_)
    go_wp2_with fail
    refine hK.out _ _ ⟨(Below.refl _ _).setCell z2 _, ?_⟩
    clear hK K
    rw [Flow.wpSched_done]
    simp only [Flow.pick]
    refine wpQuiet_nil ?_
    obtain ⟨wz, hwz⟩ : ∃ wz, wz = w4.setCell ⟨w2.heap.size, 0, none⟩ (.string ⟨(capL (word3 t s.p)).toArray⟩) := ⟨_, rfl⟩
    have b6 : Below w1.heap.size w1 wz := by rw [hwz]; exact b24.setCell z2 _
    have X6 : Hid (wz.cell? ⟨w2.heap.size, 0, none⟩ = some (.string ⟨(capL (word3 t s.p)).toArray⟩)) := by rw [hwz]; exact X5.out
    have S6 := Lib.hid (S1.out.below b6)
    have C6 : Hid (∀ i, i < names.length → wz.cell? ⟨nb, i, none⟩ = some (.string ⟨(names.getD i []).toArray⟩)) := fun i hi => Below.cellv b6 (HC1.out i hi)
    rw [← hwz]
    clear hwz b24 b4 b2 S2 k4 d4 g4 X5 z2
    generalize w2.heap.size = q at *
    go_wp2_with fail
    refine (indexFunc_any names (capL (word3 t s.p)) nb _ wz hnn HN.out C6.out X6.out).mono ?_; rintro e w7 ⟨rfl, b7⟩
    have S7 := Lib.hid (S6.out.below b7)
    have b8 := b6.trans (b7.mono b6.size)
    have b9 := b1.trans (b8.mono b1.size)
    clear S6 X6 C6 b6 b7 b8
    have HF : Hid ((names.findIdx? fun n => capL n == capL (word3 t s.p)) = find3 names (word3 t s.p)) := rfl
    rw [HF.out]
    cases hf : find3 names (word3 t s.p) with
    | none =>
     have V := HV.out
     rw [hf] at V
     have V' := Lib.hid V
     clear V HV HF hf
     simp only [idxOr]
     have c1 := S7.out.c1
     go_wp2_with fail
     refine (fail_any b t s s.p 3 w7 S7.out).mono ?_; rintro e w8 ⟨rfl, S8, b8⟩
     have S8' := Lib.hid S8; clear S8 c1
     go_wp2_with fail
     go_ret
     exact ⟨by rw [V'.out.2]; rfl, by rw [V'.out.1]; exact S8'.out, (But.of_below b9).trans b8⟩
    | some i =>
     have V := HV.out
     rw [hf] at V
     have V' := Lib.hid V
     clear V HV HF hf
     simp only [idxOr]
     have c1 := S7.out.c1
     have f1 := S7.out.free 1
     have S8 := Lib.hid (S7.out.set1 (s.p + 3))
     have hi0 : decide ((i : Int) < 0) = false := by simp
     go_wp2_with fail
     go_ret
     exact ⟨by rw [V'.out.2]; rfl, by rw [V'.out.1]; exact S8.out, (But.of_below b9).setCell _⟩
  ·have HV : Hid (nameV t names s = 0 ∧ nameS t names s = failAt s t.length 4) := by
    have h : t.length < s.p + 3 := by omega
    show _ ∧ _
    unfold nameV nameS failAt; simp [h0, h]
   have q1 : decide ((t.length : Int) - (s.p : Int) < 3) = true := by simp; omega
   have q3 : (t.length : Int) - (s.p : Int) < 3 := by omega
   have H0 := Lib.hid h0; clear h0
   go_enter Tryz.func161, Tryz.ntmps161
   go_wp2_with fail
   refine Flow.wp_region_segs Flow.Later Flow.Later.refl Flow.Later.trans [] [0, 1, 2, 3, 4, 5, 6, 7, 8, 9, 10] (by kernel_rfl) (by kernel_rfl) ?_
   have b1 : Below w.heap.size w w.drew := Below.drew (Below.refl _ _)
   clear c2
   generalize w.drew = w1 at *
   have c0 : ∀ t1 : Flow.Cls (Flow.Later w1), t1.val.cell? ⟨b, 0, none⟩ = some (.string ⟨t.toArray⟩) := Flow.cls_cell S1.out.c0
   have c1 : ∀ t1 : Flow.Cls (Flow.Later w1), t1.val.cell? ⟨b, 1, none⟩ = some (.int .i64 s.p) := Flow.cls_cell S1.out.c1
   haveI nonE := Flow.cls_nonempty w1
   rw [Flow.wpSegs_nil]
   simp only [Flow.pick, List.getElem?_toArray, List.getElem?_cons_succ, List.getElem?_cons_zero]
   repeat go_big_quiet_step (fail)
   refine wpQuiet_nil ?_
   clear c0 c1 nonE
   have c0 := S1.out.c0
   go_wp2_with fail
   refine (fail_any b t s t.length 4 w1 S1.out).mono ?_; rintro e w2 ⟨rfl, S2, b2⟩
   have S2' := Lib.hid S2; clear S2 c0
   go_wp2_with fail
   go_ret
   exact ⟨by rw [HV.out.1]; rfl, by rw [HV.out.2]; exact S2'.out, (But.of_below b1).trans b2⟩
 ·have HV : Hid (nameV t names s = 0 ∧ nameS t names s = s) := by show _ ∧ _; unfold nameV nameS; simp [h0]
  have hb := ne_b (a := (s.e : Int)) (b := 0) (by omega)
  go_enter Tryz.func161, Tryz.ntmps161
  go_wp2_with fail
  go_ret
  exact ⟨by rw [HV.out.1]; rfl, by rw [HV.out.2]; exact HS.out, But.refl _ _⟩
end Go.Proofs.YtlchcjnbbhpiaaaGreatDoor.Dt
