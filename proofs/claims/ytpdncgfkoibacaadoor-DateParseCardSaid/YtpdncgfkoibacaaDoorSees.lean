/- Contracts of the classes of bytes of package date, and of the scanner's fail, sees, need, skip. -/
import Derived.Test.YtpdncgfkoibacaaDoorBase
import Derived.Test.YtpdncgfkoibacaaDoorFlow
import Derived.Test.YtpdncgfkoibacaaDoorScan
import Derived.RegionTactic
namespace Go.Proofs.YtpdncgfkoibacaaDoor
open Go.RowKit

theorem bget {t : List UInt8} {p : Nat} (h : p < (⟨t.toArray⟩ : ByteArray).size) (hp : p < t.length) : (⟨t.toArray⟩ : ByteArray)[p]'h = at0 t p := by
  show t.toArray[p] = at0 t p
  simp [at0, hp]

/-- A scanner in memory. -/
def Scn (w : World) (b : Nat) (t : List UInt8) (s : St) : Prop := w.heap[b]? = some (.cells #[.string ⟨t.toArray⟩, .int .i64 (s.p : Nat), .int .i64 (s.e : Nat)] 68 (0, 0))
theorem Scn.c0 {w : World} {b : Nat} {t : List UInt8} {s : St} (h : Scn w b t s) : w.cell? ⟨b, 0, none⟩ = some (.string ⟨t.toArray⟩) := blk_cell h 0
theorem Scn.c1 {w : World} {b : Nat} {t : List UInt8} {s : St} (h : Scn w b t s) : w.cell? ⟨b, 1, none⟩ = some (.int .i64 (s.p : Nat)) := blk_cell h 1
theorem Scn.c2 {w : World} {b : Nat} {t : List UInt8} {s : St} (h : Scn w b t s) : w.cell? ⟨b, 2, none⟩ = some (.int .i64 (s.e : Nat)) := blk_cell h 2
theorem Scn.free {w : World} {b : Nat} {t : List UInt8} {s : St} (h : Scn w b t s) (i : Nat) : w.frozen? ⟨b, i, none⟩ = false := blk_free h i
theorem Scn.lt {w : World} {b : Nat} {t : List UInt8} {s : St} (h : Scn w b t s) : b < w.heap.size := blk_lt h
theorem Scn.below {w w' : World} {b : Nat} {t : List UInt8} {s : St} (h : Scn w b t s) (hb : Below w.heap.size w w') : Scn w' b t s := blk_below hb h
theorem Scn.set1 {w : World} {b : Nat} {t : List UInt8} {s : St} (h : Scn w b t s) (p : Nat) : Scn (w.setCell ⟨b, 1, none⟩ (.int .i64 (p : Nat))) b t ⟨p, s.e⟩ := by
  unfold Scn at h ⊢; rw [blk_set h]; rfl
theorem Scn.set12 {w : World} {b : Nat} {t : List UInt8} {s : St} (h : Scn w b t s) (p e : Nat) : Scn ((w.setCell ⟨b, 1, none⟩ (.int .i64 (p : Nat))).setCell ⟨b, 2, none⟩ (.int .i64 (e : Nat))) b t ⟨p, e⟩ := by
  have h1 := h.set1 p
  unfold Scn at h1 ⊢; rw [blk_set h1]; rfl
theorem ne_zero_b {e : Nat} (h : e ≠ 0) : ((e : Int) == 0) = false := by simp; omega

set_option maxHeartbeats 400000 in
theorem fail_any (b : Nat) (t : List UInt8) (s : St) (p e : Nat) (w : World) (h : Scn w b t s) :
    Calls Tryd.prog 77 #[.pointer (some ⟨b, 0, none⟩), .int .i64 p, .int .i64 e] w fun r w' => r = .returned (.tuple #[]) ∧ Scn w' b t (failAt s p e) ∧ But b w w' := by
  have c1 := h.c1
  have c2 := h.c2
  have f1 := h.free 1
  have f2 := h.free 2
  have HS := Lib.hid h; clear h
  by_cases h0 : s.e = 0
  · have HF : Hid (failAt s p e = ⟨p, e⟩) := by show _ = _; unfold failAt; rw [if_pos h0]
    rw [h0] at c2
    clear h0
    go_enter Tryd.func77, Tryd.ntmps77
    go_wp2
    go_end0
    exact ⟨rfl, by rw [HF.out]; exact HS.out.set12 p e, ((But.refl b w).setCell _).setCell _⟩
  · have HF : Hid (failAt s p e = s) := by show _ = _; unfold failAt; rw [if_neg h0]
    have hb := ne_zero_b h0
    go_enter Tryd.func77, Tryd.ntmps77
    go_wp2
    go_end0
    exact ⟨rfl, by rw [HF.out]; exact HS.out, But.refl b w⟩


set_option maxHeartbeats 400000 in
theorem isDigit_any (c : UInt8) (w : World) : Calls Tryd.prog 68 #[.int .u8 c.toNat] w fun e w' => e = .returned (.bool (isDig c)) ∧ w = w' := by
  have hc := c.toNat_lt
  by_cases a0 : 48 ≤ c.toNat <;> by_cases a1 : c.toNat ≤ 57
  all_goals
    first
      | (have V : Hid (isDig c = true) := by (show isDig c = true); simp only [isDig, Bool.and_eq_true, decide_eq_true_eq]; omega)
      | (have V : Hid (isDig c = false) := by (show isDig c = false); simp only [isDig, Bool.and_eq_false_iff, decide_eq_false_iff_not]; omega)
    generalize c.toNat = n at *
    go_enter Tryd.func68, Tryd.ntmps68
    go_wp2
    all_goals first | (exfalso; omega) | skip
    all_goals
      go_ret
      exact ⟨ret_bool (by first | (rw [V.out]; done) | (rw [V.out]; simp; done) | (rw [V.out]; simp; omega)), rfl⟩


set_option maxHeartbeats 400000 in
theorem isLetter_any (c : UInt8) (w : World) : Calls Tryd.prog 60 #[.int .u8 c.toNat] w fun e w' => e = .returned (.bool (isLet c)) ∧ w = w' := by
  have hc := c.toNat_lt
  by_cases a0 : 65 ≤ c.toNat <;> by_cases a1 : c.toNat ≤ 90 <;> by_cases a2 : 97 ≤ c.toNat <;> by_cases a3 : c.toNat ≤ 122
  all_goals
    first
      | (have V : Hid (isLet c = true) := by (show isLet c = true); simp only [isLet, Bool.or_eq_true, Bool.and_eq_true, decide_eq_true_eq]; omega)
      | (have V : Hid (isLet c = false) := by (show isLet c = false); simp only [isLet, Bool.or_eq_false_iff, Bool.and_eq_false_iff, decide_eq_false_iff_not]; omega)
    generalize c.toNat = n at *
    go_enter Tryd.func60, Tryd.ntmps60
    go_wp2
    all_goals first | (exfalso; omega) | skip
    all_goals
      go_ret
      exact ⟨ret_bool (by first | (rw [V.out]; done) | (rw [V.out]; simp; done) | (rw [V.out]; simp; omega)), rfl⟩


set_option maxHeartbeats 400000 in
theorem isBlank_any (c : UInt8) (w : World) : Calls Tryd.prog 65 #[.int .u8 c.toNat] w fun e w' => e = .returned (.bool (isBl c)) ∧ w = w' := by
  have V : Hid (isBl c = (((c.toNat : Int) == 32) || ((c.toNat : Int) == 9))) := by
    show isBl c = _
    unfold isBl
    rw [Bool.eq_iff_iff]; simp [← UInt8.toNat_inj]; omega
  cases a : ((c.toNat : Int) == 32) <;> cases b : ((c.toNat : Int) == 9)
  all_goals
    rw [a, b] at V
    generalize c.toNat = n at *
    go_enter Tryd.func65, Tryd.ntmps65
    go_wp2
    go_ret
    exact ⟨ret_bool (by rw [V.out]; try simp), rfl⟩


set_option maxHeartbeats 400000 in
theorem isCh_any (x c : UInt8) (cb : Nat) (w : World) (h : w.cell? ⟨cb, 0, none⟩ = some (.int .u8 x.toNat)) :
    Calls Tryd.prog 80 #[.int .u8 c.toNat, .pointer (some ⟨cb, 0, none⟩)] w fun e w' => e = .returned (.bool (isCh x c)) ∧ w = w' := by
  have V : Hid (isCh x c = ((c.toNat : Int) == (x.toNat : Int))) := by
    show isCh x c = _
    unfold isCh
    rw [Bool.eq_iff_iff]; simp [← UInt8.toNat_inj]; omega
  generalize c.toNat = n at *
  generalize x.toNat = k at *
  go_enter Tryd.func80, Tryd.ntmps80
  go_wp2
  go_ret
  exact ⟨ret_bool (by rw [V.out]; try simp), rfl⟩


set_option maxRecDepth 100000 in
set_option maxHeartbeats 1000000 in
theorem sees_dig (b : Nat) (t : List UInt8) (s : St) (w : World) (h : Scn w b t s) (_hl : t.length ≤ 1000) (_hp : s.p ≤ t.length) :
    Calls Tryd.prog 59 #[.pointer (some ⟨b, 0, none⟩), .func (.func 68) #[] #[]] w fun e w' => e = .returned (.bool (sees t (isDig) s)) ∧ Below w.heap.size w w' := by
  have c0 : ∀ t1 : Flow.Cls (Flow.Later w.drew), t1.val.cell? ⟨b, 0, none⟩ = some (.string ⟨t.toArray⟩) := Flow.cls_cell h.c0
  have c1 : ∀ t1 : Flow.Cls (Flow.Later w.drew), t1.val.cell? ⟨b, 1, none⟩ = some (.int .i64 s.p) := Flow.cls_cell h.c1
  have c2 : ∀ t1 : Flow.Cls (Flow.Later w.drew), t1.val.cell? ⟨b, 2, none⟩ = some (.int .i64 s.e) := Flow.cls_cell h.c2
  have HS := Lib.hid h; clear h
  haveI nonE := Flow.cls_nonempty w.drew
  by_cases h0 : s.e = 0
  · rw [h0] at c2
    by_cases hlt : s.p < t.length
    · have HV : Hid (sees t (isDig) s = (isDig) (at0 t s.p)) := by show _ = _; simp [sees, h0, hlt]
      clear h0
      go_enter Tryd.func59, Tryd.ntmps59
      go_wp2
      refine Flow.wp_region_segs Flow.Later Flow.Later.refl Flow.Later.trans [([0, 1, 2, 3, 4, 5, 6, 7, 8, 9, 10, 11, 12, 13, 14, 15, 16, 17, 18, 19, 20, 21, 22, 23, 24, 25, 26, 27], 28)] [29, 30] (by kernel_rfl) (by kernel_rfl) ?_
      rw [Flow.wpSegs_cons]
      simp only [Flow.pick, List.getElem?_toArray, List.getElem?_cons_succ, List.getElem?_cons_zero]
      repeat go_big_quiet_step (fail)
      refine wpQuiet_nil ?_
      rw [Flow.callAt_eq]
      simp only [List.getElem?_toArray, List.getElem?_cons_succ, List.getElem?_cons_zero]
      rw [if_pos (by rfl)]
      refine Flow.wp_behind (fun K hK => ?_)
      go_wp2_with fail
      rw [bget _ hlt]
      refine (isDigit_any _ _).mono ?_; rintro e w2 ⟨rfl, rfl⟩
      refine hK.out _ _ ⟨Flow.Later.refl _, ?_⟩
      clear hK K
      rw [Flow.wpSegs_nil]
      simp only [Flow.pick, List.getElem?_toArray, List.getElem?_cons_succ, List.getElem?_cons_zero]
      rw [← HV.out]
      generalize hB : sees t (isDig) s = B at *
      have HB := Lib.hid hB; clear hB
      repeat go_big_quiet_step (fail)
      refine wpQuiet_nil ?_
      clear c0 c1 c2 nonE
      go_wp2_with fail
      go_ret
      exact ⟨ret_bool HB.out.symm, Below.drew (Below.refl _ _)⟩
    · have HV : Hid (sees t (isDig) s = false) := by show _ = _; simp [sees, hlt]
      clear h0
      have hlf : decide (s.p < t.length) = false := by simpa using hlt
      go_enter Tryd.func59, Tryd.ntmps59
      go_wp2
      refine Flow.wp_region_segs Flow.Later Flow.Later.refl Flow.Later.trans [([0, 1, 2, 3, 4, 5, 6, 7, 8, 9, 10, 11, 12, 13, 14, 15, 16, 17, 18, 19, 20, 21, 22, 23, 24, 25, 26, 27], 28)] [29, 30] (by kernel_rfl) (by kernel_rfl) ?_
      rw [Flow.wpSegs_cons]
      simp only [Flow.pick, List.getElem?_toArray, List.getElem?_cons_succ, List.getElem?_cons_zero]
      repeat go_big_quiet_step (fail)
      refine wpQuiet_nil ?_
      rw [Flow.callAt_eq]
      simp only [List.getElem?_toArray, List.getElem?_cons_succ, List.getElem?_cons_zero]
      rw [if_neg (by simp [Region.wanted, yielded])]
      rw [Flow.wpSegs_nil]
      simp only [Flow.pick, List.getElem?_toArray, List.getElem?_cons_succ, List.getElem?_cons_zero, Act.put, List.setIfInBounds_toArray, List.set_cons_zero, List.set_cons_succ]
      repeat go_big_quiet_step (fail)
      refine wpQuiet_nil ?_
      clear c0 c1 c2 nonE
      go_wp2_with fail
      go_ret
      exact ⟨ret_bool HV.out.symm, Below.drew (Below.refl _ _)⟩
  · have HV : Hid (sees t (isDig) s = false) := by show _ = _; simp [sees, h0]
    have hb := ne_zero_b h0
    go_enter Tryd.func59, Tryd.ntmps59
    go_wp2
    refine Flow.wp_region_segs Flow.Later Flow.Later.refl Flow.Later.trans [([0, 1, 2, 3, 4, 5, 6, 7, 8, 9, 10, 11, 12, 13, 14, 15, 16, 17, 18, 19, 20, 21, 22, 23, 24, 25, 26, 27], 28)] [29, 30] (by kernel_rfl) (by kernel_rfl) ?_
    rw [Flow.wpSegs_cons]
    simp only [Flow.pick, List.getElem?_toArray, List.getElem?_cons_succ, List.getElem?_cons_zero]
    repeat go_big_quiet_step (fail)
    refine wpQuiet_nil ?_
    rw [Flow.callAt_eq]
    simp only [List.getElem?_toArray, List.getElem?_cons_succ, List.getElem?_cons_zero]
    rw [if_neg (by simp [Region.wanted, yielded])]
    rw [Flow.wpSegs_nil]
    simp only [Flow.pick, List.getElem?_toArray, List.getElem?_cons_succ, List.getElem?_cons_zero, Act.put, List.setIfInBounds_toArray, List.set_cons_zero, List.set_cons_succ]
    repeat go_big_quiet_step (fail)
    refine wpQuiet_nil ?_
    clear c0 c1 c2 nonE
    go_wp2_with fail
    go_ret
    exact ⟨ret_bool HV.out.symm, Below.drew (Below.refl _ _)⟩


set_option maxRecDepth 100000 in
set_option maxHeartbeats 1000000 in
theorem sees_let (b : Nat) (t : List UInt8) (s : St) (w : World) (h : Scn w b t s) (_hl : t.length ≤ 1000) (_hp : s.p ≤ t.length) :
    Calls Tryd.prog 59 #[.pointer (some ⟨b, 0, none⟩), .func (.func 60) #[] #[]] w fun e w' => e = .returned (.bool (sees t (isLet) s)) ∧ Below w.heap.size w w' := by
  have c0 : ∀ t1 : Flow.Cls (Flow.Later w.drew), t1.val.cell? ⟨b, 0, none⟩ = some (.string ⟨t.toArray⟩) := Flow.cls_cell h.c0
  have c1 : ∀ t1 : Flow.Cls (Flow.Later w.drew), t1.val.cell? ⟨b, 1, none⟩ = some (.int .i64 s.p) := Flow.cls_cell h.c1
  have c2 : ∀ t1 : Flow.Cls (Flow.Later w.drew), t1.val.cell? ⟨b, 2, none⟩ = some (.int .i64 s.e) := Flow.cls_cell h.c2
  have HS := Lib.hid h; clear h
  haveI nonE := Flow.cls_nonempty w.drew
  by_cases h0 : s.e = 0
  · rw [h0] at c2
    by_cases hlt : s.p < t.length
    · have HV : Hid (sees t (isLet) s = (isLet) (at0 t s.p)) := by show _ = _; simp [sees, h0, hlt]
      clear h0
      go_enter Tryd.func59, Tryd.ntmps59
      go_wp2
      refine Flow.wp_region_segs Flow.Later Flow.Later.refl Flow.Later.trans [([0, 1, 2, 3, 4, 5, 6, 7, 8, 9, 10, 11, 12, 13, 14, 15, 16, 17, 18, 19, 20, 21, 22, 23, 24, 25, 26, 27], 28)] [29, 30] (by kernel_rfl) (by kernel_rfl) ?_
      rw [Flow.wpSegs_cons]
      simp only [Flow.pick, List.getElem?_toArray, List.getElem?_cons_succ, List.getElem?_cons_zero]
      repeat go_big_quiet_step (fail)
      refine wpQuiet_nil ?_
      rw [Flow.callAt_eq]
      simp only [List.getElem?_toArray, List.getElem?_cons_succ, List.getElem?_cons_zero]
      rw [if_pos (by rfl)]
      refine Flow.wp_behind (fun K hK => ?_)
      go_wp2_with fail
      rw [bget _ hlt]
      refine (isLetter_any _ _).mono ?_; rintro e w2 ⟨rfl, rfl⟩
      refine hK.out _ _ ⟨Flow.Later.refl _, ?_⟩
      clear hK K
      rw [Flow.wpSegs_nil]
      simp only [Flow.pick, List.getElem?_toArray, List.getElem?_cons_succ, List.getElem?_cons_zero]
      rw [← HV.out]
      generalize hB : sees t (isLet) s = B at *
      have HB := Lib.hid hB; clear hB
      repeat go_big_quiet_step (fail)
      refine wpQuiet_nil ?_
      clear c0 c1 c2 nonE
      go_wp2_with fail
      go_ret
      exact ⟨ret_bool HB.out.symm, Below.drew (Below.refl _ _)⟩
    · have HV : Hid (sees t (isLet) s = false) := by show _ = _; simp [sees, hlt]
      clear h0
      have hlf : decide (s.p < t.length) = false := by simpa using hlt
      go_enter Tryd.func59, Tryd.ntmps59
      go_wp2
      refine Flow.wp_region_segs Flow.Later Flow.Later.refl Flow.Later.trans [([0, 1, 2, 3, 4, 5, 6, 7, 8, 9, 10, 11, 12, 13, 14, 15, 16, 17, 18, 19, 20, 21, 22, 23, 24, 25, 26, 27], 28)] [29, 30] (by kernel_rfl) (by kernel_rfl) ?_
      rw [Flow.wpSegs_cons]
      simp only [Flow.pick, List.getElem?_toArray, List.getElem?_cons_succ, List.getElem?_cons_zero]
      repeat go_big_quiet_step (fail)
      refine wpQuiet_nil ?_
      rw [Flow.callAt_eq]
      simp only [List.getElem?_toArray, List.getElem?_cons_succ, List.getElem?_cons_zero]
      rw [if_neg (by simp [Region.wanted, yielded])]
      rw [Flow.wpSegs_nil]
      simp only [Flow.pick, List.getElem?_toArray, List.getElem?_cons_succ, List.getElem?_cons_zero, Act.put, List.setIfInBounds_toArray, List.set_cons_zero, List.set_cons_succ]
      repeat go_big_quiet_step (fail)
      refine wpQuiet_nil ?_
      clear c0 c1 c2 nonE
      go_wp2_with fail
      go_ret
      exact ⟨ret_bool HV.out.symm, Below.drew (Below.refl _ _)⟩
  · have HV : Hid (sees t (isLet) s = false) := by show _ = _; simp [sees, h0]
    have hb := ne_zero_b h0
    go_enter Tryd.func59, Tryd.ntmps59
    go_wp2
    refine Flow.wp_region_segs Flow.Later Flow.Later.refl Flow.Later.trans [([0, 1, 2, 3, 4, 5, 6, 7, 8, 9, 10, 11, 12, 13, 14, 15, 16, 17, 18, 19, 20, 21, 22, 23, 24, 25, 26, 27], 28)] [29, 30] (by kernel_rfl) (by kernel_rfl) ?_
    rw [Flow.wpSegs_cons]
    simp only [Flow.pick, List.getElem?_toArray, List.getElem?_cons_succ, List.getElem?_cons_zero]
    repeat go_big_quiet_step (fail)
    refine wpQuiet_nil ?_
    rw [Flow.callAt_eq]
    simp only [List.getElem?_toArray, List.getElem?_cons_succ, List.getElem?_cons_zero]
    rw [if_neg (by simp [Region.wanted, yielded])]
    rw [Flow.wpSegs_nil]
    simp only [Flow.pick, List.getElem?_toArray, List.getElem?_cons_succ, List.getElem?_cons_zero, Act.put, List.setIfInBounds_toArray, List.set_cons_zero, List.set_cons_succ]
    repeat go_big_quiet_step (fail)
    refine wpQuiet_nil ?_
    clear c0 c1 c2 nonE
    go_wp2_with fail
    go_ret
    exact ⟨ret_bool HV.out.symm, Below.drew (Below.refl _ _)⟩


set_option maxRecDepth 100000 in
set_option maxHeartbeats 1000000 in
theorem sees_bl (b : Nat) (t : List UInt8) (s : St) (w : World) (h : Scn w b t s) (_hl : t.length ≤ 1000) (_hp : s.p ≤ t.length) :
    Calls Tryd.prog 59 #[.pointer (some ⟨b, 0, none⟩), .func (.func 65) #[] #[]] w fun e w' => e = .returned (.bool (sees t (isBl) s)) ∧ Below w.heap.size w w' := by
  have c0 : ∀ t1 : Flow.Cls (Flow.Later w.drew), t1.val.cell? ⟨b, 0, none⟩ = some (.string ⟨t.toArray⟩) := Flow.cls_cell h.c0
  have c1 : ∀ t1 : Flow.Cls (Flow.Later w.drew), t1.val.cell? ⟨b, 1, none⟩ = some (.int .i64 s.p) := Flow.cls_cell h.c1
  have c2 : ∀ t1 : Flow.Cls (Flow.Later w.drew), t1.val.cell? ⟨b, 2, none⟩ = some (.int .i64 s.e) := Flow.cls_cell h.c2
  have HS := Lib.hid h; clear h
  haveI nonE := Flow.cls_nonempty w.drew
  by_cases h0 : s.e = 0
  · rw [h0] at c2
    by_cases hlt : s.p < t.length
    · have HV : Hid (sees t (isBl) s = (isBl) (at0 t s.p)) := by show _ = _; simp [sees, h0, hlt]
      clear h0
      go_enter Tryd.func59, Tryd.ntmps59
      go_wp2
      refine Flow.wp_region_segs Flow.Later Flow.Later.refl Flow.Later.trans [([0, 1, 2, 3, 4, 5, 6, 7, 8, 9, 10, 11, 12, 13, 14, 15, 16, 17, 18, 19, 20, 21, 22, 23, 24, 25, 26, 27], 28)] [29, 30] (by kernel_rfl) (by kernel_rfl) ?_
      rw [Flow.wpSegs_cons]
      simp only [Flow.pick, List.getElem?_toArray, List.getElem?_cons_succ, List.getElem?_cons_zero]
      repeat go_big_quiet_step (fail)
      refine wpQuiet_nil ?_
      rw [Flow.callAt_eq]
      simp only [List.getElem?_toArray, List.getElem?_cons_succ, List.getElem?_cons_zero]
      rw [if_pos (by rfl)]
      refine Flow.wp_behind (fun K hK => ?_)
      go_wp2_with fail
      rw [bget _ hlt]
      refine (isBlank_any _ _).mono ?_; rintro e w2 ⟨rfl, rfl⟩
      refine hK.out _ _ ⟨Flow.Later.refl _, ?_⟩
      clear hK K
      rw [Flow.wpSegs_nil]
      simp only [Flow.pick, List.getElem?_toArray, List.getElem?_cons_succ, List.getElem?_cons_zero]
      rw [← HV.out]
      generalize hB : sees t (isBl) s = B at *
      have HB := Lib.hid hB; clear hB
      repeat go_big_quiet_step (fail)
      refine wpQuiet_nil ?_
      clear c0 c1 c2 nonE
      go_wp2_with fail
      go_ret
      exact ⟨ret_bool HB.out.symm, Below.drew (Below.refl _ _)⟩
    · have HV : Hid (sees t (isBl) s = false) := by show _ = _; simp [sees, hlt]
      clear h0
      have hlf : decide (s.p < t.length) = false := by simpa using hlt
      go_enter Tryd.func59, Tryd.ntmps59
      go_wp2
      refine Flow.wp_region_segs Flow.Later Flow.Later.refl Flow.Later.trans [([0, 1, 2, 3, 4, 5, 6, 7, 8, 9, 10, 11, 12, 13, 14, 15, 16, 17, 18, 19, 20, 21, 22, 23, 24, 25, 26, 27], 28)] [29, 30] (by kernel_rfl) (by kernel_rfl) ?_
      rw [Flow.wpSegs_cons]
      simp only [Flow.pick, List.getElem?_toArray, List.getElem?_cons_succ, List.getElem?_cons_zero]
      repeat go_big_quiet_step (fail)
      refine wpQuiet_nil ?_
      rw [Flow.callAt_eq]
      simp only [List.getElem?_toArray, List.getElem?_cons_succ, List.getElem?_cons_zero]
      rw [if_neg (by simp [Region.wanted, yielded])]
      rw [Flow.wpSegs_nil]
      simp only [Flow.pick, List.getElem?_toArray, List.getElem?_cons_succ, List.getElem?_cons_zero, Act.put, List.setIfInBounds_toArray, List.set_cons_zero, List.set_cons_succ]
      repeat go_big_quiet_step (fail)
      refine wpQuiet_nil ?_
      clear c0 c1 c2 nonE
      go_wp2_with fail
      go_ret
      exact ⟨ret_bool HV.out.symm, Below.drew (Below.refl _ _)⟩
  · have HV : Hid (sees t (isBl) s = false) := by show _ = _; simp [sees, h0]
    have hb := ne_zero_b h0
    go_enter Tryd.func59, Tryd.ntmps59
    go_wp2
    refine Flow.wp_region_segs Flow.Later Flow.Later.refl Flow.Later.trans [([0, 1, 2, 3, 4, 5, 6, 7, 8, 9, 10, 11, 12, 13, 14, 15, 16, 17, 18, 19, 20, 21, 22, 23, 24, 25, 26, 27], 28)] [29, 30] (by kernel_rfl) (by kernel_rfl) ?_
    rw [Flow.wpSegs_cons]
    simp only [Flow.pick, List.getElem?_toArray, List.getElem?_cons_succ, List.getElem?_cons_zero]
    repeat go_big_quiet_step (fail)
    refine wpQuiet_nil ?_
    rw [Flow.callAt_eq]
    simp only [List.getElem?_toArray, List.getElem?_cons_succ, List.getElem?_cons_zero]
    rw [if_neg (by simp [Region.wanted, yielded])]
    rw [Flow.wpSegs_nil]
    simp only [Flow.pick, List.getElem?_toArray, List.getElem?_cons_succ, List.getElem?_cons_zero, Act.put, List.setIfInBounds_toArray, List.set_cons_zero, List.set_cons_succ]
    repeat go_big_quiet_step (fail)
    refine wpQuiet_nil ?_
    clear c0 c1 c2 nonE
    go_wp2_with fail
    go_ret
    exact ⟨ret_bool HV.out.symm, Below.drew (Below.refl _ _)⟩


set_option maxRecDepth 100000 in
set_option maxHeartbeats 1000000 in
theorem sees_ch (b : Nat) (t : List UInt8) (s : St) (x : UInt8) (cb : Nat) (w : World) (h : Scn w b t s) (_hl : t.length ≤ 1000) (_hp : s.p ≤ t.length) (hx : w.cell? ⟨cb, 0, none⟩ = some (.int .u8 x.toNat)) :
    Calls Tryd.prog 59 #[.pointer (some ⟨b, 0, none⟩), .func (.func 80) #[] #[.pointer (some ⟨cb, 0, none⟩)]] w fun e w' => e = .returned (.bool (sees t (isCh x) s)) ∧ Below w.heap.size w w' := by
  have c0 : ∀ t1 : Flow.Cls (Flow.Later w.drew), t1.val.cell? ⟨b, 0, none⟩ = some (.string ⟨t.toArray⟩) := Flow.cls_cell h.c0
  have c1 : ∀ t1 : Flow.Cls (Flow.Later w.drew), t1.val.cell? ⟨b, 1, none⟩ = some (.int .i64 s.p) := Flow.cls_cell h.c1
  have c2 : ∀ t1 : Flow.Cls (Flow.Later w.drew), t1.val.cell? ⟨b, 2, none⟩ = some (.int .i64 s.e) := Flow.cls_cell h.c2
  have HS := Lib.hid h; clear h
  have HX := Lib.hid hx; clear hx
  haveI nonE := Flow.cls_nonempty w.drew
  by_cases h0 : s.e = 0
  · rw [h0] at c2
    by_cases hlt : s.p < t.length
    · have HV : Hid (sees t (isCh x) s = (isCh x) (at0 t s.p)) := by show _ = _; simp [sees, h0, hlt]
      clear h0
      go_enter Tryd.func59, Tryd.ntmps59
      go_wp2
      refine Flow.wp_region_segs Flow.Later Flow.Later.refl Flow.Later.trans [([0, 1, 2, 3, 4, 5, 6, 7, 8, 9, 10, 11, 12, 13, 14, 15, 16, 17, 18, 19, 20, 21, 22, 23, 24, 25, 26, 27], 28)] [29, 30] (by kernel_rfl) (by kernel_rfl) ?_
      rw [Flow.wpSegs_cons]
      simp only [Flow.pick, List.getElem?_toArray, List.getElem?_cons_succ, List.getElem?_cons_zero]
      repeat go_big_quiet_step (fail)
      refine wpQuiet_nil ?_
      rw [Flow.callAt_eq]
      simp only [List.getElem?_toArray, List.getElem?_cons_succ, List.getElem?_cons_zero]
      rw [if_pos (by rfl)]
      refine Flow.wp_behind (fun K hK => ?_)
      go_wp2_with fail
      rw [bget _ hlt]
      refine (isCh_any x _ cb w.drew HX.out).mono ?_; rintro e w2 ⟨rfl, rfl⟩
      refine hK.out _ _ ⟨Flow.Later.refl _, ?_⟩
      clear hK K
      rw [Flow.wpSegs_nil]
      simp only [Flow.pick, List.getElem?_toArray, List.getElem?_cons_succ, List.getElem?_cons_zero]
      rw [← HV.out]
      generalize hB : sees t (isCh x) s = B at *
      have HB := Lib.hid hB; clear hB
      repeat go_big_quiet_step (fail)
      refine wpQuiet_nil ?_
      clear c0 c1 c2 nonE
      go_wp2_with fail
      go_ret
      exact ⟨ret_bool HB.out.symm, Below.drew (Below.refl _ _)⟩
    · have HV : Hid (sees t (isCh x) s = false) := by show _ = _; simp [sees, hlt]
      clear h0
      have hlf : decide (s.p < t.length) = false := by simpa using hlt
      go_enter Tryd.func59, Tryd.ntmps59
      go_wp2
      refine Flow.wp_region_segs Flow.Later Flow.Later.refl Flow.Later.trans [([0, 1, 2, 3, 4, 5, 6, 7, 8, 9, 10, 11, 12, 13, 14, 15, 16, 17, 18, 19, 20, 21, 22, 23, 24, 25, 26, 27], 28)] [29, 30] (by kernel_rfl) (by kernel_rfl) ?_
      rw [Flow.wpSegs_cons]
      simp only [Flow.pick, List.getElem?_toArray, List.getElem?_cons_succ, List.getElem?_cons_zero]
      repeat go_big_quiet_step (fail)
      refine wpQuiet_nil ?_
      rw [Flow.callAt_eq]
      simp only [List.getElem?_toArray, List.getElem?_cons_succ, List.getElem?_cons_zero]
      rw [if_neg (by simp [Region.wanted, yielded])]
      rw [Flow.wpSegs_nil]
      simp only [Flow.pick, List.getElem?_toArray, List.getElem?_cons_succ, List.getElem?_cons_zero, Act.put, List.setIfInBounds_toArray, List.set_cons_zero, List.set_cons_succ]
      repeat go_big_quiet_step (fail)
      refine wpQuiet_nil ?_
      clear c0 c1 c2 nonE
      go_wp2_with fail
      go_ret
      exact ⟨ret_bool HV.out.symm, Below.drew (Below.refl _ _)⟩
  · have HV : Hid (sees t (isCh x) s = false) := by show _ = _; simp [sees, h0]
    have hb := ne_zero_b h0
    go_enter Tryd.func59, Tryd.ntmps59
    go_wp2
    refine Flow.wp_region_segs Flow.Later Flow.Later.refl Flow.Later.trans [([0, 1, 2, 3, 4, 5, 6, 7, 8, 9, 10, 11, 12, 13, 14, 15, 16, 17, 18, 19, 20, 21, 22, 23, 24, 25, 26, 27], 28)] [29, 30] (by kernel_rfl) (by kernel_rfl) ?_
    rw [Flow.wpSegs_cons]
    simp only [Flow.pick, List.getElem?_toArray, List.getElem?_cons_succ, List.getElem?_cons_zero]
    repeat go_big_quiet_step (fail)
    refine wpQuiet_nil ?_
    rw [Flow.callAt_eq]
    simp only [List.getElem?_toArray, List.getElem?_cons_succ, List.getElem?_cons_zero]
    rw [if_neg (by simp [Region.wanted, yielded])]
    rw [Flow.wpSegs_nil]
    simp only [Flow.pick, List.getElem?_toArray, List.getElem?_cons_succ, List.getElem?_cons_zero, Act.put, List.setIfInBounds_toArray, List.set_cons_zero, List.set_cons_succ]
    repeat go_big_quiet_step (fail)
    refine wpQuiet_nil ?_
    clear c0 c1 c2 nonE
    go_wp2_with fail
    go_ret
    exact ⟨ret_bool HV.out.symm, Below.drew (Below.refl _ _)⟩

end Go.Proofs.YtpdncgfkoibacaaDoor
