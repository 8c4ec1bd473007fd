/- Contracts of the scanner's need and skip, for each class of bytes. -/
import Derived.Test.YtpdncgfkoibacaaDoorSees
namespace Go.Proofs.YtpdncgfkoibacaaDoor
open Go.RowKit

theorem Scn.but {w w' : World} {b c : Nat} {t : List UInt8} {s : St} (h : Scn w b t s) (hb : But c w w') (hne : b ≠ c) : Scn w' b t s := blk_but hb hne h
theorem But.cell {b : Nat} {w w' : World} (h : But b w w') {p : Addr} {v : Value} (hp : p.block ≠ b) (hv : w.cell? p = some v) : w'.cell? p = some v := by
  have hl := World.block_lt_of_cell? w p hv
  rw [World.cell?_of_block (w := w) (h.block p.block hl hp)]; exact hv
theorem Below.cellv {w w' : World} (h : Below w.heap.size w w') {p : Addr} {v : Value} (hv : w.cell? p = some v) : w'.cell? p = some v := by
  have hl := World.block_lt_of_cell? w p hv
  rw [h.cell hl]; exact hv


set_option maxRecDepth 100000 in
set_option maxHeartbeats 1000000 in
theorem need_dig (b : Nat) (t : List UInt8) (s : St) (w : World) (h : Scn w b t s) (hl : t.length ≤ 1000) (hp : s.p ≤ t.length) :
    Calls Tryd.prog 62 #[.pointer (some ⟨b, 0, none⟩), .func (.func 68) #[] #[]] w fun e w' => e = .returned (.int .u8 (needB t (isDig) s).toNat) ∧ Scn w' b t (need t (isDig) s) ∧ But b w w' := by
  have HS := Lib.hid h
  have HC := Lib.hid (sees_dig b t _ _ h hl hp)
  clear h
  skip
  cases hs : sees t (isDig) s with
  | true =>
    have hs' := hs
    simp only [sees, Bool.and_eq_true, decide_eq_true_eq] at hs'
    have hlt := hs'.1.2
    clear hs'
    have HN : Hid (need t (isDig) s = ⟨s.p + 1, s.e⟩) := by show _ = _; unfold need; rw [if_pos hs]
    have HB : Hid (needB t (isDig) s = at0 t s.p) := by show _ = _; unfold needB; rw [if_pos hs]
    have HC2 := HC.out
    rw [hs] at HC2
    have HC3 := Lib.hid HC2
    clear HC2 HC hs
    go_enter Tryd.func62, Tryd.ntmps62
    go_wp2_with fail
    refine HC3.out.mono ?_; rintro e w1 ⟨rfl, b1⟩
    have S1 := Lib.hid (HS.out.below b1)
    have c0 := S1.out.c0
    have c1 := S1.out.c1
    have f1 := S1.out.free 1
    have S2 := Lib.hid (S1.out.set1 (s.p + 1))
    go_wp2_with fail
    refine Flow.wp_region_segs Flow.Later Flow.Later.refl Flow.Later.trans [] [0, 1, 2, 3, 4, 5, 6, 7, 8, 9, 10] (by kernel_rfl) (by kernel_rfl) ?_
    obtain ⟨w2, hw2⟩ : ∃ w2, w2 = (w1.setCell ⟨b, 1, none⟩ (.int .i64 ((s.p : Int) + 1))).drew := ⟨_, rfl⟩
    have S3 : Hid (Scn w2 b t ⟨s.p + 1, s.e⟩) := by rw [hw2]; exact S2.out
    have B3 : But b w w2 := by rw [hw2]; exact ((But.of_below b1).setCell _).drew
    rw [← hw2]
    clear hw2 c0 c1 f1 S1 S2
    have c0 : ∀ t1 : Flow.Cls (Flow.Later w2), t1.val.cell? ⟨b, 0, none⟩ = some (.string ⟨t.toArray⟩) := Flow.cls_cell S3.out.c0
    have c1 : ∀ t1 : Flow.Cls (Flow.Later w2), t1.val.cell? ⟨b, 1, none⟩ = some (.int .i64 ((s.p : Int) + 1)) := Flow.cls_cell S3.out.c1
    haveI nonE := Flow.cls_nonempty w2
    rw [Flow.wpSegs_nil]
    simp only [Flow.pick, List.getElem?_toArray, List.getElem?_cons_succ, List.getElem?_cons_zero]
    repeat go_big_quiet_step (fail)
    refine wpQuiet_nil ?_
    clear c0 c1 nonE
    go_wp2_with fail
    go_ret
    refine ⟨?_, by rw [HN.out]; exact S3.out, B3⟩
    rw [HB.out]
    first
      | exact congrArg (fun c : UInt8 => Ending.returned (.int .u8 (c.toNat : Int))) (bget _ hlt)
      | (simp; exact bget _ hlt)
  | false =>
    have HB : Hid (needB t (isDig) s = 0) := by show _ = _; unfold needB; rw [if_neg (by rw [hs]; exact Bool.false_ne_true)]
    have HC2 := HC.out
    rw [hs] at HC2
    have HC3 := Lib.hid HC2
    clear HC2 HC
    by_cases hlt : s.p < t.length
    · have HN : Hid (need t (isDig) s = failAt s s.p 3) := by show _ = _; unfold need; rw [if_neg (by rw [hs]; exact Bool.false_ne_true), if_pos hlt]
      clear hs
      go_enter Tryd.func62, Tryd.ntmps62
      go_wp2_with fail
      refine HC3.out.mono ?_; rintro e w1 ⟨rfl, b1⟩
      have S1 := Lib.hid (HS.out.below b1)
      go_wp2_with fail
      refine Flow.wp_region_segs Flow.Later Flow.Later.refl Flow.Later.trans [] [0, 1, 2, 3, 4, 5, 6, 7, 8, 9] (by kernel_rfl) (by kernel_rfl) ?_
      have S2 : Hid (Scn w1.drew b t s) := S1.out
      have b2 := Below.drew b1
      generalize w1.drew = w2 at *
      have c0 : ∀ t1 : Flow.Cls (Flow.Later w2), t1.val.cell? ⟨b, 0, none⟩ = some (.string ⟨t.toArray⟩) := Flow.cls_cell S2.out.c0
      have c1 : ∀ t1 : Flow.Cls (Flow.Later w2), t1.val.cell? ⟨b, 1, none⟩ = some (.int .i64 s.p) := Flow.cls_cell S2.out.c1
      haveI nonE := Flow.cls_nonempty w2
      rw [Flow.wpSegs_nil]
      simp only [Flow.pick, List.getElem?_toArray, List.getElem?_cons_succ, List.getElem?_cons_zero]
      repeat go_big_quiet_step (fail)
      refine wpQuiet_nil ?_
      clear c0 c1 nonE
      have c1 := S2.out.c1
      go_wp2_with fail
      refine (fail_any b t s s.p 3 w2 S2.out).mono ?_; rintro e w3 ⟨rfl, S3, b3⟩
      have S3' := Lib.hid S3
      clear S3 c1
      go_wp2_with fail
      go_ret
      exact ⟨by rw [HB.out]; rfl, by rw [HN.out]; exact S3'.out, (But.of_below b2).trans b3⟩
    · have HN : Hid (need t (isDig) s = failAt s t.length 4) := by show _ = _; unfold need; rw [if_neg (by rw [hs]; exact Bool.false_ne_true), if_neg hlt]
      have hlf : decide (s.p < t.length) = false := by simpa using hlt
      clear hs
      go_enter Tryd.func62, Tryd.ntmps62
      go_wp2_with fail
      refine HC3.out.mono ?_; rintro e w1 ⟨rfl, b1⟩
      have S1 := Lib.hid (HS.out.below b1)
      go_wp2_with fail
      refine Flow.wp_region_segs Flow.Later Flow.Later.refl Flow.Later.trans [] [0, 1, 2, 3, 4, 5, 6, 7, 8, 9] (by kernel_rfl) (by kernel_rfl) ?_
      have S2 : Hid (Scn w1.drew b t s) := S1.out
      have b2 := Below.drew b1
      generalize w1.drew = w2 at *
      have c0 : ∀ t1 : Flow.Cls (Flow.Later w2), t1.val.cell? ⟨b, 0, none⟩ = some (.string ⟨t.toArray⟩) := Flow.cls_cell S2.out.c0
      have c1 : ∀ t1 : Flow.Cls (Flow.Later w2), t1.val.cell? ⟨b, 1, none⟩ = some (.int .i64 s.p) := Flow.cls_cell S2.out.c1
      haveI nonE := Flow.cls_nonempty w2
      rw [Flow.wpSegs_nil]
      simp only [Flow.pick, List.getElem?_toArray, List.getElem?_cons_succ, List.getElem?_cons_zero]
      repeat go_big_quiet_step (fail)
      refine wpQuiet_nil ?_
      clear c0 c1 nonE
      have c0 := S2.out.c0
      go_wp2_with fail
      refine (fail_any b t s t.length 4 w2 S2.out).mono ?_; rintro e w3 ⟨rfl, S3, b3⟩
      have S3' := Lib.hid S3
      clear S3 c0
      go_wp2_with fail
      go_ret
      exact ⟨by rw [HB.out]; rfl, by rw [HN.out]; exact S3'.out, (But.of_below b2).trans b3⟩


set_option maxRecDepth 100000 in
set_option maxHeartbeats 1000000 in
theorem need_bl (b : Nat) (t : List UInt8) (s : St) (w : World) (h : Scn w b t s) (hl : t.length ≤ 1000) (hp : s.p ≤ t.length) :
    Calls Tryd.prog 62 #[.pointer (some ⟨b, 0, none⟩), .func (.func 65) #[] #[]] w fun e w' => e = .returned (.int .u8 (needB t (isBl) s).toNat) ∧ Scn w' b t (need t (isBl) s) ∧ But b w w' := by
  have HS := Lib.hid h
  have HC := Lib.hid (sees_bl b t _ _ h hl hp)
  clear h
  skip
  cases hs : sees t (isBl) s with
  | true =>
    have hs' := hs
    simp only [sees, Bool.and_eq_true, decide_eq_true_eq] at hs'
    have hlt := hs'.1.2
    clear hs'
    have HN : Hid (need t (isBl) s = ⟨s.p + 1, s.e⟩) := by show _ = _; unfold need; rw [if_pos hs]
    have HB : Hid (needB t (isBl) s = at0 t s.p) := by show _ = _; unfold needB; rw [if_pos hs]
    have HC2 := HC.out
    rw [hs] at HC2
    have HC3 := Lib.hid HC2
    clear HC2 HC hs
    go_enter Tryd.func62, Tryd.ntmps62
    go_wp2_with fail
    refine HC3.out.mono ?_; rintro e w1 ⟨rfl, b1⟩
    have S1 := Lib.hid (HS.out.below b1)
    have c0 := S1.out.c0
    have c1 := S1.out.c1
    have f1 := S1.out.free 1
    have S2 := Lib.hid (S1.out.set1 (s.p + 1))
    go_wp2_with fail
    refine Flow.wp_region_segs Flow.Later Flow.Later.refl Flow.Later.trans [] [0, 1, 2, 3, 4, 5, 6, 7, 8, 9, 10] (by kernel_rfl) (by kernel_rfl) ?_
    obtain ⟨w2, hw2⟩ : ∃ w2, w2 = (w1.setCell ⟨b, 1, none⟩ (.int .i64 ((s.p : Int) + 1))).drew := ⟨_, rfl⟩
    have S3 : Hid (Scn w2 b t ⟨s.p + 1, s.e⟩) := by rw [hw2]; exact S2.out
    have B3 : But b w w2 := by rw [hw2]; exact ((But.of_below b1).setCell _).drew
    rw [← hw2]
    clear hw2 c0 c1 f1 S1 S2
    have c0 : ∀ t1 : Flow.Cls (Flow.Later w2), t1.val.cell? ⟨b, 0, none⟩ = some (.string ⟨t.toArray⟩) := Flow.cls_cell S3.out.c0
    have c1 : ∀ t1 : Flow.Cls (Flow.Later w2), t1.val.cell? ⟨b, 1, none⟩ = some (.int .i64 ((s.p : Int) + 1)) := Flow.cls_cell S3.out.c1
    haveI nonE := Flow.cls_nonempty w2
    rw [Flow.wpSegs_nil]
    simp only [Flow.pick, List.getElem?_toArray, List.getElem?_cons_succ, List.getElem?_cons_zero]
    repeat go_big_quiet_step (fail)
    refine wpQuiet_nil ?_
    clear c0 c1 nonE
    go_wp2_with fail
    go_ret
    refine ⟨?_, by rw [HN.out]; exact S3.out, B3⟩
    rw [HB.out]
    first
      | exact congrArg (fun c : UInt8 => Ending.returned (.int .u8 (c.toNat : Int))) (bget _ hlt)
      | (simp; exact bget _ hlt)
  | false =>
    have HB : Hid (needB t (isBl) s = 0) := by show _ = _; unfold needB; rw [if_neg (by rw [hs]; exact Bool.false_ne_true)]
    have HC2 := HC.out
    rw [hs] at HC2
    have HC3 := Lib.hid HC2
    clear HC2 HC
    by_cases hlt : s.p < t.length
    · have HN : Hid (need t (isBl) s = failAt s s.p 3) := by show _ = _; unfold need; rw [if_neg (by rw [hs]; exact Bool.false_ne_true), if_pos hlt]
      clear hs
      go_enter Tryd.func62, Tryd.ntmps62
      go_wp2_with fail
      refine HC3.out.mono ?_; rintro e w1 ⟨rfl, b1⟩
      have S1 := Lib.hid (HS.out.below b1)
      go_wp2_with fail
      refine Flow.wp_region_segs Flow.Later Flow.Later.refl Flow.Later.trans [] [0, 1, 2, 3, 4, 5, 6, 7, 8, 9] (by kernel_rfl) (by kernel_rfl) ?_
      have S2 : Hid (Scn w1.drew b t s) := S1.out
      have b2 := Below.drew b1
      generalize w1.drew = w2 at *
      have c0 : ∀ t1 : Flow.Cls (Flow.Later w2), t1.val.cell? ⟨b, 0, none⟩ = some (.string ⟨t.toArray⟩) := Flow.cls_cell S2.out.c0
      have c1 : ∀ t1 : Flow.Cls (Flow.Later w2), t1.val.cell? ⟨b, 1, none⟩ = some (.int .i64 s.p) := Flow.cls_cell S2.out.c1
      haveI nonE := Flow.cls_nonempty w2
      rw [Flow.wpSegs_nil]
      simp only [Flow.pick, List.getElem?_toArray, List.getElem?_cons_succ, List.getElem?_cons_zero]
      repeat go_big_quiet_step (fail)
      refine wpQuiet_nil ?_
      clear c0 c1 nonE
      have c1 := S2.out.c1
      go_wp2_with fail
      refine (fail_any b t s s.p 3 w2 S2.out).mono ?_; rintro e w3 ⟨rfl, S3, b3⟩
      have S3' := Lib.hid S3
      clear S3 c1
      go_wp2_with fail
      go_ret
      exact ⟨by rw [HB.out]; rfl, by rw [HN.out]; exact S3'.out, (But.of_below b2).trans b3⟩
    · have HN : Hid (need t (isBl) s = failAt s t.length 4) := by show _ = _; unfold need; rw [if_neg (by rw [hs]; exact Bool.false_ne_true), if_neg hlt]
      have hlf : decide (s.p < t.length) = false := by simpa using hlt
      clear hs
      go_enter Tryd.func62, Tryd.ntmps62
      go_wp2_with fail
      refine HC3.out.mono ?_; rintro e w1 ⟨rfl, b1⟩
      have S1 := Lib.hid (HS.out.below b1)
      go_wp2_with fail
      refine Flow.wp_region_segs Flow.Later Flow.Later.refl Flow.Later.trans [] [0, 1, 2, 3, 4, 5, 6, 7, 8, 9] (by kernel_rfl) (by kernel_rfl) ?_
      have S2 : Hid (Scn w1.drew b t s) := S1.out
      have b2 := Below.drew b1
      generalize w1.drew = w2 at *
      have c0 : ∀ t1 : Flow.Cls (Flow.Later w2), t1.val.cell? ⟨b, 0, none⟩ = some (.string ⟨t.toArray⟩) := Flow.cls_cell S2.out.c0
      have c1 : ∀ t1 : Flow.Cls (Flow.Later w2), t1.val.cell? ⟨b, 1, none⟩ = some (.int .i64 s.p) := Flow.cls_cell S2.out.c1
      haveI nonE := Flow.cls_nonempty w2
      rw [Flow.wpSegs_nil]
      simp only [Flow.pick, List.getElem?_toArray, List.getElem?_cons_succ, List.getElem?_cons_zero]
      repeat go_big_quiet_step (fail)
      refine wpQuiet_nil ?_
      clear c0 c1 nonE
      have c0 := S2.out.c0
      go_wp2_with fail
      refine (fail_any b t s t.length 4 w2 S2.out).mono ?_; rintro e w3 ⟨rfl, S3, b3⟩
      have S3' := Lib.hid S3
      clear S3 c0
      go_wp2_with fail
      go_ret
      exact ⟨by rw [HB.out]; rfl, by rw [HN.out]; exact S3'.out, (But.of_below b2).trans b3⟩


set_option maxRecDepth 100000 in
set_option maxHeartbeats 1000000 in
theorem need_ch (b : Nat) (t : List UInt8) (s : St) (x : UInt8) (cb : Nat) (w : World) (h : Scn w b t s) (hl : t.length ≤ 1000) (hp : s.p ≤ t.length) (hx : w.cell? ⟨cb, 0, none⟩ = some (.int .u8 x.toNat)) :
    Calls Tryd.prog 62 #[.pointer (some ⟨b, 0, none⟩), .func (.func 80) #[] #[.pointer (some ⟨cb, 0, none⟩)]] w fun e w' => e = .returned (.int .u8 (needB t (isCh x) s).toNat) ∧ Scn w' b t (need t (isCh x) s) ∧ But b w w' := by
  have HS := Lib.hid h
  have HC := Lib.hid (sees_ch b t _ x cb _ h hl hp hx)
  clear h
  clear hx
  cases hs : sees t (isCh x) s with
  | true =>
    have hs' := hs
    simp only [sees, Bool.and_eq_true, decide_eq_true_eq] at hs'
    have hlt := hs'.1.2
    clear hs'
    have HN : Hid (need t (isCh x) s = ⟨s.p + 1, s.e⟩) := by show _ = _; unfold need; rw [if_pos hs]
    have HB : Hid (needB t (isCh x) s = at0 t s.p) := by show _ = _; unfold needB; rw [if_pos hs]
    have HC2 := HC.out
    rw [hs] at HC2
    have HC3 := Lib.hid HC2
    clear HC2 HC hs
    go_enter Tryd.func62, Tryd.ntmps62
    go_wp2_with fail
    refine HC3.out.mono ?_; rintro e w1 ⟨rfl, b1⟩
    have S1 := Lib.hid (HS.out.below b1)
    have c0 := S1.out.c0
    have c1 := S1.out.c1
    have f1 := S1.out.free 1
    have S2 := Lib.hid (S1.out.set1 (s.p + 1))
    go_wp2_with fail
    refine Flow.wp_region_segs Flow.Later Flow.Later.refl Flow.Later.trans [] [0, 1, 2, 3, 4, 5, 6, 7, 8, 9, 10] (by kernel_rfl) (by kernel_rfl) ?_
    obtain ⟨w2, hw2⟩ : ∃ w2, w2 = (w1.setCell ⟨b, 1, none⟩ (.int .i64 ((s.p : Int) + 1))).drew := ⟨_, rfl⟩
    have S3 : Hid (Scn w2 b t ⟨s.p + 1, s.e⟩) := by rw [hw2]; exact S2.out
    have B3 : But b w w2 := by rw [hw2]; exact ((But.of_below b1).setCell _).drew
    rw [← hw2]
    clear hw2 c0 c1 f1 S1 S2
    have c0 : ∀ t1 : Flow.Cls (Flow.Later w2), t1.val.cell? ⟨b, 0, none⟩ = some (.string ⟨t.toArray⟩) := Flow.cls_cell S3.out.c0
    have c1 : ∀ t1 : Flow.Cls (Flow.Later w2), t1.val.cell? ⟨b, 1, none⟩ = some (.int .i64 ((s.p : Int) + 1)) := Flow.cls_cell S3.out.c1
    haveI nonE := Flow.cls_nonempty w2
    rw [Flow.wpSegs_nil]
    simp only [Flow.pick, List.getElem?_toArray, List.getElem?_cons_succ, List.getElem?_cons_zero]
    repeat go_big_quiet_step (fail)
    refine wpQuiet_nil ?_
    clear c0 c1 nonE
    go_wp2_with fail
    go_ret
    refine ⟨?_, by rw [HN.out]; exact S3.out, B3⟩
    rw [HB.out]
    first
      | exact congrArg (fun c : UInt8 => Ending.returned (.int .u8 (c.toNat : Int))) (bget _ hlt)
      | (simp; exact bget _ hlt)
  | false =>
    have HB : Hid (needB t (isCh x) s = 0) := by show _ = _; unfold needB; rw [if_neg (by rw [hs]; exact Bool.false_ne_true)]
    have HC2 := HC.out
    rw [hs] at HC2
    have HC3 := Lib.hid HC2
    clear HC2 HC
    by_cases hlt : s.p < t.length
    · have HN : Hid (need t (isCh x) s = failAt s s.p 3) := by show _ = _; unfold need; rw [if_neg (by rw [hs]; exact Bool.false_ne_true), if_pos hlt]
      clear hs
      go_enter Tryd.func62, Tryd.ntmps62
      go_wp2_with fail
      refine HC3.out.mono ?_; rintro e w1 ⟨rfl, b1⟩
      have S1 := Lib.hid (HS.out.below b1)
      go_wp2_with fail
      refine Flow.wp_region_segs Flow.Later Flow.Later.refl Flow.Later.trans [] [0, 1, 2, 3, 4, 5, 6, 7, 8, 9] (by kernel_rfl) (by kernel_rfl) ?_
      have S2 : Hid (Scn w1.drew b t s) := S1.out
      have b2 := Below.drew b1
      generalize w1.drew = w2 at *
      have c0 : ∀ t1 : Flow.Cls (Flow.Later w2), t1.val.cell? ⟨b, 0, none⟩ = some (.string ⟨t.toArray⟩) := Flow.cls_cell S2.out.c0
      have c1 : ∀ t1 : Flow.Cls (Flow.Later w2), t1.val.cell? ⟨b, 1, none⟩ = some (.int .i64 s.p) := Flow.cls_cell S2.out.c1
      haveI nonE := Flow.cls_nonempty w2
      rw [Flow.wpSegs_nil]
      simp only [Flow.pick, List.getElem?_toArray, List.getElem?_cons_succ, List.getElem?_cons_zero]
      repeat go_big_quiet_step (fail)
      refine wpQuiet_nil ?_
      clear c0 c1 nonE
      have c1 := S2.out.c1
      go_wp2_with fail
      refine (fail_any b t s s.p 3 w2 S2.out).mono ?_; rintro e w3 ⟨rfl, S3, b3⟩
      have S3' := Lib.hid S3
      clear S3 c1
      go_wp2_with fail
      go_ret
      exact ⟨by rw [HB.out]; rfl, by rw [HN.out]; exact S3'.out, (But.of_below b2).trans b3⟩
    · have HN : Hid (need t (isCh x) s = failAt s t.length 4) := by show _ = _; unfold need; rw [if_neg (by rw [hs]; exact Bool.false_ne_true), if_neg hlt]
      have hlf : decide (s.p < t.length) = false := by simpa using hlt
      clear hs
      go_enter Tryd.func62, Tryd.ntmps62
      go_wp2_with fail
      refine HC3.out.mono ?_; rintro e w1 ⟨rfl, b1⟩
      have S1 := Lib.hid (HS.out.below b1)
      go_wp2_with fail
      refine Flow.wp_region_segs Flow.Later Flow.Later.refl Flow.Later.trans [] [0, 1, 2, 3, 4, 5, 6, 7, 8, 9] (by kernel_rfl) (by kernel_rfl) ?_
      have S2 : Hid (Scn w1.drew b t s) := S1.out
      have b2 := Below.drew b1
      generalize w1.drew = w2 at *
      have c0 : ∀ t1 : Flow.Cls (Flow.Later w2), t1.val.cell? ⟨b, 0, none⟩ = some (.string ⟨t.toArray⟩) := Flow.cls_cell S2.out.c0
      have c1 : ∀ t1 : Flow.Cls (Flow.Later w2), t1.val.cell? ⟨b, 1, none⟩ = some (.int .i64 s.p) := Flow.cls_cell S2.out.c1
      haveI nonE := Flow.cls_nonempty w2
      rw [Flow.wpSegs_nil]
      simp only [Flow.pick, List.getElem?_toArray, List.getElem?_cons_succ, List.getElem?_cons_zero]
      repeat go_big_quiet_step (fail)
      refine wpQuiet_nil ?_
      clear c0 c1 nonE
      have c0 := S2.out.c0
      go_wp2_with fail
      refine (fail_any b t s t.length 4 w2 S2.out).mono ?_; rintro e w3 ⟨rfl, S3, b3⟩
      have S3' := Lib.hid S3
      clear S3 c0
      go_wp2_with fail
      go_ret
      exact ⟨by rw [HB.out]; rfl, by rw [HN.out]; exact S3'.out, (But.of_below b2).trans b3⟩

end Go.Proofs.YtpdncgfkoibacaaDoor
