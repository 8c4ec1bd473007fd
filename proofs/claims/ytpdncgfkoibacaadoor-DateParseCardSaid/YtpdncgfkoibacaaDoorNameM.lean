/- Contract of the scanner's name. -/
import Derived.Test.YtpdncgfkoibacaaDoorNameFn
namespace Go.Proofs.YtpdncgfkoibacaaDoor
open Go.RowKit

/-- Below a fixed block number a later world is as the earlier one. -/
def LaterB (B : Nat) (u x : World) : Prop := Below B u x
theorem LaterB.refl (B : Nat) (w : World) : LaterB B w w := Below.refl _ _
theorem LaterB.trans (B : Nat) (u v w : World) (h : LaterB B u v) (k : LaterB B v w) : LaterB B u w := Below.trans h k
theorem clsB_nonempty (B : Nat) (w : World) : Nonempty (Flow.Cls (LaterB B w)) := ⟨⟨w, LaterB.refl B w⟩⟩
theorem clsB_cell {B : Nat} {w : World} {p : Addr} {v : Value} (h : w.cell? p = some v) (hp : p.block < B) (t : Flow.Cls (LaterB B w)) : t.val.cell? p = some v := by
  have hb : Below B w t.val := t.ok
  rw [hb.cell hp]; exact h

theorem below_alloc2 {B : Nat} {w : World} (hB : B ≤ w.heap.size) (o o' : Obj) : Below B (w.alloc o) (w.alloc o') :=
  ⟨rfl, rfl, rfl, by simp, fun k hk => by rw [Below.heap_alloc _ _ _ (by omega), Below.heap_alloc _ _ _ (by omega)]⟩

theorem nameS_e0 {t : List UInt8} {n : List (List UInt8)} {s : St} (h0 : s.e = 0) (h3 : s.p + 3 ≤ t.length) :
    (nameS t n s = match find3 n (word3 t s.p) with | none => failAt s s.p 3 | some _ => ⟨s.p + 3, s.e⟩) ∧ nameV t n s = (find3 n (word3 t s.p)).getD 0 := by
  have h : ¬ t.length < s.p + 3 := by omega
  unfold nameS nameV failAt
  rw [if_pos h0, if_pos h0, if_neg h, if_neg h, if_pos h0, h0]
  exact ⟨rfl, rfl⟩

set_option maxRecDepth 100000 in
set_option maxHeartbeats 4000000 in
theorem nameM_any (b nb : Nat) (t : List UInt8) (s : St) (names : List (List UInt8)) (w : World) (h : Scn w b t s) (hl : t.length ≤ 1000) (hp : s.p ≤ t.length) (_hbn : nb ≠ b)
    (hnn : names.length ≤ 100) (hn : ∀ i, i < names.length → (names.getD i []).length ≤ 1000)
    (hc : ∀ i, i < names.length → w.cell? ⟨nb, i, none⟩ = some (.string ⟨(names.getD i []).toArray⟩)) :
    Calls Tryd.prog 61 #[.pointer (some ⟨b, 0, none⟩), .slice (some ⟨nb, 0, none⟩) names.length names.length] w fun e w' => e = .returned (.int .i64 (nameV t names s : Nat)) ∧ Scn w' b t (nameS t names s) ∧ But b w w' := by
  have c2 := h.c2
  have HS := Lib.hid h; clear h
  have HC := Lib.hid hc; clear hc
  have HN := Lib.hid hn; clear hn
  by_cases h0 : s.e = 0
  · rw [h0] at c2
    have S1 : Hid (Scn w.drew b t s) := HS.out
    have HC1 : Hid (∀ i, i < names.length → w.drew.cell? ⟨nb, i, none⟩ = some (.string ⟨(names.getD i []).toArray⟩)) := HC.out
    by_cases h3 : s.p + 3 ≤ t.length
    · have HV := Lib.hid (nameS_e0 (n := names) h0 h3)
      have q1 : decide ((t.length : Int) - (s.p : Int) < 3) = false := by simp; omega
      have q3 : ¬ ((t.length : Int) - (s.p : Int) < 3) := by omega
      have H0 := Lib.hid h0; clear h0
      have hlw : (word3 t s.p).length ≤ 1000 := by unfold word3; simp; omega
      have HW : Hid ((⟨t.toArray⟩ : ByteArray).extract s.p (s.p + 3) = ⟨(word3 t s.p).toArray⟩) := by
        show _ = _; rw [extract_take, show s.p + 3 - s.p = 3 by omega]; rfl
      go_enter Tryd.func61, Tryd.ntmps61
      go_wp2_with fail
      refine Flow.wp_region_segs Flow.Later Flow.Later.refl Flow.Later.trans [] [0, 1, 2, 3, 4, 5, 6, 7, 8, 9, 10] (by kernel_rfl) (by kernel_rfl) ?_
      have b1 : Below w.heap.size w w.drew := Below.drew (Below.refl _ _)
      clear c2
      generalize w.drew = w1 at *
      have c0 : ∀ t1 : Flow.Cls (Flow.Later w1), t1.val.cell? ⟨b, 0, none⟩ = some (.string ⟨t.toArray⟩) := Flow.cls_cell S1.out.c0
      have c1 : ∀ t1 : Flow.Cls (Flow.Later w1), t1.val.cell? ⟨b, 1, none⟩ = some (.int .i64 s.p) := Flow.cls_cell S1.out.c1
      haveI nonE := Flow.cls_nonempty w1
      rw [Flow.wpSegs_nil]
      simp only [Flow.pick, List.getElem?_toArray, List.getElem?_cons_succ, List.getElem?_cons_zero]
      repeat go_big_quiet_step (fail)
      refine wpQuiet_nil ?_
      clear c0 c1 nonE
      go_wp2_with fail
      clear q1 q3
      refine Flow.wp_region_sched (LaterB w1.heap.size) (LaterB.refl _) (LaterB.trans _) (.fork [0, 1, 2, 3, 4, 5, 6, 7, 8, 9, 10, 11, 12, 13] 14 15 (.step [] 15 (.step [] 16 (.done []))) (.step [] 14 (.step [] 16 (.done [])))) (by kernel_rfl) (by kernel_rfl) ?_
      have S2 : Hid (Scn w1.drew b t s) := S1.out
      have b2 : Below w1.heap.size w1 w1.drew := Below.drew (Below.refl _ _)
      have hbl := S1.out.lt
      generalize w1.drew = w2 at *
      have c0 : ∀ t1 : Flow.Cls (LaterB w1.heap.size w2), t1.val.cell? ⟨b, 0, none⟩ = some (.string ⟨t.toArray⟩) := clsB_cell S2.out.c0 hbl
      have c1 : ∀ t1 : Flow.Cls (LaterB w1.heap.size w2), t1.val.cell? ⟨b, 1, none⟩ = some (.int .i64 s.p) := clsB_cell S2.out.c1 hbl
      haveI nonE := clsB_nonempty w1.heap.size w2
      rw [Flow.wpSched_fork]
      simp only [Flow.pick, List.getElem?_toArray, List.getElem?_cons_succ, List.getElem?_cons_zero]
      repeat go_big_quiet_step (fail)
      refine wpQuiet_nil ?_
      clear c0 c1 nonE
      refine ⟨?_, ?_⟩
      · skip
        rw [Flow.callAt_eq]
        simp only [List.getElem?_toArray, List.getElem?_cons_succ, List.getElem?_cons_zero]
        rw [if_pos (by rfl)]
        refine Flow.wp_behind (fun K hK => ?_)
        go_wp2_with fail
        rw [HW.out]
        refine (capital_any _ _ hlw).mono ?_; rintro e w3 ⟨rfl, b3⟩
        have b23 := b2.trans (b3.mono b2.size)
        refine hK.out _ _ ⟨b3.mono b2.size, ?_⟩
        clear hK K
        rw [Flow.wpSched_step]
        simp only [Flow.pick]
        refine wpQuiet_nil ?_
        rw [Flow.callAt_eq]
        simp only [List.getElem?_toArray, List.getElem?_cons_succ, List.getElem?_cons_zero]
        rw [if_pos (by rfl)]
        refine Flow.wp_behind (fun K hK => ?_)
        go_wp2_with fail
        refine hK.out _ _ ⟨(Below.refl _ _).alloc b23.size _, ?_⟩
        clear hK K
        rw [Flow.wpSched_step]
        simp only [Flow.pick]
        refine wpQuiet_nil ?_
        rw [Flow.callAt_eq]
        simp only [List.getElem?_toArray, List.getElem?_cons_succ, List.getElem?_cons_zero]
        rw [if_pos (by rfl)]
        refine Flow.wp_behind (fun K hK => ?_)
        go_wp2_with fail
        refine hK.out _ _ ⟨below_alloc2 b23.size _ _, ?_⟩
        clear hK K
        rw [Flow.wpSched_done]
        simp only [Flow.pick]
        refine wpQuiet_nil ?_
        obtain ⟨wz, hwz⟩ : ∃ wz, wz = w3.alloc (.cells #[.string ⟨(capL (word3 t s.p)).toArray⟩] 9) := ⟨_, rfl⟩
        have b6 : Below w1.heap.size w1 wz := by rw [hwz]; exact b23.alloc b23.size _
        have X6 : Hid (wz.cell? ⟨w3.heap.size, 0, none⟩ = some (.string ⟨(capL (word3 t s.p)).toArray⟩)) := by rw [hwz]; show _ = _; simp
        have S6 := Lib.hid (S1.out.below b6)
        have C6 : Hid (∀ i, i < names.length → wz.cell? ⟨nb, i, none⟩ = some (.string ⟨(names.getD i []).toArray⟩)) := fun i hi => Below.cellv b6 (HC1.out i hi)
        rw [← hwz]
        clear hwz b23 b3 b2 S2
        generalize w3.heap.size = q at *
        go_wp2_with fail
        refine (indexFunc_any names (capL (word3 t s.p)) nb _ wz hnn HN.out C6.out X6.out).mono ?_; rintro e w7 ⟨rfl, b7⟩
        have S7 := Lib.hid (S6.out.below b7)
        have b8 := b6.trans (b7.mono b6.size)
        have b9 := b1.trans (b8.mono b1.size)
        clear S6 X6 C6 b6 b7 b8
        have HF : Hid ((names.findIdx? fun n => capL n == capL (word3 t s.p)) = find3 names (word3 t s.p)) := rfl
        rw [HF.out]
        cases hf : find3 names (word3 t s.p) with
        | none =>
          have V := HV.out
          rw [hf] at V
          have V' := Lib.hid V
          clear V HV HF hf
          simp only [idxOr]
          have c1 := S7.out.c1
          go_wp2_with fail
          refine (fail_any b t s s.p 3 w7 S7.out).mono ?_; rintro e w8 ⟨rfl, S8, b8⟩
          have S8' := Lib.hid S8; clear S8 c1
          go_wp2_with fail
          go_ret
          exact ⟨by rw [V'.out.2]; rfl, by rw [V'.out.1]; exact S8'.out, (But.of_below b9).trans b8⟩
        | some i =>
          have V := HV.out
          rw [hf] at V
          have V' := Lib.hid V
          clear V HV HF hf
          simp only [idxOr]
          have c1 := S7.out.c1
          have f1 := S7.out.free 1
          have S8 := Lib.hid (S7.out.set1 (s.p + 3))
          have hi0 : decide ((i : Int) < 0) = false := by simp
          go_wp2_with fail
          go_ret
          exact ⟨by rw [V'.out.2]; rfl, by rw [V'.out.1]; exact S8.out, (But.of_below b9).setCell _⟩
      · skip
        rw [Flow.callAt_eq]
        simp only [List.getElem?_toArray, List.getElem?_cons_succ, List.getElem?_cons_zero]
        rw [if_pos (by rfl)]
        refine Flow.wp_behind (fun K hK => ?_)
        go_wp2_with fail
        refine hK.out _ _ ⟨(Below.refl _ _).alloc b2.size _, ?_⟩
        clear hK K
        rw [Flow.wpSched_step]
        simp only [Flow.pick]
        refine wpQuiet_nil ?_
        rw [Flow.callAt_eq]
        simp only [List.getElem?_toArray, List.getElem?_cons_succ, List.getElem?_cons_zero]
        rw [if_pos (by rfl)]
        refine Flow.wp_behind (fun K hK => ?_)
        go_wp2_with fail
        rw [HW.out]
        refine (capital_any _ _ hlw).mono ?_; rintro e w4 ⟨rfl, b4⟩
        have z2 := b2.size
        have b24 : Below w1.heap.size w1 w4 := (b2.alloc z2 _).trans (b4.mono (by simp; omega))
        have k4 := Lib.hid (blk_below b4 (blk_new w2 (.cells #[.string ⟨#[]⟩] 9)))
        refine hK.out _ _ ⟨b4.mono (by simp; omega), ?_⟩
        clear hK K
        have d4 : w4.cell? ⟨w2.heap.size, 0, none⟩ = some (.string ⟨#[]⟩) := blk_cell k4.out 0
        have g4 : w4.frozen? ⟨w2.heap.size, 0, none⟩ = false := blk_free k4.out 0
        have X5 := Lib.hid (blk_cell (blk_set k4.out 0 (.string ⟨(capL (word3 t s.p)).toArray⟩)) 0)
        rw [Flow.wpSched_step]
        simp only [Flow.pick]
        refine wpQuiet_nil ?_
        rw [Flow.callAt_eq]
        simp only [List.getElem?_toArray, List.getElem?_cons_succ, List.getElem?_cons_zero]
        rw [if_pos (by rfl)]
        refine Flow.wp_behind (fun K hK => ?_)
        go_wp2_with fail
        refine hK.out _ _ ⟨(Below.refl _ _).setCell z2 _, ?_⟩
        clear hK K
        rw [Flow.wpSched_done]
        simp only [Flow.pick]
        refine wpQuiet_nil ?_
        obtain ⟨wz, hwz⟩ : ∃ wz, wz = w4.setCell ⟨w2.heap.size, 0, none⟩ (.string ⟨(capL (word3 t s.p)).toArray⟩) := ⟨_, rfl⟩
        have b6 : Below w1.heap.size w1 wz := by rw [hwz]; exact b24.setCell z2 _
        have X6 : Hid (wz.cell? ⟨w2.heap.size, 0, none⟩ = some (.string ⟨(capL (word3 t s.p)).toArray⟩)) := by rw [hwz]; exact X5.out
        have S6 := Lib.hid (S1.out.below b6)
        have C6 : Hid (∀ i, i < names.length → wz.cell? ⟨nb, i, none⟩ = some (.string ⟨(names.getD i []).toArray⟩)) := fun i hi => Below.cellv b6 (HC1.out i hi)
        rw [← hwz]
        clear hwz b24 b4 b2 S2 k4 d4 g4 X5 z2
        generalize w2.heap.size = q at *
        go_wp2_with fail
        refine (indexFunc_any names (capL (word3 t s.p)) nb _ wz hnn HN.out C6.out X6.out).mono ?_; rintro e w7 ⟨rfl, b7⟩
        have S7 := Lib.hid (S6.out.below b7)
        have b8 := b6.trans (b7.mono b6.size)
        have b9 := b1.trans (b8.mono b1.size)
        clear S6 X6 C6 b6 b7 b8
        have HF : Hid ((names.findIdx? fun n => capL n == capL (word3 t s.p)) = find3 names (word3 t s.p)) := rfl
        rw [HF.out]
        cases hf : find3 names (word3 t s.p) with
        | none =>
          have V := HV.out
          rw [hf] at V
          have V' := Lib.hid V
          clear V HV HF hf
          simp only [idxOr]
          have c1 := S7.out.c1
          go_wp2_with fail
          refine (fail_any b t s s.p 3 w7 S7.out).mono ?_; rintro e w8 ⟨rfl, S8, b8⟩
          have S8' := Lib.hid S8; clear S8 c1
          go_wp2_with fail
          go_ret
          exact ⟨by rw [V'.out.2]; rfl, by rw [V'.out.1]; exact S8'.out, (But.of_below b9).trans b8⟩
        | some i =>
          have V := HV.out
          rw [hf] at V
          have V' := Lib.hid V
          clear V HV HF hf
          simp only [idxOr]
          have c1 := S7.out.c1
          have f1 := S7.out.free 1
          have S8 := Lib.hid (S7.out.set1 (s.p + 3))
          have hi0 : decide ((i : Int) < 0) = false := by simp
          go_wp2_with fail
          go_ret
          exact ⟨by rw [V'.out.2]; rfl, by rw [V'.out.1]; exact S8.out, (But.of_below b9).setCell _⟩
    · have HV : Hid (nameV t names s = 0 ∧ nameS t names s = failAt s t.length 4) := by
        have h : t.length < s.p + 3 := by omega
        show _ ∧ _
        unfold nameV nameS failAt; simp [h0, h]
      have q1 : decide ((t.length : Int) - (s.p : Int) < 3) = true := by simp; omega
      have q3 : (t.length : Int) - (s.p : Int) < 3 := by omega
      have H0 := Lib.hid h0; clear h0
      go_enter Tryd.func61, Tryd.ntmps61
      go_wp2_with fail
      refine Flow.wp_region_segs Flow.Later Flow.Later.refl Flow.Later.trans [] [0, 1, 2, 3, 4, 5, 6, 7, 8, 9, 10] (by kernel_rfl) (by kernel_rfl) ?_
      have b1 : Below w.heap.size w w.drew := Below.drew (Below.refl _ _)
      clear c2
      generalize w.drew = w1 at *
      have c0 : ∀ t1 : Flow.Cls (Flow.Later w1), t1.val.cell? ⟨b, 0, none⟩ = some (.string ⟨t.toArray⟩) := Flow.cls_cell S1.out.c0
      have c1 : ∀ t1 : Flow.Cls (Flow.Later w1), t1.val.cell? ⟨b, 1, none⟩ = some (.int .i64 s.p) := Flow.cls_cell S1.out.c1
      haveI nonE := Flow.cls_nonempty w1
      rw [Flow.wpSegs_nil]
      simp only [Flow.pick, List.getElem?_toArray, List.getElem?_cons_succ, List.getElem?_cons_zero]
      repeat go_big_quiet_step (fail)
      refine wpQuiet_nil ?_
      clear c0 c1 nonE
      have c0 := S1.out.c0
      go_wp2_with fail
      refine (fail_any b t s t.length 4 w1 S1.out).mono ?_; rintro e w2 ⟨rfl, S2, b2⟩
      have S2' := Lib.hid S2; clear S2 c0
      go_wp2_with fail
      go_ret
      exact ⟨by rw [HV.out.1]; rfl, by rw [HV.out.2]; exact S2'.out, (But.of_below b1).trans b2⟩
  · have HV : Hid (nameV t names s = 0 ∧ nameS t names s = s) := by show _ ∧ _; unfold nameV nameS; simp [h0]
    have hb := ne_b (a := (s.e : Int)) (b := 0) (by omega)
    go_enter Tryd.func61, Tryd.ntmps61
    go_wp2_with fail
    go_ret
    exact ⟨by rw [HV.out.1]; rfl, by rw [HV.out.2]; exact HS.out, But.refl _ _⟩
end Go.Proofs.YtpdncgfkoibacaaDoor
