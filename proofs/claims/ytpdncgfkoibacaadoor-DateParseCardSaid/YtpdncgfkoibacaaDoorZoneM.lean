/- Contract of the scanner's zone. -/
import Derived.Test.YtpdncgfkoibacaaDoorZone
namespace Go.Proofs.YtpdncgfkoibacaaDoor
open Go.RowKit

theorem extract_drop (t : List UInt8) (p : Nat) : (⟨t.toArray⟩ : ByteArray).extract p t.length = ⟨(t.drop p).toArray⟩ := by
  apply ByteArray.ext
  simp [ByteArray.data_extract]
  exact List.take_of_length_le (by simp)

set_option maxRecDepth 100000 in
set_option maxHeartbeats 2000000 in
theorem zoneM_any (b : Nat) (t : List UInt8) (s : St) (w : World) (h : Scn w b t s) (hl : t.length ≤ 1000) (hp : s.p ≤ t.length) :
    Calls Tryd.prog 67 #[.pointer (some ⟨b, 0, none⟩)] w fun e w' => e = .returned (.int .i64 (zoneOf t s)) ∧ Scn w' b t (zoneSt t s) ∧ But b w w' := by
  have c2 := h.c2
  have HS := Lib.hid h; clear h
  by_cases h0 : s.e = 0
  · rw [h0] at c2
    have S1 : Hid (Scn w.drew b t s) := HS.out
    by_cases hpl : s.p = t.length
    · have HV : Hid (zoneOf t s = 0 ∧ zoneSt t s = failAt s s.p 4) := by show _ ∧ _; unfold zoneOf zoneSt failAt; simp [h0, hpl]
      have q1 : ((s.p : Int) == (t.length : Int)) = true := by simp; omega
      have q2 : (s.p == t.length) = true := by simp; omega
      have Q := Lib.hid (And.intro h0 hpl)
      clear h0 hpl
      go_enter Tryd.func67, Tryd.ntmps67
      go_wp2_with fail
      refine Flow.wp_region_segs Flow.Later Flow.Later.refl Flow.Later.trans [] [0, 1, 2, 3, 4, 5, 6, 7, 8, 9] (by kernel_rfl) (by kernel_rfl) ?_
      have b1 : Below w.heap.size w w.drew := Below.drew (Below.refl _ _)
      generalize w.drew = w1 at *
      have c0 : ∀ t1 : Flow.Cls (Flow.Later w1), t1.val.cell? ⟨b, 0, none⟩ = some (.string ⟨t.toArray⟩) := Flow.cls_cell S1.out.c0
      have c1 : ∀ t1 : Flow.Cls (Flow.Later w1), t1.val.cell? ⟨b, 1, none⟩ = some (.int .i64 s.p) := Flow.cls_cell S1.out.c1
      haveI nonE := Flow.cls_nonempty w1
      rw [Flow.wpSegs_nil]
      simp only [Flow.pick, List.getElem?_toArray, List.getElem?_cons_succ, List.getElem?_cons_zero]
      repeat go_big_quiet_step (fail)
      refine wpQuiet_nil ?_
      clear c0 c1 nonE
      have c1 := S1.out.c1
      go_wp2_with fail
      refine (fail_any b t s s.p 4 w1 S1.out).mono ?_; rintro e w2 ⟨rfl, S2, b2⟩
      have S2' := Lib.hid S2; clear S2
      go_wp2_with fail
      go_ret
      exact ⟨by rw [HV.out.1]; rfl, by rw [HV.out.2]; exact S2'.out, (But.of_below b1).trans b2⟩
    · have HV : Hid (zoneOf t s = zoneV (t.drop s.p)) := by show _ = _; unfold zoneOf; rw [if_pos h0, if_neg hpl]
      have HZ : Hid (zoneSt t s = if zoneE (t.drop s.p) = 0 then s else failAt s s.p (zoneE (t.drop s.p))) := by
        show _ = _; unfold zoneSt failAt; rw [if_pos h0, if_neg hpl, if_pos h0]
      have q1 : ((s.p : Int) == (t.length : Int)) = false := by simp; omega
      have q2 : (s.p == t.length) = false := by simp; omega
      have Q := Lib.hid (And.intro h0 hpl)
      clear h0 hpl
      have hld : (t.drop s.p).length ≤ 1000 := by simp; omega
      go_enter Tryd.func67, Tryd.ntmps67
      go_wp2_with fail
      refine Flow.wp_region_segs Flow.Later Flow.Later.refl Flow.Later.trans [] [0, 1, 2, 3, 4, 5, 6, 7, 8, 9] (by kernel_rfl) (by kernel_rfl) ?_
      have b1 : Below w.heap.size w w.drew := Below.drew (Below.refl _ _)
      generalize w.drew = w1 at *
      have c0 : ∀ t1 : Flow.Cls (Flow.Later w1), t1.val.cell? ⟨b, 0, none⟩ = some (.string ⟨t.toArray⟩) := Flow.cls_cell S1.out.c0
      have c1 : ∀ t1 : Flow.Cls (Flow.Later w1), t1.val.cell? ⟨b, 1, none⟩ = some (.int .i64 s.p) := Flow.cls_cell S1.out.c1
      haveI nonE := Flow.cls_nonempty w1
      rw [Flow.wpSegs_nil]
      simp only [Flow.pick, List.getElem?_toArray, List.getElem?_cons_succ, List.getElem?_cons_zero]
      repeat go_big_quiet_step (fail)
      refine wpQuiet_nil ?_
      clear c0 c1 nonE
      go_wp2_with fail
      refine Flow.wp_region_segs Flow.Later Flow.Later.refl Flow.Later.trans [([0, 1, 2, 3, 4, 5, 6, 7, 8], 9)] [10, 11, 12, 13, 14] (by kernel_rfl) (by kernel_rfl) ?_
      have S2 : Hid (Scn w1.drew b t s) := S1.out
      have b2 : Below w.heap.size w w1.drew := Below.drew b1
      clear S1 b1
      generalize w1.drew = w2 at *
      have c0 : ∀ t1 : Flow.Cls (Flow.Later w2), t1.val.cell? ⟨b, 0, none⟩ = some (.string ⟨t.toArray⟩) := Flow.cls_cell S2.out.c0
      have c1 : ∀ t1 : Flow.Cls (Flow.Later w2), t1.val.cell? ⟨b, 1, none⟩ = some (.int .i64 s.p) := Flow.cls_cell S2.out.c1
      haveI nonE := Flow.cls_nonempty w2
      rw [Flow.wpSegs_cons]
      simp only [Flow.pick, List.getElem?_toArray, List.getElem?_cons_succ, List.getElem?_cons_zero]
      repeat go_big_quiet_step (fail)
      refine wpQuiet_nil ?_
      clear c0 c1 nonE
      rw [Flow.callAt_eq]
      simp only [List.getElem?_toArray, List.getElem?_cons_succ, List.getElem?_cons_zero]
      rw [if_pos (by rfl)]
      refine Flow.wp_behind (fun K hK => ?_)
      go_wp2_with fail
      rw [extract_drop]
      refine (zone_any _ _ hld).mono ?_; rintro e w3 ⟨rfl, b3⟩
      refine hK.out _ _ ⟨b3, ?_⟩
      clear hK K
      have S3 := Lib.hid (S2.out.below b3)
      have b3' := b2.trans (b3.mono b2.size)
      clear S2 b2 b3
      clear w2
      generalize hzv : zoneV (t.drop s.p) = ZV at *
      generalize hze : zoneE (t.drop s.p) = ZE at *
      clear hzv hze
      haveI nonE := Flow.cls_nonempty w3
      rw [Flow.wpSegs_nil]
      simp only [Flow.pick, List.getElem?_toArray, List.getElem?_cons_succ, List.getElem?_cons_zero]
      repeat go_big_quiet_step (fail)
      refine wpQuiet_nil ?_
      clear nonE
      by_cases hz0 : ZE = 0
      · have n1 : ((ZE : Int) != 0) = false := by simp [hz0]
        have HZ2 : Hid (zoneSt t s = s) := by show _ = _; rw [HZ.out, if_pos hz0]
        clear hz0
        go_wp2_with fail
        go_ret
        exact ⟨by rw [HV.out]; rfl, by rw [HZ2.out]; exact S3.out, But.of_below b3'⟩
      · have n1 : ((ZE : Int) != 0) = true := by simp; omega
        have HZ2 : Hid (zoneSt t s = failAt s s.p ZE) := by show _ = _; rw [HZ.out, if_neg hz0]
        clear hz0
        have c1 := S3.out.c1
        go_wp2_with fail
        refine (fail_any b t s s.p ZE w3 S3.out).mono ?_; rintro e w4 ⟨rfl, S4, b4⟩
        have S4' := Lib.hid S4; clear S4
        clear c1
        go_wp2_with fail
        go_ret
        exact ⟨by rw [HV.out]; rfl, by rw [HZ2.out]; exact S4'.out, (But.of_below b3').trans b4⟩
  · have HV : Hid (zoneOf t s = 0 ∧ zoneSt t s = s) := by show _ ∧ _; unfold zoneOf zoneSt; simp [h0]
    have hb := ne_b (a := (s.e : Int)) (b := 0) (by omega)
    go_enter Tryd.func67, Tryd.ntmps67
    go_wp2_with fail
    go_ret
    exact ⟨by rw [HV.out.1]; rfl, by rw [HV.out.2]; exact HS.out, But.refl _ _⟩
end Go.Proofs.YtpdncgfkoibacaaDoor
