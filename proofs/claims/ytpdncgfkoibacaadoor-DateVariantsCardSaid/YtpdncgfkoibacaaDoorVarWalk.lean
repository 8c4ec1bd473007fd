/- Contracts of blanks and capital of the laws about dates, and the walk of DateVariants. -/
import Derived.Test.YtpdncgfkoibacaaDoorVariant
import Derived.Test.YtpdncgfkoibacaaDoorParseAny
import Derived.Test.YtpdncgfkoibacaaDoorRefFmt
import Derived.Deep.DeepCutAuto
namespace Go.Proofs.YtpdncgfkoibacaaDoor
open Go.RowKit
open Cal

theorem bl4_cells {w : World} {nb : Nat} (h : w.heap[nb]? = some (.cells #[.string ⟨#[32]⟩, .string ⟨#[32, 32]⟩, .string ⟨#[9]⟩, .string ⟨#[32, 9, 32]⟩] 9 (0, 0))) (g : Nat) :
    w.cell? ⟨nb, g % 4, none⟩ = some (.string ⟨(bl4 g).toArray⟩) := by
  rw [blk_cell h]
  have : g % 4 = 0 ∨ g % 4 = 1 ∨ g % 4 = 2 ∨ g % 4 = 3 := by omega
  unfold bl4
  rcases this with e | e | e | e <;> simp [e]

set_option maxRecDepth 100000 in
set_option maxHeartbeats 1000000 in
theorem lawBlanks_any (g : Nat) (hg : g < 256) (w : World) : Calls Tryd.prog 26 #[.int .u8 g] w fun e w' => e = .returned (.string ⟨(bl4 g).toArray⟩) ∧ Below w.heap.size w w' := by
  have hc := bl4_cells (blk_new w (.cells #[.string ⟨#[32]⟩, .string ⟨#[32, 32]⟩, .string ⟨#[9]⟩, .string ⟨#[32, 9, 32]⟩] 9)) g
  have h0 : (0 : Int) ≤ (g : Int) % 4 := by omega
  have h1 : (g : Int) % 4 < 4 := by omega
  have h2 : ((g : Int) % 4).toNat = g % 4 := by omega
  go_enter Tryd.func26, Tryd.ntmps26
  go_wp2_with fail
  go_ret
  exact ⟨rfl, (Below.refl _ _).alloc (Nat.le_refl _) _⟩

theorem lawBlanks_q (q : Nat) (x : Int) (hx : x = (q : Int)) (hq : q < 256) (w : World) : Calls Tryd.prog 26 #[.int .u8 x] w fun e w' => e = .returned (.string ⟨(bl4 q).toArray⟩) ∧ Below w.heap.size w w' := by
  subst hx; exact lawBlanks_any q hq w

theorem cpt_snoc (u : Bool) (l : List UInt8) (k : Nat) (h : k < l.length) : cpt u (l.take (k + 1)) = cpt u (l.take k) ++ cpt u [l.getD k 0] := by
  rw [← cpt_app]
  congr 1
  rw [List.take_succ_eq_append_getElem h]
  simp [h]
theorem cpt_cap (c : UInt8) : cpt true [c] = [cap c] := rfl
theorem cpt_low (c : UInt8) : cpt false [c] = [low c] := rfl

set_option maxRecDepth 100000 in
set_option maxHeartbeats 2000000 in
theorem lawCapital_any (l : List UInt8) (u : Bool) (w : World) (hl : l.length ≤ 1000) :
    Calls Tryd.prog 28 #[.string ⟨l.toArray⟩, .bool u] w fun e w' => e = .returned (.string ⟨(cpt u l).toArray⟩) ∧ Below w.heap.size w w' := by
  cases u
  all_goals
    go_enter Tryd.func28, Tryd.ntmps28
    go_wp2
  · go_loopw [5, 6] (fun s i wr => ∃ k : Nat, k ≤ l.length ∧ i = .int .i64 k ∧ s = .string ⟨(cpt false (l.take k)).toArray⟩ ∧ Below w.heap.size w wr) (fun _ i _ => l.length - (intOf i).toNat)
    case atStart => exact ⟨0, by omega, rfl, rfl, Below.refl _ _⟩
    case round =>
      obtain ⟨k, hk, rfl, rfl, hB⟩ := hrel
      have hlen : (cpt false (l.take k)).length ≤ 1000 := by rw [cpt_len]; simp; omega
      by_cases hlt : k < l.length
      · have hsn := cpt_snoc false l k hlt
        have bg := bget (t := l) (p := k) (show k < l.toArray.size by simpa using hlt) hlt
        unfold at0 at bg
        obtain ⟨c, hc⟩ : ∃ c, l.getD k 0 = c := ⟨_, rfl⟩
        rw [hc] at hsn bg
        clear hc
        rw [cpt_low] at hsn
        have HS := Lib.hid hsn; clear hsn
        have hb := c.toNat_lt
        have hlo := low_nat c
        by_cases h1 : 65 ≤ c.toNat ∧ c.toNat ≤ 90
        · rw [if_pos h1] at hlo
          have hcv := conv_one wr ((c.toNat : Int) + 32) (by omega) (by omega)
          have e1 : UInt8.ofNat ((c.toNat : Int) + 32).toNat = low c := by
            rw [← UInt8.toNat_inj, hlo, UInt8.toNat_ofNat']; omega
          rw [e1] at hcv
          clear hlo e1
          have h2 : (65 : Int) ≤ (c.toNat : Int) := by omega
          have h3 : (c.toNat : Int) ≤ 90 := by omega
          clear h1
          go_wp2_with fail
          go_roundw
          case rel => exact ⟨k + 1, by omega, by go_num, by rw [HS.out]; exact str_congr (bcat _ [low c]), hB.alloc hB.size _⟩
          case measure => simp [intOf]; omega
        · rw [if_neg h1] at hlo
          have hcv := conv_one wr (c.toNat : Int) (by omega) (by omega)
          have e1 : UInt8.ofNat (c.toNat : Int).toNat = low c := by
            rw [← UInt8.toNat_inj, hlo, UInt8.toNat_ofNat']; omega
          rw [e1] at hcv
          clear hlo e1
          have h2 : (c.toNat : Int) < 65 ∨ ((65 : Int) ≤ (c.toNat : Int) ∧ (90 : Int) < (c.toNat : Int)) := by omega
          clear h1
          rcases h2 with h2 | ⟨h2, h3⟩
          all_goals
            go_wp2_with fail
            go_roundw
            case rel => exact ⟨k + 1, by omega, by go_num, by rw [HS.out]; exact str_congr (bcat _ [low c]), hB.alloc hB.size _⟩
            case measure => simp [intOf]; omega
      · obtain rfl : k = l.length := by omega
        rw [List.take_length] at hlen ⊢
        go_wp2_with fail
        go_ret
        exact ⟨rfl, hB⟩
  · go_loopw [5, 6] (fun s i wr => ∃ k : Nat, k ≤ l.length ∧ i = .int .i64 k ∧ s = .string ⟨(cpt true (l.take k)).toArray⟩ ∧ Below w.heap.size w wr) (fun _ i _ => l.length - (intOf i).toNat)
    case atStart => exact ⟨0, by omega, rfl, rfl, Below.refl _ _⟩
    case round =>
      obtain ⟨k, hk, rfl, rfl, hB⟩ := hrel
      have hlen : (cpt true (l.take k)).length ≤ 1000 := by rw [cpt_len]; simp; omega
      by_cases hlt : k < l.length
      · have hsn := cpt_snoc true l k hlt
        have bg := bget (t := l) (p := k) (show k < l.toArray.size by simpa using hlt) hlt
        unfold at0 at bg
        obtain ⟨c, hc⟩ : ∃ c, l.getD k 0 = c := ⟨_, rfl⟩
        rw [hc] at hsn bg
        clear hc
        rw [cpt_cap] at hsn
        have HS := Lib.hid hsn; clear hsn
        have hb := c.toNat_lt
        have hlo := cap_nat c
        by_cases h1 : 97 ≤ c.toNat ∧ c.toNat ≤ 122
        · rw [if_pos h1] at hlo
          have hcv := conv_one wr ((c.toNat : Int) - 32) (by omega) (by omega)
          have e1 : UInt8.ofNat ((c.toNat : Int) - 32).toNat = cap c := by
            rw [← UInt8.toNat_inj, hlo, UInt8.toNat_ofNat']; omega
          rw [e1] at hcv
          clear hlo e1
          have h2 : (97 : Int) ≤ (c.toNat : Int) := by omega
          have h3 : (c.toNat : Int) ≤ 122 := by omega
          clear h1
          go_wp2_with fail
          go_roundw
          case rel => exact ⟨k + 1, by omega, by go_num, by rw [HS.out]; exact str_congr (bcat _ [cap c]), hB.alloc hB.size _⟩
          case measure => simp [intOf]; omega
        · rw [if_neg h1] at hlo
          have hcv := conv_one wr (c.toNat : Int) (by omega) (by omega)
          have e1 : UInt8.ofNat (c.toNat : Int).toNat = cap c := by
            rw [← UInt8.toNat_inj, hlo, UInt8.toNat_ofNat']; omega
          rw [e1] at hcv
          clear hlo e1
          have h2 : (c.toNat : Int) < 97 ∨ ((97 : Int) ≤ (c.toNat : Int) ∧ (122 : Int) < (c.toNat : Int)) := by omega
          clear h1
          rcases h2 with h2 | ⟨h2, h3⟩
          all_goals
            go_wp2_with fail
            go_roundw
            case rel => exact ⟨k + 1, by omega, by go_num, by rw [HS.out]; exact str_congr (bcat _ [cap c]), hB.alloc hB.size _⟩
            case measure => simp [intOf]; omega
      · obtain rfl : k = l.length := by omega
        rw [List.take_length] at hlen ⊢
        go_wp2_with fail
        go_ret
        exact ⟨rfl, hB⟩

set_option maxRecDepth 100000 in
set_option maxHeartbeats 1000000 in
theorem dateVariants_none (m off : Int) (g s : Int) (wk sh u : Bool) (w : World) (ht : Tab w) (hz : zok m off = false) :
    Calls Tryd.prog 8 #[.int .i64 m, .int .i64 off, .int .u8 g, .int .u8 s, .bool wk, .bool sh, .bool u] w fun e w' => e = .returned (.bool true) ∧ Below w.heap.size w w' := by
  have HT := Lib.hid ht; clear ht
  have HZ := Lib.hid hz; clear hz
  go_enter Tryd.func8, Tryd.ntmps8
  go_wp2_with fail
  refine (known_any _ HT.out).mono ?_; rintro e w1 ⟨rfl, b1⟩
  go_wp2_with fail
  refine (refFormatZone_no _ _ _ HZ.out).mono ?_; rintro e w2 ⟨rfl, rfl⟩
  go_wp2_with fail
  go_ret
  exact ⟨rfl, b1⟩

set_option maxRecDepth 100000 in
set_option maxHeartbeats 4000000 in
theorem dateVariants_some (m off : Int) (g s : Nat) (wk sh u : Bool) (F : List UInt8) (w : World) (ht : Tab w) (hz : zok m off = true) (hg : g < 256) (hs : s < 256) (hF : fmtText (m + off) off = F) (hl : F.length = 28)
    (hp : parseF (vT F g s wk sh u) = (m, 0, 0)) (hv : (vT F g s wk sh u).length ≤ 64) :
    Calls Tryd.prog 8 #[.int .i64 m, .int .i64 off, .int .u8 g, .int .u8 s, .bool wk, .bool sh, .bool u] w fun e w' => e = .returned (.bool true) ∧ Below w.heap.size w w' := by
  have HT := Lib.hid ht; clear ht
  have HZ := Lib.hid hz; clear hz
  have HF := Lib.hid hF; clear hF
  have HP := Lib.hid hp; clear hp
  have HV := Lib.hid hv; clear hv
  have l1 : 28 ≤ F.length := by omega
  have l2 : F.length ≤ 28 := by omega
  clear hl
  have em : (m == m) = true := by simp
  go_enter Tryd.func8, Tryd.ntmps8
  go_wp2_with fail
  refine (known_any _ HT.out).mono ?_; rintro e w1 ⟨rfl, b1⟩
  go_wp2_with fail
  refine (refFormatZone_yes _ _ _ HZ.out).mono ?_; rintro e w2 ⟨rfl, b2⟩
  rw [HF.out]
  have c2 := b1.trans (b2.mono b1.size); clear b1 b2
  go_upto_if 31 with fail
  go_cut [17] (fun s17 wx => s17 = .string ⟨(vW F g wk).toArray⟩ ∧ Below w.heap.size w wx)
  case first =>
    cases wk
    · go_wp2_with fail
      go_meet
      exact ⟨rfl, c2⟩
    · go_wp2_with fail
      refine Flow.wp_region_segs Flow.Later Flow.Later.refl Flow.Later.trans [([0, 1, 2], 3)] [4, 5] (by kernel_rfl) (by kernel_rfl) ?_
      have cD := Below.drew c2
      generalize hwd : World.drew _ = wd at *
      clear hwd
      haveI nonE := Flow.cls_nonempty wd
      rw [Flow.wpSegs_cons]
      simp only [Flow.pick, List.getElem?_toArray, List.getElem?_cons_succ, List.getElem?_cons_zero]
      repeat go_big_quiet_step (fail)
      refine wpQuiet_nil ?_
      clear nonE
      rw [Flow.callAt_eq]
      simp only [List.getElem?_toArray, List.getElem?_cons_succ, List.getElem?_cons_zero]
      rw [if_pos (by rfl)]
      refine Flow.wp_behind (fun K hK => ?_)
      go_wp2_with fail
      refine (lawBlanks_any g hg _).mono ?_; rintro e wa ⟨rfl, bwa⟩
      have cwa := cD.trans (bwa.mono cD.size)
      refine hK.out _ _ ⟨bwa, ?_⟩
      clear hK K bwa cD
      have q0 := bl4_len g
      generalize hB0 : bl4 g = B0 at *
      have HB0 := Lib.hid hB0; clear hB0
      haveI nonE := Flow.cls_nonempty wa
      rw [Flow.wpSegs_nil]
      simp only [Flow.pick, List.getElem?_toArray, List.getElem?_cons_succ, List.getElem?_cons_zero]
      repeat go_big_quiet_step (fail)
      refine wpQuiet_nil ?_
      clear nonE
      go_wp2_with fail
      go_meet
      exact ⟨str_congr (by rw [← HB0.out, extract_take, bcat]; rfl), cwa⟩
  obtain ⟨rfl, c3⟩ := hcut
  have x0 : (vW F g wk).length ≤ 7 := by have := bl4_len g; unfold vW; split <;> simp; omega
  have bg := bget (t := F) (p := 5) (show 5 < F.toArray.size by simpa using Nat.lt_of_lt_of_le (show 5 < 28 by decide) l1) (Nat.lt_of_lt_of_le (show 5 < 28 by decide) l1)
  obtain ⟨c, hc⟩ : ∃ c, at0 F 5 = c := ⟨_, rfl⟩
  rw [hc] at bg
  have HCC := Lib.hid hc; clear hc
  go_upto_region 9 with fail
  go_cut [43] (fun s43 wx => s43 = .bool (!sh || c != 48) ∧ Below w.heap.size w wx)
  case first =>
    cases sh
    · go_wp2_with fail
      go_meet
      exact ⟨rfl, c3⟩
    · have hq : (c != 48) = ((c.toNat : Int) != 48) := by
        rw [Bool.eq_iff_iff]; simp [← UInt8.toNat_inj]; omega
      have HQ := Lib.hid hq; clear hq
      go_wp2_with fail
      go_meet
      exact ⟨congrArg Value.bool (by rw [HQ.out]; simp), c3⟩
  clear c3
  obtain ⟨rfl, c3⟩ := hcut
  clear bg
  go_upto_if 43 with fail
  go_cut [17] (fun s17 wx => s17 = .string ⟨(vW F g wk ++ vD F sh).toArray⟩ ∧ Below w.heap.size w wx)
  case first =>
    cases hcond : (!sh || c != 48) with
    | true =>
      have HV2 : Hid (vD F sh = (F.drop 5).take 1) := by show _ = _; unfold vD; rw [HCC.out, hcond]; rfl
      clear hcond
      go_wp2_with fail
      go_meet
      exact ⟨str_congr (by rw [HV2.out, extract_take, bcat]), c3⟩
    | false =>
      have HV2 : Hid (vD F sh = []) := by show _ = _; unfold vD; rw [HCC.out, hcond]; rfl
      clear hcond
      go_wp2_with fail
      go_meet
      exact ⟨by rw [HV2.out, List.append_nil], c3⟩
  clear c3
  obtain ⟨rfl, c4⟩ := hcut
  have x1 : (vW F g wk ++ vD F sh).length ≤ 8 := by
    have : (vD F sh).length ≤ 1 := by unfold vD; split <;> simp; omega
    rw [List.length_append]; omega
  generalize hX : vW F g wk ++ vD F sh = X at *
  have HX := Lib.hid hX; clear hX x0
  go_wp2_with fail
  refine Flow.wp_region_segs Flow.Later Flow.Later.refl Flow.Later.trans [([0, 1, 2, 3, 4, 7, 8, 10, 11, 14, 15, 17, 18, 21, 22], 5), ([6, 9], 12), ([13, 16], 19)] [20, 23, 24] (by kernel_rfl) (by kernel_rfl) ?_
  have cD := Below.drew c4
  generalize hwd : World.drew _ = wd at *
  clear hwd
  haveI nonE := Flow.cls_nonempty wd
  rw [Flow.wpSegs_cons]
  simp only [Flow.pick, List.getElem?_toArray, List.getElem?_cons_succ, List.getElem?_cons_zero]
  repeat go_big_quiet_step (fail)
  refine wpQuiet_nil ?_
  clear nonE
  rw [Flow.callAt_eq]
  simp only [List.getElem?_toArray, List.getElem?_cons_succ, List.getElem?_cons_zero]
  rw [if_pos (by rfl)]
  refine Flow.wp_behind (fun K hK => ?_)
  go_wp2_with fail
  refine (lawBlanks_any g hg _).mono ?_; rintro e wa ⟨rfl, bwa⟩
  have cwa := cD.trans (bwa.mono cD.size)
  refine hK.out _ _ ⟨bwa, ?_⟩
  clear hK K bwa cD
  have q0 := bl4_len g
  generalize hB0 : bl4 g = B0 at *
  have HB0 := Lib.hid hB0; clear hB0
  haveI nonE := Flow.cls_nonempty wa
  rw [Flow.wpSegs_cons]
  simp only [Flow.pick, List.getElem?_toArray, List.getElem?_cons_succ, List.getElem?_cons_zero]
  repeat go_big_quiet_step (fail)
  refine wpQuiet_nil ?_
  clear nonE
  rw [Flow.callAt_eq]
  simp only [List.getElem?_toArray, List.getElem?_cons_succ, List.getElem?_cons_zero]
  rw [if_pos (by rfl)]
  refine Flow.wp_behind (fun K hK => ?_)
  go_wp2_with fail
  refine (lawBlanks_q (g / 4) _ (by omega) (by omega) _).mono ?_; rintro e wb ⟨rfl, bwb⟩
  have cwb := cwa.trans (bwb.mono cwa.size)
  refine hK.out _ _ ⟨bwb, ?_⟩
  clear hK K bwb cwa
  have q1 := bl4_len (g / 4)
  generalize hB1 : bl4 (g / 4) = B1 at *
  have HB1 := Lib.hid hB1; clear hB1
  haveI nonE := Flow.cls_nonempty wb
  rw [Flow.wpSegs_cons]
  simp only [Flow.pick, List.getElem?_toArray, List.getElem?_cons_succ, List.getElem?_cons_zero]
  repeat go_big_quiet_step (fail)
  refine wpQuiet_nil ?_
  clear nonE
  rw [Flow.callAt_eq]
  simp only [List.getElem?_toArray, List.getElem?_cons_succ, List.getElem?_cons_zero]
  rw [if_pos (by rfl)]
  refine Flow.wp_behind (fun K hK => ?_)
  go_wp2_with fail
  refine (lawBlanks_q (g / 16) _ (by omega) (by omega) _).mono ?_; rintro e wc ⟨rfl, bwc⟩
  have cwc := cwb.trans (bwc.mono cwb.size)
  refine hK.out _ _ ⟨bwc, ?_⟩
  clear hK K bwc cwb
  have q2 := bl4_len (g / 16)
  generalize hB2 : bl4 (g / 16) = B2 at *
  have HB2 := Lib.hid hB2; clear hB2
  haveI nonE := Flow.cls_nonempty wc
  rw [Flow.wpSegs_nil]
  simp only [Flow.pick, List.getElem?_toArray, List.getElem?_cons_succ, List.getElem?_cons_zero]
  repeat go_big_quiet_step (fail)
  refine wpQuiet_nil ?_
  clear nonE
  go_upto_if 73 with fail
  go_cut [17] (fun s17 wx => s17 = .string ⟨(X ++ vM F g ++ vS s).toArray⟩ ∧ Below w.heap.size w wx)
  case first =>
    have HM : Hid (X ++ vM F g = X ++ (F.drop 6).take 1 ++ B0 ++ (F.drop 8).take 3 ++ B1 ++ (F.drop 12).take 4 ++ B2 ++ (F.drop 17).take 5) := by
      show _ = _; unfold vM; rw [HB0.out, HB1.out, HB2.out]; simp only [List.append_assoc]
    by_cases h61 : s < 61
    · have h61' : (s : Int) < 61 := by omega
      have HV3 : Hid (vS s = 58 :: digs 2 s) := by show _ = _; unfold vS; rw [if_pos h61]
      go_wp2_with fail
      refine (refDigits_any s 2 _ (by omega) (by omega) (by omega)).mono ?_; rintro e w9 ⟨rfl, b9⟩
      have c9 := cwc.trans (b9.mono cwc.size)
      have l9 := digs_length 2 (s : Int)
      go_wp2_with fail
      go_meet
      exact ⟨str_congr (by rw [HM.out, HV3.out]; simp only [extract_take, bcat]; congr 2; simp), c9⟩
    · have h61' : (61 : Int) ≤ (s : Int) := by omega
      have HV3 : Hid (vS s = []) := by show _ = _; unfold vS; rw [if_neg h61]
      go_wp2_with fail
      go_meet
      exact ⟨str_congr (by rw [HM.out, HV3.out]; simp only [extract_take, bcat]; congr 2; simp), cwc⟩
  clear cwc q0 q1 q2
  obtain ⟨rfl, c6⟩ := hcut
  have HT2 : Hid (vT F g s wk sh u = cpt u (X ++ vM F g ++ vS s ++ bl4 (g / 64) ++ F.drop 23)) := by show _ = _; unfold vT; rw [HX.out]
  have y1 : (X ++ vM F g ++ vS s).length ≤ 60 := by
    have := bl4_len g; have := bl4_len (g / 4); have := bl4_len (g / 16)
    have : (vS s).length ≤ 3 := by unfold vS; split <;> simp [digs_length]
    unfold vM
    simp only [List.length_append, List.length_take, List.length_drop]
    omega
  generalize hY : X ++ vM F g ++ vS s = Y at *
  clear hY
  go_wp2_with fail
  refine Flow.wp_region_segs Flow.Later Flow.Later.refl Flow.Later.trans [([0, 1, 2, 5, 6, 8], 3), ([4, 7], 9)] [10] (by kernel_rfl) (by kernel_rfl) ?_
  have cD := Below.drew c6
  generalize hwd : World.drew _ = wd at *
  clear hwd
  haveI nonE := Flow.cls_nonempty wd
  rw [Flow.wpSegs_cons]
  simp only [Flow.pick, List.getElem?_toArray, List.getElem?_cons_succ, List.getElem?_cons_zero]
  repeat go_big_quiet_step (fail)
  refine wpQuiet_nil ?_
  clear nonE
  rw [Flow.callAt_eq]
  simp only [List.getElem?_toArray, List.getElem?_cons_succ, List.getElem?_cons_zero]
  rw [if_pos (by rfl)]
  refine Flow.wp_behind (fun K hK => ?_)
  go_wp2_with fail
  refine (lawBlanks_q (g / 64) _ (by omega) (by omega) _).mono ?_; rintro e wa ⟨rfl, bwa⟩
  have cwa := cD.trans (bwa.mono cD.size)
  refine hK.out _ _ ⟨bwa, ?_⟩
  clear hK K bwa cD
  have q3 := bl4_len (g / 64)
  generalize hB3 : bl4 (g / 64) = B3 at *
  have HB3 := Lib.hid hB3; clear hB3
  haveI nonE := Flow.cls_nonempty wa
  rw [Flow.wpSegs_cons]
  simp only [Flow.pick, List.getElem?_toArray, List.getElem?_cons_succ, List.getElem?_cons_zero]
  repeat go_big_quiet_step (fail)
  refine wpQuiet_nil ?_
  clear nonE
  rw [Flow.callAt_eq]
  simp only [List.getElem?_toArray, List.getElem?_cons_succ, List.getElem?_cons_zero]
  rw [if_pos (by rfl)]
  refine Flow.wp_behind (fun K hK => ?_)
  go_wp2_with fail
  refine (lawCapital_any _ u _ (by simp; omega)).mono ?_; rintro e wb ⟨rfl, bwb⟩
  have cwb := cwa.trans (bwb.mono cwa.size)
  refine hK.out _ _ ⟨bwb, ?_⟩
  clear hK K bwb cwa
  haveI nonE := Flow.cls_nonempty wb
  rw [Flow.wpSegs_nil]
  simp only [Flow.pick, List.getElem?_toArray, List.getElem?_cons_succ, List.getElem?_cons_zero]
  repeat go_big_quiet_step (fail)
  refine wpQuiet_nil ?_
  clear nonE
  go_wp2_with fail
  have HE : cpt u (Y ++ (B3 ++ List.take (F.length - 23) (List.drop 23 F))) = vT F g s wk sh u := by
    rw [HT2.out, List.take_of_length_le (by simp)]; simp only [List.append_assoc]
  rw [HE]
  have hv := HV.out
  have pa := parse_any (vT F g s wk sh u) wb (by omega)
  rw [HP.out] at pa
  refine pa.mono ?_; rintro e w7 ⟨rfl, b7⟩
  have c7 := cwb.trans (b7.mono cwb.size)
  clear pa hv HE
  go_wp2_with fail
  go_ret
  exact ⟨rfl, c7⟩

theorem dateVariants_walk (m : Int) (_wm : (Lit.int .i64 m).wf = true) (off : Int) (_wo : (Lit.int .i64 off).wf = true) (g : Int) (wg : (Lit.int .u8 g).wf = true) (s : Int) (ws : (Lit.int .u8 s).wf = true) (wk sh u : Bool) (w : World) (ht : Tab w) :
    Calls Tryd.prog 8 #[.int .i64 m, .int .i64 off, .int .u8 g, .int .u8 s, .bool wk, .bool sh, .bool u] w fun e w' => e = .returned (.bool true) ∧ Below w.heap.size w w' := by
  have g1 : 0 ≤ g ∧ g < 256 := by simp [Lit.wf, IntKind.min, IntKind.max, IntKind.signed, IntKind.bits] at wg; omega
  have s1 : 0 ≤ s ∧ s < 256 := by simp [Lit.wf, IntKind.min, IntKind.max, IntKind.signed, IntKind.bits] at ws; omega
  obtain ⟨g', rfl⟩ : ∃ n : Nat, g = n := ⟨g.toNat, by omega⟩
  obtain ⟨s', rfl⟩ : ∃ n : Nat, s = n := ⟨s.toNat, by omega⟩
  cases hz : zok m off with
  | false => exact dateVariants_none m off g' s' wk sh u w ht hz
  | true =>
    obtain ⟨v, o0, o1, s0, s1'⟩ := zok_true hz
    have hp := variant_parse g' s' wk sh u v.1 v.2 o0 o1 s0 s1'
    exact dateVariants_some m off g' s' wk sh u _ w ht hz (by omega) (by omega) rfl (fmtText_len s0 s1') hp.1 hp.2
end Go.Proofs.YtpdncgfkoibacaaDoor
