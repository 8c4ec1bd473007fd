/- The walk of the statement StatsOrder. -/
import Derived.Test.YthgefcoaaommkaaGreatDoorZj
import Derived.Test.YthgefcoaaommkaaGreatDoorZe
namespace Go.Proofs.YthgefcoaaommkaaGreatDoor
open Go.RowKit Go.Gn Go.Sr Go.Maps

set_option maxRecDepth 100000 in
set_option maxHeartbeats 16000000 in
theorem statsOrder_walk (A : Option Addr) (c : Nat) (ms : List EvM) (tn : Int) (htn : (Lit.int .u8 tn).wf = true) (w : World) (h : RdE w A ms) (hlc : ms.length ≤ c) (hc : c ≤ maxLen) (hL : ∀ m ∈ ms, LenM m) (hE : Env w) (hT : Tab w) :
    Calls Tryz.prog 5 #[.slice A ms.length c, .int .u8 tn] w fun e w' => e = .returned (.bool true) ∧ Below w.heap.size w w' := by
  obtain ⟨t, rfl, ht⟩ : ∃ t : Nat, tn = (t : Int) ∧ t < 256 := by
    have h : 0 ≤ tn ∧ tn < 256 := by
      have e1 : IntKind.u8.min = 0 := by decide
      have e2 : IntKind.u8.max = 255 := by decide
      simp [Lit.wf, e1, e2] at htn
      omega
    exact ⟨tn.toNat, by omega, by omega⟩
  clear htn
  have HT := Lib.hid hT
  have HK := Lib.hid (fun W (hb : Below w.heap.size w W) => known_any W (hE.below hb))
  have HF := Lib.hid (fun W (hb : Below w.heap.size w W) => few_any A c ms W (h.below hb) hL hlc hc)
  have HR := Lib.hid h
  have HE := Lib.hid hE
  obtain ⟨i0, hi, hz0, hz1, hz2⟩ := ev_info
  clear h hE hL hT
  go_enter Tryz.func5, Tryz.ntmps5
  go_wp2_with fail
  refine (HK.out _ (Below.refl _ _)).mono ?_; rintro e w1 ⟨rfl, b1⟩
  have B1 := Lib.hid b1; clear b1
  go_wp2_with fail
  refine (HF.out _ B1.out).mono ?_; rintro e w2 ⟨r, rfl, rfl, hr⟩
  cases r
  case false =>
    clear hr
    go_wp2_with fail
    refine (HK.out _ B1.out).mono ?_; rintro e w3 ⟨rfl, b3⟩
    have B3 := Lib.hid (B1.out.tr b3); clear b3
    go_wp2_with fail
    go_ret
    exact ⟨rfl, B3.out⟩
  obtain ⟨hF, hlen⟩ := hr rfl
  have HFew := Lib.hid hF
  clear hF hr HF
  have hw1 := B1.out.size
  go_upto_block 0 with fail
  go_cut [5] (fun v5 wx => ∃ A2 c2, v5 = .slice A2 ms.length c2 ∧ Hid (wx.ownsRow w.heap.size 51 20 (.slice A2 ms.length c2) ms.length ((turned ms t).flatMap evL)) ∧ Hid (Below w.heap.size w wx))
  case first =>
    go_wp2_with fail
    go_loopg [5, 6] ms.length (fun gg sv kv wr => ∃ k : Nat, k ≤ ms.length ∧ ms.length - k ≤ gg ∧ kv = i64 k ∧ Hid (wr.ownsRow w.heap.size 51 20 sv k ((turnU ms t k).flatMap evL)) ∧ Hid (Below w.heap.size w wr))
    case atStart => exact ⟨0, by omega, by omega, rfl, Lib.hid (own2_nil _ _ _ _), B1⟩
    case round =>
      obtain ⟨k, hk, hgk, rfl, O, B⟩ := hrel
      by_cases hlt : k < ms.length
      · have hj : (ms.length - 1 - k + t) % ms.length < ms.length := Nat.mod_lt _ (by omega)
        have hji : (((ms.length : Int) - 1 - k + t).tmod ms.length) = (((ms.length - 1 - k + t) % ms.length : Nat) : Int) := by
          rw [show ((ms.length : Int) - 1 - k + t) = ((ms.length - 1 - k + t : Nat) : Int) by omega]; rfl
        obtain ⟨b, o, m, hA, hbl, hmk, hcell, hgm⟩ := (HR.out.below B.out).at_ hj
        subst hA
        have HU := Lib.hid (turnU_succ hmk)
        generalize (ms.length - 1 - k + t) % ms.length = j at *
        have HC := Lib.hid hcell
        have hwb := B.out.size
        clear hmk hcell hgm
        have BN := below_new wr (.cells (evL m).toArray 51)
        have hX := rdC_new wr (evL m) 51
        have hwb2 := Nat.le_trans hwb BN.size
        have HBN := Lib.hid BN
        have HX := Lib.hid hX
        clear BN hX
        go_wp2_with (first | refine wpList_load_mid rfl 51 _ rfl b (o + j * 20) rfl (evL m) _ HC.out Tryz.underlying51 rfl (by rw [evL_length]; exact ev_size) ?_ | refine wpList_buildEv_g (by rfl) _ rfl m rfl ?_ | (refine wpList_appC Tryz.underlying22 hi hz0 hz1 hz2 rfl (by decide) _ rfl _ _ rfl w.heap.size _ k _ (own_below O.out HBN.out) rfl (some ⟨wr.heap.size, 0, none⟩) 1 1 (evL m) (evL_length m) HX.out rfl (one_evL m) (by omega) (by decide) hwb2 ?_; intro v9 w9 hown hg9 b9))
        have O9 : Hid (w9.ownsRow w.heap.size 51 20 v9 (k + 1) ((turnU ms t (k + 1)).flatMap evL)) := Lib.hid (by
          (show World.ownsRow _ _ _ _ _ _ _)
          rw [HU.out, List.flatMap_append]
          simpa using hown)
        have B9 := Lib.hid ((B.out.tr HBN.out).trans b9)
        clear hown hg9 b9 HBN HX O B HC HU
        go_roundg (ms.length - (k + 1))
        case measure => omega
        case rel => exact ⟨k + 1, by omega, by omega, by go_num, O9, B9⟩
      · obtain rfl : k = ms.length := by omega
        obtain ⟨A9, c9, rfl⟩ := own2_slice O.out
        go_wp2_with fail
        go_meet
        exact ⟨A9, c9, rfl, O, B⟩
  obtain ⟨A2, c2, rfl, O, B⟩ := hcut
  have htp := turned_perm ms t
  have htl := htp.length_eq
  have hle2 := own2_le O.out
  have hca2 := own2_cap O.out
  have hown2 := O.out
  rw [← htl] at hown2
  have HR2 := Lib.hid (RdE.of_own hown2 fun m hm => (HR.out.below B.out).good m (htp.mem_iff.1 hm))
  have HB1 := Lib.hid (build_any A c ms _ (HR.out.below B.out) hlc hc HFew.out (by omega) (HE.out.below B.out))
  have HFew2 := Lib.hid (show ∀ m ∈ turned ms t, FewM m from fun m hm => HFew.out m (htp.mem_iff.1 hm))
  have hpo := (okS_perm htp).map (·.e)
  have HPO := Lib.hid hpo
  have hgl := okS_good (ms := ms)
  have hap : ∀ e ∈ (okS ms).map (·.e), Apart e := fun e he => (hgl e he).apart
  have hau : ∀ e ∈ (okS ms).map (·.e), e.author.length = 16 := fun e he => by
    obtain ⟨m, hm, rfl⟩ := List.mem_map.1 he
    exact (HR.out.good m (List.mem_filter.1 hm).1).au
  have hol := okS_len ms
  have HTO := Lib.hid (textOk_of hgl hau (by rw [List.length_map]; omega))
  have HTO2 := Lib.hid (textOk_of (l := (okS (turned ms t)).map (·.e)) (fun e he => hgl e (hpo.mem_iff.1 he)) (fun e he => hau e (hpo.mem_iff.1 he)) (by rw [hpo.length_eq, List.length_map]; omega))
  have HGD := Lib.hid (fun d => getA_days_perm hpo.symm d)
  have HGN := Lib.hid (fun k => getA_names_perm hap hpo.symm k)
  have HSZ := Lib.hid (sizes_perm hpo.symm)
  have HTP := Lib.hid (textP_perm hap hpo.symm)
  clear htp hown2 hgl hap hau O
  go_wp2_with fail
  refine HB1.out.mono ?_; rintro e w3 ⟨p, bd, bn, A3, c3, rfl, hst, _, _, _, b3, _, _⟩
  have ST := Lib.hid hst
  have B3 := Lib.hid (B.out.tr b3)
  have hb2 := build_any A2 c2 (turned ms t) w3 (HR2.out.below b3) (by omega) hca2 HFew2.out (by omega) (HE.out.below B3.out)
  rw [htl] at hb2
  have HB2 := Lib.hid hb2
  clear hst b3 hb2 HB1 B
  go_wp2_with fail
  refine HB2.out.mono ?_; rintro e w4 ⟨q, be, bm, A4, c4, rfl, hst, _, _, _, b4, _, _⟩
  have SP := Lib.hid (StM.below ST.out b4)
  have SQ0 := hst
  unfold StE at SQ0
  rw [← HSZ.out] at SQ0
  have SQ := Lib.hid SQ0
  have B4 := Lib.hid (B3.out.tr b4)
  clear hst SQ0 b4 HB2 ST B3
  go_wp2_with fail
  refine (equal_true p bd bn q be bm _ _ _ _ _ w4 SP.out SQ.out HGD.out HGN.out).mono ?_; rintro e w5 ⟨rfl, b⟩
  have SP5 := Lib.hid (StM.below SP.out b)
  have SQ5 := Lib.hid (StM.below SQ.out b)
  have B5 := Lib.hid (B4.out.tr b)
  clear b SP SQ B4
  go_wp2_with fail
  refine (equal_true q be bm p bd bn _ _ _ _ _ w5 SQ5.out SP5.out (fun x => (HGD.out x).symm) (fun x => (HGN.out x).symm)).mono ?_; rintro e w6 ⟨rfl, b⟩
  have SP6 := Lib.hid (StM.below SP5.out b)
  have SQ6 := Lib.hid (StM.below SQ5.out b)
  have B6 := Lib.hid (B5.out.tr b)
  clear b SP5 SQ5 B5
  go_wp2_with fail
  refine (HTO.out.any p bd bn w6 SP6.out (HT.out.below B6.out)).mono ?_; rintro e w7 ⟨rfl, b⟩
  have SQ7 := Lib.hid (StM.below SQ6.out b)
  have B7 := Lib.hid (B6.out.tr b)
  clear b SP6 SQ6 B6
  obtain ⟨T, hT⟩ : ∃ T, textP (daysL ((okS ms).map (·.e))) (namesL ((okS ms).map (·.e))) (sizesL ((okS ms).map (·.e))) = T := ⟨_, rfl⟩
  rw [hT]
  have HTe := Lib.hid hT
  clear hT
  have hto2 := HTO2.out.any q be bm w7
  rw [← HTP.out, ← HSZ.out, HTe.out] at hto2
  have HT2 := Lib.hid (hto2 SQ7.out (HT.out.below B7.out))
  clear hto2
  go_wp2_with fail
  refine HT2.out.mono ?_; rintro e w8 ⟨rfl, b⟩
  have B8 := Lib.hid (B7.out.tr b)
  clear b SQ7 B7 HT2
  have htt : (T == T) = true := by simp
  go_wp2_with fail
  go_ret
  exact ⟨by simp, B8.out⟩
end Go.Proofs.YthgefcoaaommkaaGreatDoor
