/- The walk of the statement GroupnameWithin. -/
import Derived.Test.YtcagooijkecmoaaDoorGnLawC
namespace Go.Proofs.YtcagooijkecmoaaDoor
open Go.RowKit Go.Gn

set_option maxRecDepth 100000 in
set_option maxHeartbeats 40000000 in
theorem groupnameWithin_walk (a : List UInt8) (la : a.length ≤ maxLen) (b : List UInt8) (lb : b.length ≤ maxLen) (c : List UInt8) (lc : c.length ≤ maxLen) (w : World) (hE : Env w) :
    Calls Tryd.prog 10 #[enS a, enS b, enS c] w fun e w' => e = .returned (.bool true) ∧ Below w.heap.size w w' := by
  have hk := known_any w hE
  have HS := Lib.hid (short3 a b c la lb lc)
  clear la lb lc
  cases hsh : shortL [a, b, c] with
  | false =>
    rw [hsh] at HS
    clear hsh
    have HK := Lib.hid (fun W (b : Below w.heap.size w W) => known_any W (hE.below b))
    clear hE
    go_enter Tryd.func10, Tryd.ntmps10
    go_wp2_with fail
    refine (hk).mono ?_; rintro e w1 ⟨rfl, b1⟩
    have B1 := Lib.hid (b1)
    clear b1
    go_wp2_with fail
    refine (HS.out w1).mono ?_; rintro e w2 ⟨rfl, rfl⟩
    have B2n := Lib.hid (B1.out.tr (below_new w1 (.cells #[enS a, enS b, enS c] 9)))
    go_wp2_with fail
    refine (HK.out (w1.alloc (.cells #[enS a, enS b, enS c] 9)) B2n.out).mono ?_; rintro e w3 ⟨rfl, b3⟩
    have B3 := Lib.hid (B2n.out.tr b3)
    clear b3
    go_wp2_with fail
    go_ret
    exact ⟨rfl, B3.out⟩
  | true =>
    rw [hsh] at HS
    have la := shortL_at hsh (x := a) (by simp)
    have lb := shortL_at hsh (x := b) (by simp)
    have lc := shortL_at hsh (x := c) (by simp)
    have HE := Lib.hid hE.all
    have HAB := Lib.hid (fun W (hb : Below w.heap.size w W) => within_any a b W (HE.out W hb) (by omega) (by omega))
    have HAA := Lib.hid (fun W (hb : Below w.heap.size w W) => within_any a a W (HE.out W hb) (by omega) (by omega))
    have HBA := Lib.hid (fun W (hb : Below w.heap.size w W) => within_any b a W (HE.out W hb) (by omega) (by omega))
    have HBC := Lib.hid (fun W (hb : Below w.heap.size w W) => within_any b c W (HE.out W hb) (by omega) (by omega))
    have HAC := Lib.hid (fun W (hb : Below w.heap.size w W) => within_any a c W (HE.out W hb) (by omega) (by omega))
    have HRW := Lib.hid (fun W => refWithin_any a b W (by omega) (by omega))
    have HCA := Lib.hid (fun W => refCheck_any a W (by omega))
    have HCB := Lib.hid (fun W => refCheck_any b W (by omega))
    have HCO := Lib.hid (fun W (hb : Below w.heap.size w W) => common_any a b W (HE.out W hb) (by omega) (by omega))
    have L := Lib.hid hsh
    clear hsh hE
    by_cases ha : check a = 0
    · have eaa : within a a = true := within_refl ha
      rw [eaa] at HAA
      rw [ha] at HCA
      clear eaa
      by_cases hb : check b = 0
      · rw [hb] at HCB
        have ebb : commonB a b = decide (0 < same0 (parts 46 a) (parts 46 b)) := by unfold commonB; rw [ha, hb]; rfl
        have ecs : commonS a b = common a b := by
          unfold commonS
          rw [ebb]
          split
          · rfl
          · rename_i h
            have h0 : same0 (parts 46 a) (parts 46 b) = 0 := by simpa using h
            exact ((common_ne ha).2 h0).symm
        have HRC := Lib.hid (fun W => refCommon_any a b W ha hb)
        have lcm : (common a b).length ≤ 1000000000 := by
          have := text_length_take 46 (parts 46 a) (same0 (parts 46 a) (parts 46 b))
          rw [text_parts] at this
          show (text 46 ((parts 46 a).take (same0 (parts 46 a) (parts 46 b)))).length ≤ _
          omega
        have HHC := Lib.hid (fun W (hb : Below w.heap.size w W) => within_any (common a b) c W (HE.out W hb) lcm (by omega))
        have KC : Hid (within a c = true → within b c = true → within (common a b) c = true ∧ common a b ≠ []) := fun h1 h2 => ⟨common_within h1 h2, common_pos h1 h2⟩
        have KT : Hid (within a b = true → within b c = true → within a c = true) := fun h1 h2 => within_trans h1 h2
        have KA : Hid (within a b = true → within b a = true → a = b) := fun h1 h2 => within_anti h1 h2
        have KB : Hid (within a b = true → common a b ≠ []) := fun h1 => common_pos h1 (within_refl hb)
        have hcn := common_ne (b := b) ha
        rw [ebb, ecs] at HCO
        have ed : Hid (decide (0 < same0 (parts 46 a) (parts 46 b)) = decide (common a b ≠ [])) := by
          show decide (0 < same0 (parts 46 a) (parts 46 b)) = decide (common a b ≠ [])
          rw [decide_eq_decide, Ne, hcn]; omega
        rw [ed.out] at HCO
        clear ebb ecs hcn ed lcm la lb lc
        by_cases hm : common a b = []
        · rw [hm] at HCO HRC HHC
          rw [decide_eq_false (fun h => h rfl)] at HCO
          have nab : within a b = false := by
            cases h : within a b with
            | false => rfl
            | true => exact absurd hm (KB.out h)
          rw [nab] at HAB HRW
          cases hac : within a c with
          | false =>
            rw [hac] at HAC
            clear KC KT KA KB hm nab hac
            go_enter Tryd.func10, Tryd.ntmps10
            go_wp2_with fail
            refine (hk).mono ?_; rintro e w1 ⟨rfl, b1⟩
            have B1 := Lib.hid (b1)
            clear b1
            go_wp2_with fail
            refine (HS.out w1).mono ?_; rintro e w2 ⟨rfl, rfl⟩
            have B2n := Lib.hid (B1.out.tr (below_new w1 (.cells #[enS a, enS b, enS c] 9)))
            go_wp2_with fail
            refine (HAB.out (w1.alloc (.cells #[enS a, enS b, enS c] 9)) B2n.out).mono ?_; rintro e w3 ⟨rfl, b3⟩
            have B3 := Lib.hid (B2n.out.tr b3)
            clear b3
            go_wp2_with fail
            refine (HRW.out w3).mono ?_; rintro e w4 ⟨rfl, b4⟩
            have B4 := Lib.hid (B3.out.tr b4)
            clear b4
            go_wp2_with fail
            refine (HAA.out w4 B4.out).mono ?_; rintro e w5 ⟨rfl, b5⟩
            have B5 := Lib.hid (B4.out.tr b5)
            clear b5
            go_wp2_with fail
            refine (HCA.out w5).mono ?_; rintro e w6 ⟨rfl, b6⟩
            have B6 := Lib.hid (B5.out.tr b6)
            clear b6
            go_wp2_with fail
            refine (HAB.out w6 B6.out).mono ?_; rintro e w7 ⟨rfl, b7⟩
            have B7 := Lib.hid (B6.out.tr b7)
            clear b7
            go_wp2_with fail
            refine (HAB.out w7 B7.out).mono ?_; rintro e w8 ⟨rfl, b8⟩
            have B8 := Lib.hid (B7.out.tr b8)
            clear b8
            go_wp2_with fail
            refine (HCO.out w8 B8.out).mono ?_; rintro e w9 ⟨rfl, b9⟩
            have B9 := Lib.hid (B8.out.tr b9)
            clear b9
            go_wp2_with fail
            refine (HCA.out w9).mono ?_; rintro e w10 ⟨rfl, b10⟩
            have B10 := Lib.hid (B9.out.tr b10)
            clear b10
            go_wp2_with fail
            refine (HCB.out w10).mono ?_; rintro e w11 ⟨rfl, b11⟩
            have B11 := Lib.hid (B10.out.tr b11)
            clear b11
            go_wp2_with fail
            refine (HRC.out w11).mono ?_; rintro e w12 ⟨rfl, b12⟩
            have B12 := Lib.hid (B11.out.tr b12)
            clear b12
            go_wp2_with fail
            refine (HAC.out w12 B12.out).mono ?_; rintro e w13 ⟨rfl, b13⟩
            have B13 := Lib.hid (B12.out.tr b13)
            clear b13
            go_wp2_with fail
            go_ret
            exact ⟨rfl, B13.out⟩
          | true =>
            have nbc : within b c = false := by
              cases h : within b c with
              | false => rfl
              | true => exact absurd hm (KC.out hac h).2
            rw [hac] at HAC
            rw [nbc] at HBC
            clear KC KT KA KB hm nab hac nbc
            go_enter Tryd.func10, Tryd.ntmps10
            go_wp2_with fail
            refine (hk).mono ?_; rintro e w1 ⟨rfl, b1⟩
            have B1 := Lib.hid (b1)
            clear b1
            go_wp2_with fail
            refine (HS.out w1).mono ?_; rintro e w2 ⟨rfl, rfl⟩
            have B2n := Lib.hid (B1.out.tr (below_new w1 (.cells #[enS a, enS b, enS c] 9)))
            go_wp2_with fail
            refine (HAB.out (w1.alloc (.cells #[enS a, enS b, enS c] 9)) B2n.out).mono ?_; rintro e w3 ⟨rfl, b3⟩
            have B3 := Lib.hid (B2n.out.tr b3)
            clear b3
            go_wp2_with fail
            refine (HRW.out w3).mono ?_; rintro e w4 ⟨rfl, b4⟩
            have B4 := Lib.hid (B3.out.tr b4)
            clear b4
            go_wp2_with fail
            refine (HAA.out w4 B4.out).mono ?_; rintro e w5 ⟨rfl, b5⟩
            have B5 := Lib.hid (B4.out.tr b5)
            clear b5
            go_wp2_with fail
            refine (HCA.out w5).mono ?_; rintro e w6 ⟨rfl, b6⟩
            have B6 := Lib.hid (B5.out.tr b6)
            clear b6
            go_wp2_with fail
            refine (HAB.out w6 B6.out).mono ?_; rintro e w7 ⟨rfl, b7⟩
            have B7 := Lib.hid (B6.out.tr b7)
            clear b7
            go_wp2_with fail
            refine (HAB.out w7 B7.out).mono ?_; rintro e w8 ⟨rfl, b8⟩
            have B8 := Lib.hid (B7.out.tr b8)
            clear b8
            go_wp2_with fail
            refine (HCO.out w8 B8.out).mono ?_; rintro e w9 ⟨rfl, b9⟩
            have B9 := Lib.hid (B8.out.tr b9)
            clear b9
            go_wp2_with fail
            refine (HCA.out w9).mono ?_; rintro e w10 ⟨rfl, b10⟩
            have B10 := Lib.hid (B9.out.tr b10)
            clear b10
            go_wp2_with fail
            refine (HCB.out w10).mono ?_; rintro e w11 ⟨rfl, b11⟩
            have B11 := Lib.hid (B10.out.tr b11)
            clear b11
            go_wp2_with fail
            refine (HRC.out w11).mono ?_; rintro e w12 ⟨rfl, b12⟩
            have B12 := Lib.hid (B11.out.tr b12)
            clear b12
            go_wp2_with fail
            refine (HAC.out w12 B12.out).mono ?_; rintro e w13 ⟨rfl, b13⟩
            have B13 := Lib.hid (B12.out.tr b13)
            clear b13
            go_wp2_with fail
            refine (HBC.out w13 B13.out).mono ?_; rintro e w14 ⟨rfl, b14⟩
            have B14 := Lib.hid (B13.out.tr b14)
            clear b14
            go_wp2_with fail
            go_ret
            exact ⟨rfl, B14.out⟩
        · rw [decide_eq_true hm] at HCO
          have hne : (!(common a b).isEmpty) = true := by
            generalize common a b = q at *
            cases q with | nil => exact absurd rfl hm | cons _ _ => rfl
          have hne2 : (common a b).isEmpty = false := by
            generalize common a b = q at *
            cases q with | nil => exact absurd rfl hm | cons _ _ => rfl
          have KD : Hid (within a c = true → within b c = true → within (common a b) c = true) := fun h1 h2 => (KC.out h1 h2).1
          clear KB KC hm
          generalize common a b = q at *
          cases hab : within a b with
          | false =>
            rw [hab] at HAB HRW
            cases hac : within a c with
            | false =>
              rw [hac] at HAC
              clear KT KA KD hab hac
              go_enter Tryd.func10, Tryd.ntmps10
              go_wp2_with fail
              refine (hk).mono ?_; rintro e w1 ⟨rfl, b1⟩
              have B1 := Lib.hid (b1)
              clear b1
              go_wp2_with fail
              refine (HS.out w1).mono ?_; rintro e w2 ⟨rfl, rfl⟩
              have B2n := Lib.hid (B1.out.tr (below_new w1 (.cells #[enS a, enS b, enS c] 9)))
              go_wp2_with fail
              refine (HAB.out (w1.alloc (.cells #[enS a, enS b, enS c] 9)) B2n.out).mono ?_; rintro e w3 ⟨rfl, b3⟩
              have B3 := Lib.hid (B2n.out.tr b3)
              clear b3
              go_wp2_with fail
              refine (HRW.out w3).mono ?_; rintro e w4 ⟨rfl, b4⟩
              have B4 := Lib.hid (B3.out.tr b4)
              clear b4
              go_wp2_with fail
              refine (HAA.out w4 B4.out).mono ?_; rintro e w5 ⟨rfl, b5⟩
              have B5 := Lib.hid (B4.out.tr b5)
              clear b5
              go_wp2_with fail
              refine (HCA.out w5).mono ?_; rintro e w6 ⟨rfl, b6⟩
              have B6 := Lib.hid (B5.out.tr b6)
              clear b6
              go_wp2_with fail
              refine (HAB.out w6 B6.out).mono ?_; rintro e w7 ⟨rfl, b7⟩
              have B7 := Lib.hid (B6.out.tr b7)
              clear b7
              go_wp2_with fail
              refine (HAB.out w7 B7.out).mono ?_; rintro e w8 ⟨rfl, b8⟩
              have B8 := Lib.hid (B7.out.tr b8)
              clear b8
              go_wp2_with fail
              refine (HCO.out w8 B8.out).mono ?_; rintro e w9 ⟨rfl, b9⟩
              have B9 := Lib.hid (B8.out.tr b9)
              clear b9
              go_wp2_with fail
              refine (HCA.out w9).mono ?_; rintro e w10 ⟨rfl, b10⟩
              have B10 := Lib.hid (B9.out.tr b10)
              clear b10
              go_wp2_with fail
              refine (HCB.out w10).mono ?_; rintro e w11 ⟨rfl, b11⟩
              have B11 := Lib.hid (B10.out.tr b11)
              clear b11
              go_wp2_with fail
              refine (HRC.out w11).mono ?_; rintro e w12 ⟨rfl, b12⟩
              have B12 := Lib.hid (B11.out.tr b12)
              clear b12
              go_wp2_with fail
              refine (HAC.out w12 B12.out).mono ?_; rintro e w13 ⟨rfl, b13⟩
              have B13 := Lib.hid (B12.out.tr b13)
              clear b13
              go_wp2_with fail
              go_ret
              exact ⟨rfl, B13.out⟩
            | true =>
              rw [hac] at HAC
              cases hbc : within b c with
              | false =>
                rw [hbc] at HBC
                clear KT KA KD hab hac hbc
                go_enter Tryd.func10, Tryd.ntmps10
                go_wp2_with fail
                refine (hk).mono ?_; rintro e w1 ⟨rfl, b1⟩
                have B1 := Lib.hid (b1)
                clear b1
                go_wp2_with fail
                refine (HS.out w1).mono ?_; rintro e w2 ⟨rfl, rfl⟩
                have B2n := Lib.hid (B1.out.tr (below_new w1 (.cells #[enS a, enS b, enS c] 9)))
                go_wp2_with fail
                refine (HAB.out (w1.alloc (.cells #[enS a, enS b, enS c] 9)) B2n.out).mono ?_; rintro e w3 ⟨rfl, b3⟩
                have B3 := Lib.hid (B2n.out.tr b3)
                clear b3
                go_wp2_with fail
                refine (HRW.out w3).mono ?_; rintro e w4 ⟨rfl, b4⟩
                have B4 := Lib.hid (B3.out.tr b4)
                clear b4
                go_wp2_with fail
                refine (HAA.out w4 B4.out).mono ?_; rintro e w5 ⟨rfl, b5⟩
                have B5 := Lib.hid (B4.out.tr b5)
                clear b5
                go_wp2_with fail
                refine (HCA.out w5).mono ?_; rintro e w6 ⟨rfl, b6⟩
                have B6 := Lib.hid (B5.out.tr b6)
                clear b6
                go_wp2_with fail
                refine (HAB.out w6 B6.out).mono ?_; rintro e w7 ⟨rfl, b7⟩
                have B7 := Lib.hid (B6.out.tr b7)
                clear b7
                go_wp2_with fail
                refine (HAB.out w7 B7.out).mono ?_; rintro e w8 ⟨rfl, b8⟩
                have B8 := Lib.hid (B7.out.tr b8)
                clear b8
                go_wp2_with fail
                refine (HCO.out w8 B8.out).mono ?_; rintro e w9 ⟨rfl, b9⟩
                have B9 := Lib.hid (B8.out.tr b9)
                clear b9
                go_wp2_with fail
                refine (HCA.out w9).mono ?_; rintro e w10 ⟨rfl, b10⟩
                have B10 := Lib.hid (B9.out.tr b10)
                clear b10
                go_wp2_with fail
                refine (HCB.out w10).mono ?_; rintro e w11 ⟨rfl, b11⟩
                have B11 := Lib.hid (B10.out.tr b11)
                clear b11
                go_wp2_with fail
                refine (HRC.out w11).mono ?_; rintro e w12 ⟨rfl, b12⟩
                have B12 := Lib.hid (B11.out.tr b12)
                clear b12
                go_wp2_with fail
                refine (HAC.out w12 B12.out).mono ?_; rintro e w13 ⟨rfl, b13⟩
                have B13 := Lib.hid (B12.out.tr b13)
                clear b13
                go_wp2_with fail
                refine (HBC.out w13 B13.out).mono ?_; rintro e w14 ⟨rfl, b14⟩
                have B14 := Lib.hid (B13.out.tr b14)
                clear b14
                go_wp2_with fail
                go_ret
                exact ⟨rfl, B14.out⟩
              | true =>
                rw [hbc] at HBC
                rw [KD.out hac hbc] at HHC
                clear KT KA KD hab hac hbc
                go_enter Tryd.func10, Tryd.ntmps10
                go_wp2_with fail
                refine (hk).mono ?_; rintro e w1 ⟨rfl, b1⟩
                have B1 := Lib.hid (b1)
                clear b1
                go_wp2_with fail
                refine (HS.out w1).mono ?_; rintro e w2 ⟨rfl, rfl⟩
                have B2n := Lib.hid (B1.out.tr (below_new w1 (.cells #[enS a, enS b, enS c] 9)))
                go_wp2_with fail
                refine (HAB.out (w1.alloc (.cells #[enS a, enS b, enS c] 9)) B2n.out).mono ?_; rintro e w3 ⟨rfl, b3⟩
                have B3 := Lib.hid (B2n.out.tr b3)
                clear b3
                go_wp2_with fail
                refine (HRW.out w3).mono ?_; rintro e w4 ⟨rfl, b4⟩
                have B4 := Lib.hid (B3.out.tr b4)
                clear b4
                go_wp2_with fail
                refine (HAA.out w4 B4.out).mono ?_; rintro e w5 ⟨rfl, b5⟩
                have B5 := Lib.hid (B4.out.tr b5)
                clear b5
                go_wp2_with fail
                refine (HCA.out w5).mono ?_; rintro e w6 ⟨rfl, b6⟩
                have B6 := Lib.hid (B5.out.tr b6)
                clear b6
                go_wp2_with fail
                refine (HAB.out w6 B6.out).mono ?_; rintro e w7 ⟨rfl, b7⟩
                have B7 := Lib.hid (B6.out.tr b7)
                clear b7
                go_wp2_with fail
                refine (HAB.out w7 B7.out).mono ?_; rintro e w8 ⟨rfl, b8⟩
                have B8 := Lib.hid (B7.out.tr b8)
                clear b8
                go_wp2_with fail
                refine (HCO.out w8 B8.out).mono ?_; rintro e w9 ⟨rfl, b9⟩
                have B9 := Lib.hid (B8.out.tr b9)
                clear b9
                go_wp2_with fail
                refine (HCA.out w9).mono ?_; rintro e w10 ⟨rfl, b10⟩
                have B10 := Lib.hid (B9.out.tr b10)
                clear b10
                go_wp2_with fail
                refine (HCB.out w10).mono ?_; rintro e w11 ⟨rfl, b11⟩
                have B11 := Lib.hid (B10.out.tr b11)
                clear b11
                go_wp2_with fail
                refine (HRC.out w11).mono ?_; rintro e w12 ⟨rfl, b12⟩
                have B12 := Lib.hid (B11.out.tr b12)
                clear b12
                go_wp2_with fail
                refine (HAC.out w12 B12.out).mono ?_; rintro e w13 ⟨rfl, b13⟩
                have B13 := Lib.hid (B12.out.tr b13)
                clear b13
                go_wp2_with fail
                refine (HBC.out w13 B13.out).mono ?_; rintro e w14 ⟨rfl, b14⟩
                have B14 := Lib.hid (B13.out.tr b14)
                clear b14
                go_wp2_with fail
                refine (HHC.out w14 B14.out).mono ?_; rintro e w15 ⟨rfl, b15⟩
                have B15 := Lib.hid (B14.out.tr b15)
                clear b15
                go_wp2_with fail
                go_ret
                exact ⟨rfl, B15.out⟩
          | true =>
            rw [hab] at HAB HRW
            cases hba : within b a with
            | false =>
              rw [hba] at HBA
              cases hbc : within b c with
              | false =>
                rw [hbc] at HBC
                cases hac : within a c with
                | false =>
                  rw [hac] at HAC
                  clear KT KA KD hab hac hbc hba
                  go_enter Tryd.func10, Tryd.ntmps10
                  go_wp2_with fail
                  refine (hk).mono ?_; rintro e w1 ⟨rfl, b1⟩
                  have B1 := Lib.hid (b1)
                  clear b1
                  go_wp2_with fail
                  refine (HS.out w1).mono ?_; rintro e w2 ⟨rfl, rfl⟩
                  have B2n := Lib.hid (B1.out.tr (below_new w1 (.cells #[enS a, enS b, enS c] 9)))
                  go_wp2_with fail
                  refine (HAB.out (w1.alloc (.cells #[enS a, enS b, enS c] 9)) B2n.out).mono ?_; rintro e w3 ⟨rfl, b3⟩
                  have B3 := Lib.hid (B2n.out.tr b3)
                  clear b3
                  go_wp2_with fail
                  refine (HRW.out w3).mono ?_; rintro e w4 ⟨rfl, b4⟩
                  have B4 := Lib.hid (B3.out.tr b4)
                  clear b4
                  go_wp2_with fail
                  refine (HAA.out w4 B4.out).mono ?_; rintro e w5 ⟨rfl, b5⟩
                  have B5 := Lib.hid (B4.out.tr b5)
                  clear b5
                  go_wp2_with fail
                  refine (HCA.out w5).mono ?_; rintro e w6 ⟨rfl, b6⟩
                  have B6 := Lib.hid (B5.out.tr b6)
                  clear b6
                  go_wp2_with fail
                  refine (HAB.out w6 B6.out).mono ?_; rintro e w7 ⟨rfl, b7⟩
                  have B7 := Lib.hid (B6.out.tr b7)
                  clear b7
                  go_wp2_with fail
                  refine (HBA.out w7 B7.out).mono ?_; rintro e w8 ⟨rfl, b8⟩
                  have B8 := Lib.hid (B7.out.tr b8)
                  clear b8
                  go_wp2_with fail
                  refine (HAB.out w8 B8.out).mono ?_; rintro e w9 ⟨rfl, b9⟩
                  have B9 := Lib.hid (B8.out.tr b9)
                  clear b9
                  go_wp2_with fail
                  refine (HBC.out w9 B9.out).mono ?_; rintro e w10 ⟨rfl, b10⟩
                  have B10 := Lib.hid (B9.out.tr b10)
                  clear b10
                  go_wp2_with fail
                  refine (HCO.out w10 B10.out).mono ?_; rintro e w11 ⟨rfl, b11⟩
                  have B11 := Lib.hid (B10.out.tr b11)
                  clear b11
                  go_wp2_with fail
                  refine (HCA.out w11).mono ?_; rintro e w12 ⟨rfl, b12⟩
                  have B12 := Lib.hid (B11.out.tr b12)
                  clear b12
                  go_wp2_with fail
                  refine (HCB.out w12).mono ?_; rintro e w13 ⟨rfl, b13⟩
                  have B13 := Lib.hid (B12.out.tr b13)
                  clear b13
                  go_wp2_with fail
                  refine (HRC.out w13).mono ?_; rintro e w14 ⟨rfl, b14⟩
                  have B14 := Lib.hid (B13.out.tr b14)
                  clear b14
                  go_wp2_with fail
                  refine (HAC.out w14 B14.out).mono ?_; rintro e w15 ⟨rfl, b15⟩
                  have B15 := Lib.hid (B14.out.tr b15)
                  clear b15
                  go_wp2_with fail
                  go_ret
                  exact ⟨rfl, B15.out⟩
                | true =>
                  rw [hac] at HAC
                  clear KT KA KD hab hac hbc hba
                  go_enter Tryd.func10, Tryd.ntmps10
                  go_wp2_with fail
                  refine (hk).mono ?_; rintro e w1 ⟨rfl, b1⟩
                  have B1 := Lib.hid (b1)
                  clear b1
                  go_wp2_with fail
                  refine (HS.out w1).mono ?_; rintro e w2 ⟨rfl, rfl⟩
                  have B2n := Lib.hid (B1.out.tr (below_new w1 (.cells #[enS a, enS b, enS c] 9)))
                  go_wp2_with fail
                  refine (HAB.out (w1.alloc (.cells #[enS a, enS b, enS c] 9)) B2n.out).mono ?_; rintro e w3 ⟨rfl, b3⟩
                  have B3 := Lib.hid (B2n.out.tr b3)
                  clear b3
                  go_wp2_with fail
                  refine (HRW.out w3).mono ?_; rintro e w4 ⟨rfl, b4⟩
                  have B4 := Lib.hid (B3.out.tr b4)
                  clear b4
                  go_wp2_with fail
                  refine (HAA.out w4 B4.out).mono ?_; rintro e w5 ⟨rfl, b5⟩
                  have B5 := Lib.hid (B4.out.tr b5)
                  clear b5
                  go_wp2_with fail
                  refine (HCA.out w5).mono ?_; rintro e w6 ⟨rfl, b6⟩
                  have B6 := Lib.hid (B5.out.tr b6)
                  clear b6
                  go_wp2_with fail
                  refine (HAB.out w6 B6.out).mono ?_; rintro e w7 ⟨rfl, b7⟩
                  have B7 := Lib.hid (B6.out.tr b7)
                  clear b7
                  go_wp2_with fail
                  refine (HBA.out w7 B7.out).mono ?_; rintro e w8 ⟨rfl, b8⟩
                  have B8 := Lib.hid (B7.out.tr b8)
                  clear b8
                  go_wp2_with fail
                  refine (HAB.out w8 B8.out).mono ?_; rintro e w9 ⟨rfl, b9⟩
                  have B9 := Lib.hid (B8.out.tr b9)
                  clear b9
                  go_wp2_with fail
                  refine (HBC.out w9 B9.out).mono ?_; rintro e w10 ⟨rfl, b10⟩
                  have B10 := Lib.hid (B9.out.tr b10)
                  clear b10
                  go_wp2_with fail
                  refine (HCO.out w10 B10.out).mono ?_; rintro e w11 ⟨rfl, b11⟩
                  have B11 := Lib.hid (B10.out.tr b11)
                  clear b11
                  go_wp2_with fail
                  refine (HCA.out w11).mono ?_; rintro e w12 ⟨rfl, b12⟩
                  have B12 := Lib.hid (B11.out.tr b12)
                  clear b12
                  go_wp2_with fail
                  refine (HCB.out w12).mono ?_; rintro e w13 ⟨rfl, b13⟩
                  have B13 := Lib.hid (B12.out.tr b13)
                  clear b13
                  go_wp2_with fail
                  refine (HRC.out w13).mono ?_; rintro e w14 ⟨rfl, b14⟩
                  have B14 := Lib.hid (B13.out.tr b14)
                  clear b14
                  go_wp2_with fail
                  refine (HAC.out w14 B14.out).mono ?_; rintro e w15 ⟨rfl, b15⟩
                  have B15 := Lib.hid (B14.out.tr b15)
                  clear b15
                  go_wp2_with fail
                  refine (HBC.out w15 B15.out).mono ?_; rintro e w16 ⟨rfl, b16⟩
                  have B16 := Lib.hid (B15.out.tr b16)
                  clear b16
                  go_wp2_with fail
                  go_ret
                  exact ⟨rfl, B16.out⟩
              | true =>
                have hac : within a c = true := KT.out hab hbc
                rw [hbc] at HBC
                rw [KD.out hac hbc] at HHC
                rw [hac] at HAC
                clear KT KA KD hab hac hbc hba
                go_enter Tryd.func10, Tryd.ntmps10
                go_wp2_with fail
                refine (hk).mono ?_; rintro e w1 ⟨rfl, b1⟩
                have B1 := Lib.hid (b1)
                clear b1
                go_wp2_with fail
                refine (HS.out w1).mono ?_; rintro e w2 ⟨rfl, rfl⟩
                have B2n := Lib.hid (B1.out.tr (below_new w1 (.cells #[enS a, enS b, enS c] 9)))
                go_wp2_with fail
                refine (HAB.out (w1.alloc (.cells #[enS a, enS b, enS c] 9)) B2n.out).mono ?_; rintro e w3 ⟨rfl, b3⟩
                have B3 := Lib.hid (B2n.out.tr b3)
                clear b3
                go_wp2_with fail
                refine (HRW.out w3).mono ?_; rintro e w4 ⟨rfl, b4⟩
                have B4 := Lib.hid (B3.out.tr b4)
                clear b4
                go_wp2_with fail
                refine (HAA.out w4 B4.out).mono ?_; rintro e w5 ⟨rfl, b5⟩
                have B5 := Lib.hid (B4.out.tr b5)
                clear b5
                go_wp2_with fail
                refine (HCA.out w5).mono ?_; rintro e w6 ⟨rfl, b6⟩
                have B6 := Lib.hid (B5.out.tr b6)
                clear b6
                go_wp2_with fail
                refine (HAB.out w6 B6.out).mono ?_; rintro e w7 ⟨rfl, b7⟩
                have B7 := Lib.hid (B6.out.tr b7)
                clear b7
                go_wp2_with fail
                refine (HBA.out w7 B7.out).mono ?_; rintro e w8 ⟨rfl, b8⟩
                have B8 := Lib.hid (B7.out.tr b8)
                clear b8
                go_wp2_with fail
                refine (HAB.out w8 B8.out).mono ?_; rintro e w9 ⟨rfl, b9⟩
                have B9 := Lib.hid (B8.out.tr b9)
                clear b9
                go_wp2_with fail
                refine (HBC.out w9 B9.out).mono ?_; rintro e w10 ⟨rfl, b10⟩
                have B10 := Lib.hid (B9.out.tr b10)
                clear b10
                go_wp2_with fail
                refine (HAC.out w10 B10.out).mono ?_; rintro e w11 ⟨rfl, b11⟩
                have B11 := Lib.hid (B10.out.tr b11)
                clear b11
                go_wp2_with fail
                refine (HCO.out w11 B11.out).mono ?_; rintro e w12 ⟨rfl, b12⟩
                have B12 := Lib.hid (B11.out.tr b12)
                clear b12
                go_wp2_with fail
                refine (HCA.out w12).mono ?_; rintro e w13 ⟨rfl, b13⟩
                have B13 := Lib.hid (B12.out.tr b13)
                clear b13
                go_wp2_with fail
                refine (HCB.out w13).mono ?_; rintro e w14 ⟨rfl, b14⟩
                have B14 := Lib.hid (B13.out.tr b14)
                clear b14
                go_wp2_with fail
                refine (HRC.out w14).mono ?_; rintro e w15 ⟨rfl, b15⟩
                have B15 := Lib.hid (B14.out.tr b15)
                clear b15
                go_wp2_with fail
                refine (HAC.out w15 B15.out).mono ?_; rintro e w16 ⟨rfl, b16⟩
                have B16 := Lib.hid (B15.out.tr b16)
                clear b16
                go_wp2_with fail
                refine (HBC.out w16 B16.out).mono ?_; rintro e w17 ⟨rfl, b17⟩
                have B17 := Lib.hid (B16.out.tr b17)
                clear b17
                go_wp2_with fail
                refine (HHC.out w17 B17.out).mono ?_; rintro e w18 ⟨rfl, b18⟩
                have B18 := Lib.hid (B17.out.tr b18)
                clear b18
                go_wp2_with fail
                go_ret
                exact ⟨rfl, B18.out⟩
            | true =>
              obtain rfl : a = b := KA.out hab hba
              rw [hba] at HBA
              cases hbc : within a c with
              | false =>
                rw [hbc] at HBC HAC
                clear KT KA KD hab hbc hba
                go_enter Tryd.func10, Tryd.ntmps10
                go_wp2_with fail
                refine (hk).mono ?_; rintro e w1 ⟨rfl, b1⟩
                have B1 := Lib.hid (b1)
                clear b1
                go_wp2_with fail
                refine (HS.out w1).mono ?_; rintro e w2 ⟨rfl, rfl⟩
                have B2n := Lib.hid (B1.out.tr (below_new w1 (.cells #[enS a, enS a, enS c] 9)))
                go_wp2_with fail
                refine (HAB.out (w1.alloc (.cells #[enS a, enS a, enS c] 9)) B2n.out).mono ?_; rintro e w3 ⟨rfl, b3⟩
                have B3 := Lib.hid (B2n.out.tr b3)
                clear b3
                go_wp2_with fail
                refine (HRW.out w3).mono ?_; rintro e w4 ⟨rfl, b4⟩
                have B4 := Lib.hid (B3.out.tr b4)
                clear b4
                go_wp2_with fail
                refine (HAA.out w4 B4.out).mono ?_; rintro e w5 ⟨rfl, b5⟩
                have B5 := Lib.hid (B4.out.tr b5)
                clear b5
                go_wp2_with fail
                refine (HCA.out w5).mono ?_; rintro e w6 ⟨rfl, b6⟩
                have B6 := Lib.hid (B5.out.tr b6)
                clear b6
                go_wp2_with fail
                refine (HAB.out w6 B6.out).mono ?_; rintro e w7 ⟨rfl, b7⟩
                have B7 := Lib.hid (B6.out.tr b7)
                clear b7
                go_wp2_with fail
                refine (HBA.out w7 B7.out).mono ?_; rintro e w8 ⟨rfl, b8⟩
                have B8 := Lib.hid (B7.out.tr b8)
                clear b8
                go_wp2_with fail
                refine (HAB.out w8 B8.out).mono ?_; rintro e w9 ⟨rfl, b9⟩
                have B9 := Lib.hid (B8.out.tr b9)
                clear b9
                go_wp2_with fail
                refine (HBC.out w9 B9.out).mono ?_; rintro e w10 ⟨rfl, b10⟩
                have B10 := Lib.hid (B9.out.tr b10)
                clear b10
                go_wp2_with fail
                refine (HCO.out w10 B10.out).mono ?_; rintro e w11 ⟨rfl, b11⟩
                have B11 := Lib.hid (B10.out.tr b11)
                clear b11
                go_wp2_with fail
                refine (HCA.out w11).mono ?_; rintro e w12 ⟨rfl, b12⟩
                have B12 := Lib.hid (B11.out.tr b12)
                clear b12
                go_wp2_with fail
                refine (HCB.out w12).mono ?_; rintro e w13 ⟨rfl, b13⟩
                have B13 := Lib.hid (B12.out.tr b13)
                clear b13
                go_wp2_with fail
                refine (HRC.out w13).mono ?_; rintro e w14 ⟨rfl, b14⟩
                have B14 := Lib.hid (B13.out.tr b14)
                clear b14
                go_wp2_with fail
                refine (HAC.out w14 B14.out).mono ?_; rintro e w15 ⟨rfl, b15⟩
                have B15 := Lib.hid (B14.out.tr b15)
                clear b15
                go_wp2_with fail
                go_ret
                exact ⟨rfl, B15.out⟩
              | true =>
                rw [KD.out hbc hbc] at HHC
                rw [hbc] at HBC HAC
                clear KT KA KD hab hbc hba
                go_enter Tryd.func10, Tryd.ntmps10
                go_wp2_with fail
                refine (hk).mono ?_; rintro e w1 ⟨rfl, b1⟩
                have B1 := Lib.hid (b1)
                clear b1
                go_wp2_with fail
                refine (HS.out w1).mono ?_; rintro e w2 ⟨rfl, rfl⟩
                have B2n := Lib.hid (B1.out.tr (below_new w1 (.cells #[enS a, enS a, enS c] 9)))
                go_wp2_with fail
                refine (HAB.out (w1.alloc (.cells #[enS a, enS a, enS c] 9)) B2n.out).mono ?_; rintro e w3 ⟨rfl, b3⟩
                have B3 := Lib.hid (B2n.out.tr b3)
                clear b3
                go_wp2_with fail
                refine (HRW.out w3).mono ?_; rintro e w4 ⟨rfl, b4⟩
                have B4 := Lib.hid (B3.out.tr b4)
                clear b4
                go_wp2_with fail
                refine (HAA.out w4 B4.out).mono ?_; rintro e w5 ⟨rfl, b5⟩
                have B5 := Lib.hid (B4.out.tr b5)
                clear b5
                go_wp2_with fail
                refine (HCA.out w5).mono ?_; rintro e w6 ⟨rfl, b6⟩
                have B6 := Lib.hid (B5.out.tr b6)
                clear b6
                go_wp2_with fail
                refine (HAB.out w6 B6.out).mono ?_; rintro e w7 ⟨rfl, b7⟩
                have B7 := Lib.hid (B6.out.tr b7)
                clear b7
                go_wp2_with fail
                refine (HBA.out w7 B7.out).mono ?_; rintro e w8 ⟨rfl, b8⟩
                have B8 := Lib.hid (B7.out.tr b8)
                clear b8
                go_wp2_with fail
                refine (HAB.out w8 B8.out).mono ?_; rintro e w9 ⟨rfl, b9⟩
                have B9 := Lib.hid (B8.out.tr b9)
                clear b9
                go_wp2_with fail
                refine (HBC.out w9 B9.out).mono ?_; rintro e w10 ⟨rfl, b10⟩
                have B10 := Lib.hid (B9.out.tr b10)
                clear b10
                go_wp2_with fail
                refine (HAC.out w10 B10.out).mono ?_; rintro e w11 ⟨rfl, b11⟩
                have B11 := Lib.hid (B10.out.tr b11)
                clear b11
                go_wp2_with fail
                refine (HCO.out w11 B11.out).mono ?_; rintro e w12 ⟨rfl, b12⟩
                have B12 := Lib.hid (B11.out.tr b12)
                clear b12
                go_wp2_with fail
                refine (HCA.out w12).mono ?_; rintro e w13 ⟨rfl, b13⟩
                have B13 := Lib.hid (B12.out.tr b13)
                clear b13
                go_wp2_with fail
                refine (HCB.out w13).mono ?_; rintro e w14 ⟨rfl, b14⟩
                have B14 := Lib.hid (B13.out.tr b14)
                clear b14
                go_wp2_with fail
                refine (HRC.out w14).mono ?_; rintro e w15 ⟨rfl, b15⟩
                have B15 := Lib.hid (B14.out.tr b15)
                clear b15
                go_wp2_with fail
                refine (HAC.out w15 B15.out).mono ?_; rintro e w16 ⟨rfl, b16⟩
                have B16 := Lib.hid (B15.out.tr b16)
                clear b16
                go_wp2_with fail
                refine (HBC.out w16 B16.out).mono ?_; rintro e w17 ⟨rfl, b17⟩
                have B17 := Lib.hid (B16.out.tr b17)
                clear b17
                go_wp2_with fail
                refine (HHC.out w17 B17.out).mono ?_; rintro e w18 ⟨rfl, b18⟩
                have B18 := Lib.hid (B17.out.tr b18)
                clear b18
                go_wp2_with fail
                go_ret
                exact ⟨rfl, B18.out⟩
      · have nab : within a b = false := by unfold within; rw [decide_eq_false hb]; simp
        have ebb : commonB a b = false := by unfold commonB; rw [decide_eq_false hb]; simp
        have ecs : commonS a b = [] := by unfold commonS; rw [ebb]; rfl
        have hne : ((check b : Int) != 0) = true := by simp; omega
        rw [nab] at HAB HRW
        rw [ebb, ecs] at HCO
        clear nab ebb ecs hb ha
        generalize check b = r at *
        go_enter Tryd.func10, Tryd.ntmps10
        go_wp2_with fail
        refine (hk).mono ?_; rintro e w1 ⟨rfl, b1⟩
        have B1 := Lib.hid (b1)
        clear b1
        go_wp2_with fail
        refine (HS.out w1).mono ?_; rintro e w2 ⟨rfl, rfl⟩
        have B2n := Lib.hid (B1.out.tr (below_new w1 (.cells #[enS a, enS b, enS c] 9)))
        go_wp2_with fail
        refine (HAB.out (w1.alloc (.cells #[enS a, enS b, enS c] 9)) B2n.out).mono ?_; rintro e w3 ⟨rfl, b3⟩
        have B3 := Lib.hid (B2n.out.tr b3)
        clear b3
        go_wp2_with fail
        refine (HRW.out w3).mono ?_; rintro e w4 ⟨rfl, b4⟩
        have B4 := Lib.hid (B3.out.tr b4)
        clear b4
        go_wp2_with fail
        refine (HAA.out w4 B4.out).mono ?_; rintro e w5 ⟨rfl, b5⟩
        have B5 := Lib.hid (B4.out.tr b5)
        clear b5
        go_wp2_with fail
        refine (HCA.out w5).mono ?_; rintro e w6 ⟨rfl, b6⟩
        have B6 := Lib.hid (B5.out.tr b6)
        clear b6
        go_wp2_with fail
        refine (HAB.out w6 B6.out).mono ?_; rintro e w7 ⟨rfl, b7⟩
        have B7 := Lib.hid (B6.out.tr b7)
        clear b7
        go_wp2_with fail
        refine (HAB.out w7 B7.out).mono ?_; rintro e w8 ⟨rfl, b8⟩
        have B8 := Lib.hid (B7.out.tr b8)
        clear b8
        go_wp2_with fail
        refine (HCO.out w8 B8.out).mono ?_; rintro e w9 ⟨rfl, b9⟩
        have B9 := Lib.hid (B8.out.tr b9)
        clear b9
        go_wp2_with fail
        refine (HCA.out w9).mono ?_; rintro e w10 ⟨rfl, b10⟩
        have B10 := Lib.hid (B9.out.tr b10)
        clear b10
        go_wp2_with fail
        refine (HCB.out w10).mono ?_; rintro e w11 ⟨rfl, b11⟩
        have B11 := Lib.hid (B10.out.tr b11)
        clear b11
        go_wp2_with fail
        go_ret
        exact ⟨rfl, B11.out⟩
    · have nab : within a b = false := by unfold within; rw [decide_eq_false ha]; rfl
      have naa : within a a = false := by unfold within; rw [decide_eq_false ha]; rfl
      have ebb : commonB a b = false := by unfold commonB; rw [decide_eq_false ha]; rfl
      have ecs : commonS a b = [] := by unfold commonS; rw [ebb]; rfl
      have hne : ((check a : Int) != 0) = true := by simp; omega
      have hne2 : ((check a : Int) == 0) = false := by simp; omega
      rw [nab] at HAB HRW
      rw [naa] at HAA
      rw [ebb, ecs] at HCO
      clear nab naa ebb ecs ha
      generalize check a = r at *
      go_enter Tryd.func10, Tryd.ntmps10
      go_wp2_with fail
      refine (hk).mono ?_; rintro e w1 ⟨rfl, b1⟩
      have B1 := Lib.hid (b1)
      clear b1
      go_wp2_with fail
      refine (HS.out w1).mono ?_; rintro e w2 ⟨rfl, rfl⟩
      have B2n := Lib.hid (B1.out.tr (below_new w1 (.cells #[enS a, enS b, enS c] 9)))
      go_wp2_with fail
      refine (HAB.out (w1.alloc (.cells #[enS a, enS b, enS c] 9)) B2n.out).mono ?_; rintro e w3 ⟨rfl, b3⟩
      have B3 := Lib.hid (B2n.out.tr b3)
      clear b3
      go_wp2_with fail
      refine (HRW.out w3).mono ?_; rintro e w4 ⟨rfl, b4⟩
      have B4 := Lib.hid (B3.out.tr b4)
      clear b4
      go_wp2_with fail
      refine (HAA.out w4 B4.out).mono ?_; rintro e w5 ⟨rfl, b5⟩
      have B5 := Lib.hid (B4.out.tr b5)
      clear b5
      go_wp2_with fail
      refine (HCA.out w5).mono ?_; rintro e w6 ⟨rfl, b6⟩
      have B6 := Lib.hid (B5.out.tr b6)
      clear b6
      go_wp2_with fail
      refine (HAB.out w6 B6.out).mono ?_; rintro e w7 ⟨rfl, b7⟩
      have B7 := Lib.hid (B6.out.tr b7)
      clear b7
      go_wp2_with fail
      refine (HAB.out w7 B7.out).mono ?_; rintro e w8 ⟨rfl, b8⟩
      have B8 := Lib.hid (B7.out.tr b8)
      clear b8
      go_wp2_with fail
      refine (HCO.out w8 B8.out).mono ?_; rintro e w9 ⟨rfl, b9⟩
      have B9 := Lib.hid (B8.out.tr b9)
      clear b9
      go_wp2_with fail
      refine (HCA.out w9).mono ?_; rintro e w10 ⟨rfl, b10⟩
      have B10 := Lib.hid (B9.out.tr b10)
      clear b10
      go_wp2_with fail
      go_ret
      exact ⟨rfl, B10.out⟩
end Go.Proofs.YtcagooijkecmoaaDoor
