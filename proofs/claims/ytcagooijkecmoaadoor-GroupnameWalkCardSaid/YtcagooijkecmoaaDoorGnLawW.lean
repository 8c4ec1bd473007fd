/- The walk of the statement GroupnameWalk. -/
import Derived.Test.YtcagooijkecmoaaDoorGnLawV
namespace Go.Proofs.YtcagooijkecmoaaDoor
open Go.RowKit Go.Gn Go.Maps
attribute [local go_sem] Oper.semAt_some

set_option maxRecDepth 100000 in
set_option maxHeartbeats 8000000 in
theorem groupnameWalk_walk (A : Option Addr) (c : Nat) (xs : List (List UInt8)) (tn : Int) (htn : (Lit.int .u8 tn).wf = true) (w : World) (hr : Rd w A xs) (hc : xs.length ≤ c) (hcm : c ≤ maxLen) (hx : ∀ x ∈ xs, x.length ≤ maxLen) (hE : Env w) :
    Calls Tryd.prog 7 #[.slice A xs.length c, .int .u8 tn] w fun e w' => e = .returned (.bool true) ∧ Below w.heap.size w w' := by
  have HKN := Lib.hid (fun W (b : Below w.heap.size w W) => known_any W (hE.below b))
  have HS := Lib.hid (fun W (h : Rd W A xs) => short_any A c xs W h (Nat.le_trans hc hcm) hx)
  have R0 := Lib.hid hr; clear hr hx
  unfold maxLen at hcm
  obtain ⟨t, rfl, ht⟩ : ∃ t : Nat, tn = (t : Int) ∧ t < 256 := by
    have h : 0 ≤ tn ∧ tn < 256 := by
      have e1 : IntKind.u8.min = 0 := by decide
      have e2 : IntKind.u8.max = 255 := by decide
      simp [Lit.wf, e1, e2] at htn
      omega
    exact ⟨tn.toNat, by omega, by omega⟩
  clear htn
  refine callsIn_wide.1 (callsIn_of_wp_marks (n := 10) Tryd.func7 rfl trivial ?_)
  refine wpIn_wide.2 ?_
  simp only [Tryd.ntmps7, List.size_toArray, List.length_cons, List.length_nil, Nat.reduceAdd, Nat.reduceSub, Array.replicate_succ, Array.replicate_zero, List.push_toArray, List.append_toArray, List.nil_append, List.cons_append]
  go_wp2_with fail
  have hb0 : Below w.heap.size w (((w.alloc (.cells #[.slice A xs.length c] 24)).alloc (.cells #[.int .u8 (t : Int)] 5)).alloc (.cells #[.bool false] 4)) := (((Below.refl _ w).alloc (Nat.le_refl _) _).alloc (by simp) _).alloc (by simp; omega) _
  have hV0 : Hid (V0 w A c xs t (((w.alloc (.cells #[.slice A xs.length c] 24)).alloc (.cells #[.int .u8 (t : Int)] 5)).alloc (.cells #[.bool false] 4))) := v0_made w A c xs t
  generalize ((w.alloc (.cells #[.slice A xs.length c] 24)).alloc (.cells #[.int .u8 (t : Int)] 5)).alloc (.cells #[.bool false] 4) = u0 at *
  refine (HKN.out u0 hb0).mono ?_; rintro e u1 ⟨rfl, b1⟩
  have V1 := Lib.hid (hV0.out.below b1)
  have B1 := Lib.hid (hb0.tr b1)
  clear hV0 b1 hb0
  have hl1 := V1.out.l
  cases hsh : shortL xs with
  | false =>
    rw [hsh] at HS
    clear hsh hE
    go_wp2_with fail
    refine (HS.out u1 (R0.out.below B1.out)).mono ?_; rintro e u2 ⟨rfl, rfl⟩
    go_wp2_with fail
    refine (HKN.out u1 B1.out).mono ?_; rintro e u3 ⟨rfl, b3⟩
    have V3 := Lib.hid (V1.out.below b3)
    have B3 := Lib.hid (B1.out.tr b3)
    have hr3 := V3.out.r.1
    have hf3 := V3.out.r.2
    clear b3 hl1
    go_wp2_with fail
    refine ⟨.bool true, ?_, rfl, ?_⟩
    · simp [results, Tryd.results7, go_sem, hr3]
    · exact B3.out.setCell (by simp; omega) _
  | true =>
    rw [hsh] at HS
    have hl := sh_len hsh
    have hx := sh_all hsh (n := 1000000000) (by decide)
    have hx2 := sh_all hsh (n := 1000000) (by decide)
    have HE := Lib.hid hE.all
    have HAB := Lib.hid (fun W (h : Rd W A xs) => refAbove_any A c xs W h (by omega) hx2)
    have HSO := Lib.hid (fun W (h : Rd W A xs) => refSort_any A c xs W h (by omega) hx2)
    have HWK := Lib.hid (fun W (hb : Below w.heap.size w W) (h : Rd W A xs) => gwalk_any A c xs W (HE.out W hb) h (by omega) hx)
    have HCO := Lib.hid (fun h W (lh : h.length ≤ 1000000) (hr : Rd W A xs) => refCount_any A c xs h W hr (by omega) hx2 lh)
    have HCH := Lib.hid (fun h W (lh : h.length ≤ 1000000) (hb : Below w.heap.size w W) (hr : Rd W A xs) => children_any A c xs h W (HE.out W hb) hr (by omega) hx (by omega))
    have hR0 : Hid (sortE xs ≠ 0 → aboveL xs = []) := fun h => by unfold aboveL sortS; rw [if_neg h]; rfl
    clear hsh hE hx hx2
    have hRb : Hid ((aboveL xs).length ≤ 100000 ∧ ∀ z ∈ aboveL xs, z.length ≤ 80) := above_le xs
    obtain ⟨R, hRq⟩ : ∃ r, aboveL xs = r := ⟨_, rfl⟩
    have VR := Lib.hid hRq
    rw [hRq] at hRb
    rw [hRq] at HAB hR0
    clear hRq
    go_wp2_with fail
    refine (HS.out u1 (R0.out.below B1.out)).mono ?_; rintro e u2 ⟨rfl, rfl⟩
    go_wp2_with fail
    refine (HAB.out u1 (R0.out.below B1.out)).mono ?_; rintro e u3 ⟨D, d, rfl, hD3, _, b3⟩
    have V3 := Lib.hid (V1.out.below b3)
    have B3 := Lib.hid (B1.out.tr b3)
    have D3 := Lib.hid hD3
    clear hl1 hD3 b3 V1 B1
    have hl3 := V3.out.l
    have hz3 := V3.out.size
    have hn3 := below_new u3 (.cells #[.slice D R.length d] 24)
    have V4 := Lib.hid (V3.out.below hn3)
    have hl4 := V4.out.l
    have W4 : Hid (VW (u3.heap.size) D d R (u3.alloc (.cells #[.slice D R.length d] 24))) := ⟨by rw [blk_cell (blk_new u3 _) 0]; rfl, blk_free (blk_new u3 _) 0, fun hp => by
      obtain ⟨b, o, e, h1, h2⟩ := D3.out hp
      exact ⟨b, o, e, h1, fun j x hj => Below.cellv hn3 (h2 j x hj)⟩⟩
    have B4 := Lib.hid (B3.out.tr hn3)
    have hz4 : u3.heap.size < (u3.alloc (.cells #[.slice D R.length d] 24)).heap.size := by simp
    clear hl3
    go_wp2_with fail
    clear hl4
    generalize u3.alloc (.cells #[.slice D R.length d] 24) = u4 at *
    obtain ⟨bw, hbw⟩ : ∃ b, u3.heap.size = b := ⟨_, rfl⟩
    rw [hbw] at W4 hz3 hz4 ⊢
    clear hbw hn3 V3 B3 D3
    refine (HSO.out u4 (R0.out.below B4.out)).mono ?_; rintro e u5 ⟨A5, c5, rfl, _, _, b5⟩
    have V5 := Lib.hid (V4.out.below b5)
    have B5 := Lib.hid (B4.out.tr b5)
    have W5 := Lib.hid (W4.out.below b5)
    have hz5 : bw < u5.heap.size := Nat.lt_of_lt_of_le hz4 b5.size
    clear V4 B4 W4 hz4 b5
    go_upto_if 34 with fail
    go_cut [] from 35 to 35 (fun wz => ∃ D d, Hid (V0 w A c xs t wz ∧ Below w.heap.size w wz ∧ VW bw D d R wz) ∧ bw < wz.heap.size)
    case first =>
      by_cases hz : sortE xs = 0
      · have he : ((sortE xs : Int) != 0) = false := by simp [hz]
        clear hz
        generalize (sortE xs : Int) = se at *
        go_wp2_with fail
        go_meet
        exact ⟨D, d, ⟨V5.out, B5.out, W5.out⟩, hz5⟩
      · have he : ((sortE xs : Int) != 0) = true := by simp; omega
        have HRn := Lib.hid (hR0.out hz)
        have hcw := W5.out.cell
        have hfw := W5.out.free
        clear hz
        generalize (sortE xs : Int) = se at *
        go_wp2_with fail
        go_meet
        refine ⟨none, 0, ⟨V5.out.set (by omega), B5.out.setCell (by simp; omega) _, ⟨?_, ?_, fun hp => absurd hp (by rw [HRn.out]; simp)⟩⟩, by simp; exact hz5⟩
        · rw [HRn.out]; exact World.cell?_setCell_same' _ _ _ (by rw [hcw]; rfl)
        · rw [World.frozen?_setCell]; exact hfw
    obtain ⟨D, d, hcut, hzw⟩ := hcut
    have hmm := @run_makeMap Tryd.prog
    have hO6 : Hid (Own w A c xs t bw wc.heap.size D d R 0 (fun Dm => Dm = .map []) (((wc.alloc (.cells #[.int .i64 0] 3)).alloc (.map #[] 0)).alloc (.cells #[.map (some (wc.heap.size + 1))] 41))) := own_made hcut.out.1 hcut.out.2.1 hcut.out.2.2 hz3 hzw
    have hl6 := hO6.out.v0.l
    go_wp2_with fail
    clear hmm hl6
    generalize ((wc.alloc (.cells #[.int .i64 0] 3)).alloc (.map #[] 0)).alloc (.cells #[.map (some (wc.heap.size + 1))] 41) = u6 at *
    obtain ⟨bn, hbn⟩ : ∃ b, wc.heap.size = b := ⟨_, rfl⟩
    rw [hbn] at hO6 hzw ⊢
    have HCUT := Lib.hid hcut
    clear hbn hcut HCUT V5 B5 W5
    refine (HWK.out u6 hO6.out.below (R0.out.below hO6.out.below)).mono ?_
    rintro e u7 ⟨bH, bC, A7, c7, bM, nn7, D7, rfl, hWD, hat7, b7⟩
    rw [VR.out] at hWD hat7
    have O7 := Lib.hid (hO6.out.tr b7)
    have HWD := Lib.hid hWD
    have HAT := Lib.hid hat7
    have hs67 : u6.heap.size ≤ u7.heap.size := b7.size
    have ho6 := hO6.out.ord
    clear hWD hat7 b7
    go_wp2_with fail
    have hRl : R.length ≤ 100000 := hRb.out.1
    have hI0 : Inv1 w A c xs t bw bn D d R u7.heap.size [] u7 := ⟨by simp [items], by simp, ⟨O7.out.v0, O7.out.ord, O7.out.below, O7.out.vw, O7.out.nc, O7.out.m, by
      obtain ⟨nn, Dm, h1, h2, h3⟩ := O7.out.own
      exact ⟨nn, Dm, h1, h2, fun z hz => by simp at hz⟩⟩, Nat.le_refl _⟩
    have HI0 := Lib.hid hI0; clear hI0
    refine (wpIn_wide (n := 10)).1 ?_
    generalize ha : Act.mk _ _ = a
    refine wpIn_rangeFunc_ownG rfl (by omega) (gf := 52) (lb := #[.pointer (some ⟨bH, 0, none⟩), .pointer (some ⟨bC, 0, none⟩)]) (by rw [← ha]; rfl) trivial (enters_of Tryd.func52 (by kernel_rfl) rfl)
      (walk1_stops 9 (by omega) u6.heap.size u7.heap.size bH bC A7 c7 bM nn7 D7 R (cntI xs) (by omega) (fun z hz => by have := hRb.out.2 z hz; omega) HAT.out u7 HWD.out (Nat.le_refl _))
      (fun h k => h.trans k) (fun W l o o' hl ho _ _ => keepsIn_put W l o o' hl ho) (Below.refl _ _) (fun _ => rfl)
      (Inv1 w A c xs t bw bn D d R u7.heap.size) (fun _ pre _ => ¬ ∃ k, k ≤ R.length ∧ pre = items (cntI xs) (R.take k)) (inv1_own (by omega)) (fun _ _ _ _ _ h _ _ => h) HI0.out (a1 a) ?assign ?body ?done ?stop
    case assign =>
      intro l x W K hK
      subst ha
      unfold a1 at hK
      simp only [List.setIfInBounds_toArray, List.set_cons_succ, List.set_cons_zero] at hK
      gi_wp2
      exact hK
    case stop =>
      intro D0 cc pre W _ hSp hIx _
      exact absurd hSp hIx
    case body =>
      rintro l pre ⟨h, k⟩ W ⟨hpre, hle, hO, hBs⟩ hlt
      subst ha
      unfold a1
      simp only [List.setIfInBounds_toArray, List.set_cons_succ, List.set_cons_zero]
      obtain ⟨z, hz⟩ : ∃ z, R[pre.length]? = some z := ⟨_, List.getElem?_eq_getElem hlt⟩
      obtain ⟨b, o, rfl, hbw, hcells⟩ := hO.vw.rd (by omega)
      have hcz := hcells pre.length z hz
      have hcn := hO.nc.1
      have hfn := hO.nc.2
      have hcw := hO.vw.cell
      have hcl := hO.v0.l
      have hcr := hO.v0.r.1
      have hfr := hO.v0.r.2
      have hcm2 := hO.m
      have hord := hO.ord
      have hz80 := hRb.out.2 z (List.mem_of_getElem? hz)
      have HO := Lib.hid hO
      have HPRE := Lib.hid hpre
      have HZ := Lib.hid hz
      clear hO hpre hcells hz
      have hnb : ¬ (R.length : Int) ≤ (pre.length : Int) := by omega
      by_cases hhz : h = z
      · subst hhz
        have hne : (h == h) = true := by simp
        have hne2 : (h != h) = false := by simp
        have hct := HCO.out h W (by omega) (R0.out.below HO.out.below)
        obtain ⟨cn, hcn0⟩ : ∃ q, countL xs h = q := ⟨_, rfl⟩
        rw [hcn0] at hct
        have HCN := Lib.hid hcn0
        clear hcn0
        by_cases hk : k = (cn : Int)
        · subst hk
          have hkk : ((cn : Int) == (cn : Int)) = true := by simp
          have hkk2 : ((cn : Int) != (cn : Int)) = false := by simp
          have wfk : (Lit.int .i64 (cn : Int)).wf = true := WalkArith.wf_i64 (by have := HCN.out; have := countL_le xs h; omega)
          have hkey := Go.WideMaps.keyOf_string_mk (P := Tryd.prog) (s := ⟨h.toArray⟩) Tryd.underlying9 (show h.toArray.size ≤ maxLen by simp [maxLen]; omega)
          have HKY := Lib.hid hkey
          clear hkey
          gi_wp2_with fail
          refine ⟨trivial, ((callsIn_wide.2 hct).inRound l).mono ?_⟩
          rintro e W2 ⟨rfl, b2⟩
          clear hct
          have O2 := Lib.hid (HO.out.tr b2)
          have hcn2 := O2.out.nc.1
          have hfn2 := O2.out.nc.2
          have hcm22 := O2.out.m
          obtain ⟨nn, Dm, hnn, hown, hP⟩ := O2.out.own
          have HOW := Lib.hid hown
          have HP := Lib.hid hP
          have hbs := b2.size
          clear hown hP hcn hfn hcw hcl hcr hfr hcm2 hcz
          gi_wp2_with (gi_at_mapUpdate; (refine wpListIn_mapUpdate_own _ rfl _ _ _ 41 rfl 9 3 (string_keyed Tryd.underlying9) Tryd.underlying41 _ (bn + 1) nn Dm rfl HOW.out (by unfold maxLen; omega) _ _ _ rfl rfl HKY.out _ [] (plainElem_int Tryd.underlying3 wfk) ?_); intro w4 hown4 hgrow4; have hc4 := grown_cell hgrow4 (show bn ≠ bn + 1 by omega) hcn2; have hf4 := grown_free (b := bn) (o := 0) hgrow4 (by omega) (by omega) hfn2)
          have hci : cntI xs h = (cn : Int) := by unfold cntI; rw [HCN.out]
          have hnx := items_next (xs := xs) HZ.out HPRE.out
          have hms := mapP_step (owns_isMap HOW.out) HZ.out HP.out
          rw [hci] at hnx hms
          have hO4 := O2.out.setN hgrow4 (n' := pre.length + 1) (nn := nn + 1) (by omega) hown4 hms
          have e1 : (pre ++ [(h, (cn : Int))]).length = pre.length + 1 := by simp
          have e2 : ((pre.length + 1 : Nat) : Int) = (pre.length : Int) + 1 := by omega
          rw [e2] at hO4
          have hgs := hgrow4.size
          refine ⟨(keepsFrom_below b2).trans ((keepsFrom_grown hgrow4 (by omega)).trans (keepsFrom_set (by omega))), ((keepsIn_below hBs b2).trans (keepsIn_grown hgrow4 (by omega) (by omega))).trans (keepsIn_set (by omega)), hnx, by omega, ?_, by simp; omega⟩
          rw [e1]
          exact hO4
        · have hkk : (k == (cn : Int)) = false := by simpa using hk
          have hkk2 : (k != (cn : Int)) = true := by simpa using hk
          have hbad : Hid (¬ ∃ k', k' ≤ R.length ∧ pre ++ [(h, k)] = items (cntI xs) (R.take k')) := not_next HZ.out (fun e => hk (e.2.trans (by unfold cntI; rw [HCN.out])))
          clear hk
          gi_wp2_with fail
          refine ⟨trivial, ((callsIn_wide.2 hct).inRound l).mono ?_⟩
          rintro e W2 ⟨rfl, b2⟩
          have hbs := b2.size
          have O2 := Lib.hid (HO.out.tr b2)
          have hcr2 := O2.out.v0.r.1
          have hfr2 := O2.out.v0.r.2
          clear hcr hfr hct
          gi_wp2_with fail
          exact ⟨(keepsFrom_below b2).trans (keepsFrom_set (by omega)), hbad.out⟩
      · have hne : (h == z) = false := by simpa using hhz
        have hne2 : (h != z) = true := by simpa using hhz
        have hbad : Hid (¬ ∃ k', k' ≤ R.length ∧ pre ++ [(h, k)] = items (cntI xs) (R.take k')) := not_next HZ.out (fun e => hhz e.1)
        gi_wp2_with fail
        refine ⟨trivial, ?_⟩
        gi_wp2_with fail
        exact ⟨⟨by simp, fun k o hB hk _ => (blk_set_ne 0 _ (by omega)).trans hk⟩, hbad.out⟩
    case done =>
      intro D0 ys W hDle hS hI hdef
      obtain ⟨hpre, hle, hO, hBs⟩ := hI
      subst hS
      have hln : (items (cntI xs) R).length = R.length := by simp [items]
      rw [hln] at hO
      have hord := hO.ord
      have hcn := hO.nc.1
      have hcw := hO.vw.cell
      have HO := Lib.hid hO
      clear hO hpre hle hln
      subst ha
      dsimp only
      go_wp2_with fail
      clear hcn hcw
      go_loopg [12] R.length (fun gg iv wr => ∃ i : Nat, i ≤ R.length ∧ R.length - i ≤ gg ∧ iv = .int .i64 i ∧ Hid (Beh w A c xs t bw bn D d R D0 u7.heap.size wr))
      case atStart => exact ⟨0, by omega, by omega, rfl, HO.out, hdef, hBs⟩
      case round =>
        obtain ⟨i, hi, hgi, rfl, O⟩ := hrel
        by_cases hlt : i < R.length
        · obtain ⟨z, hz⟩ : ∃ z, R[i]? = some z := ⟨_, List.getElem?_eq_getElem hlt⟩
          have hs0 : Hid (sortE xs = 0) := Classical.byContradiction fun hn => by have := hR0.out hn; rw [this] at hlt; simp at hlt
          have hck : Hid (check z = 0) := above_check (xs := xs) (by rw [VR.out]; exact List.mem_of_getElem? hz)
          obtain ⟨b, o, hDe, hbw, hcells⟩ := O.out.own.vw.rd (by omega)
          subst hDe
          have hz80 := hRb.out.2 z (List.mem_of_getElem? hz)
          have HZ := Lib.hid hz
          have hcl := O.out.own.v0.l
          have hcw := O.out.own.vw.cell
          clear hz hcells
          go_wp2_with fail
          clear hcl hcw
          go_loopg [13, 14] xs.length (fun gg sv kv wq => ∃ k : Nat, k ≤ xs.length ∧ xs.length - k ≤ gg ∧ kv = .int .i64 k ∧ sv = .int .i64 (oneI (xs.take k) z) ∧ Hid (Beh w A c xs t bw bn (some ⟨b, o, none⟩) d R D0 u7.heap.size wq))
          case atStart => exact ⟨0, by omega, by omega, rfl, rfl, O.out⟩
          case round =>
            obtain ⟨k, hk, hgk, rfl, rfl, Oq⟩ := hrel
            have hcl := Oq.out.own.v0.l
            have hcw := Oq.out.own.vw.cell
            obtain ⟨b', o', e', _, hcells⟩ := Oq.out.own.vw.rd (by omega)
            cases e'
            have hcz := hcells i z HZ.out
            clear hcells
            by_cases hlt2 : k < xs.length
            · obtain ⟨b2, o2, x, rfl, _, hxk, hcx⟩ := (R0.out.below Oq.out.own.below).at_ hlt2
              have hon := oneI_snoc xs z k x hxk
              have HON := Lib.hid hon
              clear hon hxk
              have hkb : (0 : Int) ≤ (k : Int) := by omega
              have hib : (0 : Int) ≤ (i : Int) := by omega
              have hkb2 : (k : Int) < (xs.length : Int) := by omega
              have hib2 : (i : Int) < (R.length : Int) := by omega
              by_cases hxz : x = z
              · rw [if_pos hxz] at HON
                have hq1 : (x == z) = true := by simpa using hxz
                clear hxz
                go_wp2_with fail
                go_quiet (fail)
                go_wp2_with fail
                go_roundg (xs.length - (k + 1))
                case measure => omega
                case rel => exact ⟨k + 1, by omega, by omega, by go_num, by rw [HON.out], Oq.out.drewN _⟩
              · rw [if_neg hxz] at HON
                have hq1 : (x == z) = false := by simpa using hxz
                clear hxz
                go_wp2_with fail
                go_quiet (fail)
                go_wp2_with fail
                go_roundg (xs.length - (k + 1))
                case measure => omega
                case rel => exact ⟨k + 1, by omega, by omega, by go_num, by rw [HON.out], Oq.out.drewN _⟩
            · obtain rfl : k = xs.length := by omega
              rw [List.take_length]
              have hib : (0 : Int) ≤ (i : Int) := by omega
              have hib2 : (i : Int) < (R.length : Int) := by omega
              have hone := oneI_rng xs z
              obtain ⟨on, hon⟩ : ∃ q, oneI xs z = q := ⟨_, rfl⟩
              rw [hon] at hone ⊢
              have HON := Lib.hid hon
              clear hon
              go_wp2_with fail
              refine Flow.wp_region_segs Flow.Later Flow.Later.refl Flow.Later.trans [([0, 1, 2, 3, 4], 5)] [6, 7, 8, 9, 10] (by kernel_rfl) (by kernel_rfl) ?_
              have OD := Lib.hid Oq.out.drew
              generalize hwd : World.drew _ = wd at *
              clear hwd
              have q1 := Flow.cls_cell OD.out.own.v0.l
              have q2 := Flow.cls_cell OD.out.own.vw.cell
              have q3 : ∀ tt : Flow.Cls (Flow.Later wd), tt.val.cell? ⟨b, o + i, none⟩ = some (enS z) := Flow.cls_cell (by
                obtain ⟨b', o', e', _, hcells⟩ := OD.out.own.vw.rd (by omega)
                cases e'
                exact hcells i z HZ.out)
              clear hcl hcw hcz
              haveI nonE := Flow.cls_nonempty wd
              rw [Flow.wpSegs_cons]
              simp only [Flow.pick, List.getElem?_toArray, List.getElem?_cons_succ, List.getElem?_cons_zero]
              repeat go_big_quiet_step (fail)
              refine wpQuiet_nil ?_
              clear nonE q1 q2 q3
              rw [Flow.callAt_eq]
              simp only [List.getElem?_toArray, List.getElem?_cons_succ, List.getElem?_cons_zero]
              rw [if_pos (by rfl)]
              refine Flow.wp_behind (fun K hK => ?_)
              go_wp2_with fail
              refine (HCH.out z wd (by omega) OD.out.own.below (R0.out.below OD.out.own.below)).mono ?_; rintro e w2 ⟨A2, c2, rfl, hr2, _, b2⟩
              refine hK.out _ _ ⟨b2, ?_⟩
              clear hK K
              have OE := Lib.hid (OD.out.tr b2)
              have HR2 := Lib.hid hr2
              clear hr2 b2
              haveI nonE := Flow.cls_nonempty w2
              rw [Flow.wpSegs_nil]
              simp only [Flow.pick, List.getElem?_toArray, List.getElem?_cons_succ, List.getElem?_cons_zero]
              repeat go_big_quiet_step (fail)
              refine wpQuiet_nil ?_
              clear nonE
              have hKl := kidsS_len (h := z) hs0.out hck.out
              have hKs := law_sum hs0.out hck.out
              have hKm : ∀ c ∈ kidsS xs z, z ++ 46 :: c ∈ R := fun c hc => by rw [← VR.out]; exact law_kid hs0.out hck.out hc
              obtain ⟨K, hKe⟩ : ∃ q, kidsS xs z = q := ⟨_, rfl⟩
              rw [hKe] at hKl hKs hKm HR2 ⊢
              have HKS := Lib.hid hKs
              have HKM := Lib.hid hKm
              clear hKs hKm hKe
              go_wp2_with fail
              go_loopg [13, 17] K.length (fun gg sv kv wq => ∃ j : Nat, j ≤ K.length ∧ K.length - j ≤ gg ∧ kv = .int .i64 j ∧ sv = .int .i64 (on + sumC xs z (K.take j)) ∧ Hid (Beh w A c xs t bw bn (some ⟨b, o, none⟩) d R D0 u7.heap.size wq ∧ Rd wq A2 K))
              case atStart => exact ⟨0, by omega, by omega, rfl, by simp [sumC], OE.out, HR2.out⟩
              case round =>
                obtain ⟨j, hj, hgj, rfl, rfl, OF⟩ := hrel
                by_cases hlt3 : j < K.length
                · obtain ⟨b3, o3, y, rfl, _, hyk, hcy⟩ := OF.out.2.at_ hlt3
                  have hkm := HKM.out y (List.mem_of_getElem? hyk)
                  have hkl := hRb.out.2 _ hkm
                  have hlook := look_all OF.out.1 hkm (by omega)
                  have hyl : z.length + 1 + y.length ≤ 80 := by simp at hkl; omega
                  have hc1 := run_cat z [46] (by simp; omega)
                  have hc2 := run_cat (z ++ [46]) y (by simp; omega)
                  have ecat : (z ++ [46]) ++ y = z ++ 46 :: y := by simp
                  rw [ecat] at hc2
                  clear ecat
                  have hrg := cntI_rng xs (z ++ 46 :: y)
                  have hrs := sumC_rng xs z (K.take j)
                  have hsn := sumC_snoc xs z K j y hyk
                  have htl : (K.take j).length ≤ j := List.length_take_le _ _
                  obtain ⟨cz, hcz0⟩ : ∃ q, cntI xs (z ++ 46 :: y) = q := ⟨_, rfl⟩
                  rw [hcz0] at hlook hrg hsn
                  obtain ⟨sj, hsj⟩ : ∃ q, sumC xs z (K.take j) = q := ⟨_, rfl⟩
                  rw [hsj] at hrs hsn ⊢
                  have HSN := Lib.hid hsn
                  clear hsn hsj hcz0 hyk
                  have hcl := OF.out.1.own.v0.l
                  have hcw := OF.out.1.own.vw.cell
                  have hcm2 := OF.out.1.own.m
                  obtain ⟨b', o', e', _, hcells⟩ := OF.out.1.own.vw.rd (by omega)
                  cases e'
                  have hcz := hcells i z HZ.out
                  clear hcells
                  have hjb : (0 : Int) ≤ (j : Int) := by omega
                  have hjb2 : (j : Int) < (K.length : Int) := by omega
                  go_wp2_with fail
                  go_quiet (fail)
                  go_wp2_with fail
                  go_roundg (K.length - (j + 1))
                  case measure => omega
                  case rel => exact ⟨j + 1, by omega, by omega, by go_num, by rw [HSN.out, Int.add_assoc], OF.out.1.drewN _, OF.out.2.below ((Below.refl _ _).drewN _)⟩
                · obtain rfl : j = K.length := by omega
                  have hsl := HKS.out
                  rw [List.take_length]
                  have hsl2 : cntI xs z = on + sumC xs z K := by rw [hsl, ← HON.out]; rfl
                  have hlook := look_all OF.out.1 (List.mem_of_getElem? HZ.out) (by omega)
                  rw [hsl2] at hlook
                  have hrg := cntI_rng xs z
                  rw [hsl2] at hrg
                  clear hsl hsl2
                  generalize on + sumC xs z K = sk at *
                  have hcw := OF.out.1.own.vw.cell
                  have hcm2 := OF.out.1.own.m
                  obtain ⟨b', o', e', _, hcells⟩ := OF.out.1.own.vw.rd (by omega)
                  cases e'
                  have hcz := hcells i z HZ.out
                  clear hcells
                  go_wp2_with fail
                  go_quiet (fail)
                  go_wp2_with fail
                  go_roundg (R.length - (i + 1))
                  case measure => omega
                  case rel => exact ⟨i + 1, by omega, by omega, by go_num, OF.out.1.drewN _⟩
        · obtain rfl : i = R.length := by omega
          have hcw := O.out.own.vw.cell
          have hcn := O.out.own.nc.1
          have hfn := O.out.own.nc.2
          have hcl := O.out.own.v0.l
          have hF := (O.out.fin (by omega)).setN 0
          have HF := Lib.hid hF
          clear hF
          go_wp2_with fail
          clear hcw hcn hfn hcl
          have e0 : ((0 : Nat) : Int) = 0 := rfl
          rw [e0] at HF
          clear e0
          generalize wr.setCell ⟨bn, 0, none⟩ (.int .i64 0) = u8 at *
          refine (HWK.out u8 HF.out.below (R0.out.below HF.out.below)).mono ?_
          rintro e u9 ⟨bH2, bC2, A9, c9, bM2, nn9, D9, rfl, hWD9, hat9, b9⟩
          rw [VR.out] at hWD9 hat9
          have HWD9 := Lib.hid hWD9
          have HAT9 := Lib.hid hat9
          have HF9 := Lib.hid (HF.out.tr b9)
          have hs89 : u8.heap.size ≤ u9.heap.size := b9.size
          have hord9 := HF.out.ord
          clear hWD9 hat9 b9
          go_wp2_with fail
          refine (wpIn_wide (n := 10)).1 ?_
          generalize ha : Act.mk _ _ = a
          refine wpIn_rangeFunc_ownG rfl (by omega) (gf := 52) (lb := #[.pointer (some ⟨bH2, 0, none⟩), .pointer (some ⟨bC2, 0, none⟩)]) (by rw [← ha]; rfl) trivial (enters_of Tryd.func52 (by kernel_rfl) rfl)
            (walk1_stops 9 (by omega) u8.heap.size u9.heap.size bH2 bC2 A9 c9 bM2 nn9 D9 R (cntI xs) (by omega) (fun z hz => by have := hRb.out.2 z hz; omega) HAT9.out u9 HWD9.out (Nat.le_refl _))
            (fun h k => h.trans k) (fun W l o o' hl ho _ _ => keepsIn_put W l o o' hl ho) (Below.refl _ _) (fun _ => rfl)
            (Inv2 w A c xs t bw bn D d R D0 u9.heap.size) (Ex2 w A c xs t bw bn D d R D0 u9.heap.size) (inv2_own (by omega)) (ex2_own (by omega)) ⟨HF9.out, by simp, Nat.le_refl _⟩ (a2 a) ?assign ?body ?done ?stop
          case assign =>
            intro l x W K hK
            subst ha
            unfold a2 at hK
            simp only [List.setIfInBounds_toArray, List.set_cons_succ, List.set_cons_zero] at hK
            gi_wp2
            simp only [List.zip_toArray, List.zip_cons_cons, List.zip_nil_right, List.foldl_toArray, List.foldl_cons, List.foldl_nil, List.setIfInBounds_toArray, List.set_cons_succ, List.set_cons_zero]
            exact hK
          case body =>
            rintro l pre ⟨h, k⟩ W ⟨hO, hle, hBs⟩ hlt2
            subst ha
            unfold a2
            simp only [List.setIfInBounds_toArray, List.set_cons_succ, List.set_cons_zero]
            have hcn := hO.nc.1
            have hfn := hO.nc.2
            have hct := hO.v0.t
            have HO := Lib.hid hO
            have hN := hO.setN (pre.length + 1)
            have HN := Lib.hid hN
            clear hO hN
            have e2 : ((pre.length + 1 : Nat) : Int) = (pre.length : Int) + 1 := by omega
            rw [e2] at HN
            clear e2
            have e1 : Hid ((pre ++ [(h, k)]).length = pre.length + 1) := by (show (pre ++ [(h, k)]).length = _); simp
            have hord8 := HO.out.ord
            gi_wp2
            · refine ⟨keepsFrom_set (by omega), rfl, ?_, ?_, by simp; omega⟩
              · rw [e1.out]; exact HN.out
              · rw [e1.out]; omega
            · refine ⟨keepsFrom_set (by omega), keepsIn_set (by omega), ?_, ?_, by simp; omega⟩
              · rw [e1.out]; exact HN.out
              · rw [e1.out]; omega
          case done =>
            intro D1 ys W hDle1 hS1 hI1 hdef1
            obtain ⟨hO1, hle1, hBs1⟩ := hI1
            subst hS1
            subst ha
            have hl1 : (items (cntI xs) R).length = R.length := by simp [items]
            rw [hl1] at hO1 hle1
            have hcn := hO1.nc.1
            have hct := hO1.v0.t
            have hcw := hO1.vw
            have hcr := hO1.v0.r.1
            have hfr := hO1.v0.r.2
            have hmin : min (R.length : Int) (((t : Int) % 8) + 1) = (R.length : Int) := by omega
            have HO1 := Lib.hid hO1
            clear hO1
            dsimp only
            go_wp2_with fail
            exact leave8 HO1.out hdef1 (by omega) rfl
          case stop =>
            rintro D1 cc pre W hDle1 hSp1 ⟨rfl, hO1, hle1, hBs1⟩ hdef1
            subst ha
            obtain ⟨kk, hkk, rfl⟩ := hSp1
            have hl1 : (items (cntI xs) (R.take kk)).length = kk := by simp [items]; omega
            rw [hl1] at hO1 hle1
            have hcn := hO1.nc.1
            have hct := hO1.v0.t
            have hcw := hO1.vw
            have hcr := hO1.v0.r.1
            have hfr := hO1.v0.r.2
            have hmin : min (R.length : Int) (((t : Int) % 8) + 1) = (kk : Int) := by omega
            have HO1 := Lib.hid hO1
            clear hO1
            gi_wp2_with fail
            go_wp2_with fail
            exact leave8 HO1.out hdef1 (by omega) rfl
end Go.Proofs.YtcagooijkecmoaaDoor
