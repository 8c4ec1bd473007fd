/- The walk of the statement NewsrcMakes. -/
import Derived.Test.YtcpennlojjlpaaaGreatDoorNxP
namespace Go.Proofs.YtcpennlojjlpaaaGreatDoor
open Go.RowKit Go.Nr Go.Gn

theorem fromS_all (a : List Rg) : Okset (fromS a) := by
  rcases fromE_cases a with ⟨_, h⟩ | ⟨_, h⟩
  · exact h
  · rw [h]; exact Okset.nil

set_option maxRecDepth 100000 in
set_option maxHeartbeats 16000000 in
theorem newsrcMakes_walk (A : Option Addr) (c : Nat) (a : List Rg) (N : Option Addr) (d : Nat) (xs : List Int) (n : Int) (w : World) (ha : RdR w A a) (hx : RdI w N xs) (hd : xs.length ≤ d) (hE : Env w) (hT : Tab w) :
    Calls Tryz.prog 7 #[.slice A a.length c, .slice N xs.length d, i64 n] w fun e w' => e = .returned (.bool true) ∧ Below w.heap.size w w' := by
  have HK := Lib.hid (fun W (h : Below w.heap.size w W) => known_any W (hE.below h) (hT.below h))
  have RA := Lib.hid ha
  have RX := Lib.hid hx
  clear ha hx hE hT
  by_cases h60 : 60 < a.length
  · go_enter Tryz.func7, Tryz.ntmps7
    go_wp2_with fail
    refine (HK.out _ (by first | exact Below.refl _ _ | exact below_new _ _)).mono ?_; rintro e w1 ⟨rfl, b⟩
    have b' : Below w.heap.size w w1 := Below.tr (by first | exact Below.refl _ _ | exact below_new _ _) b
    clear b
    have ra1 := Lib.hid (RA.out.below b'); clear RA
    have rx1 := Lib.hid (RX.out.below b'); clear RX
    have B1 := Lib.hid b'
    clear b'
    go_wp2_with fail
    refine (HK.out _ (B1.out.tr (by first | exact Below.refl _ _ | exact below_new _ _))).mono ?_; rintro e w2 ⟨rfl, b⟩
    have b' : Below w1.heap.size w1 w2 := Below.tr (by first | exact Below.refl _ _ | exact below_new _ _) b
    clear b
    have ra2 := Lib.hid (ra1.out.below b'); clear ra1
    have rx2 := Lib.hid (rx1.out.below b'); clear rx1
    have B2 := Lib.hid (B1.out.tr b'); clear B1
    clear b'
    go_wp2_with fail
    go_ret
    exact ⟨rfl, (B2.out.tr (by first | exact Below.refl _ _ | exact below_new _ _))⟩
  by_cases h61 : 60 < xs.length
  · go_enter Tryz.func7, Tryz.ntmps7
    go_wp2_with fail
    refine (HK.out _ (by first | exact Below.refl _ _ | exact below_new _ _)).mono ?_; rintro e w1 ⟨rfl, b⟩
    have b' : Below w.heap.size w w1 := Below.tr (by first | exact Below.refl _ _ | exact below_new _ _) b
    clear b
    have ra1 := Lib.hid (RA.out.below b'); clear RA
    have rx1 := Lib.hid (RX.out.below b'); clear RX
    have B1 := Lib.hid b'
    clear b'
    go_wp2_with fail
    refine (HK.out _ (B1.out.tr (by first | exact Below.refl _ _ | exact below_new _ _))).mono ?_; rintro e w2 ⟨rfl, b⟩
    have b' : Below w1.heap.size w1 w2 := Below.tr (by first | exact Below.refl _ _ | exact below_new _ _) b
    clear b
    have ra2 := Lib.hid (ra1.out.below b'); clear ra1
    have rx2 := Lib.hid (rx1.out.below b'); clear rx1
    have B2 := Lib.hid (B1.out.tr b'); clear B1
    clear b'
    go_wp2_with fail
    go_ret
    exact ⟨rfl, (B2.out.tr (by first | exact Below.refl _ _ | exact below_new _ _))⟩
  have lS := fromS_length a
  have lP := pts_length xs
  have lV := fromS_length (pts xs)
  have okS := fromS_all a
  have okV := fromS_all (pts xs)
  have HO := Lib.hid (fun W (h : RdR W A a) => own_any46 A c a W h (by omega))
  have HF := Lib.hid (fun O o W (h : RdR W O a) (h2 : SlR O o a.length) => fromR_any O o a W h h2 (by omega))
  have HR := Lib.hid (fun W (h : RdR W A a) => refFrom_any A c a W h (by omega))
  have HI := Lib.hid (fun X x Y y W (h1 : RdR W X (fromS a)) (h2 : SlR X x (fromS a).length) (h3 : RdR W Y (fromS a)) => is_any X Y x y (fromS a) (fromS a) W h1 h2 h3 (by omega) (by omega))
  rw [decide_eq_true rfl] at HI
  have HH := Lib.hid (fun X x W (h : RdR W X (fromS a)) => has_any X x (fromS a) n W h okS.1 (by omega))
  have HRH := Lib.hid (fun X x W (h : RdR W X (fromS a)) => refHas_any X x (fromS a) n W h (by omega))
  have HC := Lib.hid (fun X x W (h : RdR W X (fromS a)) => count_any X x (fromS a) W h okS.2 (by omega))
  have HRC := Lib.hid (fun X x W (h : RdR W X (fromS a)) => refCount_any X x (fromS a) W h okS.2 (by omega))
  have HN := Lib.hid (fun X x W (h : RdR W X (fromS a)) => next_any X x (fromS a) n W h okS (by omega))
  have HRN := Lib.hid (fun X x W (h : RdR W X (fromS a)) => refNext_any X x (fromS a) n W h okS (by omega))
  have HOf := Lib.hid (fun W (h : RdI W N xs) => of_any N d xs W h hd (by omega))
  have HRV := Lib.hid (fun O o l W (hl : l = pts xs) (h : RdR W O l) => (by
    subst hl
    exact refFrom_any O o (pts xs) W h (by omega) : Calls Tryz.prog 38 #[.slice O l.length o] W (GivesRg W (fromS (pts xs)) (fromE (pts xs)))))
  have HIV := Lib.hid (fun X x Y y W (h1 : RdR W X (fromS (pts xs))) (h2 : SlR X x (fromS (pts xs)).length) (h3 : RdR W Y (fromS (pts xs))) => is_any X Y x y (fromS (pts xs)) (fromS (pts xs)) W h1 h2 h3 (by omega) (by omega))
  rw [decide_eq_true rfl] at HIV
  have HE := Lib.hid (fun X Y x y W (h1 : RdR W X (fromS a)) (h2 : RdR W Y (fromS (pts xs))) => equalSets_any X Y x y (fromS a) (fromS (pts xs)) W h1 h2 (by omega) (by omega))
  have HS := Lib.hid (fun X Y x y W (h1 : RdR W X (fromS a)) (h2 : RdR W Y (fromS (pts xs))) => refSame_any X Y x y (fromS a) (fromS (pts xs)) W h1 h2 (by omega) (by omega))
  have HPT := Lib.hid (fun k x (h : xs[k]? = some x) => pts_snoc xs k x h)
  have HPL := Lib.hid (fun k => pts_length (xs.take k))
  have HPX : Hid (pts xs = pts xs) := rfl
  clear okS okV hd
  generalize fromS a = S at *
  generalize ((fromE a : Nat) : Int) = ea at *
  generalize fromS (pts xs) = V at *
  generalize ((fromE (pts xs) : Nat) : Int) = ev at *
  generalize has S n = bh at *
  generalize count S = cs at *
  generalize nextV S n = nv at *
  generalize decide (S = V) = bq at *
  have q1 : (ea != ea) = false := by simp
  have q2 : (bh != bh) = false := by cases bh <;> rfl
  have q3 : (cs != cs) = false := by simp
  have q4 : (nv != nv) = false := by simp
  have q5 : (ev == ev) = true := by simp
  have q6 : (bq == bq) = true := by cases bq <;> rfl
  clear lP lV
  go_enter Tryz.func7, Tryz.ntmps7
  go_wp2_with fail
  refine (HK.out _ (by first | exact Below.refl _ _ | exact below_new _ _)).mono ?_; rintro e w1 ⟨rfl, b⟩
  have b' : Below w.heap.size w w1 := Below.tr (by first | exact Below.refl _ _ | exact below_new _ _) b
  clear b
  have ra1 := Lib.hid (RA.out.below b'); clear RA
  have rx1 := Lib.hid (RX.out.below b'); clear RX
  have B1 := Lib.hid b'
  clear b'
  go_wp2_with fail
  refine (HO.out _ (ra1.out.below (by first | exact Below.refl _ _ | exact below_new _ _))).mono ?_; rintro e w2 ⟨O1, o1, rfl, ho, b⟩
  have b' : Below w1.heap.size w1 w2 := Below.tr (by first | exact Below.refl _ _ | exact below_new _ _) b
  clear b
  have ra2 := Lib.hid (ra1.out.below b'); clear ra1
  have rx2 := Lib.hid (rx1.out.below b'); clear rx1
  have B2 := Lib.hid (B1.out.tr b'); clear B1
  clear b'
  have o_O12 := Lib.hid ((RdR.of_own ho).1)
  have s_O1 := Lib.hid (SlR.of_own ho); clear ho
  go_wp2_with fail
  refine (HF.out O1 o1 _ (o_O12.out.below (by first | exact Below.refl _ _ | exact below_new _ _)) s_O1.out).mono ?_; rintro e w3 ⟨X, x, rfl, hR, hs', ht', b⟩
  have b' : Below w2.heap.size w2 w3 := Below.tr (by first | exact Below.refl _ _ | exact below_new _ _) b
  clear b
  have ra3 := Lib.hid (ra2.out.below b'); clear ra2
  have rx3 := Lib.hid (rx2.out.below b'); clear rx2
  have o_O13 := Lib.hid (o_O12.out.below b'); clear o_O12
  have B3 := Lib.hid (B2.out.tr b'); clear B2
  clear b'
  have r_X3 := Lib.hid hR; clear hR
  have s_X := Lib.hid hs'; clear hs' ht'
  clear o_O13
  go_wp2_with fail
  have ra4 := Lib.hid (ra3.out.below (below_new w3 (.cells #[.slice X S.length x] 26))); clear ra3
  have rx4 := Lib.hid (rx3.out.below (below_new w3 (.cells #[.slice X S.length x] 26))); clear rx3
  have r_X4 := Lib.hid (r_X3.out.below (below_new w3 (.cells #[.slice X S.length x] 26))); clear r_X3
  have B4 := Lib.hid (B3.out.tr (below_new w3 (.cells #[.slice X S.length x] 26))); clear B3
  have bx4 := Lib.hid (blk_new w3 (.cells #[.slice X S.length x] 26))
  refine (HR.out _ (ra4.out.below (by first | exact Below.refl _ _ | exact below_new _ _))).mono ?_; rintro e w5 ⟨Y, y, rfl, hR, ht', b⟩
  have b' : Below (w3.alloc (.cells #[.slice X S.length x] 26)).heap.size (w3.alloc (.cells #[.slice X S.length x] 26)) w5 := Below.tr (by first | exact Below.refl _ _ | exact below_new _ _) b
  clear b
  have ra5 := Lib.hid (ra4.out.below b'); clear ra4
  have rx5 := Lib.hid (rx4.out.below b'); clear rx4
  have r_X5 := Lib.hid (r_X4.out.below b'); clear r_X4
  have bx5 := Lib.hid (blk_below b' bx4.out); clear bx4
  have B5 := Lib.hid (B4.out.tr b'); clear B4
  clear b'
  have r_Y5 := Lib.hid hR; clear hR
  clear ht'
  have cbx0 := blk_cell bx5.out 0
  have pbx := blk_lt bx5.out
  go_wp2_with fail
  clear cbx0 pbx
  refine (HI.out X x Y y _ (r_X5.out.below (by first | exact Below.refl _ _ | exact below_new _ _)) s_X.out (r_Y5.out.below (by first | exact Below.refl _ _ | exact below_new _ _))).mono ?_; rintro e w6 ⟨rfl, b⟩
  have b' : Below w5.heap.size w5 w6 := Below.tr (by first | exact Below.refl _ _ | exact below_new _ _) b
  clear b
  have ra6 := Lib.hid (ra5.out.below b'); clear ra5
  have rx6 := Lib.hid (rx5.out.below b'); clear rx5
  have r_X6 := Lib.hid (r_X5.out.below b'); clear r_X5
  have r_Y6 := Lib.hid (r_Y5.out.below b'); clear r_Y5
  have bx6 := Lib.hid (blk_below b' bx5.out); clear bx5
  have B6 := Lib.hid (B5.out.tr b'); clear B5
  clear b'
  have cbx0 := blk_cell bx6.out 0
  have pbx := blk_lt bx6.out
  go_wp2_with fail
  clear cbx0 pbx
  refine (HH.out X x _ (r_X6.out.below (by first | exact Below.refl _ _ | exact below_new _ _))).mono ?_; rintro e w7 ⟨rfl, b⟩
  have b' : Below w6.heap.size w6 w7 := Below.tr (by first | exact Below.refl _ _ | exact below_new _ _) b
  clear b
  have ra7 := Lib.hid (ra6.out.below b'); clear ra6
  have rx7 := Lib.hid (rx6.out.below b'); clear rx6
  have r_X7 := Lib.hid (r_X6.out.below b'); clear r_X6
  have r_Y7 := Lib.hid (r_Y6.out.below b'); clear r_Y6
  have bx7 := Lib.hid (blk_below b' bx6.out); clear bx6
  have B7 := Lib.hid (B6.out.tr b'); clear B6
  clear b'
  have cbx0 := blk_cell bx7.out 0
  have pbx := blk_lt bx7.out
  go_wp2_with fail
  clear cbx0 pbx
  refine (HRH.out Y y _ (r_Y7.out.below (by first | exact Below.refl _ _ | exact below_new _ _))).mono ?_; rintro e w8 ⟨rfl, rfl⟩
  have cbx0 := blk_cell bx7.out 0
  have pbx := blk_lt bx7.out
  go_wp2_with fail
  clear cbx0 pbx
  refine (HC.out X x _ (r_X7.out.below (by first | exact Below.refl _ _ | exact below_new _ _))).mono ?_; rintro e w9 ⟨rfl, b⟩
  have b' : Below w7.heap.size w7 w9 := Below.tr (by first | exact Below.refl _ _ | exact below_new _ _) b
  clear b
  have ra9 := Lib.hid (ra7.out.below b'); clear ra7
  have rx9 := Lib.hid (rx7.out.below b'); clear rx7
  have r_X9 := Lib.hid (r_X7.out.below b'); clear r_X7
  have r_Y9 := Lib.hid (r_Y7.out.below b'); clear r_Y7
  have bx9 := Lib.hid (blk_below b' bx7.out); clear bx7
  have B9 := Lib.hid (B7.out.tr b'); clear B7
  clear b'
  have cbx0 := blk_cell bx9.out 0
  have pbx := blk_lt bx9.out
  go_wp2_with fail
  clear cbx0 pbx
  refine (HRC.out Y y _ (r_Y9.out.below (by first | exact Below.refl _ _ | exact below_new _ _))).mono ?_; rintro e w10 ⟨rfl, b⟩
  have b' : Below w9.heap.size w9 w10 := Below.tr (by first | exact Below.refl _ _ | exact below_new _ _) b
  clear b
  have ra10 := Lib.hid (ra9.out.below b'); clear ra9
  have rx10 := Lib.hid (rx9.out.below b'); clear rx9
  have r_X10 := Lib.hid (r_X9.out.below b'); clear r_X9
  have r_Y10 := Lib.hid (r_Y9.out.below b'); clear r_Y9
  have bx10 := Lib.hid (blk_below b' bx9.out); clear bx9
  have B10 := Lib.hid (B9.out.tr b'); clear B9
  clear b'
  have cbx0 := blk_cell bx10.out 0
  have pbx := blk_lt bx10.out
  go_wp2_with fail
  clear cbx0 pbx
  refine (HN.out X x _ (r_X10.out.below (by first | exact Below.refl _ _ | exact below_new _ _))).mono ?_; rintro e w11 ⟨rfl, b⟩
  have b' : Below w10.heap.size w10 w11 := Below.tr (by first | exact Below.refl _ _ | exact below_new _ _) b
  clear b
  have ra11 := Lib.hid (ra10.out.below b'); clear ra10
  have rx11 := Lib.hid (rx10.out.below b'); clear rx10
  have r_X11 := Lib.hid (r_X10.out.below b'); clear r_X10
  have r_Y11 := Lib.hid (r_Y10.out.below b'); clear r_Y10
  have bx11 := Lib.hid (blk_below b' bx10.out); clear bx10
  have B11 := Lib.hid (B10.out.tr b'); clear B10
  clear b'
  have cbx0 := blk_cell bx11.out 0
  have pbx := blk_lt bx11.out
  go_wp2_with fail
  clear cbx0 pbx
  refine (HRN.out Y y _ (r_Y11.out.below (by first | exact Below.refl _ _ | exact below_new _ _))).mono ?_; rintro e w12 ⟨rfl, b⟩
  have b' : Below w11.heap.size w11 w12 := Below.tr (by first | exact Below.refl _ _ | exact below_new _ _) b
  clear b
  have ra12 := Lib.hid (ra11.out.below b'); clear ra11
  have rx12 := Lib.hid (rx11.out.below b'); clear rx11
  have r_X12 := Lib.hid (r_X11.out.below b'); clear r_X11
  have r_Y12 := Lib.hid (r_Y11.out.below b'); clear r_Y11
  have bx12 := Lib.hid (blk_below b' bx11.out); clear bx11
  have B12 := Lib.hid (B11.out.tr b'); clear B11
  clear b'
  go_wp2_with fail
  obtain ⟨i0, hi, hz0, hz1, hz2⟩ := info_parts rg_info
  go_loopg [11, 12] xs.length (fun gg ov iv wr => ∃ (i : Nat) (C : Option Addr) (f : Nat) (q : List Rg), i ≤ xs.length ∧ xs.length - i ≤ gg ∧ iv = .int .i64 i ∧ ov = .slice C q.length f ∧ Hid (wr.ownsRow w12.heap.size 37 2 (.slice C q.length f) q.length (flat q)) ∧ Hid (q = pts (xs.take i)) ∧ q.length = i ∧ Below w12.heap.size w12 wr)
  case atStart => exact ⟨0, none, 0, [], by omega, by omega, rfl, rfl, own2_nil _ _ _ _, rfl, rfl, Below.refl _ _⟩
  case round =>
    obtain ⟨i, C, f, q, hii, hgi, rfl, rfl, O, Q, rfl, hB⟩ := hrel
    by_cases hlt : q.length < xs.length
    · obtain ⟨b1, o1, x, hN, _, hxi, hxc⟩ := rx12.out.at_ hlt
      subst hN
      have hpt := HPT.out q.length x hxi
      rw [← Q.out] at hpt
      have HQ := Lib.hid hpt
      clear hpt hxi Q
      have hsz := hB.size
      have hi0 : (0 : Int) ≤ (q.length : Int) := by omega
      have hi1 : (q.length : Int) < (xs.length : Int) := by omega
      go_wp2_with fail
      refine Flow.wp_region_segs (fun u v => Below w12.heap.size u v) (fun _ => Below.refl _ _) (fun u v x h k => Below.trans h k) [([0, 1, 2, 3, 4, 5, 6, 7, 8, 9], 10), ([], 11)] [12] (by kernel_rfl) (by kernel_rfl) ?_
      have HBD := Lib.hid hB.drew
      have HOD := Lib.hid (own_below O.out (Below.refl _ _).drew)
      have HXC := Lib.hid hxc
      clear O hB hxc
      generalize World.drew wr = wd at *
      have q1 : ∀ t : Flow.Cls (fun v => Below w12.heap.size wd v), t.val.cell? ⟨b1, o1 + q.length, none⟩ = some (i64 x) := fun t => Below.cellv (HBD.out.trans t.ok) HXC.out
      haveI nonE : Nonempty (Flow.Cls (fun v => Below w12.heap.size wd v)) := ⟨⟨wd, Below.refl _ _⟩⟩
      rw [Flow.wpSegs_cons]
      simp only [Flow.pick, List.getElem?_toArray, List.getElem?_cons_succ, List.getElem?_cons_zero]
      repeat go_big_quiet_step (fail)
      refine wpQuiet_nil ?_
      clear nonE q1
      rw [Flow.callAt_eq]
      simp only [List.getElem?_toArray, List.getElem?_cons_succ, List.getElem?_cons_zero]
      rw [if_pos (by rfl)]
      refine Flow.wp_behind (fun K0 hK => ?_)
      go_wp2_with fail
      refine hK.out _ _ ⟨(Below.refl _ _).alloc HBD.out.size _, ?_⟩
      clear hK K0
      rw [Flow.wpSegs_cons]
      simp only [Flow.pick]
      refine wpQuiet_nil ?_
      rw [Flow.callAt_eq]
      simp only [List.getElem?_toArray, List.getElem?_cons_succ, List.getElem?_cons_zero]
      rw [if_pos (by rfl)]
      refine Flow.wp_behind (fun K0 hK => ?_)
      refine wp_append_own _ _ _ 22 rfl w12.heap.size 37 i0 (.agg #[i64 0, i64 0]) 2 16 Tryz.underlying22 hi hz0 hz1 hz2 rfl (by decide) (.slice C q.length f) q.length (flat q) rfl (own_below HOD.out (below_new _ _)) ⟨wd.heap.size, 0, none⟩ 1 1 [i64 x, i64 x] rfl rfl ?c1 ?c2 ?c3 ?c4 ?c5 ?_
      case c1 =>
        intro j u hj
        rw [addr_addN, new_cell _ _ _ _ _ rfl]
        simpa using hj
      case c2 => intro u hu; simp at hu; rw [hu]; rfl
      case c3 => unfold maxLen; omega
      case c4 => omega
      case c5 => have := HBD.out.size; simp; omega
      intro v' w2 hown2 hg2 _
      obtain ⟨A3, c3, rfl⟩ := own2_slice hown2
      have b2 := own_grown_below (own_below HOD.out (below_new _ (.cells #[i64 x, i64 x] 37))) (by have := HBD.out.size; simp; omega) hg2
      rw [show flat q ++ [i64 x, i64 x] = flat (q ++ [(x, x)]) by rw [flat_append, flat_one]] at hown2
      refine hK.out _ _ ⟨b2, ?_⟩
      clear hK K0
      have HO2 := Lib.hid hown2
      have HB2 := Lib.hid ((HBD.out.alloc HBD.out.size (.cells #[i64 x, i64 x] 37)).trans b2)
      have hl3 : (q ++ [(x, x)]).length = q.length + 1 := by simp
      have HL3 := Lib.hid hl3
      clear hown2 hg2 b2 hl3
      haveI nonE : Nonempty (Flow.Cls (fun v => Below w12.heap.size w2 v)) := ⟨⟨w2, Below.refl _ _⟩⟩
      simp only [Act.put, List.setIfInBounds_toArray, List.set_cons_succ, List.set_cons_zero]
      rw [Flow.wpSegs_nil]
      simp only [Flow.pick, List.getElem?_toArray, List.getElem?_cons_succ, List.getElem?_cons_zero]
      repeat go_big_quiet_step (fail)
      refine wpQuiet_nil ?_
      clear nonE
      go_wp2_with fail
      go_roundg (xs.length - (q.length + 1))
      case measure => omega
      case rel => exact ⟨q.length + 1, A3, c3, q ++ [(x, x)], by omega, by omega, by go_num, by rw [HL3.out], by rw [HL3.out]; exact HO2, HQ.out.symm, HL3.out, HB2.out⟩
    · have hqe : Hid (q = pts xs) := by
        show q = _
        rw [Q.out, List.take_of_length_le (by omega)]
      have RQ := Lib.hid (RdR.of_own O.out).1
      have hB' := hB
      clear O Q hB
    -- behind the loop
      have ra13 := Lib.hid (ra12.out.below hB'); clear ra12
      have rx13 := Lib.hid (rx12.out.below hB'); clear rx12
      have r_X13 := Lib.hid (r_X12.out.below hB'); clear r_X12
      have r_Y13 := Lib.hid (r_Y12.out.below hB'); clear r_Y12
      have bx13 := Lib.hid (blk_below hB' bx12.out); clear bx12
      have B13 := Lib.hid (B12.out.tr hB'); clear B12
      clear hB'
      go_wp2_with fail
      refine (HOf.out _ (rx13.out.below (by first | exact Below.refl _ _ | exact below_new _ _))).mono ?_; rintro e w14 ⟨Z, z, rfl, hR, hs', ht', b⟩
      have b' : Below wr.heap.size wr w14 := Below.tr (by first | exact Below.refl _ _ | exact below_new _ _) b
      clear b
      have ra14 := Lib.hid (ra13.out.below b'); clear ra13
      have rx14 := Lib.hid (rx13.out.below b'); clear rx13
      have r_X14 := Lib.hid (r_X13.out.below b'); clear r_X13
      have r_Y14 := Lib.hid (r_Y13.out.below b'); clear r_Y13
      have q_14 := Lib.hid (RQ.out.below b'); clear RQ
      have bx14 := Lib.hid (blk_below b' bx13.out); clear bx13
      have B14 := Lib.hid (B13.out.tr b'); clear B13
      clear b'
      have r_Z14 := Lib.hid hR; clear hR
      have s_Z := Lib.hid hs'; clear hs' ht'
      go_wp2_with fail
      have ra15 := Lib.hid (ra14.out.below (below_new w14 (.cells #[.slice Z V.length z] 26))); clear ra14
      have rx15 := Lib.hid (rx14.out.below (below_new w14 (.cells #[.slice Z V.length z] 26))); clear rx14
      have r_X15 := Lib.hid (r_X14.out.below (below_new w14 (.cells #[.slice Z V.length z] 26))); clear r_X14
      have r_Y15 := Lib.hid (r_Y14.out.below (below_new w14 (.cells #[.slice Z V.length z] 26))); clear r_Y14
      have q_15 := Lib.hid (q_14.out.below (below_new w14 (.cells #[.slice Z V.length z] 26))); clear q_14
      have r_Z15 := Lib.hid (r_Z14.out.below (below_new w14 (.cells #[.slice Z V.length z] 26))); clear r_Z14
      have bx15 := Lib.hid (blk_below (below_new w14 (.cells #[.slice Z V.length z] 26)) bx14.out); clear bx14
      have B15 := Lib.hid (B14.out.tr (below_new w14 (.cells #[.slice Z V.length z] 26))); clear B14
      have bz15 := Lib.hid (blk_new w14 (.cells #[.slice Z V.length z] 26))
      refine (HRV.out C f q _ hqe.out (q_15.out.below (by first | exact Below.refl _ _ | exact below_new _ _))).mono ?_; rintro e w16 ⟨U, u, rfl, hR, ht', b⟩
      have b' : Below (w14.alloc (.cells #[.slice Z V.length z] 26)).heap.size (w14.alloc (.cells #[.slice Z V.length z] 26)) w16 := Below.tr (by first | exact Below.refl _ _ | exact below_new _ _) b
      clear b
      have ra16 := Lib.hid (ra15.out.below b'); clear ra15
      have rx16 := Lib.hid (rx15.out.below b'); clear rx15
      have r_X16 := Lib.hid (r_X15.out.below b'); clear r_X15
      have r_Y16 := Lib.hid (r_Y15.out.below b'); clear r_Y15
      have q_16 := Lib.hid (q_15.out.below b'); clear q_15
      have r_Z16 := Lib.hid (r_Z15.out.below b'); clear r_Z15
      have bx16 := Lib.hid (blk_below b' bx15.out); clear bx15
      have bz16 := Lib.hid (blk_below b' bz15.out); clear bz15
      have B16 := Lib.hid (B15.out.tr b'); clear B15
      clear b'
      have r_U16 := Lib.hid hR; clear hR
      clear ht'
      have cbz0 := blk_cell bz16.out 0
      have pbz := blk_lt bz16.out
      go_wp2_with fail
      clear cbz0 pbz
      refine (HIV.out Z z U u _ (r_Z16.out.below (by first | exact Below.refl _ _ | exact below_new _ _)) s_Z.out (r_U16.out.below (by first | exact Below.refl _ _ | exact below_new _ _))).mono ?_; rintro e w17 ⟨rfl, b⟩
      have b' : Below w16.heap.size w16 w17 := Below.tr (by first | exact Below.refl _ _ | exact below_new _ _) b
      clear b
      have ra17 := Lib.hid (ra16.out.below b'); clear ra16
      have rx17 := Lib.hid (rx16.out.below b'); clear rx16
      have r_X17 := Lib.hid (r_X16.out.below b'); clear r_X16
      have r_Y17 := Lib.hid (r_Y16.out.below b'); clear r_Y16
      have q_17 := Lib.hid (q_16.out.below b'); clear q_16
      have r_Z17 := Lib.hid (r_Z16.out.below b'); clear r_Z16
      have r_U17 := Lib.hid (r_U16.out.below b'); clear r_U16
      have bx17 := Lib.hid (blk_below b' bx16.out); clear bx16
      have bz17 := Lib.hid (blk_below b' bz16.out); clear bz16
      have B17 := Lib.hid (B16.out.tr b'); clear B16
      clear b'
      have cbx0 := blk_cell bx17.out 0
      have pbx := blk_lt bx17.out
      have cbz0 := blk_cell bz17.out 0
      have pbz := blk_lt bz17.out
      go_wp2_with fail
      clear cbx0 pbx cbz0 pbz
      refine (HE.out X Z x z _ (r_X17.out.below (by first | exact Below.refl _ _ | exact below_new _ _)) (r_Z17.out.below (by first | exact Below.refl _ _ | exact below_new _ _))).mono ?_; rintro e w18 ⟨rfl, b⟩
      have b' : Below w17.heap.size w17 w18 := Below.tr (by first | exact Below.refl _ _ | exact below_new _ _) b
      clear b
      have ra18 := Lib.hid (ra17.out.below b'); clear ra17
      have rx18 := Lib.hid (rx17.out.below b'); clear rx17
      have r_X18 := Lib.hid (r_X17.out.below b'); clear r_X17
      have r_Y18 := Lib.hid (r_Y17.out.below b'); clear r_Y17
      have q_18 := Lib.hid (q_17.out.below b'); clear q_17
      have r_Z18 := Lib.hid (r_Z17.out.below b'); clear r_Z17
      have r_U18 := Lib.hid (r_U17.out.below b'); clear r_U17
      have bx18 := Lib.hid (blk_below b' bx17.out); clear bx17
      have bz18 := Lib.hid (blk_below b' bz17.out); clear bz17
      have B18 := Lib.hid (B17.out.tr b'); clear B17
      clear b'
      have cbx0 := blk_cell bx18.out 0
      have pbx := blk_lt bx18.out
      have cbz0 := blk_cell bz18.out 0
      have pbz := blk_lt bz18.out
      go_wp2_with fail
      clear cbx0 pbx cbz0 pbz
      refine (HS.out Y U y u _ (r_Y18.out.below (by first | exact Below.refl _ _ | exact below_new _ _)) (r_U18.out.below (by first | exact Below.refl _ _ | exact below_new _ _))).mono ?_; rintro e w19 ⟨rfl, b⟩
      have b' : Below w18.heap.size w18 w19 := Below.tr (by first | exact Below.refl _ _ | exact below_new _ _) b
      clear b
      have ra19 := Lib.hid (ra18.out.below b'); clear ra18
      have rx19 := Lib.hid (rx18.out.below b'); clear rx18
      have r_X19 := Lib.hid (r_X18.out.below b'); clear r_X18
      have r_Y19 := Lib.hid (r_Y18.out.below b'); clear r_Y18
      have q_19 := Lib.hid (q_18.out.below b'); clear q_18
      have r_Z19 := Lib.hid (r_Z18.out.below b'); clear r_Z18
      have r_U19 := Lib.hid (r_U18.out.below b'); clear r_U18
      have bx19 := Lib.hid (blk_below b' bx18.out); clear bx18
      have bz19 := Lib.hid (blk_below b' bz18.out); clear bz18
      have B19 := Lib.hid (B18.out.tr b'); clear B18
      clear b'
      go_wp2_with fail
      go_ret
      exact ⟨rfl, (B19.out.tr (by first | exact Below.refl _ _ | exact below_new _ _))⟩
end Go.Proofs.YtcpennlojjlpaaaGreatDoor
