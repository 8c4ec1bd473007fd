/- The walk of the statement NewsrcText. -/
import Derived.Test.YtcpennlojjlpaaaGreatDoorNxP
import Derived.Test.YtcpennlojjlpaaaGreatDoorNxG
namespace Go.Proofs.YtcpennlojjlpaaaGreatDoor
open Go.RowKit Go.Nr Go.Gn

theorem fromS_norm46 {a : List Rg} (h : fromE a = 0) : fromS a = norm a ∧ ∀ r ∈ a, ok r := by
  unfold fromE at h
  cases h1 : a.all okB with
  | true => exact ⟨by unfold fromS; rw [h1]; rfl, fun r hr => (okB_iff r).1 (List.all_eq_true.1 h1 r hr)⟩
  | false => rw [h1] at h; cases h
theorem normal_yes46 {a : List Rg} (h : fromE a = 0) (hn : a.length ≤ 60) (A : Option Addr) (c : Nat) (W : World) (hr : RdR W A a) :
    Calls Tryz.prog 18 #[.slice A a.length c] W (GivesRow 37 W.heap.size W (fromS a)) := by
  have h2 := fromS_norm46 h
  rw [h2.1]
  exact refNormal_any A c a W hr (by omega) fun r hr => by
    obtain ⟨z1, z2, z3⟩ := h2.2 r hr
    exact ⟨by omega, z3⟩
theorem setT_nil' : setT [] = [] := setT_nil.2 rfl

set_option maxRecDepth 100000 in
set_option maxHeartbeats 16000000 in
theorem newsrcText_walk (A : Option Addr) (c : Nat) (a : List Rg) (w : World) (ha : RdR w A a) (hE : Env w) (hT : Tab w) :
    Calls Tryz.prog 11 #[.slice A a.length c] w fun e w' => e = .returned (.bool true) ∧ Below w.heap.size w w' := by
  have HK := Lib.hid (fun W (h : Below w.heap.size w W) => known_any W (hE.below h) (hT.below h))
  have HTb := Lib.hid (fun W (h : Below w.heap.size w W) => hT.below h)
  have HEv := Lib.hid (fun W (h : Below w.heap.size w W) => hE.below h)
  have RA := Lib.hid ha
  clear ha hE hT
  by_cases h60 : 60 < a.length
  · go_enter Tryz.func11, Tryz.ntmps11
    go_wp2_with fail
    refine (HK.out _ (by first | exact Below.refl _ _ | exact below_new _ _)).mono ?_; rintro e w1 ⟨rfl, b⟩
    have b' : Below w.heap.size w w1 := Below.tr (by first | exact Below.refl _ _ | exact below_new _ _) b
    clear b
    have ra1 := Lib.hid (RA.out.below b'); clear RA
    have B1 := Lib.hid b'
    clear b'
    go_wp2_with fail
    refine (HK.out _ (B1.out.tr (by first | exact Below.refl _ _ | exact below_new _ _))).mono ?_; rintro e w2 ⟨rfl, b⟩
    have b' : Below w1.heap.size w1 w2 := Below.tr (by first | exact Below.refl _ _ | exact below_new _ _) b
    clear b
    have ra2 := Lib.hid (ra1.out.below b'); clear ra1
    have B2 := Lib.hid (B1.out.tr b'); clear B1
    clear b'
    go_wp2_with fail
    go_ret
    exact ⟨rfl, (B2.out.tr (by first | exact Below.refl _ _ | exact below_new _ _))⟩
  have HO1 := Lib.hid (fun W (h : RdR W A a) => own_any46 A c a W h (by omega))
  rcases fromE_cases a with ⟨ea, okS⟩ | ⟨ea, eS⟩
  case inr =>
    have HF1 := Lib.hid (fun O o W (h : RdR W O a) (h2 : SlR O o a.length) => fromR_no ea eS (by omega) O o W h h2)
    have HTx := Lib.hid (fun X x W (h : RdR W X ([] : List Rg)) (ht : Tab W) => text_any X x [] W h (by simp) (by simp) ht)
    have HC := Lib.hid (fun X x W (h : RdR W X ([] : List Rg)) => count_any X x [] W h (by simp) (by simp))
    rw [setT_nil'] at HTx
    rw [count_nil] at HC
    clear ea eS
    go_enter Tryz.func11, Tryz.ntmps11
    go_wp2_with fail
    refine (HK.out _ (by first | exact Below.refl _ _ | exact below_new _ _)).mono ?_; rintro e w1 ⟨rfl, b⟩
    have b' : Below w.heap.size w w1 := Below.tr (by first | exact Below.refl _ _ | exact below_new _ _) b
    clear b
    have ra1 := Lib.hid (RA.out.below b'); clear RA
    have B1 := Lib.hid b'
    clear b'
    go_wp2_with fail
    refine (HO1.out _ (ra1.out.below (by first | exact Below.refl _ _ | exact below_new _ _))).mono ?_; rintro e w2 ⟨O1, o1, rfl, ho, b⟩
    have b' : Below w1.heap.size w1 w2 := Below.tr (by first | exact Below.refl _ _ | exact below_new _ _) b
    clear b
    have ra2 := Lib.hid (ra1.out.below b'); clear ra1
    have B2 := Lib.hid (B1.out.tr b'); clear B1
    clear b'
    have o_O12 := Lib.hid ((RdR.of_own ho).1)
    have s_O1 := Lib.hid (SlR.of_own ho); clear ho
    go_wp2_with fail
    refine (HF1.out O1 o1 _ (o_O12.out.below (by first | exact Below.refl _ _ | exact below_new _ _)) s_O1.out).mono ?_; rintro e w3 ⟨X, x, rfl, hR, hs', ht', b⟩
    have b' : Below w2.heap.size w2 w3 := Below.tr (by first | exact Below.refl _ _ | exact below_new _ _) b
    clear b
    have ra3 := Lib.hid (ra2.out.below b'); clear ra2
    have o_O13 := Lib.hid (o_O12.out.below b'); clear o_O12
    have B3 := Lib.hid (B2.out.tr b'); clear B2
    clear b'
    have r_X3 := Lib.hid hR; clear hR
    have s_X := Lib.hid hs'; clear hs' ht'
    clear o_O13
    go_wp2_with fail
    have ra4 := Lib.hid (ra3.out.below (below_new w3 (.cells #[.slice X (([] : List Rg)).length x] 26))); clear ra3
    have r_X4 := Lib.hid (r_X3.out.below (below_new w3 (.cells #[.slice X (([] : List Rg)).length x] 26))); clear r_X3
    have B4 := Lib.hid (B3.out.tr (below_new w3 (.cells #[.slice X (([] : List Rg)).length x] 26))); clear B3
    have bx4 := Lib.hid (blk_new w3 (.cells #[.slice X (([] : List Rg)).length x] 26))
    refine (HTx.out X x _ (r_X4.out.below (by first | exact Below.refl _ _ | exact below_new _ _)) (HTb.out _ (B4.out.tr (by first | exact Below.refl _ _ | exact below_new _ _)))).mono ?_; rintro e w5 ⟨rfl, b⟩
    have b' : Below (w3.alloc (.cells #[.slice X (([] : List Rg)).length x] 26)).heap.size (w3.alloc (.cells #[.slice X (([] : List Rg)).length x] 26)) w5 := Below.tr (by first | exact Below.refl _ _ | exact below_new _ _) b
    clear b
    have ra5 := Lib.hid (ra4.out.below b'); clear ra4
    have r_X5 := Lib.hid (r_X4.out.below b'); clear r_X4
    have bx5 := Lib.hid (blk_below b' bx4.out); clear bx4
    have B5 := Lib.hid (B4.out.tr b'); clear B4
    clear b'
    have cbx0 := blk_cell bx5.out 0
    have pbx := blk_lt bx5.out
    go_wp2_with fail
    clear cbx0 pbx
    refine (HC.out X x _ (r_X5.out.below (by first | exact Below.refl _ _ | exact below_new _ _))).mono ?_; rintro e w6 ⟨rfl, b⟩
    have b' : Below w5.heap.size w5 w6 := Below.tr (by first | exact Below.refl _ _ | exact below_new _ _) b
    clear b
    have ra6 := Lib.hid (ra5.out.below b'); clear ra5
    have r_X6 := Lib.hid (r_X5.out.below b'); clear r_X5
    have bx6 := Lib.hid (blk_below b' bx5.out); clear bx5
    have B6 := Lib.hid (B5.out.tr b'); clear B5
    clear b'
    go_wp2_with fail
    go_ret
    exact ⟨rfl, (B6.out.tr (by first | exact Below.refl _ _ | exact below_new _ _))⟩
  have HF1 := Lib.hid (fun O o W (h : RdR W O a) (h2 : SlR O o a.length) => fromR_yes ea (by omega) O o W h h2)
  have lS := fromS_length a
  have HM := Lib.hid (fun W (h : RdR W A a) => normal_yes46 ea (by omega) A c W h)
  clear ea
  generalize fromS a = S at *
  have HTx := Lib.hid (fun X x W (h : RdR W X S) (ht : Tab W) => text_any X x S W h okS.2 (by omega) ht)
  have HRT := Lib.hid (fun X x W (h : RdR W X S) => refText_any X x S W h okS.2 (by omega))
  have hlen := setT_len okS.2
  have hpl := parts_length_le 44 (setT S)
  have HPS := Lib.hid (fun W (h : Env W) => parseSet_any (setT S) W h (by omega) (by omega))
  have hps := ps_inl (pset_text okS.1 okS.2)
  rw [hps.1, hps.2.1, hps.2.2] at HPS
  have HES := Lib.hid (fun X Y x y W (h1 : RdR W X S) (h2 : RdR W Y S) => equalSets_any X Y x y S S W h1 h2 (by omega) (by omega))
  rw [decide_eq_true rfl] at HES
  clear hps hpl hlen okS
  generalize setT S = t at *
  have q1 : (t == t) = true := by simp
  go_enter Tryz.func11, Tryz.ntmps11
  go_wp2_with fail
  refine (HK.out _ (by first | exact Below.refl _ _ | exact below_new _ _)).mono ?_; rintro e w1 ⟨rfl, b⟩
  have b' : Below w.heap.size w w1 := Below.tr (by first | exact Below.refl _ _ | exact below_new _ _) b
  clear b
  have ra1 := Lib.hid (RA.out.below b'); clear RA
  have B1 := Lib.hid b'
  clear b'
  go_wp2_with fail
  refine (HO1.out _ (ra1.out.below (by first | exact Below.refl _ _ | exact below_new _ _))).mono ?_; rintro e w2 ⟨O1, o1, rfl, ho, b⟩
  have b' : Below w1.heap.size w1 w2 := Below.tr (by first | exact Below.refl _ _ | exact below_new _ _) b
  clear b
  have ra2 := Lib.hid (ra1.out.below b'); clear ra1
  have B2 := Lib.hid (B1.out.tr b'); clear B1
  clear b'
  have o_O12 := Lib.hid ((RdR.of_own ho).1)
  have s_O1 := Lib.hid (SlR.of_own ho); clear ho
  go_wp2_with fail
  refine (HF1.out O1 o1 _ (o_O12.out.below (by first | exact Below.refl _ _ | exact below_new _ _)) s_O1.out).mono ?_; rintro e w3 ⟨X, x, rfl, hR, hs', ht', b⟩
  have b' : Below w2.heap.size w2 w3 := Below.tr (by first | exact Below.refl _ _ | exact below_new _ _) b
  clear b
  have ra3 := Lib.hid (ra2.out.below b'); clear ra2
  have o_O13 := Lib.hid (o_O12.out.below b'); clear o_O12
  have B3 := Lib.hid (B2.out.tr b'); clear B2
  clear b'
  have r_X3 := Lib.hid hR; clear hR
  have s_X := Lib.hid hs'; clear hs' ht'
  clear o_O13
  go_wp2_with fail
  have ra4 := Lib.hid (ra3.out.below (below_new w3 (.cells #[.slice X S.length x] 26))); clear ra3
  have r_X4 := Lib.hid (r_X3.out.below (below_new w3 (.cells #[.slice X S.length x] 26))); clear r_X3
  have B4 := Lib.hid (B3.out.tr (below_new w3 (.cells #[.slice X S.length x] 26))); clear B3
  have bx4 := Lib.hid (blk_new w3 (.cells #[.slice X S.length x] 26))
  refine (HTx.out X x _ (r_X4.out.below (by first | exact Below.refl _ _ | exact below_new _ _)) (HTb.out _ (B4.out.tr (by first | exact Below.refl _ _ | exact below_new _ _)))).mono ?_; rintro e w5 ⟨rfl, b⟩
  have b' : Below (w3.alloc (.cells #[.slice X S.length x] 26)).heap.size (w3.alloc (.cells #[.slice X S.length x] 26)) w5 := Below.tr (by first | exact Below.refl _ _ | exact below_new _ _) b
  clear b
  have ra5 := Lib.hid (ra4.out.below b'); clear ra4
  have r_X5 := Lib.hid (r_X4.out.below b'); clear r_X4
  have bx5 := Lib.hid (blk_below b' bx4.out); clear bx4
  have B5 := Lib.hid (B4.out.tr b'); clear B4
  clear b'
  go_wp2_with fail
  refine (HPS.out _ (HEv.out _ (B5.out.tr (by first | exact Below.refl _ _ | exact below_new _ _)))).mono ?_; rintro e w6 ⟨Y, y, rfl, hR, hs', ht', b⟩
  have b' : Below w5.heap.size w5 w6 := Below.tr (by first | exact Below.refl _ _ | exact below_new _ _) b
  clear b
  have ra6 := Lib.hid (ra5.out.below b'); clear ra5
  have r_X6 := Lib.hid (r_X5.out.below b'); clear r_X5
  have bx6 := Lib.hid (blk_below b' bx5.out); clear bx5
  have B6 := Lib.hid (B5.out.tr b'); clear B5
  clear b'
  have r_Y6 := Lib.hid hR; clear hR
  clear hs' ht'
  have cbx0 := blk_cell bx6.out 0
  have pbx := blk_lt bx6.out
  go_wp2_with fail
  clear cbx0 pbx
  have ra7 := Lib.hid (ra6.out.below (below_new w6 (.cells #[.slice Y S.length y] 26))); clear ra6
  have r_X7 := Lib.hid (r_X6.out.below (below_new w6 (.cells #[.slice Y S.length y] 26))); clear r_X6
  have r_Y7 := Lib.hid (r_Y6.out.below (below_new w6 (.cells #[.slice Y S.length y] 26))); clear r_Y6
  have bx7 := Lib.hid (blk_below (below_new w6 (.cells #[.slice Y S.length y] 26)) bx6.out); clear bx6
  have B7 := Lib.hid (B6.out.tr (below_new w6 (.cells #[.slice Y S.length y] 26))); clear B6
  have by_7 := Lib.hid (blk_new w6 (.cells #[.slice Y S.length y] 26))
  refine (HTx.out X x _ (r_X7.out.below (by first | exact Below.refl _ _ | exact below_new _ _)) (HTb.out _ (B7.out.tr (by first | exact Below.refl _ _ | exact below_new _ _)))).mono ?_; rintro e w8 ⟨rfl, b⟩
  have b' : Below (w6.alloc (.cells #[.slice Y S.length y] 26)).heap.size (w6.alloc (.cells #[.slice Y S.length y] 26)) w8 := Below.tr (by first | exact Below.refl _ _ | exact below_new _ _) b
  clear b
  have ra8 := Lib.hid (ra7.out.below b'); clear ra7
  have r_X8 := Lib.hid (r_X7.out.below b'); clear r_X7
  have r_Y8 := Lib.hid (r_Y7.out.below b'); clear r_Y7
  have bx8 := Lib.hid (blk_below b' bx7.out); clear bx7
  have by_8 := Lib.hid (blk_below b' by_7.out); clear by_7
  have B8 := Lib.hid (B7.out.tr b'); clear B7
  clear b'
  go_wp2_with fail
  refine (HM.out _ (ra8.out.below (by first | exact Below.refl _ _ | exact below_new _ _))).mono ?_; rintro e w9 ⟨VV, vv, rfl, ho, b⟩
  have b' : Below w8.heap.size w8 w9 := Below.tr (by first | exact Below.refl _ _ | exact below_new _ _) b
  clear b
  have ra9 := Lib.hid (ra8.out.below b'); clear ra8
  have r_X9 := Lib.hid (r_X8.out.below b'); clear r_X8
  have r_Y9 := Lib.hid (r_Y8.out.below b'); clear r_Y8
  have bx9 := Lib.hid (blk_below b' bx8.out); clear bx8
  have by_9 := Lib.hid (blk_below b' by_8.out); clear by_8
  have B9 := Lib.hid (B8.out.tr b'); clear B8
  clear b'
  have v_VV9 := Lib.hid ((RdR.of_own ho).1)
  clear ho
  go_wp2_with fail
  refine (HRT.out VV vv _ (v_VV9.out.below (by first | exact Below.refl _ _ | exact below_new _ _))).mono ?_; rintro e w10 ⟨rfl, m, hm⟩
  have b' : Below w9.heap.size w9 w10 := by rw [hm]; exact (Below.refl _ _).drewN m
  clear hm
  have ra10 := Lib.hid (ra9.out.below b'); clear ra9
  have r_X10 := Lib.hid (r_X9.out.below b'); clear r_X9
  have r_Y10 := Lib.hid (r_Y9.out.below b'); clear r_Y9
  have v_VV10 := Lib.hid (v_VV9.out.below b'); clear v_VV9
  have bx10 := Lib.hid (blk_below b' bx9.out); clear bx9
  have by_10 := Lib.hid (blk_below b' by_9.out); clear by_9
  have B10 := Lib.hid (B9.out.tr b'); clear B9
  clear b'
  have cbx0 := blk_cell bx10.out 0
  have pbx := blk_lt bx10.out
  have cby_0 := blk_cell by_10.out 0
  have pby_ := blk_lt by_10.out
  go_wp2_with fail
  clear cbx0 pbx cby_0 pby_
  refine (HES.out X Y x y _ (r_X10.out.below (by first | exact Below.refl _ _ | exact below_new _ _)) (r_Y10.out.below (by first | exact Below.refl _ _ | exact below_new _ _))).mono ?_; rintro e w11 ⟨rfl, b⟩
  have b' : Below w10.heap.size w10 w11 := Below.tr (by first | exact Below.refl _ _ | exact below_new _ _) b
  clear b
  have ra11 := Lib.hid (ra10.out.below b'); clear ra10
  have r_X11 := Lib.hid (r_X10.out.below b'); clear r_X10
  have r_Y11 := Lib.hid (r_Y10.out.below b'); clear r_Y10
  have v_VV11 := Lib.hid (v_VV10.out.below b'); clear v_VV10
  have bx11 := Lib.hid (blk_below b' bx10.out); clear bx10
  have by_11 := Lib.hid (blk_below b' by_10.out); clear by_10
  have B11 := Lib.hid (B10.out.tr b'); clear B10
  clear b'
  go_wp2_with fail
  go_ret
  exact ⟨rfl, (B11.out.tr (by first | exact Below.refl _ _ | exact below_new _ _))⟩
end Go.Proofs.YtcpennlojjlpaaaGreatDoor
