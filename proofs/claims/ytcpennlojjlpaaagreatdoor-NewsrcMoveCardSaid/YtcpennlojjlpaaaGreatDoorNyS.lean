/- The walk of the statement NewsrcMove. -/
import Derived.Test.YtcpennlojjlpaaaGreatDoorNyR
import Derived.Test.YtcpennlojjlpaaaGreatDoorZg
import Derived.Test.YtcpennlojjlpaaaGreatDoorFork
namespace Go.Proofs.YtcpennlojjlpaaaGreatDoor
open Go.RowKit Go.Nr Go.Gn

theorem moveS_length (S : List Rg) (here there : List N) (h : there.length ≤ 1000) : (moveS S here there).length ≤ 1000 := by
  unfold moveS
  split
  · have h1 := norm_length (pts (movedL S here there))
    have h2 := movedL_length S here there
    rw [pts_length] at h1
    have h3 : moved S here there = norm (pts (movedL S here there)) := rfl
    rw [h3]; omega
  · simp
theorem cls_ne46 {N : Nat} (w : World) : Nonempty (Flow.Cls (fun v => Below N w v)) := ⟨⟨w, Below.refl _ _⟩⟩
set_option maxRecDepth 100000 in
set_option maxHeartbeats 16000000 in
theorem newsrcMove_walk (A : Option Addr) (c : Nat) (l : List Rg) (A1 : Option Addr) (a1 : Nat) (here : List N) (A2 : Option Addr) (a2 : Nat) (there : List N) (w : World) (hr : RdR w A l) (h1 : RdN w A1 here) (hok1 : OkN here) (h2 : RdN w A2 there) (hok2 : OkN there) (hE : Env w) (hT : Tab w) :
    Calls Tryz.prog 5 #[.slice A l.length c, .slice A1 here.length a1, .slice A2 there.length a2] w fun e w' => e = .returned (.bool true) ∧ Below w.heap.size w w' := by
  have HK := Lib.hid (fun W (h : Below w.heap.size w W) => known_any W (hE.below h) (hT.below h))
  have R0 := Lib.hid hr
  have HR0 := Lib.hid hr
  have HN1 := Lib.hid h1
  have HN2 := Lib.hid h2
  have HOK1 := Lib.hid hok1
  have HOK2 := Lib.hid hok2
  clear hr h1 h2 hok1 hok2 hE hT
  by_cases hl30 : 30 < l.length
  · go_enter Tryz.func5, Tryz.ntmps5
    go_wp2_with fail
    refine (HK.out _ (by first | exact Below.refl _ _ | exact below_new _ _)).mono ?_; rintro e w1 ⟨rfl, b⟩
    have b' : Below w.heap.size w w1 := Below.tr (by first | exact Below.refl _ _ | exact below_new _ _) b
    clear b
    have ra1 := Lib.hid (R0.out.below b'); clear R0
    have B1 := Lib.hid b'
    clear b'
    go_wp2_with fail
    refine (HK.out _ (B1.out.tr (by first | exact Below.refl _ _ | exact below_new _ _))).mono ?_; rintro e w2 ⟨rfl, b⟩
    have b' : Below w1.heap.size w1 w2 := Below.tr (by first | exact Below.refl _ _ | exact below_new _ _) b
    clear b
    have ra2 := Lib.hid (ra1.out.below b'); clear ra1
    have B2 := Lib.hid (B1.out.tr b'); clear B1
    clear b'
    go_wp2_with fail
    go_ret
    exact ⟨rfl, (B2.out.tr (by first | exact Below.refl _ _ | exact below_new _ _))⟩
  by_cases hl40 : 40 < here.length
  · go_enter Tryz.func5, Tryz.ntmps5
    go_wp2_with fail
    refine (HK.out _ (by first | exact Below.refl _ _ | exact below_new _ _)).mono ?_; rintro e w1 ⟨rfl, b⟩
    have b' : Below w.heap.size w w1 := Below.tr (by first | exact Below.refl _ _ | exact below_new _ _) b
    clear b
    have ra1 := Lib.hid (R0.out.below b'); clear R0
    have B1 := Lib.hid b'
    clear b'
    go_wp2_with fail
    refine (HK.out _ (B1.out.tr (by first | exact Below.refl _ _ | exact below_new _ _))).mono ?_; rintro e w2 ⟨rfl, b⟩
    have b' : Below w1.heap.size w1 w2 := Below.tr (by first | exact Below.refl _ _ | exact below_new _ _) b
    clear b
    have ra2 := Lib.hid (ra1.out.below b'); clear ra1
    have B2 := Lib.hid (B1.out.tr b'); clear B1
    clear b'
    go_wp2_with fail
    go_ret
    exact ⟨rfl, (B2.out.tr (by first | exact Below.refl _ _ | exact below_new _ _))⟩
  by_cases hl41 : 40 < there.length
  · go_enter Tryz.func5, Tryz.ntmps5
    go_wp2_with fail
    refine (HK.out _ (by first | exact Below.refl _ _ | exact below_new _ _)).mono ?_; rintro e w1 ⟨rfl, b⟩
    have b' : Below w.heap.size w w1 := Below.tr (by first | exact Below.refl _ _ | exact below_new _ _) b
    clear b
    have ra1 := Lib.hid (R0.out.below b'); clear R0
    have B1 := Lib.hid b'
    clear b'
    go_wp2_with fail
    refine (HK.out _ (B1.out.tr (by first | exact Below.refl _ _ | exact below_new _ _))).mono ?_; rintro e w2 ⟨rfl, b⟩
    have b' : Below w1.heap.size w1 w2 := Below.tr (by first | exact Below.refl _ _ | exact below_new _ _) b
    clear b
    have ra2 := Lib.hid (ra1.out.below b'); clear ra1
    have B2 := Lib.hid (B1.out.tr b'); clear B1
    clear b'
    go_wp2_with fail
    go_ret
    exact ⟨rfl, (B2.out.tr (by first | exact Below.refl _ _ | exact below_new _ _))⟩
  go_enter Tryz.func5, Tryz.ntmps5
  go_wp2_with fail
  refine (HK.out _ (by first | exact Below.refl _ _ | exact below_new _ _)).mono ?_; rintro e w1 ⟨rfl, b⟩
  have b' : Below w.heap.size w w1 := Below.tr (by first | exact Below.refl _ _ | exact below_new _ _) b
  clear b
  have ra1 := Lib.hid (R0.out.below b'); clear R0
  have B1 := Lib.hid b'
  clear b'
  have HO1 := Lib.hid (fun W (h : RdR W A l) => own_any46 A c l W h (by omega))
  have HF := Lib.hid (fun O o W (h : RdR W O l) (h2 : SlR O o l.length) => fromR_any O o l W h h2 (by omega))
  go_wp2_with fail
  refine (HO1.out _ (ra1.out.below (by first | exact Below.refl _ _ | exact below_new _ _))).mono ?_; rintro e w2 ⟨O1, o1, rfl, ho, b⟩
  have b' : Below w1.heap.size w1 w2 := Below.tr (by first | exact Below.refl _ _ | exact below_new _ _) b
  clear b
  have ra2 := Lib.hid (ra1.out.below b'); clear ra1
  have B2 := Lib.hid (B1.out.tr b'); clear B1
  clear b'
  have oo2 := Lib.hid ((RdR.of_own ho).1)
  have s_O := Lib.hid (SlR.of_own ho); clear ho
  go_wp2_with fail
  refine (HF.out O1 o1 _ (oo2.out.below (by first | exact Below.refl _ _ | exact below_new _ _)) s_O.out).mono ?_; rintro e w3 ⟨X, x, rfl, hR, hs', ht', b⟩
  have b' : Below w2.heap.size w2 w3 := Below.tr (by first | exact Below.refl _ _ | exact below_new _ _) b
  clear b
  have ra3 := Lib.hid (ra2.out.below b'); clear ra2
  have oo3 := Lib.hid (oo2.out.below b'); clear oo2
  have B3 := Lib.hid (B2.out.tr b'); clear B2
  clear b'
  have rx3 := Lib.hid hR; clear hR
  clear ht'; have s_X := Lib.hid hs'; clear hs'
  clear oo3
  clear HO1 HF s_O
  by_cases hall : l.all okB = true
  case neg =>
    have e1 : fromE l = 2 := by unfold fromE; rw [if_neg hall]
    rw [e1]
    have q1 : (((2 : Nat) : Int) != 0) = true := by decide
    go_wp2_with fail
    have ra4 := Lib.hid (ra3.out.below (below_new w3 (.cells #[.slice X (fromS l).length x] 26))); clear ra3
    have rx4 := Lib.hid (rx3.out.below (below_new w3 (.cells #[.slice X (fromS l).length x] 26))); clear rx3
    have B4 := Lib.hid (B3.out.tr (below_new w3 (.cells #[.slice X (fromS l).length x] 26))); clear B3
    have bs4 := Lib.hid (blk_new w3 (.cells #[.slice X (fromS l).length x] 26))
    go_ret
    exact ⟨rfl, (B4.out.tr (by first | exact Below.refl _ _ | exact below_new _ _))⟩
  case pos =>
    have e1 : fromE l = 0 := by unfold fromE; rw [if_pos hall]
    have e2 : fromS l = norm l := by unfold fromS; rw [if_pos hall]
    have hS := fromS_ok l
    have hSl := fromS_length l
    rw [e1]
    have q1 : (((0 : Nat) : Int) != 0) = false := by decide
    have HN := Lib.hid (fun W (h : RdR W A l) => refNormal_any A c l W h (by omega) fun r hr => by
      obtain ⟨z1, z2, z3⟩ := (okB_iff r).1 (List.all_eq_true.1 hall r hr)
      rw [M_eq] at *
      omega)
    rw [← e2] at HN
    clear e2 e1 hall
    generalize fromS l = S at *
    have HS := Lib.hid hS
    have HSL := Lib.hid hSl
    clear hS hSl
    clear ra3
    go_wp2_with fail
    have rx4 := Lib.hid (rx3.out.below (below_new w3 (.cells #[.slice X S.length x] 26))); clear rx3
    have B4 := Lib.hid (B3.out.tr (below_new w3 (.cells #[.slice X S.length x] 26))); clear B3
    have bs4 := Lib.hid (blk_new w3 (.cells #[.slice X S.length x] 26))
    have hsz0 := B4.out.size
    have XD0 := Lib.hid (rx4.out.below (Below.refl _ _).drew)
    have BD0 := Lib.hid B4.out.drew
    have KD0 := Lib.hid (blk_below (Below.refl _ _).drew bs4.out)
    have hbl := blk_lt KD0.out
    clear B4 rx4 bs4
    refine Flow.wp_region_sched (fun u v => Below (World.drew (w3.alloc (.cells #[.slice X S.length x] 26))).heap.size u v) (fun _ => Below.refl _ _) (fun _ _ _ h k => h.trans k) (.fork [0, 1, 3] 2 9 (.fork [] 4 9 (.fork [] 5 9 (.step [6, 7, 8] 9 (.step [] 10 (.done [11]))) (.step [] 5 (.step [6, 7, 8] 10 (.done [11])))) (.step [] 4 (.step [] 5 (.step [6, 7, 8] 10 (.done [11]))))) (.step [] 2 (.step [] 4 (.step [] 5 (.step [6, 7, 8] 10 (.done [11])))))) (by kernel_rfl) (by kernel_rfl) ?_
    generalize World.drew (w3.alloc (.cells #[.slice X S.length x] 26)) = wd at *
    generalize w3.heap.size = bs at *
    have hc0 := blk_cell KD0.out 0
    have q0 : ∀ t : Flow.Cls (fun v => Below wd.heap.size wd v), t.val.cell? ⟨bs, 0, none⟩ = some (.slice X S.length x) := fun t => Below.cellv t.ok hc0
    clear hc0
    have hsw := BD0.out.size
    haveI nonE := cls_ne46 (N := wd.heap.size) wd
    rw [Flow.wpSched_fork]
    simp only [Flow.pick, List.getElem?_toArray, List.getElem?_cons_succ, List.getElem?_cons_zero]
    repeat go_big_quiet_step (fail)
    refine wpQuiet_nil ?_
    clear nonE q0
    refine ⟨?_, ?_⟩
    · rw [Flow.callAt_eq]
      simp only [List.getElem?_toArray, List.getElem?_cons_succ, List.getElem?_cons_zero]
      rw [if_pos (by rfl)]
      refine Flow.wp_behind (fun K hK => ?_)
      go_wp2_with fail
      refine (numbers_any A1 a1 here wd (HN1.out.below (BD0.out.trans ((Below.refl wd.heap.size wd).mono hsw))) HOK1.out (by omega)).mono ?_; rintro e u1 ⟨P1, p1, rfl, ho, b⟩
      refine hK.out _ _ ⟨b.mono (Below.refl wd.heap.size wd).size, ?_⟩
      clear hK K
      have c1 : Below wd.heap.size wd u1 := (Below.refl wd.heap.size wd).trans (b.mono (Below.refl wd.heap.size wd).size)
      have n1_1 := Lib.hid (RdN.of_own ho HOK1.out)
      clear ho b
      haveI nonE := cls_ne46 (N := wd.heap.size) u1
      rw [Flow.wpSched_fork]
      simp only [Flow.pick]
      refine wpQuiet_nil ?_
      clear nonE
      refine ⟨?_, ?_⟩
      · rw [Flow.callAt_eq]
        simp only [List.getElem?_toArray, List.getElem?_cons_succ, List.getElem?_cons_zero]
        rw [if_pos (by rfl)]
        refine Flow.wp_behind (fun K hK => ?_)
        go_wp2_with fail
        refine (numbers_any A2 a2 there u1 (HN2.out.below (BD0.out.trans (c1.mono hsw))) HOK2.out (by omega)).mono ?_; rintro e u2 ⟨P2, p2, rfl, ho, b⟩
        refine hK.out _ _ ⟨b.mono c1.size, ?_⟩
        clear hK K
        have c2 : Below wd.heap.size wd u2 := c1.trans (b.mono c1.size)
        have n1_2 := Lib.hid (n1_1.out.below b); clear n1_1
        have n2_2 := Lib.hid (RdN.of_own ho HOK2.out)
        clear ho b
        haveI nonE := cls_ne46 (N := wd.heap.size) u2
        rw [Flow.wpSched_fork]
        simp only [Flow.pick]
        refine wpQuiet_nil ?_
        clear nonE
        refine ⟨?_, ?_⟩
        · rw [Flow.callAt_eq]
          simp only [List.getElem?_toArray, List.getElem?_cons_succ, List.getElem?_cons_zero]
          rw [if_pos (by rfl)]
          refine Flow.wp_behind (fun K hK => ?_)
          go_wp2_with fail
          refine (move_any X x S P1 p1 here P2 p2 there u2 (XD0.out.below c2) HS.out.1 (by have := HSL.out; omega) n1_2.out n2_2.out HOK1.out HOK2.out (by omega) (by omega)).mono ?_; rintro e u3 ⟨R, r, rfl, hr, hs, ht, b⟩
          refine hK.out _ _ ⟨b.mono c2.size, ?_⟩
          clear hK K
          have c3 : Below wd.heap.size wd u3 := c2.trans (b.mono c2.size)
          have n1_3 := Lib.hid (n1_2.out.below b); clear n1_2
          have n2_3 := Lib.hid (n2_2.out.below b); clear n2_2
          have mr3 := Lib.hid hr
          have ms := Lib.hid hs
          have hlt : ∀ q, R = some q → q.block < u3.heap.size := fun q hq => (ht q hq).2.lt
          clear hr hs ht b
          haveI nonE := cls_ne46 (N := wd.heap.size) u3
          rw [Flow.wpSched_step]
          simp only [Flow.pick, List.getElem?_toArray, List.getElem?_cons_succ, List.getElem?_cons_zero]
          repeat go_big_quiet_step (fail)
          refine wpQuiet_nil ?_
          clear nonE
          rw [Flow.callAt_eq]
          simp only [List.getElem?_toArray, List.getElem?_cons_succ, List.getElem?_cons_zero]
          rw [if_pos (by rfl)]
          refine Flow.wp_behind (fun K hK => ?_)
          go_wp2_with fail
          refine hK.out _ _ ⟨(below_new u3 (.cells #[.slice none 0 0] 26)).mono c3.size, ?_⟩
          clear hK K
          have b := below_new u3 (.cells #[.slice none 0 0] 26)
          have hal := blk_new u3 (.cells #[.slice none 0 0] 26)
          have hab := c3.size
          generalize u3.alloc (.cells #[.slice none 0 0] 26) = u4 at *
          have hne : ∀ q, R = some q → q.block ≠ u3.heap.size := fun q hq => by have := hlt q hq; omega
          clear hlt
          have c4 : Below wd.heap.size wd u4 := c3.trans (b.mono c3.size)
          have n1_4 := Lib.hid (n1_3.out.below b); clear n1_3
          have n2_4 := Lib.hid (n2_3.out.below b); clear n2_3
          have mr4 := Lib.hid (mr3.out.below b); clear mr3
          generalize u3.heap.size = al at *
          have al4 := Lib.hid hal
          clear hal b
          haveI nonE := cls_ne46 (N := wd.heap.size) u4
          rw [Flow.wpSched_step]
          simp only [Flow.pick]
          refine wpQuiet_nil ?_
          clear nonE
          have hc9 := blk_cell al4.out 0
          have hf9 := blk_free al4.out 0
          rw [Flow.callAt_eq]
          simp only [List.getElem?_toArray, List.getElem?_cons_succ, List.getElem?_cons_zero]
          rw [if_pos (by rfl)]
          refine Flow.wp_behind (fun K hK => ?_)
          go_wp2_with fail
          clear hc9 hf9
          refine hK.out _ _ ⟨(Below.refl _ _).setCell hab _, ?_⟩
          clear hK K
          have hcell := World.cell?_setCell_same' u4 ⟨al, 0, none⟩ (.slice R (moveS S here there).length r) (by rw [blk_cell al4.out 0]; rfl)
          have HRV := Lib.hid (mr4.out.setCell (i := 0) (fun q hq => hne q hq) (.slice R (moveS S here there).length r))
          have BV := Lib.hid ((BD0.out.trans (c4.mono hsw)).setCell (p := ⟨al, 0, none⟩) (by simp only; omega) (.slice R (moveS S here there).length r))
          have HCV := Lib.hid hcell
          clear hcell hne al4 mr4 n1_4 n2_4
          generalize u4.setCell ⟨al, 0, none⟩ (.slice R (moveS S here there).length r) = v at *
          haveI nonE := cls_ne46 (N := wd.heap.size) v
          rw [Flow.wpSched_done]
          simp only [Flow.pick, List.getElem?_toArray, List.getElem?_cons_succ, List.getElem?_cons_zero]
          repeat go_big_quiet_step (fail)
          refine wpQuiet_nil ?_
          clear nonE
          obtain ⟨T, hT⟩ : ∃ q, moveS S here there = q := ⟨_, rfl⟩
          obtain ⟨TE, hTE⟩ : ∃ q, moveE here there = q := ⟨_, rfl⟩
          have hTl : T.length ≤ 1000 := by rw [← hT]; exact moveS_length S here there (by omega)
          rw [hT] at HRV HCV ms
          rw [hTE]
          have VT := Lib.hid hT
          have VTE := Lib.hid hTE
          rw [hT]
          clear hT hTE
          go_wp2_with fail
          refine (HN.out v (HR0.out.below BV.out)).mono ?_; rintro e v2 ⟨Y, y, rfl, ho2, b2⟩
          have BV2 := Lib.hid (BV.out.tr b2)
          have HRV2 := Lib.hid (HRV.out.below b2)
          have HCV2 := Lib.hid (Below.cellv b2 HCV.out)
          have hyr := (RdR.of_own ho2).1
          have hrm := refMove_any Y y S A1 a1 here A2 a2 there v2 hyr (by have := HSL.out; omega) (HN1.out.below BV2.out) (HN2.out.below BV2.out) HOK1.out HOK2.out (by omega) (by omega)
          rw [VT.out, VTE.out] at hrm
          clear ho2 b2 hyr HRV HCV BV
          go_wp2_with fail
          refine hrm.mono ?_; rintro e v3 ⟨Z, z, rfl, hz3, b3⟩
          clear hrm
          have BV3 := Lib.hid (BV2.out.tr b3)
          have hcl := Below.cellv b3 HCV2.out
          have his := is_any R Z r z T T v3 (HRV2.out.below b3) ms.out hz3 (by omega) (by omega)
          rw [decide_eq_true rfl] at his
          clear hz3 b3 HRV2 HCV2 BV2
          go_wp2_with fail
          refine his.mono ?_; rintro e v4 ⟨rfl, b4⟩
          clear his hcl
          go_wp2_with fail
          go_ret
          exact ⟨rfl, BV3.out.tr b4⟩
        · rw [Flow.callAt_eq]
          simp only [List.getElem?_toArray, List.getElem?_cons_succ, List.getElem?_cons_zero]
          rw [if_pos (by rfl)]
          refine Flow.wp_behind (fun K hK => ?_)
          go_wp2_with fail
          refine hK.out _ _ ⟨(below_new u2 (.cells #[.slice none 0 0] 26)).mono c2.size, ?_⟩
          clear hK K
          have b := below_new u2 (.cells #[.slice none 0 0] 26)
          have hal := blk_new u2 (.cells #[.slice none 0 0] 26)
          have hab := c2.size
          generalize u2.alloc (.cells #[.slice none 0 0] 26) = u3 at *
          have c3 : Below wd.heap.size wd u3 := c2.trans (b.mono c2.size)
          have n1_3 := Lib.hid (n1_2.out.below b); clear n1_2
          have n2_3 := Lib.hid (n2_2.out.below b); clear n2_2
          generalize u2.heap.size = al at *
          have al3 := Lib.hid hal
          clear hal b
          haveI nonE := cls_ne46 (N := wd.heap.size) u3
          rw [Flow.wpSched_step]
          simp only [Flow.pick]
          refine wpQuiet_nil ?_
          clear nonE
          rw [Flow.callAt_eq]
          simp only [List.getElem?_toArray, List.getElem?_cons_succ, List.getElem?_cons_zero]
          rw [if_pos (by rfl)]
          refine Flow.wp_behind (fun K hK => ?_)
          go_wp2_with fail
          refine (move_any X x S P1 p1 here P2 p2 there u3 (XD0.out.below c3) HS.out.1 (by have := HSL.out; omega) n1_3.out n2_3.out HOK1.out HOK2.out (by omega) (by omega)).mono ?_; rintro e u4 ⟨R, r, rfl, hr, hs, ht, b⟩
          refine hK.out _ _ ⟨b.mono c3.size, ?_⟩
          clear hK K
          have hne : ∀ q, R = some q → q.block ≠ al := fun q hq => by have := (ht q hq).1; have := blk_lt al3.out; omega
          have c4 : Below wd.heap.size wd u4 := c3.trans (b.mono c3.size)
          have n1_4 := Lib.hid (n1_3.out.below b); clear n1_3
          have n2_4 := Lib.hid (n2_3.out.below b); clear n2_3
          have al4 := Lib.hid (blk_below b al3.out); clear al3
          have mr4 := Lib.hid hr
          have ms := Lib.hid hs
          clear hr hs ht b
          haveI nonE := cls_ne46 (N := wd.heap.size) u4
          rw [Flow.wpSched_step]
          simp only [Flow.pick, List.getElem?_toArray, List.getElem?_cons_succ, List.getElem?_cons_zero]
          repeat go_big_quiet_step (fail)
          refine wpQuiet_nil ?_
          clear nonE
          have hc9 := blk_cell al4.out 0
          have hf9 := blk_free al4.out 0
          rw [Flow.callAt_eq]
          simp only [List.getElem?_toArray, List.getElem?_cons_succ, List.getElem?_cons_zero]
          rw [if_pos (by rfl)]
          refine Flow.wp_behind (fun K hK => ?_)
          go_wp2_with fail
          clear hc9 hf9
          refine hK.out _ _ ⟨(Below.refl _ _).setCell hab _, ?_⟩
          clear hK K
          have hcell := World.cell?_setCell_same' u4 ⟨al, 0, none⟩ (.slice R (moveS S here there).length r) (by rw [blk_cell al4.out 0]; rfl)
          have HRV := Lib.hid (mr4.out.setCell (i := 0) (fun q hq => hne q hq) (.slice R (moveS S here there).length r))
          have BV := Lib.hid ((BD0.out.trans (c4.mono hsw)).setCell (p := ⟨al, 0, none⟩) (by simp only; omega) (.slice R (moveS S here there).length r))
          have HCV := Lib.hid hcell
          clear hcell hne al4 mr4 n1_4 n2_4
          generalize u4.setCell ⟨al, 0, none⟩ (.slice R (moveS S here there).length r) = v at *
          haveI nonE := cls_ne46 (N := wd.heap.size) v
          rw [Flow.wpSched_done]
          simp only [Flow.pick, List.getElem?_toArray, List.getElem?_cons_succ, List.getElem?_cons_zero]
          repeat go_big_quiet_step (fail)
          refine wpQuiet_nil ?_
          clear nonE
          obtain ⟨T, hT⟩ : ∃ q, moveS S here there = q := ⟨_, rfl⟩
          obtain ⟨TE, hTE⟩ : ∃ q, moveE here there = q := ⟨_, rfl⟩
          have hTl : T.length ≤ 1000 := by rw [← hT]; exact moveS_length S here there (by omega)
          rw [hT] at HRV HCV ms
          rw [hTE]
          have VT := Lib.hid hT
          have VTE := Lib.hid hTE
          rw [hT]
          clear hT hTE
          go_wp2_with fail
          refine (HN.out v (HR0.out.below BV.out)).mono ?_; rintro e v2 ⟨Y, y, rfl, ho2, b2⟩
          have BV2 := Lib.hid (BV.out.tr b2)
          have HRV2 := Lib.hid (HRV.out.below b2)
          have HCV2 := Lib.hid (Below.cellv b2 HCV.out)
          have hyr := (RdR.of_own ho2).1
          have hrm := refMove_any Y y S A1 a1 here A2 a2 there v2 hyr (by have := HSL.out; omega) (HN1.out.below BV2.out) (HN2.out.below BV2.out) HOK1.out HOK2.out (by omega) (by omega)
          rw [VT.out, VTE.out] at hrm
          clear ho2 b2 hyr HRV HCV BV
          go_wp2_with fail
          refine hrm.mono ?_; rintro e v3 ⟨Z, z, rfl, hz3, b3⟩
          clear hrm
          have BV3 := Lib.hid (BV2.out.tr b3)
          have hcl := Below.cellv b3 HCV2.out
          have his := is_any R Z r z T T v3 (HRV2.out.below b3) ms.out hz3 (by omega) (by omega)
          rw [decide_eq_true rfl] at his
          clear hz3 b3 HRV2 HCV2 BV2
          go_wp2_with fail
          refine his.mono ?_; rintro e v4 ⟨rfl, b4⟩
          clear his hcl
          go_wp2_with fail
          go_ret
          exact ⟨rfl, BV3.out.tr b4⟩
      · rw [Flow.callAt_eq]
        simp only [List.getElem?_toArray, List.getElem?_cons_succ, List.getElem?_cons_zero]
        rw [if_pos (by rfl)]
        refine Flow.wp_behind (fun K hK => ?_)
        go_wp2_with fail
        refine hK.out _ _ ⟨(below_new u1 (.cells #[.slice none 0 0] 26)).mono c1.size, ?_⟩
        clear hK K
        have b := below_new u1 (.cells #[.slice none 0 0] 26)
        have hal := blk_new u1 (.cells #[.slice none 0 0] 26)
        have hab := c1.size
        generalize u1.alloc (.cells #[.slice none 0 0] 26) = u2 at *
        have c2 : Below wd.heap.size wd u2 := c1.trans (b.mono c1.size)
        have n1_2 := Lib.hid (n1_1.out.below b); clear n1_1
        generalize u1.heap.size = al at *
        have al2 := Lib.hid hal
        clear hal b
        haveI nonE := cls_ne46 (N := wd.heap.size) u2
        rw [Flow.wpSched_step]
        simp only [Flow.pick]
        refine wpQuiet_nil ?_
        clear nonE
        rw [Flow.callAt_eq]
        simp only [List.getElem?_toArray, List.getElem?_cons_succ, List.getElem?_cons_zero]
        rw [if_pos (by rfl)]
        refine Flow.wp_behind (fun K hK => ?_)
        go_wp2_with fail
        refine (numbers_any A2 a2 there u2 (HN2.out.below (BD0.out.trans (c2.mono hsw))) HOK2.out (by omega)).mono ?_; rintro e u3 ⟨P2, p2, rfl, ho, b⟩
        refine hK.out _ _ ⟨b.mono c2.size, ?_⟩
        clear hK K
        have c3 : Below wd.heap.size wd u3 := c2.trans (b.mono c2.size)
        have n1_3 := Lib.hid (n1_2.out.below b); clear n1_2
        have al3 := Lib.hid (blk_below b al2.out); clear al2
        have n2_3 := Lib.hid (RdN.of_own ho HOK2.out)
        clear ho b
        haveI nonE := cls_ne46 (N := wd.heap.size) u3
        rw [Flow.wpSched_step]
        simp only [Flow.pick]
        refine wpQuiet_nil ?_
        clear nonE
        rw [Flow.callAt_eq]
        simp only [List.getElem?_toArray, List.getElem?_cons_succ, List.getElem?_cons_zero]
        rw [if_pos (by rfl)]
        refine Flow.wp_behind (fun K hK => ?_)
        go_wp2_with fail
        refine (move_any X x S P1 p1 here P2 p2 there u3 (XD0.out.below c3) HS.out.1 (by have := HSL.out; omega) n1_3.out n2_3.out HOK1.out HOK2.out (by omega) (by omega)).mono ?_; rintro e u4 ⟨R, r, rfl, hr, hs, ht, b⟩
        refine hK.out _ _ ⟨b.mono c3.size, ?_⟩
        clear hK K
        have hne : ∀ q, R = some q → q.block ≠ al := fun q hq => by have := (ht q hq).1; have := blk_lt al3.out; omega
        have c4 : Below wd.heap.size wd u4 := c3.trans (b.mono c3.size)
        have n1_4 := Lib.hid (n1_3.out.below b); clear n1_3
        have n2_4 := Lib.hid (n2_3.out.below b); clear n2_3
        have al4 := Lib.hid (blk_below b al3.out); clear al3
        have mr4 := Lib.hid hr
        have ms := Lib.hid hs
        clear hr hs ht b
        haveI nonE := cls_ne46 (N := wd.heap.size) u4
        rw [Flow.wpSched_step]
        simp only [Flow.pick, List.getElem?_toArray, List.getElem?_cons_succ, List.getElem?_cons_zero]
        repeat go_big_quiet_step (fail)
        refine wpQuiet_nil ?_
        clear nonE
        have hc9 := blk_cell al4.out 0
        have hf9 := blk_free al4.out 0
        rw [Flow.callAt_eq]
        simp only [List.getElem?_toArray, List.getElem?_cons_succ, List.getElem?_cons_zero]
        rw [if_pos (by rfl)]
        refine Flow.wp_behind (fun K hK => ?_)
        go_wp2_with fail
        clear hc9 hf9
        refine hK.out _ _ ⟨(Below.refl _ _).setCell hab _, ?_⟩
        clear hK K
        have hcell := World.cell?_setCell_same' u4 ⟨al, 0, none⟩ (.slice R (moveS S here there).length r) (by rw [blk_cell al4.out 0]; rfl)
        have HRV := Lib.hid (mr4.out.setCell (i := 0) (fun q hq => hne q hq) (.slice R (moveS S here there).length r))
        have BV := Lib.hid ((BD0.out.trans (c4.mono hsw)).setCell (p := ⟨al, 0, none⟩) (by simp only; omega) (.slice R (moveS S here there).length r))
        have HCV := Lib.hid hcell
        clear hcell hne al4 mr4 n1_4 n2_4
        generalize u4.setCell ⟨al, 0, none⟩ (.slice R (moveS S here there).length r) = v at *
        haveI nonE := cls_ne46 (N := wd.heap.size) v
        rw [Flow.wpSched_done]
        simp only [Flow.pick, List.getElem?_toArray, List.getElem?_cons_succ, List.getElem?_cons_zero]
        repeat go_big_quiet_step (fail)
        refine wpQuiet_nil ?_
        clear nonE
        obtain ⟨T, hT⟩ : ∃ q, moveS S here there = q := ⟨_, rfl⟩
        obtain ⟨TE, hTE⟩ : ∃ q, moveE here there = q := ⟨_, rfl⟩
        have hTl : T.length ≤ 1000 := by rw [← hT]; exact moveS_length S here there (by omega)
        rw [hT] at HRV HCV ms
        rw [hTE]
        have VT := Lib.hid hT
        have VTE := Lib.hid hTE
        rw [hT]
        clear hT hTE
        go_wp2_with fail
        refine (HN.out v (HR0.out.below BV.out)).mono ?_; rintro e v2 ⟨Y, y, rfl, ho2, b2⟩
        have BV2 := Lib.hid (BV.out.tr b2)
        have HRV2 := Lib.hid (HRV.out.below b2)
        have HCV2 := Lib.hid (Below.cellv b2 HCV.out)
        have hyr := (RdR.of_own ho2).1
        have hrm := refMove_any Y y S A1 a1 here A2 a2 there v2 hyr (by have := HSL.out; omega) (HN1.out.below BV2.out) (HN2.out.below BV2.out) HOK1.out HOK2.out (by omega) (by omega)
        rw [VT.out, VTE.out] at hrm
        clear ho2 b2 hyr HRV HCV BV
        go_wp2_with fail
        refine hrm.mono ?_; rintro e v3 ⟨Z, z, rfl, hz3, b3⟩
        clear hrm
        have BV3 := Lib.hid (BV2.out.tr b3)
        have hcl := Below.cellv b3 HCV2.out
        have his := is_any R Z r z T T v3 (HRV2.out.below b3) ms.out hz3 (by omega) (by omega)
        rw [decide_eq_true rfl] at his
        clear hz3 b3 HRV2 HCV2 BV2
        go_wp2_with fail
        refine his.mono ?_; rintro e v4 ⟨rfl, b4⟩
        clear his hcl
        go_wp2_with fail
        go_ret
        exact ⟨rfl, BV3.out.tr b4⟩
    · rw [Flow.callAt_eq]
      simp only [List.getElem?_toArray, List.getElem?_cons_succ, List.getElem?_cons_zero]
      rw [if_pos (by rfl)]
      refine Flow.wp_behind (fun K hK => ?_)
      go_wp2_with fail
      refine hK.out _ _ ⟨(below_new wd (.cells #[.slice none 0 0] 26)).mono (Below.refl wd.heap.size wd).size, ?_⟩
      clear hK K
      have b := below_new wd (.cells #[.slice none 0 0] 26)
      have hal := blk_new wd (.cells #[.slice none 0 0] 26)
      have hab := (Below.refl wd.heap.size wd).size
      generalize wd.alloc (.cells #[.slice none 0 0] 26) = u1 at *
      have c1 : Below wd.heap.size wd u1 := (Below.refl wd.heap.size wd).trans (b.mono (Below.refl wd.heap.size wd).size)
      have al1 := Lib.hid hal
      clear hal b
      haveI nonE := cls_ne46 (N := wd.heap.size) u1
      rw [Flow.wpSched_step]
      simp only [Flow.pick]
      refine wpQuiet_nil ?_
      clear nonE
      rw [Flow.callAt_eq]
      simp only [List.getElem?_toArray, List.getElem?_cons_succ, List.getElem?_cons_zero]
      rw [if_pos (by rfl)]
      refine Flow.wp_behind (fun K hK => ?_)
      go_wp2_with fail
      refine (numbers_any A1 a1 here u1 (HN1.out.below (BD0.out.trans (c1.mono hsw))) HOK1.out (by omega)).mono ?_; rintro e u2 ⟨P1, p1, rfl, ho, b⟩
      refine hK.out _ _ ⟨b.mono c1.size, ?_⟩
      clear hK K
      have c2 : Below wd.heap.size wd u2 := c1.trans (b.mono c1.size)
      have al2 := Lib.hid (blk_below b al1.out); clear al1
      have n1_2 := Lib.hid (RdN.of_own ho HOK1.out)
      clear ho b
      haveI nonE := cls_ne46 (N := wd.heap.size) u2
      rw [Flow.wpSched_step]
      simp only [Flow.pick]
      refine wpQuiet_nil ?_
      clear nonE
      rw [Flow.callAt_eq]
      simp only [List.getElem?_toArray, List.getElem?_cons_succ, List.getElem?_cons_zero]
      rw [if_pos (by rfl)]
      refine Flow.wp_behind (fun K hK => ?_)
      go_wp2_with fail
      refine (numbers_any A2 a2 there u2 (HN2.out.below (BD0.out.trans (c2.mono hsw))) HOK2.out (by omega)).mono ?_; rintro e u3 ⟨P2, p2, rfl, ho, b⟩
      refine hK.out _ _ ⟨b.mono c2.size, ?_⟩
      clear hK K
      have c3 : Below wd.heap.size wd u3 := c2.trans (b.mono c2.size)
      have n1_3 := Lib.hid (n1_2.out.below b); clear n1_2
      have al3 := Lib.hid (blk_below b al2.out); clear al2
      have n2_3 := Lib.hid (RdN.of_own ho HOK2.out)
      clear ho b
      haveI nonE := cls_ne46 (N := wd.heap.size) u3
      rw [Flow.wpSched_step]
      simp only [Flow.pick]
      refine wpQuiet_nil ?_
      clear nonE
      rw [Flow.callAt_eq]
      simp only [List.getElem?_toArray, List.getElem?_cons_succ, List.getElem?_cons_zero]
      rw [if_pos (by rfl)]
      refine Flow.wp_behind (fun K hK => ?_)
      go_wp2_with fail
      refine (move_any X x S P1 p1 here P2 p2 there u3 (XD0.out.below c3) HS.out.1 (by have := HSL.out; omega) n1_3.out n2_3.out HOK1.out HOK2.out (by omega) (by omega)).mono ?_; rintro e u4 ⟨R, r, rfl, hr, hs, ht, b⟩
      refine hK.out _ _ ⟨b.mono c3.size, ?_⟩
      clear hK K
      have hne : ∀ q, R = some q → q.block ≠ wd.heap.size := fun q hq => by have := (ht q hq).1; have := blk_lt al3.out; omega
      have c4 : Below wd.heap.size wd u4 := c3.trans (b.mono c3.size)
      have n1_4 := Lib.hid (n1_3.out.below b); clear n1_3
      have n2_4 := Lib.hid (n2_3.out.below b); clear n2_3
      have al4 := Lib.hid (blk_below b al3.out); clear al3
      have mr4 := Lib.hid hr
      have ms := Lib.hid hs
      clear hr hs ht b
      haveI nonE := cls_ne46 (N := wd.heap.size) u4
      rw [Flow.wpSched_step]
      simp only [Flow.pick, List.getElem?_toArray, List.getElem?_cons_succ, List.getElem?_cons_zero]
      repeat go_big_quiet_step (fail)
      refine wpQuiet_nil ?_
      clear nonE
      have hc9 := blk_cell al4.out 0
      have hf9 := blk_free al4.out 0
      rw [Flow.callAt_eq]
      simp only [List.getElem?_toArray, List.getElem?_cons_succ, List.getElem?_cons_zero]
      rw [if_pos (by rfl)]
      refine Flow.wp_behind (fun K hK => ?_)
      go_wp2_with fail
      clear hc9 hf9
      refine hK.out _ _ ⟨(Below.refl _ _).setCell hab _, ?_⟩
      clear hK K
      have hcell := World.cell?_setCell_same' u4 ⟨wd.heap.size, 0, none⟩ (.slice R (moveS S here there).length r) (by rw [blk_cell al4.out 0]; rfl)
      have HRV := Lib.hid (mr4.out.setCell (i := 0) (fun q hq => hne q hq) (.slice R (moveS S here there).length r))
      have BV := Lib.hid ((BD0.out.trans (c4.mono hsw)).setCell (p := ⟨wd.heap.size, 0, none⟩) (by simp only; omega) (.slice R (moveS S here there).length r))
      have HCV := Lib.hid hcell
      clear hcell hne al4 mr4 n1_4 n2_4
      generalize u4.setCell ⟨wd.heap.size, 0, none⟩ (.slice R (moveS S here there).length r) = v at *
      haveI nonE := cls_ne46 (N := wd.heap.size) v
      rw [Flow.wpSched_done]
      simp only [Flow.pick, List.getElem?_toArray, List.getElem?_cons_succ, List.getElem?_cons_zero]
      repeat go_big_quiet_step (fail)
      refine wpQuiet_nil ?_
      clear nonE
      obtain ⟨T, hT⟩ : ∃ q, moveS S here there = q := ⟨_, rfl⟩
      obtain ⟨TE, hTE⟩ : ∃ q, moveE here there = q := ⟨_, rfl⟩
      have hTl : T.length ≤ 1000 := by rw [← hT]; exact moveS_length S here there (by omega)
      rw [hT] at HRV HCV ms
      rw [hTE]
      have VT := Lib.hid hT
      have VTE := Lib.hid hTE
      rw [hT]
      clear hT hTE
      go_wp2_with fail
      refine (HN.out v (HR0.out.below BV.out)).mono ?_; rintro e v2 ⟨Y, y, rfl, ho2, b2⟩
      have BV2 := Lib.hid (BV.out.tr b2)
      have HRV2 := Lib.hid (HRV.out.below b2)
      have HCV2 := Lib.hid (Below.cellv b2 HCV.out)
      have hyr := (RdR.of_own ho2).1
      have hrm := refMove_any Y y S A1 a1 here A2 a2 there v2 hyr (by have := HSL.out; omega) (HN1.out.below BV2.out) (HN2.out.below BV2.out) HOK1.out HOK2.out (by omega) (by omega)
      rw [VT.out, VTE.out] at hrm
      clear ho2 b2 hyr HRV HCV BV
      go_wp2_with fail
      refine hrm.mono ?_; rintro e v3 ⟨Z, z, rfl, hz3, b3⟩
      clear hrm
      have BV3 := Lib.hid (BV2.out.tr b3)
      have hcl := Below.cellv b3 HCV2.out
      have his := is_any R Z r z T T v3 (HRV2.out.below b3) ms.out hz3 (by omega) (by omega)
      rw [decide_eq_true rfl] at his
      clear hz3 b3 HRV2 HCV2 BV2
      go_wp2_with fail
      refine his.mono ?_; rintro e v4 ⟨rfl, b4⟩
      clear his hcl
      go_wp2_with fail
      go_ret
      exact ⟨rfl, BV3.out.tr b4⟩
end Go.Proofs.YtcpennlojjlpaaaGreatDoor
