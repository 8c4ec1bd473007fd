/- Contract: the reference's SameMarks. -/
import Derived.Test.YtcpennlojjlpaaaGreatDoorNyB
import Derived.Test.YtcpennlojjlpaaaGreatDoorZk
import Derived.Test.YtcpennlojjlpaaaGreatDoorZg
namespace Go.Proofs.YtcpennlojjlpaaaGreatDoor
open Go.RowKit Go.Nr Go.Gn

set_option maxRecDepth 100000 in
set_option maxHeartbeats 4000000 in
theorem sameMarks_any (A B : Option Addr) (c d : Nat) (gs hs : List G) (w : World) (ha : RdG w A gs) (hb : RdG w B hs) (hn : gs.length ≤ 100000) (_hm : hs.length ≤ 100000) (hla : ∀ g ∈ gs, g.2.2.length ≤ 1000000) (hlb : ∀ g ∈ hs, g.2.2.length ≤ 1000000) :
    Calls Tryz.prog 63 #[.slice A gs.length c, .slice B hs.length d] w fun e w' => e = .returned (.bool (decide (gs = hs))) ∧ Below w.heap.size w w' := by
  have RA := Lib.hid ha
  have RB := Lib.hid hb
  have LA := Lib.hid hla
  have LB := Lib.hid hlb
  clear ha hb hla hlb
  by_cases hlen : gs.length = hs.length
  case neg =>
    rw [decide_eq_false (by intro e; exact hlen (by rw [e]))]
    have hne : ((gs.length : Int) != (hs.length : Int)) = true := by simp; omega
    go_enter Tryz.func63, Tryz.ntmps63
    go_wp2_with fail
    go_ret
    exact ⟨rfl, Below.refl _ _⟩
  case pos =>
    rw [← hlen]
    have HL := Lib.hid hlen
    clear hlen
    obtain ⟨r, hr⟩ : ∃ r, decide (gs = hs) = r := ⟨_, rfl⟩
    have V := Lib.hid hr
    rw [hr]
    clear hr
    go_enter Tryz.func63, Tryz.ntmps63
    go_wp2_with fail
    go_loopg [5] gs.length (fun gg iv wr => ∃ k : Nat, k ≤ gs.length ∧ gs.length - k ≤ gg ∧ iv = .int .i64 k ∧ Hid (gs.take k = hs.take k) ∧ Below w.heap.size w wr)
    case atStart => exact ⟨0, by omega, by omega, rfl, rfl, Below.refl _ _⟩
    case round =>
      obtain ⟨k, hk, hgk, rfl, O, hB⟩ := hrel
      by_cases hlt : k < gs.length
      · obtain ⟨b1, o1, x, X1, f1, rfl, hx, c1, c2, c3, S1⟩ := (RA.out.below hB).at_ hlt
        obtain ⟨b2, o2, y, X2, f2, rfl, hy, d1, d2, d3, S2⟩ := (RB.out.below hB).at_ (by rw [← HL.out]; exact hlt)
        have HS1 := Lib.hid S1.1
        have HS2 := Lib.hid S2.1
        have hlx := LA.out x (List.mem_of_getElem? hx)
        have hly := LB.out y (List.mem_of_getElem? hy)
        have GX := Lib.hid hx
        have GY := Lib.hid hy
        have HBr := Lib.hid hB
        have A0 := Lib.hid c1
        have A1 := Lib.hid c2
        have A2 := Lib.hid c3
        have D0 := Lib.hid d1
        have D1 := Lib.hid d2
        have D2 := Lib.hid d3
        obtain ⟨x1, x2, x3⟩ := x
        obtain ⟨y1, y2, y3⟩ := y
        simp only at A0 A1 A2 D0 D1 D2 HS1 HS2 hlx hly GX GY
        clear c1 c2 c3 d1 d2 d3 hx hy S1 S2 hB
        have HE := Lib.hid (fun W (h1 : RdR W X1 x3) (h2 : RdR W X2 y3) => refSame_any X1 X2 f1 f2 x3 y3 W h1 h2 hlx hly)
        have hk0 : (0 : Int) ≤ (k : Int) := by omega
        have hk1 : (k : Int) < (gs.length : Int) := by omega
        by_cases h1 : x1 = y1
        case neg =>
          have e1 : (x1 != y1) = true := by simpa using h1
          have e2 : (x1 == y1) = false := by simpa using h1
          have V2 : Hid (r = false) := by
            show r = false
            rw [← V.out]
            exact decide_eq_false (ne_at GX.out GY.out (by intro e; injection e with e _; exact h1 e))
          go_wp2_with fail
          refine Flow.wp_region_segs Flow.Later Flow.Later.refl Flow.Later.trans [([0, 1, 2, 3, 4, 5, 6, 7, 8, 9, 10, 11, 12, 13, 14, 15, 16, 17, 18, 19, 20, 21, 22, 23, 24, 25, 26, 27, 28, 29, 30, 31, 32, 33, 34], 35)] [36, 37] (by kernel_rfl) (by kernel_rfl) ?_
          have b' : Below wr.heap.size wr (World.drew wr) := (Below.refl _ _).drew
          have fx1 := Lib.hid (HS1.out.below b'); clear HS1
          have fy1 := Lib.hid (HS2.out.below b'); clear HS2
          have B1 := Lib.hid b'
          clear b'
          generalize World.drew _ = w1 at *
          have ca00 := Below.cellv (B1.out.tr (by first | exact Below.refl _ _ | exact below_new _ _)) A0.out
          have qa00 : ∀ t : Flow.Cls (Flow.Later w1), t.val.cell? _ = some (enS x1) := fun t => Flow.cls_cell ca00 t
          have ca10 := Below.cellv (B1.out.tr (by first | exact Below.refl _ _ | exact below_new _ _)) A1.out
          have qa10 : ∀ t : Flow.Cls (Flow.Later w1), t.val.cell? _ = some (.bool x2) := fun t => Flow.cls_cell ca10 t
          have ca20 := Below.cellv (B1.out.tr (by first | exact Below.refl _ _ | exact below_new _ _)) A2.out
          have qa20 : ∀ t : Flow.Cls (Flow.Later w1), t.val.cell? _ = some (.slice X1 x3.length f1) := fun t => Flow.cls_cell ca20 t
          have cb00 := Below.cellv (B1.out.tr (by first | exact Below.refl _ _ | exact below_new _ _)) D0.out
          have qb00 : ∀ t : Flow.Cls (Flow.Later w1), t.val.cell? _ = some (enS y1) := fun t => Flow.cls_cell cb00 t
          have cb10 := Below.cellv (B1.out.tr (by first | exact Below.refl _ _ | exact below_new _ _)) D1.out
          have qb10 : ∀ t : Flow.Cls (Flow.Later w1), t.val.cell? _ = some (.bool y2) := fun t => Flow.cls_cell cb10 t
          have cb20 := Below.cellv (B1.out.tr (by first | exact Below.refl _ _ | exact below_new _ _)) D2.out
          have qb20 : ∀ t : Flow.Cls (Flow.Later w1), t.val.cell? _ = some (.slice X2 y3.length f2) := fun t => Flow.cls_cell cb20 t
          haveI nonE := Flow.cls_nonempty w1
          rw [Flow.wpSegs_cons]
          simp only [Flow.pick, List.getElem?_toArray, List.getElem?_cons_succ, List.getElem?_cons_zero]
          repeat go_big_quiet_step (fail)
          refine wpQuiet_nil ?_
          clear nonE qa00 ca00 qa10 ca10 qa20 ca20 qb00 cb00 qb10 cb10 qb20 cb20
          rw [Flow.callAt_eq]
          simp only [List.getElem?_toArray, List.getElem?_cons_succ, List.getElem?_cons_zero]
          rw [if_neg (by exact Bool.false_ne_true)]
          simp only [Act.put, List.setIfInBounds_toArray, List.set_cons_succ, List.set_cons_zero]
          haveI nonE := Flow.cls_nonempty w1
          rw [Flow.wpSegs_nil]
          simp only [Flow.pick, List.getElem?_toArray, List.getElem?_cons_succ, List.getElem?_cons_zero]
          repeat go_big_quiet_step (fail)
          refine wpQuiet_nil ?_
          clear nonE 
          go_wp2_with fail
          go_ret
          exact ⟨by rw [V2.out]; try rfl, HBr.out.tr B1.out⟩
        case pos =>
          subst h1
          have e1 : (x1 != x1) = false := by simp
          have e2 : (x1 == x1) = true := by simp
          by_cases h2 : x2 = y2
          case neg =>
            have e3 : (x2 != y2) = true := by simpa using h2
            have e4 : (x2 == y2) = false := by simpa using h2
            have V2 : Hid (r = false) := by
              show r = false
              rw [← V.out]
              exact decide_eq_false (ne_at GX.out GY.out (by intro e; injection e with _ e; injection e with e _; exact h2 e))
            go_wp2_with fail
            refine Flow.wp_region_segs Flow.Later Flow.Later.refl Flow.Later.trans [([0, 1, 2, 3, 4, 5, 6, 7, 8, 9, 10, 11, 12, 13, 14, 15, 16, 17, 18, 19, 20, 21, 22, 23, 24, 25, 26, 27, 28, 29, 30, 31, 32, 33, 34], 35)] [36, 37] (by kernel_rfl) (by kernel_rfl) ?_
            have b' : Below wr.heap.size wr (World.drew wr) := (Below.refl _ _).drew
            have fx1 := Lib.hid (HS1.out.below b'); clear HS1
            have fy1 := Lib.hid (HS2.out.below b'); clear HS2
            have B1 := Lib.hid b'
            clear b'
            generalize World.drew _ = w1 at *
            have ca00 := Below.cellv (B1.out.tr (by first | exact Below.refl _ _ | exact below_new _ _)) A0.out
            have qa00 : ∀ t : Flow.Cls (Flow.Later w1), t.val.cell? _ = some (enS x1) := fun t => Flow.cls_cell ca00 t
            have ca10 := Below.cellv (B1.out.tr (by first | exact Below.refl _ _ | exact below_new _ _)) A1.out
            have qa10 : ∀ t : Flow.Cls (Flow.Later w1), t.val.cell? _ = some (.bool x2) := fun t => Flow.cls_cell ca10 t
            have ca20 := Below.cellv (B1.out.tr (by first | exact Below.refl _ _ | exact below_new _ _)) A2.out
            have qa20 : ∀ t : Flow.Cls (Flow.Later w1), t.val.cell? _ = some (.slice X1 x3.length f1) := fun t => Flow.cls_cell ca20 t
            have cb00 := Below.cellv (B1.out.tr (by first | exact Below.refl _ _ | exact below_new _ _)) D0.out
            have qb00 : ∀ t : Flow.Cls (Flow.Later w1), t.val.cell? _ = some (enS x1) := fun t => Flow.cls_cell cb00 t
            have cb10 := Below.cellv (B1.out.tr (by first | exact Below.refl _ _ | exact below_new _ _)) D1.out
            have qb10 : ∀ t : Flow.Cls (Flow.Later w1), t.val.cell? _ = some (.bool y2) := fun t => Flow.cls_cell cb10 t
            have cb20 := Below.cellv (B1.out.tr (by first | exact Below.refl _ _ | exact below_new _ _)) D2.out
            have qb20 : ∀ t : Flow.Cls (Flow.Later w1), t.val.cell? _ = some (.slice X2 y3.length f2) := fun t => Flow.cls_cell cb20 t
            haveI nonE := Flow.cls_nonempty w1
            rw [Flow.wpSegs_cons]
            simp only [Flow.pick, List.getElem?_toArray, List.getElem?_cons_succ, List.getElem?_cons_zero]
            repeat go_big_quiet_step (fail)
            refine wpQuiet_nil ?_
            clear nonE qa00 ca00 qa10 ca10 qa20 ca20 qb00 cb00 qb10 cb10 qb20 cb20
            rw [Flow.callAt_eq]
            simp only [List.getElem?_toArray, List.getElem?_cons_succ, List.getElem?_cons_zero]
            rw [if_neg (by exact Bool.false_ne_true)]
            simp only [Act.put, List.setIfInBounds_toArray, List.set_cons_succ, List.set_cons_zero]
            haveI nonE := Flow.cls_nonempty w1
            rw [Flow.wpSegs_nil]
            simp only [Flow.pick, List.getElem?_toArray, List.getElem?_cons_succ, List.getElem?_cons_zero]
            repeat go_big_quiet_step (fail)
            refine wpQuiet_nil ?_
            clear nonE 
            go_wp2_with fail
            go_ret
            exact ⟨by rw [V2.out]; try rfl, HBr.out.tr B1.out⟩
          case pos =>
            subst h2
            have e3 : (x2 != x2) = false := by simp
            have e4 : (x2 == x2) = true := by simp
            by_cases h3 : x3 = y3
            case neg =>
              rw [decide_eq_false h3] at HE
              have V2 : Hid (r = false) := by
                show r = false
                rw [← V.out]
                exact decide_eq_false (ne_at GX.out GY.out (by intro e; injection e with _ e; injection e with _ e; exact h3 e))
              go_wp2_with fail
              refine Flow.wp_region_segs Flow.Later Flow.Later.refl Flow.Later.trans [([0, 1, 2, 3, 4, 5, 6, 7, 8, 9, 10, 11, 12, 13, 14, 15, 16, 17, 18, 19, 20, 21, 22, 23, 24, 25, 26, 27, 28, 29, 30, 31, 32, 33, 34], 35)] [36, 37] (by kernel_rfl) (by kernel_rfl) ?_
              have b' : Below wr.heap.size wr (World.drew wr) := (Below.refl _ _).drew
              have fx1 := Lib.hid (HS1.out.below b'); clear HS1
              have fy1 := Lib.hid (HS2.out.below b'); clear HS2
              have B1 := Lib.hid b'
              clear b'
              generalize World.drew _ = w1 at *
              have ca00 := Below.cellv (B1.out.tr (by first | exact Below.refl _ _ | exact below_new _ _)) A0.out
              have qa00 : ∀ t : Flow.Cls (Flow.Later w1), t.val.cell? _ = some (enS x1) := fun t => Flow.cls_cell ca00 t
              have ca10 := Below.cellv (B1.out.tr (by first | exact Below.refl _ _ | exact below_new _ _)) A1.out
              have qa10 : ∀ t : Flow.Cls (Flow.Later w1), t.val.cell? _ = some (.bool x2) := fun t => Flow.cls_cell ca10 t
              have ca20 := Below.cellv (B1.out.tr (by first | exact Below.refl _ _ | exact below_new _ _)) A2.out
              have qa20 : ∀ t : Flow.Cls (Flow.Later w1), t.val.cell? _ = some (.slice X1 x3.length f1) := fun t => Flow.cls_cell ca20 t
              have cb00 := Below.cellv (B1.out.tr (by first | exact Below.refl _ _ | exact below_new _ _)) D0.out
              have qb00 : ∀ t : Flow.Cls (Flow.Later w1), t.val.cell? _ = some (enS x1) := fun t => Flow.cls_cell cb00 t
              have cb10 := Below.cellv (B1.out.tr (by first | exact Below.refl _ _ | exact below_new _ _)) D1.out
              have qb10 : ∀ t : Flow.Cls (Flow.Later w1), t.val.cell? _ = some (.bool x2) := fun t => Flow.cls_cell cb10 t
              have cb20 := Below.cellv (B1.out.tr (by first | exact Below.refl _ _ | exact below_new _ _)) D2.out
              have qb20 : ∀ t : Flow.Cls (Flow.Later w1), t.val.cell? _ = some (.slice X2 y3.length f2) := fun t => Flow.cls_cell cb20 t
              haveI nonE := Flow.cls_nonempty w1
              rw [Flow.wpSegs_cons]
              simp only [Flow.pick, List.getElem?_toArray, List.getElem?_cons_succ, List.getElem?_cons_zero]
              repeat go_big_quiet_step (fail)
              refine wpQuiet_nil ?_
              clear nonE qa00 ca00 qa10 ca10 qa20 ca20 qb00 cb00 qb10 cb10 qb20 cb20
              rw [Flow.callAt_eq]
              simp only [List.getElem?_toArray, List.getElem?_cons_succ, List.getElem?_cons_zero]
              rw [if_pos (by rfl)]
              refine Flow.wp_behind (fun K0 hK => ?_)
              go_wp2_with fail
              refine (HE.out _ (fx1.out.below (by first | exact Below.refl _ _ | exact below_new _ _)) (fy1.out.below (by first | exact Below.refl _ _ | exact below_new _ _))).mono ?_; rintro e w2 ⟨rfl, b⟩
              have b' : Below w1.heap.size w1 w2 := Below.tr (by first | exact Below.refl _ _ | exact below_new _ _) b
              clear b
              refine hK.out _ _ ⟨b', ?_⟩
              clear hK K0
              have fx2 := Lib.hid (fx1.out.below b'); clear fx1
              have fy2 := Lib.hid (fy1.out.below b'); clear fy1
              have B2 := Lib.hid (B1.out.tr b'); clear B1
              clear b'
              haveI nonE := Flow.cls_nonempty w2
              rw [Flow.wpSegs_nil]
              simp only [Flow.pick, List.getElem?_toArray, List.getElem?_cons_succ, List.getElem?_cons_zero]
              repeat go_big_quiet_step (fail)
              refine wpQuiet_nil ?_
              clear nonE 
              go_wp2_with fail
              go_ret
              exact ⟨by rw [V2.out]; try rfl, HBr.out.tr B2.out⟩
            case pos =>
              rw [decide_eq_true h3] at HE
              have N := Lib.hid h3; clear h3
              go_wp2_with fail
              refine Flow.wp_region_segs Flow.Later Flow.Later.refl Flow.Later.trans [([0, 1, 2, 3, 4, 5, 6, 7, 8, 9, 10, 11, 12, 13, 14, 15, 16, 17, 18, 19, 20, 21, 22, 23, 24, 25, 26, 27, 28, 29, 30, 31, 32, 33, 34], 35)] [36, 37] (by kernel_rfl) (by kernel_rfl) ?_
              have b' : Below wr.heap.size wr (World.drew wr) := (Below.refl _ _).drew
              have fx1 := Lib.hid (HS1.out.below b'); clear HS1
              have fy1 := Lib.hid (HS2.out.below b'); clear HS2
              have B1 := Lib.hid b'
              clear b'
              generalize World.drew _ = w1 at *
              have ca00 := Below.cellv (B1.out.tr (by first | exact Below.refl _ _ | exact below_new _ _)) A0.out
              have qa00 : ∀ t : Flow.Cls (Flow.Later w1), t.val.cell? _ = some (enS x1) := fun t => Flow.cls_cell ca00 t
              have ca10 := Below.cellv (B1.out.tr (by first | exact Below.refl _ _ | exact below_new _ _)) A1.out
              have qa10 : ∀ t : Flow.Cls (Flow.Later w1), t.val.cell? _ = some (.bool x2) := fun t => Flow.cls_cell ca10 t
              have ca20 := Below.cellv (B1.out.tr (by first | exact Below.refl _ _ | exact below_new _ _)) A2.out
              have qa20 : ∀ t : Flow.Cls (Flow.Later w1), t.val.cell? _ = some (.slice X1 x3.length f1) := fun t => Flow.cls_cell ca20 t
              have cb00 := Below.cellv (B1.out.tr (by first | exact Below.refl _ _ | exact below_new _ _)) D0.out
              have qb00 : ∀ t : Flow.Cls (Flow.Later w1), t.val.cell? _ = some (enS x1) := fun t => Flow.cls_cell cb00 t
              have cb10 := Below.cellv (B1.out.tr (by first | exact Below.refl _ _ | exact below_new _ _)) D1.out
              have qb10 : ∀ t : Flow.Cls (Flow.Later w1), t.val.cell? _ = some (.bool x2) := fun t => Flow.cls_cell cb10 t
              have cb20 := Below.cellv (B1.out.tr (by first | exact Below.refl _ _ | exact below_new _ _)) D2.out
              have qb20 : ∀ t : Flow.Cls (Flow.Later w1), t.val.cell? _ = some (.slice X2 y3.length f2) := fun t => Flow.cls_cell cb20 t
              haveI nonE := Flow.cls_nonempty w1
              rw [Flow.wpSegs_cons]
              simp only [Flow.pick, List.getElem?_toArray, List.getElem?_cons_succ, List.getElem?_cons_zero]
              repeat go_big_quiet_step (fail)
              refine wpQuiet_nil ?_
              clear nonE qa00 ca00 qa10 ca10 qa20 ca20 qb00 cb00 qb10 cb10 qb20 cb20
              rw [Flow.callAt_eq]
              simp only [List.getElem?_toArray, List.getElem?_cons_succ, List.getElem?_cons_zero]
              rw [if_pos (by rfl)]
              refine Flow.wp_behind (fun K0 hK => ?_)
              go_wp2_with fail
              refine (HE.out _ (fx1.out.below (by first | exact Below.refl _ _ | exact below_new _ _)) (fy1.out.below (by first | exact Below.refl _ _ | exact below_new _ _))).mono ?_; rintro e w2 ⟨rfl, b⟩
              have b' : Below w1.heap.size w1 w2 := Below.tr (by first | exact Below.refl _ _ | exact below_new _ _) b
              clear b
              refine hK.out _ _ ⟨b', ?_⟩
              clear hK K0
              have fx2 := Lib.hid (fx1.out.below b'); clear fx1
              have fy2 := Lib.hid (fy1.out.below b'); clear fy1
              have B2 := Lib.hid (B1.out.tr b'); clear B1
              clear b'
              haveI nonE := Flow.cls_nonempty w2
              rw [Flow.wpSegs_nil]
              simp only [Flow.pick, List.getElem?_toArray, List.getElem?_cons_succ, List.getElem?_cons_zero]
              repeat go_big_quiet_step (fail)
              refine wpQuiet_nil ?_
              clear nonE 
              go_wp2_with fail
              go_roundg (gs.length - (k + 1))
              case measure => omega
              case rel => exact ⟨k + 1, by omega, by omega, by go_num, take_next O.out GX.out (by rw [N.out]; exact GY.out), HBr.out.tr B2.out⟩
      · obtain rfl : k = gs.length := by omega
        have V2 : Hid (r = true) := by
          show r = true
          rw [← V.out]
          have h := O.out
          rw [List.take_of_length_le (Nat.le_refl _), List.take_of_length_le (by rw [HL.out]; omega)] at h
          exact decide_eq_true h
        go_wp2_with fail
        go_ret
        exact ⟨by rw [V2.out]; try rfl, hB⟩
end Go.Proofs.YtcpennlojjlpaaaGreatDoor
