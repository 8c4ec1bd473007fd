/- Contract: Marks' Equal. -/
import Derived.Test.YtcpennlojjlpaaaGreatDoorNxY
import Derived.Test.YtcpennlojjlpaaaGreatDoorZd
namespace Go.Nr
theorem take_next {α : Type} {l m : List α} {k : Nat} {x : α} (h : l.take k = m.take k) (h1 : l[k]? = some x) (h2 : m[k]? = some x) : l.take (k + 1) = m.take (k + 1) := by
  obtain ⟨a, e⟩ := List.getElem?_eq_some_iff.1 h1
  obtain ⟨b, f⟩ := List.getElem?_eq_some_iff.1 h2
  rw [List.take_succ_eq_append_getElem a, List.take_succ_eq_append_getElem b, e, f, h]
theorem ne_at {α : Type} {l m : List α} {k : Nat} {x y : α} (h1 : l[k]? = some x) (h2 : m[k]? = some y) (h : x ≠ y) : l ≠ m := fun e => by
  rw [e, h2] at h1
  injection h1 with h1
  exact h h1.symm
end Go.Nr
namespace Go.Proofs.YtcpennlojjlpaaaGreatDoor
open Go.RowKit Go.Nr Go.Gn

set_option maxRecDepth 100000 in
set_option maxHeartbeats 1000000 in
theorem equal1_any (a1 b1 : List UInt8) (a2 b2 : Bool) (A B : Option Addr) (c d : Nat) (a3 b3 : List Rg) (w : World) (ha : RdR w A a3) (hb : RdR w B b3) (hn : a3.length ≤ 1000000) (hm : b3.length ≤ 1000000) :
    Calls Tryz.prog 105 #[.agg #[enS a1, .bool a2, .slice A a3.length c], .agg #[enS b1, .bool b2, .slice B b3.length d]] w fun e w' => e = .returned (.bool (decide (((a1, a2, a3) : G) = (b1, b2, b3)))) ∧ Below w.heap.size w w' := by
  have HA := Lib.hid ha
  have HB := Lib.hid hb
  clear ha hb
  by_cases h1 : a1 = b1
  · subst h1
    by_cases h2 : a2 = b2
    · subst h2
      obtain ⟨r, hr⟩ : ∃ r, decide (((a1, a2, a3) : G) = (a1, a2, b3)) = r := ⟨_, rfl⟩
      have hr2 : decide (a3 = b3) = r := by rw [← hr]; simp
      rw [hr]
      have HE := Lib.hid (fun W (h1 : RdR W A a3) (h2 : RdR W B b3) => equalSets_any A B c d a3 b3 W h1 h2 hn hm)
      rw [hr2] at HE
      clear hr hr2
      have q1 : (a2 == a2) = true := by simp
      go_enter Tryz.func105, Tryz.ntmps105
      go_wp2_with fail
      have fa1 := Lib.hid (HA.out.below (below_new w (.cells #[enS a1, .bool a2, .slice A a3.length c] 139))); clear HA
      have fb1 := Lib.hid (HB.out.below (below_new w (.cells #[enS a1, .bool a2, .slice A a3.length c] 139))); clear HB
      have B1 := Lib.hid (below_new w (.cells #[enS a1, .bool a2, .slice A a3.length c] 139))
      have bx1 := Lib.hid (blk_new w (.cells #[enS a1, .bool a2, .slice A a3.length c] 139))
      have fa2 := Lib.hid (fa1.out.below (below_new (w.alloc (.cells #[enS a1, .bool a2, .slice A a3.length c] 139)) (.cells #[enS a1, .bool a2, .slice B b3.length d] 139))); clear fa1
      have fb2 := Lib.hid (fb1.out.below (below_new (w.alloc (.cells #[enS a1, .bool a2, .slice A a3.length c] 139)) (.cells #[enS a1, .bool a2, .slice B b3.length d] 139))); clear fb1
      have bx2 := Lib.hid (blk_below (below_new (w.alloc (.cells #[enS a1, .bool a2, .slice A a3.length c] 139)) (.cells #[enS a1, .bool a2, .slice B b3.length d] 139)) bx1.out); clear bx1
      have B2 := Lib.hid (B1.out.tr (below_new (w.alloc (.cells #[enS a1, .bool a2, .slice A a3.length c] 139)) (.cells #[enS a1, .bool a2, .slice B b3.length d] 139))); clear B1
      have by_2 := Lib.hid (blk_new (w.alloc (.cells #[enS a1, .bool a2, .slice A a3.length c] 139)) (.cells #[enS a1, .bool a2, .slice B b3.length d] 139))
      refine (HE.out _ (fa2.out.below (by first | exact Below.refl _ _ | exact below_new _ _)) (fb2.out.below (by first | exact Below.refl _ _ | exact below_new _ _))).mono ?_; rintro e w3 ⟨rfl, b⟩
      have b' : Below ((w.alloc (.cells #[enS a1, .bool a2, .slice A a3.length c] 139)).alloc (.cells #[enS a1, .bool a2, .slice B b3.length d] 139)).heap.size ((w.alloc (.cells #[enS a1, .bool a2, .slice A a3.length c] 139)).alloc (.cells #[enS a1, .bool a2, .slice B b3.length d] 139)) w3 := Below.tr (by first | exact Below.refl _ _ | exact below_new _ _) b
      clear b
      have fa3 := Lib.hid (fa2.out.below b'); clear fa2
      have fb3 := Lib.hid (fb2.out.below b'); clear fb2
      have bx3 := Lib.hid (blk_below b' bx2.out); clear bx2
      have by_3 := Lib.hid (blk_below b' by_2.out); clear by_2
      have B3 := Lib.hid (B2.out.tr b'); clear B2
      clear b'
      go_wp2_with fail
      go_ret
      exact ⟨rfl, (B3.out.tr (by first | exact Below.refl _ _ | exact below_new _ _))⟩
    · have e1 : (a2 == b2) = false := by simpa using h2
      rw [decide_eq_false (by intro e; exact h2 (by injection e with _ e; injection e with e _))]
      go_enter Tryz.func105, Tryz.ntmps105
      go_wp2_with fail
      go_ret
      exact ⟨rfl, (below_new _ _).tr (below_new _ _)⟩
  · have e1 : (a1 == b1) = false := by simpa using h1
    rw [decide_eq_false (by intro e; exact h1 (by injection e with e _))]
    go_enter Tryz.func105, Tryz.ntmps105
    go_wp2_with fail
    go_ret
    exact ⟨rfl, (below_new _ _).tr (below_new _ _)⟩

set_option maxRecDepth 100000 in
set_option maxHeartbeats 4000000 in
theorem equalFunc_any (A B : Option Addr) (c d : Nat) (xs ys : List (G × Option Addr × Nat)) (gs hs : List G) (w : World) (hxs : xs.map (·.1) = gs) (hys : ys.map (·.1) = hs) (ha : RdC w A (mflat xs)) (hb : RdC w B (mflat ys)) (sa : ∀ x ∈ xs, RdR w x.2.1 x.1.2.2) (sb : ∀ x ∈ ys, RdR w x.2.1 x.1.2.2)
    (hn : xs.length ≤ 100000) (_hm : ys.length ≤ 100000) (hla : ∀ g ∈ gs, g.2.2.length ≤ 1000000) (hlb : ∀ g ∈ hs, g.2.2.length ≤ 1000000) :
    Calls Tryz.prog 104 #[.slice A xs.length c, .slice B ys.length d, .func (.func 105) #[] #[]] w fun e w' => e = .returned (.bool (decide (gs = hs))) ∧ Below w.heap.size w w' := by
  have lx : gs.length = xs.length := by rw [← hxs, List.length_map]
  have ly : hs.length = ys.length := by rw [← hys, List.length_map]
  have HXS := Lib.hid hxs
  have HYS := Lib.hid hys
  have RA := Lib.hid (fun W (h : Below w.heap.size w W) => RdC.below ha h)
  have RB := Lib.hid (fun W (h : Below w.heap.size w W) => RdC.below hb h)
  have SA := Lib.hid (fun W (h : Below w.heap.size w W) x hx => (sa x hx).below h)
  have SB := Lib.hid (fun W (h : Below w.heap.size w W) x hx => (sb x hx).below h)
  have LA := Lib.hid hla
  have LB := Lib.hid hlb
  have LX := Lib.hid lx
  have LY := Lib.hid ly
  clear ha hb sa sb hla hlb hxs hys lx ly
  by_cases hlen : xs.length = ys.length
  case neg =>
    rw [decide_eq_false (by intro e; exact hlen (by rw [← LX.out, ← LY.out, e]))]
    have hne : ((xs.length : Int) != (ys.length : Int)) = true := by simp; omega
    have hne2 : decide ((xs.length : Int) ≠ (ys.length : Int)) = true := by simp; omega
    go_enter Tryz.func104, Tryz.ntmps104
    go_wp2_with fail
    go_ret
    exact ⟨rfl, Below.refl _ _⟩
  case pos =>
    rw [← hlen]
    have HL := Lib.hid hlen
    clear hlen
    obtain ⟨r, hr⟩ : ∃ r, decide (gs = hs) = r := ⟨_, rfl⟩
    have V := Lib.hid hr
    rw [hr]
    clear hr
    go_enter Tryz.func104, Tryz.ntmps104
    go_wp2_with fail
    go_loopg [17] xs.length (fun gg iv wr => ∃ k : Nat, k ≤ xs.length ∧ xs.length - k ≤ gg ∧ iv = .int .i64 k ∧ Hid (gs.take k = hs.take k) ∧ Below w.heap.size w wr)
    case atStart => exact ⟨0, by omega, by omega, rfl, rfl, Below.refl _ _⟩
    case round =>
      obtain ⟨k, hk, hgk, rfl, O, hB⟩ := hrel
      by_cases hlt : k < xs.length
      · obtain ⟨x, hx⟩ : ∃ x, xs[k]? = some x := ⟨_, List.getElem?_eq_getElem hlt⟩
        obtain ⟨y, hy⟩ : ∃ y, ys[k]? = some y := ⟨_, List.getElem?_eq_getElem (by rw [← HL.out]; exact hlt)⟩
        obtain ⟨b1, o1, rfl, hc1⟩ := RA.out wr hB (by rw [mflat_length]; omega)
        obtain ⟨b2, o2, rfl, hc2⟩ := RB.out wr hB (by rw [mflat_length, ← HL.out]; omega)
        obtain ⟨f1, f2, f3⟩ := mflat_at xs k x hx
        obtain ⟨g1, g2, g3⟩ := mflat_at ys k y hy
        have c1 := hc1 _ _ f1
        have c2 := hc1 _ _ f2
        have c3 := hc1 _ _ f3
        have d1 := hc2 _ _ g1
        have d2 := hc2 _ _ g2
        have d3 := hc2 _ _ g3
        rw [← Nat.add_assoc] at c2 c3 d2 d3
        have hgx : gs[k]? = some x.1 := by rw [← HXS.out, List.getElem?_map, hx]; rfl
        have hgy : hs[k]? = some y.1 := by rw [← HYS.out, List.getElem?_map, hy]; rfl
        have hsx := Lib.hid (SA.out wr hB x (List.mem_of_getElem? hx))
        have hsy := Lib.hid (SB.out wr hB y (List.mem_of_getElem? hy))
        have hlx := LA.out x.1 (List.mem_of_getElem? hgx)
        have hly := LB.out y.1 (List.mem_of_getElem? hgy)
        have GX := Lib.hid hgx
        have GY := Lib.hid hgy
        have HBr := Lib.hid hB
        obtain ⟨⟨x1, x2, x3⟩, x4, x5⟩ := x
        obtain ⟨⟨y1, y2, y3⟩, y4, y5⟩ := y
        simp only at c1 c2 c3 d1 d2 d3 hsx hsy hlx hly GX GY
        clear hx hy hc1 hc2 f1 f2 f3 g1 g2 g3 hgx hgy hB
        have d4 := Below.cellv (below_new wr (.cells #[enS x1, .bool x2, .slice x4 x3.length x5] 139)) d1
        have d5 := Below.cellv (below_new wr (.cells #[enS x1, .bool x2, .slice x4 x3.length x5] 139)) d2
        have d6 := Below.cellv (below_new wr (.cells #[enS x1, .bool x2, .slice x4 x3.length x5] 139)) d3
        have HE := Lib.hid (fun W (h1 : RdR W x4 x3) (h2 : RdR W y4 y3) => equal1_any x1 y1 x2 y2 x4 y4 x5 y5 x3 y3 W h1 h2 hlx hly)
        have hk0 : (0 : Int) ≤ (k : Int) := by omega
        have hk1 : (k : Int) < (xs.length : Int) := by omega
        by_cases hxy : ((x1, x2, x3) : G) = (y1, y2, y3)
        · rw [decide_eq_true hxy] at HE
          have N := Lib.hid hxy; clear hxy
          go_wp2_with fail
          have fx1 := Lib.hid (hsx.out.below (below_new wr (.cells #[enS x1, .bool x2, .slice x4 x3.length x5] 139))); clear hsx
          have fy1 := Lib.hid (hsy.out.below (below_new wr (.cells #[enS x1, .bool x2, .slice x4 x3.length x5] 139))); clear hsy
          have B1 := Lib.hid (below_new wr (.cells #[enS x1, .bool x2, .slice x4 x3.length x5] 139))
          have fx2 := Lib.hid (fx1.out.below (below_new (wr.alloc (.cells #[enS x1, .bool x2, .slice x4 x3.length x5] 139)) (.cells #[enS y1, .bool y2, .slice y4 y3.length y5] 139))); clear fx1
          have fy2 := Lib.hid (fy1.out.below (below_new (wr.alloc (.cells #[enS x1, .bool x2, .slice x4 x3.length x5] 139)) (.cells #[enS y1, .bool y2, .slice y4 y3.length y5] 139))); clear fy1
          have B2 := Lib.hid (B1.out.tr (below_new (wr.alloc (.cells #[enS x1, .bool x2, .slice x4 x3.length x5] 139)) (.cells #[enS y1, .bool y2, .slice y4 y3.length y5] 139))); clear B1
          refine (HE.out _ (fx2.out.below (by first | exact Below.refl _ _ | exact below_new _ _)) (fy2.out.below (by first | exact Below.refl _ _ | exact below_new _ _))).mono ?_; rintro e w3 ⟨rfl, b⟩
          have b' : Below ((wr.alloc (.cells #[enS x1, .bool x2, .slice x4 x3.length x5] 139)).alloc (.cells #[enS y1, .bool y2, .slice y4 y3.length y5] 139)).heap.size ((wr.alloc (.cells #[enS x1, .bool x2, .slice x4 x3.length x5] 139)).alloc (.cells #[enS y1, .bool y2, .slice y4 y3.length y5] 139)) w3 := Below.tr (by first | exact Below.refl _ _ | exact below_new _ _) b
          clear b
          have fx3 := Lib.hid (fx2.out.below b'); clear fx2
          have fy3 := Lib.hid (fy2.out.below b'); clear fy2
          have B3 := Lib.hid (B2.out.tr b'); clear B2
          clear b'
          go_wp2_with fail
          go_roundg (xs.length - (k + 1))
          case measure => omega
          case rel => exact ⟨k + 1, by omega, by omega, by go_num, take_next O.out GX.out (by rw [N.out]; exact GY.out), HBr.out.tr B3.out⟩
        · rw [decide_eq_false hxy] at HE
          have V2 : Hid (r = false) := by
            show r = false
            rw [← V.out]
            exact decide_eq_false (ne_at GX.out GY.out hxy)
          clear hxy
          go_wp2_with fail
          have fx1 := Lib.hid (hsx.out.below (below_new wr (.cells #[enS x1, .bool x2, .slice x4 x3.length x5] 139))); clear hsx
          have fy1 := Lib.hid (hsy.out.below (below_new wr (.cells #[enS x1, .bool x2, .slice x4 x3.length x5] 139))); clear hsy
          have B1 := Lib.hid (below_new wr (.cells #[enS x1, .bool x2, .slice x4 x3.length x5] 139))
          have fx2 := Lib.hid (fx1.out.below (below_new (wr.alloc (.cells #[enS x1, .bool x2, .slice x4 x3.length x5] 139)) (.cells #[enS y1, .bool y2, .slice y4 y3.length y5] 139))); clear fx1
          have fy2 := Lib.hid (fy1.out.below (below_new (wr.alloc (.cells #[enS x1, .bool x2, .slice x4 x3.length x5] 139)) (.cells #[enS y1, .bool y2, .slice y4 y3.length y5] 139))); clear fy1
          have B2 := Lib.hid (B1.out.tr (below_new (wr.alloc (.cells #[enS x1, .bool x2, .slice x4 x3.length x5] 139)) (.cells #[enS y1, .bool y2, .slice y4 y3.length y5] 139))); clear B1
          refine (HE.out _ (fx2.out.below (by first | exact Below.refl _ _ | exact below_new _ _)) (fy2.out.below (by first | exact Below.refl _ _ | exact below_new _ _))).mono ?_; rintro e w3 ⟨rfl, b⟩
          have b' : Below ((wr.alloc (.cells #[enS x1, .bool x2, .slice x4 x3.length x5] 139)).alloc (.cells #[enS y1, .bool y2, .slice y4 y3.length y5] 139)).heap.size ((wr.alloc (.cells #[enS x1, .bool x2, .slice x4 x3.length x5] 139)).alloc (.cells #[enS y1, .bool y2, .slice y4 y3.length y5] 139)) w3 := Below.tr (by first | exact Below.refl _ _ | exact below_new _ _) b
          clear b
          have fx3 := Lib.hid (fx2.out.below b'); clear fx2
          have fy3 := Lib.hid (fy2.out.below b'); clear fy2
          have B3 := Lib.hid (B2.out.tr b'); clear B2
          clear b'
          go_wp2_with fail
          go_ret
          exact ⟨by rw [V2.out]; try rfl, HBr.out.tr B3.out⟩
      · obtain rfl : k = xs.length := by omega
        have V2 : Hid (r = true) := by
          show r = true
          rw [← V.out]
          have h := O.out
          rw [List.take_of_length_le (by rw [LX.out]; omega), List.take_of_length_le (by rw [LY.out, ← HL.out]; omega)] at h
          exact decide_eq_true h
        go_wp2_with fail
        go_ret
        exact ⟨by rw [V2.out]; try rfl, hB⟩

set_option maxRecDepth 100000 in
set_option maxHeartbeats 4000000 in
theorem equalM_any (p q : Nat) (R S : Option Nat) (gs hs : List G) (w : World) (h : MkAt w p R gs) (k : MkAt w q S hs) (hn : gs.length ≤ 100000) (hm : hs.length ≤ 100000) (hla : ∀ g ∈ gs, g.2.2.length ≤ 1000000) (hlb : ∀ g ∈ hs, g.2.2.length ≤ 1000000) :
    Calls Tryz.prog 62 #[.pointer (some ⟨p, 0, none⟩), .pointer (some ⟨q, 0, none⟩)] w fun e w' => e = .returned (.bool (decide (gs = hs))) ∧ Below w.heap.size w w' := by
  obtain ⟨A, c, xs, hxs, h⟩ := h
  obtain ⟨B, d, ys, hys, k⟩ := k
  have lx : xs.length = gs.length := by rw [← hxs, List.length_map]
  have ly : ys.length = hs.length := by rw [← hys, List.length_map]
  have HE := Lib.hid (fun W (b : Below w.heap.size w W) => equalFunc_any A B c d xs ys gs hs W hxs hys (h.below b).rdc (k.below b).rdc (fun x hx => ((h.below b).sets x hx).rd) (fun x hx => ((k.below b).sets x hx).rd) (by omega) (by omega) hla hlb)
  have N0 := Lib.hid (blk_cell h.at_ 0)
  have N1 := Lib.hid (blk_cell k.at_ 0)
  clear h k hla hlb hxs hys hn hm lx ly
  go_enter Tryz.func62, Tryz.ntmps62
  go_wp2_with fail
  refine Flow.wp_region_segs Flow.Later Flow.Later.refl Flow.Later.trans [([0, 1, 2, 3, 4, 5, 6, 7], 8)] [9] (by kernel_rfl) (by kernel_rfl) ?_
  have b' : Below w.heap.size w (World.drew w) := (Below.refl _ _).drew
  have B1 := Lib.hid b'
  clear b'
  generalize World.drew _ = w1 at *
  have ca0 := Below.cellv (B1.out.tr (by first | exact Below.refl _ _ | exact below_new _ _)) N0.out
  have qa0 : ∀ t : Flow.Cls (Flow.Later w1), t.val.cell? _ = some (.slice A xs.length c) := fun t => Flow.cls_cell ca0 t
  have cb0 := Below.cellv (B1.out.tr (by first | exact Below.refl _ _ | exact below_new _ _)) N1.out
  have qb0 : ∀ t : Flow.Cls (Flow.Later w1), t.val.cell? _ = some (.slice B ys.length d) := fun t => Flow.cls_cell cb0 t
  haveI nonE := Flow.cls_nonempty w1
  rw [Flow.wpSegs_cons]
  simp only [Flow.pick, List.getElem?_toArray, List.getElem?_cons_succ, List.getElem?_cons_zero]
  repeat go_big_quiet_step (fail)
  refine wpQuiet_nil ?_
  clear nonE qa0 ca0 qb0 cb0
  rw [Flow.callAt_eq]
  simp only [List.getElem?_toArray, List.getElem?_cons_succ, List.getElem?_cons_zero]
  rw [if_pos (by rfl)]
  refine Flow.wp_behind (fun K0 hK => ?_)
  go_wp2_with fail
  refine (HE.out _ (B1.out.tr (by first | exact Below.refl _ _ | exact below_new _ _))).mono ?_; rintro e w2 ⟨rfl, b⟩
  have b' : Below w1.heap.size w1 w2 := Below.tr (by first | exact Below.refl _ _ | exact below_new _ _) b
  clear b
  refine hK.out _ _ ⟨b', ?_⟩
  clear hK K0
  have B2 := Lib.hid (B1.out.tr b'); clear B1
  clear b'
  haveI nonE := Flow.cls_nonempty w2
  rw [Flow.wpSegs_nil]
  simp only [Flow.pick, List.getElem?_toArray, List.getElem?_cons_succ, List.getElem?_cons_zero]
  repeat go_big_quiet_step (fail)
  refine wpQuiet_nil ?_
  clear nonE 
  go_wp2_with fail
  go_ret
  exact ⟨rfl, (B2.out.tr (by first | exact Below.refl _ _ | exact below_new _ _))⟩
end Go.Proofs.YtcpennlojjlpaaaGreatDoor
