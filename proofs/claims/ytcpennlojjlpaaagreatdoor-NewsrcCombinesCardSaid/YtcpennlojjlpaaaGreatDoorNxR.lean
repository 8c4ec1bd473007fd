/- The walk of the statement NewsrcCombines. -/
import Derived.Test.YtcpennlojjlpaaaGreatDoorNxP
import Derived.Test.YtcpennlojjlpaaaGreatDoorZh
namespace Go.Proofs.YtcpennlojjlpaaaGreatDoor
open Go.RowKit Go.Nr Go.Gn

theorem fromS_norm {a : List Rg} (h : fromE a = 0) : fromS a = norm a ∧ ∀ r ∈ a, ok r := by
  unfold fromE at h
  cases h1 : a.all okB with
  | true => exact ⟨by unfold fromS; rw [h1]; rfl, fun r hr => (okB_iff r).1 (List.all_eq_true.1 h1 r hr)⟩
  | false => rw [h1] at h; cases h
theorem normal_yes {a : List Rg} (h : fromE a = 0) (hn : a.length ≤ 60) (A : Option Addr) (c : Nat) (W : World) (hr : RdR W A a) :
    Calls Tryz.prog 18 #[.slice A a.length c] W (GivesRow 37 W.heap.size W (fromS a)) := by
  have h2 := fromS_norm h
  rw [h2.1]
  exact refNormal_any A c a W hr (by omega) fun r hr => by
    obtain ⟨z1, z2, z3⟩ := h2.2 r hr
    exact ⟨by omega, z3⟩

theorem RdR.one' {w : World} {b : Nat} {r1 r2 : Int} {t : TypeId} {fr : Nat × Nat} (h : w.heap[b]? = some (.cells #[i64 r1, i64 r2] t fr)) : RdR w (some ⟨b, 0, none⟩) [(r1, r2)] := fun _ => by
  refine ⟨b, 0, rfl, blk_lt h, fun j q hj => ?_⟩
  have hj0 : j = 0 := by
    have := (List.getElem?_eq_some_iff.1 hj).1
    simp at this; exact this
  subst hj0
  simp at hj; subst hj
  rw [blk_cell h, blk_cell h]
  exact ⟨rfl, rfl⟩

set_option maxRecDepth 100000 in
set_option maxHeartbeats 16000000 in
theorem newsrcCombines_walk (A : Option Addr) (c : Nat) (a : List Rg) (B : Option Addr) (d : Nat) (b : List Rg) (r : Rg) (w : World) (ha : RdR w A a) (hb : RdR w B b) (hE : Env w) (hT : Tab w) :
    Calls Tryz.prog 4 #[.slice A a.length c, .slice B b.length d, .agg #[i64 r.1, i64 r.2]] w fun e w' => e = .returned (.bool true) ∧ Below w.heap.size w w' := by
  obtain ⟨r1, r2⟩ := r
  have HK := Lib.hid (fun W (h : Below w.heap.size w W) => known_any W (hE.below h) (hT.below h))
  have RA := Lib.hid ha
  have RB := Lib.hid hb
  clear ha hb hE hT
  by_cases h60 : 60 < a.length
  · go_enter Tryz.func4, Tryz.ntmps4
    go_wp2_with fail
    have ra1 := Lib.hid (RA.out.below (below_new w (.cells #[i64 r1, i64 r2] 37))); clear RA
    have rb1 := Lib.hid (RB.out.below (below_new w (.cells #[i64 r1, i64 r2] 37))); clear RB
    have B1 := Lib.hid (below_new w (.cells #[i64 r1, i64 r2] 37))
    have br1 := Lib.hid (blk_new w (.cells #[i64 r1, i64 r2] 37))
    refine (HK.out _ (B1.out.tr (by first | exact Below.refl _ _ | exact below_new _ _))).mono ?_; rintro e w2 ⟨rfl, b⟩
    have b' : Below (w.alloc (.cells #[i64 r1, i64 r2] 37)).heap.size (w.alloc (.cells #[i64 r1, i64 r2] 37)) w2 := Below.tr (by first | exact Below.refl _ _ | exact below_new _ _) b
    clear b
    have ra2 := Lib.hid (ra1.out.below b'); clear ra1
    have rb2 := Lib.hid (rb1.out.below b'); clear rb1
    have br2 := Lib.hid (blk_below b' br1.out); clear br1
    have B2 := Lib.hid (B1.out.tr b'); clear B1
    clear b'
    go_wp2_with fail
    refine (HK.out _ (B2.out.tr (by first | exact Below.refl _ _ | exact below_new _ _))).mono ?_; rintro e w3 ⟨rfl, b⟩
    have b' : Below w2.heap.size w2 w3 := Below.tr (by first | exact Below.refl _ _ | exact below_new _ _) b
    clear b
    have ra3 := Lib.hid (ra2.out.below b'); clear ra2
    have rb3 := Lib.hid (rb2.out.below b'); clear rb2
    have br3 := Lib.hid (blk_below b' br2.out); clear br2
    have B3 := Lib.hid (B2.out.tr b'); clear B2
    clear b'
    go_wp2_with fail
    go_ret
    exact ⟨rfl, (B3.out.tr (by first | exact Below.refl _ _ | exact below_new _ _))⟩
  by_cases h61 : 60 < b.length
  · go_enter Tryz.func4, Tryz.ntmps4
    go_wp2_with fail
    have ra1 := Lib.hid (RA.out.below (below_new w (.cells #[i64 r1, i64 r2] 37))); clear RA
    have rb1 := Lib.hid (RB.out.below (below_new w (.cells #[i64 r1, i64 r2] 37))); clear RB
    have B1 := Lib.hid (below_new w (.cells #[i64 r1, i64 r2] 37))
    have br1 := Lib.hid (blk_new w (.cells #[i64 r1, i64 r2] 37))
    refine (HK.out _ (B1.out.tr (by first | exact Below.refl _ _ | exact below_new _ _))).mono ?_; rintro e w2 ⟨rfl, b⟩
    have b' : Below (w.alloc (.cells #[i64 r1, i64 r2] 37)).heap.size (w.alloc (.cells #[i64 r1, i64 r2] 37)) w2 := Below.tr (by first | exact Below.refl _ _ | exact below_new _ _) b
    clear b
    have ra2 := Lib.hid (ra1.out.below b'); clear ra1
    have rb2 := Lib.hid (rb1.out.below b'); clear rb1
    have br2 := Lib.hid (blk_below b' br1.out); clear br1
    have B2 := Lib.hid (B1.out.tr b'); clear B1
    clear b'
    go_wp2_with fail
    refine (HK.out _ (B2.out.tr (by first | exact Below.refl _ _ | exact below_new _ _))).mono ?_; rintro e w3 ⟨rfl, b⟩
    have b' : Below w2.heap.size w2 w3 := Below.tr (by first | exact Below.refl _ _ | exact below_new _ _) b
    clear b
    have ra3 := Lib.hid (ra2.out.below b'); clear ra2
    have rb3 := Lib.hid (rb2.out.below b'); clear rb2
    have br3 := Lib.hid (blk_below b' br2.out); clear br2
    have B3 := Lib.hid (B2.out.tr b'); clear B2
    clear b'
    go_wp2_with fail
    go_ret
    exact ⟨rfl, (B3.out.tr (by first | exact Below.refl _ _ | exact below_new _ _))⟩
  have HO1 := Lib.hid (fun W (h : RdR W A a) => own_any46 A c a W h (by omega))
  have HO2 := Lib.hid (fun W (h : RdR W B b) => own_any46 B d b W h (by omega))
  rcases fromE_cases a with ⟨ea, okS⟩ | ⟨ea, eS⟩
  case inr =>
    have HF1 := Lib.hid (fun O o W (h : RdR W O a) (h2 : SlR O o a.length) => fromR_no ea eS (by omega) O o W h h2)
    rcases fromE_cases b with ⟨eb, okT⟩ | ⟨eb, eT⟩
    case inl =>
      have HF2 := Lib.hid (fun O o W (h : RdR W O b) (h2 : SlR O o b.length) => fromR_yes eb (by omega) O o W h h2)
      clear ea eb eS okT
      go_enter Tryz.func4, Tryz.ntmps4
      go_wp2_with fail
      have ra1 := Lib.hid (RA.out.below (below_new w (.cells #[i64 r1, i64 r2] 37))); clear RA
      have rb1 := Lib.hid (RB.out.below (below_new w (.cells #[i64 r1, i64 r2] 37))); clear RB
      have B1 := Lib.hid (below_new w (.cells #[i64 r1, i64 r2] 37))
      have br1 := Lib.hid (blk_new w (.cells #[i64 r1, i64 r2] 37))
      refine (HK.out _ (B1.out.tr (by first | exact Below.refl _ _ | exact below_new _ _))).mono ?_; rintro e w2 ⟨rfl, b⟩
      have b' : Below (w.alloc (.cells #[i64 r1, i64 r2] 37)).heap.size (w.alloc (.cells #[i64 r1, i64 r2] 37)) w2 := Below.tr (by first | exact Below.refl _ _ | exact below_new _ _) b
      clear b
      have ra2 := Lib.hid (ra1.out.below b'); clear ra1
      have rb2 := Lib.hid (rb1.out.below b'); clear rb1
      have br2 := Lib.hid (blk_below b' br1.out); clear br1
      have B2 := Lib.hid (B1.out.tr b'); clear B1
      clear b'
      go_wp2_with fail
      refine (HO1.out _ (ra2.out.below (by first | exact Below.refl _ _ | exact below_new _ _))).mono ?_; rintro e w3 ⟨O1, o1, rfl, ho, b⟩
      have b' : Below w2.heap.size w2 w3 := Below.tr (by first | exact Below.refl _ _ | exact below_new _ _) b
      clear b
      have ra3 := Lib.hid (ra2.out.below b'); clear ra2
      have rb3 := Lib.hid (rb2.out.below b'); clear rb2
      have br3 := Lib.hid (blk_below b' br2.out); clear br2
      have B3 := Lib.hid (B2.out.tr b'); clear B2
      clear b'
      have o_O13 := Lib.hid ((RdR.of_own ho).1)
      have s_O1 := Lib.hid (SlR.of_own ho); clear ho
      go_wp2_with fail
      refine (HF1.out O1 o1 _ (o_O13.out.below (by first | exact Below.refl _ _ | exact below_new _ _)) s_O1.out).mono ?_; rintro e w4 ⟨X, x, rfl, hR, hs', ht', b⟩
      have b' : Below w3.heap.size w3 w4 := Below.tr (by first | exact Below.refl _ _ | exact below_new _ _) b
      clear b
      have ra4 := Lib.hid (ra3.out.below b'); clear ra3
      have rb4 := Lib.hid (rb3.out.below b'); clear rb3
      have o_O14 := Lib.hid (o_O13.out.below b'); clear o_O13
      have br4 := Lib.hid (blk_below b' br3.out); clear br3
      have B4 := Lib.hid (B3.out.tr b'); clear B3
      clear b'
      have r_X4 := Lib.hid hR; clear hR
      have s_X := Lib.hid hs'; clear hs' ht'
      clear o_O14
      go_wp2_with fail
      have ra5 := Lib.hid (ra4.out.below (below_new w4 (.cells #[.slice X (([] : List Rg)).length x] 26))); clear ra4
      have rb5 := Lib.hid (rb4.out.below (below_new w4 (.cells #[.slice X (([] : List Rg)).length x] 26))); clear rb4
      have r_X5 := Lib.hid (r_X4.out.below (below_new w4 (.cells #[.slice X (([] : List Rg)).length x] 26))); clear r_X4
      have br5 := Lib.hid (blk_below (below_new w4 (.cells #[.slice X (([] : List Rg)).length x] 26)) br4.out); clear br4
      have B5 := Lib.hid (B4.out.tr (below_new w4 (.cells #[.slice X (([] : List Rg)).length x] 26))); clear B4
      have bx5 := Lib.hid (blk_new w4 (.cells #[.slice X (([] : List Rg)).length x] 26))
      refine (HO2.out _ (rb5.out.below (by first | exact Below.refl _ _ | exact below_new _ _))).mono ?_; rintro e w6 ⟨O2, o2, rfl, ho, b⟩
      have b' : Below (w4.alloc (.cells #[.slice X (([] : List Rg)).length x] 26)).heap.size (w4.alloc (.cells #[.slice X (([] : List Rg)).length x] 26)) w6 := Below.tr (by first | exact Below.refl _ _ | exact below_new _ _) b
      clear b
      have ra6 := Lib.hid (ra5.out.below b'); clear ra5
      have rb6 := Lib.hid (rb5.out.below b'); clear rb5
      have r_X6 := Lib.hid (r_X5.out.below b'); clear r_X5
      have br6 := Lib.hid (blk_below b' br5.out); clear br5
      have bx6 := Lib.hid (blk_below b' bx5.out); clear bx5
      have B6 := Lib.hid (B5.out.tr b'); clear B5
      clear b'
      have o_O26 := Lib.hid ((RdR.of_own ho).1)
      have s_O2 := Lib.hid (SlR.of_own ho); clear ho
      go_wp2_with fail
      refine (HF2.out O2 o2 _ (o_O26.out.below (by first | exact Below.refl _ _ | exact below_new _ _)) s_O2.out).mono ?_; rintro e w7 ⟨Y, y, rfl, hR, hs', ht', b⟩
      have b' : Below w6.heap.size w6 w7 := Below.tr (by first | exact Below.refl _ _ | exact below_new _ _) b
      clear b
      have ra7 := Lib.hid (ra6.out.below b'); clear ra6
      have rb7 := Lib.hid (rb6.out.below b'); clear rb6
      have r_X7 := Lib.hid (r_X6.out.below b'); clear r_X6
      have o_O27 := Lib.hid (o_O26.out.below b'); clear o_O26
      have br7 := Lib.hid (blk_below b' br6.out); clear br6
      have bx7 := Lib.hid (blk_below b' bx6.out); clear bx6
      have B7 := Lib.hid (B6.out.tr b'); clear B6
      clear b'
      have r_Y7 := Lib.hid hR; clear hR
      have s_Y := Lib.hid hs'; clear hs' ht'
      clear o_O27
      go_wp2_with fail
      have ra8 := Lib.hid (ra7.out.below (below_new w7 (.cells #[.slice Y (fromS b).length y] 26))); clear ra7
      have rb8 := Lib.hid (rb7.out.below (below_new w7 (.cells #[.slice Y (fromS b).length y] 26))); clear rb7
      have r_X8 := Lib.hid (r_X7.out.below (below_new w7 (.cells #[.slice Y (fromS b).length y] 26))); clear r_X7
      have r_Y8 := Lib.hid (r_Y7.out.below (below_new w7 (.cells #[.slice Y (fromS b).length y] 26))); clear r_Y7
      have br8 := Lib.hid (blk_below (below_new w7 (.cells #[.slice Y (fromS b).length y] 26)) br7.out); clear br7
      have bx8 := Lib.hid (blk_below (below_new w7 (.cells #[.slice Y (fromS b).length y] 26)) bx7.out); clear bx7
      have B8 := Lib.hid (B7.out.tr (below_new w7 (.cells #[.slice Y (fromS b).length y] 26))); clear B7
      have by_8 := Lib.hid (blk_new w7 (.cells #[.slice Y (fromS b).length y] 26))
      go_ret
      exact ⟨rfl, (B8.out.tr (by first | exact Below.refl _ _ | exact below_new _ _))⟩
    case inr =>
      have HF2 := Lib.hid (fun O o W (h : RdR W O b) (h2 : SlR O o b.length) => fromR_no eb eT (by omega) O o W h h2)
      clear ea eb eS eT
      go_enter Tryz.func4, Tryz.ntmps4
      go_wp2_with fail
      have ra1 := Lib.hid (RA.out.below (below_new w (.cells #[i64 r1, i64 r2] 37))); clear RA
      have rb1 := Lib.hid (RB.out.below (below_new w (.cells #[i64 r1, i64 r2] 37))); clear RB
      have B1 := Lib.hid (below_new w (.cells #[i64 r1, i64 r2] 37))
      have br1 := Lib.hid (blk_new w (.cells #[i64 r1, i64 r2] 37))
      refine (HK.out _ (B1.out.tr (by first | exact Below.refl _ _ | exact below_new _ _))).mono ?_; rintro e w2 ⟨rfl, b⟩
      have b' : Below (w.alloc (.cells #[i64 r1, i64 r2] 37)).heap.size (w.alloc (.cells #[i64 r1, i64 r2] 37)) w2 := Below.tr (by first | exact Below.refl _ _ | exact below_new _ _) b
      clear b
      have ra2 := Lib.hid (ra1.out.below b'); clear ra1
      have rb2 := Lib.hid (rb1.out.below b'); clear rb1
      have br2 := Lib.hid (blk_below b' br1.out); clear br1
      have B2 := Lib.hid (B1.out.tr b'); clear B1
      clear b'
      go_wp2_with fail
      refine (HO1.out _ (ra2.out.below (by first | exact Below.refl _ _ | exact below_new _ _))).mono ?_; rintro e w3 ⟨O1, o1, rfl, ho, b⟩
      have b' : Below w2.heap.size w2 w3 := Below.tr (by first | exact Below.refl _ _ | exact below_new _ _) b
      clear b
      have ra3 := Lib.hid (ra2.out.below b'); clear ra2
      have rb3 := Lib.hid (rb2.out.below b'); clear rb2
      have br3 := Lib.hid (blk_below b' br2.out); clear br2
      have B3 := Lib.hid (B2.out.tr b'); clear B2
      clear b'
      have o_O13 := Lib.hid ((RdR.of_own ho).1)
      have s_O1 := Lib.hid (SlR.of_own ho); clear ho
      go_wp2_with fail
      refine (HF1.out O1 o1 _ (o_O13.out.below (by first | exact Below.refl _ _ | exact below_new _ _)) s_O1.out).mono ?_; rintro e w4 ⟨X, x, rfl, hR, hs', ht', b⟩
      have b' : Below w3.heap.size w3 w4 := Below.tr (by first | exact Below.refl _ _ | exact below_new _ _) b
      clear b
      have ra4 := Lib.hid (ra3.out.below b'); clear ra3
      have rb4 := Lib.hid (rb3.out.below b'); clear rb3
      have o_O14 := Lib.hid (o_O13.out.below b'); clear o_O13
      have br4 := Lib.hid (blk_below b' br3.out); clear br3
      have B4 := Lib.hid (B3.out.tr b'); clear B3
      clear b'
      have r_X4 := Lib.hid hR; clear hR
      have s_X := Lib.hid hs'; clear hs' ht'
      clear o_O14
      go_wp2_with fail
      have ra5 := Lib.hid (ra4.out.below (below_new w4 (.cells #[.slice X (([] : List Rg)).length x] 26))); clear ra4
      have rb5 := Lib.hid (rb4.out.below (below_new w4 (.cells #[.slice X (([] : List Rg)).length x] 26))); clear rb4
      have r_X5 := Lib.hid (r_X4.out.below (below_new w4 (.cells #[.slice X (([] : List Rg)).length x] 26))); clear r_X4
      have br5 := Lib.hid (blk_below (below_new w4 (.cells #[.slice X (([] : List Rg)).length x] 26)) br4.out); clear br4
      have B5 := Lib.hid (B4.out.tr (below_new w4 (.cells #[.slice X (([] : List Rg)).length x] 26))); clear B4
      have bx5 := Lib.hid (blk_new w4 (.cells #[.slice X (([] : List Rg)).length x] 26))
      refine (HO2.out _ (rb5.out.below (by first | exact Below.refl _ _ | exact below_new _ _))).mono ?_; rintro e w6 ⟨O2, o2, rfl, ho, b⟩
      have b' : Below (w4.alloc (.cells #[.slice X (([] : List Rg)).length x] 26)).heap.size (w4.alloc (.cells #[.slice X (([] : List Rg)).length x] 26)) w6 := Below.tr (by first | exact Below.refl _ _ | exact below_new _ _) b
      clear b
      have ra6 := Lib.hid (ra5.out.below b'); clear ra5
      have rb6 := Lib.hid (rb5.out.below b'); clear rb5
      have r_X6 := Lib.hid (r_X5.out.below b'); clear r_X5
      have br6 := Lib.hid (blk_below b' br5.out); clear br5
      have bx6 := Lib.hid (blk_below b' bx5.out); clear bx5
      have B6 := Lib.hid (B5.out.tr b'); clear B5
      clear b'
      have o_O26 := Lib.hid ((RdR.of_own ho).1)
      have s_O2 := Lib.hid (SlR.of_own ho); clear ho
      go_wp2_with fail
      refine (HF2.out O2 o2 _ (o_O26.out.below (by first | exact Below.refl _ _ | exact below_new _ _)) s_O2.out).mono ?_; rintro e w7 ⟨Y, y, rfl, hR, hs', ht', b⟩
      have b' : Below w6.heap.size w6 w7 := Below.tr (by first | exact Below.refl _ _ | exact below_new _ _) b
      clear b
      have ra7 := Lib.hid (ra6.out.below b'); clear ra6
      have rb7 := Lib.hid (rb6.out.below b'); clear rb6
      have r_X7 := Lib.hid (r_X6.out.below b'); clear r_X6
      have o_O27 := Lib.hid (o_O26.out.below b'); clear o_O26
      have br7 := Lib.hid (blk_below b' br6.out); clear br6
      have bx7 := Lib.hid (blk_below b' bx6.out); clear bx6
      have B7 := Lib.hid (B6.out.tr b'); clear B6
      clear b'
      have r_Y7 := Lib.hid hR; clear hR
      have s_Y := Lib.hid hs'; clear hs' ht'
      clear o_O27
      go_wp2_with fail
      have ra8 := Lib.hid (ra7.out.below (below_new w7 (.cells #[.slice Y (([] : List Rg)).length y] 26))); clear ra7
      have rb8 := Lib.hid (rb7.out.below (below_new w7 (.cells #[.slice Y (([] : List Rg)).length y] 26))); clear rb7
      have r_X8 := Lib.hid (r_X7.out.below (below_new w7 (.cells #[.slice Y (([] : List Rg)).length y] 26))); clear r_X7
      have r_Y8 := Lib.hid (r_Y7.out.below (below_new w7 (.cells #[.slice Y (([] : List Rg)).length y] 26))); clear r_Y7
      have br8 := Lib.hid (blk_below (below_new w7 (.cells #[.slice Y (([] : List Rg)).length y] 26)) br7.out); clear br7
      have bx8 := Lib.hid (blk_below (below_new w7 (.cells #[.slice Y (([] : List Rg)).length y] 26)) bx7.out); clear bx7
      have B8 := Lib.hid (B7.out.tr (below_new w7 (.cells #[.slice Y (([] : List Rg)).length y] 26))); clear B7
      have by_8 := Lib.hid (blk_new w7 (.cells #[.slice Y (([] : List Rg)).length y] 26))
      go_ret
      exact ⟨rfl, (B8.out.tr (by first | exact Below.refl _ _ | exact below_new _ _))⟩
  have HF1 := Lib.hid (fun O o W (h : RdR W O a) (h2 : SlR O o a.length) => fromR_yes ea (by omega) O o W h h2)
  have lS := fromS_length a
  rcases fromE_cases b with ⟨eb, okT⟩ | ⟨eb, eT⟩
  case inr =>
    have HF2 := Lib.hid (fun O o W (h : RdR W O b) (h2 : SlR O o b.length) => fromR_no eb eT (by omega) O o W h h2)
    clear ea eb eT okS
    go_enter Tryz.func4, Tryz.ntmps4
    go_wp2_with fail
    have ra1 := Lib.hid (RA.out.below (below_new w (.cells #[i64 r1, i64 r2] 37))); clear RA
    have rb1 := Lib.hid (RB.out.below (below_new w (.cells #[i64 r1, i64 r2] 37))); clear RB
    have B1 := Lib.hid (below_new w (.cells #[i64 r1, i64 r2] 37))
    have br1 := Lib.hid (blk_new w (.cells #[i64 r1, i64 r2] 37))
    refine (HK.out _ (B1.out.tr (by first | exact Below.refl _ _ | exact below_new _ _))).mono ?_; rintro e w2 ⟨rfl, b⟩
    have b' : Below (w.alloc (.cells #[i64 r1, i64 r2] 37)).heap.size (w.alloc (.cells #[i64 r1, i64 r2] 37)) w2 := Below.tr (by first | exact Below.refl _ _ | exact below_new _ _) b
    clear b
    have ra2 := Lib.hid (ra1.out.below b'); clear ra1
    have rb2 := Lib.hid (rb1.out.below b'); clear rb1
    have br2 := Lib.hid (blk_below b' br1.out); clear br1
    have B2 := Lib.hid (B1.out.tr b'); clear B1
    clear b'
    go_wp2_with fail
    refine (HO1.out _ (ra2.out.below (by first | exact Below.refl _ _ | exact below_new _ _))).mono ?_; rintro e w3 ⟨O1, o1, rfl, ho, b⟩
    have b' : Below w2.heap.size w2 w3 := Below.tr (by first | exact Below.refl _ _ | exact below_new _ _) b
    clear b
    have ra3 := Lib.hid (ra2.out.below b'); clear ra2
    have rb3 := Lib.hid (rb2.out.below b'); clear rb2
    have br3 := Lib.hid (blk_below b' br2.out); clear br2
    have B3 := Lib.hid (B2.out.tr b'); clear B2
    clear b'
    have o_O13 := Lib.hid ((RdR.of_own ho).1)
    have s_O1 := Lib.hid (SlR.of_own ho); clear ho
    go_wp2_with fail
    refine (HF1.out O1 o1 _ (o_O13.out.below (by first | exact Below.refl _ _ | exact below_new _ _)) s_O1.out).mono ?_; rintro e w4 ⟨X, x, rfl, hR, hs', ht', b⟩
    have b' : Below w3.heap.size w3 w4 := Below.tr (by first | exact Below.refl _ _ | exact below_new _ _) b
    clear b
    have ra4 := Lib.hid (ra3.out.below b'); clear ra3
    have rb4 := Lib.hid (rb3.out.below b'); clear rb3
    have o_O14 := Lib.hid (o_O13.out.below b'); clear o_O13
    have br4 := Lib.hid (blk_below b' br3.out); clear br3
    have B4 := Lib.hid (B3.out.tr b'); clear B3
    clear b'
    have r_X4 := Lib.hid hR; clear hR
    have s_X := Lib.hid hs'; clear hs' ht'
    clear o_O14
    go_wp2_with fail
    have ra5 := Lib.hid (ra4.out.below (below_new w4 (.cells #[.slice X (fromS a).length x] 26))); clear ra4
    have rb5 := Lib.hid (rb4.out.below (below_new w4 (.cells #[.slice X (fromS a).length x] 26))); clear rb4
    have r_X5 := Lib.hid (r_X4.out.below (below_new w4 (.cells #[.slice X (fromS a).length x] 26))); clear r_X4
    have br5 := Lib.hid (blk_below (below_new w4 (.cells #[.slice X (fromS a).length x] 26)) br4.out); clear br4
    have B5 := Lib.hid (B4.out.tr (below_new w4 (.cells #[.slice X (fromS a).length x] 26))); clear B4
    have bx5 := Lib.hid (blk_new w4 (.cells #[.slice X (fromS a).length x] 26))
    refine (HO2.out _ (rb5.out.below (by first | exact Below.refl _ _ | exact below_new _ _))).mono ?_; rintro e w6 ⟨O2, o2, rfl, ho, b⟩
    have b' : Below (w4.alloc (.cells #[.slice X (fromS a).length x] 26)).heap.size (w4.alloc (.cells #[.slice X (fromS a).length x] 26)) w6 := Below.tr (by first | exact Below.refl _ _ | exact below_new _ _) b
    clear b
    have ra6 := Lib.hid (ra5.out.below b'); clear ra5
    have rb6 := Lib.hid (rb5.out.below b'); clear rb5
    have r_X6 := Lib.hid (r_X5.out.below b'); clear r_X5
    have br6 := Lib.hid (blk_below b' br5.out); clear br5
    have bx6 := Lib.hid (blk_below b' bx5.out); clear bx5
    have B6 := Lib.hid (B5.out.tr b'); clear B5
    clear b'
    have o_O26 := Lib.hid ((RdR.of_own ho).1)
    have s_O2 := Lib.hid (SlR.of_own ho); clear ho
    go_wp2_with fail
    refine (HF2.out O2 o2 _ (o_O26.out.below (by first | exact Below.refl _ _ | exact below_new _ _)) s_O2.out).mono ?_; rintro e w7 ⟨Y, y, rfl, hR, hs', ht', b⟩
    have b' : Below w6.heap.size w6 w7 := Below.tr (by first | exact Below.refl _ _ | exact below_new _ _) b
    clear b
    have ra7 := Lib.hid (ra6.out.below b'); clear ra6
    have rb7 := Lib.hid (rb6.out.below b'); clear rb6
    have r_X7 := Lib.hid (r_X6.out.below b'); clear r_X6
    have o_O27 := Lib.hid (o_O26.out.below b'); clear o_O26
    have br7 := Lib.hid (blk_below b' br6.out); clear br6
    have bx7 := Lib.hid (blk_below b' bx6.out); clear bx6
    have B7 := Lib.hid (B6.out.tr b'); clear B6
    clear b'
    have r_Y7 := Lib.hid hR; clear hR
    have s_Y := Lib.hid hs'; clear hs' ht'
    clear o_O27
    go_wp2_with fail
    have ra8 := Lib.hid (ra7.out.below (below_new w7 (.cells #[.slice Y (([] : List Rg)).length y] 26))); clear ra7
    have rb8 := Lib.hid (rb7.out.below (below_new w7 (.cells #[.slice Y (([] : List Rg)).length y] 26))); clear rb7
    have r_X8 := Lib.hid (r_X7.out.below (below_new w7 (.cells #[.slice Y (([] : List Rg)).length y] 26))); clear r_X7
    have r_Y8 := Lib.hid (r_Y7.out.below (below_new w7 (.cells #[.slice Y (([] : List Rg)).length y] 26))); clear r_Y7
    have br8 := Lib.hid (blk_below (below_new w7 (.cells #[.slice Y (([] : List Rg)).length y] 26)) br7.out); clear br7
    have bx8 := Lib.hid (blk_below (below_new w7 (.cells #[.slice Y (([] : List Rg)).length y] 26)) bx7.out); clear bx7
    have B8 := Lib.hid (B7.out.tr (below_new w7 (.cells #[.slice Y (([] : List Rg)).length y] 26))); clear B7
    have by_8 := Lib.hid (blk_new w7 (.cells #[.slice Y (([] : List Rg)).length y] 26))
    go_ret
    exact ⟨rfl, (B8.out.tr (by first | exact Below.refl _ _ | exact below_new _ _))⟩
  have HF2 := Lib.hid (fun O o W (h : RdR W O b) (h2 : SlR O o b.length) => fromR_yes eb (by omega) O o W h h2)
  have lT := fromS_length b
  have HM1 := Lib.hid (fun W (h : RdR W A a) => normal_yes ea (by omega) A c W h)
  have HM2 := Lib.hid (fun W (h : RdR W B b) => normal_yes eb (by omega) B d W h)
  clear ea eb
  generalize fromS a = S at *
  generalize fromS b = T at *
  have okO := orS_ok okS okT
  have okM := minusS_ok okS okT
  have spA := andS_spec S T
  have lO := orS_length S T
  have lM := minusS_len okS okT
  have lA := and_len spA.1 spA.2
  have rS : ∀ q ∈ S, 0 ≤ q.2 ∧ q.2 ≤ M := fun q hq => by obtain ⟨z1, z2, z3⟩ := okS.2 q hq; exact ⟨by omega, z3⟩
  have rT : ∀ q ∈ T, 0 ≤ q.2 ∧ q.2 ≤ M := fun q hq => by obtain ⟨z1, z2, z3⟩ := okT.2 q hq; exact ⟨by omega, z3⟩
  have hmul : S.length * T.length ≤ 60 * 60 := Nat.mul_le_mul (by omega) (by omega)
  have hmul : S.length * T.length ≤ 1000000 := by omega
  have HU1 := Lib.hid (fun X x Y y W (h1 : RdR W X S) (h2 : RdR W Y T) => union_any X Y x y S T W h1 h2 okS okT (by omega))
  have HU2 := Lib.hid (fun X x Y y W (h1 : RdR W X S) (h2 : RdR W Y T) => inter_any X Y x y S T W h1 h2 okS okT (by omega))
  have HU3 := Lib.hid (fun X x Y y W (h1 : RdR W X S) (h2 : RdR W Y T) => diff_any X Y x y S T W h1 h2 okS okT (by omega))
  have HR1 := Lib.hid (fun X x Y y W (h1 : RdR W X S) (h2 : RdR W Y T) => refOr_any X Y x y S T W h1 h2 (by omega) rS rT)
  have HR2 := Lib.hid (fun X x Y y W (h1 : RdR W X S) (h2 : RdR W Y T) => (by exact refBoth_any X Y x y S T W h1 h2 hmul (by omega) (by omega) (fun q hq => ⟨(okS.2 q hq).1, (okS.2 q hq).2.2⟩) : Calls Tryz.prog 27 #[.slice X S.length x, .slice Y T.length y] W (GivesRow 37 W.heap.size W (andS S T))))
  have HR3 := Lib.hid (fun X x Y y W (h1 : RdR W X S) (h2 : RdR W Y T) => refMinus_any X Y x y S T W h1 h2 okS okT (by omega))
  have HI := Lib.hid (fun (Q : List Rg) (hQ : Q.length ≤ 1000) X x Y y W (h1 : RdR W X Q) (h2 : SlR X x Q.length) (h3 : RdR W Y Q) => (by
    have h := is_any X Y x y Q Q W h1 h2 h3 (by omega) (by omega)
    rw [decide_eq_true rfl] at h
    exact h : Calls Tryz.prog 25 #[.agg #[.slice X Q.length x], .slice Y Q.length y] W fun e w' => e = .returned (.bool true) ∧ Below W.heap.size W w'))
  have HA := Lib.hid (fun X x W (h1 : RdR W X S) => add_any X x S (r1, r2) W h1 okS (by omega))
  have HD := Lib.hid (fun X x W (h1 : RdR W X S) => rem_any X x S (r1, r2) W h1 okS (by omega))
  have HV := Lib.hid (fun W => refValid_any r1 r2 W)
  have HVR : Hid (okB (r1, r2) = true → ok (r1, r2)) := (okB_iff (r1, r2)).1
  have lP : ∀ P : List Rg, P.length ≤ 1000 → P.length ≤ 1000 := fun _ h => h
  have LO := Lib.hid (lP (orS S T) (by omega))
  have LA := Lib.hid (lP (andS S T) (by omega))
  have LM := Lib.hid (lP (minusS S T) (by omega))
  have LS := Lib.hid (lP S (by omega))
  have LN := Lib.hid (lP [] (by simp))
  clear lP
  cases hok : okB (r1, r2) with
  | false =>
    rw [hok] at HV
    have e1 : addS S (r1, r2) = [] := by unfold addS; rw [hok]; rfl
    have e2 : remS S (r1, r2) = [] := by unfold remS; rw [hok]; rfl
    rw [e1, hok] at HA
    rw [e2, hok] at HD
    simp only [Bool.false_eq_true, if_false] at HA HD
    clear e1 e2 hok okO okM spA lO lM lA rS rT hmul lS lT okS okT HVR
    generalize orS S T = OR at *
    generalize andS S T = AND at *
    generalize minusS S T = MIN at *
    go_enter Tryz.func4, Tryz.ntmps4
    go_wp2_with fail
    have ra1 := Lib.hid (RA.out.below (below_new w (.cells #[i64 r1, i64 r2] 37))); clear RA
    have rb1 := Lib.hid (RB.out.below (below_new w (.cells #[i64 r1, i64 r2] 37))); clear RB
    have B1 := Lib.hid (below_new w (.cells #[i64 r1, i64 r2] 37))
    have br1 := Lib.hid (blk_new w (.cells #[i64 r1, i64 r2] 37))
    refine (HK.out _ (B1.out.tr (by first | exact Below.refl _ _ | exact below_new _ _))).mono ?_; rintro e w2 ⟨rfl, b⟩
    have b' : Below (w.alloc (.cells #[i64 r1, i64 r2] 37)).heap.size (w.alloc (.cells #[i64 r1, i64 r2] 37)) w2 := Below.tr (by first | exact Below.refl _ _ | exact below_new _ _) b
    clear b
    have ra2 := Lib.hid (ra1.out.below b'); clear ra1
    have rb2 := Lib.hid (rb1.out.below b'); clear rb1
    have br2 := Lib.hid (blk_below b' br1.out); clear br1
    have B2 := Lib.hid (B1.out.tr b'); clear B1
    clear b'
    go_wp2_with fail
    refine (HO1.out _ (ra2.out.below (by first | exact Below.refl _ _ | exact below_new _ _))).mono ?_; rintro e w3 ⟨O1, o1, rfl, ho, b⟩
    have b' : Below w2.heap.size w2 w3 := Below.tr (by first | exact Below.refl _ _ | exact below_new _ _) b
    clear b
    have ra3 := Lib.hid (ra2.out.below b'); clear ra2
    have rb3 := Lib.hid (rb2.out.below b'); clear rb2
    have br3 := Lib.hid (blk_below b' br2.out); clear br2
    have B3 := Lib.hid (B2.out.tr b'); clear B2
    clear b'
    have o_O13 := Lib.hid ((RdR.of_own ho).1)
    have s_O1 := Lib.hid (SlR.of_own ho); clear ho
    go_wp2_with fail
    refine (HF1.out O1 o1 _ (o_O13.out.below (by first | exact Below.refl _ _ | exact below_new _ _)) s_O1.out).mono ?_; rintro e w4 ⟨X, x, rfl, hR, hs', ht', b⟩
    have b' : Below w3.heap.size w3 w4 := Below.tr (by first | exact Below.refl _ _ | exact below_new _ _) b
    clear b
    have ra4 := Lib.hid (ra3.out.below b'); clear ra3
    have rb4 := Lib.hid (rb3.out.below b'); clear rb3
    have o_O14 := Lib.hid (o_O13.out.below b'); clear o_O13
    have br4 := Lib.hid (blk_below b' br3.out); clear br3
    have B4 := Lib.hid (B3.out.tr b'); clear B3
    clear b'
    have r_X4 := Lib.hid hR; clear hR
    have s_X := Lib.hid hs'; clear hs' ht'
    clear o_O14
    go_wp2_with fail
    have ra5 := Lib.hid (ra4.out.below (below_new w4 (.cells #[.slice X S.length x] 26))); clear ra4
    have rb5 := Lib.hid (rb4.out.below (below_new w4 (.cells #[.slice X S.length x] 26))); clear rb4
    have r_X5 := Lib.hid (r_X4.out.below (below_new w4 (.cells #[.slice X S.length x] 26))); clear r_X4
    have br5 := Lib.hid (blk_below (below_new w4 (.cells #[.slice X S.length x] 26)) br4.out); clear br4
    have B5 := Lib.hid (B4.out.tr (below_new w4 (.cells #[.slice X S.length x] 26))); clear B4
    have bx5 := Lib.hid (blk_new w4 (.cells #[.slice X S.length x] 26))
    refine (HO2.out _ (rb5.out.below (by first | exact Below.refl _ _ | exact below_new _ _))).mono ?_; rintro e w6 ⟨O2, o2, rfl, ho, b⟩
    have b' : Below (w4.alloc (.cells #[.slice X S.length x] 26)).heap.size (w4.alloc (.cells #[.slice X S.length x] 26)) w6 := Below.tr (by first | exact Below.refl _ _ | exact below_new _ _) b
    clear b
    have ra6 := Lib.hid (ra5.out.below b'); clear ra5
    have rb6 := Lib.hid (rb5.out.below b'); clear rb5
    have r_X6 := Lib.hid (r_X5.out.below b'); clear r_X5
    have br6 := Lib.hid (blk_below b' br5.out); clear br5
    have bx6 := Lib.hid (blk_below b' bx5.out); clear bx5
    have B6 := Lib.hid (B5.out.tr b'); clear B5
    clear b'
    have o_O26 := Lib.hid ((RdR.of_own ho).1)
    have s_O2 := Lib.hid (SlR.of_own ho); clear ho
    go_wp2_with fail
    refine (HF2.out O2 o2 _ (o_O26.out.below (by first | exact Below.refl _ _ | exact below_new _ _)) s_O2.out).mono ?_; rintro e w7 ⟨Y, y, rfl, hR, hs', ht', b⟩
    have b' : Below w6.heap.size w6 w7 := Below.tr (by first | exact Below.refl _ _ | exact below_new _ _) b
    clear b
    have ra7 := Lib.hid (ra6.out.below b'); clear ra6
    have rb7 := Lib.hid (rb6.out.below b'); clear rb6
    have r_X7 := Lib.hid (r_X6.out.below b'); clear r_X6
    have o_O27 := Lib.hid (o_O26.out.below b'); clear o_O26
    have br7 := Lib.hid (blk_below b' br6.out); clear br6
    have bx7 := Lib.hid (blk_below b' bx6.out); clear bx6
    have B7 := Lib.hid (B6.out.tr b'); clear B6
    clear b'
    have r_Y7 := Lib.hid hR; clear hR
    have s_Y := Lib.hid hs'; clear hs' ht'
    clear o_O27
    have cbx0 := blk_cell bx7.out 0
    have pbx := blk_lt bx7.out
    go_wp2_with fail
    clear cbx0 pbx
    have ra8 := Lib.hid (ra7.out.below (below_new w7 (.cells #[.slice Y T.length y] 26))); clear ra7
    have rb8 := Lib.hid (rb7.out.below (below_new w7 (.cells #[.slice Y T.length y] 26))); clear rb7
    have r_X8 := Lib.hid (r_X7.out.below (below_new w7 (.cells #[.slice Y T.length y] 26))); clear r_X7
    have r_Y8 := Lib.hid (r_Y7.out.below (below_new w7 (.cells #[.slice Y T.length y] 26))); clear r_Y7
    have br8 := Lib.hid (blk_below (below_new w7 (.cells #[.slice Y T.length y] 26)) br7.out); clear br7
    have bx8 := Lib.hid (blk_below (below_new w7 (.cells #[.slice Y T.length y] 26)) bx7.out); clear bx7
    have B8 := Lib.hid (B7.out.tr (below_new w7 (.cells #[.slice Y T.length y] 26))); clear B7
    have by_8 := Lib.hid (blk_new w7 (.cells #[.slice Y T.length y] 26))
    refine (HM1.out _ (ra8.out.below (by first | exact Below.refl _ _ | exact below_new _ _))).mono ?_; rintro e w9 ⟨VV, vv, rfl, ho, b⟩
    have b' : Below (w7.alloc (.cells #[.slice Y T.length y] 26)).heap.size (w7.alloc (.cells #[.slice Y T.length y] 26)) w9 := Below.tr (by first | exact Below.refl _ _ | exact below_new _ _) b
    clear b
    have ra9 := Lib.hid (ra8.out.below b'); clear ra8
    have rb9 := Lib.hid (rb8.out.below b'); clear rb8
    have r_X9 := Lib.hid (r_X8.out.below b'); clear r_X8
    have r_Y9 := Lib.hid (r_Y8.out.below b'); clear r_Y8
    have br9 := Lib.hid (blk_below b' br8.out); clear br8
    have bx9 := Lib.hid (blk_below b' bx8.out); clear bx8
    have by_9 := Lib.hid (blk_below b' by_8.out); clear by_8
    have B9 := Lib.hid (B8.out.tr b'); clear B8
    clear b'
    have v_VV9 := Lib.hid ((RdR.of_own ho).1)
    clear ho
    go_wp2_with fail
    refine (HM2.out _ (rb9.out.below (by first | exact Below.refl _ _ | exact below_new _ _))).mono ?_; rintro e w10 ⟨WW, ww, rfl, ho, b⟩
    have b' : Below w9.heap.size w9 w10 := Below.tr (by first | exact Below.refl _ _ | exact below_new _ _) b
    clear b
    have ra10 := Lib.hid (ra9.out.below b'); clear ra9
    have rb10 := Lib.hid (rb9.out.below b'); clear rb9
    have r_X10 := Lib.hid (r_X9.out.below b'); clear r_X9
    have r_Y10 := Lib.hid (r_Y9.out.below b'); clear r_Y9
    have v_VV10 := Lib.hid (v_VV9.out.below b'); clear v_VV9
    have br10 := Lib.hid (blk_below b' br9.out); clear br9
    have bx10 := Lib.hid (blk_below b' bx9.out); clear bx9
    have by_10 := Lib.hid (blk_below b' by_9.out); clear by_9
    have B10 := Lib.hid (B9.out.tr b'); clear B9
    clear b'
    have v_WW10 := Lib.hid ((RdR.of_own ho).1)
    clear ho
    have cbx0 := blk_cell bx10.out 0
    have pbx := blk_lt bx10.out
    have cby_0 := blk_cell by_10.out 0
    have pby_ := blk_lt by_10.out
    go_wp2_with fail
    clear cbx0 pbx cby_0 pby_
    refine (HU1.out X x Y y _ (r_X10.out.below (by first | exact Below.refl _ _ | exact below_new _ _)) (r_Y10.out.below (by first | exact Below.refl _ _ | exact below_new _ _))).mono ?_; rintro e w11 ⟨P, p, rfl, hR, hs', ht', b⟩
    have b' : Below w10.heap.size w10 w11 := Below.tr (by first | exact Below.refl _ _ | exact below_new _ _) b
    clear b
    have ra11 := Lib.hid (ra10.out.below b'); clear ra10
    have rb11 := Lib.hid (rb10.out.below b'); clear rb10
    have r_X11 := Lib.hid (r_X10.out.below b'); clear r_X10
    have r_Y11 := Lib.hid (r_Y10.out.below b'); clear r_Y10
    have v_VV11 := Lib.hid (v_VV10.out.below b'); clear v_VV10
    have v_WW11 := Lib.hid (v_WW10.out.below b'); clear v_WW10
    have br11 := Lib.hid (blk_below b' br10.out); clear br10
    have bx11 := Lib.hid (blk_below b' bx10.out); clear bx10
    have by_11 := Lib.hid (blk_below b' by_10.out); clear by_10
    have B11 := Lib.hid (B10.out.tr b'); clear B10
    clear b'
    have r_P11 := Lib.hid hR; clear hR
    have s_P := Lib.hid hs'; clear hs' ht'
    have cbx0 := blk_cell bx11.out 0
    have pbx := blk_lt bx11.out
    have cby_0 := blk_cell by_11.out 0
    have pby_ := blk_lt by_11.out
    go_wp2_with fail
    clear cbx0 pbx cby_0 pby_
    have ra12 := Lib.hid (ra11.out.below (below_new w11 (.cells #[.slice P OR.length p] 26))); clear ra11
    have rb12 := Lib.hid (rb11.out.below (below_new w11 (.cells #[.slice P OR.length p] 26))); clear rb11
    have r_X12 := Lib.hid (r_X11.out.below (below_new w11 (.cells #[.slice P OR.length p] 26))); clear r_X11
    have r_Y12 := Lib.hid (r_Y11.out.below (below_new w11 (.cells #[.slice P OR.length p] 26))); clear r_Y11
    have v_VV12 := Lib.hid (v_VV11.out.below (below_new w11 (.cells #[.slice P OR.length p] 26))); clear v_VV11
    have v_WW12 := Lib.hid (v_WW11.out.below (below_new w11 (.cells #[.slice P OR.length p] 26))); clear v_WW11
    have r_P12 := Lib.hid (r_P11.out.below (below_new w11 (.cells #[.slice P OR.length p] 26))); clear r_P11
    have br12 := Lib.hid (blk_below (below_new w11 (.cells #[.slice P OR.length p] 26)) br11.out); clear br11
    have bx12 := Lib.hid (blk_below (below_new w11 (.cells #[.slice P OR.length p] 26)) bx11.out); clear bx11
    have by_12 := Lib.hid (blk_below (below_new w11 (.cells #[.slice P OR.length p] 26)) by_11.out); clear by_11
    have B12 := Lib.hid (B11.out.tr (below_new w11 (.cells #[.slice P OR.length p] 26))); clear B11
    have bp12 := Lib.hid (blk_new w11 (.cells #[.slice P OR.length p] 26))
    refine (HU2.out X x Y y _ (r_X12.out.below (by first | exact Below.refl _ _ | exact below_new _ _)) (r_Y12.out.below (by first | exact Below.refl _ _ | exact below_new _ _))).mono ?_; rintro e w13 ⟨Q, q, rfl, hR, hs', ht', b⟩
    have b' : Below (w11.alloc (.cells #[.slice P OR.length p] 26)).heap.size (w11.alloc (.cells #[.slice P OR.length p] 26)) w13 := Below.tr (by first | exact Below.refl _ _ | exact below_new _ _) b
    clear b
    have ra13 := Lib.hid (ra12.out.below b'); clear ra12
    have rb13 := Lib.hid (rb12.out.below b'); clear rb12
    have r_X13 := Lib.hid (r_X12.out.below b'); clear r_X12
    have r_Y13 := Lib.hid (r_Y12.out.below b'); clear r_Y12
    have v_VV13 := Lib.hid (v_VV12.out.below b'); clear v_VV12
    have v_WW13 := Lib.hid (v_WW12.out.below b'); clear v_WW12
    have r_P13 := Lib.hid (r_P12.out.below b'); clear r_P12
    have br13 := Lib.hid (blk_below b' br12.out); clear br12
    have bx13 := Lib.hid (blk_below b' bx12.out); clear bx12
    have by_13 := Lib.hid (blk_below b' by_12.out); clear by_12
    have bp13 := Lib.hid (blk_below b' bp12.out); clear bp12
    have B13 := Lib.hid (B12.out.tr b'); clear B12
    clear b'
    have r_Q13 := Lib.hid hR; clear hR
    have s_Q := Lib.hid hs'; clear hs' ht'
    have cbx0 := blk_cell bx13.out 0
    have pbx := blk_lt bx13.out
    have cby_0 := blk_cell by_13.out 0
    have pby_ := blk_lt by_13.out
    go_wp2_with fail
    clear cbx0 pbx cby_0 pby_
    have ra14 := Lib.hid (ra13.out.below (below_new w13 (.cells #[.slice Q AND.length q] 26))); clear ra13
    have rb14 := Lib.hid (rb13.out.below (below_new w13 (.cells #[.slice Q AND.length q] 26))); clear rb13
    have r_X14 := Lib.hid (r_X13.out.below (below_new w13 (.cells #[.slice Q AND.length q] 26))); clear r_X13
    have r_Y14 := Lib.hid (r_Y13.out.below (below_new w13 (.cells #[.slice Q AND.length q] 26))); clear r_Y13
    have v_VV14 := Lib.hid (v_VV13.out.below (below_new w13 (.cells #[.slice Q AND.length q] 26))); clear v_VV13
    have v_WW14 := Lib.hid (v_WW13.out.below (below_new w13 (.cells #[.slice Q AND.length q] 26))); clear v_WW13
    have r_P14 := Lib.hid (r_P13.out.below (below_new w13 (.cells #[.slice Q AND.length q] 26))); clear r_P13
    have r_Q14 := Lib.hid (r_Q13.out.below (below_new w13 (.cells #[.slice Q AND.length q] 26))); clear r_Q13
    have br14 := Lib.hid (blk_below (below_new w13 (.cells #[.slice Q AND.length q] 26)) br13.out); clear br13
    have bx14 := Lib.hid (blk_below (below_new w13 (.cells #[.slice Q AND.length q] 26)) bx13.out); clear bx13
    have by_14 := Lib.hid (blk_below (below_new w13 (.cells #[.slice Q AND.length q] 26)) by_13.out); clear by_13
    have bp14 := Lib.hid (blk_below (below_new w13 (.cells #[.slice Q AND.length q] 26)) bp13.out); clear bp13
    have B14 := Lib.hid (B13.out.tr (below_new w13 (.cells #[.slice Q AND.length q] 26))); clear B13
    have bq14 := Lib.hid (blk_new w13 (.cells #[.slice Q AND.length q] 26))
    refine (HU3.out X x Y y _ (r_X14.out.below (by first | exact Below.refl _ _ | exact below_new _ _)) (r_Y14.out.below (by first | exact Below.refl _ _ | exact below_new _ _))).mono ?_; rintro e w15 ⟨D, dd, rfl, hR, hs', ht', b⟩
    have b' : Below (w13.alloc (.cells #[.slice Q AND.length q] 26)).heap.size (w13.alloc (.cells #[.slice Q AND.length q] 26)) w15 := Below.tr (by first | exact Below.refl _ _ | exact below_new _ _) b
    clear b
    have ra15 := Lib.hid (ra14.out.below b'); clear ra14
    have rb15 := Lib.hid (rb14.out.below b'); clear rb14
    have r_X15 := Lib.hid (r_X14.out.below b'); clear r_X14
    have r_Y15 := Lib.hid (r_Y14.out.below b'); clear r_Y14
    have v_VV15 := Lib.hid (v_VV14.out.below b'); clear v_VV14
    have v_WW15 := Lib.hid (v_WW14.out.below b'); clear v_WW14
    have r_P15 := Lib.hid (r_P14.out.below b'); clear r_P14
    have r_Q15 := Lib.hid (r_Q14.out.below b'); clear r_Q14
    have br15 := Lib.hid (blk_below b' br14.out); clear br14
    have bx15 := Lib.hid (blk_below b' bx14.out); clear bx14
    have by_15 := Lib.hid (blk_below b' by_14.out); clear by_14
    have bp15 := Lib.hid (blk_below b' bp14.out); clear bp14
    have bq15 := Lib.hid (blk_below b' bq14.out); clear bq14
    have B15 := Lib.hid (B14.out.tr b'); clear B14
    clear b'
    have r_D15 := Lib.hid hR; clear hR
    have s_D := Lib.hid hs'; clear hs' ht'
    go_wp2_with fail
    have ra16 := Lib.hid (ra15.out.below (below_new w15 (.cells #[.slice D MIN.length dd] 26))); clear ra15
    have rb16 := Lib.hid (rb15.out.below (below_new w15 (.cells #[.slice D MIN.length dd] 26))); clear rb15
    have r_X16 := Lib.hid (r_X15.out.below (below_new w15 (.cells #[.slice D MIN.length dd] 26))); clear r_X15
    have r_Y16 := Lib.hid (r_Y15.out.below (below_new w15 (.cells #[.slice D MIN.length dd] 26))); clear r_Y15
    have v_VV16 := Lib.hid (v_VV15.out.below (below_new w15 (.cells #[.slice D MIN.length dd] 26))); clear v_VV15
    have v_WW16 := Lib.hid (v_WW15.out.below (below_new w15 (.cells #[.slice D MIN.length dd] 26))); clear v_WW15
    have r_P16 := Lib.hid (r_P15.out.below (below_new w15 (.cells #[.slice D MIN.length dd] 26))); clear r_P15
    have r_Q16 := Lib.hid (r_Q15.out.below (below_new w15 (.cells #[.slice D MIN.length dd] 26))); clear r_Q15
    have r_D16 := Lib.hid (r_D15.out.below (below_new w15 (.cells #[.slice D MIN.length dd] 26))); clear r_D15
    have br16 := Lib.hid (blk_below (below_new w15 (.cells #[.slice D MIN.length dd] 26)) br15.out); clear br15
    have bx16 := Lib.hid (blk_below (below_new w15 (.cells #[.slice D MIN.length dd] 26)) bx15.out); clear bx15
    have by_16 := Lib.hid (blk_below (below_new w15 (.cells #[.slice D MIN.length dd] 26)) by_15.out); clear by_15
    have bp16 := Lib.hid (blk_below (below_new w15 (.cells #[.slice D MIN.length dd] 26)) bp15.out); clear bp15
    have bq16 := Lib.hid (blk_below (below_new w15 (.cells #[.slice D MIN.length dd] 26)) bq15.out); clear bq15
    have B16 := Lib.hid (B15.out.tr (below_new w15 (.cells #[.slice D MIN.length dd] 26))); clear B15
    have bd16 := Lib.hid (blk_new w15 (.cells #[.slice D MIN.length dd] 26))
    refine Flow.wp_region_segs Flow.Later Flow.Later.refl Flow.Later.trans [([0, 1, 2, 3, 4, 5, 6, 7, 8, 9, 10, 11, 12, 13], 14), ([], 15), ([16, 17, 18, 19, 20, 21], 22), ([], 23), ([24, 25, 26, 27, 28, 29], 30), ([], 31)] [32, 33] (by kernel_rfl) (by kernel_rfl) ?_
    have b' : Below (w15.alloc (.cells #[.slice D MIN.length dd] 26)).heap.size (w15.alloc (.cells #[.slice D MIN.length dd] 26)) (World.drew (w15.alloc (.cells #[.slice D MIN.length dd] 26))) := (Below.refl _ _).drew
    have ra17 := Lib.hid (ra16.out.below b'); clear ra16
    have rb17 := Lib.hid (rb16.out.below b'); clear rb16
    have r_X17 := Lib.hid (r_X16.out.below b'); clear r_X16
    have r_Y17 := Lib.hid (r_Y16.out.below b'); clear r_Y16
    have v_VV17 := Lib.hid (v_VV16.out.below b'); clear v_VV16
    have v_WW17 := Lib.hid (v_WW16.out.below b'); clear v_WW16
    have r_P17 := Lib.hid (r_P16.out.below b'); clear r_P16
    have r_Q17 := Lib.hid (r_Q16.out.below b'); clear r_Q16
    have r_D17 := Lib.hid (r_D16.out.below b'); clear r_D16
    have br17 := Lib.hid (blk_below b' br16.out); clear br16
    have bx17 := Lib.hid (blk_below b' bx16.out); clear bx16
    have by_17 := Lib.hid (blk_below b' by_16.out); clear by_16
    have bp17 := Lib.hid (blk_below b' bp16.out); clear bp16
    have bq17 := Lib.hid (blk_below b' bq16.out); clear bq16
    have bd17 := Lib.hid (blk_below b' bd16.out); clear bd16
    have B17 := Lib.hid (B16.out.tr b'); clear B16
    clear b'
    generalize World.drew _ = w17 at *
    have cbp0 := blk_cell bp17.out 0
    have qbp0 : ∀ t : Flow.Cls (Flow.Later w17), t.val.cell? _ = some (.slice P OR.length p) := fun t => Flow.cls_cell cbp0 t
    haveI nonE := Flow.cls_nonempty w17
    rw [Flow.wpSegs_cons]
    simp only [Flow.pick, List.getElem?_toArray, List.getElem?_cons_succ, List.getElem?_cons_zero]
    repeat go_big_quiet_step (fail)
    refine wpQuiet_nil ?_
    clear nonE qbp0 cbp0
    rw [Flow.callAt_eq]
    simp only [List.getElem?_toArray, List.getElem?_cons_succ, List.getElem?_cons_zero]
    rw [if_pos (by rfl)]
    refine Flow.wp_behind (fun K0 hK => ?_)
    go_wp2_with fail
    refine (HR1.out VV vv WW ww _ (v_VV17.out.below (by first | exact Below.refl _ _ | exact below_new _ _)) (v_WW17.out.below (by first | exact Below.refl _ _ | exact below_new _ _))).mono ?_; rintro e w18 ⟨G1, g1, rfl, ho, b⟩
    have b' : Below w17.heap.size w17 w18 := Below.tr (by first | exact Below.refl _ _ | exact below_new _ _) b
    clear b
    refine hK.out _ _ ⟨b', ?_⟩
    clear hK K0
    have ra18 := Lib.hid (ra17.out.below b'); clear ra17
    have rb18 := Lib.hid (rb17.out.below b'); clear rb17
    have r_X18 := Lib.hid (r_X17.out.below b'); clear r_X17
    have r_Y18 := Lib.hid (r_Y17.out.below b'); clear r_Y17
    have v_VV18 := Lib.hid (v_VV17.out.below b'); clear v_VV17
    have v_WW18 := Lib.hid (v_WW17.out.below b'); clear v_WW17
    have r_P18 := Lib.hid (r_P17.out.below b'); clear r_P17
    have r_Q18 := Lib.hid (r_Q17.out.below b'); clear r_Q17
    have r_D18 := Lib.hid (r_D17.out.below b'); clear r_D17
    have br18 := Lib.hid (blk_below b' br17.out); clear br17
    have bx18 := Lib.hid (blk_below b' bx17.out); clear bx17
    have by_18 := Lib.hid (blk_below b' by_17.out); clear by_17
    have bp18 := Lib.hid (blk_below b' bp17.out); clear bp17
    have bq18 := Lib.hid (blk_below b' bq17.out); clear bq17
    have bd18 := Lib.hid (blk_below b' bd17.out); clear bd17
    have B18 := Lib.hid (B17.out.tr b'); clear B17
    clear b'
    have v_G118 := Lib.hid ((RdR.of_own ho).1)
    clear ho
    haveI nonE := Flow.cls_nonempty w18
    rw [Flow.wpSegs_cons]
    simp only [Flow.pick]
    refine wpQuiet_nil ?_
    clear nonE 
    rw [Flow.callAt_eq]
    simp only [List.getElem?_toArray, List.getElem?_cons_succ, List.getElem?_cons_zero]
    rw [if_pos (by rfl)]
    refine Flow.wp_behind (fun K0 hK => ?_)
    go_wp2_with fail
    refine (HI.out OR LO.out P p G1 g1 _ (r_P18.out.below (by first | exact Below.refl _ _ | exact below_new _ _)) s_P.out (v_G118.out.below (by first | exact Below.refl _ _ | exact below_new _ _))).mono ?_; rintro e w19 ⟨rfl, b⟩
    have b' : Below w18.heap.size w18 w19 := Below.tr (by first | exact Below.refl _ _ | exact below_new _ _) b
    clear b
    refine hK.out _ _ ⟨b', ?_⟩
    clear hK K0
    have ra19 := Lib.hid (ra18.out.below b'); clear ra18
    have rb19 := Lib.hid (rb18.out.below b'); clear rb18
    have r_X19 := Lib.hid (r_X18.out.below b'); clear r_X18
    have r_Y19 := Lib.hid (r_Y18.out.below b'); clear r_Y18
    have v_VV19 := Lib.hid (v_VV18.out.below b'); clear v_VV18
    have v_WW19 := Lib.hid (v_WW18.out.below b'); clear v_WW18
    have r_P19 := Lib.hid (r_P18.out.below b'); clear r_P18
    have r_Q19 := Lib.hid (r_Q18.out.below b'); clear r_Q18
    have r_D19 := Lib.hid (r_D18.out.below b'); clear r_D18
    have v_G119 := Lib.hid (v_G118.out.below b'); clear v_G118
    have br19 := Lib.hid (blk_below b' br18.out); clear br18
    have bx19 := Lib.hid (blk_below b' bx18.out); clear bx18
    have by_19 := Lib.hid (blk_below b' by_18.out); clear by_18
    have bp19 := Lib.hid (blk_below b' bp18.out); clear bp18
    have bq19 := Lib.hid (blk_below b' bq18.out); clear bq18
    have bd19 := Lib.hid (blk_below b' bd18.out); clear bd18
    have B19 := Lib.hid (B18.out.tr b'); clear B18
    clear b'
    have cbq0 := blk_cell bq19.out 0
    have qbq0 : ∀ t : Flow.Cls (Flow.Later w19), t.val.cell? _ = some (.slice Q AND.length q) := fun t => Flow.cls_cell cbq0 t
    haveI nonE := Flow.cls_nonempty w19
    rw [Flow.wpSegs_cons]
    simp only [Flow.pick, List.getElem?_toArray, List.getElem?_cons_succ, List.getElem?_cons_zero]
    repeat go_big_quiet_step (fail)
    refine wpQuiet_nil ?_
    clear nonE qbq0 cbq0
    rw [Flow.callAt_eq]
    simp only [List.getElem?_toArray, List.getElem?_cons_succ, List.getElem?_cons_zero]
    rw [if_pos (by rfl)]
    refine Flow.wp_behind (fun K0 hK => ?_)
    go_wp2_with fail
    refine (HR2.out VV vv WW ww _ (v_VV19.out.below (by first | exact Below.refl _ _ | exact below_new _ _)) (v_WW19.out.below (by first | exact Below.refl _ _ | exact below_new _ _))).mono ?_; rintro e w20 ⟨G2, g2, rfl, ho, b⟩
    have b' : Below w19.heap.size w19 w20 := Below.tr (by first | exact Below.refl _ _ | exact below_new _ _) b
    clear b
    refine hK.out _ _ ⟨b', ?_⟩
    clear hK K0
    have ra20 := Lib.hid (ra19.out.below b'); clear ra19
    have rb20 := Lib.hid (rb19.out.below b'); clear rb19
    have r_X20 := Lib.hid (r_X19.out.below b'); clear r_X19
    have r_Y20 := Lib.hid (r_Y19.out.below b'); clear r_Y19
    have v_VV20 := Lib.hid (v_VV19.out.below b'); clear v_VV19
    have v_WW20 := Lib.hid (v_WW19.out.below b'); clear v_WW19
    have r_P20 := Lib.hid (r_P19.out.below b'); clear r_P19
    have r_Q20 := Lib.hid (r_Q19.out.below b'); clear r_Q19
    have r_D20 := Lib.hid (r_D19.out.below b'); clear r_D19
    have v_G120 := Lib.hid (v_G119.out.below b'); clear v_G119
    have br20 := Lib.hid (blk_below b' br19.out); clear br19
    have bx20 := Lib.hid (blk_below b' bx19.out); clear bx19
    have by_20 := Lib.hid (blk_below b' by_19.out); clear by_19
    have bp20 := Lib.hid (blk_below b' bp19.out); clear bp19
    have bq20 := Lib.hid (blk_below b' bq19.out); clear bq19
    have bd20 := Lib.hid (blk_below b' bd19.out); clear bd19
    have B20 := Lib.hid (B19.out.tr b'); clear B19
    clear b'
    have v_G220 := Lib.hid ((RdR.of_own ho).1)
    clear ho
    haveI nonE := Flow.cls_nonempty w20
    rw [Flow.wpSegs_cons]
    simp only [Flow.pick]
    refine wpQuiet_nil ?_
    clear nonE 
    rw [Flow.callAt_eq]
    simp only [List.getElem?_toArray, List.getElem?_cons_succ, List.getElem?_cons_zero]
    rw [if_pos (by rfl)]
    refine Flow.wp_behind (fun K0 hK => ?_)
    go_wp2_with fail
    refine (HI.out AND LA.out Q q G2 g2 _ (r_Q20.out.below (by first | exact Below.refl _ _ | exact below_new _ _)) s_Q.out (v_G220.out.below (by first | exact Below.refl _ _ | exact below_new _ _))).mono ?_; rintro e w21 ⟨rfl, b⟩
    have b' : Below w20.heap.size w20 w21 := Below.tr (by first | exact Below.refl _ _ | exact below_new _ _) b
    clear b
    refine hK.out _ _ ⟨b', ?_⟩
    clear hK K0
    have ra21 := Lib.hid (ra20.out.below b'); clear ra20
    have rb21 := Lib.hid (rb20.out.below b'); clear rb20
    have r_X21 := Lib.hid (r_X20.out.below b'); clear r_X20
    have r_Y21 := Lib.hid (r_Y20.out.below b'); clear r_Y20
    have v_VV21 := Lib.hid (v_VV20.out.below b'); clear v_VV20
    have v_WW21 := Lib.hid (v_WW20.out.below b'); clear v_WW20
    have r_P21 := Lib.hid (r_P20.out.below b'); clear r_P20
    have r_Q21 := Lib.hid (r_Q20.out.below b'); clear r_Q20
    have r_D21 := Lib.hid (r_D20.out.below b'); clear r_D20
    have v_G121 := Lib.hid (v_G120.out.below b'); clear v_G120
    have v_G221 := Lib.hid (v_G220.out.below b'); clear v_G220
    have br21 := Lib.hid (blk_below b' br20.out); clear br20
    have bx21 := Lib.hid (blk_below b' bx20.out); clear bx20
    have by_21 := Lib.hid (blk_below b' by_20.out); clear by_20
    have bp21 := Lib.hid (blk_below b' bp20.out); clear bp20
    have bq21 := Lib.hid (blk_below b' bq20.out); clear bq20
    have bd21 := Lib.hid (blk_below b' bd20.out); clear bd20
    have B21 := Lib.hid (B20.out.tr b'); clear B20
    clear b'
    have cbd0 := blk_cell bd21.out 0
    have qbd0 : ∀ t : Flow.Cls (Flow.Later w21), t.val.cell? _ = some (.slice D MIN.length dd) := fun t => Flow.cls_cell cbd0 t
    haveI nonE := Flow.cls_nonempty w21
    rw [Flow.wpSegs_cons]
    simp only [Flow.pick, List.getElem?_toArray, List.getElem?_cons_succ, List.getElem?_cons_zero]
    repeat go_big_quiet_step (fail)
    refine wpQuiet_nil ?_
    clear nonE qbd0 cbd0
    rw [Flow.callAt_eq]
    simp only [List.getElem?_toArray, List.getElem?_cons_succ, List.getElem?_cons_zero]
    rw [if_pos (by rfl)]
    refine Flow.wp_behind (fun K0 hK => ?_)
    go_wp2_with fail
    refine (HR3.out VV vv WW ww _ (v_VV21.out.below (by first | exact Below.refl _ _ | exact below_new _ _)) (v_WW21.out.below (by first | exact Below.refl _ _ | exact below_new _ _))).mono ?_; rintro e w22 ⟨G3, g3, rfl, ho, b⟩
    have b' : Below w21.heap.size w21 w22 := Below.tr (by first | exact Below.refl _ _ | exact below_new _ _) b
    clear b
    refine hK.out _ _ ⟨b', ?_⟩
    clear hK K0
    have ra22 := Lib.hid (ra21.out.below b'); clear ra21
    have rb22 := Lib.hid (rb21.out.below b'); clear rb21
    have r_X22 := Lib.hid (r_X21.out.below b'); clear r_X21
    have r_Y22 := Lib.hid (r_Y21.out.below b'); clear r_Y21
    have v_VV22 := Lib.hid (v_VV21.out.below b'); clear v_VV21
    have v_WW22 := Lib.hid (v_WW21.out.below b'); clear v_WW21
    have r_P22 := Lib.hid (r_P21.out.below b'); clear r_P21
    have r_Q22 := Lib.hid (r_Q21.out.below b'); clear r_Q21
    have r_D22 := Lib.hid (r_D21.out.below b'); clear r_D21
    have v_G122 := Lib.hid (v_G121.out.below b'); clear v_G121
    have v_G222 := Lib.hid (v_G221.out.below b'); clear v_G221
    have br22 := Lib.hid (blk_below b' br21.out); clear br21
    have bx22 := Lib.hid (blk_below b' bx21.out); clear bx21
    have by_22 := Lib.hid (blk_below b' by_21.out); clear by_21
    have bp22 := Lib.hid (blk_below b' bp21.out); clear bp21
    have bq22 := Lib.hid (blk_below b' bq21.out); clear bq21
    have bd22 := Lib.hid (blk_below b' bd21.out); clear bd21
    have B22 := Lib.hid (B21.out.tr b'); clear B21
    clear b'
    have v_G322 := Lib.hid ((RdR.of_own ho).1)
    clear ho
    haveI nonE := Flow.cls_nonempty w22
    rw [Flow.wpSegs_cons]
    simp only [Flow.pick]
    refine wpQuiet_nil ?_
    clear nonE 
    rw [Flow.callAt_eq]
    simp only [List.getElem?_toArray, List.getElem?_cons_succ, List.getElem?_cons_zero]
    rw [if_pos (by rfl)]
    refine Flow.wp_behind (fun K0 hK => ?_)
    go_wp2_with fail
    refine (HI.out MIN LM.out D dd G3 g3 _ (r_D22.out.below (by first | exact Below.refl _ _ | exact below_new _ _)) s_D.out (v_G322.out.below (by first | exact Below.refl _ _ | exact below_new _ _))).mono ?_; rintro e w23 ⟨rfl, b⟩
    have b' : Below w22.heap.size w22 w23 := Below.tr (by first | exact Below.refl _ _ | exact below_new _ _) b
    clear b
    refine hK.out _ _ ⟨b', ?_⟩
    clear hK K0
    have ra23 := Lib.hid (ra22.out.below b'); clear ra22
    have rb23 := Lib.hid (rb22.out.below b'); clear rb22
    have r_X23 := Lib.hid (r_X22.out.below b'); clear r_X22
    have r_Y23 := Lib.hid (r_Y22.out.below b'); clear r_Y22
    have v_VV23 := Lib.hid (v_VV22.out.below b'); clear v_VV22
    have v_WW23 := Lib.hid (v_WW22.out.below b'); clear v_WW22
    have r_P23 := Lib.hid (r_P22.out.below b'); clear r_P22
    have r_Q23 := Lib.hid (r_Q22.out.below b'); clear r_Q22
    have r_D23 := Lib.hid (r_D22.out.below b'); clear r_D22
    have v_G123 := Lib.hid (v_G122.out.below b'); clear v_G122
    have v_G223 := Lib.hid (v_G222.out.below b'); clear v_G222
    have v_G323 := Lib.hid (v_G322.out.below b'); clear v_G322
    have br23 := Lib.hid (blk_below b' br22.out); clear br22
    have bx23 := Lib.hid (blk_below b' bx22.out); clear bx22
    have by_23 := Lib.hid (blk_below b' by_22.out); clear by_22
    have bp23 := Lib.hid (blk_below b' bp22.out); clear bp22
    have bq23 := Lib.hid (blk_below b' bq22.out); clear bq22
    have bd23 := Lib.hid (blk_below b' bd22.out); clear bd22
    have B23 := Lib.hid (B22.out.tr b'); clear B22
    clear b'
    haveI nonE := Flow.cls_nonempty w23
    rw [Flow.wpSegs_nil]
    simp only [Flow.pick, List.getElem?_toArray, List.getElem?_cons_succ, List.getElem?_cons_zero]
    repeat go_big_quiet_step (fail)
    refine wpQuiet_nil ?_
    clear nonE 
    have cbx0 := blk_cell bx23.out 0
    have pbx := blk_lt bx23.out
    have cbr0 := blk_cell br23.out 0
    have cbr1 := blk_cell br23.out 1
    have pbr := blk_lt br23.out
    go_wp2_with fail
    clear cbx0 pbx cbr0 cbr1 pbr
    have ra24 := Lib.hid (ra23.out.below (below_new w23 (.cells #[i64 r1, i64 r2] 42))); clear ra23
    have rb24 := Lib.hid (rb23.out.below (below_new w23 (.cells #[i64 r1, i64 r2] 42))); clear rb23
    have r_X24 := Lib.hid (r_X23.out.below (below_new w23 (.cells #[i64 r1, i64 r2] 42))); clear r_X23
    have r_Y24 := Lib.hid (r_Y23.out.below (below_new w23 (.cells #[i64 r1, i64 r2] 42))); clear r_Y23
    have v_VV24 := Lib.hid (v_VV23.out.below (below_new w23 (.cells #[i64 r1, i64 r2] 42))); clear v_VV23
    have v_WW24 := Lib.hid (v_WW23.out.below (below_new w23 (.cells #[i64 r1, i64 r2] 42))); clear v_WW23
    have r_P24 := Lib.hid (r_P23.out.below (below_new w23 (.cells #[i64 r1, i64 r2] 42))); clear r_P23
    have r_Q24 := Lib.hid (r_Q23.out.below (below_new w23 (.cells #[i64 r1, i64 r2] 42))); clear r_Q23
    have r_D24 := Lib.hid (r_D23.out.below (below_new w23 (.cells #[i64 r1, i64 r2] 42))); clear r_D23
    have v_G124 := Lib.hid (v_G123.out.below (below_new w23 (.cells #[i64 r1, i64 r2] 42))); clear v_G123
    have v_G224 := Lib.hid (v_G223.out.below (below_new w23 (.cells #[i64 r1, i64 r2] 42))); clear v_G223
    have v_G324 := Lib.hid (v_G323.out.below (below_new w23 (.cells #[i64 r1, i64 r2] 42))); clear v_G323
    have br24 := Lib.hid (blk_below (below_new w23 (.cells #[i64 r1, i64 r2] 42)) br23.out); clear br23
    have bx24 := Lib.hid (blk_below (below_new w23 (.cells #[i64 r1, i64 r2] 42)) bx23.out); clear bx23
    have by_24 := Lib.hid (blk_below (below_new w23 (.cells #[i64 r1, i64 r2] 42)) by_23.out); clear by_23
    have bp24 := Lib.hid (blk_below (below_new w23 (.cells #[i64 r1, i64 r2] 42)) bp23.out); clear bp23
    have bq24 := Lib.hid (blk_below (below_new w23 (.cells #[i64 r1, i64 r2] 42)) bq23.out); clear bq23
    have bd24 := Lib.hid (blk_below (below_new w23 (.cells #[i64 r1, i64 r2] 42)) bd23.out); clear bd23
    have B24 := Lib.hid (B23.out.tr (below_new w23 (.cells #[i64 r1, i64 r2] 42))); clear B23
    have bo24 := Lib.hid (blk_new w23 (.cells #[i64 r1, i64 r2] 42))
    refine (HA.out X x _ (r_X24.out.below (by first | exact Below.refl _ _ | exact below_new _ _))).mono ?_; rintro e w25 ⟨E, ee, rfl, hR, hs', ht', b⟩
    have b' : Below (w23.alloc (.cells #[i64 r1, i64 r2] 42)).heap.size (w23.alloc (.cells #[i64 r1, i64 r2] 42)) w25 := Below.tr (by first | exact Below.refl _ _ | exact below_new _ _) b
    clear b
    have ra25 := Lib.hid (ra24.out.below b'); clear ra24
    have rb25 := Lib.hid (rb24.out.below b'); clear rb24
    have r_X25 := Lib.hid (r_X24.out.below b'); clear r_X24
    have r_Y25 := Lib.hid (r_Y24.out.below b'); clear r_Y24
    have v_VV25 := Lib.hid (v_VV24.out.below b'); clear v_VV24
    have v_WW25 := Lib.hid (v_WW24.out.below b'); clear v_WW24
    have r_P25 := Lib.hid (r_P24.out.below b'); clear r_P24
    have r_Q25 := Lib.hid (r_Q24.out.below b'); clear r_Q24
    have r_D25 := Lib.hid (r_D24.out.below b'); clear r_D24
    have v_G125 := Lib.hid (v_G124.out.below b'); clear v_G124
    have v_G225 := Lib.hid (v_G224.out.below b'); clear v_G224
    have v_G325 := Lib.hid (v_G324.out.below b'); clear v_G324
    have br25 := Lib.hid (blk_below b' br24.out); clear br24
    have bx25 := Lib.hid (blk_below b' bx24.out); clear bx24
    have by_25 := Lib.hid (blk_below b' by_24.out); clear by_24
    have bp25 := Lib.hid (blk_below b' bp24.out); clear bp24
    have bq25 := Lib.hid (blk_below b' bq24.out); clear bq24
    have bd25 := Lib.hid (blk_below b' bd24.out); clear bd24
    have bo25 := Lib.hid (blk_below b' bo24.out); clear bo24
    have B25 := Lib.hid (B24.out.tr b'); clear B24
    clear b'
    have r_E25 := Lib.hid hR; clear hR
    have s_E := Lib.hid hs'; clear hs' ht'
    have cbx0 := blk_cell bx25.out 0
    have pbx := blk_lt bx25.out
    have cbo0 := blk_cell bo25.out 0
    have cbo1 := blk_cell bo25.out 1
    have pbo := blk_lt bo25.out
    go_wp2_with fail
    clear cbx0 pbx cbo0 cbo1 pbo
    have ra26 := Lib.hid (ra25.out.below (below_new w25 (.cells #[.slice E ([] : List Rg).length ee] 26))); clear ra25
    have rb26 := Lib.hid (rb25.out.below (below_new w25 (.cells #[.slice E ([] : List Rg).length ee] 26))); clear rb25
    have r_X26 := Lib.hid (r_X25.out.below (below_new w25 (.cells #[.slice E ([] : List Rg).length ee] 26))); clear r_X25
    have r_Y26 := Lib.hid (r_Y25.out.below (below_new w25 (.cells #[.slice E ([] : List Rg).length ee] 26))); clear r_Y25
    have v_VV26 := Lib.hid (v_VV25.out.below (below_new w25 (.cells #[.slice E ([] : List Rg).length ee] 26))); clear v_VV25
    have v_WW26 := Lib.hid (v_WW25.out.below (below_new w25 (.cells #[.slice E ([] : List Rg).length ee] 26))); clear v_WW25
    have r_P26 := Lib.hid (r_P25.out.below (below_new w25 (.cells #[.slice E ([] : List Rg).length ee] 26))); clear r_P25
    have r_Q26 := Lib.hid (r_Q25.out.below (below_new w25 (.cells #[.slice E ([] : List Rg).length ee] 26))); clear r_Q25
    have r_D26 := Lib.hid (r_D25.out.below (below_new w25 (.cells #[.slice E ([] : List Rg).length ee] 26))); clear r_D25
    have v_G126 := Lib.hid (v_G125.out.below (below_new w25 (.cells #[.slice E ([] : List Rg).length ee] 26))); clear v_G125
    have v_G226 := Lib.hid (v_G225.out.below (below_new w25 (.cells #[.slice E ([] : List Rg).length ee] 26))); clear v_G225
    have v_G326 := Lib.hid (v_G325.out.below (below_new w25 (.cells #[.slice E ([] : List Rg).length ee] 26))); clear v_G325
    have r_E26 := Lib.hid (r_E25.out.below (below_new w25 (.cells #[.slice E ([] : List Rg).length ee] 26))); clear r_E25
    have br26 := Lib.hid (blk_below (below_new w25 (.cells #[.slice E ([] : List Rg).length ee] 26)) br25.out); clear br25
    have bx26 := Lib.hid (blk_below (below_new w25 (.cells #[.slice E ([] : List Rg).length ee] 26)) bx25.out); clear bx25
    have by_26 := Lib.hid (blk_below (below_new w25 (.cells #[.slice E ([] : List Rg).length ee] 26)) by_25.out); clear by_25
    have bp26 := Lib.hid (blk_below (below_new w25 (.cells #[.slice E ([] : List Rg).length ee] 26)) bp25.out); clear bp25
    have bq26 := Lib.hid (blk_below (below_new w25 (.cells #[.slice E ([] : List Rg).length ee] 26)) bq25.out); clear bq25
    have bd26 := Lib.hid (blk_below (below_new w25 (.cells #[.slice E ([] : List Rg).length ee] 26)) bd25.out); clear bd25
    have bo26 := Lib.hid (blk_below (below_new w25 (.cells #[.slice E ([] : List Rg).length ee] 26)) bo25.out); clear bo25
    have B26 := Lib.hid (B25.out.tr (below_new w25 (.cells #[.slice E ([] : List Rg).length ee] 26))); clear B25
    have be26 := Lib.hid (blk_new w25 (.cells #[.slice E ([] : List Rg).length ee] 26))
    refine (HD.out X x _ (r_X26.out.below (by first | exact Below.refl _ _ | exact below_new _ _))).mono ?_; rintro e w27 ⟨F, ff, rfl, hR, hs', ht', b⟩
    have b' : Below (w25.alloc (.cells #[.slice E ([] : List Rg).length ee] 26)).heap.size (w25.alloc (.cells #[.slice E ([] : List Rg).length ee] 26)) w27 := Below.tr (by first | exact Below.refl _ _ | exact below_new _ _) b
    clear b
    have ra27 := Lib.hid (ra26.out.below b'); clear ra26
    have rb27 := Lib.hid (rb26.out.below b'); clear rb26
    have r_X27 := Lib.hid (r_X26.out.below b'); clear r_X26
    have r_Y27 := Lib.hid (r_Y26.out.below b'); clear r_Y26
    have v_VV27 := Lib.hid (v_VV26.out.below b'); clear v_VV26
    have v_WW27 := Lib.hid (v_WW26.out.below b'); clear v_WW26
    have r_P27 := Lib.hid (r_P26.out.below b'); clear r_P26
    have r_Q27 := Lib.hid (r_Q26.out.below b'); clear r_Q26
    have r_D27 := Lib.hid (r_D26.out.below b'); clear r_D26
    have v_G127 := Lib.hid (v_G126.out.below b'); clear v_G126
    have v_G227 := Lib.hid (v_G226.out.below b'); clear v_G226
    have v_G327 := Lib.hid (v_G326.out.below b'); clear v_G326
    have r_E27 := Lib.hid (r_E26.out.below b'); clear r_E26
    have br27 := Lib.hid (blk_below b' br26.out); clear br26
    have bx27 := Lib.hid (blk_below b' bx26.out); clear bx26
    have by_27 := Lib.hid (blk_below b' by_26.out); clear by_26
    have bp27 := Lib.hid (blk_below b' bp26.out); clear bp26
    have bq27 := Lib.hid (blk_below b' bq26.out); clear bq26
    have bd27 := Lib.hid (blk_below b' bd26.out); clear bd26
    have bo27 := Lib.hid (blk_below b' bo26.out); clear bo26
    have be27 := Lib.hid (blk_below b' be26.out); clear be26
    have B27 := Lib.hid (B26.out.tr b'); clear B26
    clear b'
    have r_F27 := Lib.hid hR; clear hR
    have s_F := Lib.hid hs'; clear hs' ht'
    have cbr0 := blk_cell br27.out 0
    have cbr1 := blk_cell br27.out 1
    have pbr := blk_lt br27.out
    go_wp2_with fail
    clear cbr0 cbr1 pbr
    have ra28 := Lib.hid (ra27.out.below (below_new w27 (.cells #[.slice F ([] : List Rg).length ff] 26))); clear ra27
    have rb28 := Lib.hid (rb27.out.below (below_new w27 (.cells #[.slice F ([] : List Rg).length ff] 26))); clear rb27
    have r_X28 := Lib.hid (r_X27.out.below (below_new w27 (.cells #[.slice F ([] : List Rg).length ff] 26))); clear r_X27
    have r_Y28 := Lib.hid (r_Y27.out.below (below_new w27 (.cells #[.slice F ([] : List Rg).length ff] 26))); clear r_Y27
    have v_VV28 := Lib.hid (v_VV27.out.below (below_new w27 (.cells #[.slice F ([] : List Rg).length ff] 26))); clear v_VV27
    have v_WW28 := Lib.hid (v_WW27.out.below (below_new w27 (.cells #[.slice F ([] : List Rg).length ff] 26))); clear v_WW27
    have r_P28 := Lib.hid (r_P27.out.below (below_new w27 (.cells #[.slice F ([] : List Rg).length ff] 26))); clear r_P27
    have r_Q28 := Lib.hid (r_Q27.out.below (below_new w27 (.cells #[.slice F ([] : List Rg).length ff] 26))); clear r_Q27
    have r_D28 := Lib.hid (r_D27.out.below (below_new w27 (.cells #[.slice F ([] : List Rg).length ff] 26))); clear r_D27
    have v_G128 := Lib.hid (v_G127.out.below (below_new w27 (.cells #[.slice F ([] : List Rg).length ff] 26))); clear v_G127
    have v_G228 := Lib.hid (v_G227.out.below (below_new w27 (.cells #[.slice F ([] : List Rg).length ff] 26))); clear v_G227
    have v_G328 := Lib.hid (v_G327.out.below (below_new w27 (.cells #[.slice F ([] : List Rg).length ff] 26))); clear v_G327
    have r_E28 := Lib.hid (r_E27.out.below (below_new w27 (.cells #[.slice F ([] : List Rg).length ff] 26))); clear r_E27
    have r_F28 := Lib.hid (r_F27.out.below (below_new w27 (.cells #[.slice F ([] : List Rg).length ff] 26))); clear r_F27
    have br28 := Lib.hid (blk_below (below_new w27 (.cells #[.slice F ([] : List Rg).length ff] 26)) br27.out); clear br27
    have bx28 := Lib.hid (blk_below (below_new w27 (.cells #[.slice F ([] : List Rg).length ff] 26)) bx27.out); clear bx27
    have by_28 := Lib.hid (blk_below (below_new w27 (.cells #[.slice F ([] : List Rg).length ff] 26)) by_27.out); clear by_27
    have bp28 := Lib.hid (blk_below (below_new w27 (.cells #[.slice F ([] : List Rg).length ff] 26)) bp27.out); clear bp27
    have bq28 := Lib.hid (blk_below (below_new w27 (.cells #[.slice F ([] : List Rg).length ff] 26)) bq27.out); clear bq27
    have bd28 := Lib.hid (blk_below (below_new w27 (.cells #[.slice F ([] : List Rg).length ff] 26)) bd27.out); clear bd27
    have bo28 := Lib.hid (blk_below (below_new w27 (.cells #[.slice F ([] : List Rg).length ff] 26)) bo27.out); clear bo27
    have be28 := Lib.hid (blk_below (below_new w27 (.cells #[.slice F ([] : List Rg).length ff] 26)) be27.out); clear be27
    have B28 := Lib.hid (B27.out.tr (below_new w27 (.cells #[.slice F ([] : List Rg).length ff] 26))); clear B27
    have bf28 := Lib.hid (blk_new w27 (.cells #[.slice F ([] : List Rg).length ff] 26))
    refine (HV.out _).mono ?_; rintro e w29 ⟨rfl, b⟩
    have b' : Below (w27.alloc (.cells #[.slice F ([] : List Rg).length ff] 26)).heap.size (w27.alloc (.cells #[.slice F ([] : List Rg).length ff] 26)) w29 := Below.tr (by first | exact Below.refl _ _ | exact below_new _ _) b
    clear b
    have ra29 := Lib.hid (ra28.out.below b'); clear ra28
    have rb29 := Lib.hid (rb28.out.below b'); clear rb28
    have r_X29 := Lib.hid (r_X28.out.below b'); clear r_X28
    have r_Y29 := Lib.hid (r_Y28.out.below b'); clear r_Y28
    have v_VV29 := Lib.hid (v_VV28.out.below b'); clear v_VV28
    have v_WW29 := Lib.hid (v_WW28.out.below b'); clear v_WW28
    have r_P29 := Lib.hid (r_P28.out.below b'); clear r_P28
    have r_Q29 := Lib.hid (r_Q28.out.below b'); clear r_Q28
    have r_D29 := Lib.hid (r_D28.out.below b'); clear r_D28
    have v_G129 := Lib.hid (v_G128.out.below b'); clear v_G128
    have v_G229 := Lib.hid (v_G228.out.below b'); clear v_G228
    have v_G329 := Lib.hid (v_G328.out.below b'); clear v_G328
    have r_E29 := Lib.hid (r_E28.out.below b'); clear r_E28
    have r_F29 := Lib.hid (r_F28.out.below b'); clear r_F28
    have br29 := Lib.hid (blk_below b' br28.out); clear br28
    have bx29 := Lib.hid (blk_below b' bx28.out); clear bx28
    have by_29 := Lib.hid (blk_below b' by_28.out); clear by_28
    have bp29 := Lib.hid (blk_below b' bp28.out); clear bp28
    have bq29 := Lib.hid (blk_below b' bq28.out); clear bq28
    have bd29 := Lib.hid (blk_below b' bd28.out); clear bd28
    have bo29 := Lib.hid (blk_below b' bo28.out); clear bo28
    have be29 := Lib.hid (blk_below b' be28.out); clear be28
    have bf29 := Lib.hid (blk_below b' bf28.out); clear bf28
    have B29 := Lib.hid (B28.out.tr b'); clear B28
    clear b'
    have cbe0 := blk_cell be29.out 0
    have pbe := blk_lt be29.out
    have cbf0 := blk_cell bf29.out 0
    have pbf := blk_lt bf29.out
    go_wp2_with fail
    clear cbe0 pbe cbf0 pbf
    refine (HI.out [] LN.out E ee none 0 _ (r_E29.out.below (by first | exact Below.refl _ _ | exact below_new _ _)) s_E.out RdR.nil).mono ?_; rintro e w30 ⟨rfl, b⟩
    have b' : Below w29.heap.size w29 w30 := Below.tr (by first | exact Below.refl _ _ | exact below_new _ _) b
    clear b
    have ra30 := Lib.hid (ra29.out.below b'); clear ra29
    have rb30 := Lib.hid (rb29.out.below b'); clear rb29
    have r_X30 := Lib.hid (r_X29.out.below b'); clear r_X29
    have r_Y30 := Lib.hid (r_Y29.out.below b'); clear r_Y29
    have v_VV30 := Lib.hid (v_VV29.out.below b'); clear v_VV29
    have v_WW30 := Lib.hid (v_WW29.out.below b'); clear v_WW29
    have r_P30 := Lib.hid (r_P29.out.below b'); clear r_P29
    have r_Q30 := Lib.hid (r_Q29.out.below b'); clear r_Q29
    have r_D30 := Lib.hid (r_D29.out.below b'); clear r_D29
    have v_G130 := Lib.hid (v_G129.out.below b'); clear v_G129
    have v_G230 := Lib.hid (v_G229.out.below b'); clear v_G229
    have v_G330 := Lib.hid (v_G329.out.below b'); clear v_G329
    have r_E30 := Lib.hid (r_E29.out.below b'); clear r_E29
    have r_F30 := Lib.hid (r_F29.out.below b'); clear r_F29
    have br30 := Lib.hid (blk_below b' br29.out); clear br29
    have bx30 := Lib.hid (blk_below b' bx29.out); clear bx29
    have by_30 := Lib.hid (blk_below b' by_29.out); clear by_29
    have bp30 := Lib.hid (blk_below b' bp29.out); clear bp29
    have bq30 := Lib.hid (blk_below b' bq29.out); clear bq29
    have bd30 := Lib.hid (blk_below b' bd29.out); clear bd29
    have bo30 := Lib.hid (blk_below b' bo29.out); clear bo29
    have be30 := Lib.hid (blk_below b' be29.out); clear be29
    have bf30 := Lib.hid (blk_below b' bf29.out); clear bf29
    have B30 := Lib.hid (B29.out.tr b'); clear B29
    clear b'
    have cbf0 := blk_cell bf30.out 0
    have pbf := blk_lt bf30.out
    go_wp2_with fail
    clear cbf0 pbf
    refine (HI.out [] LN.out F ff none 0 _ (r_F30.out.below (by first | exact Below.refl _ _ | exact below_new _ _)) s_F.out RdR.nil).mono ?_; rintro e w31 ⟨rfl, b⟩
    have b' : Below w30.heap.size w30 w31 := Below.tr (by first | exact Below.refl _ _ | exact below_new _ _) b
    clear b
    have ra31 := Lib.hid (ra30.out.below b'); clear ra30
    have rb31 := Lib.hid (rb30.out.below b'); clear rb30
    have r_X31 := Lib.hid (r_X30.out.below b'); clear r_X30
    have r_Y31 := Lib.hid (r_Y30.out.below b'); clear r_Y30
    have v_VV31 := Lib.hid (v_VV30.out.below b'); clear v_VV30
    have v_WW31 := Lib.hid (v_WW30.out.below b'); clear v_WW30
    have r_P31 := Lib.hid (r_P30.out.below b'); clear r_P30
    have r_Q31 := Lib.hid (r_Q30.out.below b'); clear r_Q30
    have r_D31 := Lib.hid (r_D30.out.below b'); clear r_D30
    have v_G131 := Lib.hid (v_G130.out.below b'); clear v_G130
    have v_G231 := Lib.hid (v_G230.out.below b'); clear v_G230
    have v_G331 := Lib.hid (v_G330.out.below b'); clear v_G330
    have r_E31 := Lib.hid (r_E30.out.below b'); clear r_E30
    have r_F31 := Lib.hid (r_F30.out.below b'); clear r_F30
    have br31 := Lib.hid (blk_below b' br30.out); clear br30
    have bx31 := Lib.hid (blk_below b' bx30.out); clear bx30
    have by_31 := Lib.hid (blk_below b' by_30.out); clear by_30
    have bp31 := Lib.hid (blk_below b' bp30.out); clear bp30
    have bq31 := Lib.hid (blk_below b' bq30.out); clear bq30
    have bd31 := Lib.hid (blk_below b' bd30.out); clear bd30
    have bo31 := Lib.hid (blk_below b' bo30.out); clear bo30
    have be31 := Lib.hid (blk_below b' be30.out); clear be30
    have bf31 := Lib.hid (blk_below b' bf30.out); clear bf30
    have B31 := Lib.hid (B30.out.tr b'); clear B30
    clear b'
    go_wp2_with fail
    go_ret
    exact ⟨rfl, (B31.out.tr (by first | exact Below.refl _ _ | exact below_new _ _))⟩
  | true =>
    have hrok := HVR.out hok
    have ok1 := one_ok hrok.1 hrok.2.1 hrok.2.2
    have rR : ∀ q ∈ [(r1, r2)], 0 ≤ q.2 ∧ q.2 ≤ M := fun q hq => by obtain ⟨z1, z2, z3⟩ := ok1.2 q hq; exact ⟨by omega, z3⟩
    rw [hok] at HV
    have e1 : addS S (r1, r2) = orS S [(r1, r2)] := by unfold addS; rw [hok]; rfl
    have e2 : remS S (r1, r2) = minusS S [(r1, r2)] := by unfold remS; rw [hok]; rfl
    rw [e1, hok] at HA
    rw [e2, hok] at HD
    simp only [if_true] at HA HD
    have HR4 := Lib.hid (fun X x Y y W (h1 : RdR W X S) (h2 : RdR W Y [(r1, r2)]) => refOr_any X Y x y S [(r1, r2)] W h1 h2 (by simp; omega) rS rR)
    have HR5 := Lib.hid (fun X x Y y W (h1 : RdR W X S) (h2 : RdR W Y [(r1, r2)]) => refMinus_any X Y x y S [(r1, r2)] W h1 h2 okS ok1 (by simp; omega))
    have l1 := orS_length S [(r1, r2)]
    have l2 := minusS_len okS ok1
    have LE := Lib.hid (show (orS S [(r1, r2)]).length ≤ 1000 by simp at l1; omega)
    have LF := Lib.hid (show (minusS S [(r1, r2)]).length ≤ 1000 by simp at l2; omega)
    clear e1 e2 hok okO okM spA lO lM lA rS rT hmul lS lT okS okT HVR rR ok1 hrok l1 l2
    generalize orS S T = OR at *
    generalize andS S T = AND at *
    generalize minusS S T = MIN at *
    generalize orS S [(r1, r2)] = SE at *
    generalize minusS S [(r1, r2)] = SF at *
    go_enter Tryz.func4, Tryz.ntmps4
    go_wp2_with fail
    have ra1 := Lib.hid (RA.out.below (below_new w (.cells #[i64 r1, i64 r2] 37))); clear RA
    have rb1 := Lib.hid (RB.out.below (below_new w (.cells #[i64 r1, i64 r2] 37))); clear RB
    have B1 := Lib.hid (below_new w (.cells #[i64 r1, i64 r2] 37))
    have br1 := Lib.hid (blk_new w (.cells #[i64 r1, i64 r2] 37))
    refine (HK.out _ (B1.out.tr (by first | exact Below.refl _ _ | exact below_new _ _))).mono ?_; rintro e w2 ⟨rfl, b⟩
    have b' : Below (w.alloc (.cells #[i64 r1, i64 r2] 37)).heap.size (w.alloc (.cells #[i64 r1, i64 r2] 37)) w2 := Below.tr (by first | exact Below.refl _ _ | exact below_new _ _) b
    clear b
    have ra2 := Lib.hid (ra1.out.below b'); clear ra1
    have rb2 := Lib.hid (rb1.out.below b'); clear rb1
    have br2 := Lib.hid (blk_below b' br1.out); clear br1
    have B2 := Lib.hid (B1.out.tr b'); clear B1
    clear b'
    go_wp2_with fail
    refine (HO1.out _ (ra2.out.below (by first | exact Below.refl _ _ | exact below_new _ _))).mono ?_; rintro e w3 ⟨O1, o1, rfl, ho, b⟩
    have b' : Below w2.heap.size w2 w3 := Below.tr (by first | exact Below.refl _ _ | exact below_new _ _) b
    clear b
    have ra3 := Lib.hid (ra2.out.below b'); clear ra2
    have rb3 := Lib.hid (rb2.out.below b'); clear rb2
    have br3 := Lib.hid (blk_below b' br2.out); clear br2
    have B3 := Lib.hid (B2.out.tr b'); clear B2
    clear b'
    have o_O13 := Lib.hid ((RdR.of_own ho).1)
    have s_O1 := Lib.hid (SlR.of_own ho); clear ho
    go_wp2_with fail
    refine (HF1.out O1 o1 _ (o_O13.out.below (by first | exact Below.refl _ _ | exact below_new _ _)) s_O1.out).mono ?_; rintro e w4 ⟨X, x, rfl, hR, hs', ht', b⟩
    have b' : Below w3.heap.size w3 w4 := Below.tr (by first | exact Below.refl _ _ | exact below_new _ _) b
    clear b
    have ra4 := Lib.hid (ra3.out.below b'); clear ra3
    have rb4 := Lib.hid (rb3.out.below b'); clear rb3
    have o_O14 := Lib.hid (o_O13.out.below b'); clear o_O13
    have br4 := Lib.hid (blk_below b' br3.out); clear br3
    have B4 := Lib.hid (B3.out.tr b'); clear B3
    clear b'
    have r_X4 := Lib.hid hR; clear hR
    have s_X := Lib.hid hs'; clear hs' ht'
    clear o_O14
    go_wp2_with fail
    have ra5 := Lib.hid (ra4.out.below (below_new w4 (.cells #[.slice X S.length x] 26))); clear ra4
    have rb5 := Lib.hid (rb4.out.below (below_new w4 (.cells #[.slice X S.length x] 26))); clear rb4
    have r_X5 := Lib.hid (r_X4.out.below (below_new w4 (.cells #[.slice X S.length x] 26))); clear r_X4
    have br5 := Lib.hid (blk_below (below_new w4 (.cells #[.slice X S.length x] 26)) br4.out); clear br4
    have B5 := Lib.hid (B4.out.tr (below_new w4 (.cells #[.slice X S.length x] 26))); clear B4
    have bx5 := Lib.hid (blk_new w4 (.cells #[.slice X S.length x] 26))
    refine (HO2.out _ (rb5.out.below (by first | exact Below.refl _ _ | exact below_new _ _))).mono ?_; rintro e w6 ⟨O2, o2, rfl, ho, b⟩
    have b' : Below (w4.alloc (.cells #[.slice X S.length x] 26)).heap.size (w4.alloc (.cells #[.slice X S.length x] 26)) w6 := Below.tr (by first | exact Below.refl _ _ | exact below_new _ _) b
    clear b
    have ra6 := Lib.hid (ra5.out.below b'); clear ra5
    have rb6 := Lib.hid (rb5.out.below b'); clear rb5
    have r_X6 := Lib.hid (r_X5.out.below b'); clear r_X5
    have br6 := Lib.hid (blk_below b' br5.out); clear br5
    have bx6 := Lib.hid (blk_below b' bx5.out); clear bx5
    have B6 := Lib.hid (B5.out.tr b'); clear B5
    clear b'
    have o_O26 := Lib.hid ((RdR.of_own ho).1)
    have s_O2 := Lib.hid (SlR.of_own ho); clear ho
    go_wp2_with fail
    refine (HF2.out O2 o2 _ (o_O26.out.below (by first | exact Below.refl _ _ | exact below_new _ _)) s_O2.out).mono ?_; rintro e w7 ⟨Y, y, rfl, hR, hs', ht', b⟩
    have b' : Below w6.heap.size w6 w7 := Below.tr (by first | exact Below.refl _ _ | exact below_new _ _) b
    clear b
    have ra7 := Lib.hid (ra6.out.below b'); clear ra6
    have rb7 := Lib.hid (rb6.out.below b'); clear rb6
    have r_X7 := Lib.hid (r_X6.out.below b'); clear r_X6
    have o_O27 := Lib.hid (o_O26.out.below b'); clear o_O26
    have br7 := Lib.hid (blk_below b' br6.out); clear br6
    have bx7 := Lib.hid (blk_below b' bx6.out); clear bx6
    have B7 := Lib.hid (B6.out.tr b'); clear B6
    clear b'
    have r_Y7 := Lib.hid hR; clear hR
    have s_Y := Lib.hid hs'; clear hs' ht'
    clear o_O27
    have cbx0 := blk_cell bx7.out 0
    have pbx := blk_lt bx7.out
    go_wp2_with fail
    clear cbx0 pbx
    have ra8 := Lib.hid (ra7.out.below (below_new w7 (.cells #[.slice Y T.length y] 26))); clear ra7
    have rb8 := Lib.hid (rb7.out.below (below_new w7 (.cells #[.slice Y T.length y] 26))); clear rb7
    have r_X8 := Lib.hid (r_X7.out.below (below_new w7 (.cells #[.slice Y T.length y] 26))); clear r_X7
    have r_Y8 := Lib.hid (r_Y7.out.below (below_new w7 (.cells #[.slice Y T.length y] 26))); clear r_Y7
    have br8 := Lib.hid (blk_below (below_new w7 (.cells #[.slice Y T.length y] 26)) br7.out); clear br7
    have bx8 := Lib.hid (blk_below (below_new w7 (.cells #[.slice Y T.length y] 26)) bx7.out); clear bx7
    have B8 := Lib.hid (B7.out.tr (below_new w7 (.cells #[.slice Y T.length y] 26))); clear B7
    have by_8 := Lib.hid (blk_new w7 (.cells #[.slice Y T.length y] 26))
    refine (HM1.out _ (ra8.out.below (by first | exact Below.refl _ _ | exact below_new _ _))).mono ?_; rintro e w9 ⟨VV, vv, rfl, ho, b⟩
    have b' : Below (w7.alloc (.cells #[.slice Y T.length y] 26)).heap.size (w7.alloc (.cells #[.slice Y T.length y] 26)) w9 := Below.tr (by first | exact Below.refl _ _ | exact below_new _ _) b
    clear b
    have ra9 := Lib.hid (ra8.out.below b'); clear ra8
    have rb9 := Lib.hid (rb8.out.below b'); clear rb8
    have r_X9 := Lib.hid (r_X8.out.below b'); clear r_X8
    have r_Y9 := Lib.hid (r_Y8.out.below b'); clear r_Y8
    have br9 := Lib.hid (blk_below b' br8.out); clear br8
    have bx9 := Lib.hid (blk_below b' bx8.out); clear bx8
    have by_9 := Lib.hid (blk_below b' by_8.out); clear by_8
    have B9 := Lib.hid (B8.out.tr b'); clear B8
    clear b'
    have v_VV9 := Lib.hid ((RdR.of_own ho).1)
    clear ho
    go_wp2_with fail
    refine (HM2.out _ (rb9.out.below (by first | exact Below.refl _ _ | exact below_new _ _))).mono ?_; rintro e w10 ⟨WW, ww, rfl, ho, b⟩
    have b' : Below w9.heap.size w9 w10 := Below.tr (by first | exact Below.refl _ _ | exact below_new _ _) b
    clear b
    have ra10 := Lib.hid (ra9.out.below b'); clear ra9
    have rb10 := Lib.hid (rb9.out.below b'); clear rb9
    have r_X10 := Lib.hid (r_X9.out.below b'); clear r_X9
    have r_Y10 := Lib.hid (r_Y9.out.below b'); clear r_Y9
    have v_VV10 := Lib.hid (v_VV9.out.below b'); clear v_VV9
    have br10 := Lib.hid (blk_below b' br9.out); clear br9
    have bx10 := Lib.hid (blk_below b' bx9.out); clear bx9
    have by_10 := Lib.hid (blk_below b' by_9.out); clear by_9
    have B10 := Lib.hid (B9.out.tr b'); clear B9
    clear b'
    have v_WW10 := Lib.hid ((RdR.of_own ho).1)
    clear ho
    have cbx0 := blk_cell bx10.out 0
    have pbx := blk_lt bx10.out
    have cby_0 := blk_cell by_10.out 0
    have pby_ := blk_lt by_10.out
    go_wp2_with fail
    clear cbx0 pbx cby_0 pby_
    refine (HU1.out X x Y y _ (r_X10.out.below (by first | exact Below.refl _ _ | exact below_new _ _)) (r_Y10.out.below (by first | exact Below.refl _ _ | exact below_new _ _))).mono ?_; rintro e w11 ⟨P, p, rfl, hR, hs', ht', b⟩
    have b' : Below w10.heap.size w10 w11 := Below.tr (by first | exact Below.refl _ _ | exact below_new _ _) b
    clear b
    have ra11 := Lib.hid (ra10.out.below b'); clear ra10
    have rb11 := Lib.hid (rb10.out.below b'); clear rb10
    have r_X11 := Lib.hid (r_X10.out.below b'); clear r_X10
    have r_Y11 := Lib.hid (r_Y10.out.below b'); clear r_Y10
    have v_VV11 := Lib.hid (v_VV10.out.below b'); clear v_VV10
    have v_WW11 := Lib.hid (v_WW10.out.below b'); clear v_WW10
    have br11 := Lib.hid (blk_below b' br10.out); clear br10
    have bx11 := Lib.hid (blk_below b' bx10.out); clear bx10
    have by_11 := Lib.hid (blk_below b' by_10.out); clear by_10
    have B11 := Lib.hid (B10.out.tr b'); clear B10
    clear b'
    have r_P11 := Lib.hid hR; clear hR
    have s_P := Lib.hid hs'; clear hs' ht'
    have cbx0 := blk_cell bx11.out 0
    have pbx := blk_lt bx11.out
    have cby_0 := blk_cell by_11.out 0
    have pby_ := blk_lt by_11.out
    go_wp2_with fail
    clear cbx0 pbx cby_0 pby_
    have ra12 := Lib.hid (ra11.out.below (below_new w11 (.cells #[.slice P OR.length p] 26))); clear ra11
    have rb12 := Lib.hid (rb11.out.below (below_new w11 (.cells #[.slice P OR.length p] 26))); clear rb11
    have r_X12 := Lib.hid (r_X11.out.below (below_new w11 (.cells #[.slice P OR.length p] 26))); clear r_X11
    have r_Y12 := Lib.hid (r_Y11.out.below (below_new w11 (.cells #[.slice P OR.length p] 26))); clear r_Y11
    have v_VV12 := Lib.hid (v_VV11.out.below (below_new w11 (.cells #[.slice P OR.length p] 26))); clear v_VV11
    have v_WW12 := Lib.hid (v_WW11.out.below (below_new w11 (.cells #[.slice P OR.length p] 26))); clear v_WW11
    have r_P12 := Lib.hid (r_P11.out.below (below_new w11 (.cells #[.slice P OR.length p] 26))); clear r_P11
    have br12 := Lib.hid (blk_below (below_new w11 (.cells #[.slice P OR.length p] 26)) br11.out); clear br11
    have bx12 := Lib.hid (blk_below (below_new w11 (.cells #[.slice P OR.length p] 26)) bx11.out); clear bx11
    have by_12 := Lib.hid (blk_below (below_new w11 (.cells #[.slice P OR.length p] 26)) by_11.out); clear by_11
    have B12 := Lib.hid (B11.out.tr (below_new w11 (.cells #[.slice P OR.length p] 26))); clear B11
    have bp12 := Lib.hid (blk_new w11 (.cells #[.slice P OR.length p] 26))
    refine (HU2.out X x Y y _ (r_X12.out.below (by first | exact Below.refl _ _ | exact below_new _ _)) (r_Y12.out.below (by first | exact Below.refl _ _ | exact below_new _ _))).mono ?_; rintro e w13 ⟨Q, q, rfl, hR, hs', ht', b⟩
    have b' : Below (w11.alloc (.cells #[.slice P OR.length p] 26)).heap.size (w11.alloc (.cells #[.slice P OR.length p] 26)) w13 := Below.tr (by first | exact Below.refl _ _ | exact below_new _ _) b
    clear b
    have ra13 := Lib.hid (ra12.out.below b'); clear ra12
    have rb13 := Lib.hid (rb12.out.below b'); clear rb12
    have r_X13 := Lib.hid (r_X12.out.below b'); clear r_X12
    have r_Y13 := Lib.hid (r_Y12.out.below b'); clear r_Y12
    have v_VV13 := Lib.hid (v_VV12.out.below b'); clear v_VV12
    have v_WW13 := Lib.hid (v_WW12.out.below b'); clear v_WW12
    have r_P13 := Lib.hid (r_P12.out.below b'); clear r_P12
    have br13 := Lib.hid (blk_below b' br12.out); clear br12
    have bx13 := Lib.hid (blk_below b' bx12.out); clear bx12
    have by_13 := Lib.hid (blk_below b' by_12.out); clear by_12
    have bp13 := Lib.hid (blk_below b' bp12.out); clear bp12
    have B13 := Lib.hid (B12.out.tr b'); clear B12
    clear b'
    have r_Q13 := Lib.hid hR; clear hR
    have s_Q := Lib.hid hs'; clear hs' ht'
    have cbx0 := blk_cell bx13.out 0
    have pbx := blk_lt bx13.out
    have cby_0 := blk_cell by_13.out 0
    have pby_ := blk_lt by_13.out
    go_wp2_with fail
    clear cbx0 pbx cby_0 pby_
    have ra14 := Lib.hid (ra13.out.below (below_new w13 (.cells #[.slice Q AND.length q] 26))); clear ra13
    have rb14 := Lib.hid (rb13.out.below (below_new w13 (.cells #[.slice Q AND.length q] 26))); clear rb13
    have r_X14 := Lib.hid (r_X13.out.below (below_new w13 (.cells #[.slice Q AND.length q] 26))); clear r_X13
    have r_Y14 := Lib.hid (r_Y13.out.below (below_new w13 (.cells #[.slice Q AND.length q] 26))); clear r_Y13
    have v_VV14 := Lib.hid (v_VV13.out.below (below_new w13 (.cells #[.slice Q AND.length q] 26))); clear v_VV13
    have v_WW14 := Lib.hid (v_WW13.out.below (below_new w13 (.cells #[.slice Q AND.length q] 26))); clear v_WW13
    have r_P14 := Lib.hid (r_P13.out.below (below_new w13 (.cells #[.slice Q AND.length q] 26))); clear r_P13
    have r_Q14 := Lib.hid (r_Q13.out.below (below_new w13 (.cells #[.slice Q AND.length q] 26))); clear r_Q13
    have br14 := Lib.hid (blk_below (below_new w13 (.cells #[.slice Q AND.length q] 26)) br13.out); clear br13
    have bx14 := Lib.hid (blk_below (below_new w13 (.cells #[.slice Q AND.length q] 26)) bx13.out); clear bx13
    have by_14 := Lib.hid (blk_below (below_new w13 (.cells #[.slice Q AND.length q] 26)) by_13.out); clear by_13
    have bp14 := Lib.hid (blk_below (below_new w13 (.cells #[.slice Q AND.length q] 26)) bp13.out); clear bp13
    have B14 := Lib.hid (B13.out.tr (below_new w13 (.cells #[.slice Q AND.length q] 26))); clear B13
    have bq14 := Lib.hid (blk_new w13 (.cells #[.slice Q AND.length q] 26))
    refine (HU3.out X x Y y _ (r_X14.out.below (by first | exact Below.refl _ _ | exact below_new _ _)) (r_Y14.out.below (by first | exact Below.refl _ _ | exact below_new _ _))).mono ?_; rintro e w15 ⟨D, dd, rfl, hR, hs', ht', b⟩
    have b' : Below (w13.alloc (.cells #[.slice Q AND.length q] 26)).heap.size (w13.alloc (.cells #[.slice Q AND.length q] 26)) w15 := Below.tr (by first | exact Below.refl _ _ | exact below_new _ _) b
    clear b
    have ra15 := Lib.hid (ra14.out.below b'); clear ra14
    have rb15 := Lib.hid (rb14.out.below b'); clear rb14
    have r_X15 := Lib.hid (r_X14.out.below b'); clear r_X14
    have r_Y15 := Lib.hid (r_Y14.out.below b'); clear r_Y14
    have v_VV15 := Lib.hid (v_VV14.out.below b'); clear v_VV14
    have v_WW15 := Lib.hid (v_WW14.out.below b'); clear v_WW14
    have r_P15 := Lib.hid (r_P14.out.below b'); clear r_P14
    have r_Q15 := Lib.hid (r_Q14.out.below b'); clear r_Q14
    have br15 := Lib.hid (blk_below b' br14.out); clear br14
    have bx15 := Lib.hid (blk_below b' bx14.out); clear bx14
    have by_15 := Lib.hid (blk_below b' by_14.out); clear by_14
    have bp15 := Lib.hid (blk_below b' bp14.out); clear bp14
    have bq15 := Lib.hid (blk_below b' bq14.out); clear bq14
    have B15 := Lib.hid (B14.out.tr b'); clear B14
    clear b'
    have r_D15 := Lib.hid hR; clear hR
    have s_D := Lib.hid hs'; clear hs' ht'
    go_wp2_with fail
    have ra16 := Lib.hid (ra15.out.below (below_new w15 (.cells #[.slice D MIN.length dd] 26))); clear ra15
    have rb16 := Lib.hid (rb15.out.below (below_new w15 (.cells #[.slice D MIN.length dd] 26))); clear rb15
    have r_X16 := Lib.hid (r_X15.out.below (below_new w15 (.cells #[.slice D MIN.length dd] 26))); clear r_X15
    have r_Y16 := Lib.hid (r_Y15.out.below (below_new w15 (.cells #[.slice D MIN.length dd] 26))); clear r_Y15
    have v_VV16 := Lib.hid (v_VV15.out.below (below_new w15 (.cells #[.slice D MIN.length dd] 26))); clear v_VV15
    have v_WW16 := Lib.hid (v_WW15.out.below (below_new w15 (.cells #[.slice D MIN.length dd] 26))); clear v_WW15
    have r_P16 := Lib.hid (r_P15.out.below (below_new w15 (.cells #[.slice D MIN.length dd] 26))); clear r_P15
    have r_Q16 := Lib.hid (r_Q15.out.below (below_new w15 (.cells #[.slice D MIN.length dd] 26))); clear r_Q15
    have r_D16 := Lib.hid (r_D15.out.below (below_new w15 (.cells #[.slice D MIN.length dd] 26))); clear r_D15
    have br16 := Lib.hid (blk_below (below_new w15 (.cells #[.slice D MIN.length dd] 26)) br15.out); clear br15
    have bx16 := Lib.hid (blk_below (below_new w15 (.cells #[.slice D MIN.length dd] 26)) bx15.out); clear bx15
    have by_16 := Lib.hid (blk_below (below_new w15 (.cells #[.slice D MIN.length dd] 26)) by_15.out); clear by_15
    have bp16 := Lib.hid (blk_below (below_new w15 (.cells #[.slice D MIN.length dd] 26)) bp15.out); clear bp15
    have bq16 := Lib.hid (blk_below (below_new w15 (.cells #[.slice D MIN.length dd] 26)) bq15.out); clear bq15
    have B16 := Lib.hid (B15.out.tr (below_new w15 (.cells #[.slice D MIN.length dd] 26))); clear B15
    have bd16 := Lib.hid (blk_new w15 (.cells #[.slice D MIN.length dd] 26))
    refine Flow.wp_region_segs Flow.Later Flow.Later.refl Flow.Later.trans [([0, 1, 2, 3, 4, 5, 6, 7, 8, 9, 10, 11, 12, 13], 14), ([], 15), ([16, 17, 18, 19, 20, 21], 22), ([], 23), ([24, 25, 26, 27, 28, 29], 30), ([], 31)] [32, 33] (by kernel_rfl) (by kernel_rfl) ?_
    have b' : Below (w15.alloc (.cells #[.slice D MIN.length dd] 26)).heap.size (w15.alloc (.cells #[.slice D MIN.length dd] 26)) (World.drew (w15.alloc (.cells #[.slice D MIN.length dd] 26))) := (Below.refl _ _).drew
    have ra17 := Lib.hid (ra16.out.below b'); clear ra16
    have rb17 := Lib.hid (rb16.out.below b'); clear rb16
    have r_X17 := Lib.hid (r_X16.out.below b'); clear r_X16
    have r_Y17 := Lib.hid (r_Y16.out.below b'); clear r_Y16
    have v_VV17 := Lib.hid (v_VV16.out.below b'); clear v_VV16
    have v_WW17 := Lib.hid (v_WW16.out.below b'); clear v_WW16
    have r_P17 := Lib.hid (r_P16.out.below b'); clear r_P16
    have r_Q17 := Lib.hid (r_Q16.out.below b'); clear r_Q16
    have r_D17 := Lib.hid (r_D16.out.below b'); clear r_D16
    have br17 := Lib.hid (blk_below b' br16.out); clear br16
    have bx17 := Lib.hid (blk_below b' bx16.out); clear bx16
    have by_17 := Lib.hid (blk_below b' by_16.out); clear by_16
    have bp17 := Lib.hid (blk_below b' bp16.out); clear bp16
    have bq17 := Lib.hid (blk_below b' bq16.out); clear bq16
    have bd17 := Lib.hid (blk_below b' bd16.out); clear bd16
    have B17 := Lib.hid (B16.out.tr b'); clear B16
    clear b'
    generalize World.drew _ = w17 at *
    have cbp0 := blk_cell bp17.out 0
    have qbp0 : ∀ t : Flow.Cls (Flow.Later w17), t.val.cell? _ = some (.slice P OR.length p) := fun t => Flow.cls_cell cbp0 t
    haveI nonE := Flow.cls_nonempty w17
    rw [Flow.wpSegs_cons]
    simp only [Flow.pick, List.getElem?_toArray, List.getElem?_cons_succ, List.getElem?_cons_zero]
    repeat go_big_quiet_step (fail)
    refine wpQuiet_nil ?_
    clear nonE qbp0 cbp0
    rw [Flow.callAt_eq]
    simp only [List.getElem?_toArray, List.getElem?_cons_succ, List.getElem?_cons_zero]
    rw [if_pos (by rfl)]
    refine Flow.wp_behind (fun K0 hK => ?_)
    go_wp2_with fail
    refine (HR1.out VV vv WW ww _ (v_VV17.out.below (by first | exact Below.refl _ _ | exact below_new _ _)) (v_WW17.out.below (by first | exact Below.refl _ _ | exact below_new _ _))).mono ?_; rintro e w18 ⟨G1, g1, rfl, ho, b⟩
    have b' : Below w17.heap.size w17 w18 := Below.tr (by first | exact Below.refl _ _ | exact below_new _ _) b
    clear b
    refine hK.out _ _ ⟨b', ?_⟩
    clear hK K0
    have ra18 := Lib.hid (ra17.out.below b'); clear ra17
    have rb18 := Lib.hid (rb17.out.below b'); clear rb17
    have r_X18 := Lib.hid (r_X17.out.below b'); clear r_X17
    have r_Y18 := Lib.hid (r_Y17.out.below b'); clear r_Y17
    have v_VV18 := Lib.hid (v_VV17.out.below b'); clear v_VV17
    have v_WW18 := Lib.hid (v_WW17.out.below b'); clear v_WW17
    have r_P18 := Lib.hid (r_P17.out.below b'); clear r_P17
    have r_Q18 := Lib.hid (r_Q17.out.below b'); clear r_Q17
    have r_D18 := Lib.hid (r_D17.out.below b'); clear r_D17
    have br18 := Lib.hid (blk_below b' br17.out); clear br17
    have bx18 := Lib.hid (blk_below b' bx17.out); clear bx17
    have by_18 := Lib.hid (blk_below b' by_17.out); clear by_17
    have bp18 := Lib.hid (blk_below b' bp17.out); clear bp17
    have bq18 := Lib.hid (blk_below b' bq17.out); clear bq17
    have bd18 := Lib.hid (blk_below b' bd17.out); clear bd17
    have B18 := Lib.hid (B17.out.tr b'); clear B17
    clear b'
    have v_G118 := Lib.hid ((RdR.of_own ho).1)
    clear ho
    haveI nonE := Flow.cls_nonempty w18
    rw [Flow.wpSegs_cons]
    simp only [Flow.pick]
    refine wpQuiet_nil ?_
    clear nonE 
    rw [Flow.callAt_eq]
    simp only [List.getElem?_toArray, List.getElem?_cons_succ, List.getElem?_cons_zero]
    rw [if_pos (by rfl)]
    refine Flow.wp_behind (fun K0 hK => ?_)
    go_wp2_with fail
    refine (HI.out OR LO.out P p G1 g1 _ (r_P18.out.below (by first | exact Below.refl _ _ | exact below_new _ _)) s_P.out (v_G118.out.below (by first | exact Below.refl _ _ | exact below_new _ _))).mono ?_; rintro e w19 ⟨rfl, b⟩
    have b' : Below w18.heap.size w18 w19 := Below.tr (by first | exact Below.refl _ _ | exact below_new _ _) b
    clear b
    refine hK.out _ _ ⟨b', ?_⟩
    clear hK K0
    have ra19 := Lib.hid (ra18.out.below b'); clear ra18
    have rb19 := Lib.hid (rb18.out.below b'); clear rb18
    have r_X19 := Lib.hid (r_X18.out.below b'); clear r_X18
    have r_Y19 := Lib.hid (r_Y18.out.below b'); clear r_Y18
    have v_VV19 := Lib.hid (v_VV18.out.below b'); clear v_VV18
    have v_WW19 := Lib.hid (v_WW18.out.below b'); clear v_WW18
    have r_P19 := Lib.hid (r_P18.out.below b'); clear r_P18
    have r_Q19 := Lib.hid (r_Q18.out.below b'); clear r_Q18
    have r_D19 := Lib.hid (r_D18.out.below b'); clear r_D18
    have v_G119 := Lib.hid (v_G118.out.below b'); clear v_G118
    have br19 := Lib.hid (blk_below b' br18.out); clear br18
    have bx19 := Lib.hid (blk_below b' bx18.out); clear bx18
    have by_19 := Lib.hid (blk_below b' by_18.out); clear by_18
    have bp19 := Lib.hid (blk_below b' bp18.out); clear bp18
    have bq19 := Lib.hid (blk_below b' bq18.out); clear bq18
    have bd19 := Lib.hid (blk_below b' bd18.out); clear bd18
    have B19 := Lib.hid (B18.out.tr b'); clear B18
    clear b'
    have cbq0 := blk_cell bq19.out 0
    have qbq0 : ∀ t : Flow.Cls (Flow.Later w19), t.val.cell? _ = some (.slice Q AND.length q) := fun t => Flow.cls_cell cbq0 t
    haveI nonE := Flow.cls_nonempty w19
    rw [Flow.wpSegs_cons]
    simp only [Flow.pick, List.getElem?_toArray, List.getElem?_cons_succ, List.getElem?_cons_zero]
    repeat go_big_quiet_step (fail)
    refine wpQuiet_nil ?_
    clear nonE qbq0 cbq0
    rw [Flow.callAt_eq]
    simp only [List.getElem?_toArray, List.getElem?_cons_succ, List.getElem?_cons_zero]
    rw [if_pos (by rfl)]
    refine Flow.wp_behind (fun K0 hK => ?_)
    go_wp2_with fail
    refine (HR2.out VV vv WW ww _ (v_VV19.out.below (by first | exact Below.refl _ _ | exact below_new _ _)) (v_WW19.out.below (by first | exact Below.refl _ _ | exact below_new _ _))).mono ?_; rintro e w20 ⟨G2, g2, rfl, ho, b⟩
    have b' : Below w19.heap.size w19 w20 := Below.tr (by first | exact Below.refl _ _ | exact below_new _ _) b
    clear b
    refine hK.out _ _ ⟨b', ?_⟩
    clear hK K0
    have ra20 := Lib.hid (ra19.out.below b'); clear ra19
    have rb20 := Lib.hid (rb19.out.below b'); clear rb19
    have r_X20 := Lib.hid (r_X19.out.below b'); clear r_X19
    have r_Y20 := Lib.hid (r_Y19.out.below b'); clear r_Y19
    have v_VV20 := Lib.hid (v_VV19.out.below b'); clear v_VV19
    have v_WW20 := Lib.hid (v_WW19.out.below b'); clear v_WW19
    have r_P20 := Lib.hid (r_P19.out.below b'); clear r_P19
    have r_Q20 := Lib.hid (r_Q19.out.below b'); clear r_Q19
    have r_D20 := Lib.hid (r_D19.out.below b'); clear r_D19
    have v_G120 := Lib.hid (v_G119.out.below b'); clear v_G119
    have br20 := Lib.hid (blk_below b' br19.out); clear br19
    have bx20 := Lib.hid (blk_below b' bx19.out); clear bx19
    have by_20 := Lib.hid (blk_below b' by_19.out); clear by_19
    have bp20 := Lib.hid (blk_below b' bp19.out); clear bp19
    have bq20 := Lib.hid (blk_below b' bq19.out); clear bq19
    have bd20 := Lib.hid (blk_below b' bd19.out); clear bd19
    have B20 := Lib.hid (B19.out.tr b'); clear B19
    clear b'
    have v_G220 := Lib.hid ((RdR.of_own ho).1)
    clear ho
    haveI nonE := Flow.cls_nonempty w20
    rw [Flow.wpSegs_cons]
    simp only [Flow.pick]
    refine wpQuiet_nil ?_
    clear nonE 
    rw [Flow.callAt_eq]
    simp only [List.getElem?_toArray, List.getElem?_cons_succ, List.getElem?_cons_zero]
    rw [if_pos (by rfl)]
    refine Flow.wp_behind (fun K0 hK => ?_)
    go_wp2_with fail
    refine (HI.out AND LA.out Q q G2 g2 _ (r_Q20.out.below (by first | exact Below.refl _ _ | exact below_new _ _)) s_Q.out (v_G220.out.below (by first | exact Below.refl _ _ | exact below_new _ _))).mono ?_; rintro e w21 ⟨rfl, b⟩
    have b' : Below w20.heap.size w20 w21 := Below.tr (by first | exact Below.refl _ _ | exact below_new _ _) b
    clear b
    refine hK.out _ _ ⟨b', ?_⟩
    clear hK K0
    have ra21 := Lib.hid (ra20.out.below b'); clear ra20
    have rb21 := Lib.hid (rb20.out.below b'); clear rb20
    have r_X21 := Lib.hid (r_X20.out.below b'); clear r_X20
    have r_Y21 := Lib.hid (r_Y20.out.below b'); clear r_Y20
    have v_VV21 := Lib.hid (v_VV20.out.below b'); clear v_VV20
    have v_WW21 := Lib.hid (v_WW20.out.below b'); clear v_WW20
    have r_P21 := Lib.hid (r_P20.out.below b'); clear r_P20
    have r_Q21 := Lib.hid (r_Q20.out.below b'); clear r_Q20
    have r_D21 := Lib.hid (r_D20.out.below b'); clear r_D20
    have v_G121 := Lib.hid (v_G120.out.below b'); clear v_G120
    have v_G221 := Lib.hid (v_G220.out.below b'); clear v_G220
    have br21 := Lib.hid (blk_below b' br20.out); clear br20
    have bx21 := Lib.hid (blk_below b' bx20.out); clear bx20
    have by_21 := Lib.hid (blk_below b' by_20.out); clear by_20
    have bp21 := Lib.hid (blk_below b' bp20.out); clear bp20
    have bq21 := Lib.hid (blk_below b' bq20.out); clear bq20
    have bd21 := Lib.hid (blk_below b' bd20.out); clear bd20
    have B21 := Lib.hid (B20.out.tr b'); clear B20
    clear b'
    have cbd0 := blk_cell bd21.out 0
    have qbd0 : ∀ t : Flow.Cls (Flow.Later w21), t.val.cell? _ = some (.slice D MIN.length dd) := fun t => Flow.cls_cell cbd0 t
    haveI nonE := Flow.cls_nonempty w21
    rw [Flow.wpSegs_cons]
    simp only [Flow.pick, List.getElem?_toArray, List.getElem?_cons_succ, List.getElem?_cons_zero]
    repeat go_big_quiet_step (fail)
    refine wpQuiet_nil ?_
    clear nonE qbd0 cbd0
    rw [Flow.callAt_eq]
    simp only [List.getElem?_toArray, List.getElem?_cons_succ, List.getElem?_cons_zero]
    rw [if_pos (by rfl)]
    refine Flow.wp_behind (fun K0 hK => ?_)
    go_wp2_with fail
    refine (HR3.out VV vv WW ww _ (v_VV21.out.below (by first | exact Below.refl _ _ | exact below_new _ _)) (v_WW21.out.below (by first | exact Below.refl _ _ | exact below_new _ _))).mono ?_; rintro e w22 ⟨G3, g3, rfl, ho, b⟩
    have b' : Below w21.heap.size w21 w22 := Below.tr (by first | exact Below.refl _ _ | exact below_new _ _) b
    clear b
    refine hK.out _ _ ⟨b', ?_⟩
    clear hK K0
    have ra22 := Lib.hid (ra21.out.below b'); clear ra21
    have rb22 := Lib.hid (rb21.out.below b'); clear rb21
    have r_X22 := Lib.hid (r_X21.out.below b'); clear r_X21
    have r_Y22 := Lib.hid (r_Y21.out.below b'); clear r_Y21
    have v_VV22 := Lib.hid (v_VV21.out.below b'); clear v_VV21
    have v_WW22 := Lib.hid (v_WW21.out.below b'); clear v_WW21
    have r_P22 := Lib.hid (r_P21.out.below b'); clear r_P21
    have r_Q22 := Lib.hid (r_Q21.out.below b'); clear r_Q21
    have r_D22 := Lib.hid (r_D21.out.below b'); clear r_D21
    have v_G122 := Lib.hid (v_G121.out.below b'); clear v_G121
    have v_G222 := Lib.hid (v_G221.out.below b'); clear v_G221
    have br22 := Lib.hid (blk_below b' br21.out); clear br21
    have bx22 := Lib.hid (blk_below b' bx21.out); clear bx21
    have by_22 := Lib.hid (blk_below b' by_21.out); clear by_21
    have bp22 := Lib.hid (blk_below b' bp21.out); clear bp21
    have bq22 := Lib.hid (blk_below b' bq21.out); clear bq21
    have bd22 := Lib.hid (blk_below b' bd21.out); clear bd21
    have B22 := Lib.hid (B21.out.tr b'); clear B21
    clear b'
    have v_G322 := Lib.hid ((RdR.of_own ho).1)
    clear ho
    haveI nonE := Flow.cls_nonempty w22
    rw [Flow.wpSegs_cons]
    simp only [Flow.pick]
    refine wpQuiet_nil ?_
    clear nonE 
    rw [Flow.callAt_eq]
    simp only [List.getElem?_toArray, List.getElem?_cons_succ, List.getElem?_cons_zero]
    rw [if_pos (by rfl)]
    refine Flow.wp_behind (fun K0 hK => ?_)
    go_wp2_with fail
    refine (HI.out MIN LM.out D dd G3 g3 _ (r_D22.out.below (by first | exact Below.refl _ _ | exact below_new _ _)) s_D.out (v_G322.out.below (by first | exact Below.refl _ _ | exact below_new _ _))).mono ?_; rintro e w23 ⟨rfl, b⟩
    have b' : Below w22.heap.size w22 w23 := Below.tr (by first | exact Below.refl _ _ | exact below_new _ _) b
    clear b
    refine hK.out _ _ ⟨b', ?_⟩
    clear hK K0
    have ra23 := Lib.hid (ra22.out.below b'); clear ra22
    have rb23 := Lib.hid (rb22.out.below b'); clear rb22
    have r_X23 := Lib.hid (r_X22.out.below b'); clear r_X22
    have r_Y23 := Lib.hid (r_Y22.out.below b'); clear r_Y22
    have v_VV23 := Lib.hid (v_VV22.out.below b'); clear v_VV22
    have v_WW23 := Lib.hid (v_WW22.out.below b'); clear v_WW22
    have r_P23 := Lib.hid (r_P22.out.below b'); clear r_P22
    have r_Q23 := Lib.hid (r_Q22.out.below b'); clear r_Q22
    have r_D23 := Lib.hid (r_D22.out.below b'); clear r_D22
    have v_G123 := Lib.hid (v_G122.out.below b'); clear v_G122
    have v_G223 := Lib.hid (v_G222.out.below b'); clear v_G222
    have v_G323 := Lib.hid (v_G322.out.below b'); clear v_G322
    have br23 := Lib.hid (blk_below b' br22.out); clear br22
    have bx23 := Lib.hid (blk_below b' bx22.out); clear bx22
    have by_23 := Lib.hid (blk_below b' by_22.out); clear by_22
    have bp23 := Lib.hid (blk_below b' bp22.out); clear bp22
    have bq23 := Lib.hid (blk_below b' bq22.out); clear bq22
    have bd23 := Lib.hid (blk_below b' bd22.out); clear bd22
    have B23 := Lib.hid (B22.out.tr b'); clear B22
    clear b'
    haveI nonE := Flow.cls_nonempty w23
    rw [Flow.wpSegs_nil]
    simp only [Flow.pick, List.getElem?_toArray, List.getElem?_cons_succ, List.getElem?_cons_zero]
    repeat go_big_quiet_step (fail)
    refine wpQuiet_nil ?_
    clear nonE 
    have cbx0 := blk_cell bx23.out 0
    have pbx := blk_lt bx23.out
    have cbr0 := blk_cell br23.out 0
    have cbr1 := blk_cell br23.out 1
    have pbr := blk_lt br23.out
    go_wp2_with fail
    clear cbx0 pbx cbr0 cbr1 pbr
    have ra24 := Lib.hid (ra23.out.below (below_new w23 (.cells #[i64 r1, i64 r2] 42))); clear ra23
    have rb24 := Lib.hid (rb23.out.below (below_new w23 (.cells #[i64 r1, i64 r2] 42))); clear rb23
    have r_X24 := Lib.hid (r_X23.out.below (below_new w23 (.cells #[i64 r1, i64 r2] 42))); clear r_X23
    have r_Y24 := Lib.hid (r_Y23.out.below (below_new w23 (.cells #[i64 r1, i64 r2] 42))); clear r_Y23
    have v_VV24 := Lib.hid (v_VV23.out.below (below_new w23 (.cells #[i64 r1, i64 r2] 42))); clear v_VV23
    have v_WW24 := Lib.hid (v_WW23.out.below (below_new w23 (.cells #[i64 r1, i64 r2] 42))); clear v_WW23
    have r_P24 := Lib.hid (r_P23.out.below (below_new w23 (.cells #[i64 r1, i64 r2] 42))); clear r_P23
    have r_Q24 := Lib.hid (r_Q23.out.below (below_new w23 (.cells #[i64 r1, i64 r2] 42))); clear r_Q23
    have r_D24 := Lib.hid (r_D23.out.below (below_new w23 (.cells #[i64 r1, i64 r2] 42))); clear r_D23
    have v_G124 := Lib.hid (v_G123.out.below (below_new w23 (.cells #[i64 r1, i64 r2] 42))); clear v_G123
    have v_G224 := Lib.hid (v_G223.out.below (below_new w23 (.cells #[i64 r1, i64 r2] 42))); clear v_G223
    have v_G324 := Lib.hid (v_G323.out.below (below_new w23 (.cells #[i64 r1, i64 r2] 42))); clear v_G323
    have br24 := Lib.hid (blk_below (below_new w23 (.cells #[i64 r1, i64 r2] 42)) br23.out); clear br23
    have bx24 := Lib.hid (blk_below (below_new w23 (.cells #[i64 r1, i64 r2] 42)) bx23.out); clear bx23
    have by_24 := Lib.hid (blk_below (below_new w23 (.cells #[i64 r1, i64 r2] 42)) by_23.out); clear by_23
    have bp24 := Lib.hid (blk_below (below_new w23 (.cells #[i64 r1, i64 r2] 42)) bp23.out); clear bp23
    have bq24 := Lib.hid (blk_below (below_new w23 (.cells #[i64 r1, i64 r2] 42)) bq23.out); clear bq23
    have bd24 := Lib.hid (blk_below (below_new w23 (.cells #[i64 r1, i64 r2] 42)) bd23.out); clear bd23
    have B24 := Lib.hid (B23.out.tr (below_new w23 (.cells #[i64 r1, i64 r2] 42))); clear B23
    have bo24 := Lib.hid (blk_new w23 (.cells #[i64 r1, i64 r2] 42))
    refine (HA.out X x _ (r_X24.out.below (by first | exact Below.refl _ _ | exact below_new _ _))).mono ?_; rintro e w25 ⟨E, ee, rfl, hR, hs', ht', b⟩
    have b' : Below (w23.alloc (.cells #[i64 r1, i64 r2] 42)).heap.size (w23.alloc (.cells #[i64 r1, i64 r2] 42)) w25 := Below.tr (by first | exact Below.refl _ _ | exact below_new _ _) b
    clear b
    have ra25 := Lib.hid (ra24.out.below b'); clear ra24
    have rb25 := Lib.hid (rb24.out.below b'); clear rb24
    have r_X25 := Lib.hid (r_X24.out.below b'); clear r_X24
    have r_Y25 := Lib.hid (r_Y24.out.below b'); clear r_Y24
    have v_VV25 := Lib.hid (v_VV24.out.below b'); clear v_VV24
    have v_WW25 := Lib.hid (v_WW24.out.below b'); clear v_WW24
    have r_P25 := Lib.hid (r_P24.out.below b'); clear r_P24
    have r_Q25 := Lib.hid (r_Q24.out.below b'); clear r_Q24
    have r_D25 := Lib.hid (r_D24.out.below b'); clear r_D24
    have v_G125 := Lib.hid (v_G124.out.below b'); clear v_G124
    have v_G225 := Lib.hid (v_G224.out.below b'); clear v_G224
    have v_G325 := Lib.hid (v_G324.out.below b'); clear v_G324
    have br25 := Lib.hid (blk_below b' br24.out); clear br24
    have bx25 := Lib.hid (blk_below b' bx24.out); clear bx24
    have by_25 := Lib.hid (blk_below b' by_24.out); clear by_24
    have bp25 := Lib.hid (blk_below b' bp24.out); clear bp24
    have bq25 := Lib.hid (blk_below b' bq24.out); clear bq24
    have bd25 := Lib.hid (blk_below b' bd24.out); clear bd24
    have bo25 := Lib.hid (blk_below b' bo24.out); clear bo24
    have B25 := Lib.hid (B24.out.tr b'); clear B24
    clear b'
    have r_E25 := Lib.hid hR; clear hR
    have s_E := Lib.hid hs'; clear hs' ht'
    have cbx0 := blk_cell bx25.out 0
    have pbx := blk_lt bx25.out
    have cbo0 := blk_cell bo25.out 0
    have cbo1 := blk_cell bo25.out 1
    have pbo := blk_lt bo25.out
    go_wp2_with fail
    clear cbx0 pbx cbo0 cbo1 pbo
    have ra26 := Lib.hid (ra25.out.below (below_new w25 (.cells #[.slice E SE.length ee] 26))); clear ra25
    have rb26 := Lib.hid (rb25.out.below (below_new w25 (.cells #[.slice E SE.length ee] 26))); clear rb25
    have r_X26 := Lib.hid (r_X25.out.below (below_new w25 (.cells #[.slice E SE.length ee] 26))); clear r_X25
    have r_Y26 := Lib.hid (r_Y25.out.below (below_new w25 (.cells #[.slice E SE.length ee] 26))); clear r_Y25
    have v_VV26 := Lib.hid (v_VV25.out.below (below_new w25 (.cells #[.slice E SE.length ee] 26))); clear v_VV25
    have v_WW26 := Lib.hid (v_WW25.out.below (below_new w25 (.cells #[.slice E SE.length ee] 26))); clear v_WW25
    have r_P26 := Lib.hid (r_P25.out.below (below_new w25 (.cells #[.slice E SE.length ee] 26))); clear r_P25
    have r_Q26 := Lib.hid (r_Q25.out.below (below_new w25 (.cells #[.slice E SE.length ee] 26))); clear r_Q25
    have r_D26 := Lib.hid (r_D25.out.below (below_new w25 (.cells #[.slice E SE.length ee] 26))); clear r_D25
    have v_G126 := Lib.hid (v_G125.out.below (below_new w25 (.cells #[.slice E SE.length ee] 26))); clear v_G125
    have v_G226 := Lib.hid (v_G225.out.below (below_new w25 (.cells #[.slice E SE.length ee] 26))); clear v_G225
    have v_G326 := Lib.hid (v_G325.out.below (below_new w25 (.cells #[.slice E SE.length ee] 26))); clear v_G325
    have r_E26 := Lib.hid (r_E25.out.below (below_new w25 (.cells #[.slice E SE.length ee] 26))); clear r_E25
    have br26 := Lib.hid (blk_below (below_new w25 (.cells #[.slice E SE.length ee] 26)) br25.out); clear br25
    have bx26 := Lib.hid (blk_below (below_new w25 (.cells #[.slice E SE.length ee] 26)) bx25.out); clear bx25
    have by_26 := Lib.hid (blk_below (below_new w25 (.cells #[.slice E SE.length ee] 26)) by_25.out); clear by_25
    have bp26 := Lib.hid (blk_below (below_new w25 (.cells #[.slice E SE.length ee] 26)) bp25.out); clear bp25
    have bq26 := Lib.hid (blk_below (below_new w25 (.cells #[.slice E SE.length ee] 26)) bq25.out); clear bq25
    have bd26 := Lib.hid (blk_below (below_new w25 (.cells #[.slice E SE.length ee] 26)) bd25.out); clear bd25
    have bo26 := Lib.hid (blk_below (below_new w25 (.cells #[.slice E SE.length ee] 26)) bo25.out); clear bo25
    have B26 := Lib.hid (B25.out.tr (below_new w25 (.cells #[.slice E SE.length ee] 26))); clear B25
    have be26 := Lib.hid (blk_new w25 (.cells #[.slice E SE.length ee] 26))
    refine (HD.out X x _ (r_X26.out.below (by first | exact Below.refl _ _ | exact below_new _ _))).mono ?_; rintro e w27 ⟨F, ff, rfl, hR, hs', ht', b⟩
    have b' : Below (w25.alloc (.cells #[.slice E SE.length ee] 26)).heap.size (w25.alloc (.cells #[.slice E SE.length ee] 26)) w27 := Below.tr (by first | exact Below.refl _ _ | exact below_new _ _) b
    clear b
    have ra27 := Lib.hid (ra26.out.below b'); clear ra26
    have rb27 := Lib.hid (rb26.out.below b'); clear rb26
    have r_X27 := Lib.hid (r_X26.out.below b'); clear r_X26
    have r_Y27 := Lib.hid (r_Y26.out.below b'); clear r_Y26
    have v_VV27 := Lib.hid (v_VV26.out.below b'); clear v_VV26
    have v_WW27 := Lib.hid (v_WW26.out.below b'); clear v_WW26
    have r_P27 := Lib.hid (r_P26.out.below b'); clear r_P26
    have r_Q27 := Lib.hid (r_Q26.out.below b'); clear r_Q26
    have r_D27 := Lib.hid (r_D26.out.below b'); clear r_D26
    have v_G127 := Lib.hid (v_G126.out.below b'); clear v_G126
    have v_G227 := Lib.hid (v_G226.out.below b'); clear v_G226
    have v_G327 := Lib.hid (v_G326.out.below b'); clear v_G326
    have r_E27 := Lib.hid (r_E26.out.below b'); clear r_E26
    have br27 := Lib.hid (blk_below b' br26.out); clear br26
    have bx27 := Lib.hid (blk_below b' bx26.out); clear bx26
    have by_27 := Lib.hid (blk_below b' by_26.out); clear by_26
    have bp27 := Lib.hid (blk_below b' bp26.out); clear bp26
    have bq27 := Lib.hid (blk_below b' bq26.out); clear bq26
    have bd27 := Lib.hid (blk_below b' bd26.out); clear bd26
    have bo27 := Lib.hid (blk_below b' bo26.out); clear bo26
    have be27 := Lib.hid (blk_below b' be26.out); clear be26
    have B27 := Lib.hid (B26.out.tr b'); clear B26
    clear b'
    have r_F27 := Lib.hid hR; clear hR
    have s_F := Lib.hid hs'; clear hs' ht'
    have cbr0 := blk_cell br27.out 0
    have cbr1 := blk_cell br27.out 1
    have pbr := blk_lt br27.out
    go_wp2_with fail
    clear cbr0 cbr1 pbr
    have ra28 := Lib.hid (ra27.out.below (below_new w27 (.cells #[.slice F SF.length ff] 26))); clear ra27
    have rb28 := Lib.hid (rb27.out.below (below_new w27 (.cells #[.slice F SF.length ff] 26))); clear rb27
    have r_X28 := Lib.hid (r_X27.out.below (below_new w27 (.cells #[.slice F SF.length ff] 26))); clear r_X27
    have r_Y28 := Lib.hid (r_Y27.out.below (below_new w27 (.cells #[.slice F SF.length ff] 26))); clear r_Y27
    have v_VV28 := Lib.hid (v_VV27.out.below (below_new w27 (.cells #[.slice F SF.length ff] 26))); clear v_VV27
    have v_WW28 := Lib.hid (v_WW27.out.below (below_new w27 (.cells #[.slice F SF.length ff] 26))); clear v_WW27
    have r_P28 := Lib.hid (r_P27.out.below (below_new w27 (.cells #[.slice F SF.length ff] 26))); clear r_P27
    have r_Q28 := Lib.hid (r_Q27.out.below (below_new w27 (.cells #[.slice F SF.length ff] 26))); clear r_Q27
    have r_D28 := Lib.hid (r_D27.out.below (below_new w27 (.cells #[.slice F SF.length ff] 26))); clear r_D27
    have v_G128 := Lib.hid (v_G127.out.below (below_new w27 (.cells #[.slice F SF.length ff] 26))); clear v_G127
    have v_G228 := Lib.hid (v_G227.out.below (below_new w27 (.cells #[.slice F SF.length ff] 26))); clear v_G227
    have v_G328 := Lib.hid (v_G327.out.below (below_new w27 (.cells #[.slice F SF.length ff] 26))); clear v_G327
    have r_E28 := Lib.hid (r_E27.out.below (below_new w27 (.cells #[.slice F SF.length ff] 26))); clear r_E27
    have r_F28 := Lib.hid (r_F27.out.below (below_new w27 (.cells #[.slice F SF.length ff] 26))); clear r_F27
    have br28 := Lib.hid (blk_below (below_new w27 (.cells #[.slice F SF.length ff] 26)) br27.out); clear br27
    have bx28 := Lib.hid (blk_below (below_new w27 (.cells #[.slice F SF.length ff] 26)) bx27.out); clear bx27
    have by_28 := Lib.hid (blk_below (below_new w27 (.cells #[.slice F SF.length ff] 26)) by_27.out); clear by_27
    have bp28 := Lib.hid (blk_below (below_new w27 (.cells #[.slice F SF.length ff] 26)) bp27.out); clear bp27
    have bq28 := Lib.hid (blk_below (below_new w27 (.cells #[.slice F SF.length ff] 26)) bq27.out); clear bq27
    have bd28 := Lib.hid (blk_below (below_new w27 (.cells #[.slice F SF.length ff] 26)) bd27.out); clear bd27
    have bo28 := Lib.hid (blk_below (below_new w27 (.cells #[.slice F SF.length ff] 26)) bo27.out); clear bo27
    have be28 := Lib.hid (blk_below (below_new w27 (.cells #[.slice F SF.length ff] 26)) be27.out); clear be27
    have B28 := Lib.hid (B27.out.tr (below_new w27 (.cells #[.slice F SF.length ff] 26))); clear B27
    have bf28 := Lib.hid (blk_new w27 (.cells #[.slice F SF.length ff] 26))
    refine (HV.out _).mono ?_; rintro e w29 ⟨rfl, b⟩
    have b' : Below (w27.alloc (.cells #[.slice F SF.length ff] 26)).heap.size (w27.alloc (.cells #[.slice F SF.length ff] 26)) w29 := Below.tr (by first | exact Below.refl _ _ | exact below_new _ _) b
    clear b
    have ra29 := Lib.hid (ra28.out.below b'); clear ra28
    have rb29 := Lib.hid (rb28.out.below b'); clear rb28
    have r_X29 := Lib.hid (r_X28.out.below b'); clear r_X28
    have r_Y29 := Lib.hid (r_Y28.out.below b'); clear r_Y28
    have v_VV29 := Lib.hid (v_VV28.out.below b'); clear v_VV28
    have v_WW29 := Lib.hid (v_WW28.out.below b'); clear v_WW28
    have r_P29 := Lib.hid (r_P28.out.below b'); clear r_P28
    have r_Q29 := Lib.hid (r_Q28.out.below b'); clear r_Q28
    have r_D29 := Lib.hid (r_D28.out.below b'); clear r_D28
    have v_G129 := Lib.hid (v_G128.out.below b'); clear v_G128
    have v_G229 := Lib.hid (v_G228.out.below b'); clear v_G228
    have v_G329 := Lib.hid (v_G328.out.below b'); clear v_G328
    have r_E29 := Lib.hid (r_E28.out.below b'); clear r_E28
    have r_F29 := Lib.hid (r_F28.out.below b'); clear r_F28
    have br29 := Lib.hid (blk_below b' br28.out); clear br28
    have bx29 := Lib.hid (blk_below b' bx28.out); clear bx28
    have by_29 := Lib.hid (blk_below b' by_28.out); clear by_28
    have bp29 := Lib.hid (blk_below b' bp28.out); clear bp28
    have bq29 := Lib.hid (blk_below b' bq28.out); clear bq28
    have bd29 := Lib.hid (blk_below b' bd28.out); clear bd28
    have bo29 := Lib.hid (blk_below b' bo28.out); clear bo28
    have be29 := Lib.hid (blk_below b' be28.out); clear be28
    have bf29 := Lib.hid (blk_below b' bf28.out); clear bf28
    have B29 := Lib.hid (B28.out.tr b'); clear B28
    clear b'
    have cbe0 := blk_cell be29.out 0
    have pbe := blk_lt be29.out
    have cbf0 := blk_cell bf29.out 0
    have pbf := blk_lt bf29.out
    go_wp2_with fail
    clear cbe0 pbe cbf0 pbf
    refine Flow.wp_region_segs Flow.Later Flow.Later.refl Flow.Later.trans [([0, 1, 2, 3, 4, 5, 6, 7, 8, 9], 10), ([], 11), ([], 12), ([13, 14, 15, 16, 17], 18), ([], 19), ([], 20), ([21, 22, 23, 24], 25)] [26, 27] (by kernel_rfl) (by kernel_rfl) ?_
    have b' : Below w29.heap.size w29 (World.drew w29) := (Below.refl _ _).drew
    have ra30 := Lib.hid (ra29.out.below b'); clear ra29
    have rb30 := Lib.hid (rb29.out.below b'); clear rb29
    have r_X30 := Lib.hid (r_X29.out.below b'); clear r_X29
    have r_Y30 := Lib.hid (r_Y29.out.below b'); clear r_Y29
    have v_VV30 := Lib.hid (v_VV29.out.below b'); clear v_VV29
    have v_WW30 := Lib.hid (v_WW29.out.below b'); clear v_WW29
    have r_P30 := Lib.hid (r_P29.out.below b'); clear r_P29
    have r_Q30 := Lib.hid (r_Q29.out.below b'); clear r_Q29
    have r_D30 := Lib.hid (r_D29.out.below b'); clear r_D29
    have v_G130 := Lib.hid (v_G129.out.below b'); clear v_G129
    have v_G230 := Lib.hid (v_G229.out.below b'); clear v_G229
    have v_G330 := Lib.hid (v_G329.out.below b'); clear v_G329
    have r_E30 := Lib.hid (r_E29.out.below b'); clear r_E29
    have r_F30 := Lib.hid (r_F29.out.below b'); clear r_F29
    have br30 := Lib.hid (blk_below b' br29.out); clear br29
    have bx30 := Lib.hid (blk_below b' bx29.out); clear bx29
    have by_30 := Lib.hid (blk_below b' by_29.out); clear by_29
    have bp30 := Lib.hid (blk_below b' bp29.out); clear bp29
    have bq30 := Lib.hid (blk_below b' bq29.out); clear bq29
    have bd30 := Lib.hid (blk_below b' bd29.out); clear bd29
    have bo30 := Lib.hid (blk_below b' bo29.out); clear bo29
    have be30 := Lib.hid (blk_below b' be29.out); clear be29
    have bf30 := Lib.hid (blk_below b' bf29.out); clear bf29
    have B30 := Lib.hid (B29.out.tr b'); clear B29
    clear b'
    generalize World.drew _ = w30 at *
    have cbe0 := blk_cell be30.out 0
    have qbe0 : ∀ t : Flow.Cls (Flow.Later w30), t.val.cell? _ = some (.slice E SE.length ee) := fun t => Flow.cls_cell cbe0 t
    have cbr0 := blk_cell br30.out 0
    have qbr0 : ∀ t : Flow.Cls (Flow.Later w30), t.val.cell? _ = some (i64 r1) := fun t => Flow.cls_cell cbr0 t
    have cbr1 := blk_cell br30.out 1
    have qbr1 : ∀ t : Flow.Cls (Flow.Later w30), t.val.cell? _ = some (i64 r2) := fun t => Flow.cls_cell cbr1 t
    haveI nonE := Flow.cls_nonempty w30
    rw [Flow.wpSegs_cons]
    simp only [Flow.pick, List.getElem?_toArray, List.getElem?_cons_succ, List.getElem?_cons_zero]
    repeat go_big_quiet_step (fail)
    refine wpQuiet_nil ?_
    clear nonE qbe0 cbe0 qbr0 cbr0 qbr1 cbr1
    rw [Flow.callAt_eq]
    simp only [List.getElem?_toArray, List.getElem?_cons_succ, List.getElem?_cons_zero]
    rw [if_pos (by rfl)]
    refine Flow.wp_behind (fun K0 hK => ?_)
    go_wp2_with fail
    refine hK.out _ _ ⟨below_new _ _, ?_⟩
    clear hK K0
    have b' := below_new w30 (.cells #[i64 r1, i64 r2] 37)
    have ra31 := Lib.hid (ra30.out.below b'); clear ra30
    have rb31 := Lib.hid (rb30.out.below b'); clear rb30
    have r_X31 := Lib.hid (r_X30.out.below b'); clear r_X30
    have r_Y31 := Lib.hid (r_Y30.out.below b'); clear r_Y30
    have v_VV31 := Lib.hid (v_VV30.out.below b'); clear v_VV30
    have v_WW31 := Lib.hid (v_WW30.out.below b'); clear v_WW30
    have r_P31 := Lib.hid (r_P30.out.below b'); clear r_P30
    have r_Q31 := Lib.hid (r_Q30.out.below b'); clear r_Q30
    have r_D31 := Lib.hid (r_D30.out.below b'); clear r_D30
    have v_G131 := Lib.hid (v_G130.out.below b'); clear v_G130
    have v_G231 := Lib.hid (v_G230.out.below b'); clear v_G230
    have v_G331 := Lib.hid (v_G330.out.below b'); clear v_G330
    have r_E31 := Lib.hid (r_E30.out.below b'); clear r_E30
    have r_F31 := Lib.hid (r_F30.out.below b'); clear r_F30
    have br31 := Lib.hid (blk_below b' br30.out); clear br30
    have bx31 := Lib.hid (blk_below b' bx30.out); clear bx30
    have by_31 := Lib.hid (blk_below b' by_30.out); clear by_30
    have bp31 := Lib.hid (blk_below b' bp30.out); clear bp30
    have bq31 := Lib.hid (blk_below b' bq30.out); clear bq30
    have bd31 := Lib.hid (blk_below b' bd30.out); clear bd30
    have bo31 := Lib.hid (blk_below b' bo30.out); clear bo30
    have be31 := Lib.hid (blk_below b' be30.out); clear be30
    have bf31 := Lib.hid (blk_below b' bf30.out); clear bf30
    have B31 := Lib.hid (B30.out.tr b'); clear B30
    clear b'
    have b131 := Lib.hid (blk_new w30 (.cells #[i64 r1, i64 r2] 37))
    generalize w30.alloc (.cells #[i64 r1, i64 r2] 37) = w31 at *
    haveI nonE := Flow.cls_nonempty w31
    rw [Flow.wpSegs_cons]
    simp only [Flow.pick]
    refine wpQuiet_nil ?_
    clear nonE 
    rw [Flow.callAt_eq]
    simp only [List.getElem?_toArray, List.getElem?_cons_succ, List.getElem?_cons_zero]
    rw [if_pos (by rfl)]
    refine Flow.wp_behind (fun K0 hK => ?_)
    go_wp2_with fail
    refine (HR4.out VV vv (some ⟨_, 0, none⟩) 1 _ (v_VV31.out.below (by first | exact Below.refl _ _ | exact below_new _ _)) (RdR.one' (blk_below (by first | exact Below.refl _ _ | exact below_new _ _) b131.out))).mono ?_; rintro e w32 ⟨G4, g4, rfl, ho, b⟩
    have b' : Below w31.heap.size w31 w32 := Below.tr (by first | exact Below.refl _ _ | exact below_new _ _) b
    clear b
    refine hK.out _ _ ⟨b', ?_⟩
    clear hK K0
    have ra32 := Lib.hid (ra31.out.below b'); clear ra31
    have rb32 := Lib.hid (rb31.out.below b'); clear rb31
    have r_X32 := Lib.hid (r_X31.out.below b'); clear r_X31
    have r_Y32 := Lib.hid (r_Y31.out.below b'); clear r_Y31
    have v_VV32 := Lib.hid (v_VV31.out.below b'); clear v_VV31
    have v_WW32 := Lib.hid (v_WW31.out.below b'); clear v_WW31
    have r_P32 := Lib.hid (r_P31.out.below b'); clear r_P31
    have r_Q32 := Lib.hid (r_Q31.out.below b'); clear r_Q31
    have r_D32 := Lib.hid (r_D31.out.below b'); clear r_D31
    have v_G132 := Lib.hid (v_G131.out.below b'); clear v_G131
    have v_G232 := Lib.hid (v_G231.out.below b'); clear v_G231
    have v_G332 := Lib.hid (v_G331.out.below b'); clear v_G331
    have r_E32 := Lib.hid (r_E31.out.below b'); clear r_E31
    have r_F32 := Lib.hid (r_F31.out.below b'); clear r_F31
    have br32 := Lib.hid (blk_below b' br31.out); clear br31
    have bx32 := Lib.hid (blk_below b' bx31.out); clear bx31
    have by_32 := Lib.hid (blk_below b' by_31.out); clear by_31
    have bp32 := Lib.hid (blk_below b' bp31.out); clear bp31
    have bq32 := Lib.hid (blk_below b' bq31.out); clear bq31
    have bd32 := Lib.hid (blk_below b' bd31.out); clear bd31
    have bo32 := Lib.hid (blk_below b' bo31.out); clear bo31
    have be32 := Lib.hid (blk_below b' be31.out); clear be31
    have bf32 := Lib.hid (blk_below b' bf31.out); clear bf31
    have b132 := Lib.hid (blk_below b' b131.out); clear b131
    have B32 := Lib.hid (B31.out.tr b'); clear B31
    clear b'
    have v_G432 := Lib.hid ((RdR.of_own ho).1)
    clear ho
    haveI nonE := Flow.cls_nonempty w32
    rw [Flow.wpSegs_cons]
    simp only [Flow.pick]
    refine wpQuiet_nil ?_
    clear nonE 
    rw [Flow.callAt_eq]
    simp only [List.getElem?_toArray, List.getElem?_cons_succ, List.getElem?_cons_zero]
    rw [if_pos (by rfl)]
    refine Flow.wp_behind (fun K0 hK => ?_)
    go_wp2_with fail
    refine (HI.out SE LE.out E ee G4 g4 _ (r_E32.out.below (by first | exact Below.refl _ _ | exact below_new _ _)) s_E.out (v_G432.out.below (by first | exact Below.refl _ _ | exact below_new _ _))).mono ?_; rintro e w33 ⟨rfl, b⟩
    have b' : Below w32.heap.size w32 w33 := Below.tr (by first | exact Below.refl _ _ | exact below_new _ _) b
    clear b
    refine hK.out _ _ ⟨b', ?_⟩
    clear hK K0
    have ra33 := Lib.hid (ra32.out.below b'); clear ra32
    have rb33 := Lib.hid (rb32.out.below b'); clear rb32
    have r_X33 := Lib.hid (r_X32.out.below b'); clear r_X32
    have r_Y33 := Lib.hid (r_Y32.out.below b'); clear r_Y32
    have v_VV33 := Lib.hid (v_VV32.out.below b'); clear v_VV32
    have v_WW33 := Lib.hid (v_WW32.out.below b'); clear v_WW32
    have r_P33 := Lib.hid (r_P32.out.below b'); clear r_P32
    have r_Q33 := Lib.hid (r_Q32.out.below b'); clear r_Q32
    have r_D33 := Lib.hid (r_D32.out.below b'); clear r_D32
    have v_G133 := Lib.hid (v_G132.out.below b'); clear v_G132
    have v_G233 := Lib.hid (v_G232.out.below b'); clear v_G232
    have v_G333 := Lib.hid (v_G332.out.below b'); clear v_G332
    have r_E33 := Lib.hid (r_E32.out.below b'); clear r_E32
    have r_F33 := Lib.hid (r_F32.out.below b'); clear r_F32
    have v_G433 := Lib.hid (v_G432.out.below b'); clear v_G432
    have br33 := Lib.hid (blk_below b' br32.out); clear br32
    have bx33 := Lib.hid (blk_below b' bx32.out); clear bx32
    have by_33 := Lib.hid (blk_below b' by_32.out); clear by_32
    have bp33 := Lib.hid (blk_below b' bp32.out); clear bp32
    have bq33 := Lib.hid (blk_below b' bq32.out); clear bq32
    have bd33 := Lib.hid (blk_below b' bd32.out); clear bd32
    have bo33 := Lib.hid (blk_below b' bo32.out); clear bo32
    have be33 := Lib.hid (blk_below b' be32.out); clear be32
    have bf33 := Lib.hid (blk_below b' bf32.out); clear bf32
    have b133 := Lib.hid (blk_below b' b132.out); clear b132
    have B33 := Lib.hid (B32.out.tr b'); clear B32
    clear b'
    have cbf0 := blk_cell bf33.out 0
    have qbf0 : ∀ t : Flow.Cls (Flow.Later w33), t.val.cell? _ = some (.slice F SF.length ff) := fun t => Flow.cls_cell cbf0 t
    have cbr0 := blk_cell br33.out 0
    have qbr0 : ∀ t : Flow.Cls (Flow.Later w33), t.val.cell? _ = some (i64 r1) := fun t => Flow.cls_cell cbr0 t
    have cbr1 := blk_cell br33.out 1
    have qbr1 : ∀ t : Flow.Cls (Flow.Later w33), t.val.cell? _ = some (i64 r2) := fun t => Flow.cls_cell cbr1 t
    haveI nonE := Flow.cls_nonempty w33
    rw [Flow.wpSegs_cons]
    simp only [Flow.pick, List.getElem?_toArray, List.getElem?_cons_succ, List.getElem?_cons_zero]
    repeat go_big_quiet_step (fail)
    refine wpQuiet_nil ?_
    clear nonE qbf0 cbf0 qbr0 cbr0 qbr1 cbr1
    rw [Flow.callAt_eq]
    simp only [List.getElem?_toArray, List.getElem?_cons_succ, List.getElem?_cons_zero]
    rw [if_pos (by rfl)]
    refine Flow.wp_behind (fun K0 hK => ?_)
    go_wp2_with fail
    refine hK.out _ _ ⟨below_new _ _, ?_⟩
    clear hK K0
    have b' := below_new w33 (.cells #[i64 r1, i64 r2] 37)
    have ra34 := Lib.hid (ra33.out.below b'); clear ra33
    have rb34 := Lib.hid (rb33.out.below b'); clear rb33
    have r_X34 := Lib.hid (r_X33.out.below b'); clear r_X33
    have r_Y34 := Lib.hid (r_Y33.out.below b'); clear r_Y33
    have v_VV34 := Lib.hid (v_VV33.out.below b'); clear v_VV33
    have v_WW34 := Lib.hid (v_WW33.out.below b'); clear v_WW33
    have r_P34 := Lib.hid (r_P33.out.below b'); clear r_P33
    have r_Q34 := Lib.hid (r_Q33.out.below b'); clear r_Q33
    have r_D34 := Lib.hid (r_D33.out.below b'); clear r_D33
    have v_G134 := Lib.hid (v_G133.out.below b'); clear v_G133
    have v_G234 := Lib.hid (v_G233.out.below b'); clear v_G233
    have v_G334 := Lib.hid (v_G333.out.below b'); clear v_G333
    have r_E34 := Lib.hid (r_E33.out.below b'); clear r_E33
    have r_F34 := Lib.hid (r_F33.out.below b'); clear r_F33
    have v_G434 := Lib.hid (v_G433.out.below b'); clear v_G433
    have br34 := Lib.hid (blk_below b' br33.out); clear br33
    have bx34 := Lib.hid (blk_below b' bx33.out); clear bx33
    have by_34 := Lib.hid (blk_below b' by_33.out); clear by_33
    have bp34 := Lib.hid (blk_below b' bp33.out); clear bp33
    have bq34 := Lib.hid (blk_below b' bq33.out); clear bq33
    have bd34 := Lib.hid (blk_below b' bd33.out); clear bd33
    have bo34 := Lib.hid (blk_below b' bo33.out); clear bo33
    have be34 := Lib.hid (blk_below b' be33.out); clear be33
    have bf34 := Lib.hid (blk_below b' bf33.out); clear bf33
    have b134 := Lib.hid (blk_below b' b133.out); clear b133
    have B34 := Lib.hid (B33.out.tr b'); clear B33
    clear b'
    have b234 := Lib.hid (blk_new w33 (.cells #[i64 r1, i64 r2] 37))
    generalize w33.alloc (.cells #[i64 r1, i64 r2] 37) = w34 at *
    haveI nonE := Flow.cls_nonempty w34
    rw [Flow.wpSegs_cons]
    simp only [Flow.pick]
    refine wpQuiet_nil ?_
    clear nonE 
    rw [Flow.callAt_eq]
    simp only [List.getElem?_toArray, List.getElem?_cons_succ, List.getElem?_cons_zero]
    rw [if_pos (by rfl)]
    refine Flow.wp_behind (fun K0 hK => ?_)
    go_wp2_with fail
    refine (HR5.out VV vv (some ⟨_, 0, none⟩) 1 _ (v_VV34.out.below (by first | exact Below.refl _ _ | exact below_new _ _)) (RdR.one' (blk_below (by first | exact Below.refl _ _ | exact below_new _ _) b234.out))).mono ?_; rintro e w35 ⟨G5, g5, rfl, ho, b⟩
    have b' : Below w34.heap.size w34 w35 := Below.tr (by first | exact Below.refl _ _ | exact below_new _ _) b
    clear b
    refine hK.out _ _ ⟨b', ?_⟩
    clear hK K0
    have ra35 := Lib.hid (ra34.out.below b'); clear ra34
    have rb35 := Lib.hid (rb34.out.below b'); clear rb34
    have r_X35 := Lib.hid (r_X34.out.below b'); clear r_X34
    have r_Y35 := Lib.hid (r_Y34.out.below b'); clear r_Y34
    have v_VV35 := Lib.hid (v_VV34.out.below b'); clear v_VV34
    have v_WW35 := Lib.hid (v_WW34.out.below b'); clear v_WW34
    have r_P35 := Lib.hid (r_P34.out.below b'); clear r_P34
    have r_Q35 := Lib.hid (r_Q34.out.below b'); clear r_Q34
    have r_D35 := Lib.hid (r_D34.out.below b'); clear r_D34
    have v_G135 := Lib.hid (v_G134.out.below b'); clear v_G134
    have v_G235 := Lib.hid (v_G234.out.below b'); clear v_G234
    have v_G335 := Lib.hid (v_G334.out.below b'); clear v_G334
    have r_E35 := Lib.hid (r_E34.out.below b'); clear r_E34
    have r_F35 := Lib.hid (r_F34.out.below b'); clear r_F34
    have v_G435 := Lib.hid (v_G434.out.below b'); clear v_G434
    have br35 := Lib.hid (blk_below b' br34.out); clear br34
    have bx35 := Lib.hid (blk_below b' bx34.out); clear bx34
    have by_35 := Lib.hid (blk_below b' by_34.out); clear by_34
    have bp35 := Lib.hid (blk_below b' bp34.out); clear bp34
    have bq35 := Lib.hid (blk_below b' bq34.out); clear bq34
    have bd35 := Lib.hid (blk_below b' bd34.out); clear bd34
    have bo35 := Lib.hid (blk_below b' bo34.out); clear bo34
    have be35 := Lib.hid (blk_below b' be34.out); clear be34
    have bf35 := Lib.hid (blk_below b' bf34.out); clear bf34
    have b135 := Lib.hid (blk_below b' b134.out); clear b134
    have b235 := Lib.hid (blk_below b' b234.out); clear b234
    have B35 := Lib.hid (B34.out.tr b'); clear B34
    clear b'
    have v_G535 := Lib.hid ((RdR.of_own ho).1)
    clear ho
    haveI nonE := Flow.cls_nonempty w35
    rw [Flow.wpSegs_cons]
    simp only [Flow.pick]
    refine wpQuiet_nil ?_
    clear nonE 
    rw [Flow.callAt_eq]
    simp only [List.getElem?_toArray, List.getElem?_cons_succ, List.getElem?_cons_zero]
    rw [if_pos (by rfl)]
    refine Flow.wp_behind (fun K0 hK => ?_)
    go_wp2_with fail
    refine (HI.out SF LF.out F ff G5 g5 _ (r_F35.out.below (by first | exact Below.refl _ _ | exact below_new _ _)) s_F.out (v_G535.out.below (by first | exact Below.refl _ _ | exact below_new _ _))).mono ?_; rintro e w36 ⟨rfl, b⟩
    have b' : Below w35.heap.size w35 w36 := Below.tr (by first | exact Below.refl _ _ | exact below_new _ _) b
    clear b
    refine hK.out _ _ ⟨b', ?_⟩
    clear hK K0
    have ra36 := Lib.hid (ra35.out.below b'); clear ra35
    have rb36 := Lib.hid (rb35.out.below b'); clear rb35
    have r_X36 := Lib.hid (r_X35.out.below b'); clear r_X35
    have r_Y36 := Lib.hid (r_Y35.out.below b'); clear r_Y35
    have v_VV36 := Lib.hid (v_VV35.out.below b'); clear v_VV35
    have v_WW36 := Lib.hid (v_WW35.out.below b'); clear v_WW35
    have r_P36 := Lib.hid (r_P35.out.below b'); clear r_P35
    have r_Q36 := Lib.hid (r_Q35.out.below b'); clear r_Q35
    have r_D36 := Lib.hid (r_D35.out.below b'); clear r_D35
    have v_G136 := Lib.hid (v_G135.out.below b'); clear v_G135
    have v_G236 := Lib.hid (v_G235.out.below b'); clear v_G235
    have v_G336 := Lib.hid (v_G335.out.below b'); clear v_G335
    have r_E36 := Lib.hid (r_E35.out.below b'); clear r_E35
    have r_F36 := Lib.hid (r_F35.out.below b'); clear r_F35
    have v_G436 := Lib.hid (v_G435.out.below b'); clear v_G435
    have v_G536 := Lib.hid (v_G535.out.below b'); clear v_G535
    have br36 := Lib.hid (blk_below b' br35.out); clear br35
    have bx36 := Lib.hid (blk_below b' bx35.out); clear bx35
    have by_36 := Lib.hid (blk_below b' by_35.out); clear by_35
    have bp36 := Lib.hid (blk_below b' bp35.out); clear bp35
    have bq36 := Lib.hid (blk_below b' bq35.out); clear bq35
    have bd36 := Lib.hid (blk_below b' bd35.out); clear bd35
    have bo36 := Lib.hid (blk_below b' bo35.out); clear bo35
    have be36 := Lib.hid (blk_below b' be35.out); clear be35
    have bf36 := Lib.hid (blk_below b' bf35.out); clear bf35
    have b136 := Lib.hid (blk_below b' b135.out); clear b135
    have b236 := Lib.hid (blk_below b' b235.out); clear b235
    have B36 := Lib.hid (B35.out.tr b'); clear B35
    clear b'
    have cbx0 := blk_cell bx36.out 0
    have qbx0 : ∀ t : Flow.Cls (Flow.Later w36), t.val.cell? _ = some (.slice X S.length x) := fun t => Flow.cls_cell cbx0 t
    haveI nonE := Flow.cls_nonempty w36
    rw [Flow.wpSegs_cons]
    simp only [Flow.pick, List.getElem?_toArray, List.getElem?_cons_succ, List.getElem?_cons_zero]
    repeat go_big_quiet_step (fail)
    refine wpQuiet_nil ?_
    clear nonE qbx0 cbx0
    rw [Flow.callAt_eq]
    simp only [List.getElem?_toArray, List.getElem?_cons_succ, List.getElem?_cons_zero]
    rw [if_pos (by rfl)]
    refine Flow.wp_behind (fun K0 hK => ?_)
    go_wp2_with fail
    refine (HI.out S LS.out X x VV vv _ (r_X36.out.below (by first | exact Below.refl _ _ | exact below_new _ _)) s_X.out (v_VV36.out.below (by first | exact Below.refl _ _ | exact below_new _ _))).mono ?_; rintro e w37 ⟨rfl, b⟩
    have b' : Below w36.heap.size w36 w37 := Below.tr (by first | exact Below.refl _ _ | exact below_new _ _) b
    clear b
    refine hK.out _ _ ⟨b', ?_⟩
    clear hK K0
    have ra37 := Lib.hid (ra36.out.below b'); clear ra36
    have rb37 := Lib.hid (rb36.out.below b'); clear rb36
    have r_X37 := Lib.hid (r_X36.out.below b'); clear r_X36
    have r_Y37 := Lib.hid (r_Y36.out.below b'); clear r_Y36
    have v_VV37 := Lib.hid (v_VV36.out.below b'); clear v_VV36
    have v_WW37 := Lib.hid (v_WW36.out.below b'); clear v_WW36
    have r_P37 := Lib.hid (r_P36.out.below b'); clear r_P36
    have r_Q37 := Lib.hid (r_Q36.out.below b'); clear r_Q36
    have r_D37 := Lib.hid (r_D36.out.below b'); clear r_D36
    have v_G137 := Lib.hid (v_G136.out.below b'); clear v_G136
    have v_G237 := Lib.hid (v_G236.out.below b'); clear v_G236
    have v_G337 := Lib.hid (v_G336.out.below b'); clear v_G336
    have r_E37 := Lib.hid (r_E36.out.below b'); clear r_E36
    have r_F37 := Lib.hid (r_F36.out.below b'); clear r_F36
    have v_G437 := Lib.hid (v_G436.out.below b'); clear v_G436
    have v_G537 := Lib.hid (v_G536.out.below b'); clear v_G536
    have br37 := Lib.hid (blk_below b' br36.out); clear br36
    have bx37 := Lib.hid (blk_below b' bx36.out); clear bx36
    have by_37 := Lib.hid (blk_below b' by_36.out); clear by_36
    have bp37 := Lib.hid (blk_below b' bp36.out); clear bp36
    have bq37 := Lib.hid (blk_below b' bq36.out); clear bq36
    have bd37 := Lib.hid (blk_below b' bd36.out); clear bd36
    have bo37 := Lib.hid (blk_below b' bo36.out); clear bo36
    have be37 := Lib.hid (blk_below b' be36.out); clear be36
    have bf37 := Lib.hid (blk_below b' bf36.out); clear bf36
    have b137 := Lib.hid (blk_below b' b136.out); clear b136
    have b237 := Lib.hid (blk_below b' b236.out); clear b236
    have B37 := Lib.hid (B36.out.tr b'); clear B36
    clear b'
    haveI nonE := Flow.cls_nonempty w37
    rw [Flow.wpSegs_nil]
    simp only [Flow.pick, List.getElem?_toArray, List.getElem?_cons_succ, List.getElem?_cons_zero]
    repeat go_big_quiet_step (fail)
    refine wpQuiet_nil ?_
    clear nonE 
    go_wp2_with fail
    go_ret
    exact ⟨rfl, (B37.out.tr (by first | exact Below.refl _ _ | exact below_new _ _))⟩
end Go.Proofs.YtcpennlojjlpaaaGreatDoor
