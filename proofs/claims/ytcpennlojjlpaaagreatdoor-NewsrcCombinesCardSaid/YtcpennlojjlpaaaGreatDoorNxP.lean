/- The walk of the statement NewsrcAlgebra. -/
import Derived.Test.YtcpennlojjlpaaaGreatDoorZh
import Derived.Test.YtcpennlojjlpaaaGreatDoorZb
import Derived.Test.YtcpennlojjlpaaaGreatDoorZg
namespace Go.Nr
theorem minus_and {S T : List Rg} (hS : Okset S) (_hT : Okset T) {AND MIN : List Rg} (h1 : Okset MIN) (h2 : Okset AND) (e1 : ∀ n, has MIN n = (has S n && !has T n)) (e2 : ∀ n, has AND n = (has S n && has T n)) : orS MIN AND = S :=
  has_uniq (orS_spec (fun r hr => (h1.2 r hr).2.1) (fun r hr => (h2.2 r hr).2.1)).1 hS.1 fun n => by
    rw [(orS_spec (fun r hr => (h1.2 r hr).2.1) (fun r hr => (h2.2 r hr).2.1)).2, e1, e2]
    cases has S n <;> cases has T n <;> rfl
theorem orS_comm {S T : List Rg} (hS : Okset S) (hT : Okset T) : orS T S = orS S T :=
  has_uniq (orS_spec (fun r hr => (hT.2 r hr).2.1) (fun r hr => (hS.2 r hr).2.1)).1 (orS_spec (fun r hr => (hS.2 r hr).2.1) (fun r hr => (hT.2 r hr).2.1)).1 fun n => by
    rw [(orS_spec (fun r hr => (hT.2 r hr).2.1) (fun r hr => (hS.2 r hr).2.1)).2, (orS_spec (fun r hr => (hS.2 r hr).2.1) (fun r hr => (hT.2 r hr).2.1)).2, Bool.or_comm]
theorem okset_rng {l : List Rg} (h : Okset l) : ∀ r ∈ l, 1 ≤ r.1 ∧ r.2 ≤ ((1099511627776 : Nat) : Int) := fun r hr => ⟨(h.2 r hr).1, (h.2 r hr).2.2⟩
theorem count_or_and {S T OR AND : List Rg} (hS : Okset S) (hT : Okset T) (hO : Okset OR) (hA : Okset AND) (e1 : ∀ n, has OR n = (has S n || has T n)) (e2 : ∀ n, has AND n = (has S n && has T n)) : count OR + count AND = count S + count T := by
  have h := card_or_and (has S) (has T) 1099511627776
  rw [← card_congr (p := has OR) _ (fun n _ _ => e1 n), ← card_congr (p := has AND) _ (fun n _ _ => e2 n)] at h
  rw [count_card hS.1 _ (okset_rng hS), count_card hT.1 _ (okset_rng hT), count_card hO.1 _ (okset_rng hO), count_card hA.1 _ (okset_rng hA)]
  omega
end Go.Nr
namespace Go.Proofs.YtcpennlojjlpaaaGreatDoor
open Go.RowKit Go.Nr Go.Gn

theorem fromE_cases (a : List Rg) : (fromE a = 0 ∧ Okset (fromS a)) ∨ (fromE a = 2 ∧ fromS a = []) := by
  unfold fromE
  cases h : a.all okB with
  | true => exact .inl ⟨rfl, fromS_ok a⟩
  | false => exact .inr ⟨rfl, by unfold fromS; rw [h]; rfl⟩
/-- FromRanges of accepted ranges, and of others. -/
theorem fromR_yes {a : List Rg} (h : fromE a = 0) (hn : a.length ≤ 60) (O : Option Addr) (c : Nat) (W : World) (hr : RdR W O a) (hs : SlR O c a.length) :
    Calls Tryz.prog 16 #[.slice O a.length c] W (GivesSet W (fromS a) 0) := by
  have := fromR_any O c a W hr hs (by omega)
  rw [h] at this; exact this
theorem fromR_no {a : List Rg} (h : fromE a = 2) (h2 : fromS a = []) (hn : a.length ≤ 60) (O : Option Addr) (c : Nat) (W : World) (hr : RdR W O a) (hs : SlR O c a.length) :
    Calls Tryz.prog 16 #[.slice O a.length c] W (GivesSet W [] 2) := by
  have := fromR_any O c a W hr hs (by omega)
  rw [h, h2] at this; exact this
theorem count_rng60 {S : List Rg} (h : Okset S) (hl : S.length ≤ 1000) : 0 ≤ count S ∧ count S ≤ 1099511627776000 := by
  have := count_rng S h.2
  omega

set_option maxRecDepth 100000 in
set_option maxHeartbeats 16000000 in
theorem newsrcAlgebra_walk (A : Option Addr) (c : Nat) (a : List Rg) (B : Option Addr) (d : Nat) (b : List Rg) (n : Int) (w : World) (ha : RdR w A a) (hb : RdR w B b) (hE : Env w) (hT : Tab w) :
    Calls Tryz.prog 6 #[.slice A a.length c, .slice B b.length d, i64 n] w fun e w' => e = .returned (.bool true) ∧ Below w.heap.size w w' := by
  have HK := Lib.hid (fun W (h : Below w.heap.size w W) => known_any W (hE.below h) (hT.below h))
  have RA := Lib.hid ha
  have RB := Lib.hid hb
  clear ha hb hE hT
  by_cases h60 : 60 < a.length
  · go_enter Tryz.func6, Tryz.ntmps6
    go_wp2_with fail
    refine (HK.out _ (by first | exact Below.refl _ _ | exact below_new _ _)).mono ?_; rintro e w1 ⟨rfl, b⟩
    have b' : Below w.heap.size w w1 := Below.tr (by first | exact Below.refl _ _ | exact below_new _ _) b
    clear b
    have ra1 := Lib.hid (RA.out.below b'); clear RA
    have rb1 := Lib.hid (RB.out.below b'); clear RB
    have B1 := Lib.hid b'
    clear b'
    go_wp2_with fail
    refine (HK.out _ (B1.out.tr (by first | exact Below.refl _ _ | exact below_new _ _))).mono ?_; rintro e w2 ⟨rfl, b⟩
    have b' : Below w1.heap.size w1 w2 := Below.tr (by first | exact Below.refl _ _ | exact below_new _ _) b
    clear b
    have ra2 := Lib.hid (ra1.out.below b'); clear ra1
    have rb2 := Lib.hid (rb1.out.below b'); clear rb1
    have B2 := Lib.hid (B1.out.tr b'); clear B1
    clear b'
    go_wp2_with fail
    go_ret
    exact ⟨rfl, (B2.out.tr (by first | exact Below.refl _ _ | exact below_new _ _))⟩
  by_cases h61 : 60 < b.length
  · go_enter Tryz.func6, Tryz.ntmps6
    go_wp2_with fail
    refine (HK.out _ (by first | exact Below.refl _ _ | exact below_new _ _)).mono ?_; rintro e w1 ⟨rfl, b⟩
    have b' : Below w.heap.size w w1 := Below.tr (by first | exact Below.refl _ _ | exact below_new _ _) b
    clear b
    have ra1 := Lib.hid (RA.out.below b'); clear RA
    have rb1 := Lib.hid (RB.out.below b'); clear RB
    have B1 := Lib.hid b'
    clear b'
    go_wp2_with fail
    refine (HK.out _ (B1.out.tr (by first | exact Below.refl _ _ | exact below_new _ _))).mono ?_; rintro e w2 ⟨rfl, b⟩
    have b' : Below w1.heap.size w1 w2 := Below.tr (by first | exact Below.refl _ _ | exact below_new _ _) b
    clear b
    have ra2 := Lib.hid (ra1.out.below b'); clear ra1
    have rb2 := Lib.hid (rb1.out.below b'); clear rb1
    have B2 := Lib.hid (B1.out.tr b'); clear B1
    clear b'
    go_wp2_with fail
    go_ret
    exact ⟨rfl, (B2.out.tr (by first | exact Below.refl _ _ | exact below_new _ _))⟩
  have HO1 := Lib.hid (fun W (h : RdR W A a) => own_any46 A c a W h (by omega))
  have HO2 := Lib.hid (fun W (h : RdR W B b) => own_any46 B d b W h (by omega))
  rcases fromE_cases a with ⟨ea, okS⟩ | ⟨ea, eS⟩
  case inr =>
    have HF1 := Lib.hid (fun O o W (h : RdR W O a) (h2 : SlR O o a.length) => fromR_no ea eS (by omega) O o W h h2)
    rcases fromE_cases b with ⟨eb, okT⟩ | ⟨eb, eT⟩
    case inl =>
      have HF2 := Lib.hid (fun O o W (h : RdR W O b) (h2 : SlR O o b.length) => fromR_yes eb (by omega) O o W h h2)
      clear ea eb eS okT
      go_enter Tryz.func6, Tryz.ntmps6
      go_wp2_with fail
      refine (HK.out _ (by first | exact Below.refl _ _ | exact below_new _ _)).mono ?_; rintro e w1 ⟨rfl, b⟩
      have b' : Below w.heap.size w w1 := Below.tr (by first | exact Below.refl _ _ | exact below_new _ _) b
      clear b
      have ra1 := Lib.hid (RA.out.below b'); clear RA
      have rb1 := Lib.hid (RB.out.below b'); clear RB
      have B1 := Lib.hid b'
      clear b'
      go_wp2_with fail
      refine (HO1.out _ (ra1.out.below (by first | exact Below.refl _ _ | exact below_new _ _))).mono ?_; rintro e w2 ⟨O1, o1, rfl, ho, b⟩
      have b' : Below w1.heap.size w1 w2 := Below.tr (by first | exact Below.refl _ _ | exact below_new _ _) b
      clear b
      have ra2 := Lib.hid (ra1.out.below b'); clear ra1
      have rb2 := Lib.hid (rb1.out.below b'); clear rb1
      have B2 := Lib.hid (B1.out.tr b'); clear B1
      clear b'
      have o_O12 := Lib.hid ((RdR.of_own ho).1)
      have s_O1 := Lib.hid (SlR.of_own ho); clear ho
      go_wp2_with fail
      refine (HF1.out O1 o1 _ (o_O12.out.below (by first | exact Below.refl _ _ | exact below_new _ _)) s_O1.out).mono ?_; rintro e w3 ⟨X, x, rfl, hR, hs', ht', b⟩
      have b' : Below w2.heap.size w2 w3 := Below.tr (by first | exact Below.refl _ _ | exact below_new _ _) b
      clear b
      have ra3 := Lib.hid (ra2.out.below b'); clear ra2
      have rb3 := Lib.hid (rb2.out.below b'); clear rb2
      have o_O13 := Lib.hid (o_O12.out.below b'); clear o_O12
      have B3 := Lib.hid (B2.out.tr b'); clear B2
      clear b'
      have r_X3 := Lib.hid hR; clear hR
      clear hs' ht'
      clear o_O13
      go_wp2_with fail
      have ra4 := Lib.hid (ra3.out.below (below_new w3 (.cells #[.slice X (([] : List Rg)).length x] 26))); clear ra3
      have rb4 := Lib.hid (rb3.out.below (below_new w3 (.cells #[.slice X (([] : List Rg)).length x] 26))); clear rb3
      have r_X4 := Lib.hid (r_X3.out.below (below_new w3 (.cells #[.slice X (([] : List Rg)).length x] 26))); clear r_X3
      have B4 := Lib.hid (B3.out.tr (below_new w3 (.cells #[.slice X (([] : List Rg)).length x] 26))); clear B3
      have bx4 := Lib.hid (blk_new w3 (.cells #[.slice X (([] : List Rg)).length x] 26))
      refine (HO2.out _ (rb4.out.below (by first | exact Below.refl _ _ | exact below_new _ _))).mono ?_; rintro e w5 ⟨O2, o2, rfl, ho, b⟩
      have b' : Below (w3.alloc (.cells #[.slice X (([] : List Rg)).length x] 26)).heap.size (w3.alloc (.cells #[.slice X (([] : List Rg)).length x] 26)) w5 := Below.tr (by first | exact Below.refl _ _ | exact below_new _ _) b
      clear b
      have ra5 := Lib.hid (ra4.out.below b'); clear ra4
      have rb5 := Lib.hid (rb4.out.below b'); clear rb4
      have r_X5 := Lib.hid (r_X4.out.below b'); clear r_X4
      have bx5 := Lib.hid (blk_below b' bx4.out); clear bx4
      have B5 := Lib.hid (B4.out.tr b'); clear B4
      clear b'
      have o_O25 := Lib.hid ((RdR.of_own ho).1)
      have s_O2 := Lib.hid (SlR.of_own ho); clear ho
      go_wp2_with fail
      refine (HF2.out O2 o2 _ (o_O25.out.below (by first | exact Below.refl _ _ | exact below_new _ _)) s_O2.out).mono ?_; rintro e w6 ⟨Y, y, rfl, hR, hs', ht', b⟩
      have b' : Below w5.heap.size w5 w6 := Below.tr (by first | exact Below.refl _ _ | exact below_new _ _) b
      clear b
      have ra6 := Lib.hid (ra5.out.below b'); clear ra5
      have rb6 := Lib.hid (rb5.out.below b'); clear rb5
      have r_X6 := Lib.hid (r_X5.out.below b'); clear r_X5
      have o_O26 := Lib.hid (o_O25.out.below b'); clear o_O25
      have bx6 := Lib.hid (blk_below b' bx5.out); clear bx5
      have B6 := Lib.hid (B5.out.tr b'); clear B5
      clear b'
      have r_Y6 := Lib.hid hR; clear hR
      clear hs' ht'
      clear o_O26
      go_wp2_with fail
      have ra7 := Lib.hid (ra6.out.below (below_new w6 (.cells #[.slice Y (fromS b).length y] 26))); clear ra6
      have rb7 := Lib.hid (rb6.out.below (below_new w6 (.cells #[.slice Y (fromS b).length y] 26))); clear rb6
      have r_X7 := Lib.hid (r_X6.out.below (below_new w6 (.cells #[.slice Y (fromS b).length y] 26))); clear r_X6
      have r_Y7 := Lib.hid (r_Y6.out.below (below_new w6 (.cells #[.slice Y (fromS b).length y] 26))); clear r_Y6
      have bx7 := Lib.hid (blk_below (below_new w6 (.cells #[.slice Y (fromS b).length y] 26)) bx6.out); clear bx6
      have B7 := Lib.hid (B6.out.tr (below_new w6 (.cells #[.slice Y (fromS b).length y] 26))); clear B6
      have by_7 := Lib.hid (blk_new w6 (.cells #[.slice Y (fromS b).length y] 26))
      go_ret
      exact ⟨rfl, (B7.out.tr (by first | exact Below.refl _ _ | exact below_new _ _))⟩
    case inr =>
      have HF2 := Lib.hid (fun O o W (h : RdR W O b) (h2 : SlR O o b.length) => fromR_no eb eT (by omega) O o W h h2)
      clear ea eb eS eT
      go_enter Tryz.func6, Tryz.ntmps6
      go_wp2_with fail
      refine (HK.out _ (by first | exact Below.refl _ _ | exact below_new _ _)).mono ?_; rintro e w1 ⟨rfl, b⟩
      have b' : Below w.heap.size w w1 := Below.tr (by first | exact Below.refl _ _ | exact below_new _ _) b
      clear b
      have ra1 := Lib.hid (RA.out.below b'); clear RA
      have rb1 := Lib.hid (RB.out.below b'); clear RB
      have B1 := Lib.hid b'
      clear b'
      go_wp2_with fail
      refine (HO1.out _ (ra1.out.below (by first | exact Below.refl _ _ | exact below_new _ _))).mono ?_; rintro e w2 ⟨O1, o1, rfl, ho, b⟩
      have b' : Below w1.heap.size w1 w2 := Below.tr (by first | exact Below.refl _ _ | exact below_new _ _) b
      clear b
      have ra2 := Lib.hid (ra1.out.below b'); clear ra1
      have rb2 := Lib.hid (rb1.out.below b'); clear rb1
      have B2 := Lib.hid (B1.out.tr b'); clear B1
      clear b'
      have o_O12 := Lib.hid ((RdR.of_own ho).1)
      have s_O1 := Lib.hid (SlR.of_own ho); clear ho
      go_wp2_with fail
      refine (HF1.out O1 o1 _ (o_O12.out.below (by first | exact Below.refl _ _ | exact below_new _ _)) s_O1.out).mono ?_; rintro e w3 ⟨X, x, rfl, hR, hs', ht', b⟩
      have b' : Below w2.heap.size w2 w3 := Below.tr (by first | exact Below.refl _ _ | exact below_new _ _) b
      clear b
      have ra3 := Lib.hid (ra2.out.below b'); clear ra2
      have rb3 := Lib.hid (rb2.out.below b'); clear rb2
      have o_O13 := Lib.hid (o_O12.out.below b'); clear o_O12
      have B3 := Lib.hid (B2.out.tr b'); clear B2
      clear b'
      have r_X3 := Lib.hid hR; clear hR
      clear hs' ht'
      clear o_O13
      go_wp2_with fail
      have ra4 := Lib.hid (ra3.out.below (below_new w3 (.cells #[.slice X (([] : List Rg)).length x] 26))); clear ra3
      have rb4 := Lib.hid (rb3.out.below (below_new w3 (.cells #[.slice X (([] : List Rg)).length x] 26))); clear rb3
      have r_X4 := Lib.hid (r_X3.out.below (below_new w3 (.cells #[.slice X (([] : List Rg)).length x] 26))); clear r_X3
      have B4 := Lib.hid (B3.out.tr (below_new w3 (.cells #[.slice X (([] : List Rg)).length x] 26))); clear B3
      have bx4 := Lib.hid (blk_new w3 (.cells #[.slice X (([] : List Rg)).length x] 26))
      refine (HO2.out _ (rb4.out.below (by first | exact Below.refl _ _ | exact below_new _ _))).mono ?_; rintro e w5 ⟨O2, o2, rfl, ho, b⟩
      have b' : Below (w3.alloc (.cells #[.slice X (([] : List Rg)).length x] 26)).heap.size (w3.alloc (.cells #[.slice X (([] : List Rg)).length x] 26)) w5 := Below.tr (by first | exact Below.refl _ _ | exact below_new _ _) b
      clear b
      have ra5 := Lib.hid (ra4.out.below b'); clear ra4
      have rb5 := Lib.hid (rb4.out.below b'); clear rb4
      have r_X5 := Lib.hid (r_X4.out.below b'); clear r_X4
      have bx5 := Lib.hid (blk_below b' bx4.out); clear bx4
      have B5 := Lib.hid (B4.out.tr b'); clear B4
      clear b'
      have o_O25 := Lib.hid ((RdR.of_own ho).1)
      have s_O2 := Lib.hid (SlR.of_own ho); clear ho
      go_wp2_with fail
      refine (HF2.out O2 o2 _ (o_O25.out.below (by first | exact Below.refl _ _ | exact below_new _ _)) s_O2.out).mono ?_; rintro e w6 ⟨Y, y, rfl, hR, hs', ht', b⟩
      have b' : Below w5.heap.size w5 w6 := Below.tr (by first | exact Below.refl _ _ | exact below_new _ _) b
      clear b
      have ra6 := Lib.hid (ra5.out.below b'); clear ra5
      have rb6 := Lib.hid (rb5.out.below b'); clear rb5
      have r_X6 := Lib.hid (r_X5.out.below b'); clear r_X5
      have o_O26 := Lib.hid (o_O25.out.below b'); clear o_O25
      have bx6 := Lib.hid (blk_below b' bx5.out); clear bx5
      have B6 := Lib.hid (B5.out.tr b'); clear B5
      clear b'
      have r_Y6 := Lib.hid hR; clear hR
      clear hs' ht'
      clear o_O26
      go_wp2_with fail
      have ra7 := Lib.hid (ra6.out.below (below_new w6 (.cells #[.slice Y (([] : List Rg)).length y] 26))); clear ra6
      have rb7 := Lib.hid (rb6.out.below (below_new w6 (.cells #[.slice Y (([] : List Rg)).length y] 26))); clear rb6
      have r_X7 := Lib.hid (r_X6.out.below (below_new w6 (.cells #[.slice Y (([] : List Rg)).length y] 26))); clear r_X6
      have r_Y7 := Lib.hid (r_Y6.out.below (below_new w6 (.cells #[.slice Y (([] : List Rg)).length y] 26))); clear r_Y6
      have bx7 := Lib.hid (blk_below (below_new w6 (.cells #[.slice Y (([] : List Rg)).length y] 26)) bx6.out); clear bx6
      have B7 := Lib.hid (B6.out.tr (below_new w6 (.cells #[.slice Y (([] : List Rg)).length y] 26))); clear B6
      have by_7 := Lib.hid (blk_new w6 (.cells #[.slice Y (([] : List Rg)).length y] 26))
      go_ret
      exact ⟨rfl, (B7.out.tr (by first | exact Below.refl _ _ | exact below_new _ _))⟩
  have HF1 := Lib.hid (fun O o W (h : RdR W O a) (h2 : SlR O o a.length) => fromR_yes ea (by omega) O o W h h2)
  have lS := fromS_length a
  rcases fromE_cases b with ⟨eb, okT⟩ | ⟨eb, eT⟩
  case inr =>
    have HF2 := Lib.hid (fun O o W (h : RdR W O b) (h2 : SlR O o b.length) => fromR_no eb eT (by omega) O o W h h2)
    clear ea eb eT okS
    go_enter Tryz.func6, Tryz.ntmps6
    go_wp2_with fail
    refine (HK.out _ (by first | exact Below.refl _ _ | exact below_new _ _)).mono ?_; rintro e w1 ⟨rfl, b⟩
    have b' : Below w.heap.size w w1 := Below.tr (by first | exact Below.refl _ _ | exact below_new _ _) b
    clear b
    have ra1 := Lib.hid (RA.out.below b'); clear RA
    have rb1 := Lib.hid (RB.out.below b'); clear RB
    have B1 := Lib.hid b'
    clear b'
    go_wp2_with fail
    refine (HO1.out _ (ra1.out.below (by first | exact Below.refl _ _ | exact below_new _ _))).mono ?_; rintro e w2 ⟨O1, o1, rfl, ho, b⟩
    have b' : Below w1.heap.size w1 w2 := Below.tr (by first | exact Below.refl _ _ | exact below_new _ _) b
    clear b
    have ra2 := Lib.hid (ra1.out.below b'); clear ra1
    have rb2 := Lib.hid (rb1.out.below b'); clear rb1
    have B2 := Lib.hid (B1.out.tr b'); clear B1
    clear b'
    have o_O12 := Lib.hid ((RdR.of_own ho).1)
    have s_O1 := Lib.hid (SlR.of_own ho); clear ho
    go_wp2_with fail
    refine (HF1.out O1 o1 _ (o_O12.out.below (by first | exact Below.refl _ _ | exact below_new _ _)) s_O1.out).mono ?_; rintro e w3 ⟨X, x, rfl, hR, hs', ht', b⟩
    have b' : Below w2.heap.size w2 w3 := Below.tr (by first | exact Below.refl _ _ | exact below_new _ _) b
    clear b
    have ra3 := Lib.hid (ra2.out.below b'); clear ra2
    have rb3 := Lib.hid (rb2.out.below b'); clear rb2
    have o_O13 := Lib.hid (o_O12.out.below b'); clear o_O12
    have B3 := Lib.hid (B2.out.tr b'); clear B2
    clear b'
    have r_X3 := Lib.hid hR; clear hR
    clear hs' ht'
    clear o_O13
    go_wp2_with fail
    have ra4 := Lib.hid (ra3.out.below (below_new w3 (.cells #[.slice X (fromS a).length x] 26))); clear ra3
    have rb4 := Lib.hid (rb3.out.below (below_new w3 (.cells #[.slice X (fromS a).length x] 26))); clear rb3
    have r_X4 := Lib.hid (r_X3.out.below (below_new w3 (.cells #[.slice X (fromS a).length x] 26))); clear r_X3
    have B4 := Lib.hid (B3.out.tr (below_new w3 (.cells #[.slice X (fromS a).length x] 26))); clear B3
    have bx4 := Lib.hid (blk_new w3 (.cells #[.slice X (fromS a).length x] 26))
    refine (HO2.out _ (rb4.out.below (by first | exact Below.refl _ _ | exact below_new _ _))).mono ?_; rintro e w5 ⟨O2, o2, rfl, ho, b⟩
    have b' : Below (w3.alloc (.cells #[.slice X (fromS a).length x] 26)).heap.size (w3.alloc (.cells #[.slice X (fromS a).length x] 26)) w5 := Below.tr (by first | exact Below.refl _ _ | exact below_new _ _) b
    clear b
    have ra5 := Lib.hid (ra4.out.below b'); clear ra4
    have rb5 := Lib.hid (rb4.out.below b'); clear rb4
    have r_X5 := Lib.hid (r_X4.out.below b'); clear r_X4
    have bx5 := Lib.hid (blk_below b' bx4.out); clear bx4
    have B5 := Lib.hid (B4.out.tr b'); clear B4
    clear b'
    have o_O25 := Lib.hid ((RdR.of_own ho).1)
    have s_O2 := Lib.hid (SlR.of_own ho); clear ho
    go_wp2_with fail
    refine (HF2.out O2 o2 _ (o_O25.out.below (by first | exact Below.refl _ _ | exact below_new _ _)) s_O2.out).mono ?_; rintro e w6 ⟨Y, y, rfl, hR, hs', ht', b⟩
    have b' : Below w5.heap.size w5 w6 := Below.tr (by first | exact Below.refl _ _ | exact below_new _ _) b
    clear b
    have ra6 := Lib.hid (ra5.out.below b'); clear ra5
    have rb6 := Lib.hid (rb5.out.below b'); clear rb5
    have r_X6 := Lib.hid (r_X5.out.below b'); clear r_X5
    have o_O26 := Lib.hid (o_O25.out.below b'); clear o_O25
    have bx6 := Lib.hid (blk_below b' bx5.out); clear bx5
    have B6 := Lib.hid (B5.out.tr b'); clear B5
    clear b'
    have r_Y6 := Lib.hid hR; clear hR
    clear hs' ht'
    clear o_O26
    go_wp2_with fail
    have ra7 := Lib.hid (ra6.out.below (below_new w6 (.cells #[.slice Y (([] : List Rg)).length y] 26))); clear ra6
    have rb7 := Lib.hid (rb6.out.below (below_new w6 (.cells #[.slice Y (([] : List Rg)).length y] 26))); clear rb6
    have r_X7 := Lib.hid (r_X6.out.below (below_new w6 (.cells #[.slice Y (([] : List Rg)).length y] 26))); clear r_X6
    have r_Y7 := Lib.hid (r_Y6.out.below (below_new w6 (.cells #[.slice Y (([] : List Rg)).length y] 26))); clear r_Y6
    have bx7 := Lib.hid (blk_below (below_new w6 (.cells #[.slice Y (([] : List Rg)).length y] 26)) bx6.out); clear bx6
    have B7 := Lib.hid (B6.out.tr (below_new w6 (.cells #[.slice Y (([] : List Rg)).length y] 26))); clear B6
    have by_7 := Lib.hid (blk_new w6 (.cells #[.slice Y (([] : List Rg)).length y] 26))
    go_ret
    exact ⟨rfl, (B7.out.tr (by first | exact Below.refl _ _ | exact below_new _ _))⟩
  have HF2 := Lib.hid (fun O o W (h : RdR W O b) (h2 : SlR O o b.length) => fromR_yes eb (by omega) O o W h h2)
  have lT := fromS_length b
  clear ea eb
  generalize fromS a = S at *
  generalize fromS b = T at *
  have spO := orS_spec (okset_le okS) (okset_le okT)
  have spM := minusS_spec okS okT
  have spA := andS_spec S T
  have okO := orS_ok okS okT
  have okM := minusS_ok okS okT
  have okA : Okset (andS S T) := okset_of spA.1 fun m hm => okS.rng (by rw [spA.2] at hm; simp at hm; exact hm.1)
  have lO := orS_length S T
  have lM := minusS_len okS okT
  have lA := and_len spA.1 spA.2
  have HU1 := Lib.hid (fun X x Y y W (h1 : RdR W X S) (h2 : RdR W Y T) => union_any X Y x y S T W h1 h2 okS okT (by omega))
  have HU2 := Lib.hid (fun X x Y y W (h1 : RdR W X S) (h2 : RdR W Y T) => inter_any X Y x y S T W h1 h2 okS okT (by omega))
  have HU3 := Lib.hid (fun X x Y y W (h1 : RdR W X S) (h2 : RdR W Y T) => diff_any X Y x y S T W h1 h2 okS okT (by omega))
  have HU4 := Lib.hid (fun X x Y y W (h1 : RdR W X (minusS S T)) (h2 : RdR W Y (andS S T)) => union_any X Y x y (minusS S T) (andS S T) W h1 h2 okM okA (by omega))
  have HU5 := Lib.hid (fun X x Y y W (h1 : RdR W X T) (h2 : RdR W Y S) => union_any X Y x y T S W h1 h2 okT okS (by omega))
  rw [minus_and okS okT okM okA spM.2 spA.2] at HU4
  rw [orS_comm okS okT] at HU5
  have hct := count_or_and okS okT okO okA spO.2 spA.2
  have q1 := count_rng60 okO (by omega)
  have q2 := count_rng60 okA (by omega)
  have q3 := count_rng60 okS (by omega)
  have q4 := count_rng60 okT (by omega)
  have HC1 := Lib.hid (fun X x W (h : RdR W X (orS S T)) => count_any X x (orS S T) W h okO.2 (by omega))
  have HC2 := Lib.hid (fun X x W (h : RdR W X (andS S T)) => count_any X x (andS S T) W h okA.2 (by omega))
  have HC3 := Lib.hid (fun X x W (h : RdR W X S) => count_any X x S W h okS.2 (by omega))
  have HC4 := Lib.hid (fun X x W (h : RdR W X T) => count_any X x T W h okT.2 (by omega))
  have HE1 := Lib.hid (fun X Y x y W (h1 : RdR W X S) (h2 : RdR W Y S) => equalSets_any X Y x y S S W h1 h2 (by omega) (by omega))
  have HE2 := Lib.hid (fun X Y x y W (h1 : RdR W X (orS S T)) (h2 : RdR W Y (orS S T)) => equalSets_any X Y x y (orS S T) (orS S T) W h1 h2 (by omega) (by omega))
  rw [decide_eq_true rfl] at HE1 HE2
  have HH1 := Lib.hid (fun X x W (h : RdR W X (orS S T)) => has_any X x (orS S T) n W h okO.1 (by omega))
  have HH2 := Lib.hid (fun X x W (h : RdR W X (andS S T)) => has_any X x (andS S T) n W h okA.1 (by omega))
  have HH3 := Lib.hid (fun X x W (h : RdR W X (minusS S T)) => has_any X x (minusS S T) n W h okM.1 (by omega))
  have HH4 := Lib.hid (fun X x W (h : RdR W X S) => has_any X x S n W h okS.1 (by omega))
  have HH5 := Lib.hid (fun X x W (h : RdR W X T) => has_any X x T n W h okT.1 (by omega))
  rw [spO.2] at HH1
  rw [spA.2] at HH2
  rw [spM.2] at HH3
  have hqc : (count (orS S T) + count (andS S T) == count S + count T) = true := by rw [hct]; simp
  clear spO spM spA okO okM okA lO lM lA okS okT hct lS lT
  generalize orS S T = OR at *
  generalize andS S T = AND at *
  generalize minusS S T = MIN at *
  generalize count OR = k1 at *
  generalize count AND = k2 at *
  generalize count S = k3 at *
  generalize count T = k4 at *
  have HQC := Lib.hid hqc
  clear hqc
  obtain ⟨q1, q1'⟩ := q1
  obtain ⟨q2, q2'⟩ := q2
  obtain ⟨q3, q3'⟩ := q3
  obtain ⟨q4, q4'⟩ := q4
  generalize has S n = sn at *
  generalize has T n = tn at *
  cases sn
  all_goals cases tn
  all_goals simp only [Bool.or_true, Bool.or_false, Bool.and_true, Bool.and_false, Bool.not_true, Bool.not_false] at HH1 HH2 HH3
  · go_enter Tryz.func6, Tryz.ntmps6
    go_wp2_with fail
    refine (HK.out _ (by first | exact Below.refl _ _ | exact below_new _ _)).mono ?_; rintro e w1 ⟨rfl, b⟩
    have b' : Below w.heap.size w w1 := Below.tr (by first | exact Below.refl _ _ | exact below_new _ _) b
    clear b
    have ra1 := Lib.hid (RA.out.below b'); clear RA
    have rb1 := Lib.hid (RB.out.below b'); clear RB
    have B1 := Lib.hid b'
    clear b'
    go_wp2_with fail
    refine (HO1.out _ (ra1.out.below (by first | exact Below.refl _ _ | exact below_new _ _))).mono ?_; rintro e w2 ⟨O1, o1, rfl, ho, b⟩
    have b' : Below w1.heap.size w1 w2 := Below.tr (by first | exact Below.refl _ _ | exact below_new _ _) b
    clear b
    have ra2 := Lib.hid (ra1.out.below b'); clear ra1
    have rb2 := Lib.hid (rb1.out.below b'); clear rb1
    have B2 := Lib.hid (B1.out.tr b'); clear B1
    clear b'
    have o_O12 := Lib.hid ((RdR.of_own ho).1)
    have s_O1 := Lib.hid (SlR.of_own ho); clear ho
    go_wp2_with fail
    refine (HF1.out O1 o1 _ (o_O12.out.below (by first | exact Below.refl _ _ | exact below_new _ _)) s_O1.out).mono ?_; rintro e w3 ⟨X, x, rfl, hR, hs', ht', b⟩
    have b' : Below w2.heap.size w2 w3 := Below.tr (by first | exact Below.refl _ _ | exact below_new _ _) b
    clear b
    have ra3 := Lib.hid (ra2.out.below b'); clear ra2
    have rb3 := Lib.hid (rb2.out.below b'); clear rb2
    have o_O13 := Lib.hid (o_O12.out.below b'); clear o_O12
    have B3 := Lib.hid (B2.out.tr b'); clear B2
    clear b'
    have r_X3 := Lib.hid hR; clear hR
    clear hs' ht'
    clear o_O13
    go_wp2_with fail
    have ra4 := Lib.hid (ra3.out.below (below_new w3 (.cells #[.slice X S.length x] 26))); clear ra3
    have rb4 := Lib.hid (rb3.out.below (below_new w3 (.cells #[.slice X S.length x] 26))); clear rb3
    have r_X4 := Lib.hid (r_X3.out.below (below_new w3 (.cells #[.slice X S.length x] 26))); clear r_X3
    have B4 := Lib.hid (B3.out.tr (below_new w3 (.cells #[.slice X S.length x] 26))); clear B3
    have bx4 := Lib.hid (blk_new w3 (.cells #[.slice X S.length x] 26))
    refine (HO2.out _ (rb4.out.below (by first | exact Below.refl _ _ | exact below_new _ _))).mono ?_; rintro e w5 ⟨O2, o2, rfl, ho, b⟩
    have b' : Below (w3.alloc (.cells #[.slice X S.length x] 26)).heap.size (w3.alloc (.cells #[.slice X S.length x] 26)) w5 := Below.tr (by first | exact Below.refl _ _ | exact below_new _ _) b
    clear b
    have ra5 := Lib.hid (ra4.out.below b'); clear ra4
    have rb5 := Lib.hid (rb4.out.below b'); clear rb4
    have r_X5 := Lib.hid (r_X4.out.below b'); clear r_X4
    have bx5 := Lib.hid (blk_below b' bx4.out); clear bx4
    have B5 := Lib.hid (B4.out.tr b'); clear B4
    clear b'
    have o_O25 := Lib.hid ((RdR.of_own ho).1)
    have s_O2 := Lib.hid (SlR.of_own ho); clear ho
    go_wp2_with fail
    refine (HF2.out O2 o2 _ (o_O25.out.below (by first | exact Below.refl _ _ | exact below_new _ _)) s_O2.out).mono ?_; rintro e w6 ⟨Y, y, rfl, hR, hs', ht', b⟩
    have b' : Below w5.heap.size w5 w6 := Below.tr (by first | exact Below.refl _ _ | exact below_new _ _) b
    clear b
    have ra6 := Lib.hid (ra5.out.below b'); clear ra5
    have rb6 := Lib.hid (rb5.out.below b'); clear rb5
    have r_X6 := Lib.hid (r_X5.out.below b'); clear r_X5
    have o_O26 := Lib.hid (o_O25.out.below b'); clear o_O25
    have bx6 := Lib.hid (blk_below b' bx5.out); clear bx5
    have B6 := Lib.hid (B5.out.tr b'); clear B5
    clear b'
    have r_Y6 := Lib.hid hR; clear hR
    clear hs' ht'
    clear o_O26
    have cbx := blk_cell bx6.out 0
    have pbx := blk_lt bx6.out
    go_wp2_with fail
    clear cbx pbx
    have ra7 := Lib.hid (ra6.out.below (below_new w6 (.cells #[.slice Y T.length y] 26))); clear ra6
    have rb7 := Lib.hid (rb6.out.below (below_new w6 (.cells #[.slice Y T.length y] 26))); clear rb6
    have r_X7 := Lib.hid (r_X6.out.below (below_new w6 (.cells #[.slice Y T.length y] 26))); clear r_X6
    have r_Y7 := Lib.hid (r_Y6.out.below (below_new w6 (.cells #[.slice Y T.length y] 26))); clear r_Y6
    have bx7 := Lib.hid (blk_below (below_new w6 (.cells #[.slice Y T.length y] 26)) bx6.out); clear bx6
    have B7 := Lib.hid (B6.out.tr (below_new w6 (.cells #[.slice Y T.length y] 26))); clear B6
    have by_7 := Lib.hid (blk_new w6 (.cells #[.slice Y T.length y] 26))
    refine (HU1.out X x Y y _ (r_X7.out.below (by first | exact Below.refl _ _ | exact below_new _ _)) (r_Y7.out.below (by first | exact Below.refl _ _ | exact below_new _ _))).mono ?_; rintro e w8 ⟨P, p, rfl, hR, hs', ht', b⟩
    have b' : Below (w6.alloc (.cells #[.slice Y T.length y] 26)).heap.size (w6.alloc (.cells #[.slice Y T.length y] 26)) w8 := Below.tr (by first | exact Below.refl _ _ | exact below_new _ _) b
    clear b
    have ra8 := Lib.hid (ra7.out.below b'); clear ra7
    have rb8 := Lib.hid (rb7.out.below b'); clear rb7
    have r_X8 := Lib.hid (r_X7.out.below b'); clear r_X7
    have r_Y8 := Lib.hid (r_Y7.out.below b'); clear r_Y7
    have bx8 := Lib.hid (blk_below b' bx7.out); clear bx7
    have by_8 := Lib.hid (blk_below b' by_7.out); clear by_7
    have B8 := Lib.hid (B7.out.tr b'); clear B7
    clear b'
    have r_P8 := Lib.hid hR; clear hR
    clear hs' ht'
    have cbx := blk_cell bx8.out 0
    have pbx := blk_lt bx8.out
    have cby_ := blk_cell by_8.out 0
    have pby_ := blk_lt by_8.out
    go_wp2_with fail
    clear cbx pbx cby_ pby_
    have ra9 := Lib.hid (ra8.out.below (below_new w8 (.cells #[.slice P OR.length p] 26))); clear ra8
    have rb9 := Lib.hid (rb8.out.below (below_new w8 (.cells #[.slice P OR.length p] 26))); clear rb8
    have r_X9 := Lib.hid (r_X8.out.below (below_new w8 (.cells #[.slice P OR.length p] 26))); clear r_X8
    have r_Y9 := Lib.hid (r_Y8.out.below (below_new w8 (.cells #[.slice P OR.length p] 26))); clear r_Y8
    have r_P9 := Lib.hid (r_P8.out.below (below_new w8 (.cells #[.slice P OR.length p] 26))); clear r_P8
    have bx9 := Lib.hid (blk_below (below_new w8 (.cells #[.slice P OR.length p] 26)) bx8.out); clear bx8
    have by_9 := Lib.hid (blk_below (below_new w8 (.cells #[.slice P OR.length p] 26)) by_8.out); clear by_8
    have B9 := Lib.hid (B8.out.tr (below_new w8 (.cells #[.slice P OR.length p] 26))); clear B8
    have bp9 := Lib.hid (blk_new w8 (.cells #[.slice P OR.length p] 26))
    refine (HU2.out X x Y y _ (r_X9.out.below (by first | exact Below.refl _ _ | exact below_new _ _)) (r_Y9.out.below (by first | exact Below.refl _ _ | exact below_new _ _))).mono ?_; rintro e w10 ⟨Q, q, rfl, hR, hs', ht', b⟩
    have b' : Below (w8.alloc (.cells #[.slice P OR.length p] 26)).heap.size (w8.alloc (.cells #[.slice P OR.length p] 26)) w10 := Below.tr (by first | exact Below.refl _ _ | exact below_new _ _) b
    clear b
    have ra10 := Lib.hid (ra9.out.below b'); clear ra9
    have rb10 := Lib.hid (rb9.out.below b'); clear rb9
    have r_X10 := Lib.hid (r_X9.out.below b'); clear r_X9
    have r_Y10 := Lib.hid (r_Y9.out.below b'); clear r_Y9
    have r_P10 := Lib.hid (r_P9.out.below b'); clear r_P9
    have bx10 := Lib.hid (blk_below b' bx9.out); clear bx9
    have by_10 := Lib.hid (blk_below b' by_9.out); clear by_9
    have bp10 := Lib.hid (blk_below b' bp9.out); clear bp9
    have B10 := Lib.hid (B9.out.tr b'); clear B9
    clear b'
    have r_Q10 := Lib.hid hR; clear hR
    clear hs' ht'
    have cbx := blk_cell bx10.out 0
    have pbx := blk_lt bx10.out
    have cby_ := blk_cell by_10.out 0
    have pby_ := blk_lt by_10.out
    go_wp2_with fail
    clear cbx pbx cby_ pby_
    have ra11 := Lib.hid (ra10.out.below (below_new w10 (.cells #[.slice Q AND.length q] 26))); clear ra10
    have rb11 := Lib.hid (rb10.out.below (below_new w10 (.cells #[.slice Q AND.length q] 26))); clear rb10
    have r_X11 := Lib.hid (r_X10.out.below (below_new w10 (.cells #[.slice Q AND.length q] 26))); clear r_X10
    have r_Y11 := Lib.hid (r_Y10.out.below (below_new w10 (.cells #[.slice Q AND.length q] 26))); clear r_Y10
    have r_P11 := Lib.hid (r_P10.out.below (below_new w10 (.cells #[.slice Q AND.length q] 26))); clear r_P10
    have r_Q11 := Lib.hid (r_Q10.out.below (below_new w10 (.cells #[.slice Q AND.length q] 26))); clear r_Q10
    have bx11 := Lib.hid (blk_below (below_new w10 (.cells #[.slice Q AND.length q] 26)) bx10.out); clear bx10
    have by_11 := Lib.hid (blk_below (below_new w10 (.cells #[.slice Q AND.length q] 26)) by_10.out); clear by_10
    have bp11 := Lib.hid (blk_below (below_new w10 (.cells #[.slice Q AND.length q] 26)) bp10.out); clear bp10
    have B11 := Lib.hid (B10.out.tr (below_new w10 (.cells #[.slice Q AND.length q] 26))); clear B10
    have bq11 := Lib.hid (blk_new w10 (.cells #[.slice Q AND.length q] 26))
    refine (HU3.out X x Y y _ (r_X11.out.below (by first | exact Below.refl _ _ | exact below_new _ _)) (r_Y11.out.below (by first | exact Below.refl _ _ | exact below_new _ _))).mono ?_; rintro e w12 ⟨M, m, rfl, hR, hs', ht', b⟩
    have b' : Below (w10.alloc (.cells #[.slice Q AND.length q] 26)).heap.size (w10.alloc (.cells #[.slice Q AND.length q] 26)) w12 := Below.tr (by first | exact Below.refl _ _ | exact below_new _ _) b
    clear b
    have ra12 := Lib.hid (ra11.out.below b'); clear ra11
    have rb12 := Lib.hid (rb11.out.below b'); clear rb11
    have r_X12 := Lib.hid (r_X11.out.below b'); clear r_X11
    have r_Y12 := Lib.hid (r_Y11.out.below b'); clear r_Y11
    have r_P12 := Lib.hid (r_P11.out.below b'); clear r_P11
    have r_Q12 := Lib.hid (r_Q11.out.below b'); clear r_Q11
    have bx12 := Lib.hid (blk_below b' bx11.out); clear bx11
    have by_12 := Lib.hid (blk_below b' by_11.out); clear by_11
    have bp12 := Lib.hid (blk_below b' bp11.out); clear bp11
    have bq12 := Lib.hid (blk_below b' bq11.out); clear bq11
    have B12 := Lib.hid (B11.out.tr b'); clear B11
    clear b'
    have r_M12 := Lib.hid hR; clear hR
    clear hs' ht'
    have cbq := blk_cell bq12.out 0
    have pbq := blk_lt bq12.out
    go_wp2_with fail
    clear cbq pbq
    have ra13 := Lib.hid (ra12.out.below (below_new w12 (.cells #[.slice M MIN.length m] 26))); clear ra12
    have rb13 := Lib.hid (rb12.out.below (below_new w12 (.cells #[.slice M MIN.length m] 26))); clear rb12
    have r_X13 := Lib.hid (r_X12.out.below (below_new w12 (.cells #[.slice M MIN.length m] 26))); clear r_X12
    have r_Y13 := Lib.hid (r_Y12.out.below (below_new w12 (.cells #[.slice M MIN.length m] 26))); clear r_Y12
    have r_P13 := Lib.hid (r_P12.out.below (below_new w12 (.cells #[.slice M MIN.length m] 26))); clear r_P12
    have r_Q13 := Lib.hid (r_Q12.out.below (below_new w12 (.cells #[.slice M MIN.length m] 26))); clear r_Q12
    have r_M13 := Lib.hid (r_M12.out.below (below_new w12 (.cells #[.slice M MIN.length m] 26))); clear r_M12
    have bx13 := Lib.hid (blk_below (below_new w12 (.cells #[.slice M MIN.length m] 26)) bx12.out); clear bx12
    have by_13 := Lib.hid (blk_below (below_new w12 (.cells #[.slice M MIN.length m] 26)) by_12.out); clear by_12
    have bp13 := Lib.hid (blk_below (below_new w12 (.cells #[.slice M MIN.length m] 26)) bp12.out); clear bp12
    have bq13 := Lib.hid (blk_below (below_new w12 (.cells #[.slice M MIN.length m] 26)) bq12.out); clear bq12
    have B13 := Lib.hid (B12.out.tr (below_new w12 (.cells #[.slice M MIN.length m] 26))); clear B12
    have bm13 := Lib.hid (blk_new w12 (.cells #[.slice M MIN.length m] 26))
    refine (HU4.out M m Q q _ (r_M13.out.below (by first | exact Below.refl _ _ | exact below_new _ _)) (r_Q13.out.below (by first | exact Below.refl _ _ | exact below_new _ _))).mono ?_; rintro e w14 ⟨G, g, rfl, hR, hs', ht', b⟩
    have b' : Below (w12.alloc (.cells #[.slice M MIN.length m] 26)).heap.size (w12.alloc (.cells #[.slice M MIN.length m] 26)) w14 := Below.tr (by first | exact Below.refl _ _ | exact below_new _ _) b
    clear b
    have ra14 := Lib.hid (ra13.out.below b'); clear ra13
    have rb14 := Lib.hid (rb13.out.below b'); clear rb13
    have r_X14 := Lib.hid (r_X13.out.below b'); clear r_X13
    have r_Y14 := Lib.hid (r_Y13.out.below b'); clear r_Y13
    have r_P14 := Lib.hid (r_P13.out.below b'); clear r_P13
    have r_Q14 := Lib.hid (r_Q13.out.below b'); clear r_Q13
    have r_M14 := Lib.hid (r_M13.out.below b'); clear r_M13
    have bx14 := Lib.hid (blk_below b' bx13.out); clear bx13
    have by_14 := Lib.hid (blk_below b' by_13.out); clear by_13
    have bp14 := Lib.hid (blk_below b' bp13.out); clear bp13
    have bq14 := Lib.hid (blk_below b' bq13.out); clear bq13
    have bm14 := Lib.hid (blk_below b' bm13.out); clear bm13
    have B14 := Lib.hid (B13.out.tr b'); clear B13
    clear b'
    have r_G14 := Lib.hid hR; clear hR
    clear hs' ht'
    have cby_ := blk_cell by_14.out 0
    have pby_ := blk_lt by_14.out
    have cbx := blk_cell bx14.out 0
    have pbx := blk_lt bx14.out
    go_wp2_with fail
    clear cby_ pby_ cbx pbx
    have ra15 := Lib.hid (ra14.out.below (below_new w14 (.cells #[.slice G S.length g] 26))); clear ra14
    have rb15 := Lib.hid (rb14.out.below (below_new w14 (.cells #[.slice G S.length g] 26))); clear rb14
    have r_X15 := Lib.hid (r_X14.out.below (below_new w14 (.cells #[.slice G S.length g] 26))); clear r_X14
    have r_Y15 := Lib.hid (r_Y14.out.below (below_new w14 (.cells #[.slice G S.length g] 26))); clear r_Y14
    have r_P15 := Lib.hid (r_P14.out.below (below_new w14 (.cells #[.slice G S.length g] 26))); clear r_P14
    have r_Q15 := Lib.hid (r_Q14.out.below (below_new w14 (.cells #[.slice G S.length g] 26))); clear r_Q14
    have r_M15 := Lib.hid (r_M14.out.below (below_new w14 (.cells #[.slice G S.length g] 26))); clear r_M14
    have r_G15 := Lib.hid (r_G14.out.below (below_new w14 (.cells #[.slice G S.length g] 26))); clear r_G14
    have bx15 := Lib.hid (blk_below (below_new w14 (.cells #[.slice G S.length g] 26)) bx14.out); clear bx14
    have by_15 := Lib.hid (blk_below (below_new w14 (.cells #[.slice G S.length g] 26)) by_14.out); clear by_14
    have bp15 := Lib.hid (blk_below (below_new w14 (.cells #[.slice G S.length g] 26)) bp14.out); clear bp14
    have bq15 := Lib.hid (blk_below (below_new w14 (.cells #[.slice G S.length g] 26)) bq14.out); clear bq14
    have bm15 := Lib.hid (blk_below (below_new w14 (.cells #[.slice G S.length g] 26)) bm14.out); clear bm14
    have B15 := Lib.hid (B14.out.tr (below_new w14 (.cells #[.slice G S.length g] 26))); clear B14
    have bg15 := Lib.hid (blk_new w14 (.cells #[.slice G S.length g] 26))
    refine (HU5.out Y y X x _ (r_Y15.out.below (by first | exact Below.refl _ _ | exact below_new _ _)) (r_X15.out.below (by first | exact Below.refl _ _ | exact below_new _ _))).mono ?_; rintro e w16 ⟨K, kk, rfl, hR, hs', ht', b⟩
    have b' : Below (w14.alloc (.cells #[.slice G S.length g] 26)).heap.size (w14.alloc (.cells #[.slice G S.length g] 26)) w16 := Below.tr (by first | exact Below.refl _ _ | exact below_new _ _) b
    clear b
    have ra16 := Lib.hid (ra15.out.below b'); clear ra15
    have rb16 := Lib.hid (rb15.out.below b'); clear rb15
    have r_X16 := Lib.hid (r_X15.out.below b'); clear r_X15
    have r_Y16 := Lib.hid (r_Y15.out.below b'); clear r_Y15
    have r_P16 := Lib.hid (r_P15.out.below b'); clear r_P15
    have r_Q16 := Lib.hid (r_Q15.out.below b'); clear r_Q15
    have r_M16 := Lib.hid (r_M15.out.below b'); clear r_M15
    have r_G16 := Lib.hid (r_G15.out.below b'); clear r_G15
    have bx16 := Lib.hid (blk_below b' bx15.out); clear bx15
    have by_16 := Lib.hid (blk_below b' by_15.out); clear by_15
    have bp16 := Lib.hid (blk_below b' bp15.out); clear bp15
    have bq16 := Lib.hid (blk_below b' bq15.out); clear bq15
    have bm16 := Lib.hid (blk_below b' bm15.out); clear bm15
    have bg16 := Lib.hid (blk_below b' bg15.out); clear bg15
    have B16 := Lib.hid (B15.out.tr b'); clear B15
    clear b'
    have r_K16 := Lib.hid hR; clear hR
    clear hs' ht'
    go_wp2_with fail
    have ra17 := Lib.hid (ra16.out.below (below_new w16 (.cells #[.slice K OR.length kk] 26))); clear ra16
    have rb17 := Lib.hid (rb16.out.below (below_new w16 (.cells #[.slice K OR.length kk] 26))); clear rb16
    have r_X17 := Lib.hid (r_X16.out.below (below_new w16 (.cells #[.slice K OR.length kk] 26))); clear r_X16
    have r_Y17 := Lib.hid (r_Y16.out.below (below_new w16 (.cells #[.slice K OR.length kk] 26))); clear r_Y16
    have r_P17 := Lib.hid (r_P16.out.below (below_new w16 (.cells #[.slice K OR.length kk] 26))); clear r_P16
    have r_Q17 := Lib.hid (r_Q16.out.below (below_new w16 (.cells #[.slice K OR.length kk] 26))); clear r_Q16
    have r_M17 := Lib.hid (r_M16.out.below (below_new w16 (.cells #[.slice K OR.length kk] 26))); clear r_M16
    have r_G17 := Lib.hid (r_G16.out.below (below_new w16 (.cells #[.slice K OR.length kk] 26))); clear r_G16
    have r_K17 := Lib.hid (r_K16.out.below (below_new w16 (.cells #[.slice K OR.length kk] 26))); clear r_K16
    have bx17 := Lib.hid (blk_below (below_new w16 (.cells #[.slice K OR.length kk] 26)) bx16.out); clear bx16
    have by_17 := Lib.hid (blk_below (below_new w16 (.cells #[.slice K OR.length kk] 26)) by_16.out); clear by_16
    have bp17 := Lib.hid (blk_below (below_new w16 (.cells #[.slice K OR.length kk] 26)) bp16.out); clear bp16
    have bq17 := Lib.hid (blk_below (below_new w16 (.cells #[.slice K OR.length kk] 26)) bq16.out); clear bq16
    have bm17 := Lib.hid (blk_below (below_new w16 (.cells #[.slice K OR.length kk] 26)) bm16.out); clear bm16
    have bg17 := Lib.hid (blk_below (below_new w16 (.cells #[.slice K OR.length kk] 26)) bg16.out); clear bg16
    have B17 := Lib.hid (B16.out.tr (below_new w16 (.cells #[.slice K OR.length kk] 26))); clear B16
    have bk17 := Lib.hid (blk_new w16 (.cells #[.slice K OR.length kk] 26))
    have hqc := HQC.out
    dsimp only [List.append]
    refine Flow.wp_region_segs Flow.Later Flow.Later.refl Flow.Later.trans [([0, 1, 3, 4], 2), ([], 5), ([6, 7, 8], 9), ([10, 11, 12, 13, 14, 16, 17], 15), ([], 18), ([19, 20, 21], 22), ([23, 24, 25, 26, 27, 28, 30, 31], 29), ([], 32), ([33, 34, 35], 36), ([37, 38, 39, 40, 41, 42, 43], 44), ([45, 46, 47, 48], 49), ([50, 51, 52, 54, 57, 59], 53), ([], 55), ([56], 58), ([], 60)] [61, 62, 63, 64] (by kernel_rfl) (by kernel_rfl) ?_
    have b' : Below (w16.alloc (.cells #[.slice K OR.length kk] 26)).heap.size (w16.alloc (.cells #[.slice K OR.length kk] 26)) (World.drew (w16.alloc (.cells #[.slice K OR.length kk] 26))) := (Below.refl _ _).drew
    have ra18 := Lib.hid (ra17.out.below b'); clear ra17
    have rb18 := Lib.hid (rb17.out.below b'); clear rb17
    have r_X18 := Lib.hid (r_X17.out.below b'); clear r_X17
    have r_Y18 := Lib.hid (r_Y17.out.below b'); clear r_Y17
    have r_P18 := Lib.hid (r_P17.out.below b'); clear r_P17
    have r_Q18 := Lib.hid (r_Q17.out.below b'); clear r_Q17
    have r_M18 := Lib.hid (r_M17.out.below b'); clear r_M17
    have r_G18 := Lib.hid (r_G17.out.below b'); clear r_G17
    have r_K18 := Lib.hid (r_K17.out.below b'); clear r_K17
    have bx18 := Lib.hid (blk_below b' bx17.out); clear bx17
    have by_18 := Lib.hid (blk_below b' by_17.out); clear by_17
    have bp18 := Lib.hid (blk_below b' bp17.out); clear bp17
    have bq18 := Lib.hid (blk_below b' bq17.out); clear bq17
    have bm18 := Lib.hid (blk_below b' bm17.out); clear bm17
    have bg18 := Lib.hid (blk_below b' bg17.out); clear bg17
    have bk18 := Lib.hid (blk_below b' bk17.out); clear bk17
    have B18 := Lib.hid (B17.out.tr b'); clear B17
    clear b'
    generalize World.drew _ = w18 at *
    have cbp := blk_cell bp18.out 0
    have qbp : ∀ t : Flow.Cls (Flow.Later w18), t.val.cell? _ = some (.slice P OR.length p) := fun t => Flow.cls_cell cbp t
    have cbx := blk_cell bx18.out 0
    have qbx : ∀ t : Flow.Cls (Flow.Later w18), t.val.cell? _ = some (.slice X S.length x) := fun t => Flow.cls_cell cbx t
    haveI nonE := Flow.cls_nonempty w18
    rw [Flow.wpSegs_cons]
    simp only [Flow.pick, List.getElem?_toArray, List.getElem?_cons_succ, List.getElem?_cons_zero]
    repeat go_big_quiet_step (fail)
    refine wpQuiet_nil ?_
    clear nonE qbp cbp qbx cbx
    rw [Flow.callAt_eq]
    simp only [List.getElem?_toArray, List.getElem?_cons_succ, List.getElem?_cons_zero]
    rw [if_pos (by rfl)]
    refine Flow.wp_behind (fun K0 hK => ?_)
    go_wp2_with fail
    refine (HH1.out P p _ (r_P18.out.below (by first | exact Below.refl _ _ | exact below_new _ _))).mono ?_; rintro e w19 ⟨rfl, b⟩
    have b' : Below w18.heap.size w18 w19 := Below.tr (by first | exact Below.refl _ _ | exact below_new _ _) b
    clear b
    refine hK.out _ _ ⟨b', ?_⟩
    clear hK K0
    have ra19 := Lib.hid (ra18.out.below b'); clear ra18
    have rb19 := Lib.hid (rb18.out.below b'); clear rb18
    have r_X19 := Lib.hid (r_X18.out.below b'); clear r_X18
    have r_Y19 := Lib.hid (r_Y18.out.below b'); clear r_Y18
    have r_P19 := Lib.hid (r_P18.out.below b'); clear r_P18
    have r_Q19 := Lib.hid (r_Q18.out.below b'); clear r_Q18
    have r_M19 := Lib.hid (r_M18.out.below b'); clear r_M18
    have r_G19 := Lib.hid (r_G18.out.below b'); clear r_G18
    have r_K19 := Lib.hid (r_K18.out.below b'); clear r_K18
    have bx19 := Lib.hid (blk_below b' bx18.out); clear bx18
    have by_19 := Lib.hid (blk_below b' by_18.out); clear by_18
    have bp19 := Lib.hid (blk_below b' bp18.out); clear bp18
    have bq19 := Lib.hid (blk_below b' bq18.out); clear bq18
    have bm19 := Lib.hid (blk_below b' bm18.out); clear bm18
    have bg19 := Lib.hid (blk_below b' bg18.out); clear bg18
    have bk19 := Lib.hid (blk_below b' bk18.out); clear bk18
    have B19 := Lib.hid (B18.out.tr b'); clear B18
    clear b'
    haveI nonE := Flow.cls_nonempty w19
    rw [Flow.wpSegs_cons]
    simp only [Flow.pick]
    refine wpQuiet_nil ?_
    clear nonE 
    rw [Flow.callAt_eq]
    simp only [List.getElem?_toArray, List.getElem?_cons_succ, List.getElem?_cons_zero]
    rw [if_pos (by rfl)]
    refine Flow.wp_behind (fun K0 hK => ?_)
    go_wp2_with fail
    refine (HH4.out X x _ (r_X19.out.below (by first | exact Below.refl _ _ | exact below_new _ _))).mono ?_; rintro e w20 ⟨rfl, b⟩
    have b' : Below w19.heap.size w19 w20 := Below.tr (by first | exact Below.refl _ _ | exact below_new _ _) b
    clear b
    refine hK.out _ _ ⟨b', ?_⟩
    clear hK K0
    have ra20 := Lib.hid (ra19.out.below b'); clear ra19
    have rb20 := Lib.hid (rb19.out.below b'); clear rb19
    have r_X20 := Lib.hid (r_X19.out.below b'); clear r_X19
    have r_Y20 := Lib.hid (r_Y19.out.below b'); clear r_Y19
    have r_P20 := Lib.hid (r_P19.out.below b'); clear r_P19
    have r_Q20 := Lib.hid (r_Q19.out.below b'); clear r_Q19
    have r_M20 := Lib.hid (r_M19.out.below b'); clear r_M19
    have r_G20 := Lib.hid (r_G19.out.below b'); clear r_G19
    have r_K20 := Lib.hid (r_K19.out.below b'); clear r_K19
    have bx20 := Lib.hid (blk_below b' bx19.out); clear bx19
    have by_20 := Lib.hid (blk_below b' by_19.out); clear by_19
    have bp20 := Lib.hid (blk_below b' bp19.out); clear bp19
    have bq20 := Lib.hid (blk_below b' bq19.out); clear bq19
    have bm20 := Lib.hid (blk_below b' bm19.out); clear bm19
    have bg20 := Lib.hid (blk_below b' bg19.out); clear bg19
    have bk20 := Lib.hid (blk_below b' bk19.out); clear bk19
    have B20 := Lib.hid (B19.out.tr b'); clear B19
    clear b'
    have cby_ := blk_cell by_20.out 0
    have qby_ : ∀ t : Flow.Cls (Flow.Later w20), t.val.cell? _ = some (.slice Y T.length y) := fun t => Flow.cls_cell cby_ t
    haveI nonE := Flow.cls_nonempty w20
    rw [Flow.wpSegs_cons]
    simp only [Flow.pick, List.getElem?_toArray, List.getElem?_cons_succ, List.getElem?_cons_zero]
    repeat go_big_quiet_step (fail)
    refine wpQuiet_nil ?_
    clear nonE qby_ cby_
    rw [Flow.callAt_eq]
    simp only [List.getElem?_toArray, List.getElem?_cons_succ, List.getElem?_cons_zero]
    rw [if_pos (by rfl)]
    refine Flow.wp_behind (fun K0 hK => ?_)
    go_wp2_with fail
    refine (HH5.out Y y _ (r_Y20.out.below (by first | exact Below.refl _ _ | exact below_new _ _))).mono ?_; rintro e w21 ⟨rfl, b⟩
    have b' : Below w20.heap.size w20 w21 := Below.tr (by first | exact Below.refl _ _ | exact below_new _ _) b
    clear b
    refine hK.out _ _ ⟨b', ?_⟩
    clear hK K0
    have ra21 := Lib.hid (ra20.out.below b'); clear ra20
    have rb21 := Lib.hid (rb20.out.below b'); clear rb20
    have r_X21 := Lib.hid (r_X20.out.below b'); clear r_X20
    have r_Y21 := Lib.hid (r_Y20.out.below b'); clear r_Y20
    have r_P21 := Lib.hid (r_P20.out.below b'); clear r_P20
    have r_Q21 := Lib.hid (r_Q20.out.below b'); clear r_Q20
    have r_M21 := Lib.hid (r_M20.out.below b'); clear r_M20
    have r_G21 := Lib.hid (r_G20.out.below b'); clear r_G20
    have r_K21 := Lib.hid (r_K20.out.below b'); clear r_K20
    have bx21 := Lib.hid (blk_below b' bx20.out); clear bx20
    have by_21 := Lib.hid (blk_below b' by_20.out); clear by_20
    have bp21 := Lib.hid (blk_below b' bp20.out); clear bp20
    have bq21 := Lib.hid (blk_below b' bq20.out); clear bq20
    have bm21 := Lib.hid (blk_below b' bm20.out); clear bm20
    have bg21 := Lib.hid (blk_below b' bg20.out); clear bg20
    have bk21 := Lib.hid (blk_below b' bk20.out); clear bk20
    have B21 := Lib.hid (B20.out.tr b'); clear B20
    clear b'
    have cbq := blk_cell bq21.out 0
    have qbq : ∀ t : Flow.Cls (Flow.Later w21), t.val.cell? _ = some (.slice Q AND.length q) := fun t => Flow.cls_cell cbq t
    have cbx := blk_cell bx21.out 0
    have qbx : ∀ t : Flow.Cls (Flow.Later w21), t.val.cell? _ = some (.slice X S.length x) := fun t => Flow.cls_cell cbx t
    haveI nonE := Flow.cls_nonempty w21
    rw [Flow.wpSegs_cons]
    simp only [Flow.pick, List.getElem?_toArray, List.getElem?_cons_succ, List.getElem?_cons_zero]
    repeat go_big_quiet_step (fail)
    refine wpQuiet_nil ?_
    clear nonE qbq cbq qbx cbx
    rw [Flow.callAt_eq]
    simp only [List.getElem?_toArray, List.getElem?_cons_succ, List.getElem?_cons_zero]
    rw [if_pos (by rfl)]
    refine Flow.wp_behind (fun K0 hK => ?_)
    go_wp2_with fail
    refine (HH2.out Q q _ (r_Q21.out.below (by first | exact Below.refl _ _ | exact below_new _ _))).mono ?_; rintro e w22 ⟨rfl, b⟩
    have b' : Below w21.heap.size w21 w22 := Below.tr (by first | exact Below.refl _ _ | exact below_new _ _) b
    clear b
    refine hK.out _ _ ⟨b', ?_⟩
    clear hK K0
    have ra22 := Lib.hid (ra21.out.below b'); clear ra21
    have rb22 := Lib.hid (rb21.out.below b'); clear rb21
    have r_X22 := Lib.hid (r_X21.out.below b'); clear r_X21
    have r_Y22 := Lib.hid (r_Y21.out.below b'); clear r_Y21
    have r_P22 := Lib.hid (r_P21.out.below b'); clear r_P21
    have r_Q22 := Lib.hid (r_Q21.out.below b'); clear r_Q21
    have r_M22 := Lib.hid (r_M21.out.below b'); clear r_M21
    have r_G22 := Lib.hid (r_G21.out.below b'); clear r_G21
    have r_K22 := Lib.hid (r_K21.out.below b'); clear r_K21
    have bx22 := Lib.hid (blk_below b' bx21.out); clear bx21
    have by_22 := Lib.hid (blk_below b' by_21.out); clear by_21
    have bp22 := Lib.hid (blk_below b' bp21.out); clear bp21
    have bq22 := Lib.hid (blk_below b' bq21.out); clear bq21
    have bm22 := Lib.hid (blk_below b' bm21.out); clear bm21
    have bg22 := Lib.hid (blk_below b' bg21.out); clear bg21
    have bk22 := Lib.hid (blk_below b' bk21.out); clear bk21
    have B22 := Lib.hid (B21.out.tr b'); clear B21
    clear b'
    haveI nonE := Flow.cls_nonempty w22
    rw [Flow.wpSegs_cons]
    simp only [Flow.pick]
    refine wpQuiet_nil ?_
    clear nonE 
    rw [Flow.callAt_eq]
    simp only [List.getElem?_toArray, List.getElem?_cons_succ, List.getElem?_cons_zero]
    rw [if_pos (by rfl)]
    refine Flow.wp_behind (fun K0 hK => ?_)
    go_wp2_with fail
    refine (HH4.out X x _ (r_X22.out.below (by first | exact Below.refl _ _ | exact below_new _ _))).mono ?_; rintro e w23 ⟨rfl, b⟩
    have b' : Below w22.heap.size w22 w23 := Below.tr (by first | exact Below.refl _ _ | exact below_new _ _) b
    clear b
    refine hK.out _ _ ⟨b', ?_⟩
    clear hK K0
    have ra23 := Lib.hid (ra22.out.below b'); clear ra22
    have rb23 := Lib.hid (rb22.out.below b'); clear rb22
    have r_X23 := Lib.hid (r_X22.out.below b'); clear r_X22
    have r_Y23 := Lib.hid (r_Y22.out.below b'); clear r_Y22
    have r_P23 := Lib.hid (r_P22.out.below b'); clear r_P22
    have r_Q23 := Lib.hid (r_Q22.out.below b'); clear r_Q22
    have r_M23 := Lib.hid (r_M22.out.below b'); clear r_M22
    have r_G23 := Lib.hid (r_G22.out.below b'); clear r_G22
    have r_K23 := Lib.hid (r_K22.out.below b'); clear r_K22
    have bx23 := Lib.hid (blk_below b' bx22.out); clear bx22
    have by_23 := Lib.hid (blk_below b' by_22.out); clear by_22
    have bp23 := Lib.hid (blk_below b' bp22.out); clear bp22
    have bq23 := Lib.hid (blk_below b' bq22.out); clear bq22
    have bm23 := Lib.hid (blk_below b' bm22.out); clear bm22
    have bg23 := Lib.hid (blk_below b' bg22.out); clear bg22
    have bk23 := Lib.hid (blk_below b' bk22.out); clear bk22
    have B23 := Lib.hid (B22.out.tr b'); clear B22
    clear b'
    have cby_ := blk_cell by_23.out 0
    have qby_ : ∀ t : Flow.Cls (Flow.Later w23), t.val.cell? _ = some (.slice Y T.length y) := fun t => Flow.cls_cell cby_ t
    haveI nonE := Flow.cls_nonempty w23
    rw [Flow.wpSegs_cons]
    simp only [Flow.pick, List.getElem?_toArray, List.getElem?_cons_succ, List.getElem?_cons_zero]
    repeat go_big_quiet_step (fail)
    refine wpQuiet_nil ?_
    clear nonE qby_ cby_
    rw [Flow.callAt_eq]
    simp only [List.getElem?_toArray, List.getElem?_cons_succ, List.getElem?_cons_zero]
    rw [if_neg (by exact Bool.false_ne_true)]
    simp only [Act.put, List.setIfInBounds_toArray, List.set_cons_succ, List.set_cons_zero]
    have cbm := blk_cell bm23.out 0
    have qbm : ∀ t : Flow.Cls (Flow.Later w23), t.val.cell? _ = some (.slice M MIN.length m) := fun t => Flow.cls_cell cbm t
    have cbx := blk_cell bx23.out 0
    have qbx : ∀ t : Flow.Cls (Flow.Later w23), t.val.cell? _ = some (.slice X S.length x) := fun t => Flow.cls_cell cbx t
    haveI nonE := Flow.cls_nonempty w23
    rw [Flow.wpSegs_cons]
    simp only [Flow.pick, List.getElem?_toArray, List.getElem?_cons_succ, List.getElem?_cons_zero]
    repeat go_big_quiet_step (fail)
    refine wpQuiet_nil ?_
    clear nonE qbm cbm qbx cbx
    rw [Flow.callAt_eq]
    simp only [List.getElem?_toArray, List.getElem?_cons_succ, List.getElem?_cons_zero]
    rw [if_pos (by rfl)]
    refine Flow.wp_behind (fun K0 hK => ?_)
    go_wp2_with fail
    refine (HH3.out M m _ (r_M23.out.below (by first | exact Below.refl _ _ | exact below_new _ _))).mono ?_; rintro e w24 ⟨rfl, b⟩
    have b' : Below w23.heap.size w23 w24 := Below.tr (by first | exact Below.refl _ _ | exact below_new _ _) b
    clear b
    refine hK.out _ _ ⟨b', ?_⟩
    clear hK K0
    have ra24 := Lib.hid (ra23.out.below b'); clear ra23
    have rb24 := Lib.hid (rb23.out.below b'); clear rb23
    have r_X24 := Lib.hid (r_X23.out.below b'); clear r_X23
    have r_Y24 := Lib.hid (r_Y23.out.below b'); clear r_Y23
    have r_P24 := Lib.hid (r_P23.out.below b'); clear r_P23
    have r_Q24 := Lib.hid (r_Q23.out.below b'); clear r_Q23
    have r_M24 := Lib.hid (r_M23.out.below b'); clear r_M23
    have r_G24 := Lib.hid (r_G23.out.below b'); clear r_G23
    have r_K24 := Lib.hid (r_K23.out.below b'); clear r_K23
    have bx24 := Lib.hid (blk_below b' bx23.out); clear bx23
    have by_24 := Lib.hid (blk_below b' by_23.out); clear by_23
    have bp24 := Lib.hid (blk_below b' bp23.out); clear bp23
    have bq24 := Lib.hid (blk_below b' bq23.out); clear bq23
    have bm24 := Lib.hid (blk_below b' bm23.out); clear bm23
    have bg24 := Lib.hid (blk_below b' bg23.out); clear bg23
    have bk24 := Lib.hid (blk_below b' bk23.out); clear bk23
    have B24 := Lib.hid (B23.out.tr b'); clear B23
    clear b'
    haveI nonE := Flow.cls_nonempty w24
    rw [Flow.wpSegs_cons]
    simp only [Flow.pick]
    refine wpQuiet_nil ?_
    clear nonE 
    rw [Flow.callAt_eq]
    simp only [List.getElem?_toArray, List.getElem?_cons_succ, List.getElem?_cons_zero]
    rw [if_pos (by rfl)]
    refine Flow.wp_behind (fun K0 hK => ?_)
    go_wp2_with fail
    refine (HH4.out X x _ (r_X24.out.below (by first | exact Below.refl _ _ | exact below_new _ _))).mono ?_; rintro e w25 ⟨rfl, b⟩
    have b' : Below w24.heap.size w24 w25 := Below.tr (by first | exact Below.refl _ _ | exact below_new _ _) b
    clear b
    refine hK.out _ _ ⟨b', ?_⟩
    clear hK K0
    have ra25 := Lib.hid (ra24.out.below b'); clear ra24
    have rb25 := Lib.hid (rb24.out.below b'); clear rb24
    have r_X25 := Lib.hid (r_X24.out.below b'); clear r_X24
    have r_Y25 := Lib.hid (r_Y24.out.below b'); clear r_Y24
    have r_P25 := Lib.hid (r_P24.out.below b'); clear r_P24
    have r_Q25 := Lib.hid (r_Q24.out.below b'); clear r_Q24
    have r_M25 := Lib.hid (r_M24.out.below b'); clear r_M24
    have r_G25 := Lib.hid (r_G24.out.below b'); clear r_G24
    have r_K25 := Lib.hid (r_K24.out.below b'); clear r_K24
    have bx25 := Lib.hid (blk_below b' bx24.out); clear bx24
    have by_25 := Lib.hid (blk_below b' by_24.out); clear by_24
    have bp25 := Lib.hid (blk_below b' bp24.out); clear bp24
    have bq25 := Lib.hid (blk_below b' bq24.out); clear bq24
    have bm25 := Lib.hid (blk_below b' bm24.out); clear bm24
    have bg25 := Lib.hid (blk_below b' bg24.out); clear bg24
    have bk25 := Lib.hid (blk_below b' bk24.out); clear bk24
    have B25 := Lib.hid (B24.out.tr b'); clear B24
    clear b'
    have cby_ := blk_cell by_25.out 0
    have qby_ : ∀ t : Flow.Cls (Flow.Later w25), t.val.cell? _ = some (.slice Y T.length y) := fun t => Flow.cls_cell cby_ t
    haveI nonE := Flow.cls_nonempty w25
    rw [Flow.wpSegs_cons]
    simp only [Flow.pick, List.getElem?_toArray, List.getElem?_cons_succ, List.getElem?_cons_zero]
    repeat go_big_quiet_step (fail)
    refine wpQuiet_nil ?_
    clear nonE qby_ cby_
    rw [Flow.callAt_eq]
    simp only [List.getElem?_toArray, List.getElem?_cons_succ, List.getElem?_cons_zero]
    rw [if_neg (by exact Bool.false_ne_true)]
    simp only [Act.put, List.setIfInBounds_toArray, List.set_cons_succ, List.set_cons_zero]
    have cbg := blk_cell bg25.out 0
    have qbg : ∀ t : Flow.Cls (Flow.Later w25), t.val.cell? _ = some (.slice G S.length g) := fun t => Flow.cls_cell cbg t
    have cbx := blk_cell bx25.out 0
    have qbx : ∀ t : Flow.Cls (Flow.Later w25), t.val.cell? _ = some (.slice X S.length x) := fun t => Flow.cls_cell cbx t
    haveI nonE := Flow.cls_nonempty w25
    rw [Flow.wpSegs_cons]
    simp only [Flow.pick, List.getElem?_toArray, List.getElem?_cons_succ, List.getElem?_cons_zero]
    repeat go_big_quiet_step (fail)
    refine wpQuiet_nil ?_
    clear nonE qbg cbg qbx cbx
    rw [Flow.callAt_eq]
    simp only [List.getElem?_toArray, List.getElem?_cons_succ, List.getElem?_cons_zero]
    rw [if_pos (by rfl)]
    refine Flow.wp_behind (fun K0 hK => ?_)
    go_wp2_with fail
    refine (HE1.out G X g x _ (r_G25.out.below (by first | exact Below.refl _ _ | exact below_new _ _)) (r_X25.out.below (by first | exact Below.refl _ _ | exact below_new _ _))).mono ?_; rintro e w26 ⟨rfl, b⟩
    have b' : Below w25.heap.size w25 w26 := Below.tr (by first | exact Below.refl _ _ | exact below_new _ _) b
    clear b
    refine hK.out _ _ ⟨b', ?_⟩
    clear hK K0
    have ra26 := Lib.hid (ra25.out.below b'); clear ra25
    have rb26 := Lib.hid (rb25.out.below b'); clear rb25
    have r_X26 := Lib.hid (r_X25.out.below b'); clear r_X25
    have r_Y26 := Lib.hid (r_Y25.out.below b'); clear r_Y25
    have r_P26 := Lib.hid (r_P25.out.below b'); clear r_P25
    have r_Q26 := Lib.hid (r_Q25.out.below b'); clear r_Q25
    have r_M26 := Lib.hid (r_M25.out.below b'); clear r_M25
    have r_G26 := Lib.hid (r_G25.out.below b'); clear r_G25
    have r_K26 := Lib.hid (r_K25.out.below b'); clear r_K25
    have bx26 := Lib.hid (blk_below b' bx25.out); clear bx25
    have by_26 := Lib.hid (blk_below b' by_25.out); clear by_25
    have bp26 := Lib.hid (blk_below b' bp25.out); clear bp25
    have bq26 := Lib.hid (blk_below b' bq25.out); clear bq25
    have bm26 := Lib.hid (blk_below b' bm25.out); clear bm25
    have bg26 := Lib.hid (blk_below b' bg25.out); clear bg25
    have bk26 := Lib.hid (blk_below b' bk25.out); clear bk25
    have B26 := Lib.hid (B25.out.tr b'); clear B25
    clear b'
    have cbk := blk_cell bk26.out 0
    have qbk : ∀ t : Flow.Cls (Flow.Later w26), t.val.cell? _ = some (.slice K OR.length kk) := fun t => Flow.cls_cell cbk t
    have cbp := blk_cell bp26.out 0
    have qbp : ∀ t : Flow.Cls (Flow.Later w26), t.val.cell? _ = some (.slice P OR.length p) := fun t => Flow.cls_cell cbp t
    haveI nonE := Flow.cls_nonempty w26
    rw [Flow.wpSegs_cons]
    simp only [Flow.pick, List.getElem?_toArray, List.getElem?_cons_succ, List.getElem?_cons_zero]
    repeat go_big_quiet_step (fail)
    refine wpQuiet_nil ?_
    clear nonE qbk cbk qbp cbp
    rw [Flow.callAt_eq]
    simp only [List.getElem?_toArray, List.getElem?_cons_succ, List.getElem?_cons_zero]
    rw [if_pos (by rfl)]
    refine Flow.wp_behind (fun K0 hK => ?_)
    go_wp2_with fail
    refine (HE2.out K P kk p _ (r_K26.out.below (by first | exact Below.refl _ _ | exact below_new _ _)) (r_P26.out.below (by first | exact Below.refl _ _ | exact below_new _ _))).mono ?_; rintro e w27 ⟨rfl, b⟩
    have b' : Below w26.heap.size w26 w27 := Below.tr (by first | exact Below.refl _ _ | exact below_new _ _) b
    clear b
    refine hK.out _ _ ⟨b', ?_⟩
    clear hK K0
    have ra27 := Lib.hid (ra26.out.below b'); clear ra26
    have rb27 := Lib.hid (rb26.out.below b'); clear rb26
    have r_X27 := Lib.hid (r_X26.out.below b'); clear r_X26
    have r_Y27 := Lib.hid (r_Y26.out.below b'); clear r_Y26
    have r_P27 := Lib.hid (r_P26.out.below b'); clear r_P26
    have r_Q27 := Lib.hid (r_Q26.out.below b'); clear r_Q26
    have r_M27 := Lib.hid (r_M26.out.below b'); clear r_M26
    have r_G27 := Lib.hid (r_G26.out.below b'); clear r_G26
    have r_K27 := Lib.hid (r_K26.out.below b'); clear r_K26
    have bx27 := Lib.hid (blk_below b' bx26.out); clear bx26
    have by_27 := Lib.hid (blk_below b' by_26.out); clear by_26
    have bp27 := Lib.hid (blk_below b' bp26.out); clear bp26
    have bq27 := Lib.hid (blk_below b' bq26.out); clear bq26
    have bm27 := Lib.hid (blk_below b' bm26.out); clear bm26
    have bg27 := Lib.hid (blk_below b' bg26.out); clear bg26
    have bk27 := Lib.hid (blk_below b' bk26.out); clear bk26
    have B27 := Lib.hid (B26.out.tr b'); clear B26
    clear b'
    have cbp := blk_cell bp27.out 0
    have qbp : ∀ t : Flow.Cls (Flow.Later w27), t.val.cell? _ = some (.slice P OR.length p) := fun t => Flow.cls_cell cbp t
    have cbq := blk_cell bq27.out 0
    have qbq : ∀ t : Flow.Cls (Flow.Later w27), t.val.cell? _ = some (.slice Q AND.length q) := fun t => Flow.cls_cell cbq t
    have cbx := blk_cell bx27.out 0
    have qbx : ∀ t : Flow.Cls (Flow.Later w27), t.val.cell? _ = some (.slice X S.length x) := fun t => Flow.cls_cell cbx t
    have cby_ := blk_cell by_27.out 0
    have qby_ : ∀ t : Flow.Cls (Flow.Later w27), t.val.cell? _ = some (.slice Y T.length y) := fun t => Flow.cls_cell cby_ t
    haveI nonE := Flow.cls_nonempty w27
    rw [Flow.wpSegs_cons]
    simp only [Flow.pick, List.getElem?_toArray, List.getElem?_cons_succ, List.getElem?_cons_zero]
    repeat go_big_quiet_step (fail)
    refine wpQuiet_nil ?_
    clear nonE qbp cbp qbq cbq qbx cbx qby_ cby_
    rw [Flow.callAt_eq]
    simp only [List.getElem?_toArray, List.getElem?_cons_succ, List.getElem?_cons_zero]
    rw [if_pos (by rfl)]
    refine Flow.wp_behind (fun K0 hK => ?_)
    go_wp2_with fail
    refine (HC1.out P p _ (r_P27.out.below (by first | exact Below.refl _ _ | exact below_new _ _))).mono ?_; rintro e w28 ⟨rfl, b⟩
    have b' : Below w27.heap.size w27 w28 := Below.tr (by first | exact Below.refl _ _ | exact below_new _ _) b
    clear b
    refine hK.out _ _ ⟨b', ?_⟩
    clear hK K0
    have ra28 := Lib.hid (ra27.out.below b'); clear ra27
    have rb28 := Lib.hid (rb27.out.below b'); clear rb27
    have r_X28 := Lib.hid (r_X27.out.below b'); clear r_X27
    have r_Y28 := Lib.hid (r_Y27.out.below b'); clear r_Y27
    have r_P28 := Lib.hid (r_P27.out.below b'); clear r_P27
    have r_Q28 := Lib.hid (r_Q27.out.below b'); clear r_Q27
    have r_M28 := Lib.hid (r_M27.out.below b'); clear r_M27
    have r_G28 := Lib.hid (r_G27.out.below b'); clear r_G27
    have r_K28 := Lib.hid (r_K27.out.below b'); clear r_K27
    have bx28 := Lib.hid (blk_below b' bx27.out); clear bx27
    have by_28 := Lib.hid (blk_below b' by_27.out); clear by_27
    have bp28 := Lib.hid (blk_below b' bp27.out); clear bp27
    have bq28 := Lib.hid (blk_below b' bq27.out); clear bq27
    have bm28 := Lib.hid (blk_below b' bm27.out); clear bm27
    have bg28 := Lib.hid (blk_below b' bg27.out); clear bg27
    have bk28 := Lib.hid (blk_below b' bk27.out); clear bk27
    have B28 := Lib.hid (B27.out.tr b'); clear B27
    clear b'
    haveI nonE := Flow.cls_nonempty w28
    rw [Flow.wpSegs_cons]
    simp only [Flow.pick]
    refine wpQuiet_nil ?_
    clear nonE 
    rw [Flow.callAt_eq]
    simp only [List.getElem?_toArray, List.getElem?_cons_succ, List.getElem?_cons_zero]
    rw [if_pos (by rfl)]
    refine Flow.wp_behind (fun K0 hK => ?_)
    go_wp2_with fail
    refine (HC2.out Q q _ (r_Q28.out.below (by first | exact Below.refl _ _ | exact below_new _ _))).mono ?_; rintro e w29 ⟨rfl, b⟩
    have b' : Below w28.heap.size w28 w29 := Below.tr (by first | exact Below.refl _ _ | exact below_new _ _) b
    clear b
    refine hK.out _ _ ⟨b', ?_⟩
    clear hK K0
    have ra29 := Lib.hid (ra28.out.below b'); clear ra28
    have rb29 := Lib.hid (rb28.out.below b'); clear rb28
    have r_X29 := Lib.hid (r_X28.out.below b'); clear r_X28
    have r_Y29 := Lib.hid (r_Y28.out.below b'); clear r_Y28
    have r_P29 := Lib.hid (r_P28.out.below b'); clear r_P28
    have r_Q29 := Lib.hid (r_Q28.out.below b'); clear r_Q28
    have r_M29 := Lib.hid (r_M28.out.below b'); clear r_M28
    have r_G29 := Lib.hid (r_G28.out.below b'); clear r_G28
    have r_K29 := Lib.hid (r_K28.out.below b'); clear r_K28
    have bx29 := Lib.hid (blk_below b' bx28.out); clear bx28
    have by_29 := Lib.hid (blk_below b' by_28.out); clear by_28
    have bp29 := Lib.hid (blk_below b' bp28.out); clear bp28
    have bq29 := Lib.hid (blk_below b' bq28.out); clear bq28
    have bm29 := Lib.hid (blk_below b' bm28.out); clear bm28
    have bg29 := Lib.hid (blk_below b' bg28.out); clear bg28
    have bk29 := Lib.hid (blk_below b' bk28.out); clear bk28
    have B29 := Lib.hid (B28.out.tr b'); clear B28
    clear b'
    haveI nonE := Flow.cls_nonempty w29
    rw [Flow.wpSegs_cons]
    simp only [Flow.pick, List.getElem?_toArray, List.getElem?_cons_succ, List.getElem?_cons_zero]
    repeat go_big_quiet_step (fail)
    refine wpQuiet_nil ?_
    clear nonE 
    rw [Flow.callAt_eq]
    simp only [List.getElem?_toArray, List.getElem?_cons_succ, List.getElem?_cons_zero]
    rw [if_pos (by rfl)]
    refine Flow.wp_behind (fun K0 hK => ?_)
    go_wp2_with fail
    refine (HC3.out X x _ (r_X29.out.below (by first | exact Below.refl _ _ | exact below_new _ _))).mono ?_; rintro e w30 ⟨rfl, b⟩
    have b' : Below w29.heap.size w29 w30 := Below.tr (by first | exact Below.refl _ _ | exact below_new _ _) b
    clear b
    refine hK.out _ _ ⟨b', ?_⟩
    clear hK K0
    have ra30 := Lib.hid (ra29.out.below b'); clear ra29
    have rb30 := Lib.hid (rb29.out.below b'); clear rb29
    have r_X30 := Lib.hid (r_X29.out.below b'); clear r_X29
    have r_Y30 := Lib.hid (r_Y29.out.below b'); clear r_Y29
    have r_P30 := Lib.hid (r_P29.out.below b'); clear r_P29
    have r_Q30 := Lib.hid (r_Q29.out.below b'); clear r_Q29
    have r_M30 := Lib.hid (r_M29.out.below b'); clear r_M29
    have r_G30 := Lib.hid (r_G29.out.below b'); clear r_G29
    have r_K30 := Lib.hid (r_K29.out.below b'); clear r_K29
    have bx30 := Lib.hid (blk_below b' bx29.out); clear bx29
    have by_30 := Lib.hid (blk_below b' by_29.out); clear by_29
    have bp30 := Lib.hid (blk_below b' bp29.out); clear bp29
    have bq30 := Lib.hid (blk_below b' bq29.out); clear bq29
    have bm30 := Lib.hid (blk_below b' bm29.out); clear bm29
    have bg30 := Lib.hid (blk_below b' bg29.out); clear bg29
    have bk30 := Lib.hid (blk_below b' bk29.out); clear bk29
    have B30 := Lib.hid (B29.out.tr b'); clear B29
    clear b'
    haveI nonE := Flow.cls_nonempty w30
    rw [Flow.wpSegs_cons]
    simp only [Flow.pick]
    refine wpQuiet_nil ?_
    clear nonE 
    rw [Flow.callAt_eq]
    simp only [List.getElem?_toArray, List.getElem?_cons_succ, List.getElem?_cons_zero]
    rw [if_pos (by rfl)]
    refine Flow.wp_behind (fun K0 hK => ?_)
    go_wp2_with fail
    refine (HC4.out Y y _ (r_Y30.out.below (by first | exact Below.refl _ _ | exact below_new _ _))).mono ?_; rintro e w31 ⟨rfl, b⟩
    have b' : Below w30.heap.size w30 w31 := Below.tr (by first | exact Below.refl _ _ | exact below_new _ _) b
    clear b
    refine hK.out _ _ ⟨b', ?_⟩
    clear hK K0
    have ra31 := Lib.hid (ra30.out.below b'); clear ra30
    have rb31 := Lib.hid (rb30.out.below b'); clear rb30
    have r_X31 := Lib.hid (r_X30.out.below b'); clear r_X30
    have r_Y31 := Lib.hid (r_Y30.out.below b'); clear r_Y30
    have r_P31 := Lib.hid (r_P30.out.below b'); clear r_P30
    have r_Q31 := Lib.hid (r_Q30.out.below b'); clear r_Q30
    have r_M31 := Lib.hid (r_M30.out.below b'); clear r_M30
    have r_G31 := Lib.hid (r_G30.out.below b'); clear r_G30
    have r_K31 := Lib.hid (r_K30.out.below b'); clear r_K30
    have bx31 := Lib.hid (blk_below b' bx30.out); clear bx30
    have by_31 := Lib.hid (blk_below b' by_30.out); clear by_30
    have bp31 := Lib.hid (blk_below b' bp30.out); clear bp30
    have bq31 := Lib.hid (blk_below b' bq30.out); clear bq30
    have bm31 := Lib.hid (blk_below b' bm30.out); clear bm30
    have bg31 := Lib.hid (blk_below b' bg30.out); clear bg30
    have bk31 := Lib.hid (blk_below b' bk30.out); clear bk30
    have B31 := Lib.hid (B30.out.tr b'); clear B30
    clear b'
    haveI nonE := Flow.cls_nonempty w31
    rw [Flow.wpSegs_nil]
    simp only [Flow.pick, List.getElem?_toArray, List.getElem?_cons_succ, List.getElem?_cons_zero]
    repeat go_big_quiet_step (fail)
    refine wpQuiet_nil ?_
    clear nonE 
    go_wp2_with fail
    go_ret
    exact ⟨rfl, (B31.out.tr (by first | exact Below.refl _ _ | exact below_new _ _))⟩
  · go_enter Tryz.func6, Tryz.ntmps6
    go_wp2_with fail
    refine (HK.out _ (by first | exact Below.refl _ _ | exact below_new _ _)).mono ?_; rintro e w1 ⟨rfl, b⟩
    have b' : Below w.heap.size w w1 := Below.tr (by first | exact Below.refl _ _ | exact below_new _ _) b
    clear b
    have ra1 := Lib.hid (RA.out.below b'); clear RA
    have rb1 := Lib.hid (RB.out.below b'); clear RB
    have B1 := Lib.hid b'
    clear b'
    go_wp2_with fail
    refine (HO1.out _ (ra1.out.below (by first | exact Below.refl _ _ | exact below_new _ _))).mono ?_; rintro e w2 ⟨O1, o1, rfl, ho, b⟩
    have b' : Below w1.heap.size w1 w2 := Below.tr (by first | exact Below.refl _ _ | exact below_new _ _) b
    clear b
    have ra2 := Lib.hid (ra1.out.below b'); clear ra1
    have rb2 := Lib.hid (rb1.out.below b'); clear rb1
    have B2 := Lib.hid (B1.out.tr b'); clear B1
    clear b'
    have o_O12 := Lib.hid ((RdR.of_own ho).1)
    have s_O1 := Lib.hid (SlR.of_own ho); clear ho
    go_wp2_with fail
    refine (HF1.out O1 o1 _ (o_O12.out.below (by first | exact Below.refl _ _ | exact below_new _ _)) s_O1.out).mono ?_; rintro e w3 ⟨X, x, rfl, hR, hs', ht', b⟩
    have b' : Below w2.heap.size w2 w3 := Below.tr (by first | exact Below.refl _ _ | exact below_new _ _) b
    clear b
    have ra3 := Lib.hid (ra2.out.below b'); clear ra2
    have rb3 := Lib.hid (rb2.out.below b'); clear rb2
    have o_O13 := Lib.hid (o_O12.out.below b'); clear o_O12
    have B3 := Lib.hid (B2.out.tr b'); clear B2
    clear b'
    have r_X3 := Lib.hid hR; clear hR
    clear hs' ht'
    clear o_O13
    go_wp2_with fail
    have ra4 := Lib.hid (ra3.out.below (below_new w3 (.cells #[.slice X S.length x] 26))); clear ra3
    have rb4 := Lib.hid (rb3.out.below (below_new w3 (.cells #[.slice X S.length x] 26))); clear rb3
    have r_X4 := Lib.hid (r_X3.out.below (below_new w3 (.cells #[.slice X S.length x] 26))); clear r_X3
    have B4 := Lib.hid (B3.out.tr (below_new w3 (.cells #[.slice X S.length x] 26))); clear B3
    have bx4 := Lib.hid (blk_new w3 (.cells #[.slice X S.length x] 26))
    refine (HO2.out _ (rb4.out.below (by first | exact Below.refl _ _ | exact below_new _ _))).mono ?_; rintro e w5 ⟨O2, o2, rfl, ho, b⟩
    have b' : Below (w3.alloc (.cells #[.slice X S.length x] 26)).heap.size (w3.alloc (.cells #[.slice X S.length x] 26)) w5 := Below.tr (by first | exact Below.refl _ _ | exact below_new _ _) b
    clear b
    have ra5 := Lib.hid (ra4.out.below b'); clear ra4
    have rb5 := Lib.hid (rb4.out.below b'); clear rb4
    have r_X5 := Lib.hid (r_X4.out.below b'); clear r_X4
    have bx5 := Lib.hid (blk_below b' bx4.out); clear bx4
    have B5 := Lib.hid (B4.out.tr b'); clear B4
    clear b'
    have o_O25 := Lib.hid ((RdR.of_own ho).1)
    have s_O2 := Lib.hid (SlR.of_own ho); clear ho
    go_wp2_with fail
    refine (HF2.out O2 o2 _ (o_O25.out.below (by first | exact Below.refl _ _ | exact below_new _ _)) s_O2.out).mono ?_; rintro e w6 ⟨Y, y, rfl, hR, hs', ht', b⟩
    have b' : Below w5.heap.size w5 w6 := Below.tr (by first | exact Below.refl _ _ | exact below_new _ _) b
    clear b
    have ra6 := Lib.hid (ra5.out.below b'); clear ra5
    have rb6 := Lib.hid (rb5.out.below b'); clear rb5
    have r_X6 := Lib.hid (r_X5.out.below b'); clear r_X5
    have o_O26 := Lib.hid (o_O25.out.below b'); clear o_O25
    have bx6 := Lib.hid (blk_below b' bx5.out); clear bx5
    have B6 := Lib.hid (B5.out.tr b'); clear B5
    clear b'
    have r_Y6 := Lib.hid hR; clear hR
    clear hs' ht'
    clear o_O26
    have cbx := blk_cell bx6.out 0
    have pbx := blk_lt bx6.out
    go_wp2_with fail
    clear cbx pbx
    have ra7 := Lib.hid (ra6.out.below (below_new w6 (.cells #[.slice Y T.length y] 26))); clear ra6
    have rb7 := Lib.hid (rb6.out.below (below_new w6 (.cells #[.slice Y T.length y] 26))); clear rb6
    have r_X7 := Lib.hid (r_X6.out.below (below_new w6 (.cells #[.slice Y T.length y] 26))); clear r_X6
    have r_Y7 := Lib.hid (r_Y6.out.below (below_new w6 (.cells #[.slice Y T.length y] 26))); clear r_Y6
    have bx7 := Lib.hid (blk_below (below_new w6 (.cells #[.slice Y T.length y] 26)) bx6.out); clear bx6
    have B7 := Lib.hid (B6.out.tr (below_new w6 (.cells #[.slice Y T.length y] 26))); clear B6
    have by_7 := Lib.hid (blk_new w6 (.cells #[.slice Y T.length y] 26))
    refine (HU1.out X x Y y _ (r_X7.out.below (by first | exact Below.refl _ _ | exact below_new _ _)) (r_Y7.out.below (by first | exact Below.refl _ _ | exact below_new _ _))).mono ?_; rintro e w8 ⟨P, p, rfl, hR, hs', ht', b⟩
    have b' : Below (w6.alloc (.cells #[.slice Y T.length y] 26)).heap.size (w6.alloc (.cells #[.slice Y T.length y] 26)) w8 := Below.tr (by first | exact Below.refl _ _ | exact below_new _ _) b
    clear b
    have ra8 := Lib.hid (ra7.out.below b'); clear ra7
    have rb8 := Lib.hid (rb7.out.below b'); clear rb7
    have r_X8 := Lib.hid (r_X7.out.below b'); clear r_X7
    have r_Y8 := Lib.hid (r_Y7.out.below b'); clear r_Y7
    have bx8 := Lib.hid (blk_below b' bx7.out); clear bx7
    have by_8 := Lib.hid (blk_below b' by_7.out); clear by_7
    have B8 := Lib.hid (B7.out.tr b'); clear B7
    clear b'
    have r_P8 := Lib.hid hR; clear hR
    clear hs' ht'
    have cbx := blk_cell bx8.out 0
    have pbx := blk_lt bx8.out
    have cby_ := blk_cell by_8.out 0
    have pby_ := blk_lt by_8.out
    go_wp2_with fail
    clear cbx pbx cby_ pby_
    have ra9 := Lib.hid (ra8.out.below (below_new w8 (.cells #[.slice P OR.length p] 26))); clear ra8
    have rb9 := Lib.hid (rb8.out.below (below_new w8 (.cells #[.slice P OR.length p] 26))); clear rb8
    have r_X9 := Lib.hid (r_X8.out.below (below_new w8 (.cells #[.slice P OR.length p] 26))); clear r_X8
    have r_Y9 := Lib.hid (r_Y8.out.below (below_new w8 (.cells #[.slice P OR.length p] 26))); clear r_Y8
    have r_P9 := Lib.hid (r_P8.out.below (below_new w8 (.cells #[.slice P OR.length p] 26))); clear r_P8
    have bx9 := Lib.hid (blk_below (below_new w8 (.cells #[.slice P OR.length p] 26)) bx8.out); clear bx8
    have by_9 := Lib.hid (blk_below (below_new w8 (.cells #[.slice P OR.length p] 26)) by_8.out); clear by_8
    have B9 := Lib.hid (B8.out.tr (below_new w8 (.cells #[.slice P OR.length p] 26))); clear B8
    have bp9 := Lib.hid (blk_new w8 (.cells #[.slice P OR.length p] 26))
    refine (HU2.out X x Y y _ (r_X9.out.below (by first | exact Below.refl _ _ | exact below_new _ _)) (r_Y9.out.below (by first | exact Below.refl _ _ | exact below_new _ _))).mono ?_; rintro e w10 ⟨Q, q, rfl, hR, hs', ht', b⟩
    have b' : Below (w8.alloc (.cells #[.slice P OR.length p] 26)).heap.size (w8.alloc (.cells #[.slice P OR.length p] 26)) w10 := Below.tr (by first | exact Below.refl _ _ | exact below_new _ _) b
    clear b
    have ra10 := Lib.hid (ra9.out.below b'); clear ra9
    have rb10 := Lib.hid (rb9.out.below b'); clear rb9
    have r_X10 := Lib.hid (r_X9.out.below b'); clear r_X9
    have r_Y10 := Lib.hid (r_Y9.out.below b'); clear r_Y9
    have r_P10 := Lib.hid (r_P9.out.below b'); clear r_P9
    have bx10 := Lib.hid (blk_below b' bx9.out); clear bx9
    have by_10 := Lib.hid (blk_below b' by_9.out); clear by_9
    have bp10 := Lib.hid (blk_below b' bp9.out); clear bp9
    have B10 := Lib.hid (B9.out.tr b'); clear B9
    clear b'
    have r_Q10 := Lib.hid hR; clear hR
    clear hs' ht'
    have cbx := blk_cell bx10.out 0
    have pbx := blk_lt bx10.out
    have cby_ := blk_cell by_10.out 0
    have pby_ := blk_lt by_10.out
    go_wp2_with fail
    clear cbx pbx cby_ pby_
    have ra11 := Lib.hid (ra10.out.below (below_new w10 (.cells #[.slice Q AND.length q] 26))); clear ra10
    have rb11 := Lib.hid (rb10.out.below (below_new w10 (.cells #[.slice Q AND.length q] 26))); clear rb10
    have r_X11 := Lib.hid (r_X10.out.below (below_new w10 (.cells #[.slice Q AND.length q] 26))); clear r_X10
    have r_Y11 := Lib.hid (r_Y10.out.below (below_new w10 (.cells #[.slice Q AND.length q] 26))); clear r_Y10
    have r_P11 := Lib.hid (r_P10.out.below (below_new w10 (.cells #[.slice Q AND.length q] 26))); clear r_P10
    have r_Q11 := Lib.hid (r_Q10.out.below (below_new w10 (.cells #[.slice Q AND.length q] 26))); clear r_Q10
    have bx11 := Lib.hid (blk_below (below_new w10 (.cells #[.slice Q AND.length q] 26)) bx10.out); clear bx10
    have by_11 := Lib.hid (blk_below (below_new w10 (.cells #[.slice Q AND.length q] 26)) by_10.out); clear by_10
    have bp11 := Lib.hid (blk_below (below_new w10 (.cells #[.slice Q AND.length q] 26)) bp10.out); clear bp10
    have B11 := Lib.hid (B10.out.tr (below_new w10 (.cells #[.slice Q AND.length q] 26))); clear B10
    have bq11 := Lib.hid (blk_new w10 (.cells #[.slice Q AND.length q] 26))
    refine (HU3.out X x Y y _ (r_X11.out.below (by first | exact Below.refl _ _ | exact below_new _ _)) (r_Y11.out.below (by first | exact Below.refl _ _ | exact below_new _ _))).mono ?_; rintro e w12 ⟨M, m, rfl, hR, hs', ht', b⟩
    have b' : Below (w10.alloc (.cells #[.slice Q AND.length q] 26)).heap.size (w10.alloc (.cells #[.slice Q AND.length q] 26)) w12 := Below.tr (by first | exact Below.refl _ _ | exact below_new _ _) b
    clear b
    have ra12 := Lib.hid (ra11.out.below b'); clear ra11
    have rb12 := Lib.hid (rb11.out.below b'); clear rb11
    have r_X12 := Lib.hid (r_X11.out.below b'); clear r_X11
    have r_Y12 := Lib.hid (r_Y11.out.below b'); clear r_Y11
    have r_P12 := Lib.hid (r_P11.out.below b'); clear r_P11
    have r_Q12 := Lib.hid (r_Q11.out.below b'); clear r_Q11
    have bx12 := Lib.hid (blk_below b' bx11.out); clear bx11
    have by_12 := Lib.hid (blk_below b' by_11.out); clear by_11
    have bp12 := Lib.hid (blk_below b' bp11.out); clear bp11
    have bq12 := Lib.hid (blk_below b' bq11.out); clear bq11
    have B12 := Lib.hid (B11.out.tr b'); clear B11
    clear b'
    have r_M12 := Lib.hid hR; clear hR
    clear hs' ht'
    have cbq := blk_cell bq12.out 0
    have pbq := blk_lt bq12.out
    go_wp2_with fail
    clear cbq pbq
    have ra13 := Lib.hid (ra12.out.below (below_new w12 (.cells #[.slice M MIN.length m] 26))); clear ra12
    have rb13 := Lib.hid (rb12.out.below (below_new w12 (.cells #[.slice M MIN.length m] 26))); clear rb12
    have r_X13 := Lib.hid (r_X12.out.below (below_new w12 (.cells #[.slice M MIN.length m] 26))); clear r_X12
    have r_Y13 := Lib.hid (r_Y12.out.below (below_new w12 (.cells #[.slice M MIN.length m] 26))); clear r_Y12
    have r_P13 := Lib.hid (r_P12.out.below (below_new w12 (.cells #[.slice M MIN.length m] 26))); clear r_P12
    have r_Q13 := Lib.hid (r_Q12.out.below (below_new w12 (.cells #[.slice M MIN.length m] 26))); clear r_Q12
    have r_M13 := Lib.hid (r_M12.out.below (below_new w12 (.cells #[.slice M MIN.length m] 26))); clear r_M12
    have bx13 := Lib.hid (blk_below (below_new w12 (.cells #[.slice M MIN.length m] 26)) bx12.out); clear bx12
    have by_13 := Lib.hid (blk_below (below_new w12 (.cells #[.slice M MIN.length m] 26)) by_12.out); clear by_12
    have bp13 := Lib.hid (blk_below (below_new w12 (.cells #[.slice M MIN.length m] 26)) bp12.out); clear bp12
    have bq13 := Lib.hid (blk_below (below_new w12 (.cells #[.slice M MIN.length m] 26)) bq12.out); clear bq12
    have B13 := Lib.hid (B12.out.tr (below_new w12 (.cells #[.slice M MIN.length m] 26))); clear B12
    have bm13 := Lib.hid (blk_new w12 (.cells #[.slice M MIN.length m] 26))
    refine (HU4.out M m Q q _ (r_M13.out.below (by first | exact Below.refl _ _ | exact below_new _ _)) (r_Q13.out.below (by first | exact Below.refl _ _ | exact below_new _ _))).mono ?_; rintro e w14 ⟨G, g, rfl, hR, hs', ht', b⟩
    have b' : Below (w12.alloc (.cells #[.slice M MIN.length m] 26)).heap.size (w12.alloc (.cells #[.slice M MIN.length m] 26)) w14 := Below.tr (by first | exact Below.refl _ _ | exact below_new _ _) b
    clear b
    have ra14 := Lib.hid (ra13.out.below b'); clear ra13
    have rb14 := Lib.hid (rb13.out.below b'); clear rb13
    have r_X14 := Lib.hid (r_X13.out.below b'); clear r_X13
    have r_Y14 := Lib.hid (r_Y13.out.below b'); clear r_Y13
    have r_P14 := Lib.hid (r_P13.out.below b'); clear r_P13
    have r_Q14 := Lib.hid (r_Q13.out.below b'); clear r_Q13
    have r_M14 := Lib.hid (r_M13.out.below b'); clear r_M13
    have bx14 := Lib.hid (blk_below b' bx13.out); clear bx13
    have by_14 := Lib.hid (blk_below b' by_13.out); clear by_13
    have bp14 := Lib.hid (blk_below b' bp13.out); clear bp13
    have bq14 := Lib.hid (blk_below b' bq13.out); clear bq13
    have bm14 := Lib.hid (blk_below b' bm13.out); clear bm13
    have B14 := Lib.hid (B13.out.tr b'); clear B13
    clear b'
    have r_G14 := Lib.hid hR; clear hR
    clear hs' ht'
    have cby_ := blk_cell by_14.out 0
    have pby_ := blk_lt by_14.out
    have cbx := blk_cell bx14.out 0
    have pbx := blk_lt bx14.out
    go_wp2_with fail
    clear cby_ pby_ cbx pbx
    have ra15 := Lib.hid (ra14.out.below (below_new w14 (.cells #[.slice G S.length g] 26))); clear ra14
    have rb15 := Lib.hid (rb14.out.below (below_new w14 (.cells #[.slice G S.length g] 26))); clear rb14
    have r_X15 := Lib.hid (r_X14.out.below (below_new w14 (.cells #[.slice G S.length g] 26))); clear r_X14
    have r_Y15 := Lib.hid (r_Y14.out.below (below_new w14 (.cells #[.slice G S.length g] 26))); clear r_Y14
    have r_P15 := Lib.hid (r_P14.out.below (below_new w14 (.cells #[.slice G S.length g] 26))); clear r_P14
    have r_Q15 := Lib.hid (r_Q14.out.below (below_new w14 (.cells #[.slice G S.length g] 26))); clear r_Q14
    have r_M15 := Lib.hid (r_M14.out.below (below_new w14 (.cells #[.slice G S.length g] 26))); clear r_M14
    have r_G15 := Lib.hid (r_G14.out.below (below_new w14 (.cells #[.slice G S.length g] 26))); clear r_G14
    have bx15 := Lib.hid (blk_below (below_new w14 (.cells #[.slice G S.length g] 26)) bx14.out); clear bx14
    have by_15 := Lib.hid (blk_below (below_new w14 (.cells #[.slice G S.length g] 26)) by_14.out); clear by_14
    have bp15 := Lib.hid (blk_below (below_new w14 (.cells #[.slice G S.length g] 26)) bp14.out); clear bp14
    have bq15 := Lib.hid (blk_below (below_new w14 (.cells #[.slice G S.length g] 26)) bq14.out); clear bq14
    have bm15 := Lib.hid (blk_below (below_new w14 (.cells #[.slice G S.length g] 26)) bm14.out); clear bm14
    have B15 := Lib.hid (B14.out.tr (below_new w14 (.cells #[.slice G S.length g] 26))); clear B14
    have bg15 := Lib.hid (blk_new w14 (.cells #[.slice G S.length g] 26))
    refine (HU5.out Y y X x _ (r_Y15.out.below (by first | exact Below.refl _ _ | exact below_new _ _)) (r_X15.out.below (by first | exact Below.refl _ _ | exact below_new _ _))).mono ?_; rintro e w16 ⟨K, kk, rfl, hR, hs', ht', b⟩
    have b' : Below (w14.alloc (.cells #[.slice G S.length g] 26)).heap.size (w14.alloc (.cells #[.slice G S.length g] 26)) w16 := Below.tr (by first | exact Below.refl _ _ | exact below_new _ _) b
    clear b
    have ra16 := Lib.hid (ra15.out.below b'); clear ra15
    have rb16 := Lib.hid (rb15.out.below b'); clear rb15
    have r_X16 := Lib.hid (r_X15.out.below b'); clear r_X15
    have r_Y16 := Lib.hid (r_Y15.out.below b'); clear r_Y15
    have r_P16 := Lib.hid (r_P15.out.below b'); clear r_P15
    have r_Q16 := Lib.hid (r_Q15.out.below b'); clear r_Q15
    have r_M16 := Lib.hid (r_M15.out.below b'); clear r_M15
    have r_G16 := Lib.hid (r_G15.out.below b'); clear r_G15
    have bx16 := Lib.hid (blk_below b' bx15.out); clear bx15
    have by_16 := Lib.hid (blk_below b' by_15.out); clear by_15
    have bp16 := Lib.hid (blk_below b' bp15.out); clear bp15
    have bq16 := Lib.hid (blk_below b' bq15.out); clear bq15
    have bm16 := Lib.hid (blk_below b' bm15.out); clear bm15
    have bg16 := Lib.hid (blk_below b' bg15.out); clear bg15
    have B16 := Lib.hid (B15.out.tr b'); clear B15
    clear b'
    have r_K16 := Lib.hid hR; clear hR
    clear hs' ht'
    go_wp2_with fail
    have ra17 := Lib.hid (ra16.out.below (below_new w16 (.cells #[.slice K OR.length kk] 26))); clear ra16
    have rb17 := Lib.hid (rb16.out.below (below_new w16 (.cells #[.slice K OR.length kk] 26))); clear rb16
    have r_X17 := Lib.hid (r_X16.out.below (below_new w16 (.cells #[.slice K OR.length kk] 26))); clear r_X16
    have r_Y17 := Lib.hid (r_Y16.out.below (below_new w16 (.cells #[.slice K OR.length kk] 26))); clear r_Y16
    have r_P17 := Lib.hid (r_P16.out.below (below_new w16 (.cells #[.slice K OR.length kk] 26))); clear r_P16
    have r_Q17 := Lib.hid (r_Q16.out.below (below_new w16 (.cells #[.slice K OR.length kk] 26))); clear r_Q16
    have r_M17 := Lib.hid (r_M16.out.below (below_new w16 (.cells #[.slice K OR.length kk] 26))); clear r_M16
    have r_G17 := Lib.hid (r_G16.out.below (below_new w16 (.cells #[.slice K OR.length kk] 26))); clear r_G16
    have r_K17 := Lib.hid (r_K16.out.below (below_new w16 (.cells #[.slice K OR.length kk] 26))); clear r_K16
    have bx17 := Lib.hid (blk_below (below_new w16 (.cells #[.slice K OR.length kk] 26)) bx16.out); clear bx16
    have by_17 := Lib.hid (blk_below (below_new w16 (.cells #[.slice K OR.length kk] 26)) by_16.out); clear by_16
    have bp17 := Lib.hid (blk_below (below_new w16 (.cells #[.slice K OR.length kk] 26)) bp16.out); clear bp16
    have bq17 := Lib.hid (blk_below (below_new w16 (.cells #[.slice K OR.length kk] 26)) bq16.out); clear bq16
    have bm17 := Lib.hid (blk_below (below_new w16 (.cells #[.slice K OR.length kk] 26)) bm16.out); clear bm16
    have bg17 := Lib.hid (blk_below (below_new w16 (.cells #[.slice K OR.length kk] 26)) bg16.out); clear bg16
    have B17 := Lib.hid (B16.out.tr (below_new w16 (.cells #[.slice K OR.length kk] 26))); clear B16
    have bk17 := Lib.hid (blk_new w16 (.cells #[.slice K OR.length kk] 26))
    have hqc := HQC.out
    dsimp only [List.append]
    refine Flow.wp_region_segs Flow.Later Flow.Later.refl Flow.Later.trans [([0, 1, 3, 4], 2), ([], 5), ([6, 7, 8], 9), ([10, 11, 12, 13, 14, 16, 17], 15), ([], 18), ([19, 20, 21], 22), ([23, 24, 25, 26, 27, 28, 30, 31], 29), ([], 32), ([33, 34, 35], 36), ([37, 38, 39, 40, 41, 42, 43], 44), ([45, 46, 47, 48], 49), ([50, 51, 52, 54, 57, 59], 53), ([], 55), ([56], 58), ([], 60)] [61, 62, 63, 64] (by kernel_rfl) (by kernel_rfl) ?_
    have b' : Below (w16.alloc (.cells #[.slice K OR.length kk] 26)).heap.size (w16.alloc (.cells #[.slice K OR.length kk] 26)) (World.drew (w16.alloc (.cells #[.slice K OR.length kk] 26))) := (Below.refl _ _).drew
    have ra18 := Lib.hid (ra17.out.below b'); clear ra17
    have rb18 := Lib.hid (rb17.out.below b'); clear rb17
    have r_X18 := Lib.hid (r_X17.out.below b'); clear r_X17
    have r_Y18 := Lib.hid (r_Y17.out.below b'); clear r_Y17
    have r_P18 := Lib.hid (r_P17.out.below b'); clear r_P17
    have r_Q18 := Lib.hid (r_Q17.out.below b'); clear r_Q17
    have r_M18 := Lib.hid (r_M17.out.below b'); clear r_M17
    have r_G18 := Lib.hid (r_G17.out.below b'); clear r_G17
    have r_K18 := Lib.hid (r_K17.out.below b'); clear r_K17
    have bx18 := Lib.hid (blk_below b' bx17.out); clear bx17
    have by_18 := Lib.hid (blk_below b' by_17.out); clear by_17
    have bp18 := Lib.hid (blk_below b' bp17.out); clear bp17
    have bq18 := Lib.hid (blk_below b' bq17.out); clear bq17
    have bm18 := Lib.hid (blk_below b' bm17.out); clear bm17
    have bg18 := Lib.hid (blk_below b' bg17.out); clear bg17
    have bk18 := Lib.hid (blk_below b' bk17.out); clear bk17
    have B18 := Lib.hid (B17.out.tr b'); clear B17
    clear b'
    generalize World.drew _ = w18 at *
    have cbp := blk_cell bp18.out 0
    have qbp : ∀ t : Flow.Cls (Flow.Later w18), t.val.cell? _ = some (.slice P OR.length p) := fun t => Flow.cls_cell cbp t
    have cbx := blk_cell bx18.out 0
    have qbx : ∀ t : Flow.Cls (Flow.Later w18), t.val.cell? _ = some (.slice X S.length x) := fun t => Flow.cls_cell cbx t
    haveI nonE := Flow.cls_nonempty w18
    rw [Flow.wpSegs_cons]
    simp only [Flow.pick, List.getElem?_toArray, List.getElem?_cons_succ, List.getElem?_cons_zero]
    repeat go_big_quiet_step (fail)
    refine wpQuiet_nil ?_
    clear nonE qbp cbp qbx cbx
    rw [Flow.callAt_eq]
    simp only [List.getElem?_toArray, List.getElem?_cons_succ, List.getElem?_cons_zero]
    rw [if_pos (by rfl)]
    refine Flow.wp_behind (fun K0 hK => ?_)
    go_wp2_with fail
    refine (HH1.out P p _ (r_P18.out.below (by first | exact Below.refl _ _ | exact below_new _ _))).mono ?_; rintro e w19 ⟨rfl, b⟩
    have b' : Below w18.heap.size w18 w19 := Below.tr (by first | exact Below.refl _ _ | exact below_new _ _) b
    clear b
    refine hK.out _ _ ⟨b', ?_⟩
    clear hK K0
    have ra19 := Lib.hid (ra18.out.below b'); clear ra18
    have rb19 := Lib.hid (rb18.out.below b'); clear rb18
    have r_X19 := Lib.hid (r_X18.out.below b'); clear r_X18
    have r_Y19 := Lib.hid (r_Y18.out.below b'); clear r_Y18
    have r_P19 := Lib.hid (r_P18.out.below b'); clear r_P18
    have r_Q19 := Lib.hid (r_Q18.out.below b'); clear r_Q18
    have r_M19 := Lib.hid (r_M18.out.below b'); clear r_M18
    have r_G19 := Lib.hid (r_G18.out.below b'); clear r_G18
    have r_K19 := Lib.hid (r_K18.out.below b'); clear r_K18
    have bx19 := Lib.hid (blk_below b' bx18.out); clear bx18
    have by_19 := Lib.hid (blk_below b' by_18.out); clear by_18
    have bp19 := Lib.hid (blk_below b' bp18.out); clear bp18
    have bq19 := Lib.hid (blk_below b' bq18.out); clear bq18
    have bm19 := Lib.hid (blk_below b' bm18.out); clear bm18
    have bg19 := Lib.hid (blk_below b' bg18.out); clear bg18
    have bk19 := Lib.hid (blk_below b' bk18.out); clear bk18
    have B19 := Lib.hid (B18.out.tr b'); clear B18
    clear b'
    haveI nonE := Flow.cls_nonempty w19
    rw [Flow.wpSegs_cons]
    simp only [Flow.pick]
    refine wpQuiet_nil ?_
    clear nonE 
    rw [Flow.callAt_eq]
    simp only [List.getElem?_toArray, List.getElem?_cons_succ, List.getElem?_cons_zero]
    rw [if_pos (by rfl)]
    refine Flow.wp_behind (fun K0 hK => ?_)
    go_wp2_with fail
    refine (HH4.out X x _ (r_X19.out.below (by first | exact Below.refl _ _ | exact below_new _ _))).mono ?_; rintro e w20 ⟨rfl, b⟩
    have b' : Below w19.heap.size w19 w20 := Below.tr (by first | exact Below.refl _ _ | exact below_new _ _) b
    clear b
    refine hK.out _ _ ⟨b', ?_⟩
    clear hK K0
    have ra20 := Lib.hid (ra19.out.below b'); clear ra19
    have rb20 := Lib.hid (rb19.out.below b'); clear rb19
    have r_X20 := Lib.hid (r_X19.out.below b'); clear r_X19
    have r_Y20 := Lib.hid (r_Y19.out.below b'); clear r_Y19
    have r_P20 := Lib.hid (r_P19.out.below b'); clear r_P19
    have r_Q20 := Lib.hid (r_Q19.out.below b'); clear r_Q19
    have r_M20 := Lib.hid (r_M19.out.below b'); clear r_M19
    have r_G20 := Lib.hid (r_G19.out.below b'); clear r_G19
    have r_K20 := Lib.hid (r_K19.out.below b'); clear r_K19
    have bx20 := Lib.hid (blk_below b' bx19.out); clear bx19
    have by_20 := Lib.hid (blk_below b' by_19.out); clear by_19
    have bp20 := Lib.hid (blk_below b' bp19.out); clear bp19
    have bq20 := Lib.hid (blk_below b' bq19.out); clear bq19
    have bm20 := Lib.hid (blk_below b' bm19.out); clear bm19
    have bg20 := Lib.hid (blk_below b' bg19.out); clear bg19
    have bk20 := Lib.hid (blk_below b' bk19.out); clear bk19
    have B20 := Lib.hid (B19.out.tr b'); clear B19
    clear b'
    have cby_ := blk_cell by_20.out 0
    have qby_ : ∀ t : Flow.Cls (Flow.Later w20), t.val.cell? _ = some (.slice Y T.length y) := fun t => Flow.cls_cell cby_ t
    haveI nonE := Flow.cls_nonempty w20
    rw [Flow.wpSegs_cons]
    simp only [Flow.pick, List.getElem?_toArray, List.getElem?_cons_succ, List.getElem?_cons_zero]
    repeat go_big_quiet_step (fail)
    refine wpQuiet_nil ?_
    clear nonE qby_ cby_
    rw [Flow.callAt_eq]
    simp only [List.getElem?_toArray, List.getElem?_cons_succ, List.getElem?_cons_zero]
    rw [if_pos (by rfl)]
    refine Flow.wp_behind (fun K0 hK => ?_)
    go_wp2_with fail
    refine (HH5.out Y y _ (r_Y20.out.below (by first | exact Below.refl _ _ | exact below_new _ _))).mono ?_; rintro e w21 ⟨rfl, b⟩
    have b' : Below w20.heap.size w20 w21 := Below.tr (by first | exact Below.refl _ _ | exact below_new _ _) b
    clear b
    refine hK.out _ _ ⟨b', ?_⟩
    clear hK K0
    have ra21 := Lib.hid (ra20.out.below b'); clear ra20
    have rb21 := Lib.hid (rb20.out.below b'); clear rb20
    have r_X21 := Lib.hid (r_X20.out.below b'); clear r_X20
    have r_Y21 := Lib.hid (r_Y20.out.below b'); clear r_Y20
    have r_P21 := Lib.hid (r_P20.out.below b'); clear r_P20
    have r_Q21 := Lib.hid (r_Q20.out.below b'); clear r_Q20
    have r_M21 := Lib.hid (r_M20.out.below b'); clear r_M20
    have r_G21 := Lib.hid (r_G20.out.below b'); clear r_G20
    have r_K21 := Lib.hid (r_K20.out.below b'); clear r_K20
    have bx21 := Lib.hid (blk_below b' bx20.out); clear bx20
    have by_21 := Lib.hid (blk_below b' by_20.out); clear by_20
    have bp21 := Lib.hid (blk_below b' bp20.out); clear bp20
    have bq21 := Lib.hid (blk_below b' bq20.out); clear bq20
    have bm21 := Lib.hid (blk_below b' bm20.out); clear bm20
    have bg21 := Lib.hid (blk_below b' bg20.out); clear bg20
    have bk21 := Lib.hid (blk_below b' bk20.out); clear bk20
    have B21 := Lib.hid (B20.out.tr b'); clear B20
    clear b'
    have cbq := blk_cell bq21.out 0
    have qbq : ∀ t : Flow.Cls (Flow.Later w21), t.val.cell? _ = some (.slice Q AND.length q) := fun t => Flow.cls_cell cbq t
    have cbx := blk_cell bx21.out 0
    have qbx : ∀ t : Flow.Cls (Flow.Later w21), t.val.cell? _ = some (.slice X S.length x) := fun t => Flow.cls_cell cbx t
    haveI nonE := Flow.cls_nonempty w21
    rw [Flow.wpSegs_cons]
    simp only [Flow.pick, List.getElem?_toArray, List.getElem?_cons_succ, List.getElem?_cons_zero]
    repeat go_big_quiet_step (fail)
    refine wpQuiet_nil ?_
    clear nonE qbq cbq qbx cbx
    rw [Flow.callAt_eq]
    simp only [List.getElem?_toArray, List.getElem?_cons_succ, List.getElem?_cons_zero]
    rw [if_pos (by rfl)]
    refine Flow.wp_behind (fun K0 hK => ?_)
    go_wp2_with fail
    refine (HH2.out Q q _ (r_Q21.out.below (by first | exact Below.refl _ _ | exact below_new _ _))).mono ?_; rintro e w22 ⟨rfl, b⟩
    have b' : Below w21.heap.size w21 w22 := Below.tr (by first | exact Below.refl _ _ | exact below_new _ _) b
    clear b
    refine hK.out _ _ ⟨b', ?_⟩
    clear hK K0
    have ra22 := Lib.hid (ra21.out.below b'); clear ra21
    have rb22 := Lib.hid (rb21.out.below b'); clear rb21
    have r_X22 := Lib.hid (r_X21.out.below b'); clear r_X21
    have r_Y22 := Lib.hid (r_Y21.out.below b'); clear r_Y21
    have r_P22 := Lib.hid (r_P21.out.below b'); clear r_P21
    have r_Q22 := Lib.hid (r_Q21.out.below b'); clear r_Q21
    have r_M22 := Lib.hid (r_M21.out.below b'); clear r_M21
    have r_G22 := Lib.hid (r_G21.out.below b'); clear r_G21
    have r_K22 := Lib.hid (r_K21.out.below b'); clear r_K21
    have bx22 := Lib.hid (blk_below b' bx21.out); clear bx21
    have by_22 := Lib.hid (blk_below b' by_21.out); clear by_21
    have bp22 := Lib.hid (blk_below b' bp21.out); clear bp21
    have bq22 := Lib.hid (blk_below b' bq21.out); clear bq21
    have bm22 := Lib.hid (blk_below b' bm21.out); clear bm21
    have bg22 := Lib.hid (blk_below b' bg21.out); clear bg21
    have bk22 := Lib.hid (blk_below b' bk21.out); clear bk21
    have B22 := Lib.hid (B21.out.tr b'); clear B21
    clear b'
    haveI nonE := Flow.cls_nonempty w22
    rw [Flow.wpSegs_cons]
    simp only [Flow.pick]
    refine wpQuiet_nil ?_
    clear nonE 
    rw [Flow.callAt_eq]
    simp only [List.getElem?_toArray, List.getElem?_cons_succ, List.getElem?_cons_zero]
    rw [if_pos (by rfl)]
    refine Flow.wp_behind (fun K0 hK => ?_)
    go_wp2_with fail
    refine (HH4.out X x _ (r_X22.out.below (by first | exact Below.refl _ _ | exact below_new _ _))).mono ?_; rintro e w23 ⟨rfl, b⟩
    have b' : Below w22.heap.size w22 w23 := Below.tr (by first | exact Below.refl _ _ | exact below_new _ _) b
    clear b
    refine hK.out _ _ ⟨b', ?_⟩
    clear hK K0
    have ra23 := Lib.hid (ra22.out.below b'); clear ra22
    have rb23 := Lib.hid (rb22.out.below b'); clear rb22
    have r_X23 := Lib.hid (r_X22.out.below b'); clear r_X22
    have r_Y23 := Lib.hid (r_Y22.out.below b'); clear r_Y22
    have r_P23 := Lib.hid (r_P22.out.below b'); clear r_P22
    have r_Q23 := Lib.hid (r_Q22.out.below b'); clear r_Q22
    have r_M23 := Lib.hid (r_M22.out.below b'); clear r_M22
    have r_G23 := Lib.hid (r_G22.out.below b'); clear r_G22
    have r_K23 := Lib.hid (r_K22.out.below b'); clear r_K22
    have bx23 := Lib.hid (blk_below b' bx22.out); clear bx22
    have by_23 := Lib.hid (blk_below b' by_22.out); clear by_22
    have bp23 := Lib.hid (blk_below b' bp22.out); clear bp22
    have bq23 := Lib.hid (blk_below b' bq22.out); clear bq22
    have bm23 := Lib.hid (blk_below b' bm22.out); clear bm22
    have bg23 := Lib.hid (blk_below b' bg22.out); clear bg22
    have bk23 := Lib.hid (blk_below b' bk22.out); clear bk22
    have B23 := Lib.hid (B22.out.tr b'); clear B22
    clear b'
    have cby_ := blk_cell by_23.out 0
    have qby_ : ∀ t : Flow.Cls (Flow.Later w23), t.val.cell? _ = some (.slice Y T.length y) := fun t => Flow.cls_cell cby_ t
    haveI nonE := Flow.cls_nonempty w23
    rw [Flow.wpSegs_cons]
    simp only [Flow.pick, List.getElem?_toArray, List.getElem?_cons_succ, List.getElem?_cons_zero]
    repeat go_big_quiet_step (fail)
    refine wpQuiet_nil ?_
    clear nonE qby_ cby_
    rw [Flow.callAt_eq]
    simp only [List.getElem?_toArray, List.getElem?_cons_succ, List.getElem?_cons_zero]
    rw [if_neg (by exact Bool.false_ne_true)]
    simp only [Act.put, List.setIfInBounds_toArray, List.set_cons_succ, List.set_cons_zero]
    have cbm := blk_cell bm23.out 0
    have qbm : ∀ t : Flow.Cls (Flow.Later w23), t.val.cell? _ = some (.slice M MIN.length m) := fun t => Flow.cls_cell cbm t
    have cbx := blk_cell bx23.out 0
    have qbx : ∀ t : Flow.Cls (Flow.Later w23), t.val.cell? _ = some (.slice X S.length x) := fun t => Flow.cls_cell cbx t
    haveI nonE := Flow.cls_nonempty w23
    rw [Flow.wpSegs_cons]
    simp only [Flow.pick, List.getElem?_toArray, List.getElem?_cons_succ, List.getElem?_cons_zero]
    repeat go_big_quiet_step (fail)
    refine wpQuiet_nil ?_
    clear nonE qbm cbm qbx cbx
    rw [Flow.callAt_eq]
    simp only [List.getElem?_toArray, List.getElem?_cons_succ, List.getElem?_cons_zero]
    rw [if_pos (by rfl)]
    refine Flow.wp_behind (fun K0 hK => ?_)
    go_wp2_with fail
    refine (HH3.out M m _ (r_M23.out.below (by first | exact Below.refl _ _ | exact below_new _ _))).mono ?_; rintro e w24 ⟨rfl, b⟩
    have b' : Below w23.heap.size w23 w24 := Below.tr (by first | exact Below.refl _ _ | exact below_new _ _) b
    clear b
    refine hK.out _ _ ⟨b', ?_⟩
    clear hK K0
    have ra24 := Lib.hid (ra23.out.below b'); clear ra23
    have rb24 := Lib.hid (rb23.out.below b'); clear rb23
    have r_X24 := Lib.hid (r_X23.out.below b'); clear r_X23
    have r_Y24 := Lib.hid (r_Y23.out.below b'); clear r_Y23
    have r_P24 := Lib.hid (r_P23.out.below b'); clear r_P23
    have r_Q24 := Lib.hid (r_Q23.out.below b'); clear r_Q23
    have r_M24 := Lib.hid (r_M23.out.below b'); clear r_M23
    have r_G24 := Lib.hid (r_G23.out.below b'); clear r_G23
    have r_K24 := Lib.hid (r_K23.out.below b'); clear r_K23
    have bx24 := Lib.hid (blk_below b' bx23.out); clear bx23
    have by_24 := Lib.hid (blk_below b' by_23.out); clear by_23
    have bp24 := Lib.hid (blk_below b' bp23.out); clear bp23
    have bq24 := Lib.hid (blk_below b' bq23.out); clear bq23
    have bm24 := Lib.hid (blk_below b' bm23.out); clear bm23
    have bg24 := Lib.hid (blk_below b' bg23.out); clear bg23
    have bk24 := Lib.hid (blk_below b' bk23.out); clear bk23
    have B24 := Lib.hid (B23.out.tr b'); clear B23
    clear b'
    haveI nonE := Flow.cls_nonempty w24
    rw [Flow.wpSegs_cons]
    simp only [Flow.pick]
    refine wpQuiet_nil ?_
    clear nonE 
    rw [Flow.callAt_eq]
    simp only [List.getElem?_toArray, List.getElem?_cons_succ, List.getElem?_cons_zero]
    rw [if_pos (by rfl)]
    refine Flow.wp_behind (fun K0 hK => ?_)
    go_wp2_with fail
    refine (HH4.out X x _ (r_X24.out.below (by first | exact Below.refl _ _ | exact below_new _ _))).mono ?_; rintro e w25 ⟨rfl, b⟩
    have b' : Below w24.heap.size w24 w25 := Below.tr (by first | exact Below.refl _ _ | exact below_new _ _) b
    clear b
    refine hK.out _ _ ⟨b', ?_⟩
    clear hK K0
    have ra25 := Lib.hid (ra24.out.below b'); clear ra24
    have rb25 := Lib.hid (rb24.out.below b'); clear rb24
    have r_X25 := Lib.hid (r_X24.out.below b'); clear r_X24
    have r_Y25 := Lib.hid (r_Y24.out.below b'); clear r_Y24
    have r_P25 := Lib.hid (r_P24.out.below b'); clear r_P24
    have r_Q25 := Lib.hid (r_Q24.out.below b'); clear r_Q24
    have r_M25 := Lib.hid (r_M24.out.below b'); clear r_M24
    have r_G25 := Lib.hid (r_G24.out.below b'); clear r_G24
    have r_K25 := Lib.hid (r_K24.out.below b'); clear r_K24
    have bx25 := Lib.hid (blk_below b' bx24.out); clear bx24
    have by_25 := Lib.hid (blk_below b' by_24.out); clear by_24
    have bp25 := Lib.hid (blk_below b' bp24.out); clear bp24
    have bq25 := Lib.hid (blk_below b' bq24.out); clear bq24
    have bm25 := Lib.hid (blk_below b' bm24.out); clear bm24
    have bg25 := Lib.hid (blk_below b' bg24.out); clear bg24
    have bk25 := Lib.hid (blk_below b' bk24.out); clear bk24
    have B25 := Lib.hid (B24.out.tr b'); clear B24
    clear b'
    have cby_ := blk_cell by_25.out 0
    have qby_ : ∀ t : Flow.Cls (Flow.Later w25), t.val.cell? _ = some (.slice Y T.length y) := fun t => Flow.cls_cell cby_ t
    haveI nonE := Flow.cls_nonempty w25
    rw [Flow.wpSegs_cons]
    simp only [Flow.pick, List.getElem?_toArray, List.getElem?_cons_succ, List.getElem?_cons_zero]
    repeat go_big_quiet_step (fail)
    refine wpQuiet_nil ?_
    clear nonE qby_ cby_
    rw [Flow.callAt_eq]
    simp only [List.getElem?_toArray, List.getElem?_cons_succ, List.getElem?_cons_zero]
    rw [if_neg (by exact Bool.false_ne_true)]
    simp only [Act.put, List.setIfInBounds_toArray, List.set_cons_succ, List.set_cons_zero]
    have cbg := blk_cell bg25.out 0
    have qbg : ∀ t : Flow.Cls (Flow.Later w25), t.val.cell? _ = some (.slice G S.length g) := fun t => Flow.cls_cell cbg t
    have cbx := blk_cell bx25.out 0
    have qbx : ∀ t : Flow.Cls (Flow.Later w25), t.val.cell? _ = some (.slice X S.length x) := fun t => Flow.cls_cell cbx t
    haveI nonE := Flow.cls_nonempty w25
    rw [Flow.wpSegs_cons]
    simp only [Flow.pick, List.getElem?_toArray, List.getElem?_cons_succ, List.getElem?_cons_zero]
    repeat go_big_quiet_step (fail)
    refine wpQuiet_nil ?_
    clear nonE qbg cbg qbx cbx
    rw [Flow.callAt_eq]
    simp only [List.getElem?_toArray, List.getElem?_cons_succ, List.getElem?_cons_zero]
    rw [if_pos (by rfl)]
    refine Flow.wp_behind (fun K0 hK => ?_)
    go_wp2_with fail
    refine (HE1.out G X g x _ (r_G25.out.below (by first | exact Below.refl _ _ | exact below_new _ _)) (r_X25.out.below (by first | exact Below.refl _ _ | exact below_new _ _))).mono ?_; rintro e w26 ⟨rfl, b⟩
    have b' : Below w25.heap.size w25 w26 := Below.tr (by first | exact Below.refl _ _ | exact below_new _ _) b
    clear b
    refine hK.out _ _ ⟨b', ?_⟩
    clear hK K0
    have ra26 := Lib.hid (ra25.out.below b'); clear ra25
    have rb26 := Lib.hid (rb25.out.below b'); clear rb25
    have r_X26 := Lib.hid (r_X25.out.below b'); clear r_X25
    have r_Y26 := Lib.hid (r_Y25.out.below b'); clear r_Y25
    have r_P26 := Lib.hid (r_P25.out.below b'); clear r_P25
    have r_Q26 := Lib.hid (r_Q25.out.below b'); clear r_Q25
    have r_M26 := Lib.hid (r_M25.out.below b'); clear r_M25
    have r_G26 := Lib.hid (r_G25.out.below b'); clear r_G25
    have r_K26 := Lib.hid (r_K25.out.below b'); clear r_K25
    have bx26 := Lib.hid (blk_below b' bx25.out); clear bx25
    have by_26 := Lib.hid (blk_below b' by_25.out); clear by_25
    have bp26 := Lib.hid (blk_below b' bp25.out); clear bp25
    have bq26 := Lib.hid (blk_below b' bq25.out); clear bq25
    have bm26 := Lib.hid (blk_below b' bm25.out); clear bm25
    have bg26 := Lib.hid (blk_below b' bg25.out); clear bg25
    have bk26 := Lib.hid (blk_below b' bk25.out); clear bk25
    have B26 := Lib.hid (B25.out.tr b'); clear B25
    clear b'
    have cbk := blk_cell bk26.out 0
    have qbk : ∀ t : Flow.Cls (Flow.Later w26), t.val.cell? _ = some (.slice K OR.length kk) := fun t => Flow.cls_cell cbk t
    have cbp := blk_cell bp26.out 0
    have qbp : ∀ t : Flow.Cls (Flow.Later w26), t.val.cell? _ = some (.slice P OR.length p) := fun t => Flow.cls_cell cbp t
    haveI nonE := Flow.cls_nonempty w26
    rw [Flow.wpSegs_cons]
    simp only [Flow.pick, List.getElem?_toArray, List.getElem?_cons_succ, List.getElem?_cons_zero]
    repeat go_big_quiet_step (fail)
    refine wpQuiet_nil ?_
    clear nonE qbk cbk qbp cbp
    rw [Flow.callAt_eq]
    simp only [List.getElem?_toArray, List.getElem?_cons_succ, List.getElem?_cons_zero]
    rw [if_pos (by rfl)]
    refine Flow.wp_behind (fun K0 hK => ?_)
    go_wp2_with fail
    refine (HE2.out K P kk p _ (r_K26.out.below (by first | exact Below.refl _ _ | exact below_new _ _)) (r_P26.out.below (by first | exact Below.refl _ _ | exact below_new _ _))).mono ?_; rintro e w27 ⟨rfl, b⟩
    have b' : Below w26.heap.size w26 w27 := Below.tr (by first | exact Below.refl _ _ | exact below_new _ _) b
    clear b
    refine hK.out _ _ ⟨b', ?_⟩
    clear hK K0
    have ra27 := Lib.hid (ra26.out.below b'); clear ra26
    have rb27 := Lib.hid (rb26.out.below b'); clear rb26
    have r_X27 := Lib.hid (r_X26.out.below b'); clear r_X26
    have r_Y27 := Lib.hid (r_Y26.out.below b'); clear r_Y26
    have r_P27 := Lib.hid (r_P26.out.below b'); clear r_P26
    have r_Q27 := Lib.hid (r_Q26.out.below b'); clear r_Q26
    have r_M27 := Lib.hid (r_M26.out.below b'); clear r_M26
    have r_G27 := Lib.hid (r_G26.out.below b'); clear r_G26
    have r_K27 := Lib.hid (r_K26.out.below b'); clear r_K26
    have bx27 := Lib.hid (blk_below b' bx26.out); clear bx26
    have by_27 := Lib.hid (blk_below b' by_26.out); clear by_26
    have bp27 := Lib.hid (blk_below b' bp26.out); clear bp26
    have bq27 := Lib.hid (blk_below b' bq26.out); clear bq26
    have bm27 := Lib.hid (blk_below b' bm26.out); clear bm26
    have bg27 := Lib.hid (blk_below b' bg26.out); clear bg26
    have bk27 := Lib.hid (blk_below b' bk26.out); clear bk26
    have B27 := Lib.hid (B26.out.tr b'); clear B26
    clear b'
    have cbp := blk_cell bp27.out 0
    have qbp : ∀ t : Flow.Cls (Flow.Later w27), t.val.cell? _ = some (.slice P OR.length p) := fun t => Flow.cls_cell cbp t
    have cbq := blk_cell bq27.out 0
    have qbq : ∀ t : Flow.Cls (Flow.Later w27), t.val.cell? _ = some (.slice Q AND.length q) := fun t => Flow.cls_cell cbq t
    have cbx := blk_cell bx27.out 0
    have qbx : ∀ t : Flow.Cls (Flow.Later w27), t.val.cell? _ = some (.slice X S.length x) := fun t => Flow.cls_cell cbx t
    have cby_ := blk_cell by_27.out 0
    have qby_ : ∀ t : Flow.Cls (Flow.Later w27), t.val.cell? _ = some (.slice Y T.length y) := fun t => Flow.cls_cell cby_ t
    haveI nonE := Flow.cls_nonempty w27
    rw [Flow.wpSegs_cons]
    simp only [Flow.pick, List.getElem?_toArray, List.getElem?_cons_succ, List.getElem?_cons_zero]
    repeat go_big_quiet_step (fail)
    refine wpQuiet_nil ?_
    clear nonE qbp cbp qbq cbq qbx cbx qby_ cby_
    rw [Flow.callAt_eq]
    simp only [List.getElem?_toArray, List.getElem?_cons_succ, List.getElem?_cons_zero]
    rw [if_pos (by rfl)]
    refine Flow.wp_behind (fun K0 hK => ?_)
    go_wp2_with fail
    refine (HC1.out P p _ (r_P27.out.below (by first | exact Below.refl _ _ | exact below_new _ _))).mono ?_; rintro e w28 ⟨rfl, b⟩
    have b' : Below w27.heap.size w27 w28 := Below.tr (by first | exact Below.refl _ _ | exact below_new _ _) b
    clear b
    refine hK.out _ _ ⟨b', ?_⟩
    clear hK K0
    have ra28 := Lib.hid (ra27.out.below b'); clear ra27
    have rb28 := Lib.hid (rb27.out.below b'); clear rb27
    have r_X28 := Lib.hid (r_X27.out.below b'); clear r_X27
    have r_Y28 := Lib.hid (r_Y27.out.below b'); clear r_Y27
    have r_P28 := Lib.hid (r_P27.out.below b'); clear r_P27
    have r_Q28 := Lib.hid (r_Q27.out.below b'); clear r_Q27
    have r_M28 := Lib.hid (r_M27.out.below b'); clear r_M27
    have r_G28 := Lib.hid (r_G27.out.below b'); clear r_G27
    have r_K28 := Lib.hid (r_K27.out.below b'); clear r_K27
    have bx28 := Lib.hid (blk_below b' bx27.out); clear bx27
    have by_28 := Lib.hid (blk_below b' by_27.out); clear by_27
    have bp28 := Lib.hid (blk_below b' bp27.out); clear bp27
    have bq28 := Lib.hid (blk_below b' bq27.out); clear bq27
    have bm28 := Lib.hid (blk_below b' bm27.out); clear bm27
    have bg28 := Lib.hid (blk_below b' bg27.out); clear bg27
    have bk28 := Lib.hid (blk_below b' bk27.out); clear bk27
    have B28 := Lib.hid (B27.out.tr b'); clear B27
    clear b'
    haveI nonE := Flow.cls_nonempty w28
    rw [Flow.wpSegs_cons]
    simp only [Flow.pick]
    refine wpQuiet_nil ?_
    clear nonE 
    rw [Flow.callAt_eq]
    simp only [List.getElem?_toArray, List.getElem?_cons_succ, List.getElem?_cons_zero]
    rw [if_pos (by rfl)]
    refine Flow.wp_behind (fun K0 hK => ?_)
    go_wp2_with fail
    refine (HC2.out Q q _ (r_Q28.out.below (by first | exact Below.refl _ _ | exact below_new _ _))).mono ?_; rintro e w29 ⟨rfl, b⟩
    have b' : Below w28.heap.size w28 w29 := Below.tr (by first | exact Below.refl _ _ | exact below_new _ _) b
    clear b
    refine hK.out _ _ ⟨b', ?_⟩
    clear hK K0
    have ra29 := Lib.hid (ra28.out.below b'); clear ra28
    have rb29 := Lib.hid (rb28.out.below b'); clear rb28
    have r_X29 := Lib.hid (r_X28.out.below b'); clear r_X28
    have r_Y29 := Lib.hid (r_Y28.out.below b'); clear r_Y28
    have r_P29 := Lib.hid (r_P28.out.below b'); clear r_P28
    have r_Q29 := Lib.hid (r_Q28.out.below b'); clear r_Q28
    have r_M29 := Lib.hid (r_M28.out.below b'); clear r_M28
    have r_G29 := Lib.hid (r_G28.out.below b'); clear r_G28
    have r_K29 := Lib.hid (r_K28.out.below b'); clear r_K28
    have bx29 := Lib.hid (blk_below b' bx28.out); clear bx28
    have by_29 := Lib.hid (blk_below b' by_28.out); clear by_28
    have bp29 := Lib.hid (blk_below b' bp28.out); clear bp28
    have bq29 := Lib.hid (blk_below b' bq28.out); clear bq28
    have bm29 := Lib.hid (blk_below b' bm28.out); clear bm28
    have bg29 := Lib.hid (blk_below b' bg28.out); clear bg28
    have bk29 := Lib.hid (blk_below b' bk28.out); clear bk28
    have B29 := Lib.hid (B28.out.tr b'); clear B28
    clear b'
    haveI nonE := Flow.cls_nonempty w29
    rw [Flow.wpSegs_cons]
    simp only [Flow.pick, List.getElem?_toArray, List.getElem?_cons_succ, List.getElem?_cons_zero]
    repeat go_big_quiet_step (fail)
    refine wpQuiet_nil ?_
    clear nonE 
    rw [Flow.callAt_eq]
    simp only [List.getElem?_toArray, List.getElem?_cons_succ, List.getElem?_cons_zero]
    rw [if_pos (by rfl)]
    refine Flow.wp_behind (fun K0 hK => ?_)
    go_wp2_with fail
    refine (HC3.out X x _ (r_X29.out.below (by first | exact Below.refl _ _ | exact below_new _ _))).mono ?_; rintro e w30 ⟨rfl, b⟩
    have b' : Below w29.heap.size w29 w30 := Below.tr (by first | exact Below.refl _ _ | exact below_new _ _) b
    clear b
    refine hK.out _ _ ⟨b', ?_⟩
    clear hK K0
    have ra30 := Lib.hid (ra29.out.below b'); clear ra29
    have rb30 := Lib.hid (rb29.out.below b'); clear rb29
    have r_X30 := Lib.hid (r_X29.out.below b'); clear r_X29
    have r_Y30 := Lib.hid (r_Y29.out.below b'); clear r_Y29
    have r_P30 := Lib.hid (r_P29.out.below b'); clear r_P29
    have r_Q30 := Lib.hid (r_Q29.out.below b'); clear r_Q29
    have r_M30 := Lib.hid (r_M29.out.below b'); clear r_M29
    have r_G30 := Lib.hid (r_G29.out.below b'); clear r_G29
    have r_K30 := Lib.hid (r_K29.out.below b'); clear r_K29
    have bx30 := Lib.hid (blk_below b' bx29.out); clear bx29
    have by_30 := Lib.hid (blk_below b' by_29.out); clear by_29
    have bp30 := Lib.hid (blk_below b' bp29.out); clear bp29
    have bq30 := Lib.hid (blk_below b' bq29.out); clear bq29
    have bm30 := Lib.hid (blk_below b' bm29.out); clear bm29
    have bg30 := Lib.hid (blk_below b' bg29.out); clear bg29
    have bk30 := Lib.hid (blk_below b' bk29.out); clear bk29
    have B30 := Lib.hid (B29.out.tr b'); clear B29
    clear b'
    haveI nonE := Flow.cls_nonempty w30
    rw [Flow.wpSegs_cons]
    simp only [Flow.pick]
    refine wpQuiet_nil ?_
    clear nonE 
    rw [Flow.callAt_eq]
    simp only [List.getElem?_toArray, List.getElem?_cons_succ, List.getElem?_cons_zero]
    rw [if_pos (by rfl)]
    refine Flow.wp_behind (fun K0 hK => ?_)
    go_wp2_with fail
    refine (HC4.out Y y _ (r_Y30.out.below (by first | exact Below.refl _ _ | exact below_new _ _))).mono ?_; rintro e w31 ⟨rfl, b⟩
    have b' : Below w30.heap.size w30 w31 := Below.tr (by first | exact Below.refl _ _ | exact below_new _ _) b
    clear b
    refine hK.out _ _ ⟨b', ?_⟩
    clear hK K0
    have ra31 := Lib.hid (ra30.out.below b'); clear ra30
    have rb31 := Lib.hid (rb30.out.below b'); clear rb30
    have r_X31 := Lib.hid (r_X30.out.below b'); clear r_X30
    have r_Y31 := Lib.hid (r_Y30.out.below b'); clear r_Y30
    have r_P31 := Lib.hid (r_P30.out.below b'); clear r_P30
    have r_Q31 := Lib.hid (r_Q30.out.below b'); clear r_Q30
    have r_M31 := Lib.hid (r_M30.out.below b'); clear r_M30
    have r_G31 := Lib.hid (r_G30.out.below b'); clear r_G30
    have r_K31 := Lib.hid (r_K30.out.below b'); clear r_K30
    have bx31 := Lib.hid (blk_below b' bx30.out); clear bx30
    have by_31 := Lib.hid (blk_below b' by_30.out); clear by_30
    have bp31 := Lib.hid (blk_below b' bp30.out); clear bp30
    have bq31 := Lib.hid (blk_below b' bq30.out); clear bq30
    have bm31 := Lib.hid (blk_below b' bm30.out); clear bm30
    have bg31 := Lib.hid (blk_below b' bg30.out); clear bg30
    have bk31 := Lib.hid (blk_below b' bk30.out); clear bk30
    have B31 := Lib.hid (B30.out.tr b'); clear B30
    clear b'
    haveI nonE := Flow.cls_nonempty w31
    rw [Flow.wpSegs_nil]
    simp only [Flow.pick, List.getElem?_toArray, List.getElem?_cons_succ, List.getElem?_cons_zero]
    repeat go_big_quiet_step (fail)
    refine wpQuiet_nil ?_
    clear nonE 
    go_wp2_with fail
    go_ret
    exact ⟨rfl, (B31.out.tr (by first | exact Below.refl _ _ | exact below_new _ _))⟩
  · go_enter Tryz.func6, Tryz.ntmps6
    go_wp2_with fail
    refine (HK.out _ (by first | exact Below.refl _ _ | exact below_new _ _)).mono ?_; rintro e w1 ⟨rfl, b⟩
    have b' : Below w.heap.size w w1 := Below.tr (by first | exact Below.refl _ _ | exact below_new _ _) b
    clear b
    have ra1 := Lib.hid (RA.out.below b'); clear RA
    have rb1 := Lib.hid (RB.out.below b'); clear RB
    have B1 := Lib.hid b'
    clear b'
    go_wp2_with fail
    refine (HO1.out _ (ra1.out.below (by first | exact Below.refl _ _ | exact below_new _ _))).mono ?_; rintro e w2 ⟨O1, o1, rfl, ho, b⟩
    have b' : Below w1.heap.size w1 w2 := Below.tr (by first | exact Below.refl _ _ | exact below_new _ _) b
    clear b
    have ra2 := Lib.hid (ra1.out.below b'); clear ra1
    have rb2 := Lib.hid (rb1.out.below b'); clear rb1
    have B2 := Lib.hid (B1.out.tr b'); clear B1
    clear b'
    have o_O12 := Lib.hid ((RdR.of_own ho).1)
    have s_O1 := Lib.hid (SlR.of_own ho); clear ho
    go_wp2_with fail
    refine (HF1.out O1 o1 _ (o_O12.out.below (by first | exact Below.refl _ _ | exact below_new _ _)) s_O1.out).mono ?_; rintro e w3 ⟨X, x, rfl, hR, hs', ht', b⟩
    have b' : Below w2.heap.size w2 w3 := Below.tr (by first | exact Below.refl _ _ | exact below_new _ _) b
    clear b
    have ra3 := Lib.hid (ra2.out.below b'); clear ra2
    have rb3 := Lib.hid (rb2.out.below b'); clear rb2
    have o_O13 := Lib.hid (o_O12.out.below b'); clear o_O12
    have B3 := Lib.hid (B2.out.tr b'); clear B2
    clear b'
    have r_X3 := Lib.hid hR; clear hR
    clear hs' ht'
    clear o_O13
    go_wp2_with fail
    have ra4 := Lib.hid (ra3.out.below (below_new w3 (.cells #[.slice X S.length x] 26))); clear ra3
    have rb4 := Lib.hid (rb3.out.below (below_new w3 (.cells #[.slice X S.length x] 26))); clear rb3
    have r_X4 := Lib.hid (r_X3.out.below (below_new w3 (.cells #[.slice X S.length x] 26))); clear r_X3
    have B4 := Lib.hid (B3.out.tr (below_new w3 (.cells #[.slice X S.length x] 26))); clear B3
    have bx4 := Lib.hid (blk_new w3 (.cells #[.slice X S.length x] 26))
    refine (HO2.out _ (rb4.out.below (by first | exact Below.refl _ _ | exact below_new _ _))).mono ?_; rintro e w5 ⟨O2, o2, rfl, ho, b⟩
    have b' : Below (w3.alloc (.cells #[.slice X S.length x] 26)).heap.size (w3.alloc (.cells #[.slice X S.length x] 26)) w5 := Below.tr (by first | exact Below.refl _ _ | exact below_new _ _) b
    clear b
    have ra5 := Lib.hid (ra4.out.below b'); clear ra4
    have rb5 := Lib.hid (rb4.out.below b'); clear rb4
    have r_X5 := Lib.hid (r_X4.out.below b'); clear r_X4
    have bx5 := Lib.hid (blk_below b' bx4.out); clear bx4
    have B5 := Lib.hid (B4.out.tr b'); clear B4
    clear b'
    have o_O25 := Lib.hid ((RdR.of_own ho).1)
    have s_O2 := Lib.hid (SlR.of_own ho); clear ho
    go_wp2_with fail
    refine (HF2.out O2 o2 _ (o_O25.out.below (by first | exact Below.refl _ _ | exact below_new _ _)) s_O2.out).mono ?_; rintro e w6 ⟨Y, y, rfl, hR, hs', ht', b⟩
    have b' : Below w5.heap.size w5 w6 := Below.tr (by first | exact Below.refl _ _ | exact below_new _ _) b
    clear b
    have ra6 := Lib.hid (ra5.out.below b'); clear ra5
    have rb6 := Lib.hid (rb5.out.below b'); clear rb5
    have r_X6 := Lib.hid (r_X5.out.below b'); clear r_X5
    have o_O26 := Lib.hid (o_O25.out.below b'); clear o_O25
    have bx6 := Lib.hid (blk_below b' bx5.out); clear bx5
    have B6 := Lib.hid (B5.out.tr b'); clear B5
    clear b'
    have r_Y6 := Lib.hid hR; clear hR
    clear hs' ht'
    clear o_O26
    have cbx := blk_cell bx6.out 0
    have pbx := blk_lt bx6.out
    go_wp2_with fail
    clear cbx pbx
    have ra7 := Lib.hid (ra6.out.below (below_new w6 (.cells #[.slice Y T.length y] 26))); clear ra6
    have rb7 := Lib.hid (rb6.out.below (below_new w6 (.cells #[.slice Y T.length y] 26))); clear rb6
    have r_X7 := Lib.hid (r_X6.out.below (below_new w6 (.cells #[.slice Y T.length y] 26))); clear r_X6
    have r_Y7 := Lib.hid (r_Y6.out.below (below_new w6 (.cells #[.slice Y T.length y] 26))); clear r_Y6
    have bx7 := Lib.hid (blk_below (below_new w6 (.cells #[.slice Y T.length y] 26)) bx6.out); clear bx6
    have B7 := Lib.hid (B6.out.tr (below_new w6 (.cells #[.slice Y T.length y] 26))); clear B6
    have by_7 := Lib.hid (blk_new w6 (.cells #[.slice Y T.length y] 26))
    refine (HU1.out X x Y y _ (r_X7.out.below (by first | exact Below.refl _ _ | exact below_new _ _)) (r_Y7.out.below (by first | exact Below.refl _ _ | exact below_new _ _))).mono ?_; rintro e w8 ⟨P, p, rfl, hR, hs', ht', b⟩
    have b' : Below (w6.alloc (.cells #[.slice Y T.length y] 26)).heap.size (w6.alloc (.cells #[.slice Y T.length y] 26)) w8 := Below.tr (by first | exact Below.refl _ _ | exact below_new _ _) b
    clear b
    have ra8 := Lib.hid (ra7.out.below b'); clear ra7
    have rb8 := Lib.hid (rb7.out.below b'); clear rb7
    have r_X8 := Lib.hid (r_X7.out.below b'); clear r_X7
    have r_Y8 := Lib.hid (r_Y7.out.below b'); clear r_Y7
    have bx8 := Lib.hid (blk_below b' bx7.out); clear bx7
    have by_8 := Lib.hid (blk_below b' by_7.out); clear by_7
    have B8 := Lib.hid (B7.out.tr b'); clear B7
    clear b'
    have r_P8 := Lib.hid hR; clear hR
    clear hs' ht'
    have cbx := blk_cell bx8.out 0
    have pbx := blk_lt bx8.out
    have cby_ := blk_cell by_8.out 0
    have pby_ := blk_lt by_8.out
    go_wp2_with fail
    clear cbx pbx cby_ pby_
    have ra9 := Lib.hid (ra8.out.below (below_new w8 (.cells #[.slice P OR.length p] 26))); clear ra8
    have rb9 := Lib.hid (rb8.out.below (below_new w8 (.cells #[.slice P OR.length p] 26))); clear rb8
    have r_X9 := Lib.hid (r_X8.out.below (below_new w8 (.cells #[.slice P OR.length p] 26))); clear r_X8
    have r_Y9 := Lib.hid (r_Y8.out.below (below_new w8 (.cells #[.slice P OR.length p] 26))); clear r_Y8
    have r_P9 := Lib.hid (r_P8.out.below (below_new w8 (.cells #[.slice P OR.length p] 26))); clear r_P8
    have bx9 := Lib.hid (blk_below (below_new w8 (.cells #[.slice P OR.length p] 26)) bx8.out); clear bx8
    have by_9 := Lib.hid (blk_below (below_new w8 (.cells #[.slice P OR.length p] 26)) by_8.out); clear by_8
    have B9 := Lib.hid (B8.out.tr (below_new w8 (.cells #[.slice P OR.length p] 26))); clear B8
    have bp9 := Lib.hid (blk_new w8 (.cells #[.slice P OR.length p] 26))
    refine (HU2.out X x Y y _ (r_X9.out.below (by first | exact Below.refl _ _ | exact below_new _ _)) (r_Y9.out.below (by first | exact Below.refl _ _ | exact below_new _ _))).mono ?_; rintro e w10 ⟨Q, q, rfl, hR, hs', ht', b⟩
    have b' : Below (w8.alloc (.cells #[.slice P OR.length p] 26)).heap.size (w8.alloc (.cells #[.slice P OR.length p] 26)) w10 := Below.tr (by first | exact Below.refl _ _ | exact below_new _ _) b
    clear b
    have ra10 := Lib.hid (ra9.out.below b'); clear ra9
    have rb10 := Lib.hid (rb9.out.below b'); clear rb9
    have r_X10 := Lib.hid (r_X9.out.below b'); clear r_X9
    have r_Y10 := Lib.hid (r_Y9.out.below b'); clear r_Y9
    have r_P10 := Lib.hid (r_P9.out.below b'); clear r_P9
    have bx10 := Lib.hid (blk_below b' bx9.out); clear bx9
    have by_10 := Lib.hid (blk_below b' by_9.out); clear by_9
    have bp10 := Lib.hid (blk_below b' bp9.out); clear bp9
    have B10 := Lib.hid (B9.out.tr b'); clear B9
    clear b'
    have r_Q10 := Lib.hid hR; clear hR
    clear hs' ht'
    have cbx := blk_cell bx10.out 0
    have pbx := blk_lt bx10.out
    have cby_ := blk_cell by_10.out 0
    have pby_ := blk_lt by_10.out
    go_wp2_with fail
    clear cbx pbx cby_ pby_
    have ra11 := Lib.hid (ra10.out.below (below_new w10 (.cells #[.slice Q AND.length q] 26))); clear ra10
    have rb11 := Lib.hid (rb10.out.below (below_new w10 (.cells #[.slice Q AND.length q] 26))); clear rb10
    have r_X11 := Lib.hid (r_X10.out.below (below_new w10 (.cells #[.slice Q AND.length q] 26))); clear r_X10
    have r_Y11 := Lib.hid (r_Y10.out.below (below_new w10 (.cells #[.slice Q AND.length q] 26))); clear r_Y10
    have r_P11 := Lib.hid (r_P10.out.below (below_new w10 (.cells #[.slice Q AND.length q] 26))); clear r_P10
    have r_Q11 := Lib.hid (r_Q10.out.below (below_new w10 (.cells #[.slice Q AND.length q] 26))); clear r_Q10
    have bx11 := Lib.hid (blk_below (below_new w10 (.cells #[.slice Q AND.length q] 26)) bx10.out); clear bx10
    have by_11 := Lib.hid (blk_below (below_new w10 (.cells #[.slice Q AND.length q] 26)) by_10.out); clear by_10
    have bp11 := Lib.hid (blk_below (below_new w10 (.cells #[.slice Q AND.length q] 26)) bp10.out); clear bp10
    have B11 := Lib.hid (B10.out.tr (below_new w10 (.cells #[.slice Q AND.length q] 26))); clear B10
    have bq11 := Lib.hid (blk_new w10 (.cells #[.slice Q AND.length q] 26))
    refine (HU3.out X x Y y _ (r_X11.out.below (by first | exact Below.refl _ _ | exact below_new _ _)) (r_Y11.out.below (by first | exact Below.refl _ _ | exact below_new _ _))).mono ?_; rintro e w12 ⟨M, m, rfl, hR, hs', ht', b⟩
    have b' : Below (w10.alloc (.cells #[.slice Q AND.length q] 26)).heap.size (w10.alloc (.cells #[.slice Q AND.length q] 26)) w12 := Below.tr (by first | exact Below.refl _ _ | exact below_new _ _) b
    clear b
    have ra12 := Lib.hid (ra11.out.below b'); clear ra11
    have rb12 := Lib.hid (rb11.out.below b'); clear rb11
    have r_X12 := Lib.hid (r_X11.out.below b'); clear r_X11
    have r_Y12 := Lib.hid (r_Y11.out.below b'); clear r_Y11
    have r_P12 := Lib.hid (r_P11.out.below b'); clear r_P11
    have r_Q12 := Lib.hid (r_Q11.out.below b'); clear r_Q11
    have bx12 := Lib.hid (blk_below b' bx11.out); clear bx11
    have by_12 := Lib.hid (blk_below b' by_11.out); clear by_11
    have bp12 := Lib.hid (blk_below b' bp11.out); clear bp11
    have bq12 := Lib.hid (blk_below b' bq11.out); clear bq11
    have B12 := Lib.hid (B11.out.tr b'); clear B11
    clear b'
    have r_M12 := Lib.hid hR; clear hR
    clear hs' ht'
    have cbq := blk_cell bq12.out 0
    have pbq := blk_lt bq12.out
    go_wp2_with fail
    clear cbq pbq
    have ra13 := Lib.hid (ra12.out.below (below_new w12 (.cells #[.slice M MIN.length m] 26))); clear ra12
    have rb13 := Lib.hid (rb12.out.below (below_new w12 (.cells #[.slice M MIN.length m] 26))); clear rb12
    have r_X13 := Lib.hid (r_X12.out.below (below_new w12 (.cells #[.slice M MIN.length m] 26))); clear r_X12
    have r_Y13 := Lib.hid (r_Y12.out.below (below_new w12 (.cells #[.slice M MIN.length m] 26))); clear r_Y12
    have r_P13 := Lib.hid (r_P12.out.below (below_new w12 (.cells #[.slice M MIN.length m] 26))); clear r_P12
    have r_Q13 := Lib.hid (r_Q12.out.below (below_new w12 (.cells #[.slice M MIN.length m] 26))); clear r_Q12
    have r_M13 := Lib.hid (r_M12.out.below (below_new w12 (.cells #[.slice M MIN.length m] 26))); clear r_M12
    have bx13 := Lib.hid (blk_below (below_new w12 (.cells #[.slice M MIN.length m] 26)) bx12.out); clear bx12
    have by_13 := Lib.hid (blk_below (below_new w12 (.cells #[.slice M MIN.length m] 26)) by_12.out); clear by_12
    have bp13 := Lib.hid (blk_below (below_new w12 (.cells #[.slice M MIN.length m] 26)) bp12.out); clear bp12
    have bq13 := Lib.hid (blk_below (below_new w12 (.cells #[.slice M MIN.length m] 26)) bq12.out); clear bq12
    have B13 := Lib.hid (B12.out.tr (below_new w12 (.cells #[.slice M MIN.length m] 26))); clear B12
    have bm13 := Lib.hid (blk_new w12 (.cells #[.slice M MIN.length m] 26))
    refine (HU4.out M m Q q _ (r_M13.out.below (by first | exact Below.refl _ _ | exact below_new _ _)) (r_Q13.out.below (by first | exact Below.refl _ _ | exact below_new _ _))).mono ?_; rintro e w14 ⟨G, g, rfl, hR, hs', ht', b⟩
    have b' : Below (w12.alloc (.cells #[.slice M MIN.length m] 26)).heap.size (w12.alloc (.cells #[.slice M MIN.length m] 26)) w14 := Below.tr (by first | exact Below.refl _ _ | exact below_new _ _) b
    clear b
    have ra14 := Lib.hid (ra13.out.below b'); clear ra13
    have rb14 := Lib.hid (rb13.out.below b'); clear rb13
    have r_X14 := Lib.hid (r_X13.out.below b'); clear r_X13
    have r_Y14 := Lib.hid (r_Y13.out.below b'); clear r_Y13
    have r_P14 := Lib.hid (r_P13.out.below b'); clear r_P13
    have r_Q14 := Lib.hid (r_Q13.out.below b'); clear r_Q13
    have r_M14 := Lib.hid (r_M13.out.below b'); clear r_M13
    have bx14 := Lib.hid (blk_below b' bx13.out); clear bx13
    have by_14 := Lib.hid (blk_below b' by_13.out); clear by_13
    have bp14 := Lib.hid (blk_below b' bp13.out); clear bp13
    have bq14 := Lib.hid (blk_below b' bq13.out); clear bq13
    have bm14 := Lib.hid (blk_below b' bm13.out); clear bm13
    have B14 := Lib.hid (B13.out.tr b'); clear B13
    clear b'
    have r_G14 := Lib.hid hR; clear hR
    clear hs' ht'
    have cby_ := blk_cell by_14.out 0
    have pby_ := blk_lt by_14.out
    have cbx := blk_cell bx14.out 0
    have pbx := blk_lt bx14.out
    go_wp2_with fail
    clear cby_ pby_ cbx pbx
    have ra15 := Lib.hid (ra14.out.below (below_new w14 (.cells #[.slice G S.length g] 26))); clear ra14
    have rb15 := Lib.hid (rb14.out.below (below_new w14 (.cells #[.slice G S.length g] 26))); clear rb14
    have r_X15 := Lib.hid (r_X14.out.below (below_new w14 (.cells #[.slice G S.length g] 26))); clear r_X14
    have r_Y15 := Lib.hid (r_Y14.out.below (below_new w14 (.cells #[.slice G S.length g] 26))); clear r_Y14
    have r_P15 := Lib.hid (r_P14.out.below (below_new w14 (.cells #[.slice G S.length g] 26))); clear r_P14
    have r_Q15 := Lib.hid (r_Q14.out.below (below_new w14 (.cells #[.slice G S.length g] 26))); clear r_Q14
    have r_M15 := Lib.hid (r_M14.out.below (below_new w14 (.cells #[.slice G S.length g] 26))); clear r_M14
    have r_G15 := Lib.hid (r_G14.out.below (below_new w14 (.cells #[.slice G S.length g] 26))); clear r_G14
    have bx15 := Lib.hid (blk_below (below_new w14 (.cells #[.slice G S.length g] 26)) bx14.out); clear bx14
    have by_15 := Lib.hid (blk_below (below_new w14 (.cells #[.slice G S.length g] 26)) by_14.out); clear by_14
    have bp15 := Lib.hid (blk_below (below_new w14 (.cells #[.slice G S.length g] 26)) bp14.out); clear bp14
    have bq15 := Lib.hid (blk_below (below_new w14 (.cells #[.slice G S.length g] 26)) bq14.out); clear bq14
    have bm15 := Lib.hid (blk_below (below_new w14 (.cells #[.slice G S.length g] 26)) bm14.out); clear bm14
    have B15 := Lib.hid (B14.out.tr (below_new w14 (.cells #[.slice G S.length g] 26))); clear B14
    have bg15 := Lib.hid (blk_new w14 (.cells #[.slice G S.length g] 26))
    refine (HU5.out Y y X x _ (r_Y15.out.below (by first | exact Below.refl _ _ | exact below_new _ _)) (r_X15.out.below (by first | exact Below.refl _ _ | exact below_new _ _))).mono ?_; rintro e w16 ⟨K, kk, rfl, hR, hs', ht', b⟩
    have b' : Below (w14.alloc (.cells #[.slice G S.length g] 26)).heap.size (w14.alloc (.cells #[.slice G S.length g] 26)) w16 := Below.tr (by first | exact Below.refl _ _ | exact below_new _ _) b
    clear b
    have ra16 := Lib.hid (ra15.out.below b'); clear ra15
    have rb16 := Lib.hid (rb15.out.below b'); clear rb15
    have r_X16 := Lib.hid (r_X15.out.below b'); clear r_X15
    have r_Y16 := Lib.hid (r_Y15.out.below b'); clear r_Y15
    have r_P16 := Lib.hid (r_P15.out.below b'); clear r_P15
    have r_Q16 := Lib.hid (r_Q15.out.below b'); clear r_Q15
    have r_M16 := Lib.hid (r_M15.out.below b'); clear r_M15
    have r_G16 := Lib.hid (r_G15.out.below b'); clear r_G15
    have bx16 := Lib.hid (blk_below b' bx15.out); clear bx15
    have by_16 := Lib.hid (blk_below b' by_15.out); clear by_15
    have bp16 := Lib.hid (blk_below b' bp15.out); clear bp15
    have bq16 := Lib.hid (blk_below b' bq15.out); clear bq15
    have bm16 := Lib.hid (blk_below b' bm15.out); clear bm15
    have bg16 := Lib.hid (blk_below b' bg15.out); clear bg15
    have B16 := Lib.hid (B15.out.tr b'); clear B15
    clear b'
    have r_K16 := Lib.hid hR; clear hR
    clear hs' ht'
    go_wp2_with fail
    have ra17 := Lib.hid (ra16.out.below (below_new w16 (.cells #[.slice K OR.length kk] 26))); clear ra16
    have rb17 := Lib.hid (rb16.out.below (below_new w16 (.cells #[.slice K OR.length kk] 26))); clear rb16
    have r_X17 := Lib.hid (r_X16.out.below (below_new w16 (.cells #[.slice K OR.length kk] 26))); clear r_X16
    have r_Y17 := Lib.hid (r_Y16.out.below (below_new w16 (.cells #[.slice K OR.length kk] 26))); clear r_Y16
    have r_P17 := Lib.hid (r_P16.out.below (below_new w16 (.cells #[.slice K OR.length kk] 26))); clear r_P16
    have r_Q17 := Lib.hid (r_Q16.out.below (below_new w16 (.cells #[.slice K OR.length kk] 26))); clear r_Q16
    have r_M17 := Lib.hid (r_M16.out.below (below_new w16 (.cells #[.slice K OR.length kk] 26))); clear r_M16
    have r_G17 := Lib.hid (r_G16.out.below (below_new w16 (.cells #[.slice K OR.length kk] 26))); clear r_G16
    have r_K17 := Lib.hid (r_K16.out.below (below_new w16 (.cells #[.slice K OR.length kk] 26))); clear r_K16
    have bx17 := Lib.hid (blk_below (below_new w16 (.cells #[.slice K OR.length kk] 26)) bx16.out); clear bx16
    have by_17 := Lib.hid (blk_below (below_new w16 (.cells #[.slice K OR.length kk] 26)) by_16.out); clear by_16
    have bp17 := Lib.hid (blk_below (below_new w16 (.cells #[.slice K OR.length kk] 26)) bp16.out); clear bp16
    have bq17 := Lib.hid (blk_below (below_new w16 (.cells #[.slice K OR.length kk] 26)) bq16.out); clear bq16
    have bm17 := Lib.hid (blk_below (below_new w16 (.cells #[.slice K OR.length kk] 26)) bm16.out); clear bm16
    have bg17 := Lib.hid (blk_below (below_new w16 (.cells #[.slice K OR.length kk] 26)) bg16.out); clear bg16
    have B17 := Lib.hid (B16.out.tr (below_new w16 (.cells #[.slice K OR.length kk] 26))); clear B16
    have bk17 := Lib.hid (blk_new w16 (.cells #[.slice K OR.length kk] 26))
    have hqc := HQC.out
    dsimp only [List.append]
    refine Flow.wp_region_segs Flow.Later Flow.Later.refl Flow.Later.trans [([0, 1, 3, 4], 2), ([], 5), ([6, 7, 8], 9), ([10, 11, 12, 13, 14, 16, 17], 15), ([], 18), ([19, 20, 21], 22), ([23, 24, 25, 26, 27, 28, 30, 31], 29), ([], 32), ([33, 34, 35], 36), ([37, 38, 39, 40, 41, 42, 43], 44), ([45, 46, 47, 48], 49), ([50, 51, 52, 54, 57, 59], 53), ([], 55), ([56], 58), ([], 60)] [61, 62, 63, 64] (by kernel_rfl) (by kernel_rfl) ?_
    have b' : Below (w16.alloc (.cells #[.slice K OR.length kk] 26)).heap.size (w16.alloc (.cells #[.slice K OR.length kk] 26)) (World.drew (w16.alloc (.cells #[.slice K OR.length kk] 26))) := (Below.refl _ _).drew
    have ra18 := Lib.hid (ra17.out.below b'); clear ra17
    have rb18 := Lib.hid (rb17.out.below b'); clear rb17
    have r_X18 := Lib.hid (r_X17.out.below b'); clear r_X17
    have r_Y18 := Lib.hid (r_Y17.out.below b'); clear r_Y17
    have r_P18 := Lib.hid (r_P17.out.below b'); clear r_P17
    have r_Q18 := Lib.hid (r_Q17.out.below b'); clear r_Q17
    have r_M18 := Lib.hid (r_M17.out.below b'); clear r_M17
    have r_G18 := Lib.hid (r_G17.out.below b'); clear r_G17
    have r_K18 := Lib.hid (r_K17.out.below b'); clear r_K17
    have bx18 := Lib.hid (blk_below b' bx17.out); clear bx17
    have by_18 := Lib.hid (blk_below b' by_17.out); clear by_17
    have bp18 := Lib.hid (blk_below b' bp17.out); clear bp17
    have bq18 := Lib.hid (blk_below b' bq17.out); clear bq17
    have bm18 := Lib.hid (blk_below b' bm17.out); clear bm17
    have bg18 := Lib.hid (blk_below b' bg17.out); clear bg17
    have bk18 := Lib.hid (blk_below b' bk17.out); clear bk17
    have B18 := Lib.hid (B17.out.tr b'); clear B17
    clear b'
    generalize World.drew _ = w18 at *
    have cbp := blk_cell bp18.out 0
    have qbp : ∀ t : Flow.Cls (Flow.Later w18), t.val.cell? _ = some (.slice P OR.length p) := fun t => Flow.cls_cell cbp t
    have cbx := blk_cell bx18.out 0
    have qbx : ∀ t : Flow.Cls (Flow.Later w18), t.val.cell? _ = some (.slice X S.length x) := fun t => Flow.cls_cell cbx t
    haveI nonE := Flow.cls_nonempty w18
    rw [Flow.wpSegs_cons]
    simp only [Flow.pick, List.getElem?_toArray, List.getElem?_cons_succ, List.getElem?_cons_zero]
    repeat go_big_quiet_step (fail)
    refine wpQuiet_nil ?_
    clear nonE qbp cbp qbx cbx
    rw [Flow.callAt_eq]
    simp only [List.getElem?_toArray, List.getElem?_cons_succ, List.getElem?_cons_zero]
    rw [if_pos (by rfl)]
    refine Flow.wp_behind (fun K0 hK => ?_)
    go_wp2_with fail
    refine (HH1.out P p _ (r_P18.out.below (by first | exact Below.refl _ _ | exact below_new _ _))).mono ?_; rintro e w19 ⟨rfl, b⟩
    have b' : Below w18.heap.size w18 w19 := Below.tr (by first | exact Below.refl _ _ | exact below_new _ _) b
    clear b
    refine hK.out _ _ ⟨b', ?_⟩
    clear hK K0
    have ra19 := Lib.hid (ra18.out.below b'); clear ra18
    have rb19 := Lib.hid (rb18.out.below b'); clear rb18
    have r_X19 := Lib.hid (r_X18.out.below b'); clear r_X18
    have r_Y19 := Lib.hid (r_Y18.out.below b'); clear r_Y18
    have r_P19 := Lib.hid (r_P18.out.below b'); clear r_P18
    have r_Q19 := Lib.hid (r_Q18.out.below b'); clear r_Q18
    have r_M19 := Lib.hid (r_M18.out.below b'); clear r_M18
    have r_G19 := Lib.hid (r_G18.out.below b'); clear r_G18
    have r_K19 := Lib.hid (r_K18.out.below b'); clear r_K18
    have bx19 := Lib.hid (blk_below b' bx18.out); clear bx18
    have by_19 := Lib.hid (blk_below b' by_18.out); clear by_18
    have bp19 := Lib.hid (blk_below b' bp18.out); clear bp18
    have bq19 := Lib.hid (blk_below b' bq18.out); clear bq18
    have bm19 := Lib.hid (blk_below b' bm18.out); clear bm18
    have bg19 := Lib.hid (blk_below b' bg18.out); clear bg18
    have bk19 := Lib.hid (blk_below b' bk18.out); clear bk18
    have B19 := Lib.hid (B18.out.tr b'); clear B18
    clear b'
    haveI nonE := Flow.cls_nonempty w19
    rw [Flow.wpSegs_cons]
    simp only [Flow.pick]
    refine wpQuiet_nil ?_
    clear nonE 
    rw [Flow.callAt_eq]
    simp only [List.getElem?_toArray, List.getElem?_cons_succ, List.getElem?_cons_zero]
    rw [if_pos (by rfl)]
    refine Flow.wp_behind (fun K0 hK => ?_)
    go_wp2_with fail
    refine (HH4.out X x _ (r_X19.out.below (by first | exact Below.refl _ _ | exact below_new _ _))).mono ?_; rintro e w20 ⟨rfl, b⟩
    have b' : Below w19.heap.size w19 w20 := Below.tr (by first | exact Below.refl _ _ | exact below_new _ _) b
    clear b
    refine hK.out _ _ ⟨b', ?_⟩
    clear hK K0
    have ra20 := Lib.hid (ra19.out.below b'); clear ra19
    have rb20 := Lib.hid (rb19.out.below b'); clear rb19
    have r_X20 := Lib.hid (r_X19.out.below b'); clear r_X19
    have r_Y20 := Lib.hid (r_Y19.out.below b'); clear r_Y19
    have r_P20 := Lib.hid (r_P19.out.below b'); clear r_P19
    have r_Q20 := Lib.hid (r_Q19.out.below b'); clear r_Q19
    have r_M20 := Lib.hid (r_M19.out.below b'); clear r_M19
    have r_G20 := Lib.hid (r_G19.out.below b'); clear r_G19
    have r_K20 := Lib.hid (r_K19.out.below b'); clear r_K19
    have bx20 := Lib.hid (blk_below b' bx19.out); clear bx19
    have by_20 := Lib.hid (blk_below b' by_19.out); clear by_19
    have bp20 := Lib.hid (blk_below b' bp19.out); clear bp19
    have bq20 := Lib.hid (blk_below b' bq19.out); clear bq19
    have bm20 := Lib.hid (blk_below b' bm19.out); clear bm19
    have bg20 := Lib.hid (blk_below b' bg19.out); clear bg19
    have bk20 := Lib.hid (blk_below b' bk19.out); clear bk19
    have B20 := Lib.hid (B19.out.tr b'); clear B19
    clear b'
    have cby_ := blk_cell by_20.out 0
    have qby_ : ∀ t : Flow.Cls (Flow.Later w20), t.val.cell? _ = some (.slice Y T.length y) := fun t => Flow.cls_cell cby_ t
    haveI nonE := Flow.cls_nonempty w20
    rw [Flow.wpSegs_cons]
    simp only [Flow.pick, List.getElem?_toArray, List.getElem?_cons_succ, List.getElem?_cons_zero]
    repeat go_big_quiet_step (fail)
    refine wpQuiet_nil ?_
    clear nonE qby_ cby_
    rw [Flow.callAt_eq]
    simp only [List.getElem?_toArray, List.getElem?_cons_succ, List.getElem?_cons_zero]
    rw [if_neg (by exact Bool.false_ne_true)]
    simp only [Act.put, List.setIfInBounds_toArray, List.set_cons_succ, List.set_cons_zero]
    have cbq := blk_cell bq20.out 0
    have qbq : ∀ t : Flow.Cls (Flow.Later w20), t.val.cell? _ = some (.slice Q AND.length q) := fun t => Flow.cls_cell cbq t
    have cbx := blk_cell bx20.out 0
    have qbx : ∀ t : Flow.Cls (Flow.Later w20), t.val.cell? _ = some (.slice X S.length x) := fun t => Flow.cls_cell cbx t
    haveI nonE := Flow.cls_nonempty w20
    rw [Flow.wpSegs_cons]
    simp only [Flow.pick, List.getElem?_toArray, List.getElem?_cons_succ, List.getElem?_cons_zero]
    repeat go_big_quiet_step (fail)
    refine wpQuiet_nil ?_
    clear nonE qbq cbq qbx cbx
    rw [Flow.callAt_eq]
    simp only [List.getElem?_toArray, List.getElem?_cons_succ, List.getElem?_cons_zero]
    rw [if_pos (by rfl)]
    refine Flow.wp_behind (fun K0 hK => ?_)
    go_wp2_with fail
    refine (HH2.out Q q _ (r_Q20.out.below (by first | exact Below.refl _ _ | exact below_new _ _))).mono ?_; rintro e w21 ⟨rfl, b⟩
    have b' : Below w20.heap.size w20 w21 := Below.tr (by first | exact Below.refl _ _ | exact below_new _ _) b
    clear b
    refine hK.out _ _ ⟨b', ?_⟩
    clear hK K0
    have ra21 := Lib.hid (ra20.out.below b'); clear ra20
    have rb21 := Lib.hid (rb20.out.below b'); clear rb20
    have r_X21 := Lib.hid (r_X20.out.below b'); clear r_X20
    have r_Y21 := Lib.hid (r_Y20.out.below b'); clear r_Y20
    have r_P21 := Lib.hid (r_P20.out.below b'); clear r_P20
    have r_Q21 := Lib.hid (r_Q20.out.below b'); clear r_Q20
    have r_M21 := Lib.hid (r_M20.out.below b'); clear r_M20
    have r_G21 := Lib.hid (r_G20.out.below b'); clear r_G20
    have r_K21 := Lib.hid (r_K20.out.below b'); clear r_K20
    have bx21 := Lib.hid (blk_below b' bx20.out); clear bx20
    have by_21 := Lib.hid (blk_below b' by_20.out); clear by_20
    have bp21 := Lib.hid (blk_below b' bp20.out); clear bp20
    have bq21 := Lib.hid (blk_below b' bq20.out); clear bq20
    have bm21 := Lib.hid (blk_below b' bm20.out); clear bm20
    have bg21 := Lib.hid (blk_below b' bg20.out); clear bg20
    have bk21 := Lib.hid (blk_below b' bk20.out); clear bk20
    have B21 := Lib.hid (B20.out.tr b'); clear B20
    clear b'
    haveI nonE := Flow.cls_nonempty w21
    rw [Flow.wpSegs_cons]
    simp only [Flow.pick]
    refine wpQuiet_nil ?_
    clear nonE 
    rw [Flow.callAt_eq]
    simp only [List.getElem?_toArray, List.getElem?_cons_succ, List.getElem?_cons_zero]
    rw [if_pos (by rfl)]
    refine Flow.wp_behind (fun K0 hK => ?_)
    go_wp2_with fail
    refine (HH4.out X x _ (r_X21.out.below (by first | exact Below.refl _ _ | exact below_new _ _))).mono ?_; rintro e w22 ⟨rfl, b⟩
    have b' : Below w21.heap.size w21 w22 := Below.tr (by first | exact Below.refl _ _ | exact below_new _ _) b
    clear b
    refine hK.out _ _ ⟨b', ?_⟩
    clear hK K0
    have ra22 := Lib.hid (ra21.out.below b'); clear ra21
    have rb22 := Lib.hid (rb21.out.below b'); clear rb21
    have r_X22 := Lib.hid (r_X21.out.below b'); clear r_X21
    have r_Y22 := Lib.hid (r_Y21.out.below b'); clear r_Y21
    have r_P22 := Lib.hid (r_P21.out.below b'); clear r_P21
    have r_Q22 := Lib.hid (r_Q21.out.below b'); clear r_Q21
    have r_M22 := Lib.hid (r_M21.out.below b'); clear r_M21
    have r_G22 := Lib.hid (r_G21.out.below b'); clear r_G21
    have r_K22 := Lib.hid (r_K21.out.below b'); clear r_K21
    have bx22 := Lib.hid (blk_below b' bx21.out); clear bx21
    have by_22 := Lib.hid (blk_below b' by_21.out); clear by_21
    have bp22 := Lib.hid (blk_below b' bp21.out); clear bp21
    have bq22 := Lib.hid (blk_below b' bq21.out); clear bq21
    have bm22 := Lib.hid (blk_below b' bm21.out); clear bm21
    have bg22 := Lib.hid (blk_below b' bg21.out); clear bg21
    have bk22 := Lib.hid (blk_below b' bk21.out); clear bk21
    have B22 := Lib.hid (B21.out.tr b'); clear B21
    clear b'
    have cby_ := blk_cell by_22.out 0
    have qby_ : ∀ t : Flow.Cls (Flow.Later w22), t.val.cell? _ = some (.slice Y T.length y) := fun t => Flow.cls_cell cby_ t
    haveI nonE := Flow.cls_nonempty w22
    rw [Flow.wpSegs_cons]
    simp only [Flow.pick, List.getElem?_toArray, List.getElem?_cons_succ, List.getElem?_cons_zero]
    repeat go_big_quiet_step (fail)
    refine wpQuiet_nil ?_
    clear nonE qby_ cby_
    rw [Flow.callAt_eq]
    simp only [List.getElem?_toArray, List.getElem?_cons_succ, List.getElem?_cons_zero]
    rw [if_pos (by rfl)]
    refine Flow.wp_behind (fun K0 hK => ?_)
    go_wp2_with fail
    refine (HH5.out Y y _ (r_Y22.out.below (by first | exact Below.refl _ _ | exact below_new _ _))).mono ?_; rintro e w23 ⟨rfl, b⟩
    have b' : Below w22.heap.size w22 w23 := Below.tr (by first | exact Below.refl _ _ | exact below_new _ _) b
    clear b
    refine hK.out _ _ ⟨b', ?_⟩
    clear hK K0
    have ra23 := Lib.hid (ra22.out.below b'); clear ra22
    have rb23 := Lib.hid (rb22.out.below b'); clear rb22
    have r_X23 := Lib.hid (r_X22.out.below b'); clear r_X22
    have r_Y23 := Lib.hid (r_Y22.out.below b'); clear r_Y22
    have r_P23 := Lib.hid (r_P22.out.below b'); clear r_P22
    have r_Q23 := Lib.hid (r_Q22.out.below b'); clear r_Q22
    have r_M23 := Lib.hid (r_M22.out.below b'); clear r_M22
    have r_G23 := Lib.hid (r_G22.out.below b'); clear r_G22
    have r_K23 := Lib.hid (r_K22.out.below b'); clear r_K22
    have bx23 := Lib.hid (blk_below b' bx22.out); clear bx22
    have by_23 := Lib.hid (blk_below b' by_22.out); clear by_22
    have bp23 := Lib.hid (blk_below b' bp22.out); clear bp22
    have bq23 := Lib.hid (blk_below b' bq22.out); clear bq22
    have bm23 := Lib.hid (blk_below b' bm22.out); clear bm22
    have bg23 := Lib.hid (blk_below b' bg22.out); clear bg22
    have bk23 := Lib.hid (blk_below b' bk22.out); clear bk22
    have B23 := Lib.hid (B22.out.tr b'); clear B22
    clear b'
    have cbm := blk_cell bm23.out 0
    have qbm : ∀ t : Flow.Cls (Flow.Later w23), t.val.cell? _ = some (.slice M MIN.length m) := fun t => Flow.cls_cell cbm t
    have cbx := blk_cell bx23.out 0
    have qbx : ∀ t : Flow.Cls (Flow.Later w23), t.val.cell? _ = some (.slice X S.length x) := fun t => Flow.cls_cell cbx t
    haveI nonE := Flow.cls_nonempty w23
    rw [Flow.wpSegs_cons]
    simp only [Flow.pick, List.getElem?_toArray, List.getElem?_cons_succ, List.getElem?_cons_zero]
    repeat go_big_quiet_step (fail)
    refine wpQuiet_nil ?_
    clear nonE qbm cbm qbx cbx
    rw [Flow.callAt_eq]
    simp only [List.getElem?_toArray, List.getElem?_cons_succ, List.getElem?_cons_zero]
    rw [if_pos (by rfl)]
    refine Flow.wp_behind (fun K0 hK => ?_)
    go_wp2_with fail
    refine (HH3.out M m _ (r_M23.out.below (by first | exact Below.refl _ _ | exact below_new _ _))).mono ?_; rintro e w24 ⟨rfl, b⟩
    have b' : Below w23.heap.size w23 w24 := Below.tr (by first | exact Below.refl _ _ | exact below_new _ _) b
    clear b
    refine hK.out _ _ ⟨b', ?_⟩
    clear hK K0
    have ra24 := Lib.hid (ra23.out.below b'); clear ra23
    have rb24 := Lib.hid (rb23.out.below b'); clear rb23
    have r_X24 := Lib.hid (r_X23.out.below b'); clear r_X23
    have r_Y24 := Lib.hid (r_Y23.out.below b'); clear r_Y23
    have r_P24 := Lib.hid (r_P23.out.below b'); clear r_P23
    have r_Q24 := Lib.hid (r_Q23.out.below b'); clear r_Q23
    have r_M24 := Lib.hid (r_M23.out.below b'); clear r_M23
    have r_G24 := Lib.hid (r_G23.out.below b'); clear r_G23
    have r_K24 := Lib.hid (r_K23.out.below b'); clear r_K23
    have bx24 := Lib.hid (blk_below b' bx23.out); clear bx23
    have by_24 := Lib.hid (blk_below b' by_23.out); clear by_23
    have bp24 := Lib.hid (blk_below b' bp23.out); clear bp23
    have bq24 := Lib.hid (blk_below b' bq23.out); clear bq23
    have bm24 := Lib.hid (blk_below b' bm23.out); clear bm23
    have bg24 := Lib.hid (blk_below b' bg23.out); clear bg23
    have bk24 := Lib.hid (blk_below b' bk23.out); clear bk23
    have B24 := Lib.hid (B23.out.tr b'); clear B23
    clear b'
    haveI nonE := Flow.cls_nonempty w24
    rw [Flow.wpSegs_cons]
    simp only [Flow.pick]
    refine wpQuiet_nil ?_
    clear nonE 
    rw [Flow.callAt_eq]
    simp only [List.getElem?_toArray, List.getElem?_cons_succ, List.getElem?_cons_zero]
    rw [if_pos (by rfl)]
    refine Flow.wp_behind (fun K0 hK => ?_)
    go_wp2_with fail
    refine (HH4.out X x _ (r_X24.out.below (by first | exact Below.refl _ _ | exact below_new _ _))).mono ?_; rintro e w25 ⟨rfl, b⟩
    have b' : Below w24.heap.size w24 w25 := Below.tr (by first | exact Below.refl _ _ | exact below_new _ _) b
    clear b
    refine hK.out _ _ ⟨b', ?_⟩
    clear hK K0
    have ra25 := Lib.hid (ra24.out.below b'); clear ra24
    have rb25 := Lib.hid (rb24.out.below b'); clear rb24
    have r_X25 := Lib.hid (r_X24.out.below b'); clear r_X24
    have r_Y25 := Lib.hid (r_Y24.out.below b'); clear r_Y24
    have r_P25 := Lib.hid (r_P24.out.below b'); clear r_P24
    have r_Q25 := Lib.hid (r_Q24.out.below b'); clear r_Q24
    have r_M25 := Lib.hid (r_M24.out.below b'); clear r_M24
    have r_G25 := Lib.hid (r_G24.out.below b'); clear r_G24
    have r_K25 := Lib.hid (r_K24.out.below b'); clear r_K24
    have bx25 := Lib.hid (blk_below b' bx24.out); clear bx24
    have by_25 := Lib.hid (blk_below b' by_24.out); clear by_24
    have bp25 := Lib.hid (blk_below b' bp24.out); clear bp24
    have bq25 := Lib.hid (blk_below b' bq24.out); clear bq24
    have bm25 := Lib.hid (blk_below b' bm24.out); clear bm24
    have bg25 := Lib.hid (blk_below b' bg24.out); clear bg24
    have bk25 := Lib.hid (blk_below b' bk24.out); clear bk24
    have B25 := Lib.hid (B24.out.tr b'); clear B24
    clear b'
    have cby_ := blk_cell by_25.out 0
    have qby_ : ∀ t : Flow.Cls (Flow.Later w25), t.val.cell? _ = some (.slice Y T.length y) := fun t => Flow.cls_cell cby_ t
    haveI nonE := Flow.cls_nonempty w25
    rw [Flow.wpSegs_cons]
    simp only [Flow.pick, List.getElem?_toArray, List.getElem?_cons_succ, List.getElem?_cons_zero]
    repeat go_big_quiet_step (fail)
    refine wpQuiet_nil ?_
    clear nonE qby_ cby_
    rw [Flow.callAt_eq]
    simp only [List.getElem?_toArray, List.getElem?_cons_succ, List.getElem?_cons_zero]
    rw [if_pos (by rfl)]
    refine Flow.wp_behind (fun K0 hK => ?_)
    go_wp2_with fail
    refine (HH5.out Y y _ (r_Y25.out.below (by first | exact Below.refl _ _ | exact below_new _ _))).mono ?_; rintro e w26 ⟨rfl, b⟩
    have b' : Below w25.heap.size w25 w26 := Below.tr (by first | exact Below.refl _ _ | exact below_new _ _) b
    clear b
    refine hK.out _ _ ⟨b', ?_⟩
    clear hK K0
    have ra26 := Lib.hid (ra25.out.below b'); clear ra25
    have rb26 := Lib.hid (rb25.out.below b'); clear rb25
    have r_X26 := Lib.hid (r_X25.out.below b'); clear r_X25
    have r_Y26 := Lib.hid (r_Y25.out.below b'); clear r_Y25
    have r_P26 := Lib.hid (r_P25.out.below b'); clear r_P25
    have r_Q26 := Lib.hid (r_Q25.out.below b'); clear r_Q25
    have r_M26 := Lib.hid (r_M25.out.below b'); clear r_M25
    have r_G26 := Lib.hid (r_G25.out.below b'); clear r_G25
    have r_K26 := Lib.hid (r_K25.out.below b'); clear r_K25
    have bx26 := Lib.hid (blk_below b' bx25.out); clear bx25
    have by_26 := Lib.hid (blk_below b' by_25.out); clear by_25
    have bp26 := Lib.hid (blk_below b' bp25.out); clear bp25
    have bq26 := Lib.hid (blk_below b' bq25.out); clear bq25
    have bm26 := Lib.hid (blk_below b' bm25.out); clear bm25
    have bg26 := Lib.hid (blk_below b' bg25.out); clear bg25
    have bk26 := Lib.hid (blk_below b' bk25.out); clear bk25
    have B26 := Lib.hid (B25.out.tr b'); clear B25
    clear b'
    have cbg := blk_cell bg26.out 0
    have qbg : ∀ t : Flow.Cls (Flow.Later w26), t.val.cell? _ = some (.slice G S.length g) := fun t => Flow.cls_cell cbg t
    have cbx := blk_cell bx26.out 0
    have qbx : ∀ t : Flow.Cls (Flow.Later w26), t.val.cell? _ = some (.slice X S.length x) := fun t => Flow.cls_cell cbx t
    haveI nonE := Flow.cls_nonempty w26
    rw [Flow.wpSegs_cons]
    simp only [Flow.pick, List.getElem?_toArray, List.getElem?_cons_succ, List.getElem?_cons_zero]
    repeat go_big_quiet_step (fail)
    refine wpQuiet_nil ?_
    clear nonE qbg cbg qbx cbx
    rw [Flow.callAt_eq]
    simp only [List.getElem?_toArray, List.getElem?_cons_succ, List.getElem?_cons_zero]
    rw [if_pos (by rfl)]
    refine Flow.wp_behind (fun K0 hK => ?_)
    go_wp2_with fail
    refine (HE1.out G X g x _ (r_G26.out.below (by first | exact Below.refl _ _ | exact below_new _ _)) (r_X26.out.below (by first | exact Below.refl _ _ | exact below_new _ _))).mono ?_; rintro e w27 ⟨rfl, b⟩
    have b' : Below w26.heap.size w26 w27 := Below.tr (by first | exact Below.refl _ _ | exact below_new _ _) b
    clear b
    refine hK.out _ _ ⟨b', ?_⟩
    clear hK K0
    have ra27 := Lib.hid (ra26.out.below b'); clear ra26
    have rb27 := Lib.hid (rb26.out.below b'); clear rb26
    have r_X27 := Lib.hid (r_X26.out.below b'); clear r_X26
    have r_Y27 := Lib.hid (r_Y26.out.below b'); clear r_Y26
    have r_P27 := Lib.hid (r_P26.out.below b'); clear r_P26
    have r_Q27 := Lib.hid (r_Q26.out.below b'); clear r_Q26
    have r_M27 := Lib.hid (r_M26.out.below b'); clear r_M26
    have r_G27 := Lib.hid (r_G26.out.below b'); clear r_G26
    have r_K27 := Lib.hid (r_K26.out.below b'); clear r_K26
    have bx27 := Lib.hid (blk_below b' bx26.out); clear bx26
    have by_27 := Lib.hid (blk_below b' by_26.out); clear by_26
    have bp27 := Lib.hid (blk_below b' bp26.out); clear bp26
    have bq27 := Lib.hid (blk_below b' bq26.out); clear bq26
    have bm27 := Lib.hid (blk_below b' bm26.out); clear bm26
    have bg27 := Lib.hid (blk_below b' bg26.out); clear bg26
    have bk27 := Lib.hid (blk_below b' bk26.out); clear bk26
    have B27 := Lib.hid (B26.out.tr b'); clear B26
    clear b'
    have cbk := blk_cell bk27.out 0
    have qbk : ∀ t : Flow.Cls (Flow.Later w27), t.val.cell? _ = some (.slice K OR.length kk) := fun t => Flow.cls_cell cbk t
    have cbp := blk_cell bp27.out 0
    have qbp : ∀ t : Flow.Cls (Flow.Later w27), t.val.cell? _ = some (.slice P OR.length p) := fun t => Flow.cls_cell cbp t
    haveI nonE := Flow.cls_nonempty w27
    rw [Flow.wpSegs_cons]
    simp only [Flow.pick, List.getElem?_toArray, List.getElem?_cons_succ, List.getElem?_cons_zero]
    repeat go_big_quiet_step (fail)
    refine wpQuiet_nil ?_
    clear nonE qbk cbk qbp cbp
    rw [Flow.callAt_eq]
    simp only [List.getElem?_toArray, List.getElem?_cons_succ, List.getElem?_cons_zero]
    rw [if_pos (by rfl)]
    refine Flow.wp_behind (fun K0 hK => ?_)
    go_wp2_with fail
    refine (HE2.out K P kk p _ (r_K27.out.below (by first | exact Below.refl _ _ | exact below_new _ _)) (r_P27.out.below (by first | exact Below.refl _ _ | exact below_new _ _))).mono ?_; rintro e w28 ⟨rfl, b⟩
    have b' : Below w27.heap.size w27 w28 := Below.tr (by first | exact Below.refl _ _ | exact below_new _ _) b
    clear b
    refine hK.out _ _ ⟨b', ?_⟩
    clear hK K0
    have ra28 := Lib.hid (ra27.out.below b'); clear ra27
    have rb28 := Lib.hid (rb27.out.below b'); clear rb27
    have r_X28 := Lib.hid (r_X27.out.below b'); clear r_X27
    have r_Y28 := Lib.hid (r_Y27.out.below b'); clear r_Y27
    have r_P28 := Lib.hid (r_P27.out.below b'); clear r_P27
    have r_Q28 := Lib.hid (r_Q27.out.below b'); clear r_Q27
    have r_M28 := Lib.hid (r_M27.out.below b'); clear r_M27
    have r_G28 := Lib.hid (r_G27.out.below b'); clear r_G27
    have r_K28 := Lib.hid (r_K27.out.below b'); clear r_K27
    have bx28 := Lib.hid (blk_below b' bx27.out); clear bx27
    have by_28 := Lib.hid (blk_below b' by_27.out); clear by_27
    have bp28 := Lib.hid (blk_below b' bp27.out); clear bp27
    have bq28 := Lib.hid (blk_below b' bq27.out); clear bq27
    have bm28 := Lib.hid (blk_below b' bm27.out); clear bm27
    have bg28 := Lib.hid (blk_below b' bg27.out); clear bg27
    have bk28 := Lib.hid (blk_below b' bk27.out); clear bk27
    have B28 := Lib.hid (B27.out.tr b'); clear B27
    clear b'
    have cbp := blk_cell bp28.out 0
    have qbp : ∀ t : Flow.Cls (Flow.Later w28), t.val.cell? _ = some (.slice P OR.length p) := fun t => Flow.cls_cell cbp t
    have cbq := blk_cell bq28.out 0
    have qbq : ∀ t : Flow.Cls (Flow.Later w28), t.val.cell? _ = some (.slice Q AND.length q) := fun t => Flow.cls_cell cbq t
    have cbx := blk_cell bx28.out 0
    have qbx : ∀ t : Flow.Cls (Flow.Later w28), t.val.cell? _ = some (.slice X S.length x) := fun t => Flow.cls_cell cbx t
    have cby_ := blk_cell by_28.out 0
    have qby_ : ∀ t : Flow.Cls (Flow.Later w28), t.val.cell? _ = some (.slice Y T.length y) := fun t => Flow.cls_cell cby_ t
    haveI nonE := Flow.cls_nonempty w28
    rw [Flow.wpSegs_cons]
    simp only [Flow.pick, List.getElem?_toArray, List.getElem?_cons_succ, List.getElem?_cons_zero]
    repeat go_big_quiet_step (fail)
    refine wpQuiet_nil ?_
    clear nonE qbp cbp qbq cbq qbx cbx qby_ cby_
    rw [Flow.callAt_eq]
    simp only [List.getElem?_toArray, List.getElem?_cons_succ, List.getElem?_cons_zero]
    rw [if_pos (by rfl)]
    refine Flow.wp_behind (fun K0 hK => ?_)
    go_wp2_with fail
    refine (HC1.out P p _ (r_P28.out.below (by first | exact Below.refl _ _ | exact below_new _ _))).mono ?_; rintro e w29 ⟨rfl, b⟩
    have b' : Below w28.heap.size w28 w29 := Below.tr (by first | exact Below.refl _ _ | exact below_new _ _) b
    clear b
    refine hK.out _ _ ⟨b', ?_⟩
    clear hK K0
    have ra29 := Lib.hid (ra28.out.below b'); clear ra28
    have rb29 := Lib.hid (rb28.out.below b'); clear rb28
    have r_X29 := Lib.hid (r_X28.out.below b'); clear r_X28
    have r_Y29 := Lib.hid (r_Y28.out.below b'); clear r_Y28
    have r_P29 := Lib.hid (r_P28.out.below b'); clear r_P28
    have r_Q29 := Lib.hid (r_Q28.out.below b'); clear r_Q28
    have r_M29 := Lib.hid (r_M28.out.below b'); clear r_M28
    have r_G29 := Lib.hid (r_G28.out.below b'); clear r_G28
    have r_K29 := Lib.hid (r_K28.out.below b'); clear r_K28
    have bx29 := Lib.hid (blk_below b' bx28.out); clear bx28
    have by_29 := Lib.hid (blk_below b' by_28.out); clear by_28
    have bp29 := Lib.hid (blk_below b' bp28.out); clear bp28
    have bq29 := Lib.hid (blk_below b' bq28.out); clear bq28
    have bm29 := Lib.hid (blk_below b' bm28.out); clear bm28
    have bg29 := Lib.hid (blk_below b' bg28.out); clear bg28
    have bk29 := Lib.hid (blk_below b' bk28.out); clear bk28
    have B29 := Lib.hid (B28.out.tr b'); clear B28
    clear b'
    haveI nonE := Flow.cls_nonempty w29
    rw [Flow.wpSegs_cons]
    simp only [Flow.pick]
    refine wpQuiet_nil ?_
    clear nonE 
    rw [Flow.callAt_eq]
    simp only [List.getElem?_toArray, List.getElem?_cons_succ, List.getElem?_cons_zero]
    rw [if_pos (by rfl)]
    refine Flow.wp_behind (fun K0 hK => ?_)
    go_wp2_with fail
    refine (HC2.out Q q _ (r_Q29.out.below (by first | exact Below.refl _ _ | exact below_new _ _))).mono ?_; rintro e w30 ⟨rfl, b⟩
    have b' : Below w29.heap.size w29 w30 := Below.tr (by first | exact Below.refl _ _ | exact below_new _ _) b
    clear b
    refine hK.out _ _ ⟨b', ?_⟩
    clear hK K0
    have ra30 := Lib.hid (ra29.out.below b'); clear ra29
    have rb30 := Lib.hid (rb29.out.below b'); clear rb29
    have r_X30 := Lib.hid (r_X29.out.below b'); clear r_X29
    have r_Y30 := Lib.hid (r_Y29.out.below b'); clear r_Y29
    have r_P30 := Lib.hid (r_P29.out.below b'); clear r_P29
    have r_Q30 := Lib.hid (r_Q29.out.below b'); clear r_Q29
    have r_M30 := Lib.hid (r_M29.out.below b'); clear r_M29
    have r_G30 := Lib.hid (r_G29.out.below b'); clear r_G29
    have r_K30 := Lib.hid (r_K29.out.below b'); clear r_K29
    have bx30 := Lib.hid (blk_below b' bx29.out); clear bx29
    have by_30 := Lib.hid (blk_below b' by_29.out); clear by_29
    have bp30 := Lib.hid (blk_below b' bp29.out); clear bp29
    have bq30 := Lib.hid (blk_below b' bq29.out); clear bq29
    have bm30 := Lib.hid (blk_below b' bm29.out); clear bm29
    have bg30 := Lib.hid (blk_below b' bg29.out); clear bg29
    have bk30 := Lib.hid (blk_below b' bk29.out); clear bk29
    have B30 := Lib.hid (B29.out.tr b'); clear B29
    clear b'
    haveI nonE := Flow.cls_nonempty w30
    rw [Flow.wpSegs_cons]
    simp only [Flow.pick, List.getElem?_toArray, List.getElem?_cons_succ, List.getElem?_cons_zero]
    repeat go_big_quiet_step (fail)
    refine wpQuiet_nil ?_
    clear nonE 
    rw [Flow.callAt_eq]
    simp only [List.getElem?_toArray, List.getElem?_cons_succ, List.getElem?_cons_zero]
    rw [if_pos (by rfl)]
    refine Flow.wp_behind (fun K0 hK => ?_)
    go_wp2_with fail
    refine (HC3.out X x _ (r_X30.out.below (by first | exact Below.refl _ _ | exact below_new _ _))).mono ?_; rintro e w31 ⟨rfl, b⟩
    have b' : Below w30.heap.size w30 w31 := Below.tr (by first | exact Below.refl _ _ | exact below_new _ _) b
    clear b
    refine hK.out _ _ ⟨b', ?_⟩
    clear hK K0
    have ra31 := Lib.hid (ra30.out.below b'); clear ra30
    have rb31 := Lib.hid (rb30.out.below b'); clear rb30
    have r_X31 := Lib.hid (r_X30.out.below b'); clear r_X30
    have r_Y31 := Lib.hid (r_Y30.out.below b'); clear r_Y30
    have r_P31 := Lib.hid (r_P30.out.below b'); clear r_P30
    have r_Q31 := Lib.hid (r_Q30.out.below b'); clear r_Q30
    have r_M31 := Lib.hid (r_M30.out.below b'); clear r_M30
    have r_G31 := Lib.hid (r_G30.out.below b'); clear r_G30
    have r_K31 := Lib.hid (r_K30.out.below b'); clear r_K30
    have bx31 := Lib.hid (blk_below b' bx30.out); clear bx30
    have by_31 := Lib.hid (blk_below b' by_30.out); clear by_30
    have bp31 := Lib.hid (blk_below b' bp30.out); clear bp30
    have bq31 := Lib.hid (blk_below b' bq30.out); clear bq30
    have bm31 := Lib.hid (blk_below b' bm30.out); clear bm30
    have bg31 := Lib.hid (blk_below b' bg30.out); clear bg30
    have bk31 := Lib.hid (blk_below b' bk30.out); clear bk30
    have B31 := Lib.hid (B30.out.tr b'); clear B30
    clear b'
    haveI nonE := Flow.cls_nonempty w31
    rw [Flow.wpSegs_cons]
    simp only [Flow.pick]
    refine wpQuiet_nil ?_
    clear nonE 
    rw [Flow.callAt_eq]
    simp only [List.getElem?_toArray, List.getElem?_cons_succ, List.getElem?_cons_zero]
    rw [if_pos (by rfl)]
    refine Flow.wp_behind (fun K0 hK => ?_)
    go_wp2_with fail
    refine (HC4.out Y y _ (r_Y31.out.below (by first | exact Below.refl _ _ | exact below_new _ _))).mono ?_; rintro e w32 ⟨rfl, b⟩
    have b' : Below w31.heap.size w31 w32 := Below.tr (by first | exact Below.refl _ _ | exact below_new _ _) b
    clear b
    refine hK.out _ _ ⟨b', ?_⟩
    clear hK K0
    have ra32 := Lib.hid (ra31.out.below b'); clear ra31
    have rb32 := Lib.hid (rb31.out.below b'); clear rb31
    have r_X32 := Lib.hid (r_X31.out.below b'); clear r_X31
    have r_Y32 := Lib.hid (r_Y31.out.below b'); clear r_Y31
    have r_P32 := Lib.hid (r_P31.out.below b'); clear r_P31
    have r_Q32 := Lib.hid (r_Q31.out.below b'); clear r_Q31
    have r_M32 := Lib.hid (r_M31.out.below b'); clear r_M31
    have r_G32 := Lib.hid (r_G31.out.below b'); clear r_G31
    have r_K32 := Lib.hid (r_K31.out.below b'); clear r_K31
    have bx32 := Lib.hid (blk_below b' bx31.out); clear bx31
    have by_32 := Lib.hid (blk_below b' by_31.out); clear by_31
    have bp32 := Lib.hid (blk_below b' bp31.out); clear bp31
    have bq32 := Lib.hid (blk_below b' bq31.out); clear bq31
    have bm32 := Lib.hid (blk_below b' bm31.out); clear bm31
    have bg32 := Lib.hid (blk_below b' bg31.out); clear bg31
    have bk32 := Lib.hid (blk_below b' bk31.out); clear bk31
    have B32 := Lib.hid (B31.out.tr b'); clear B31
    clear b'
    haveI nonE := Flow.cls_nonempty w32
    rw [Flow.wpSegs_nil]
    simp only [Flow.pick, List.getElem?_toArray, List.getElem?_cons_succ, List.getElem?_cons_zero]
    repeat go_big_quiet_step (fail)
    refine wpQuiet_nil ?_
    clear nonE 
    go_wp2_with fail
    go_ret
    exact ⟨rfl, (B32.out.tr (by first | exact Below.refl _ _ | exact below_new _ _))⟩
  · go_enter Tryz.func6, Tryz.ntmps6
    go_wp2_with fail
    refine (HK.out _ (by first | exact Below.refl _ _ | exact below_new _ _)).mono ?_; rintro e w1 ⟨rfl, b⟩
    have b' : Below w.heap.size w w1 := Below.tr (by first | exact Below.refl _ _ | exact below_new _ _) b
    clear b
    have ra1 := Lib.hid (RA.out.below b'); clear RA
    have rb1 := Lib.hid (RB.out.below b'); clear RB
    have B1 := Lib.hid b'
    clear b'
    go_wp2_with fail
    refine (HO1.out _ (ra1.out.below (by first | exact Below.refl _ _ | exact below_new _ _))).mono ?_; rintro e w2 ⟨O1, o1, rfl, ho, b⟩
    have b' : Below w1.heap.size w1 w2 := Below.tr (by first | exact Below.refl _ _ | exact below_new _ _) b
    clear b
    have ra2 := Lib.hid (ra1.out.below b'); clear ra1
    have rb2 := Lib.hid (rb1.out.below b'); clear rb1
    have B2 := Lib.hid (B1.out.tr b'); clear B1
    clear b'
    have o_O12 := Lib.hid ((RdR.of_own ho).1)
    have s_O1 := Lib.hid (SlR.of_own ho); clear ho
    go_wp2_with fail
    refine (HF1.out O1 o1 _ (o_O12.out.below (by first | exact Below.refl _ _ | exact below_new _ _)) s_O1.out).mono ?_; rintro e w3 ⟨X, x, rfl, hR, hs', ht', b⟩
    have b' : Below w2.heap.size w2 w3 := Below.tr (by first | exact Below.refl _ _ | exact below_new _ _) b
    clear b
    have ra3 := Lib.hid (ra2.out.below b'); clear ra2
    have rb3 := Lib.hid (rb2.out.below b'); clear rb2
    have o_O13 := Lib.hid (o_O12.out.below b'); clear o_O12
    have B3 := Lib.hid (B2.out.tr b'); clear B2
    clear b'
    have r_X3 := Lib.hid hR; clear hR
    clear hs' ht'
    clear o_O13
    go_wp2_with fail
    have ra4 := Lib.hid (ra3.out.below (below_new w3 (.cells #[.slice X S.length x] 26))); clear ra3
    have rb4 := Lib.hid (rb3.out.below (below_new w3 (.cells #[.slice X S.length x] 26))); clear rb3
    have r_X4 := Lib.hid (r_X3.out.below (below_new w3 (.cells #[.slice X S.length x] 26))); clear r_X3
    have B4 := Lib.hid (B3.out.tr (below_new w3 (.cells #[.slice X S.length x] 26))); clear B3
    have bx4 := Lib.hid (blk_new w3 (.cells #[.slice X S.length x] 26))
    refine (HO2.out _ (rb4.out.below (by first | exact Below.refl _ _ | exact below_new _ _))).mono ?_; rintro e w5 ⟨O2, o2, rfl, ho, b⟩
    have b' : Below (w3.alloc (.cells #[.slice X S.length x] 26)).heap.size (w3.alloc (.cells #[.slice X S.length x] 26)) w5 := Below.tr (by first | exact Below.refl _ _ | exact below_new _ _) b
    clear b
    have ra5 := Lib.hid (ra4.out.below b'); clear ra4
    have rb5 := Lib.hid (rb4.out.below b'); clear rb4
    have r_X5 := Lib.hid (r_X4.out.below b'); clear r_X4
    have bx5 := Lib.hid (blk_below b' bx4.out); clear bx4
    have B5 := Lib.hid (B4.out.tr b'); clear B4
    clear b'
    have o_O25 := Lib.hid ((RdR.of_own ho).1)
    have s_O2 := Lib.hid (SlR.of_own ho); clear ho
    go_wp2_with fail
    refine (HF2.out O2 o2 _ (o_O25.out.below (by first | exact Below.refl _ _ | exact below_new _ _)) s_O2.out).mono ?_; rintro e w6 ⟨Y, y, rfl, hR, hs', ht', b⟩
    have b' : Below w5.heap.size w5 w6 := Below.tr (by first | exact Below.refl _ _ | exact below_new _ _) b
    clear b
    have ra6 := Lib.hid (ra5.out.below b'); clear ra5
    have rb6 := Lib.hid (rb5.out.below b'); clear rb5
    have r_X6 := Lib.hid (r_X5.out.below b'); clear r_X5
    have o_O26 := Lib.hid (o_O25.out.below b'); clear o_O25
    have bx6 := Lib.hid (blk_below b' bx5.out); clear bx5
    have B6 := Lib.hid (B5.out.tr b'); clear B5
    clear b'
    have r_Y6 := Lib.hid hR; clear hR
    clear hs' ht'
    clear o_O26
    have cbx := blk_cell bx6.out 0
    have pbx := blk_lt bx6.out
    go_wp2_with fail
    clear cbx pbx
    have ra7 := Lib.hid (ra6.out.below (below_new w6 (.cells #[.slice Y T.length y] 26))); clear ra6
    have rb7 := Lib.hid (rb6.out.below (below_new w6 (.cells #[.slice Y T.length y] 26))); clear rb6
    have r_X7 := Lib.hid (r_X6.out.below (below_new w6 (.cells #[.slice Y T.length y] 26))); clear r_X6
    have r_Y7 := Lib.hid (r_Y6.out.below (below_new w6 (.cells #[.slice Y T.length y] 26))); clear r_Y6
    have bx7 := Lib.hid (blk_below (below_new w6 (.cells #[.slice Y T.length y] 26)) bx6.out); clear bx6
    have B7 := Lib.hid (B6.out.tr (below_new w6 (.cells #[.slice Y T.length y] 26))); clear B6
    have by_7 := Lib.hid (blk_new w6 (.cells #[.slice Y T.length y] 26))
    refine (HU1.out X x Y y _ (r_X7.out.below (by first | exact Below.refl _ _ | exact below_new _ _)) (r_Y7.out.below (by first | exact Below.refl _ _ | exact below_new _ _))).mono ?_; rintro e w8 ⟨P, p, rfl, hR, hs', ht', b⟩
    have b' : Below (w6.alloc (.cells #[.slice Y T.length y] 26)).heap.size (w6.alloc (.cells #[.slice Y T.length y] 26)) w8 := Below.tr (by first | exact Below.refl _ _ | exact below_new _ _) b
    clear b
    have ra8 := Lib.hid (ra7.out.below b'); clear ra7
    have rb8 := Lib.hid (rb7.out.below b'); clear rb7
    have r_X8 := Lib.hid (r_X7.out.below b'); clear r_X7
    have r_Y8 := Lib.hid (r_Y7.out.below b'); clear r_Y7
    have bx8 := Lib.hid (blk_below b' bx7.out); clear bx7
    have by_8 := Lib.hid (blk_below b' by_7.out); clear by_7
    have B8 := Lib.hid (B7.out.tr b'); clear B7
    clear b'
    have r_P8 := Lib.hid hR; clear hR
    clear hs' ht'
    have cbx := blk_cell bx8.out 0
    have pbx := blk_lt bx8.out
    have cby_ := blk_cell by_8.out 0
    have pby_ := blk_lt by_8.out
    go_wp2_with fail
    clear cbx pbx cby_ pby_
    have ra9 := Lib.hid (ra8.out.below (below_new w8 (.cells #[.slice P OR.length p] 26))); clear ra8
    have rb9 := Lib.hid (rb8.out.below (below_new w8 (.cells #[.slice P OR.length p] 26))); clear rb8
    have r_X9 := Lib.hid (r_X8.out.below (below_new w8 (.cells #[.slice P OR.length p] 26))); clear r_X8
    have r_Y9 := Lib.hid (r_Y8.out.below (below_new w8 (.cells #[.slice P OR.length p] 26))); clear r_Y8
    have r_P9 := Lib.hid (r_P8.out.below (below_new w8 (.cells #[.slice P OR.length p] 26))); clear r_P8
    have bx9 := Lib.hid (blk_below (below_new w8 (.cells #[.slice P OR.length p] 26)) bx8.out); clear bx8
    have by_9 := Lib.hid (blk_below (below_new w8 (.cells #[.slice P OR.length p] 26)) by_8.out); clear by_8
    have B9 := Lib.hid (B8.out.tr (below_new w8 (.cells #[.slice P OR.length p] 26))); clear B8
    have bp9 := Lib.hid (blk_new w8 (.cells #[.slice P OR.length p] 26))
    refine (HU2.out X x Y y _ (r_X9.out.below (by first | exact Below.refl _ _ | exact below_new _ _)) (r_Y9.out.below (by first | exact Below.refl _ _ | exact below_new _ _))).mono ?_; rintro e w10 ⟨Q, q, rfl, hR, hs', ht', b⟩
    have b' : Below (w8.alloc (.cells #[.slice P OR.length p] 26)).heap.size (w8.alloc (.cells #[.slice P OR.length p] 26)) w10 := Below.tr (by first | exact Below.refl _ _ | exact below_new _ _) b
    clear b
    have ra10 := Lib.hid (ra9.out.below b'); clear ra9
    have rb10 := Lib.hid (rb9.out.below b'); clear rb9
    have r_X10 := Lib.hid (r_X9.out.below b'); clear r_X9
    have r_Y10 := Lib.hid (r_Y9.out.below b'); clear r_Y9
    have r_P10 := Lib.hid (r_P9.out.below b'); clear r_P9
    have bx10 := Lib.hid (blk_below b' bx9.out); clear bx9
    have by_10 := Lib.hid (blk_below b' by_9.out); clear by_9
    have bp10 := Lib.hid (blk_below b' bp9.out); clear bp9
    have B10 := Lib.hid (B9.out.tr b'); clear B9
    clear b'
    have r_Q10 := Lib.hid hR; clear hR
    clear hs' ht'
    have cbx := blk_cell bx10.out 0
    have pbx := blk_lt bx10.out
    have cby_ := blk_cell by_10.out 0
    have pby_ := blk_lt by_10.out
    go_wp2_with fail
    clear cbx pbx cby_ pby_
    have ra11 := Lib.hid (ra10.out.below (below_new w10 (.cells #[.slice Q AND.length q] 26))); clear ra10
    have rb11 := Lib.hid (rb10.out.below (below_new w10 (.cells #[.slice Q AND.length q] 26))); clear rb10
    have r_X11 := Lib.hid (r_X10.out.below (below_new w10 (.cells #[.slice Q AND.length q] 26))); clear r_X10
    have r_Y11 := Lib.hid (r_Y10.out.below (below_new w10 (.cells #[.slice Q AND.length q] 26))); clear r_Y10
    have r_P11 := Lib.hid (r_P10.out.below (below_new w10 (.cells #[.slice Q AND.length q] 26))); clear r_P10
    have r_Q11 := Lib.hid (r_Q10.out.below (below_new w10 (.cells #[.slice Q AND.length q] 26))); clear r_Q10
    have bx11 := Lib.hid (blk_below (below_new w10 (.cells #[.slice Q AND.length q] 26)) bx10.out); clear bx10
    have by_11 := Lib.hid (blk_below (below_new w10 (.cells #[.slice Q AND.length q] 26)) by_10.out); clear by_10
    have bp11 := Lib.hid (blk_below (below_new w10 (.cells #[.slice Q AND.length q] 26)) bp10.out); clear bp10
    have B11 := Lib.hid (B10.out.tr (below_new w10 (.cells #[.slice Q AND.length q] 26))); clear B10
    have bq11 := Lib.hid (blk_new w10 (.cells #[.slice Q AND.length q] 26))
    refine (HU3.out X x Y y _ (r_X11.out.below (by first | exact Below.refl _ _ | exact below_new _ _)) (r_Y11.out.below (by first | exact Below.refl _ _ | exact below_new _ _))).mono ?_; rintro e w12 ⟨M, m, rfl, hR, hs', ht', b⟩
    have b' : Below (w10.alloc (.cells #[.slice Q AND.length q] 26)).heap.size (w10.alloc (.cells #[.slice Q AND.length q] 26)) w12 := Below.tr (by first | exact Below.refl _ _ | exact below_new _ _) b
    clear b
    have ra12 := Lib.hid (ra11.out.below b'); clear ra11
    have rb12 := Lib.hid (rb11.out.below b'); clear rb11
    have r_X12 := Lib.hid (r_X11.out.below b'); clear r_X11
    have r_Y12 := Lib.hid (r_Y11.out.below b'); clear r_Y11
    have r_P12 := Lib.hid (r_P11.out.below b'); clear r_P11
    have r_Q12 := Lib.hid (r_Q11.out.below b'); clear r_Q11
    have bx12 := Lib.hid (blk_below b' bx11.out); clear bx11
    have by_12 := Lib.hid (blk_below b' by_11.out); clear by_11
    have bp12 := Lib.hid (blk_below b' bp11.out); clear bp11
    have bq12 := Lib.hid (blk_below b' bq11.out); clear bq11
    have B12 := Lib.hid (B11.out.tr b'); clear B11
    clear b'
    have r_M12 := Lib.hid hR; clear hR
    clear hs' ht'
    have cbq := blk_cell bq12.out 0
    have pbq := blk_lt bq12.out
    go_wp2_with fail
    clear cbq pbq
    have ra13 := Lib.hid (ra12.out.below (below_new w12 (.cells #[.slice M MIN.length m] 26))); clear ra12
    have rb13 := Lib.hid (rb12.out.below (below_new w12 (.cells #[.slice M MIN.length m] 26))); clear rb12
    have r_X13 := Lib.hid (r_X12.out.below (below_new w12 (.cells #[.slice M MIN.length m] 26))); clear r_X12
    have r_Y13 := Lib.hid (r_Y12.out.below (below_new w12 (.cells #[.slice M MIN.length m] 26))); clear r_Y12
    have r_P13 := Lib.hid (r_P12.out.below (below_new w12 (.cells #[.slice M MIN.length m] 26))); clear r_P12
    have r_Q13 := Lib.hid (r_Q12.out.below (below_new w12 (.cells #[.slice M MIN.length m] 26))); clear r_Q12
    have r_M13 := Lib.hid (r_M12.out.below (below_new w12 (.cells #[.slice M MIN.length m] 26))); clear r_M12
    have bx13 := Lib.hid (blk_below (below_new w12 (.cells #[.slice M MIN.length m] 26)) bx12.out); clear bx12
    have by_13 := Lib.hid (blk_below (below_new w12 (.cells #[.slice M MIN.length m] 26)) by_12.out); clear by_12
    have bp13 := Lib.hid (blk_below (below_new w12 (.cells #[.slice M MIN.length m] 26)) bp12.out); clear bp12
    have bq13 := Lib.hid (blk_below (below_new w12 (.cells #[.slice M MIN.length m] 26)) bq12.out); clear bq12
    have B13 := Lib.hid (B12.out.tr (below_new w12 (.cells #[.slice M MIN.length m] 26))); clear B12
    have bm13 := Lib.hid (blk_new w12 (.cells #[.slice M MIN.length m] 26))
    refine (HU4.out M m Q q _ (r_M13.out.below (by first | exact Below.refl _ _ | exact below_new _ _)) (r_Q13.out.below (by first | exact Below.refl _ _ | exact below_new _ _))).mono ?_; rintro e w14 ⟨G, g, rfl, hR, hs', ht', b⟩
    have b' : Below (w12.alloc (.cells #[.slice M MIN.length m] 26)).heap.size (w12.alloc (.cells #[.slice M MIN.length m] 26)) w14 := Below.tr (by first | exact Below.refl _ _ | exact below_new _ _) b
    clear b
    have ra14 := Lib.hid (ra13.out.below b'); clear ra13
    have rb14 := Lib.hid (rb13.out.below b'); clear rb13
    have r_X14 := Lib.hid (r_X13.out.below b'); clear r_X13
    have r_Y14 := Lib.hid (r_Y13.out.below b'); clear r_Y13
    have r_P14 := Lib.hid (r_P13.out.below b'); clear r_P13
    have r_Q14 := Lib.hid (r_Q13.out.below b'); clear r_Q13
    have r_M14 := Lib.hid (r_M13.out.below b'); clear r_M13
    have bx14 := Lib.hid (blk_below b' bx13.out); clear bx13
    have by_14 := Lib.hid (blk_below b' by_13.out); clear by_13
    have bp14 := Lib.hid (blk_below b' bp13.out); clear bp13
    have bq14 := Lib.hid (blk_below b' bq13.out); clear bq13
    have bm14 := Lib.hid (blk_below b' bm13.out); clear bm13
    have B14 := Lib.hid (B13.out.tr b'); clear B13
    clear b'
    have r_G14 := Lib.hid hR; clear hR
    clear hs' ht'
    have cby_ := blk_cell by_14.out 0
    have pby_ := blk_lt by_14.out
    have cbx := blk_cell bx14.out 0
    have pbx := blk_lt bx14.out
    go_wp2_with fail
    clear cby_ pby_ cbx pbx
    have ra15 := Lib.hid (ra14.out.below (below_new w14 (.cells #[.slice G S.length g] 26))); clear ra14
    have rb15 := Lib.hid (rb14.out.below (below_new w14 (.cells #[.slice G S.length g] 26))); clear rb14
    have r_X15 := Lib.hid (r_X14.out.below (below_new w14 (.cells #[.slice G S.length g] 26))); clear r_X14
    have r_Y15 := Lib.hid (r_Y14.out.below (below_new w14 (.cells #[.slice G S.length g] 26))); clear r_Y14
    have r_P15 := Lib.hid (r_P14.out.below (below_new w14 (.cells #[.slice G S.length g] 26))); clear r_P14
    have r_Q15 := Lib.hid (r_Q14.out.below (below_new w14 (.cells #[.slice G S.length g] 26))); clear r_Q14
    have r_M15 := Lib.hid (r_M14.out.below (below_new w14 (.cells #[.slice G S.length g] 26))); clear r_M14
    have r_G15 := Lib.hid (r_G14.out.below (below_new w14 (.cells #[.slice G S.length g] 26))); clear r_G14
    have bx15 := Lib.hid (blk_below (below_new w14 (.cells #[.slice G S.length g] 26)) bx14.out); clear bx14
    have by_15 := Lib.hid (blk_below (below_new w14 (.cells #[.slice G S.length g] 26)) by_14.out); clear by_14
    have bp15 := Lib.hid (blk_below (below_new w14 (.cells #[.slice G S.length g] 26)) bp14.out); clear bp14
    have bq15 := Lib.hid (blk_below (below_new w14 (.cells #[.slice G S.length g] 26)) bq14.out); clear bq14
    have bm15 := Lib.hid (blk_below (below_new w14 (.cells #[.slice G S.length g] 26)) bm14.out); clear bm14
    have B15 := Lib.hid (B14.out.tr (below_new w14 (.cells #[.slice G S.length g] 26))); clear B14
    have bg15 := Lib.hid (blk_new w14 (.cells #[.slice G S.length g] 26))
    refine (HU5.out Y y X x _ (r_Y15.out.below (by first | exact Below.refl _ _ | exact below_new _ _)) (r_X15.out.below (by first | exact Below.refl _ _ | exact below_new _ _))).mono ?_; rintro e w16 ⟨K, kk, rfl, hR, hs', ht', b⟩
    have b' : Below (w14.alloc (.cells #[.slice G S.length g] 26)).heap.size (w14.alloc (.cells #[.slice G S.length g] 26)) w16 := Below.tr (by first | exact Below.refl _ _ | exact below_new _ _) b
    clear b
    have ra16 := Lib.hid (ra15.out.below b'); clear ra15
    have rb16 := Lib.hid (rb15.out.below b'); clear rb15
    have r_X16 := Lib.hid (r_X15.out.below b'); clear r_X15
    have r_Y16 := Lib.hid (r_Y15.out.below b'); clear r_Y15
    have r_P16 := Lib.hid (r_P15.out.below b'); clear r_P15
    have r_Q16 := Lib.hid (r_Q15.out.below b'); clear r_Q15
    have r_M16 := Lib.hid (r_M15.out.below b'); clear r_M15
    have r_G16 := Lib.hid (r_G15.out.below b'); clear r_G15
    have bx16 := Lib.hid (blk_below b' bx15.out); clear bx15
    have by_16 := Lib.hid (blk_below b' by_15.out); clear by_15
    have bp16 := Lib.hid (blk_below b' bp15.out); clear bp15
    have bq16 := Lib.hid (blk_below b' bq15.out); clear bq15
    have bm16 := Lib.hid (blk_below b' bm15.out); clear bm15
    have bg16 := Lib.hid (blk_below b' bg15.out); clear bg15
    have B16 := Lib.hid (B15.out.tr b'); clear B15
    clear b'
    have r_K16 := Lib.hid hR; clear hR
    clear hs' ht'
    go_wp2_with fail
    have ra17 := Lib.hid (ra16.out.below (below_new w16 (.cells #[.slice K OR.length kk] 26))); clear ra16
    have rb17 := Lib.hid (rb16.out.below (below_new w16 (.cells #[.slice K OR.length kk] 26))); clear rb16
    have r_X17 := Lib.hid (r_X16.out.below (below_new w16 (.cells #[.slice K OR.length kk] 26))); clear r_X16
    have r_Y17 := Lib.hid (r_Y16.out.below (below_new w16 (.cells #[.slice K OR.length kk] 26))); clear r_Y16
    have r_P17 := Lib.hid (r_P16.out.below (below_new w16 (.cells #[.slice K OR.length kk] 26))); clear r_P16
    have r_Q17 := Lib.hid (r_Q16.out.below (below_new w16 (.cells #[.slice K OR.length kk] 26))); clear r_Q16
    have r_M17 := Lib.hid (r_M16.out.below (below_new w16 (.cells #[.slice K OR.length kk] 26))); clear r_M16
    have r_G17 := Lib.hid (r_G16.out.below (below_new w16 (.cells #[.slice K OR.length kk] 26))); clear r_G16
    have r_K17 := Lib.hid (r_K16.out.below (below_new w16 (.cells #[.slice K OR.length kk] 26))); clear r_K16
    have bx17 := Lib.hid (blk_below (below_new w16 (.cells #[.slice K OR.length kk] 26)) bx16.out); clear bx16
    have by_17 := Lib.hid (blk_below (below_new w16 (.cells #[.slice K OR.length kk] 26)) by_16.out); clear by_16
    have bp17 := Lib.hid (blk_below (below_new w16 (.cells #[.slice K OR.length kk] 26)) bp16.out); clear bp16
    have bq17 := Lib.hid (blk_below (below_new w16 (.cells #[.slice K OR.length kk] 26)) bq16.out); clear bq16
    have bm17 := Lib.hid (blk_below (below_new w16 (.cells #[.slice K OR.length kk] 26)) bm16.out); clear bm16
    have bg17 := Lib.hid (blk_below (below_new w16 (.cells #[.slice K OR.length kk] 26)) bg16.out); clear bg16
    have B17 := Lib.hid (B16.out.tr (below_new w16 (.cells #[.slice K OR.length kk] 26))); clear B16
    have bk17 := Lib.hid (blk_new w16 (.cells #[.slice K OR.length kk] 26))
    have hqc := HQC.out
    dsimp only [List.append]
    refine Flow.wp_region_segs Flow.Later Flow.Later.refl Flow.Later.trans [([0, 1, 3, 4], 2), ([], 5), ([6, 7, 8], 9), ([10, 11, 12, 13, 14, 16, 17], 15), ([], 18), ([19, 20, 21], 22), ([23, 24, 25, 26, 27, 28, 30, 31], 29), ([], 32), ([33, 34, 35], 36), ([37, 38, 39, 40, 41, 42, 43], 44), ([45, 46, 47, 48], 49), ([50, 51, 52, 54, 57, 59], 53), ([], 55), ([56], 58), ([], 60)] [61, 62, 63, 64] (by kernel_rfl) (by kernel_rfl) ?_
    have b' : Below (w16.alloc (.cells #[.slice K OR.length kk] 26)).heap.size (w16.alloc (.cells #[.slice K OR.length kk] 26)) (World.drew (w16.alloc (.cells #[.slice K OR.length kk] 26))) := (Below.refl _ _).drew
    have ra18 := Lib.hid (ra17.out.below b'); clear ra17
    have rb18 := Lib.hid (rb17.out.below b'); clear rb17
    have r_X18 := Lib.hid (r_X17.out.below b'); clear r_X17
    have r_Y18 := Lib.hid (r_Y17.out.below b'); clear r_Y17
    have r_P18 := Lib.hid (r_P17.out.below b'); clear r_P17
    have r_Q18 := Lib.hid (r_Q17.out.below b'); clear r_Q17
    have r_M18 := Lib.hid (r_M17.out.below b'); clear r_M17
    have r_G18 := Lib.hid (r_G17.out.below b'); clear r_G17
    have r_K18 := Lib.hid (r_K17.out.below b'); clear r_K17
    have bx18 := Lib.hid (blk_below b' bx17.out); clear bx17
    have by_18 := Lib.hid (blk_below b' by_17.out); clear by_17
    have bp18 := Lib.hid (blk_below b' bp17.out); clear bp17
    have bq18 := Lib.hid (blk_below b' bq17.out); clear bq17
    have bm18 := Lib.hid (blk_below b' bm17.out); clear bm17
    have bg18 := Lib.hid (blk_below b' bg17.out); clear bg17
    have bk18 := Lib.hid (blk_below b' bk17.out); clear bk17
    have B18 := Lib.hid (B17.out.tr b'); clear B17
    clear b'
    generalize World.drew _ = w18 at *
    have cbp := blk_cell bp18.out 0
    have qbp : ∀ t : Flow.Cls (Flow.Later w18), t.val.cell? _ = some (.slice P OR.length p) := fun t => Flow.cls_cell cbp t
    have cbx := blk_cell bx18.out 0
    have qbx : ∀ t : Flow.Cls (Flow.Later w18), t.val.cell? _ = some (.slice X S.length x) := fun t => Flow.cls_cell cbx t
    haveI nonE := Flow.cls_nonempty w18
    rw [Flow.wpSegs_cons]
    simp only [Flow.pick, List.getElem?_toArray, List.getElem?_cons_succ, List.getElem?_cons_zero]
    repeat go_big_quiet_step (fail)
    refine wpQuiet_nil ?_
    clear nonE qbp cbp qbx cbx
    rw [Flow.callAt_eq]
    simp only [List.getElem?_toArray, List.getElem?_cons_succ, List.getElem?_cons_zero]
    rw [if_pos (by rfl)]
    refine Flow.wp_behind (fun K0 hK => ?_)
    go_wp2_with fail
    refine (HH1.out P p _ (r_P18.out.below (by first | exact Below.refl _ _ | exact below_new _ _))).mono ?_; rintro e w19 ⟨rfl, b⟩
    have b' : Below w18.heap.size w18 w19 := Below.tr (by first | exact Below.refl _ _ | exact below_new _ _) b
    clear b
    refine hK.out _ _ ⟨b', ?_⟩
    clear hK K0
    have ra19 := Lib.hid (ra18.out.below b'); clear ra18
    have rb19 := Lib.hid (rb18.out.below b'); clear rb18
    have r_X19 := Lib.hid (r_X18.out.below b'); clear r_X18
    have r_Y19 := Lib.hid (r_Y18.out.below b'); clear r_Y18
    have r_P19 := Lib.hid (r_P18.out.below b'); clear r_P18
    have r_Q19 := Lib.hid (r_Q18.out.below b'); clear r_Q18
    have r_M19 := Lib.hid (r_M18.out.below b'); clear r_M18
    have r_G19 := Lib.hid (r_G18.out.below b'); clear r_G18
    have r_K19 := Lib.hid (r_K18.out.below b'); clear r_K18
    have bx19 := Lib.hid (blk_below b' bx18.out); clear bx18
    have by_19 := Lib.hid (blk_below b' by_18.out); clear by_18
    have bp19 := Lib.hid (blk_below b' bp18.out); clear bp18
    have bq19 := Lib.hid (blk_below b' bq18.out); clear bq18
    have bm19 := Lib.hid (blk_below b' bm18.out); clear bm18
    have bg19 := Lib.hid (blk_below b' bg18.out); clear bg18
    have bk19 := Lib.hid (blk_below b' bk18.out); clear bk18
    have B19 := Lib.hid (B18.out.tr b'); clear B18
    clear b'
    haveI nonE := Flow.cls_nonempty w19
    rw [Flow.wpSegs_cons]
    simp only [Flow.pick]
    refine wpQuiet_nil ?_
    clear nonE 
    rw [Flow.callAt_eq]
    simp only [List.getElem?_toArray, List.getElem?_cons_succ, List.getElem?_cons_zero]
    rw [if_pos (by rfl)]
    refine Flow.wp_behind (fun K0 hK => ?_)
    go_wp2_with fail
    refine (HH4.out X x _ (r_X19.out.below (by first | exact Below.refl _ _ | exact below_new _ _))).mono ?_; rintro e w20 ⟨rfl, b⟩
    have b' : Below w19.heap.size w19 w20 := Below.tr (by first | exact Below.refl _ _ | exact below_new _ _) b
    clear b
    refine hK.out _ _ ⟨b', ?_⟩
    clear hK K0
    have ra20 := Lib.hid (ra19.out.below b'); clear ra19
    have rb20 := Lib.hid (rb19.out.below b'); clear rb19
    have r_X20 := Lib.hid (r_X19.out.below b'); clear r_X19
    have r_Y20 := Lib.hid (r_Y19.out.below b'); clear r_Y19
    have r_P20 := Lib.hid (r_P19.out.below b'); clear r_P19
    have r_Q20 := Lib.hid (r_Q19.out.below b'); clear r_Q19
    have r_M20 := Lib.hid (r_M19.out.below b'); clear r_M19
    have r_G20 := Lib.hid (r_G19.out.below b'); clear r_G19
    have r_K20 := Lib.hid (r_K19.out.below b'); clear r_K19
    have bx20 := Lib.hid (blk_below b' bx19.out); clear bx19
    have by_20 := Lib.hid (blk_below b' by_19.out); clear by_19
    have bp20 := Lib.hid (blk_below b' bp19.out); clear bp19
    have bq20 := Lib.hid (blk_below b' bq19.out); clear bq19
    have bm20 := Lib.hid (blk_below b' bm19.out); clear bm19
    have bg20 := Lib.hid (blk_below b' bg19.out); clear bg19
    have bk20 := Lib.hid (blk_below b' bk19.out); clear bk19
    have B20 := Lib.hid (B19.out.tr b'); clear B19
    clear b'
    have cby_ := blk_cell by_20.out 0
    have qby_ : ∀ t : Flow.Cls (Flow.Later w20), t.val.cell? _ = some (.slice Y T.length y) := fun t => Flow.cls_cell cby_ t
    haveI nonE := Flow.cls_nonempty w20
    rw [Flow.wpSegs_cons]
    simp only [Flow.pick, List.getElem?_toArray, List.getElem?_cons_succ, List.getElem?_cons_zero]
    repeat go_big_quiet_step (fail)
    refine wpQuiet_nil ?_
    clear nonE qby_ cby_
    rw [Flow.callAt_eq]
    simp only [List.getElem?_toArray, List.getElem?_cons_succ, List.getElem?_cons_zero]
    rw [if_neg (by exact Bool.false_ne_true)]
    simp only [Act.put, List.setIfInBounds_toArray, List.set_cons_succ, List.set_cons_zero]
    have cbq := blk_cell bq20.out 0
    have qbq : ∀ t : Flow.Cls (Flow.Later w20), t.val.cell? _ = some (.slice Q AND.length q) := fun t => Flow.cls_cell cbq t
    have cbx := blk_cell bx20.out 0
    have qbx : ∀ t : Flow.Cls (Flow.Later w20), t.val.cell? _ = some (.slice X S.length x) := fun t => Flow.cls_cell cbx t
    haveI nonE := Flow.cls_nonempty w20
    rw [Flow.wpSegs_cons]
    simp only [Flow.pick, List.getElem?_toArray, List.getElem?_cons_succ, List.getElem?_cons_zero]
    repeat go_big_quiet_step (fail)
    refine wpQuiet_nil ?_
    clear nonE qbq cbq qbx cbx
    rw [Flow.callAt_eq]
    simp only [List.getElem?_toArray, List.getElem?_cons_succ, List.getElem?_cons_zero]
    rw [if_pos (by rfl)]
    refine Flow.wp_behind (fun K0 hK => ?_)
    go_wp2_with fail
    refine (HH2.out Q q _ (r_Q20.out.below (by first | exact Below.refl _ _ | exact below_new _ _))).mono ?_; rintro e w21 ⟨rfl, b⟩
    have b' : Below w20.heap.size w20 w21 := Below.tr (by first | exact Below.refl _ _ | exact below_new _ _) b
    clear b
    refine hK.out _ _ ⟨b', ?_⟩
    clear hK K0
    have ra21 := Lib.hid (ra20.out.below b'); clear ra20
    have rb21 := Lib.hid (rb20.out.below b'); clear rb20
    have r_X21 := Lib.hid (r_X20.out.below b'); clear r_X20
    have r_Y21 := Lib.hid (r_Y20.out.below b'); clear r_Y20
    have r_P21 := Lib.hid (r_P20.out.below b'); clear r_P20
    have r_Q21 := Lib.hid (r_Q20.out.below b'); clear r_Q20
    have r_M21 := Lib.hid (r_M20.out.below b'); clear r_M20
    have r_G21 := Lib.hid (r_G20.out.below b'); clear r_G20
    have r_K21 := Lib.hid (r_K20.out.below b'); clear r_K20
    have bx21 := Lib.hid (blk_below b' bx20.out); clear bx20
    have by_21 := Lib.hid (blk_below b' by_20.out); clear by_20
    have bp21 := Lib.hid (blk_below b' bp20.out); clear bp20
    have bq21 := Lib.hid (blk_below b' bq20.out); clear bq20
    have bm21 := Lib.hid (blk_below b' bm20.out); clear bm20
    have bg21 := Lib.hid (blk_below b' bg20.out); clear bg20
    have bk21 := Lib.hid (blk_below b' bk20.out); clear bk20
    have B21 := Lib.hid (B20.out.tr b'); clear B20
    clear b'
    haveI nonE := Flow.cls_nonempty w21
    rw [Flow.wpSegs_cons]
    simp only [Flow.pick]
    refine wpQuiet_nil ?_
    clear nonE 
    rw [Flow.callAt_eq]
    simp only [List.getElem?_toArray, List.getElem?_cons_succ, List.getElem?_cons_zero]
    rw [if_pos (by rfl)]
    refine Flow.wp_behind (fun K0 hK => ?_)
    go_wp2_with fail
    refine (HH4.out X x _ (r_X21.out.below (by first | exact Below.refl _ _ | exact below_new _ _))).mono ?_; rintro e w22 ⟨rfl, b⟩
    have b' : Below w21.heap.size w21 w22 := Below.tr (by first | exact Below.refl _ _ | exact below_new _ _) b
    clear b
    refine hK.out _ _ ⟨b', ?_⟩
    clear hK K0
    have ra22 := Lib.hid (ra21.out.below b'); clear ra21
    have rb22 := Lib.hid (rb21.out.below b'); clear rb21
    have r_X22 := Lib.hid (r_X21.out.below b'); clear r_X21
    have r_Y22 := Lib.hid (r_Y21.out.below b'); clear r_Y21
    have r_P22 := Lib.hid (r_P21.out.below b'); clear r_P21
    have r_Q22 := Lib.hid (r_Q21.out.below b'); clear r_Q21
    have r_M22 := Lib.hid (r_M21.out.below b'); clear r_M21
    have r_G22 := Lib.hid (r_G21.out.below b'); clear r_G21
    have r_K22 := Lib.hid (r_K21.out.below b'); clear r_K21
    have bx22 := Lib.hid (blk_below b' bx21.out); clear bx21
    have by_22 := Lib.hid (blk_below b' by_21.out); clear by_21
    have bp22 := Lib.hid (blk_below b' bp21.out); clear bp21
    have bq22 := Lib.hid (blk_below b' bq21.out); clear bq21
    have bm22 := Lib.hid (blk_below b' bm21.out); clear bm21
    have bg22 := Lib.hid (blk_below b' bg21.out); clear bg21
    have bk22 := Lib.hid (blk_below b' bk21.out); clear bk21
    have B22 := Lib.hid (B21.out.tr b'); clear B21
    clear b'
    have cby_ := blk_cell by_22.out 0
    have qby_ : ∀ t : Flow.Cls (Flow.Later w22), t.val.cell? _ = some (.slice Y T.length y) := fun t => Flow.cls_cell cby_ t
    haveI nonE := Flow.cls_nonempty w22
    rw [Flow.wpSegs_cons]
    simp only [Flow.pick, List.getElem?_toArray, List.getElem?_cons_succ, List.getElem?_cons_zero]
    repeat go_big_quiet_step (fail)
    refine wpQuiet_nil ?_
    clear nonE qby_ cby_
    rw [Flow.callAt_eq]
    simp only [List.getElem?_toArray, List.getElem?_cons_succ, List.getElem?_cons_zero]
    rw [if_pos (by rfl)]
    refine Flow.wp_behind (fun K0 hK => ?_)
    go_wp2_with fail
    refine (HH5.out Y y _ (r_Y22.out.below (by first | exact Below.refl _ _ | exact below_new _ _))).mono ?_; rintro e w23 ⟨rfl, b⟩
    have b' : Below w22.heap.size w22 w23 := Below.tr (by first | exact Below.refl _ _ | exact below_new _ _) b
    clear b
    refine hK.out _ _ ⟨b', ?_⟩
    clear hK K0
    have ra23 := Lib.hid (ra22.out.below b'); clear ra22
    have rb23 := Lib.hid (rb22.out.below b'); clear rb22
    have r_X23 := Lib.hid (r_X22.out.below b'); clear r_X22
    have r_Y23 := Lib.hid (r_Y22.out.below b'); clear r_Y22
    have r_P23 := Lib.hid (r_P22.out.below b'); clear r_P22
    have r_Q23 := Lib.hid (r_Q22.out.below b'); clear r_Q22
    have r_M23 := Lib.hid (r_M22.out.below b'); clear r_M22
    have r_G23 := Lib.hid (r_G22.out.below b'); clear r_G22
    have r_K23 := Lib.hid (r_K22.out.below b'); clear r_K22
    have bx23 := Lib.hid (blk_below b' bx22.out); clear bx22
    have by_23 := Lib.hid (blk_below b' by_22.out); clear by_22
    have bp23 := Lib.hid (blk_below b' bp22.out); clear bp22
    have bq23 := Lib.hid (blk_below b' bq22.out); clear bq22
    have bm23 := Lib.hid (blk_below b' bm22.out); clear bm22
    have bg23 := Lib.hid (blk_below b' bg22.out); clear bg22
    have bk23 := Lib.hid (blk_below b' bk22.out); clear bk22
    have B23 := Lib.hid (B22.out.tr b'); clear B22
    clear b'
    have cbm := blk_cell bm23.out 0
    have qbm : ∀ t : Flow.Cls (Flow.Later w23), t.val.cell? _ = some (.slice M MIN.length m) := fun t => Flow.cls_cell cbm t
    have cbx := blk_cell bx23.out 0
    have qbx : ∀ t : Flow.Cls (Flow.Later w23), t.val.cell? _ = some (.slice X S.length x) := fun t => Flow.cls_cell cbx t
    haveI nonE := Flow.cls_nonempty w23
    rw [Flow.wpSegs_cons]
    simp only [Flow.pick, List.getElem?_toArray, List.getElem?_cons_succ, List.getElem?_cons_zero]
    repeat go_big_quiet_step (fail)
    refine wpQuiet_nil ?_
    clear nonE qbm cbm qbx cbx
    rw [Flow.callAt_eq]
    simp only [List.getElem?_toArray, List.getElem?_cons_succ, List.getElem?_cons_zero]
    rw [if_pos (by rfl)]
    refine Flow.wp_behind (fun K0 hK => ?_)
    go_wp2_with fail
    refine (HH3.out M m _ (r_M23.out.below (by first | exact Below.refl _ _ | exact below_new _ _))).mono ?_; rintro e w24 ⟨rfl, b⟩
    have b' : Below w23.heap.size w23 w24 := Below.tr (by first | exact Below.refl _ _ | exact below_new _ _) b
    clear b
    refine hK.out _ _ ⟨b', ?_⟩
    clear hK K0
    have ra24 := Lib.hid (ra23.out.below b'); clear ra23
    have rb24 := Lib.hid (rb23.out.below b'); clear rb23
    have r_X24 := Lib.hid (r_X23.out.below b'); clear r_X23
    have r_Y24 := Lib.hid (r_Y23.out.below b'); clear r_Y23
    have r_P24 := Lib.hid (r_P23.out.below b'); clear r_P23
    have r_Q24 := Lib.hid (r_Q23.out.below b'); clear r_Q23
    have r_M24 := Lib.hid (r_M23.out.below b'); clear r_M23
    have r_G24 := Lib.hid (r_G23.out.below b'); clear r_G23
    have r_K24 := Lib.hid (r_K23.out.below b'); clear r_K23
    have bx24 := Lib.hid (blk_below b' bx23.out); clear bx23
    have by_24 := Lib.hid (blk_below b' by_23.out); clear by_23
    have bp24 := Lib.hid (blk_below b' bp23.out); clear bp23
    have bq24 := Lib.hid (blk_below b' bq23.out); clear bq23
    have bm24 := Lib.hid (blk_below b' bm23.out); clear bm23
    have bg24 := Lib.hid (blk_below b' bg23.out); clear bg23
    have bk24 := Lib.hid (blk_below b' bk23.out); clear bk23
    have B24 := Lib.hid (B23.out.tr b'); clear B23
    clear b'
    haveI nonE := Flow.cls_nonempty w24
    rw [Flow.wpSegs_cons]
    simp only [Flow.pick]
    refine wpQuiet_nil ?_
    clear nonE 
    rw [Flow.callAt_eq]
    simp only [List.getElem?_toArray, List.getElem?_cons_succ, List.getElem?_cons_zero]
    rw [if_pos (by rfl)]
    refine Flow.wp_behind (fun K0 hK => ?_)
    go_wp2_with fail
    refine (HH4.out X x _ (r_X24.out.below (by first | exact Below.refl _ _ | exact below_new _ _))).mono ?_; rintro e w25 ⟨rfl, b⟩
    have b' : Below w24.heap.size w24 w25 := Below.tr (by first | exact Below.refl _ _ | exact below_new _ _) b
    clear b
    refine hK.out _ _ ⟨b', ?_⟩
    clear hK K0
    have ra25 := Lib.hid (ra24.out.below b'); clear ra24
    have rb25 := Lib.hid (rb24.out.below b'); clear rb24
    have r_X25 := Lib.hid (r_X24.out.below b'); clear r_X24
    have r_Y25 := Lib.hid (r_Y24.out.below b'); clear r_Y24
    have r_P25 := Lib.hid (r_P24.out.below b'); clear r_P24
    have r_Q25 := Lib.hid (r_Q24.out.below b'); clear r_Q24
    have r_M25 := Lib.hid (r_M24.out.below b'); clear r_M24
    have r_G25 := Lib.hid (r_G24.out.below b'); clear r_G24
    have r_K25 := Lib.hid (r_K24.out.below b'); clear r_K24
    have bx25 := Lib.hid (blk_below b' bx24.out); clear bx24
    have by_25 := Lib.hid (blk_below b' by_24.out); clear by_24
    have bp25 := Lib.hid (blk_below b' bp24.out); clear bp24
    have bq25 := Lib.hid (blk_below b' bq24.out); clear bq24
    have bm25 := Lib.hid (blk_below b' bm24.out); clear bm24
    have bg25 := Lib.hid (blk_below b' bg24.out); clear bg24
    have bk25 := Lib.hid (blk_below b' bk24.out); clear bk24
    have B25 := Lib.hid (B24.out.tr b'); clear B24
    clear b'
    have cby_ := blk_cell by_25.out 0
    have qby_ : ∀ t : Flow.Cls (Flow.Later w25), t.val.cell? _ = some (.slice Y T.length y) := fun t => Flow.cls_cell cby_ t
    haveI nonE := Flow.cls_nonempty w25
    rw [Flow.wpSegs_cons]
    simp only [Flow.pick, List.getElem?_toArray, List.getElem?_cons_succ, List.getElem?_cons_zero]
    repeat go_big_quiet_step (fail)
    refine wpQuiet_nil ?_
    clear nonE qby_ cby_
    rw [Flow.callAt_eq]
    simp only [List.getElem?_toArray, List.getElem?_cons_succ, List.getElem?_cons_zero]
    rw [if_pos (by rfl)]
    refine Flow.wp_behind (fun K0 hK => ?_)
    go_wp2_with fail
    refine (HH5.out Y y _ (r_Y25.out.below (by first | exact Below.refl _ _ | exact below_new _ _))).mono ?_; rintro e w26 ⟨rfl, b⟩
    have b' : Below w25.heap.size w25 w26 := Below.tr (by first | exact Below.refl _ _ | exact below_new _ _) b
    clear b
    refine hK.out _ _ ⟨b', ?_⟩
    clear hK K0
    have ra26 := Lib.hid (ra25.out.below b'); clear ra25
    have rb26 := Lib.hid (rb25.out.below b'); clear rb25
    have r_X26 := Lib.hid (r_X25.out.below b'); clear r_X25
    have r_Y26 := Lib.hid (r_Y25.out.below b'); clear r_Y25
    have r_P26 := Lib.hid (r_P25.out.below b'); clear r_P25
    have r_Q26 := Lib.hid (r_Q25.out.below b'); clear r_Q25
    have r_M26 := Lib.hid (r_M25.out.below b'); clear r_M25
    have r_G26 := Lib.hid (r_G25.out.below b'); clear r_G25
    have r_K26 := Lib.hid (r_K25.out.below b'); clear r_K25
    have bx26 := Lib.hid (blk_below b' bx25.out); clear bx25
    have by_26 := Lib.hid (blk_below b' by_25.out); clear by_25
    have bp26 := Lib.hid (blk_below b' bp25.out); clear bp25
    have bq26 := Lib.hid (blk_below b' bq25.out); clear bq25
    have bm26 := Lib.hid (blk_below b' bm25.out); clear bm25
    have bg26 := Lib.hid (blk_below b' bg25.out); clear bg25
    have bk26 := Lib.hid (blk_below b' bk25.out); clear bk25
    have B26 := Lib.hid (B25.out.tr b'); clear B25
    clear b'
    have cbg := blk_cell bg26.out 0
    have qbg : ∀ t : Flow.Cls (Flow.Later w26), t.val.cell? _ = some (.slice G S.length g) := fun t => Flow.cls_cell cbg t
    have cbx := blk_cell bx26.out 0
    have qbx : ∀ t : Flow.Cls (Flow.Later w26), t.val.cell? _ = some (.slice X S.length x) := fun t => Flow.cls_cell cbx t
    haveI nonE := Flow.cls_nonempty w26
    rw [Flow.wpSegs_cons]
    simp only [Flow.pick, List.getElem?_toArray, List.getElem?_cons_succ, List.getElem?_cons_zero]
    repeat go_big_quiet_step (fail)
    refine wpQuiet_nil ?_
    clear nonE qbg cbg qbx cbx
    rw [Flow.callAt_eq]
    simp only [List.getElem?_toArray, List.getElem?_cons_succ, List.getElem?_cons_zero]
    rw [if_pos (by rfl)]
    refine Flow.wp_behind (fun K0 hK => ?_)
    go_wp2_with fail
    refine (HE1.out G X g x _ (r_G26.out.below (by first | exact Below.refl _ _ | exact below_new _ _)) (r_X26.out.below (by first | exact Below.refl _ _ | exact below_new _ _))).mono ?_; rintro e w27 ⟨rfl, b⟩
    have b' : Below w26.heap.size w26 w27 := Below.tr (by first | exact Below.refl _ _ | exact below_new _ _) b
    clear b
    refine hK.out _ _ ⟨b', ?_⟩
    clear hK K0
    have ra27 := Lib.hid (ra26.out.below b'); clear ra26
    have rb27 := Lib.hid (rb26.out.below b'); clear rb26
    have r_X27 := Lib.hid (r_X26.out.below b'); clear r_X26
    have r_Y27 := Lib.hid (r_Y26.out.below b'); clear r_Y26
    have r_P27 := Lib.hid (r_P26.out.below b'); clear r_P26
    have r_Q27 := Lib.hid (r_Q26.out.below b'); clear r_Q26
    have r_M27 := Lib.hid (r_M26.out.below b'); clear r_M26
    have r_G27 := Lib.hid (r_G26.out.below b'); clear r_G26
    have r_K27 := Lib.hid (r_K26.out.below b'); clear r_K26
    have bx27 := Lib.hid (blk_below b' bx26.out); clear bx26
    have by_27 := Lib.hid (blk_below b' by_26.out); clear by_26
    have bp27 := Lib.hid (blk_below b' bp26.out); clear bp26
    have bq27 := Lib.hid (blk_below b' bq26.out); clear bq26
    have bm27 := Lib.hid (blk_below b' bm26.out); clear bm26
    have bg27 := Lib.hid (blk_below b' bg26.out); clear bg26
    have bk27 := Lib.hid (blk_below b' bk26.out); clear bk26
    have B27 := Lib.hid (B26.out.tr b'); clear B26
    clear b'
    have cbk := blk_cell bk27.out 0
    have qbk : ∀ t : Flow.Cls (Flow.Later w27), t.val.cell? _ = some (.slice K OR.length kk) := fun t => Flow.cls_cell cbk t
    have cbp := blk_cell bp27.out 0
    have qbp : ∀ t : Flow.Cls (Flow.Later w27), t.val.cell? _ = some (.slice P OR.length p) := fun t => Flow.cls_cell cbp t
    haveI nonE := Flow.cls_nonempty w27
    rw [Flow.wpSegs_cons]
    simp only [Flow.pick, List.getElem?_toArray, List.getElem?_cons_succ, List.getElem?_cons_zero]
    repeat go_big_quiet_step (fail)
    refine wpQuiet_nil ?_
    clear nonE qbk cbk qbp cbp
    rw [Flow.callAt_eq]
    simp only [List.getElem?_toArray, List.getElem?_cons_succ, List.getElem?_cons_zero]
    rw [if_pos (by rfl)]
    refine Flow.wp_behind (fun K0 hK => ?_)
    go_wp2_with fail
    refine (HE2.out K P kk p _ (r_K27.out.below (by first | exact Below.refl _ _ | exact below_new _ _)) (r_P27.out.below (by first | exact Below.refl _ _ | exact below_new _ _))).mono ?_; rintro e w28 ⟨rfl, b⟩
    have b' : Below w27.heap.size w27 w28 := Below.tr (by first | exact Below.refl _ _ | exact below_new _ _) b
    clear b
    refine hK.out _ _ ⟨b', ?_⟩
    clear hK K0
    have ra28 := Lib.hid (ra27.out.below b'); clear ra27
    have rb28 := Lib.hid (rb27.out.below b'); clear rb27
    have r_X28 := Lib.hid (r_X27.out.below b'); clear r_X27
    have r_Y28 := Lib.hid (r_Y27.out.below b'); clear r_Y27
    have r_P28 := Lib.hid (r_P27.out.below b'); clear r_P27
    have r_Q28 := Lib.hid (r_Q27.out.below b'); clear r_Q27
    have r_M28 := Lib.hid (r_M27.out.below b'); clear r_M27
    have r_G28 := Lib.hid (r_G27.out.below b'); clear r_G27
    have r_K28 := Lib.hid (r_K27.out.below b'); clear r_K27
    have bx28 := Lib.hid (blk_below b' bx27.out); clear bx27
    have by_28 := Lib.hid (blk_below b' by_27.out); clear by_27
    have bp28 := Lib.hid (blk_below b' bp27.out); clear bp27
    have bq28 := Lib.hid (blk_below b' bq27.out); clear bq27
    have bm28 := Lib.hid (blk_below b' bm27.out); clear bm27
    have bg28 := Lib.hid (blk_below b' bg27.out); clear bg27
    have bk28 := Lib.hid (blk_below b' bk27.out); clear bk27
    have B28 := Lib.hid (B27.out.tr b'); clear B27
    clear b'
    have cbp := blk_cell bp28.out 0
    have qbp : ∀ t : Flow.Cls (Flow.Later w28), t.val.cell? _ = some (.slice P OR.length p) := fun t => Flow.cls_cell cbp t
    have cbq := blk_cell bq28.out 0
    have qbq : ∀ t : Flow.Cls (Flow.Later w28), t.val.cell? _ = some (.slice Q AND.length q) := fun t => Flow.cls_cell cbq t
    have cbx := blk_cell bx28.out 0
    have qbx : ∀ t : Flow.Cls (Flow.Later w28), t.val.cell? _ = some (.slice X S.length x) := fun t => Flow.cls_cell cbx t
    have cby_ := blk_cell by_28.out 0
    have qby_ : ∀ t : Flow.Cls (Flow.Later w28), t.val.cell? _ = some (.slice Y T.length y) := fun t => Flow.cls_cell cby_ t
    haveI nonE := Flow.cls_nonempty w28
    rw [Flow.wpSegs_cons]
    simp only [Flow.pick, List.getElem?_toArray, List.getElem?_cons_succ, List.getElem?_cons_zero]
    repeat go_big_quiet_step (fail)
    refine wpQuiet_nil ?_
    clear nonE qbp cbp qbq cbq qbx cbx qby_ cby_
    rw [Flow.callAt_eq]
    simp only [List.getElem?_toArray, List.getElem?_cons_succ, List.getElem?_cons_zero]
    rw [if_pos (by rfl)]
    refine Flow.wp_behind (fun K0 hK => ?_)
    go_wp2_with fail
    refine (HC1.out P p _ (r_P28.out.below (by first | exact Below.refl _ _ | exact below_new _ _))).mono ?_; rintro e w29 ⟨rfl, b⟩
    have b' : Below w28.heap.size w28 w29 := Below.tr (by first | exact Below.refl _ _ | exact below_new _ _) b
    clear b
    refine hK.out _ _ ⟨b', ?_⟩
    clear hK K0
    have ra29 := Lib.hid (ra28.out.below b'); clear ra28
    have rb29 := Lib.hid (rb28.out.below b'); clear rb28
    have r_X29 := Lib.hid (r_X28.out.below b'); clear r_X28
    have r_Y29 := Lib.hid (r_Y28.out.below b'); clear r_Y28
    have r_P29 := Lib.hid (r_P28.out.below b'); clear r_P28
    have r_Q29 := Lib.hid (r_Q28.out.below b'); clear r_Q28
    have r_M29 := Lib.hid (r_M28.out.below b'); clear r_M28
    have r_G29 := Lib.hid (r_G28.out.below b'); clear r_G28
    have r_K29 := Lib.hid (r_K28.out.below b'); clear r_K28
    have bx29 := Lib.hid (blk_below b' bx28.out); clear bx28
    have by_29 := Lib.hid (blk_below b' by_28.out); clear by_28
    have bp29 := Lib.hid (blk_below b' bp28.out); clear bp28
    have bq29 := Lib.hid (blk_below b' bq28.out); clear bq28
    have bm29 := Lib.hid (blk_below b' bm28.out); clear bm28
    have bg29 := Lib.hid (blk_below b' bg28.out); clear bg28
    have bk29 := Lib.hid (blk_below b' bk28.out); clear bk28
    have B29 := Lib.hid (B28.out.tr b'); clear B28
    clear b'
    haveI nonE := Flow.cls_nonempty w29
    rw [Flow.wpSegs_cons]
    simp only [Flow.pick]
    refine wpQuiet_nil ?_
    clear nonE 
    rw [Flow.callAt_eq]
    simp only [List.getElem?_toArray, List.getElem?_cons_succ, List.getElem?_cons_zero]
    rw [if_pos (by rfl)]
    refine Flow.wp_behind (fun K0 hK => ?_)
    go_wp2_with fail
    refine (HC2.out Q q _ (r_Q29.out.below (by first | exact Below.refl _ _ | exact below_new _ _))).mono ?_; rintro e w30 ⟨rfl, b⟩
    have b' : Below w29.heap.size w29 w30 := Below.tr (by first | exact Below.refl _ _ | exact below_new _ _) b
    clear b
    refine hK.out _ _ ⟨b', ?_⟩
    clear hK K0
    have ra30 := Lib.hid (ra29.out.below b'); clear ra29
    have rb30 := Lib.hid (rb29.out.below b'); clear rb29
    have r_X30 := Lib.hid (r_X29.out.below b'); clear r_X29
    have r_Y30 := Lib.hid (r_Y29.out.below b'); clear r_Y29
    have r_P30 := Lib.hid (r_P29.out.below b'); clear r_P29
    have r_Q30 := Lib.hid (r_Q29.out.below b'); clear r_Q29
    have r_M30 := Lib.hid (r_M29.out.below b'); clear r_M29
    have r_G30 := Lib.hid (r_G29.out.below b'); clear r_G29
    have r_K30 := Lib.hid (r_K29.out.below b'); clear r_K29
    have bx30 := Lib.hid (blk_below b' bx29.out); clear bx29
    have by_30 := Lib.hid (blk_below b' by_29.out); clear by_29
    have bp30 := Lib.hid (blk_below b' bp29.out); clear bp29
    have bq30 := Lib.hid (blk_below b' bq29.out); clear bq29
    have bm30 := Lib.hid (blk_below b' bm29.out); clear bm29
    have bg30 := Lib.hid (blk_below b' bg29.out); clear bg29
    have bk30 := Lib.hid (blk_below b' bk29.out); clear bk29
    have B30 := Lib.hid (B29.out.tr b'); clear B29
    clear b'
    haveI nonE := Flow.cls_nonempty w30
    rw [Flow.wpSegs_cons]
    simp only [Flow.pick, List.getElem?_toArray, List.getElem?_cons_succ, List.getElem?_cons_zero]
    repeat go_big_quiet_step (fail)
    refine wpQuiet_nil ?_
    clear nonE 
    rw [Flow.callAt_eq]
    simp only [List.getElem?_toArray, List.getElem?_cons_succ, List.getElem?_cons_zero]
    rw [if_pos (by rfl)]
    refine Flow.wp_behind (fun K0 hK => ?_)
    go_wp2_with fail
    refine (HC3.out X x _ (r_X30.out.below (by first | exact Below.refl _ _ | exact below_new _ _))).mono ?_; rintro e w31 ⟨rfl, b⟩
    have b' : Below w30.heap.size w30 w31 := Below.tr (by first | exact Below.refl _ _ | exact below_new _ _) b
    clear b
    refine hK.out _ _ ⟨b', ?_⟩
    clear hK K0
    have ra31 := Lib.hid (ra30.out.below b'); clear ra30
    have rb31 := Lib.hid (rb30.out.below b'); clear rb30
    have r_X31 := Lib.hid (r_X30.out.below b'); clear r_X30
    have r_Y31 := Lib.hid (r_Y30.out.below b'); clear r_Y30
    have r_P31 := Lib.hid (r_P30.out.below b'); clear r_P30
    have r_Q31 := Lib.hid (r_Q30.out.below b'); clear r_Q30
    have r_M31 := Lib.hid (r_M30.out.below b'); clear r_M30
    have r_G31 := Lib.hid (r_G30.out.below b'); clear r_G30
    have r_K31 := Lib.hid (r_K30.out.below b'); clear r_K30
    have bx31 := Lib.hid (blk_below b' bx30.out); clear bx30
    have by_31 := Lib.hid (blk_below b' by_30.out); clear by_30
    have bp31 := Lib.hid (blk_below b' bp30.out); clear bp30
    have bq31 := Lib.hid (blk_below b' bq30.out); clear bq30
    have bm31 := Lib.hid (blk_below b' bm30.out); clear bm30
    have bg31 := Lib.hid (blk_below b' bg30.out); clear bg30
    have bk31 := Lib.hid (blk_below b' bk30.out); clear bk30
    have B31 := Lib.hid (B30.out.tr b'); clear B30
    clear b'
    haveI nonE := Flow.cls_nonempty w31
    rw [Flow.wpSegs_cons]
    simp only [Flow.pick]
    refine wpQuiet_nil ?_
    clear nonE 
    rw [Flow.callAt_eq]
    simp only [List.getElem?_toArray, List.getElem?_cons_succ, List.getElem?_cons_zero]
    rw [if_pos (by rfl)]
    refine Flow.wp_behind (fun K0 hK => ?_)
    go_wp2_with fail
    refine (HC4.out Y y _ (r_Y31.out.below (by first | exact Below.refl _ _ | exact below_new _ _))).mono ?_; rintro e w32 ⟨rfl, b⟩
    have b' : Below w31.heap.size w31 w32 := Below.tr (by first | exact Below.refl _ _ | exact below_new _ _) b
    clear b
    refine hK.out _ _ ⟨b', ?_⟩
    clear hK K0
    have ra32 := Lib.hid (ra31.out.below b'); clear ra31
    have rb32 := Lib.hid (rb31.out.below b'); clear rb31
    have r_X32 := Lib.hid (r_X31.out.below b'); clear r_X31
    have r_Y32 := Lib.hid (r_Y31.out.below b'); clear r_Y31
    have r_P32 := Lib.hid (r_P31.out.below b'); clear r_P31
    have r_Q32 := Lib.hid (r_Q31.out.below b'); clear r_Q31
    have r_M32 := Lib.hid (r_M31.out.below b'); clear r_M31
    have r_G32 := Lib.hid (r_G31.out.below b'); clear r_G31
    have r_K32 := Lib.hid (r_K31.out.below b'); clear r_K31
    have bx32 := Lib.hid (blk_below b' bx31.out); clear bx31
    have by_32 := Lib.hid (blk_below b' by_31.out); clear by_31
    have bp32 := Lib.hid (blk_below b' bp31.out); clear bp31
    have bq32 := Lib.hid (blk_below b' bq31.out); clear bq31
    have bm32 := Lib.hid (blk_below b' bm31.out); clear bm31
    have bg32 := Lib.hid (blk_below b' bg31.out); clear bg31
    have bk32 := Lib.hid (blk_below b' bk31.out); clear bk31
    have B32 := Lib.hid (B31.out.tr b'); clear B31
    clear b'
    haveI nonE := Flow.cls_nonempty w32
    rw [Flow.wpSegs_nil]
    simp only [Flow.pick, List.getElem?_toArray, List.getElem?_cons_succ, List.getElem?_cons_zero]
    repeat go_big_quiet_step (fail)
    refine wpQuiet_nil ?_
    clear nonE 
    go_wp2_with fail
    go_ret
    exact ⟨rfl, (B32.out.tr (by first | exact Below.refl _ _ | exact below_new _ _))⟩
end Go.Proofs.YtcpennlojjlpaaaGreatDoor
