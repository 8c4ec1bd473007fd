/- The walk of the statement NewsrcParseSet. -/
import Derived.Test.YtcpennlojjlpaaaGreatDoorZg
import Derived.Test.YtcpennlojjlpaaaGreatDoorNxI
namespace Go.Nr
open Go.Gn
theorem pitem_err {s : List UInt8} {e : Nat} (h : pitem s = .inr e) : e ≠ 0 := by
  rcases item_parts s with ⟨_, h2⟩ | ⟨h1, h2⟩
  · rw [h] at h2; cases h2
  · rw [h] at h2; injection h2 with h2; rw [h2]; exact h1
theorem pitems_err : ∀ (t : List (List UInt8)) (a : Nat) (last : Int) (b e : Nat), pitems t a last = .inr (b, e) → e ≠ 0
  | [], a, last, b, e, h => by cases h
  | s :: t, a, last, b, e, h => by
    rw [pitems_cons] at h
    cases hp : pitem s with
    | inr e' =>
      rw [hp] at h
      simp only at h
      injection h with h; injection h with h1 h2
      rw [← h2]; exact pitem_err hp
    | inl r =>
      rw [hp] at h
      simp only at h
      split at h
      · injection h with h; injection h with h1 h2; omega
      · cases hq : pitems t (a + s.length + 1) r.2 with
        | inl l => rw [hq] at h; cases h
        | inr e' =>
          rw [hq] at h
          obtain ⟨b', e''⟩ := e'
          simp only at h
          injection h with h; injection h with h1 h2
          rw [← h2]; exact pitems_err t _ _ _ _ hq
theorem ps_cases (s : List UInt8) : (psE s = 0 ∧ setT (psS s) = s ∧ Okset (psS s) ∧ (psS s).length ≤ s.length + 1) ∨ (psE s ≠ 0 ∧ psS s = []) := by
  cases h : pset s with
  | inl l =>
    obtain ⟨h1, h2, h3⟩ := ps_inl h
    obtain ⟨a, b, c⟩ := pset_inv h
    refine .inl ⟨h3, by rw [h1]; exact a, by rw [h1]; exact ⟨b, c⟩, ?_⟩
    rw [h1]
    unfold pset at h
    split at h
    · injection h with h; rw [← h]; simp
    · have := (pitems_inv _ _ _ _ h).1
      have hl := congrArg List.length this
      rw [List.length_map] at hl
      have := parts_length_le 44 s
      omega
  | inr e =>
    obtain ⟨a, e⟩ := e
    obtain ⟨h1, h2, h3⟩ := ps_inr h
    refine .inr ⟨?_, h1⟩
    rw [h3]
    unfold pset at h
    split at h
    · cases h
    · exact pitems_err _ _ _ _ _ h
end Go.Nr
namespace Go.Proofs.YtcpennlojjlpaaaGreatDoor
open Go.RowKit Go.Nr Go.Gn

set_option maxRecDepth 100000 in
set_option maxHeartbeats 16000000 in
theorem newsrcParseSet_walk (s : List UInt8) (hm : s.length ≤ maxLen) (w : World) (hE : Env w) (hT : Tab w) :
    Calls Tryz.prog 9 #[enS s] w fun e w' => e = .returned (.bool true) ∧ Below w.heap.size w w' := by
  have HK := Lib.hid (fun W (h : Below w.heap.size w W) => known_any W (hE.below h) (hT.below h))
  have HTb := Lib.hid (fun W (h : Below w.heap.size w W) => hT.below h)
  have HEv := Lib.hid (fun W (h : Below w.heap.size w W) => hE.below h)
  unfold maxLen at hm
  clear hE hT
  by_cases h60 : 600 < s.length
  · go_enter Tryz.func9, Tryz.ntmps9
    go_wp2_with fail
    refine (HK.out _ (by first | exact Below.refl _ _ | exact below_new _ _)).mono ?_; rintro e w1 ⟨rfl, b⟩
    have b' : Below w.heap.size w w1 := Below.tr (by first | exact Below.refl _ _ | exact below_new _ _) b
    clear b
    have B1 := Lib.hid b'
    clear b'
    go_wp2_with fail
    refine (HK.out _ (B1.out.tr (by first | exact Below.refl _ _ | exact below_new _ _))).mono ?_; rintro e w2 ⟨rfl, b⟩
    have b' : Below w1.heap.size w1 w2 := Below.tr (by first | exact Below.refl _ _ | exact below_new _ _) b
    clear b
    have B2 := Lib.hid (B1.out.tr b'); clear B1
    clear b'
    go_wp2_with fail
    go_ret
    exact ⟨rfl, (B2.out.tr (by first | exact Below.refl _ _ | exact below_new _ _))⟩
  have hpl := parts_length_le 44 s
  have HP := Lib.hid (fun W (h : Env W) => parseSet_any s W h (by omega) (by omega))
  have HR := Lib.hid (fun W => refParseSet_any s W (by omega) (by omega))
  rcases ps_cases s with ⟨e1, e2, e3, e4⟩ | ⟨e1, e2⟩
  · have HTx := Lib.hid (fun X x W (h : RdR W X (psS s)) (ht : Tab W) => text_any X x (psS s) W h e3.2 (by omega) ht)
    rw [e2] at HTx
    have HI := Lib.hid (fun X x Y y W (h1 : RdR W X (psS s)) (h2 : SlR X x (psS s).length) (h3 : RdR W Y (psS s)) => is_any X Y x y (psS s) (psS s) W h1 h2 h3 (by omega) (by omega))
    rw [decide_eq_true rfl] at HI
    rw [e1] at HP HR
    clear e1 e2 e3 e4 hpl
    generalize psS s = S at *
    generalize psA s = at_ at *
    have q1 : ((at_ : Int) == at_) = true := by simp
    have q2 : (s == s) = true := by simp
    go_enter Tryz.func9, Tryz.ntmps9
    go_wp2_with fail
    refine (HK.out _ (by first | exact Below.refl _ _ | exact below_new _ _)).mono ?_; rintro e w1 ⟨rfl, b⟩
    have b' : Below w.heap.size w w1 := Below.tr (by first | exact Below.refl _ _ | exact below_new _ _) b
    clear b
    have B1 := Lib.hid b'
    clear b'
    go_wp2_with fail
    refine (HP.out _ (HEv.out _ (B1.out.tr (by first | exact Below.refl _ _ | exact below_new _ _)))).mono ?_; rintro e w2 ⟨X, x, rfl, hR, hs', ht', b⟩
    have b' : Below w1.heap.size w1 w2 := Below.tr (by first | exact Below.refl _ _ | exact below_new _ _) b
    clear b
    have B2 := Lib.hid (B1.out.tr b'); clear B1
    clear b'
    have r_X2 := Lib.hid hR; clear hR
    have s_X := Lib.hid hs'; clear hs' ht'
    go_wp2_with fail
    have r_X3 := Lib.hid (r_X2.out.below (below_new w2 (.cells #[.slice X S.length x] 26))); clear r_X2
    have B3 := Lib.hid (B2.out.tr (below_new w2 (.cells #[.slice X S.length x] 26))); clear B2
    have bx3 := Lib.hid (blk_new w2 (.cells #[.slice X S.length x] 26))
    refine (HR.out _).mono ?_; rintro e w4 ⟨Y, y, rfl, hR, b⟩
    have b' : Below (w2.alloc (.cells #[.slice X S.length x] 26)).heap.size (w2.alloc (.cells #[.slice X S.length x] 26)) w4 := Below.tr (by first | exact Below.refl _ _ | exact below_new _ _) b
    clear b
    have r_X4 := Lib.hid (r_X3.out.below b'); clear r_X3
    have bx4 := Lib.hid (blk_below b' bx3.out); clear bx3
    have B4 := Lib.hid (B3.out.tr b'); clear B3
    clear b'
    have r_Y4 := Lib.hid hR; clear hR
    have cbx0 := blk_cell bx4.out 0
    have pbx := blk_lt bx4.out
    go_wp2_with fail
    clear cbx0 pbx
    refine (HI.out X x Y y _ (r_X4.out.below (by first | exact Below.refl _ _ | exact below_new _ _)) s_X.out (r_Y4.out.below (by first | exact Below.refl _ _ | exact below_new _ _))).mono ?_; rintro e w5 ⟨rfl, b⟩
    have b' : Below w4.heap.size w4 w5 := Below.tr (by first | exact Below.refl _ _ | exact below_new _ _) b
    clear b
    have r_X5 := Lib.hid (r_X4.out.below b'); clear r_X4
    have r_Y5 := Lib.hid (r_Y4.out.below b'); clear r_Y4
    have bx5 := Lib.hid (blk_below b' bx4.out); clear bx4
    have B5 := Lib.hid (B4.out.tr b'); clear B4
    clear b'
    have cbx0 := blk_cell bx5.out 0
    have pbx := blk_lt bx5.out
    go_wp2_with fail
    clear cbx0 pbx
    refine (HTx.out X x _ (r_X5.out.below (by first | exact Below.refl _ _ | exact below_new _ _)) (HTb.out _ (B5.out.tr (by first | exact Below.refl _ _ | exact below_new _ _)))).mono ?_; rintro e w6 ⟨rfl, b⟩
    have b' : Below w5.heap.size w5 w6 := Below.tr (by first | exact Below.refl _ _ | exact below_new _ _) b
    clear b
    have r_X6 := Lib.hid (r_X5.out.below b'); clear r_X5
    have r_Y6 := Lib.hid (r_Y5.out.below b'); clear r_Y5
    have bx6 := Lib.hid (blk_below b' bx5.out); clear bx5
    have B6 := Lib.hid (B5.out.tr b'); clear B5
    clear b'
    go_wp2_with fail
    go_ret
    exact ⟨rfl, (B6.out.tr (by first | exact Below.refl _ _ | exact below_new _ _))⟩
  · have HI := Lib.hid (fun X x Y y W (h1 : RdR W X (psS s)) (h2 : SlR X x (psS s).length) (h3 : RdR W Y (psS s)) => is_any X Y x y (psS s) (psS s) W h1 h2 h3 (by rw [e2]; simp) (by rw [e2]; simp))
    rw [decide_eq_true rfl] at HI
    clear e2 hpl
    generalize psS s = S at *
    generalize psA s = at_ at *
    generalize psE s = er at *
    have q1 : ((at_ : Int) == at_) = true := by simp
    have q2 : ((er : Int) == er) = true := by simp
    have q3 : ((er : Int) != 0) = true := by simp; omega
    clear e1
    go_enter Tryz.func9, Tryz.ntmps9
    go_wp2_with fail
    refine (HK.out _ (by first | exact Below.refl _ _ | exact below_new _ _)).mono ?_; rintro e w1 ⟨rfl, b⟩
    have b' : Below w.heap.size w w1 := Below.tr (by first | exact Below.refl _ _ | exact below_new _ _) b
    clear b
    have B1 := Lib.hid b'
    clear b'
    go_wp2_with fail
    refine (HP.out _ (HEv.out _ (B1.out.tr (by first | exact Below.refl _ _ | exact below_new _ _)))).mono ?_; rintro e w2 ⟨X, x, rfl, hR, hs', ht', b⟩
    have b' : Below w1.heap.size w1 w2 := Below.tr (by first | exact Below.refl _ _ | exact below_new _ _) b
    clear b
    have B2 := Lib.hid (B1.out.tr b'); clear B1
    clear b'
    have r_X2 := Lib.hid hR; clear hR
    have s_X := Lib.hid hs'; clear hs' ht'
    go_wp2_with fail
    have r_X3 := Lib.hid (r_X2.out.below (below_new w2 (.cells #[.slice X S.length x] 26))); clear r_X2
    have B3 := Lib.hid (B2.out.tr (below_new w2 (.cells #[.slice X S.length x] 26))); clear B2
    have bx3 := Lib.hid (blk_new w2 (.cells #[.slice X S.length x] 26))
    refine (HR.out _).mono ?_; rintro e w4 ⟨Y, y, rfl, hR, b⟩
    have b' : Below (w2.alloc (.cells #[.slice X S.length x] 26)).heap.size (w2.alloc (.cells #[.slice X S.length x] 26)) w4 := Below.tr (by first | exact Below.refl _ _ | exact below_new _ _) b
    clear b
    have r_X4 := Lib.hid (r_X3.out.below b'); clear r_X3
    have bx4 := Lib.hid (blk_below b' bx3.out); clear bx3
    have B4 := Lib.hid (B3.out.tr b'); clear B3
    clear b'
    have r_Y4 := Lib.hid hR; clear hR
    have cbx0 := blk_cell bx4.out 0
    have pbx := blk_lt bx4.out
    go_wp2_with fail
    clear cbx0 pbx
    refine (HI.out X x Y y _ (r_X4.out.below (by first | exact Below.refl _ _ | exact below_new _ _)) s_X.out (r_Y4.out.below (by first | exact Below.refl _ _ | exact below_new _ _))).mono ?_; rintro e w5 ⟨rfl, b⟩
    have b' : Below w4.heap.size w4 w5 := Below.tr (by first | exact Below.refl _ _ | exact below_new _ _) b
    clear b
    have r_X5 := Lib.hid (r_X4.out.below b'); clear r_X4
    have r_Y5 := Lib.hid (r_Y4.out.below b'); clear r_Y4
    have bx5 := Lib.hid (blk_below b' bx4.out); clear bx4
    have B5 := Lib.hid (B4.out.tr b'); clear B4
    clear b'
    go_wp2_with fail
    go_ret
    exact ⟨rfl, (B5.out.tr (by first | exact Below.refl _ _ | exact below_new _ _))⟩
end Go.Proofs.YtcpennlojjlpaaaGreatDoor
