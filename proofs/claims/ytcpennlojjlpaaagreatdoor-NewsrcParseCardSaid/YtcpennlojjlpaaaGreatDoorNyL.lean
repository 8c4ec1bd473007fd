/- The walk of the statement NewsrcParse. -/
import Derived.Test.YtcpennlojjlpaaaGreatDoorNxX
import Derived.Test.YtcpennlojjlpaaaGreatDoorNyI
import Derived.Test.YtcpennlojjlpaaaGreatDoorNyK
namespace Go.Nr
open Go.Gn
theorem text_many (c : UInt8) : ∀ xs : List (List UInt8), xs.length ≤ (text c xs).length + 1
  | [] => by simp
  | [x] => by simp
  | x :: y :: r => by
    have := text_many c (y :: r)
    rw [text_cons]
    simp at this ⊢; omega
theorem setT_many (l : List Rg) : l.length ≤ (setT l).length + 1 := by
  have := text_many 44 (l.map itemT)
  rw [List.length_map] at this
  exact this
theorem lineT_many (g : G) : g.2.2.length ≤ (lineT g).length + 1 := by
  unfold lineT
  rw [List.length_append, List.length_cons]
  split
  · rename_i h; rw [h]; simp
  · have := setT_many g.2.2
    simp; omega
theorem fileT_many : ∀ m : List G, m.length ≤ (fileT m).length ∧ ∀ g ∈ m, g.2.2.length ≤ (fileT m).length + 1
  | [] => by simp
  | g :: m => by
    have h := fileT_many m
    rw [fileT_cons, List.length_append, List.length_cons, List.length_cons]
    refine ⟨by omega, fun x hx => ?_⟩
    rcases List.mem_cons.1 hx with rfl | hx
    · have := lineT_many x; omega
    · have := h.2 x hx; omega
theorem pfile_err (s : List UInt8) : ∀ (out : List G) (line a e : Nat), pfile out line s = .inr (a, e) → e ≠ 0 := by
  intro out line a e h
  by_cases h0 : s = []
  · subst h0
    rw [pfile_nil] at h
    cases h
  · rw [pfile, if_neg h0] at h
    split at h
    · injection h with h; injection h with h1 h2; omega
    · rename_i c rest hd
      split at h
      · rename_i e' hp
        injection h with h; injection h with h1 h2
        rw [← h2]; exact pmark_err hp
      · have hlt := drop_lt hd
        exact pfile_err rest _ _ _ _ h
termination_by s.length
end Go.Nr
namespace Go.Proofs.YtcpennlojjlpaaaGreatDoor
open Go.RowKit Go.Nr Go.Gn

set_option maxRecDepth 100000 in
set_option maxHeartbeats 16000000 in
theorem newsrcParse_walk (s : List UInt8) (_hm : s.length ≤ maxLen) (w : World) (hE : Env w) (hT : Tab w) :
    Calls Tryz.prog 13 #[enS s] w fun e w' => e = .returned (.bool true) ∧ Below w.heap.size w w' := by
  have HK := Lib.hid (fun W (h : Below w.heap.size w W) => known_any W (hE.below h) (hT.below h))
  have HTb := Lib.hid (fun W (h : Below w.heap.size w W) => hT.below h)
  have HEv := Lib.hid (fun W (h : Below w.heap.size w W) => hE.below h)
  clear hE hT
  by_cases h1000 : 1000 < s.length
  · go_enter Tryz.func13, Tryz.ntmps13
    go_wp2_with fail
    refine (HK.out _ (by first | exact Below.refl _ _ | exact below_new _ _)).mono ?_; rintro e w1 ⟨rfl, b⟩
    have b' : Below w.heap.size w w1 := Below.tr (by first | exact Below.refl _ _ | exact below_new _ _) b
    clear b
    have B1 := Lib.hid b'
    clear b'
    go_wp2_with fail
    refine (HK.out _ (B1.out.tr (by first | exact Below.refl _ _ | exact below_new _ _))).mono ?_; rintro e w2 ⟨rfl, b⟩
    have b' : Below w1.heap.size w1 w2 := Below.tr (by first | exact Below.refl _ _ | exact below_new _ _) b
    clear b
    have B2 := Lib.hid (B1.out.tr b'); clear B1
    clear b'
    go_wp2_with fail
    go_ret
    exact ⟨rfl, (B2.out.tr (by first | exact Below.refl _ _ | exact below_new _ _))⟩
  have hpl := parts_length_le 10 s
  have hple := parts_le 10 s
  have HPa := Lib.hid (fun W (h : Env W) => parse_any s W h (fun t h1 _ => idx_any t (by omega)) (by omega) (by omega) (fun t ht => by have := hple t ht; omega))
  have HRp := Lib.hid (fun W => refParse_any s W (by omega) (by omega) (fun t ht => by have := hple t ht; omega))
  clear hpl hple
  cases hpf : pfile [] 1 s with
  | inl gs =>
    rw [hpf] at HPa HRp
    obtain ⟨rk1, m, hm, hft⟩ := pfile_inv s [] 1 gs Okm.nil hpf
    rw [List.nil_append] at hm
    subst hm
    obtain ⟨y1, y2⟩ := fileT_many gs
    rw [hft] at y1 y2
    have z1 : ∀ g ∈ gs, ∀ r ∈ g.2.2, ok r := fun g hg => (rk1.sets g hg).2
    have z2 : ∀ g ∈ gs, g.2.2.length ≤ 100000 := fun g hg => by have := y2 g hg; omega
    have z4 : (fileT gs).length ≤ 100000000 := by rw [hft]; omega
    have HV := Lib.hid (fun p R A c W (h : MkAt W p R gs) (hd : RdG W A gs) (ht : Tab W) => view_any p R gs A c W h hd rk1 z1 z2 (by omega) z4 ht)
    have HTx := Lib.hid (fun p R W (h : MkAt W p R gs) (ht : Tab W) => textM_any p R gs W h z1 (by omega) z2 z4 ht)
    rw [hft] at HTx
    have q1 : (s == s) = true := by simp
    clear hpf rk1 hft y1 y2 z1 z2 z4
    go_enter Tryz.func13, Tryz.ntmps13
    go_wp2_with fail
    refine (HK.out _ (by first | exact Below.refl _ _ | exact below_new _ _)).mono ?_; rintro e w1 ⟨rfl, b⟩
    have b' : Below w.heap.size w w1 := Below.tr (by first | exact Below.refl _ _ | exact below_new _ _) b
    clear b
    have B1 := Lib.hid b'
    clear b'
    go_wp2_with fail
    refine (HPa.out _ (HEv.out _ (B1.out.tr (by first | exact Below.refl _ _ | exact below_new _ _)))).mono ?_; rintro e w2 ⟨b, p, R, rfl, hM, _, _⟩
    have b' : Below w1.heap.size w1 w2 := Below.tr (by first | exact Below.refl _ _ | exact below_new _ _) b
    clear b
    have B2 := Lib.hid (B1.out.tr b'); clear B1
    clear b'
    have M2 := Lib.hid hM; clear hM
    go_wp2_with fail
    refine (HRp.out _).mono ?_; rintro e w3 ⟨b, G', g', rfl, hD⟩
    have b' : Below w2.heap.size w2 w3 := Below.tr (by first | exact Below.refl _ _ | exact below_new _ _) b
    clear b
    have M3 := Lib.hid (M2.out.below b'); clear M2
    have B3 := Lib.hid (B2.out.tr b'); clear B2
    clear b'
    have D3 := Lib.hid hD; clear hD
    go_wp2_with fail
    refine (HV.out p R G' g' _ (M3.out.below (by first | exact Below.refl _ _ | exact below_new _ _)) (D3.out.below (by first | exact Below.refl _ _ | exact below_new _ _)) (HTb.out _ (B3.out.tr (by first | exact Below.refl _ _ | exact below_new _ _)))).mono ?_; rintro e w4 ⟨rfl, b⟩
    have b' : Below w3.heap.size w3 w4 := Below.tr (by first | exact Below.refl _ _ | exact below_new _ _) b
    clear b
    have M4 := Lib.hid (M3.out.below b'); clear M3
    have D4 := Lib.hid (D3.out.below b'); clear D3
    have B4 := Lib.hid (B3.out.tr b'); clear B3
    clear b'
    go_wp2_with fail
    refine (HTx.out p R _ (M4.out.below (by first | exact Below.refl _ _ | exact below_new _ _)) (HTb.out _ (B4.out.tr (by first | exact Below.refl _ _ | exact below_new _ _)))).mono ?_; rintro e w5 ⟨rfl, b⟩
    have b' : Below w4.heap.size w4 w5 := Below.tr (by first | exact Below.refl _ _ | exact below_new _ _) b
    clear b
    have M5 := Lib.hid (M4.out.below b'); clear M4
    have D5 := Lib.hid (D4.out.below b'); clear D4
    have B5 := Lib.hid (B4.out.tr b'); clear B4
    clear b'
    go_wp2_with fail
    go_ret
    exact ⟨rfl, (B5.out.tr (by first | exact Below.refl _ _ | exact below_new _ _))⟩
  | inr er =>
    rw [hpf] at HPa HRp
    obtain ⟨line, er⟩ := er
    have her := pfile_err s [] 1 line er hpf
    have q1 : ((er : Int) != 0) = true := by simp; omega
    have q2 : ((er : Int) == er) = true := by simp
    have q3 : ((line : Int) == line) = true := by simp
    have q4 : ((er : Int) != er) = false := by simp
    have q5 : ((line : Int) != line) = false := by simp
    clear hpf her
    go_enter Tryz.func13, Tryz.ntmps13
    go_wp2_with fail
    refine (HK.out _ (by first | exact Below.refl _ _ | exact below_new _ _)).mono ?_; rintro e w1 ⟨rfl, b⟩
    have b' : Below w.heap.size w w1 := Below.tr (by first | exact Below.refl _ _ | exact below_new _ _) b
    clear b
    have B1 := Lib.hid b'
    clear b'
    go_wp2_with fail
    refine (HPa.out _ (HEv.out _ (B1.out.tr (by first | exact Below.refl _ _ | exact below_new _ _)))).mono ?_; rintro e w2 ⟨b, rfl⟩
    have b' : Below w1.heap.size w1 w2 := Below.tr (by first | exact Below.refl _ _ | exact below_new _ _) b
    clear b
    have B2 := Lib.hid (B1.out.tr b'); clear B1
    clear b'
    go_wp2_with fail
    refine (HRp.out _).mono ?_; rintro e w3 ⟨b, rfl⟩
    have b' : Below w2.heap.size w2 w3 := Below.tr (by first | exact Below.refl _ _ | exact below_new _ _) b
    clear b
    have B3 := Lib.hid (B2.out.tr b'); clear B2
    clear b'
    go_wp2_with fail
    go_ret
    exact ⟨rfl, (B3.out.tr (by first | exact Below.refl _ _ | exact below_new _ _))⟩
end Go.Proofs.YtcpennlojjlpaaaGreatDoor
