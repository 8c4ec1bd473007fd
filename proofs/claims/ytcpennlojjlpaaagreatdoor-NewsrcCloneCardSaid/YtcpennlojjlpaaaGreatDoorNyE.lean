/- The walk of the statement NewsrcClone. -/
import Derived.Test.YtcpennlojjlpaaaGreatDoorNyA
import Derived.Test.YtcpennlojjlpaaaGreatDoorNyC
import Derived.Test.YtcpennlojjlpaaaGreatDoorNyD
namespace Go.Nr
theorem runM_more {l m : List Op3} {k : Nat} {o : Op3} (h : m[k]? = some o) : runM (l ++ m.take (k + 1)) = stepM (runM (l ++ m.take k)) o.1 o.2.1 o.2.2 := by
  obtain ⟨hl, e⟩ := List.getElem?_eq_some_iff.1 h
  rw [List.take_succ_eq_append_getElem hl, e, ← List.append_assoc, runM_snoc]
end Go.Nr
namespace Go.Proofs.YtcpennlojjlpaaaGreatDoor
open Go.RowKit Go.Nr Go.Gn

set_option maxRecDepth 100000 in
set_option maxHeartbeats 16000000 in
theorem newsrcClone_walk (A : Option Addr) (c : Nat) (l : List Op3) (A2 : Option Addr) (c2 : Nat) (m : List Op3) (w : World) (hr : RdO w A l) (_hc : l.length ≤ c) (_hm : c ≤ maxLen) (hx : ∀ x ∈ l, x.2.1.length ≤ 9223372036854775807) (hr2 : RdO w A2 m) (_hc2 : m.length ≤ c2) (_hm2 : c2 ≤ maxLen) (hx2 : ∀ x ∈ m, x.2.1.length ≤ 9223372036854775807) (hE : Env w) (hT : Tab w) :
    Calls Tryz.prog 12 #[.slice A l.length c, .slice A2 m.length c2] w fun e w' => e = .returned (.bool true) ∧ Below w.heap.size w w' := by
  have HK := Lib.hid (fun W (h : Below w.heap.size w W) => known_any W (hE.below h) (hT.below h))
  have HTb := Lib.hid (fun W (h : Below w.heap.size w W) => hT.below h)
  have HEv := Lib.hid (fun W (h : Below w.heap.size w W) => hE.below h)
  by_cases h40 : 40 < l.length
  · clear hr hx hr2 hx2 hE hT
    go_enter Tryz.func12, Tryz.ntmps12
    go_wp2_with fail
    refine (HK.out _ (by first | exact Below.refl _ _ | exact below_new _ _)).mono ?_; rintro e w1 ⟨rfl, b⟩
    have b' : Below w.heap.size w w1 := Below.tr (by first | exact Below.refl _ _ | exact below_new _ _) b
    clear b
    have B1 := Lib.hid b'
    clear b'
    go_wp2_with fail
    refine (HK.out _ (B1.out.tr (by first | exact Below.refl _ _ | exact below_new _ _))).mono ?_; rintro e w2 ⟨rfl, b⟩
    have b' : Below w1.heap.size w1 w2 := Below.tr (by first | exact Below.refl _ _ | exact below_new _ _) b
    clear b
    have B2 := Lib.hid (B1.out.tr b'); clear B1
    clear b'
    go_wp2_with fail
    go_ret
    exact ⟨rfl, (B2.out.tr (by first | exact Below.refl _ _ | exact below_new _ _))⟩
  by_cases h41 : 40 < m.length
  · clear hr hx hr2 hx2 hE hT
    go_enter Tryz.func12, Tryz.ntmps12
    go_wp2_with fail
    refine (HK.out _ (by first | exact Below.refl _ _ | exact below_new _ _)).mono ?_; rintro e w1 ⟨rfl, b⟩
    have b' : Below w.heap.size w w1 := Below.tr (by first | exact Below.refl _ _ | exact below_new _ _) b
    clear b
    have B1 := Lib.hid b'
    clear b'
    go_wp2_with fail
    refine (HK.out _ (B1.out.tr (by first | exact Below.refl _ _ | exact below_new _ _))).mono ?_; rintro e w2 ⟨rfl, b⟩
    have b' : Below w1.heap.size w1 w2 := Below.tr (by first | exact Below.refl _ _ | exact below_new _ _) b
    clear b
    have B2 := Lib.hid (B1.out.tr b'); clear B1
    clear b'
    go_wp2_with fail
    go_ret
    exact ⟨rfl, (B2.out.tr (by first | exact Below.refl _ _ | exact below_new _ _))⟩
  have HRun := Lib.hid (fun W (h : Below w.heap.size w W) => run_any A c l W (hr.below h) (by omega) hx (hE.below h))
  have HRm := Lib.hid hr2
  have HXm := Lib.hid hx2
  have rk := runM_ok l
  obtain ⟨z1, z2, z3, z4⟩ := run_bounds rk (by omega)
  have rk1 := rk.ok
  have RK := Lib.hid rk
  obtain ⟨gs, hgs⟩ : ∃ gs, runM l = gs := ⟨_, rfl⟩
  have HGS := Lib.hid hgs
  rw [hgs] at HRun RK z1 z2 z3 z4 rk1
  clear rk hr hx hr2 hx2 hE hT hgs
  have HV := Lib.hid (fun p R A c W (h : MkAt W p R gs) (hd : RdG W A gs) (ht : Tab W) => view_any p R gs A c W h hd rk1 z1 z2 (by omega) z4 ht)
  have HCl := Lib.hid (fun p R W (h : MkAt W p R gs) => cloneM_any p R gs W h (fun g hg => by have := z2 g hg; omega) (by omega))
  have ZL := Lib.hid z2
  have ZN := Lib.hid z3
  clear z1 z2 z3 z4 rk1
  go_enter Tryz.func12, Tryz.ntmps12
  go_wp2_with fail
  refine (HK.out _ (by first | exact Below.refl _ _ | exact below_new _ _)).mono ?_; rintro e w1 ⟨rfl, b⟩
  have b' : Below w.heap.size w w1 := Below.tr (by first | exact Below.refl _ _ | exact below_new _ _) b
  clear b
  have B1 := Lib.hid b'
  clear b'
  have hs1 := B1.out.size
  go_wp2_with fail
  refine (HRun.out _ (B1.out.tr (by first | exact Below.refl _ _ | exact below_new _ _))).mono ?_; rintro e w2 ⟨p, R, G', g', rfl, hM, hD, hP, hRn, b⟩
  have b' : Below w1.heap.size w1 w2 := Below.tr (by first | exact Below.refl _ _ | exact below_new _ _) b
  clear b
  have B2 := Lib.hid (B1.out.tr b'); clear B1
  clear b'
  have M2 := Lib.hid hM; clear hM
  have D2 := Lib.hid hD; clear hD
  have HP : Hid (w.heap.size ≤ p) := (by (show w.heap.size ≤ p); omega)
  have HRn : Hid (∀ g, R = some g → w.heap.size ≤ g) := fun g e => by have := hRn g e; omega
  clear hP hRn hs1
  have hlt := M2.out.lt
  go_wp2_with fail
  refine (HCl.out p R _ (M2.out.below (by first | exact Below.refl _ _ | exact below_new _ _))).mono ?_; rintro e w3 ⟨q, S, rfl, hC, hqp, hS, b⟩
  have b' : Below w2.heap.size w2 w3 := Below.tr (by first | exact Below.refl _ _ | exact below_new _ _) b
  clear b
  have M3 := Lib.hid (M2.out.below b'); clear M2
  have D3 := Lib.hid (D2.out.below b'); clear D2
  have B3 := Lib.hid (B2.out.tr b'); clear B2
  clear b'
  have C3 := Lib.hid hC; clear hC
  have HQP : Hid (q ≠ p) := by (show q ≠ p); have := hlt.1; omega
  have HSR : Hid (∀ g, S = some g → R ≠ some g) := fun g e e2 => by have := hS g e; have := hlt.2 g e2; omega
  clear hqp hS hlt HCl HRun HK
  go_wp2_with fail
  go_loopg [7, 9, 10] m.length (fun gg _ xv iv wr => ∃ (k : Nat) (X : Option Addr) (f : Nat) (Rk : Option Nat) (hs : List G), k ≤ m.length ∧ m.length - k ≤ gg ∧ iv = .int .i64 k ∧ xv = .slice X hs.length f ∧ Hid (hs = runM (l ++ m.take k)) ∧ Hid (RunOk (l.length + k) hs) ∧ Hid (MkAt wr p Rk hs) ∧ Hid (RdG wr X hs) ∧ Hid (MkAt wr q S gs) ∧ Hid (RdG wr G' gs) ∧ Hid (∀ g, S = some g → Rk ≠ some g) ∧ Hid (∀ g, Rk = some g → w.heap.size ≤ g) ∧ Below w.heap.size w wr)
  case atStart => exact ⟨0, G', g', R, gs, by omega, by omega, rfl, rfl, (by show gs = _; rw [List.take_zero, List.append_nil]; exact HGS.out.symm), RK.out, M3.out, D3.out, C3.out, D3.out, HSR.out, HRn.out, B3.out⟩
  case round =>
    obtain ⟨k, X, f, Rk, hs, hk, hgk, rfl, rfl, E, K, M, D, C, D0, SR, RB, hB⟩ := hrel
    by_cases hlt : k < m.length
    · obtain ⟨b, o, x, rfl, hx, h1, h2, h3⟩ := (HRm.out.below hB).at_ hlt
      have hrt := runM_more (l := l) hx
      rw [← E.out] at hrt
      have hxs := HXm.out x (List.mem_of_getElem? hx)
      obtain ⟨x1, x2, x3⟩ := x
      simp only at h1 h2 h3 hrt hxs
      have hK := K.out
      have HD := Lib.hid (do_any p Rk hs X f x1 x2 x3 wr M.out D.out hK.ok (hK.lens.mono (by omega)) (by have := hK.len; omega) hxs (HEv.out wr hB))
      have K2 := Lib.hid (hK.step x1 x2 x3)
      have RT := Lib.hid hrt
      have HB := Lib.hid hB
      clear hK hrt hx E K
      generalize stepM hs x1 x2 x3 = hs2 at *
      go_wp2_with fail
      refine HD.out.mono ?_; rintro e w2 ⟨Y, d, R2, rfl, m2, d2, hR2, k2⟩
      have HB2 := Lib.hid (HB.out.trans (k2.below HB.out.size HP.out RB.out))
      have HM2 := Lib.hid m2
      have HD2 := Lib.hid d2
      have HC2 := Lib.hid (M.out.apart C.out k2 HQP.out SR.out)
      have HD02 := Lib.hid (D0.out.kept k2 M.out)
      have HR2 : Hid (∀ g, R2 = some g → w.heap.size ≤ g) := fun g e => by
        rcases hR2 with rfl | ⟨g', e', h⟩
        · exact RB.out g e
        · rw [e] at e'; cases e'; have := HB.out.size; omega
      have HS2 : Hid (∀ g, S = some g → R2 ≠ some g) := fun g e e2 => by
        rcases hR2 with rfl | ⟨g', e', h⟩
        · exact SR.out g e e2
        · rw [e2] at e'; cases e'; have := C.out.lt.2 g e; omega
      clear m2 d2 hR2 k2 h1 h2 h3
      go_wp2_with fail
      go_roundg (m.length - (k + 1))
      case measure => omega
      case rel => exact ⟨k + 1, Y, d, R2, hs2, by omega, by omega, by go_num, rfl, RT.out.symm, K2.out, HM2.out, HD2.out, HC2.out, HD02.out, HS2.out, HR2.out, HB2.out⟩
    · obtain rfl : k = m.length := by omega
      obtain ⟨z1, z2, z3, z4⟩ := run_bounds K.out (by omega)
      have rk1 := K.out.ok
      have HV2 := Lib.hid (fun p R A c W (h : MkAt W p R hs) (hd : RdG W A hs) (ht : Tab W) => view_any p R hs A c W h hd rk1 z1 z2 (by omega) z4 ht)
      have HEq := Lib.hid (fun W (h1 : MkAt W q S gs) (h2 : MkAt W p Rk hs) => equalM_any q p S Rk gs hs W h1 h2 (by have := ZN.out; omega) (by omega) (fun g hg => by have := ZL.out g hg; omega) (fun g hg => by have := z2 g hg; omega))
      have HSm := Lib.hid (fun W (h1 : RdG W G' gs) (h2 : RdG W X hs) => sameMarks_any G' X g' f gs hs W h1 h2 (by have := ZN.out; omega) (by omega) (fun g hg => by have := ZL.out g hg; omega) (fun g hg => by have := z2 g hg; omega))
      have HI := Lib.hid (fun X x W (h1 : RdR W X []) (h2 : SlR X x 0) => is_any X none x 0 [] [] W h1 h2 RdR.nil (by simp) (by simp))
      rw [decide_eq_true rfl] at HI
      generalize decide (gs = hs) = v at *
      have q1 : (v == v) = true := by simp
      have HB := Lib.hid hB
      clear z1 z2 z3 z4 rk1 E K hB
      go_wp2_with fail
      go_loopg [12] 5 (fun gg iv wq => ∃ i : Int, 0 ≤ i ∧ i ≤ 5 ∧ (5 - i).toNat ≤ gg ∧ iv = .int .i64 i ∧ Below wr.heap.size wr wq)
      case atStart => exact ⟨0, by omega, by omega, by omega, rfl, Below.refl _ _⟩
      case round =>
        obtain ⟨i, hi0, hi5, hgi, rfl, hBq⟩ := hrel
        by_cases hlt5 : i < 5
        · obtain rfl | rfl | rfl | rfl | rfl : i = 0 ∨ i = 1 ∨ i = 2 ∨ i = 3 ∨ i = 4 := by omega
          · go_wp2_with fail
            refine (read_nil [97, 46, 98] 1 _).mono ?_; rintro e w2 ⟨rfl, b⟩
            go_wp2_with fail
            go_roundg (5 - (0 + 1))
            case measure => omega
            case rel => exact ⟨1, by omega, by omega, by omega, by go_num, hBq.tr b⟩
          · go_wp2_with fail
            refine (unread_nil [97, 46, 98] 1 _).mono ?_; rintro e w2 ⟨rfl, b⟩
            go_wp2_with fail
            go_roundg (5 - (1 + 1))
            case measure => omega
            case rel => exact ⟨2, by omega, by omega, by omega, by go_num, hBq.tr b⟩
          · go_wp2_with fail
            refine (catchup_nil [97, 46, 98] _).mono ?_; rintro e w2 ⟨rfl, b⟩
            go_wp2_with fail
            go_roundg (5 - (2 + 1))
            case measure => omega
            case rel => exact ⟨3, by omega, by omega, by omega, by go_num, hBq.tr b⟩
          · go_wp2_with fail
            refine (subscribe_nil [97, 46, 98] _).mono ?_; rintro e w2 ⟨rfl, rfl⟩
            go_wp2_with fail
            go_roundg (5 - (3 + 1))
            case measure => omega
            case rel => exact ⟨4, by omega, by omega, by omega, by go_num, hBq⟩
          · go_wp2_with fail
            refine (unsubscribe_nil [97, 46, 98] _).mono ?_; rintro e w2 ⟨rfl, rfl⟩
            go_wp2_with fail
            go_roundg (5 - (4 + 1))
            case measure => omega
            case rel => exact ⟨5, by omega, by omega, by omega, by go_num, hBq⟩
        · obtain rfl : i = 5 := by omega
          have HM := Lib.hid (M.out.below hBq)
          have HD := Lib.hid (D.out.below hBq)
          have HC := Lib.hid (C.out.below hBq)
          have HD0 := Lib.hid (D0.out.below hBq)
          have HBw := Lib.hid (HB.out.tr hBq)
          clear M D C D0 HB hBq
          go_wp2_with fail
          refine (textM_nil _).mono ?_; rintro e w21 ⟨rfl, rfl⟩
          go_wp2_with fail
          refine (groups_nil _).mono ?_; rintro e w22 ⟨rfl, rfl⟩
          go_wp2_with fail
          refine (has_nil [97, 46, 98] 1 _).mono ?_; rintro e w23 ⟨rfl, rfl⟩
          go_wp2_with fail
          refine (subscribed_nil [97, 46, 98] _).mono ?_; rintro e w24 ⟨rfl, rfl⟩
          go_wp2_with fail
          refine (clone_nil _).mono ?_; rintro e w25 ⟨rfl, rfl⟩
          go_wp2_with fail
          refine (equal_nil_nil _).mono ?_; rintro e w26 ⟨rfl, rfl⟩
          go_wp2_with fail
          refine (equal_nil_l ⟨p, 0, none⟩ _).mono ?_; rintro e w27 ⟨rfl, rfl⟩
          go_wp2_with fail
          refine (equal_nil_r ⟨p, 0, none⟩ _).mono ?_; rintro e w28 ⟨rfl, rfl⟩
          go_wp2_with fail
          refine (set_nil [97, 46, 98] _).mono ?_; rintro e w29 ⟨rfl, b⟩
          have b' : Below wr.heap.size wr w29 := Below.tr (by first | exact Below.refl _ _ | exact below_new _ _) b
          clear b
          have M29 := Lib.hid (HM.out.below b'); clear HM
          have D29 := Lib.hid (HD.out.below b'); clear HD
          have C29 := Lib.hid (HC.out.below b'); clear HC
          have D029 := Lib.hid (HD0.out.below b'); clear HD0
          have B29 := Lib.hid (HBw.out.tr b'); clear HBw
          clear b'
          go_wp2_with fail
          refine (HI.out none 0 _ RdR.nil SlR.nil).mono ?_; rintro e w30 ⟨rfl, b⟩
          have b' : Below w29.heap.size w29 w30 := Below.tr (by first | exact Below.refl _ _ | exact below_new _ _) b
          clear b
          have M30 := Lib.hid (M29.out.below b'); clear M29
          have D30 := Lib.hid (D29.out.below b'); clear D29
          have C30 := Lib.hid (C29.out.below b'); clear C29
          have D030 := Lib.hid (D029.out.below b'); clear D029
          have B30 := Lib.hid (B29.out.tr b'); clear B29
          clear b'
          go_wp2_with fail
          refine (HV.out q S G' g' _ (C30.out.below (by first | exact Below.refl _ _ | exact below_new _ _)) (D030.out.below (by first | exact Below.refl _ _ | exact below_new _ _)) (HTb.out _ (B30.out.tr (by first | exact Below.refl _ _ | exact below_new _ _)))).mono ?_; rintro e w31 ⟨rfl, b⟩
          have b' : Below w30.heap.size w30 w31 := Below.tr (by first | exact Below.refl _ _ | exact below_new _ _) b
          clear b
          have M31 := Lib.hid (M30.out.below b'); clear M30
          have D31 := Lib.hid (D30.out.below b'); clear D30
          have C31 := Lib.hid (C30.out.below b'); clear C30
          have D031 := Lib.hid (D030.out.below b'); clear D030
          have B31 := Lib.hid (B30.out.tr b'); clear B30
          clear b'
          go_wp2_with fail
          refine (HV2.out p Rk X f _ (M31.out.below (by first | exact Below.refl _ _ | exact below_new _ _)) (D31.out.below (by first | exact Below.refl _ _ | exact below_new _ _)) (HTb.out _ (B31.out.tr (by first | exact Below.refl _ _ | exact below_new _ _)))).mono ?_; rintro e w32 ⟨rfl, b⟩
          have b' : Below w31.heap.size w31 w32 := Below.tr (by first | exact Below.refl _ _ | exact below_new _ _) b
          clear b
          have M32 := Lib.hid (M31.out.below b'); clear M31
          have D32 := Lib.hid (D31.out.below b'); clear D31
          have C32 := Lib.hid (C31.out.below b'); clear C31
          have D032 := Lib.hid (D031.out.below b'); clear D031
          have B32 := Lib.hid (B31.out.tr b'); clear B31
          clear b'
          go_wp2_with fail
          refine (HEq.out _ (C32.out.below (by first | exact Below.refl _ _ | exact below_new _ _)) (M32.out.below (by first | exact Below.refl _ _ | exact below_new _ _))).mono ?_; rintro e w33 ⟨rfl, b⟩
          have b' : Below w32.heap.size w32 w33 := Below.tr (by first | exact Below.refl _ _ | exact below_new _ _) b
          clear b
          have M33 := Lib.hid (M32.out.below b'); clear M32
          have D33 := Lib.hid (D32.out.below b'); clear D32
          have C33 := Lib.hid (C32.out.below b'); clear C32
          have D033 := Lib.hid (D032.out.below b'); clear D032
          have B33 := Lib.hid (B32.out.tr b'); clear B32
          clear b'
          go_wp2_with fail
          refine (HSm.out _ (D033.out.below (by first | exact Below.refl _ _ | exact below_new _ _)) (D33.out.below (by first | exact Below.refl _ _ | exact below_new _ _))).mono ?_; rintro e w34 ⟨rfl, b⟩
          have b' : Below w33.heap.size w33 w34 := Below.tr (by first | exact Below.refl _ _ | exact below_new _ _) b
          clear b
          have M34 := Lib.hid (M33.out.below b'); clear M33
          have D34 := Lib.hid (D33.out.below b'); clear D33
          have C34 := Lib.hid (C33.out.below b'); clear C33
          have D034 := Lib.hid (D033.out.below b'); clear D033
          have B34 := Lib.hid (B33.out.tr b'); clear B33
          clear b'
          go_wp2_with fail
          go_ret
          exact ⟨rfl, (B34.out.tr (by first | exact Below.refl _ _ | exact below_new _ _))⟩
end Go.Proofs.YtcpennlojjlpaaaGreatDoor
