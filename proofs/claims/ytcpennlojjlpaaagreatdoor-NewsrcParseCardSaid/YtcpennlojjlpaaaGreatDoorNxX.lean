/- Contract: the law's view. -/
import Derived.Test.YtcpennlojjlpaaaGreatDoorZm
import Derived.Test.YtcpennlojjlpaaaGreatDoorZl
namespace Go.Proofs.YtcpennlojjlpaaaGreatDoor
open Go.RowKit Go.Nr Go.Gn

theorem gidx_self {gs : List G} (hk : Okm gs) {k : Nat} {x : G} (hx : gs[k]? = some x) : gidx gs x.1 = k := by
  obtain ⟨hl, hx'⟩ := List.getElem?_eq_some_iff.1 hx
  refine gidx_eq gs x.1 k (by omega) (fun j g hj hg e => ?_) (fun g hg => by rw [hx] at hg; injection hg with hg; rw [hg])
  obtain ⟨hl2, hg'⟩ := List.getElem?_eq_some_iff.1 hg
  have hu := hk.uniq
  have h1 := (List.pairwise_iff_getElem.1 hu) j k (by simpa using hl2) (by simpa using hl) hj
  simp only [List.getElem_map, hg', hx'] at h1
  exact h1 e
theorem gsub_self {gs : List G} (hk : Okm gs) {k : Nat} {x : G} (hx : gs[k]? = some x) : gsub gs x.1 = x.2.1 := by
  unfold gsub; rw [gidx_self hk hx, hx]
theorem gset_self {gs : List G} (hk : Okm gs) {k : Nat} {x : G} (hx : gs[k]? = some x) : gset gs x.1 = x.2.2 := by
  unfold gset; rw [gidx_self hk hx, hx]
theorem subscribedM_b (p : Nat) (R : Option Nat) (gs : List G) (s : List UInt8) (v : Bool) (w : World) (h : MkAt w p R gs) (hn : gs.length ≤ 1000000) (hv : gsub gs s = v) :
    Calls Tryz.prog 50 #[.pointer (some ⟨p, 0, none⟩), enS s] w fun e w' => e = .returned (.bool v) ∧ Below w.heap.size w w' :=
  (subscribedM_any p R gs s w h hn).mono fun _ _ h => ⟨hv ▸ h.1, h.2 ▸ Below.refl _ _⟩

set_option maxRecDepth 100000 in
set_option maxHeartbeats 4000000 in
theorem view_any (p : Nat) (R : Option Nat) (gs : List G) (A : Option Addr) (c : Nat) (w : World) (h : MkAt w p R gs) (hd : RdG w A gs) (hk : Okm gs) (ho : ∀ g ∈ gs, ∀ r ∈ g.2.2, ok r) (hl : ∀ g ∈ gs, g.2.2.length ≤ 100000) (hn : gs.length ≤ 100000) (hF : (fileT gs).length ≤ 100000000) (ht : Tab w) :
    Calls Tryz.prog 47 #[.pointer (some ⟨p, 0, none⟩), .slice A gs.length c] w fun e w' => e = .returned (.bool true) ∧ Below w.heap.size w w' := by
  have HG := Lib.hid (groups_any p R gs w h hn)
  have HM := Lib.hid h
  have HD := Lib.hid hd
  have HT := Lib.hid ht
  clear h hd ht
  go_enter Tryz.func47, Tryz.ntmps47
  go_wp2_with fail
  refine HG.out.mono ?_; rintro e w1 ⟨B, f, rfl, hrd, hcap, hb1⟩
  have HL : Hid ((gs.map (·.1)).length = gs.length) := List.length_map _
  have HR := Lib.hid hrd
  have HB1 := Lib.hid hb1
  have HTX := Lib.hid (textM_any p R gs w1 (HM.out.below hb1) ho hn hl hF (HT.out.below hb1))
  clear hrd hb1 HG
  rw [HL.out] at hcap ⊢
  have hne : decide ((gs.length : Int) ≠ gs.length) = false := by simp
  go_wp2_with fail
  refine HTX.out.mono ?_; rintro e w2 ⟨rfl, hb2⟩
  have hb02 := HB1.out.tr hb2
  have HFI := Lib.hid (refFile_any A c gs w2 (HD.out.below hb02) ho hn hl hF)
  have HR2 := Lib.hid (HR.out.below hb2)
  have HB2 := Lib.hid hb02
  clear hb2 hb02 HTX HB1 HR
  go_wp2_with fail
  refine HFI.out.mono ?_; rintro e w3 ⟨rfl, m3, rfl⟩
  have HR3 := Lib.hid (HR2.out.below (below_drewN (Below.refl _ _) m3))
  have HB3 := Lib.hid (HB2.out.tr (below_drewN (Below.refl _ _) m3))
  clear HFI HR2 HB2
  generalize w2.drewN m3 = w3 at *
  have HM3 := Lib.hid (HM.out.below HB3.out)
  have HD3 := Lib.hid (HD.out.below HB3.out)
  clear HM HD HT
  go_wp2_with fail
  go_loopg [6] gs.length (fun gg iv wr => ∃ k : Nat, k ≤ gs.length ∧ gs.length - k ≤ gg ∧ iv = .int .i64 k ∧ Below w3.heap.size w3 wr)
  case atStart => exact ⟨0, by omega, by omega, rfl, Below.refl _ _⟩
  case round =>
    obtain ⟨k, hkl, hgk, rfl, hB⟩ := hrel
    by_cases hlt : k < gs.length
    · obtain ⟨b1, o1, n1, rfl, _, hx1, c1⟩ := (HR3.out.below hB).at_ (k := k) (by rw [HL.out]; exact hlt)
      obtain ⟨b2, o2, x, BX, f2, rfl, hx, d1, d2, d3, S⟩ := (HD3.out.below hB).at_ hlt
      obtain rfl : n1 = x.1 := by rw [List.getElem?_map, hx] at hx1; injection hx1 with h; exact h.symm
      have HV := Lib.hid (gsub_self hk hx)
      have HW := Lib.hid (gset_self hk hx)
      have hxl : x.2.2.length ≤ 100000 := hl x (List.mem_of_getElem? hx)
      have HMr := Lib.hid (HM3.out.below hB)
      have HSr := Lib.hid S.1
      have N0 := Lib.hid c1
      have N1 := Lib.hid d1
      have N2 := Lib.hid d2
      have N3 := Lib.hid d3
      have HB := Lib.hid hB
      obtain ⟨x1, x2, x3⟩ := x
      simp only at HV HW hxl HSr N0 N1 N2 N3
      clear c1 d1 d2 d3 S hx hx1 hB
      have hk0 : (0 : Int) ≤ (k : Int) := by omega
      have hk1 : (k : Int) < (gs.length : Int) := by omega
      have e1 : (x1 != x1) = false := by simp
      have e2 : (x2 != x2) = false := by simp
      go_wp2_with fail
      refine Flow.wp_region_segs Flow.Later Flow.Later.refl Flow.Later.trans [([0, 1, 2, 3, 4, 5, 6, 7, 8, 9, 10, 11, 12, 13, 14, 15, 17, 18, 19, 20, 21], 16), ([22, 23, 24, 25, 26, 27, 28, 29, 31, 32, 33, 34, 35], 30), ([], 36)] [37, 38] (by kernel_rfl) (by kernel_rfl) ?_
      have b' : Below wr.heap.size wr (World.drew wr) := (Below.refl _ _).drew
      have M1 := Lib.hid (HMr.out.below b'); clear HMr
      have S1 := Lib.hid (HSr.out.below b'); clear HSr
      have B1 := Lib.hid b'
      clear b'
      generalize World.drew _ = w1 at *
      have ca0 := Below.cellv (B1.out.tr (by first | exact Below.refl _ _ | exact below_new _ _)) N0.out
      have qa0 : ∀ t : Flow.Cls (Flow.Later w1), t.val.cell? _ = some (enS x1) := fun t => Flow.cls_cell ca0 t
      have cb0 := Below.cellv (B1.out.tr (by first | exact Below.refl _ _ | exact below_new _ _)) N1.out
      have qb0 : ∀ t : Flow.Cls (Flow.Later w1), t.val.cell? _ = some (enS x1) := fun t => Flow.cls_cell cb0 t
      have cs0 := Below.cellv (B1.out.tr (by first | exact Below.refl _ _ | exact below_new _ _)) N2.out
      have qs0 : ∀ t : Flow.Cls (Flow.Later w1), t.val.cell? _ = some (.bool x2) := fun t => Flow.cls_cell cs0 t
      haveI nonE := Flow.cls_nonempty w1
      rw [Flow.wpSegs_cons]
      simp only [Flow.pick, List.getElem?_toArray, List.getElem?_cons_succ, List.getElem?_cons_zero]
      repeat go_big_quiet_step (fail)
      refine wpQuiet_nil ?_
      clear nonE qa0 ca0 qb0 cb0 qs0 cs0
      rw [Flow.callAt_eq]
      simp only [List.getElem?_toArray, List.getElem?_cons_succ, List.getElem?_cons_zero]
      rw [if_pos (by rfl)]
      refine Flow.wp_behind (fun K0 hK => ?_)
      go_wp2_with fail
      refine (subscribedM_b p R gs x1 x2 _ (M1.out.below (by first | exact Below.refl _ _ | exact below_new _ _)) (by omega) HV.out).mono ?_; rintro e w2 ⟨rfl, b⟩
      have b' : Below w1.heap.size w1 w2 := Below.tr (by first | exact Below.refl _ _ | exact below_new _ _) b
      clear b
      refine hK.out _ _ ⟨b', ?_⟩
      clear hK K0
      have M2 := Lib.hid (M1.out.below b'); clear M1
      have S2 := Lib.hid (S1.out.below b'); clear S1
      have B2 := Lib.hid (B1.out.tr b'); clear B1
      clear b'
      have ca0 := Below.cellv (B2.out.tr (by first | exact Below.refl _ _ | exact below_new _ _)) N0.out
      have qa0 : ∀ t : Flow.Cls (Flow.Later w2), t.val.cell? _ = some (enS x1) := fun t => Flow.cls_cell ca0 t
      have ct0 := Below.cellv (B2.out.tr (by first | exact Below.refl _ _ | exact below_new _ _)) N3.out
      have qt0 : ∀ t : Flow.Cls (Flow.Later w2), t.val.cell? _ = some (.slice BX x3.length f2) := fun t => Flow.cls_cell ct0 t
      haveI nonE := Flow.cls_nonempty w2
      rw [Flow.wpSegs_cons]
      simp only [Flow.pick, List.getElem?_toArray, List.getElem?_cons_succ, List.getElem?_cons_zero]
      repeat go_big_quiet_step (fail)
      refine wpQuiet_nil ?_
      clear nonE qa0 ca0 qt0 ct0
      rw [Flow.callAt_eq]
      simp only [List.getElem?_toArray, List.getElem?_cons_succ, List.getElem?_cons_zero]
      rw [if_pos (by rfl)]
      refine Flow.wp_behind (fun K0 hK => ?_)
      go_wp2_with fail
      refine (setM_any p R gs x1 _ (M2.out.below (by first | exact Below.refl _ _ | exact below_new _ _)) (fun g h => by have := hl g h; omega) (by omega)).mono ?_; rintro e w3 ⟨A5, c5, rfl, r5, s5, b⟩
      have b' : Below w2.heap.size w2 w3 := Below.tr (by first | exact Below.refl _ _ | exact below_new _ _) b
      clear b
      refine hK.out _ _ ⟨b', ?_⟩
      clear hK K0
      have M3 := Lib.hid (M2.out.below b'); clear M2
      have S3 := Lib.hid (S2.out.below b'); clear S2
      have B3 := Lib.hid (B2.out.tr b'); clear B2
      clear b'
      have R53 := Lib.hid r5; clear r5
      rw [HW.out]
      haveI nonE := Flow.cls_nonempty w3
      rw [Flow.wpSegs_cons]
      simp only [Flow.pick]
      refine wpQuiet_nil ?_
      clear nonE 
      rw [Flow.callAt_eq]
      simp only [List.getElem?_toArray, List.getElem?_cons_succ, List.getElem?_cons_zero]
      rw [if_pos (by rfl)]
      refine Flow.wp_behind (fun K0 hK => ?_)
      go_wp2_with fail
      refine (is_any A5 BX c5 f2 x3 x3 _ (by have h := (R53.out.below (by first | exact Below.refl _ _ | exact below_new _ _)); rwa [HW.out] at h) (by rwa [HW.out] at s5) (S3.out.below (by first | exact Below.refl _ _ | exact below_new _ _)) (by omega) (by omega)).mono ?_; rintro e w4 ⟨rfl, b⟩
      have b' : Below w3.heap.size w3 w4 := Below.tr (by first | exact Below.refl _ _ | exact below_new _ _) b
      clear b
      refine hK.out _ _ ⟨b', ?_⟩
      clear hK K0
      have M4 := Lib.hid (M3.out.below b'); clear M3
      have S4 := Lib.hid (S3.out.below b'); clear S3
      have R54 := Lib.hid (R53.out.below b'); clear R53
      have B4 := Lib.hid (B3.out.tr b'); clear B3
      clear b'
      haveI nonE := Flow.cls_nonempty w4
      rw [Flow.wpSegs_nil]
      simp only [Flow.pick, List.getElem?_toArray, List.getElem?_cons_succ, List.getElem?_cons_zero]
      repeat go_big_quiet_step (fail)
      refine wpQuiet_nil ?_
      clear nonE 
      go_wp2_with fail
      go_roundg (gs.length - (k + 1))
      case measure => omega
      case rel => exact ⟨k + 1, by omega, by omega, by go_num, HB.out.tr B4.out⟩
    · obtain rfl : k = gs.length := by omega
      go_wp2_with fail
      go_ret
      exact ⟨rfl, HB3.out.tr hB⟩
end Go.Proofs.YtcpennlojjlpaaaGreatDoor
