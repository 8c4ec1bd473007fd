/- The walk of the statement StatsText. -/
import Derived.Test.YthgefcoaaommkaaGreatDoorSyM
import Derived.Test.YthgefcoaaommkaaGreatDoorSyL
import Derived.Test.YthgefcoaaommkaaGreatDoorZj
import Derived.Test.YthgefcoaaommkaaGreatDoorZe
import Derived.Test.YthgefcoaaommkaaGreatDoorSuO
namespace Go.Proofs.YthgefcoaaommkaaGreatDoor
open Go.RowKit Go.Gn Go.Sr Go.Maps Go.Nr

set_option maxRecDepth 100000 in
set_option maxHeartbeats 16000000 in
theorem statsText_walk (A : Option Addr) (c : Nat) (ms : List EvM) (before : Int) (w : World) (h : RdE w A ms) (hlc : ms.length ≤ c) (hc : c ≤ maxLen) (hL : ∀ m ∈ ms, LenM m) (hE : Env w) (hT : Tab w) :
    Calls Tryz.prog 8 #[.slice A ms.length c, i64 before] w fun e w' => e = .returned (.bool true) ∧ Below w.heap.size w w' := by
  have HT := Lib.hid hT
  have HEn := Lib.hid hE
  have HK := Lib.hid (fun W (hb : Below w.heap.size w W) => known_any W (hE.below hb))
  have HF := Lib.hid (fun W (hb : Below w.heap.size w W) => few_any A c ms W (h.below hb) hL hlc hc)
  have HBd := Lib.hid (fun W (hb : Below w.heap.size w W) hF hlen => build_any A c ms W (h.below hb) hlc hc hF hlen (hE.below hb))
  have HAU := Lib.hid (fun m hm => (h.good m hm).au)
  clear h hE hL hT
  go_enter Tryz.func8, Tryz.ntmps8
  go_wp2_with fail
  refine (HK.out _ (Below.refl _ _)).mono ?_; rintro e w1 ⟨rfl, b1⟩
  have B1 := Lib.hid b1; clear b1
  go_wp2_with fail
  refine (HF.out _ B1.out).mono ?_; rintro e w2 ⟨r, rfl, rfl, hr⟩
  cases r
  case false =>
    clear hr
    go_wp2_with fail
    refine (HK.out _ B1.out).mono ?_; rintro e w3 ⟨rfl, b3⟩
    have B3 := Lib.hid (B1.out.tr b3); clear b3
    go_wp2_with fail
    go_ret
    exact ⟨rfl, B3.out⟩
  obtain ⟨hF, hlen⟩ := hr rfl
  have HFew := Lib.hid hF
  clear hF hr HF HK
  go_wp2_with fail
  refine (HBd.out _ B1.out HFew.out (by omega)).mono ?_; rintro e w3 ⟨p, bd, bn, Ax, cx, rfl, hst, hrd, hlx, hcx, b3, hge, hlow⟩
  have hge3 := hge.2.2
  have hw1 := B1.out.size
  have hbnw : w.heap.size ≤ bn := by omega
  clear hlow hge hge3 hw1
  have ST := Lib.hid hst
  have X := Lib.hid hrd
  have B3 := Lib.hid (B1.out.tr b3)
  have hxl := okS_len ms
  have hgl := okS_good (ms := ms)
  have hau : ∀ e ∈ (okS ms).map (·.e), e.author.length = 16 := fun e he => by
    obtain ⟨m, hm, rfl⟩ := List.mem_map.1 he
    exact HAU.out m (List.mem_filter.1 hm).1
  clear hst hrd b3 B1 HBd HFew HAU hlc hc
  generalize okS ms = lx at *
  obtain ⟨x, hx⟩ : ∃ x, lx.map (·.e) = x := ⟨_, rfl⟩
  have HXe := Lib.hid hx
  have HG := Lib.hid (show ∀ m ∈ lx, GoodE m.e from fun m hm => hgl _ (List.mem_map.2 ⟨m, hm, rfl⟩))
  have hxn : x.length = lx.length := by rw [← hx, List.length_map]
  unfold StE at ST
  rw [hx] at ST hgl hau
  clear hx
  have OKX := Lib.hid (textOk_of hgl hau (by omega))
  have TXB := Lib.hid (text_model hgl)
  have TS := Lib.hid (text_small hgl hau (by omega) before)
  have dS := Lib.hid ((daysL_bnd x hgl).small (by omega))
  have ldx := daysL_len x
  have lnx := namesL_len x hgl
  obtain ⟨st, hp1, hp2, hp3, hp4⟩ := trip hgl hau (by omega) before
  have HP1 := Lib.hid hp1
  have HP2 := Lib.hid hp2
  have HP3 := Lib.hid hp3
  have HP4 := Lib.hid hp4
  have T2 := Lib.hid (daysL_two x)
  have T3 := Lib.hid (fromDay_two (b := before) (namesL_two x))
  clear hp1 hp2 hp3 hp4
  have HTM := Lib.hid (fun W (h : RdE W Ax lx) => mText_any Ax cx lx 0 W h HG.out hlx hcx (by omega))
  rw [HXe.out, ← TXB.out] at HTM
  obtain ⟨T0, hT0⟩ : ∃ T, textP (daysL x) (namesL x) (sizesL x) = T := ⟨_, rfl⟩
  have PT0 := Lib.hid (fun W (h : StM W p bd bn (daysL x) (namesL x) (sizesL x)) hT => OKX.out.any p bd bn W h hT)
  rw [hT0] at PT0 HTM
  clear hT0 TXB
  have e0 : (T0 != T0) = false := by simp
  go_wp2_with fail
  refine (PT0.out _ ST.out (HT.out.below B3.out)).mono ?_; rintro e u1 ⟨rfl, b⟩
  have ST1 := Lib.hid (ST.out.below b)
  have X1 := Lib.hid (X.out.below b)
  have B4 := Lib.hid (B3.out.tr b)
  clear b ST X B3 PT0
  go_wp2_with fail
  refine (HTM.out _ X1.out).mono ?_; rintro e u2 ⟨rfl, b⟩
  have ST2 := Lib.hid (ST1.out.below b)
  have B5 := Lib.hid (B4.out.tr b)
  clear b ST1 X1 B4 HTM HG HXe
  go_wp2_with fail
  refine (forget_any p bd bn _ _ _ before u2 ST2.out (by omega)).mono ?_; rintro e u3 ⟨rfl, hst, hb⟩
  have ST3 := Lib.hid hst
  have B6 := Lib.hid (B5.out.trans (hb.toBelow (B := w.heap.size) B5.out.size (by simp; omega)))
  clear hst hb ST2 B5
  obtain ⟨T, hTe⟩ : ∃ T, textP (daysL x) (fromDay before (namesL x)) (sizesL x) = T := ⟨_, rfl⟩
  have PT := Lib.hid (fun W (h : StM W p bd bn (daysL x) (fromDay before (namesL x)) (sizesL x)) hT => (OKX.out.sub before).any p bd bn W h hT)
  have PQ := Lib.hid (fun q be bm W (h : StM W q be bm st.ds st.ns (sizesL x)) hT => ((OKX.out.sub before).perm HP2.out HP3.out).any q be bm W h hT)
  have ETX := Lib.hid (show textP st.ds st.ns (sizesL x) = T by rw [← hTe]; exact textP_same (sizesL x) (fun k => (getA_perm T2.out HP2.out.symm k).symm) (fun k => (getA_perm T3.out HP3.out.symm k).symm))
  rw [ETX.out] at PQ
  rw [hTe] at PT HP1 TS
  clear hTe ETX
  have eT : (T == T) = true := by simp
  have HPP := Lib.hid (fun W (hb : Below w.heap.size w W) => parse_any T W (HEn.out.below hb) (HT.out.below hb) TS.out)
  rw [HP1.out] at HPP
  have HGD := Lib.hid (fun k => (getA_perm T2.out HP2.out.symm k).symm)
  have HGN := Lib.hid (fun k => (getA_perm T3.out HP3.out.symm k).symm)
  have HSUM := Lib.hid (sumC_perm (HP2.out.map (·.2)))
  have hdl := HP2.out.length_eq
  have dS2 := Lib.hid (fun q (hq : q ∈ st.ds) => dS.out q (HP2.out.mem_iff.1 hq))
  generalize daysL x = ds at *
  generalize fromDay before (namesL x) = ns' at *
  clear HP1 TS HP2 HP3 T2 T3 OKX
  go_wp2_with fail
  refine (PT.out _ ST3.out (HT.out.below B6.out)).mono ?_; rintro e u4 ⟨rfl, b⟩
  have ST4 := Lib.hid (ST3.out.below b)
  have B7 := Lib.hid (B6.out.tr b)
  clear b ST3 B6 PT
  go_wp2_with fail
  refine (HPP.out _ B7.out).mono ?_; rintro e u5 ⟨q, be, bm, rfl, sm, -, b⟩
  have ST5 := Lib.hid (ST4.out.below b)
  rw [HP4.out] at sm
  have SQ5 := Lib.hid sm
  have B8 := Lib.hid (B7.out.tr b)
  clear b ST4 B7 HPP sm HP4
  generalize sizesL x = zs at *
  go_wp2_with fail
  refine (equal_true q be bm p bd bn st.ds ds st.ns ns' zs u5 SQ5.out ST5.out HGD.out HGN.out).mono ?_; rintro e u6 ⟨rfl, b⟩
  have ST6 := Lib.hid (ST5.out.below b)
  have SQ6 := Lib.hid (SQ5.out.below b)
  have B9 := Lib.hid (B8.out.tr b)
  clear b ST5 SQ5 B8
  go_wp2_with fail
  refine (PQ.out q be bm _ SQ6.out (HT.out.below B9.out)).mono ?_; rintro e u7 ⟨rfl, b⟩
  have ST7 := Lib.hid (ST6.out.below b)
  have SQ7 := Lib.hid (SQ6.out.below b)
  have B10 := Lib.hid (B9.out.tr b)
  clear b ST6 SQ6 B9 PQ
  have HTq := Lib.hid (fun W (h : StM W q be bm st.ds st.ns zs) => total_any q be bm st.ds st.ns zs W h dS2.out (by omega))
  have HTp := Lib.hid (fun W (h : StM W p bd bn ds ns' zs) => total_any p bd bn ds ns' zs W h dS.out (by omega))
  rw [HSUM.out] at HTq
  obtain ⟨⟨S1, S2⟩, hS⟩ : ∃ z, sumC (ds.map (·.2)) = z := ⟨_, rfl⟩
  rw [hS] at HTq HTp
  clear hS HSUM dS dS2
  simp only [cV] at HTq HTp
  go_wp2_with fail
  refine (HTq.out _ SQ7.out).mono ?_; rintro e u8 ⟨rfl, b⟩
  have ST8 := Lib.hid (ST7.out.below b)
  have SQ8 := Lib.hid (SQ7.out.below b)
  have B11 := Lib.hid (B10.out.tr b)
  clear b ST7 SQ7 B10 HTq
  go_wp2_with fail
  refine (HTp.out _ ST8.out).mono ?_; rintro e u9 ⟨rfl, b⟩
  have ST9 := Lib.hid (ST8.out.below b)
  have SQ9 := Lib.hid (SQ8.out.below b)
  have B12 := Lib.hid (B11.out.tr b)
  clear b ST8 SQ8 B11 HTp
  go_wp2_with fail
  refine (sizes_any q be bm st.ds st.ns zs u9 SQ9.out).mono ?_; rintro e u10 ⟨rfl, b⟩
  have ST10 := Lib.hid (ST9.out.below b)
  have B13 := Lib.hid (B12.out.tr b)
  clear b ST9 SQ9 B12
  go_wp2_with fail
  refine (sizes_any p bd bn ds ns' zs u10 ST10.out).mono ?_; rintro e u11 ⟨rfl, b⟩
  have hzl := ST10.out.zl
  have B14 := Lib.hid (B13.out.tr b)
  clear b ST10 B13
  have ezs : (zs == zs) = true := by simp
  go_wp2_with (refine wpList_eqlI_g (by rfl) 63 3 18 Tryz.underlying63 Tryz.underlying3 Tryz.sizeOf3 (by kernel_rfl) _ _ _ rfl zs zs rfl rfl hzl hzl ?_)
  go_ret
  exact ⟨rfl, B14.out⟩
end Go.Proofs.YthgefcoaaommkaaGreatDoor
