/- Contract: the reference's Change.
   Contract: the statements' own do.
   Contract: the statements' own run. -/
import Derived.Test.YtcpennlojjlpaaaGreatDoorZk
import Derived.Test.YtcpennlojjlpaaaGreatDoorZh
import Derived.Test.YtcpennlojjlpaaaGreatDoorZb
namespace Go.Proofs.YtcpennlojjlpaaaGreatDoor
open Go.RowKit Go.Nr Go.Gn

theorem RdR.one2 (w : World) (r1 r2 : Int) (t : TypeId) : RdR (w.alloc (.cells #[i64 r1, i64 r2] t)) (some ⟨w.heap.size, 0, none⟩) [(r1, r2)] := RdR.one w (r1, r2) t
set_option maxRecDepth 100000 in
set_option maxHeartbeats 4000000 in
theorem refChange0_any (A : Option Addr) (c : Nat) (gs : List G) (s : List UInt8) (n : Int) (w : World) (h : RdG w A gs) (hg : Okm gs) (hl : Lens 800 gs) (hn : gs.length ≤ 100000) :
    Calls Tryz.prog 96 #[.slice A gs.length c, i64 0, enS s, i64 n] w (GivesRM w (chgM gs 0 s n) (chgE gs 0 s n)) := by
  have H := Lib.hid h; clear h
  have HFi := Lib.hid (fun W (h : RdG W A gs) => refFind_any A c gs s W h (by omega))
  have HCo := Lib.hid (fun W (h : RdG W A gs) => copied_any A c gs W h (by omega))
  by_cases hi : gidx gs s < gs.length
  case neg =>
    have V2 : Hid (chgE gs 0 s n = 8) := by (show chgE gs 0 s n = 8); unfold chgE; rw [if_neg hi]
    have V1 : Hid (chgM gs 0 s n = gs) := by (show chgM gs 0 s n = gs); unfold chgM; rw [V2.out]; rfl
    have hf1 : (findI gs s) = -1 := by unfold findI; rw [if_neg hi]
    rw [hf1] at HFi
    rw [V1.out, V2.out]
    clear hi hf1 hg hl
    go_enter Tryz.func96, Tryz.ntmps96
    go_wp2_with fail
    refine (HFi.out _ H.out).mono ?_; rintro e w2 ⟨rfl, rfl⟩
    go_wp2_with fail
    go_ret2
    exact ⟨A, c, rfl, H.out, Below.refl _ _⟩
  case pos =>
    have HI := Lib.hid hi
    have VF : Hid (findI gs s = (gidx gs s : Int)) := by (show findI gs s = _); unfold findI; rw [if_pos hi]
    rw [VF.out] at HFi
    have hi0 : (0 : Int) ≤ (gidx gs s : Int) := by omega
    have hi1 : (gidx gs s : Int) < (gs.length : Int) := by omega
    have VE : Hid (chgE gs 0 s n = if n < 0 ∨ M < n ∨ (n = 0 ∧ 0 ≠ 2) then 2 else 0) := by (show chgE gs 0 s n = _); unfold chgE; rw [if_pos hi]
    have VM : Hid (chgM gs 0 s n = if chgE gs 0 s n = 0 then setSet gs (gidx gs s) (chgS (gset gs s) 0 n) else gs) := rfl
    by_cases hbad : n < 0 ∨ M < n ∨ (n = 0 ∧ 0 ≠ 2)
    case pos =>
      have V2 : Hid (chgE gs 0 s n = 2) := by (show chgE gs 0 s n = 2); rw [VE.out, if_pos hbad]
      have V1 : Hid (chgM gs 0 s n = gs) := by (show chgM gs 0 s n = gs); rw [VM.out, V2.out]; rfl
      rw [V1.out, V2.out]
      rw [M_eq] at hbad
      clear hg hl hi
      generalize gidx gs s = i at *
      rcases hbad with hb | hb | hb
      · go_enter Tryz.func96, Tryz.ntmps96
        go_wp2_with fail
        refine (HFi.out _ H.out).mono ?_; rintro e w2 ⟨rfl, rfl⟩
        go_wp2_with fail
        go_ret2
        exact ⟨A, c, rfl, H.out, Below.refl _ _⟩
      · have hb0 : ¬ n < 0 := by omega
        go_enter Tryz.func96, Tryz.ntmps96
        go_wp2_with fail
        refine (HFi.out _ H.out).mono ?_; rintro e w2 ⟨rfl, rfl⟩
        go_wp2_with fail
        go_ret2
        exact ⟨A, c, rfl, H.out, Below.refl _ _⟩
      · obtain ⟨rfl, _⟩ := hb
        go_enter Tryz.func96, Tryz.ntmps96
        go_wp2_with fail
        refine (HFi.out _ H.out).mono ?_; rintro e w2 ⟨rfl, rfl⟩
        go_wp2_with fail
        go_ret2
        exact ⟨A, c, rfl, H.out, Below.refl _ _⟩
    case neg =>
      have V2 : Hid (chgE gs 0 s n = 0) := by (show chgE gs 0 s n = 0); rw [VE.out, if_neg hbad]
      have V1 : Hid (chgM gs 0 s n = setSet gs (gidx gs s) (chgS (gset gs s) 0 n)) := by (show chgM gs 0 s n = _); rw [VM.out, V2.out, if_pos rfl]
      rw [V1.out, V2.out]
      obtain ⟨b0, o0, x, B, f, rfl, hx, h1, h2, h3, hrs⟩ := H.out.at_ hi
      have hgs : gset gs s = x.2.2 := by unfold gset; rw [hx]
      rw [hgs]
      have hok := hg.sets x (List.mem_of_getElem? hx)
      have hxl := hl x (List.mem_of_getElem? hx)
      have hn0 : 0 ≤ n := by omega
      have hnM : n ≤ M := by omega
      have hclen := chgS_len (l := x.2.2) (k := 0) (n := n) hok hn0 hnM (fun e => absurd (Or.inr (Or.inr ⟨e, by decide⟩)) hbad)
      have hrx : ∀ q ∈ x.2.2, 0 ≤ q.2 ∧ q.2 ≤ M := fun q hq => by obtain ⟨z1, z2, z3⟩ := hok.2 q hq; exact ⟨by omega, z3⟩
      generalize gidx gs s = i at *
      obtain ⟨x1, x2, x3⟩ := x
      simp only at h1 h2 h3 hrs hok hxl hclen hrx ⊢
      have ok1 : Okset [(n, n)] := one_ok (by omega) (by omega) hnM
      have rr1 : ∀ q ∈ [(n, n)], 0 ≤ q.2 ∧ q.2 ≤ M := fun q hq => by obtain ⟨z1, z2, z3⟩ := ok1.2 q hq; exact ⟨by omega, z3⟩
      have hT : chgS x3 0 n = orS x3 [(n, n)] := rfl
      rw [hT] at hclen ⊢
      have HOp := Lib.hid (fun X f' W (h1 : RdR W B x3) (h2 : RdR W X [(n, n)]) => refOr_any B X f f' x3 [(n, n)] W h1 h2 (by simp; omega) hrx rr1)
      have HRS := Lib.hid hrs
      rw [M_eq] at hnM hbad
      have h4096 : (orS x3 [(n, n)]).length ≤ 4096 := by omega
      clear hT ok1 rr1 hrx hok hxl hx hg hl hgs h1 h2 hrs hi V1 V2 VE VM VF
      generalize orS x3 [(n, n)] = TT at *
      go_enter Tryz.func96, Tryz.ntmps96
      go_wp2_with fail
      refine (HFi.out _ H.out).mono ?_; rintro e w2 ⟨rfl, rfl⟩
      have B2 := Lib.hid (below_new w (.cells #[i64 n, i64 n] 37))
      go_wp2_with fail
      refine (HOp.out (some ⟨w.heap.size, 0, none⟩) 1 _ (HRS.out.1.below (below_new _ _)) (RdR.one2 w n n _)).mono ?_; rintro e w4 ⟨A4, c4, rfl, ho4, b4⟩
      have HT : Hid (SetR w4 A4 TT) := ⟨(RdR.of_own ho4).1, fun a ha => (own_new ho4 (Nat.le_refl _) a ha).2⟩
      have HW4 := Lib.hid (B2.out.tr b4)
      have H4 := Lib.hid (H.out.below HW4.out)
      clear ho4 b4
      go_wp2_with fail
      refine (HCo.out _ H4.out).mono ?_; rintro e w5 ⟨A5, c5, xs, rfl, hxs, ho, hs5, b5⟩
      have hxl5 : xs.length = gs.length := by rw [← hxs, List.length_map]
      obtain ⟨g, rfl⟩ : ∃ g, A5 = some ⟨g, 0, none⟩ := by
        rcases ho.2 with ⟨e1, h0⟩ | ⟨g, cap, cur, e1, _⟩
        · omega
        · cases e1; exact ⟨g, rfl⟩
      have hgb := (ho.lt g rfl).1
      obtain ⟨y, hy⟩ : ∃ y, xs[i]? = some y := ⟨_, List.getElem?_eq_getElem (by omega)⟩
      obtain ⟨_, _, f3⟩ := mflat_at xs i y hy
      obtain ⟨k1, k2, _⟩ := own_cell ho f3
      have HO := Lib.hid ho
      have HS := Lib.hid hs5
      have HXS := Lib.hid hxs
      have HXL := Lib.hid hxl5
      have B5 := Lib.hid b5
      clear ho hs5 hxs hxl5 b5 hy f3
      go_wp2_with fail
      go_ret2
      have hst := own_set (t := i * 3 + 2) (v := .slice A4 TT.length c4) HO.out
      rw [mflat_set xs i TT A4 c4 (by rw [HXL.out]; exact HI.out)] at hst
      have hb6 := B5.out.setCell (p := ⟨g, i * 3 + 2, none⟩) hgb (.slice A4 TT.length c4)
      refine ⟨some ⟨g, 0, none⟩, c5, by rw [setSet_length]; rfl, ⟨xs.modify i fun x => ((x.1.1, x.1.2.1, TT), A4, c4), ?_, RdGX.of_own hst fun x hx => ?_⟩, HW4.out.tr hb6⟩
      · rw [← HXS.out]
        exact map_modify_comm (f := fun x : G × Option Addr × Nat => x.1) (u := fun x => ((x.1.1, x.1.2.1, TT), A4, c4)) (v := fun g => (g.1, g.2.1, TT)) (fun x => rfl) xs i
      · obtain ⟨z, hz, e⟩ := mem_modify hx
        rcases e with e | e <;> rw [e]
        · exact (HS.out z hz).below hb6
        · exact HT.out.below hb6
set_option maxRecDepth 100000 in
set_option maxHeartbeats 4000000 in
theorem refChange1_any (A : Option Addr) (c : Nat) (gs : List G) (s : List UInt8) (n : Int) (w : World) (h : RdG w A gs) (hg : Okm gs) (hl : Lens 800 gs) (hn : gs.length ≤ 100000) :
    Calls Tryz.prog 96 #[.slice A gs.length c, i64 1, enS s, i64 n] w (GivesRM w (chgM gs 1 s n) (chgE gs 1 s n)) := by
  have H := Lib.hid h; clear h
  have HFi := Lib.hid (fun W (h : RdG W A gs) => refFind_any A c gs s W h (by omega))
  have HCo := Lib.hid (fun W (h : RdG W A gs) => copied_any A c gs W h (by omega))
  by_cases hi : gidx gs s < gs.length
  case neg =>
    have V2 : Hid (chgE gs 1 s n = 8) := by (show chgE gs 1 s n = 8); unfold chgE; rw [if_neg hi]
    have V1 : Hid (chgM gs 1 s n = gs) := by (show chgM gs 1 s n = gs); unfold chgM; rw [V2.out]; rfl
    have hf1 : (findI gs s) = -1 := by unfold findI; rw [if_neg hi]
    rw [hf1] at HFi
    rw [V1.out, V2.out]
    clear hi hf1 hg hl
    go_enter Tryz.func96, Tryz.ntmps96
    go_wp2_with fail
    refine (HFi.out _ H.out).mono ?_; rintro e w2 ⟨rfl, rfl⟩
    go_wp2_with fail
    go_ret2
    exact ⟨A, c, rfl, H.out, Below.refl _ _⟩
  case pos =>
    have HI := Lib.hid hi
    have VF : Hid (findI gs s = (gidx gs s : Int)) := by (show findI gs s = _); unfold findI; rw [if_pos hi]
    rw [VF.out] at HFi
    have hi0 : (0 : Int) ≤ (gidx gs s : Int) := by omega
    have hi1 : (gidx gs s : Int) < (gs.length : Int) := by omega
    have VE : Hid (chgE gs 1 s n = if n < 0 ∨ M < n ∨ (n = 0 ∧ 1 ≠ 2) then 2 else 0) := by (show chgE gs 1 s n = _); unfold chgE; rw [if_pos hi]
    have VM : Hid (chgM gs 1 s n = if chgE gs 1 s n = 0 then setSet gs (gidx gs s) (chgS (gset gs s) 1 n) else gs) := rfl
    by_cases hbad : n < 0 ∨ M < n ∨ (n = 0 ∧ 1 ≠ 2)
    case pos =>
      have V2 : Hid (chgE gs 1 s n = 2) := by (show chgE gs 1 s n = 2); rw [VE.out, if_pos hbad]
      have V1 : Hid (chgM gs 1 s n = gs) := by (show chgM gs 1 s n = gs); rw [VM.out, V2.out]; rfl
      rw [V1.out, V2.out]
      rw [M_eq] at hbad
      clear hg hl hi
      generalize gidx gs s = i at *
      rcases hbad with hb | hb | hb
      · go_enter Tryz.func96, Tryz.ntmps96
        go_wp2_with fail
        refine (HFi.out _ H.out).mono ?_; rintro e w2 ⟨rfl, rfl⟩
        go_wp2_with fail
        go_ret2
        exact ⟨A, c, rfl, H.out, Below.refl _ _⟩
      · have hb0 : ¬ n < 0 := by omega
        go_enter Tryz.func96, Tryz.ntmps96
        go_wp2_with fail
        refine (HFi.out _ H.out).mono ?_; rintro e w2 ⟨rfl, rfl⟩
        go_wp2_with fail
        go_ret2
        exact ⟨A, c, rfl, H.out, Below.refl _ _⟩
      · obtain ⟨rfl, _⟩ := hb
        go_enter Tryz.func96, Tryz.ntmps96
        go_wp2_with fail
        refine (HFi.out _ H.out).mono ?_; rintro e w2 ⟨rfl, rfl⟩
        go_wp2_with fail
        go_ret2
        exact ⟨A, c, rfl, H.out, Below.refl _ _⟩
    case neg =>
      have V2 : Hid (chgE gs 1 s n = 0) := by (show chgE gs 1 s n = 0); rw [VE.out, if_neg hbad]
      have V1 : Hid (chgM gs 1 s n = setSet gs (gidx gs s) (chgS (gset gs s) 1 n)) := by (show chgM gs 1 s n = _); rw [VM.out, V2.out, if_pos rfl]
      rw [V1.out, V2.out]
      obtain ⟨b0, o0, x, B, f, rfl, hx, h1, h2, h3, hrs⟩ := H.out.at_ hi
      have hgs : gset gs s = x.2.2 := by unfold gset; rw [hx]
      rw [hgs]
      have hok := hg.sets x (List.mem_of_getElem? hx)
      have hxl := hl x (List.mem_of_getElem? hx)
      have hn0 : 0 ≤ n := by omega
      have hnM : n ≤ M := by omega
      have hclen := chgS_len (l := x.2.2) (k := 1) (n := n) hok hn0 hnM (fun e => absurd (Or.inr (Or.inr ⟨e, by decide⟩)) hbad)
      have hrx : ∀ q ∈ x.2.2, 0 ≤ q.2 ∧ q.2 ≤ M := fun q hq => by obtain ⟨z1, z2, z3⟩ := hok.2 q hq; exact ⟨by omega, z3⟩
      generalize gidx gs s = i at *
      obtain ⟨x1, x2, x3⟩ := x
      simp only at h1 h2 h3 hrs hok hxl hclen hrx ⊢
      have ok1 : Okset [(n, n)] := one_ok (by omega) (by omega) hnM
      have rr1 : ∀ q ∈ [(n, n)], 0 ≤ q.2 ∧ q.2 ≤ M := fun q hq => by obtain ⟨z1, z2, z3⟩ := ok1.2 q hq; exact ⟨by omega, z3⟩
      have hT : chgS x3 1 n = minusS x3 [(n, n)] := rfl
      rw [hT] at hclen ⊢
      have HOp := Lib.hid (fun X f' W (h1 : RdR W B x3) (h2 : RdR W X [(n, n)]) => refMinus_any B X f f' x3 [(n, n)] W h1 h2 hok ok1 (by simp; omega))
      have HRS := Lib.hid hrs
      rw [M_eq] at hnM hbad
      have h4096 : (minusS x3 [(n, n)]).length ≤ 4096 := by omega
      clear hT ok1 rr1 hrx hok hxl hx hg hl hgs h1 h2 hrs hi V1 V2 VE VM VF
      generalize minusS x3 [(n, n)] = TT at *
      go_enter Tryz.func96, Tryz.ntmps96
      go_wp2_with fail
      refine (HFi.out _ H.out).mono ?_; rintro e w2 ⟨rfl, rfl⟩
      have B2 := Lib.hid (below_new w (.cells #[i64 n, i64 n] 37))
      go_wp2_with fail
      refine (HOp.out (some ⟨w.heap.size, 0, none⟩) 1 _ (HRS.out.1.below (below_new _ _)) (RdR.one2 w n n _)).mono ?_; rintro e w4 ⟨A4, c4, rfl, ho4, b4⟩
      have HT : Hid (SetR w4 A4 TT) := ⟨(RdR.of_own ho4).1, fun a ha => (own_new ho4 (Nat.le_refl _) a ha).2⟩
      have HW4 := Lib.hid (B2.out.tr b4)
      have H4 := Lib.hid (H.out.below HW4.out)
      clear ho4 b4
      go_wp2_with fail
      refine (HCo.out _ H4.out).mono ?_; rintro e w5 ⟨A5, c5, xs, rfl, hxs, ho, hs5, b5⟩
      have hxl5 : xs.length = gs.length := by rw [← hxs, List.length_map]
      obtain ⟨g, rfl⟩ : ∃ g, A5 = some ⟨g, 0, none⟩ := by
        rcases ho.2 with ⟨e1, h0⟩ | ⟨g, cap, cur, e1, _⟩
        · omega
        · cases e1; exact ⟨g, rfl⟩
      have hgb := (ho.lt g rfl).1
      obtain ⟨y, hy⟩ : ∃ y, xs[i]? = some y := ⟨_, List.getElem?_eq_getElem (by omega)⟩
      obtain ⟨_, _, f3⟩ := mflat_at xs i y hy
      obtain ⟨k1, k2, _⟩ := own_cell ho f3
      have HO := Lib.hid ho
      have HS := Lib.hid hs5
      have HXS := Lib.hid hxs
      have HXL := Lib.hid hxl5
      have B5 := Lib.hid b5
      clear ho hs5 hxs hxl5 b5 hy f3
      go_wp2_with fail
      go_ret2
      have hst := own_set (t := i * 3 + 2) (v := .slice A4 TT.length c4) HO.out
      rw [mflat_set xs i TT A4 c4 (by rw [HXL.out]; exact HI.out)] at hst
      have hb6 := B5.out.setCell (p := ⟨g, i * 3 + 2, none⟩) hgb (.slice A4 TT.length c4)
      refine ⟨some ⟨g, 0, none⟩, c5, by rw [setSet_length]; rfl, ⟨xs.modify i fun x => ((x.1.1, x.1.2.1, TT), A4, c4), ?_, RdGX.of_own hst fun x hx => ?_⟩, HW4.out.tr hb6⟩
      · rw [← HXS.out]
        exact map_modify_comm (f := fun x : G × Option Addr × Nat => x.1) (u := fun x => ((x.1.1, x.1.2.1, TT), A4, c4)) (v := fun g => (g.1, g.2.1, TT)) (fun x => rfl) xs i
      · obtain ⟨z, hz, e⟩ := mem_modify hx
        rcases e with e | e <;> rw [e]
        · exact (HS.out z hz).below hb6
        · exact HT.out.below hb6
set_option maxRecDepth 100000 in
set_option maxHeartbeats 4000000 in
theorem refChange2_any (A : Option Addr) (c : Nat) (gs : List G) (s : List UInt8) (n : Int) (w : World) (h : RdG w A gs) (hg : Okm gs) (hl : Lens 800 gs) (hn : gs.length ≤ 100000) :
    Calls Tryz.prog 96 #[.slice A gs.length c, i64 2, enS s, i64 n] w (GivesRM w (chgM gs 2 s n) (chgE gs 2 s n)) := by
  have H := Lib.hid h; clear h
  have HFi := Lib.hid (fun W (h : RdG W A gs) => refFind_any A c gs s W h (by omega))
  have HCo := Lib.hid (fun W (h : RdG W A gs) => copied_any A c gs W h (by omega))
  by_cases hi : gidx gs s < gs.length
  case neg =>
    have V2 : Hid (chgE gs 2 s n = 8) := by (show chgE gs 2 s n = 8); unfold chgE; rw [if_neg hi]
    have V1 : Hid (chgM gs 2 s n = gs) := by (show chgM gs 2 s n = gs); unfold chgM; rw [V2.out]; rfl
    have hf1 : (findI gs s) = -1 := by unfold findI; rw [if_neg hi]
    rw [hf1] at HFi
    rw [V1.out, V2.out]
    clear hi hf1 hg hl
    go_enter Tryz.func96, Tryz.ntmps96
    go_wp2_with fail
    refine (HFi.out _ H.out).mono ?_; rintro e w2 ⟨rfl, rfl⟩
    go_wp2_with fail
    go_ret2
    exact ⟨A, c, rfl, H.out, Below.refl _ _⟩
  case pos =>
    have HI := Lib.hid hi
    have VF : Hid (findI gs s = (gidx gs s : Int)) := by (show findI gs s = _); unfold findI; rw [if_pos hi]
    rw [VF.out] at HFi
    have hi0 : (0 : Int) ≤ (gidx gs s : Int) := by omega
    have hi1 : (gidx gs s : Int) < (gs.length : Int) := by omega
    have VE : Hid (chgE gs 2 s n = if n < 0 ∨ M < n ∨ (n = 0 ∧ 2 ≠ 2) then 2 else 0) := by (show chgE gs 2 s n = _); unfold chgE; rw [if_pos hi]
    have VM : Hid (chgM gs 2 s n = if chgE gs 2 s n = 0 then setSet gs (gidx gs s) (chgS (gset gs s) 2 n) else gs) := rfl
    by_cases hbad : n < 0 ∨ M < n ∨ (n = 0 ∧ 2 ≠ 2)
    case pos =>
      have V2 : Hid (chgE gs 2 s n = 2) := by (show chgE gs 2 s n = 2); rw [VE.out, if_pos hbad]
      have V1 : Hid (chgM gs 2 s n = gs) := by (show chgM gs 2 s n = gs); rw [VM.out, V2.out]; rfl
      rw [V1.out, V2.out]
      rw [M_eq] at hbad
      clear hg hl hi
      generalize gidx gs s = i at *
      rcases hbad with hb | hb | hb
      · go_enter Tryz.func96, Tryz.ntmps96
        go_wp2_with fail
        refine (HFi.out _ H.out).mono ?_; rintro e w2 ⟨rfl, rfl⟩
        go_wp2_with fail
        go_ret2
        exact ⟨A, c, rfl, H.out, Below.refl _ _⟩
      · have hb0 : ¬ n < 0 := by omega
        go_enter Tryz.func96, Tryz.ntmps96
        go_wp2_with fail
        refine (HFi.out _ H.out).mono ?_; rintro e w2 ⟨rfl, rfl⟩
        go_wp2_with fail
        go_ret2
        exact ⟨A, c, rfl, H.out, Below.refl _ _⟩
      · exact absurd rfl hb.2
    case neg =>
      have V2 : Hid (chgE gs 2 s n = 0) := by (show chgE gs 2 s n = 0); rw [VE.out, if_neg hbad]
      have V1 : Hid (chgM gs 2 s n = setSet gs (gidx gs s) (chgS (gset gs s) 2 n)) := by (show chgM gs 2 s n = _); rw [VM.out, V2.out, if_pos rfl]
      rw [V1.out, V2.out]
      obtain ⟨b0, o0, x, B, f, rfl, hx, h1, h2, h3, hrs⟩ := H.out.at_ hi
      have hgs : gset gs s = x.2.2 := by unfold gset; rw [hx]
      rw [hgs]
      have hok := hg.sets x (List.mem_of_getElem? hx)
      have hxl := hl x (List.mem_of_getElem? hx)
      have hn0 : 0 ≤ n := by omega
      have hnM : n ≤ M := by omega
      have hclen := chgS_len (l := x.2.2) (k := 2) (n := n) hok hn0 hnM (fun e => rfl)
      have hrx : ∀ q ∈ x.2.2, 0 ≤ q.2 ∧ q.2 ≤ M := fun q hq => by obtain ⟨z1, z2, z3⟩ := hok.2 q hq; exact ⟨by omega, z3⟩
      by_cases hz : n = 0
      · subst hz
        have hT : chgS x.2.2 2 0 = x.2.2 := by unfold chgS; rw [if_neg (by decide), if_neg (by decide), if_pos rfl]
        rw [hT]
        generalize gidx gs s = i at *
        obtain ⟨x1, x2, x3⟩ := x
        simp only at h1 h2 h3 hrs hok hxl ⊢
        have HT := Lib.hid hrs
        have HW4 := Lib.hid (Below.refl w.heap.size w)
        have h4096 : x3.length ≤ 4096 := by omega
        clear hT hrx hok hx hg hl hgs h1 h2 hrs hi V1 V2 VE VM VF hclen hbad
        go_enter Tryz.func96, Tryz.ntmps96
        go_wp2_with fail
        refine (HFi.out _ H.out).mono ?_; rintro e w2 ⟨rfl, rfl⟩
        go_wp2_with fail
        refine (HCo.out _ H.out).mono ?_; rintro e w5 ⟨A5, c5, xs, rfl, hxs, ho, hs5, b5⟩
        have hxl5 : xs.length = gs.length := by rw [← hxs, List.length_map]
        obtain ⟨g, rfl⟩ : ∃ g, A5 = some ⟨g, 0, none⟩ := by
          rcases ho.2 with ⟨e1, h0⟩ | ⟨g, cap, cur, e1, _⟩
          · omega
          · cases e1; exact ⟨g, rfl⟩
        have hgb := (ho.lt g rfl).1
        obtain ⟨y, hy⟩ : ∃ y, xs[i]? = some y := ⟨_, List.getElem?_eq_getElem (by omega)⟩
        obtain ⟨_, _, f3⟩ := mflat_at xs i y hy
        obtain ⟨k1, k2, _⟩ := own_cell ho f3
        have HO := Lib.hid ho
        have HS := Lib.hid hs5
        have HXS := Lib.hid hxs
        have HXL := Lib.hid hxl5
        have B5 := Lib.hid b5
        clear ho hs5 hxs hxl5 b5 hy f3
        go_wp2_with fail
        go_ret2
        have hst := own_set (t := i * 3 + 2) (v := .slice B x3.length f) HO.out
        rw [mflat_set xs i x3 B f (by rw [HXL.out]; exact HI.out)] at hst
        have hb6 := B5.out.setCell (p := ⟨g, i * 3 + 2, none⟩) hgb (.slice B x3.length f)
        refine ⟨some ⟨g, 0, none⟩, c5, by rw [setSet_length]; rfl, ⟨xs.modify i fun x => ((x.1.1, x.1.2.1, x3), B, f), ?_, RdGX.of_own hst fun x hx => ?_⟩, HW4.out.tr hb6⟩
        · rw [← HXS.out]
          exact map_modify_comm (f := fun x : G × Option Addr × Nat => x.1) (u := fun x => ((x.1.1, x.1.2.1, x3), B, f)) (v := fun g => (g.1, g.2.1, x3)) (fun x => rfl) xs i
        · obtain ⟨z, hz, e⟩ := mem_modify hx
          rcases e with e | e <;> rw [e]
          · exact (HS.out z hz).below hb6
          · exact HT.out.below hb6
      · generalize gidx gs s = i at *
        obtain ⟨x1, x2, x3⟩ := x
        simp only at h1 h2 h3 hrs hok hxl hclen hrx ⊢
        have ok1 : Okset [((1 : Int), n)] := one_ok (by omega) (by omega) hnM
        have rr1 : ∀ q ∈ [((1 : Int), n)], 0 ≤ q.2 ∧ q.2 ≤ M := fun q hq => by obtain ⟨z1, z2, z3⟩ := ok1.2 q hq; exact ⟨by omega, z3⟩
        have hT : chgS x3 2 n = orS x3 [((1 : Int), n)] := by unfold chgS; rw [if_neg (by decide), if_neg (by decide), if_neg (by omega)]
        rw [hT] at hclen ⊢
        have HOp := Lib.hid (fun X f' W (h1 : RdR W B x3) (h2 : RdR W X [((1 : Int), n)]) => refOr_any B X f f' x3 [((1 : Int), n)] W h1 h2 (by simp; omega) hrx rr1)
        have HRS := Lib.hid hrs
        rw [M_eq] at hnM hbad
        have h4096 : (orS x3 [((1 : Int), n)]).length ≤ 4096 := by omega
        clear hT ok1 rr1 hrx hok hxl hx hg hl hgs h1 h2 hrs hi V1 V2 VE VM VF
        generalize orS x3 [((1 : Int), n)] = TT at *
        go_enter Tryz.func96, Tryz.ntmps96
        go_wp2_with fail
        refine (HFi.out _ H.out).mono ?_; rintro e w2 ⟨rfl, rfl⟩
        have B2 := Lib.hid (below_new w (.cells #[i64 (1 : Int), i64 n] 37))
        go_wp2_with fail
        refine (HOp.out (some ⟨w.heap.size, 0, none⟩) 1 _ (HRS.out.1.below (below_new _ _)) (RdR.one2 w (1 : Int) n _)).mono ?_; rintro e w4 ⟨A4, c4, rfl, ho4, b4⟩
        have HT : Hid (SetR w4 A4 TT) := ⟨(RdR.of_own ho4).1, fun a ha => (own_new ho4 (Nat.le_refl _) a ha).2⟩
        have HW4 := Lib.hid (B2.out.tr b4)
        have H4 := Lib.hid (H.out.below HW4.out)
        clear ho4 b4
        go_wp2_with fail
        refine (HCo.out _ H4.out).mono ?_; rintro e w5 ⟨A5, c5, xs, rfl, hxs, ho, hs5, b5⟩
        have hxl5 : xs.length = gs.length := by rw [← hxs, List.length_map]
        obtain ⟨g, rfl⟩ : ∃ g, A5 = some ⟨g, 0, none⟩ := by
          rcases ho.2 with ⟨e1, h0⟩ | ⟨g, cap, cur, e1, _⟩
          · omega
          · cases e1; exact ⟨g, rfl⟩
        have hgb := (ho.lt g rfl).1
        obtain ⟨y, hy⟩ : ∃ y, xs[i]? = some y := ⟨_, List.getElem?_eq_getElem (by omega)⟩
        obtain ⟨_, _, f3⟩ := mflat_at xs i y hy
        obtain ⟨k1, k2, _⟩ := own_cell ho f3
        have HO := Lib.hid ho
        have HS := Lib.hid hs5
        have HXS := Lib.hid hxs
        have HXL := Lib.hid hxl5
        have B5 := Lib.hid b5
        clear ho hs5 hxs hxl5 b5 hy f3
        go_wp2_with fail
        go_ret2
        have hst := own_set (t := i * 3 + 2) (v := .slice A4 TT.length c4) HO.out
        rw [mflat_set xs i TT A4 c4 (by rw [HXL.out]; exact HI.out)] at hst
        have hb6 := B5.out.setCell (p := ⟨g, i * 3 + 2, none⟩) hgb (.slice A4 TT.length c4)
        refine ⟨some ⟨g, 0, none⟩, c5, by rw [setSet_length]; rfl, ⟨xs.modify i fun x => ((x.1.1, x.1.2.1, TT), A4, c4), ?_, RdGX.of_own hst fun x hx => ?_⟩, HW4.out.tr hb6⟩
        · rw [← HXS.out]
          exact map_modify_comm (f := fun x : G × Option Addr × Nat => x.1) (u := fun x => ((x.1.1, x.1.2.1, TT), A4, c4)) (v := fun g => (g.1, g.2.1, TT)) (fun x => rfl) xs i
        · obtain ⟨z, hz, e⟩ := mem_modify hx
          rcases e with e | e <;> rw [e]
          · exact (HS.out z hz).below hb6
          · exact HT.out.below hb6
end Go.Proofs.YtcpennlojjlpaaaGreatDoor

namespace Go.Nr
/-- Marks after an operation. -/
def stepM (gs : List G) (k : Int) (s : List UInt8) (n : Int) : List G :=
  if k = 0 then chgM gs 0 s n else if k = 1 then chgM gs 1 s n else if k = 2 then chgM gs 2 s n else if k = 3 then subM gs s else if k = 4 then unsubM gs s else gs
end Go.Nr
namespace Go.Proofs.YtcpennlojjlpaaaGreatDoor
open Go.RowKit Go.Nr Go.Gn

theorem cell_eq {w w' : World} {b o : Nat} (h : w'.heap[b]? = w.heap[b]?) : w'.cell? ⟨b, o, none⟩ = w.cell? ⟨b, o, none⟩ := by simp [World.cell?, h]
theorem SetR.kept {w w' : World} {p : Nat} {R : Option Nat} {gs' : List G} {B : Option Addr} {l : List Rg} (h : SetR w B l) (hk : Kept p R w w') (hm : MkAt w p R gs') : SetR w' B l := by
  obtain ⟨A0, c0, xs0, _, hx⟩ := hm
  refine ⟨fun hl => ?_, fun a ha => (h.2 a ha).keep (hk.typed hx (h.2 a ha) (by decide) (by decide))⟩
  obtain ⟨b, o, e, hlt, hc⟩ := h.1 hl
  have he := hk.typed hx (h.2 _ e) (by decide) (by decide)
  refine ⟨b, o, e, Nat.lt_of_lt_of_le hlt hk.size, fun j r hj => ?_⟩
  have := hc j r hj
  rw [cell_eq he, cell_eq he]; exact this
theorem RdG.kept {w w' : World} {p : Nat} {R : Option Nat} {gs' gs : List G} {A : Option Addr} (h : RdG w A gs) (hk : Kept p R w w') (hm : MkAt w p R gs') : RdG w' A gs := by
  obtain ⟨xs, e, h⟩ := h
  refine ⟨xs, e, fun hl => ?_, fun x hx => (h.sets x hx).kept hk hm, fun a ha => ?_⟩
  · obtain ⟨b, o, e, hc⟩ := h.cells hl
    obtain ⟨A0, c0, xs0, _, hx⟩ := hm
    have he := hk.typed hx (h.ty _ e) (by decide) (by decide)
    exact ⟨b, o, e, fun j u hj => by rw [cell_eq he]; exact hc j u hj⟩
  · obtain ⟨A0, c0, xs0, _, hx⟩ := hm
    exact (h.ty a ha).keep (hk.typed hx (h.ty a ha) (by decide) (by decide))
theorem blk_kept {w w' : World} {p : Nat} {R : Option Nat} {gs' : List G} {b : Nat} {cs : Array Value} {fr : Nat × Nat} (hk : Kept p R w w') (hm : MkAt w p R gs') (h : w.heap[b]? = some (.cells cs 95 fr)) : w'.heap[b]? = some (.cells cs 95 fr) := by
  obtain ⟨A0, c0, xs0, _, hx⟩ := hm
  exact (hk.typed hx (T := 95) ⟨_, _, h⟩ (by decide) (by decide)).trans h
/-- What an operation leaves, on marks and on the reference. -/
def DoneM (p : Nat) (R : Option Nat) (w : World) (gs : List G) (e : Ending) (w' : World) : Prop :=
  ∃ A c R', e = .returned (.tuple #[.slice A gs.length c, .bool true]) ∧ MkAt w' p R' gs ∧ RdG w' A gs ∧ (R' = R ∨ ∃ g, R' = some g ∧ w.heap.size ≤ g) ∧ Kept p R w w'
set_option maxRecDepth 100000 in
set_option maxHeartbeats 4000000 in
theorem do_any (p : Nat) (R : Option Nat) (gs : List G) (A : Option Addr) (c : Nat) (k : Int) (s : List UInt8) (n : Int) (w : World) (hm : MkAt w p R gs) (hr : RdG w A gs) (hg : Okm gs) (hl : Lens 700 gs) (hn : gs.length ≤ 1000) (hs : s.length ≤ 9223372036854775807) (hE : Env w) :
    Calls Tryz.prog 54 #[.pointer (some ⟨p, 0, none⟩), .slice A gs.length c, .agg #[i64 k, enS s, i64 n]] w (DoneM p R w (stepM gs k s n)) := by
  have hX0 := blk_new w (.cells #[i64 k, enS s, i64 n] 95)
  have hB0 := below_new w (.cells #[i64 k, enS s, i64 n] 95)
  have HM0 := Lib.hid (hm.below hB0)
  have HR0 := Lib.hid (hr.below hB0)
  have HE0 := Lib.hid (hE.below hB0)
  have HX0 := Lib.hid hX0
  have hl2 : ∀ g ∈ gs, g.2.2.length ≤ 1999 := fun g hg => by have := hl g hg; omega
  have hl3 : Lens 800 gs := hl.mono (by omega)
  clear hm hr hX0 hB0
  by_cases h0 : k = 0
  · subst h0
    have VS : Hid (stepM gs 0 s n = chgM gs 0 s n) := rfl
    rw [VS.out]
    have HP := Lib.hid (fun W (h : MkAt W p R gs) (he : Env W) => read_any p R gs s n W h hg hl2 (by omega))
    have HRf := Lib.hid (fun W (h : RdG W A gs) => refChange0_any A c gs s n W h hg hl3 (by omega))
    clear hg hl hE VS
    generalize chgM gs 0 s n = gs2 at *
    generalize chgE gs 0 s n = er at *
    have q1 : ((er : Int) == er) = true := by simp
    go_enter Tryz.func54, Tryz.ntmps54
    go_wp2_with fail
    refine (HP.out _ HM0.out HE0.out).mono ?_; rintro e w1 ⟨rfl, R1, hR1, m1, k1⟩
    have HX1 := Lib.hid (blk_kept k1 HM0.out HX0.out)
    have HR1 := Lib.hid (HR0.out.kept k1 HM0.out)
    have HM1 := Lib.hid m1
    have HK1 := Lib.hid k1
    have HQ := Lib.hid hR1
    have c0 := blk_cell HX1.out 0
    have c1 := blk_cell HX1.out 1
    have c2 := blk_cell HX1.out 2
    clear m1 k1 hR1
    go_wp2_with fail
    refine (HRf.out _ HR1.out).mono ?_; rintro e w2 ⟨A2, c2', rfl, hr2, b2⟩
    clear c0 c1 c2
    go_wp2_with fail
    go_ret2
    have kk : Kept p R w w2 := (Kept.of_below (below_new w _)).trans (HK1.out.trans (Kept.of_below b2) (by exact HQ.out)) (.inl rfl)
    exact ⟨A2, c2', R1, rfl, HM1.out.below b2, hr2, by
      rcases HQ.out with h | ⟨g, h, h2⟩
      · exact .inl h
      · exact .inr ⟨g, h, by simp at h2; omega⟩, kk⟩
  by_cases h1 : k = 1
  · subst h1
    have VS : Hid (stepM gs 1 s n = chgM gs 1 s n) := rfl
    rw [VS.out]
    have HP := Lib.hid (fun W (h : MkAt W p R gs) (he : Env W) => unread_any p R gs s n W h hg hl2 (by omega))
    have HRf := Lib.hid (fun W (h : RdG W A gs) => refChange1_any A c gs s n W h hg hl3 (by omega))
    clear hg hl hE VS
    generalize chgM gs 1 s n = gs2 at *
    generalize chgE gs 1 s n = er at *
    have q1 : ((er : Int) == er) = true := by simp
    go_enter Tryz.func54, Tryz.ntmps54
    go_wp2_with fail
    refine (HP.out _ HM0.out HE0.out).mono ?_; rintro e w1 ⟨rfl, R1, hR1, m1, k1⟩
    have HX1 := Lib.hid (blk_kept k1 HM0.out HX0.out)
    have HR1 := Lib.hid (HR0.out.kept k1 HM0.out)
    have HM1 := Lib.hid m1
    have HK1 := Lib.hid k1
    have HQ := Lib.hid hR1
    have c0 := blk_cell HX1.out 0
    have c1 := blk_cell HX1.out 1
    have c2 := blk_cell HX1.out 2
    clear m1 k1 hR1
    go_wp2_with fail
    refine (HRf.out _ HR1.out).mono ?_; rintro e w2 ⟨A2, c2', rfl, hr2, b2⟩
    clear c0 c1 c2
    go_wp2_with fail
    go_ret2
    have kk : Kept p R w w2 := (Kept.of_below (below_new w _)).trans (HK1.out.trans (Kept.of_below b2) (by exact HQ.out)) (.inl rfl)
    exact ⟨A2, c2', R1, rfl, HM1.out.below b2, hr2, by
      rcases HQ.out with h | ⟨g, h, h2⟩
      · exact .inl h
      · exact .inr ⟨g, h, by simp at h2; omega⟩, kk⟩
  by_cases h2 : k = 2
  · subst h2
    have VS : Hid (stepM gs 2 s n = chgM gs 2 s n) := rfl
    rw [VS.out]
    have HP := Lib.hid (fun W (h : MkAt W p R gs) (he : Env W) => catchUp_any p R gs s n W h hg hl2 (by omega))
    have HRf := Lib.hid (fun W (h : RdG W A gs) => refChange2_any A c gs s n W h hg hl3 (by omega))
    clear hg hl hE VS
    generalize chgM gs 2 s n = gs2 at *
    generalize chgE gs 2 s n = er at *
    have q1 : ((er : Int) == er) = true := by simp
    go_enter Tryz.func54, Tryz.ntmps54
    go_wp2_with fail
    refine (HP.out _ HM0.out HE0.out).mono ?_; rintro e w1 ⟨rfl, R1, hR1, m1, k1⟩
    have HX1 := Lib.hid (blk_kept k1 HM0.out HX0.out)
    have HR1 := Lib.hid (HR0.out.kept k1 HM0.out)
    have HM1 := Lib.hid m1
    have HK1 := Lib.hid k1
    have HQ := Lib.hid hR1
    have c0 := blk_cell HX1.out 0
    have c1 := blk_cell HX1.out 1
    have c2 := blk_cell HX1.out 2
    clear m1 k1 hR1
    go_wp2_with fail
    refine (HRf.out _ HR1.out).mono ?_; rintro e w2 ⟨A2, c2', rfl, hr2, b2⟩
    clear c0 c1 c2
    go_wp2_with fail
    go_ret2
    have kk : Kept p R w w2 := (Kept.of_below (below_new w _)).trans (HK1.out.trans (Kept.of_below b2) (by exact HQ.out)) (.inl rfl)
    exact ⟨A2, c2', R1, rfl, HM1.out.below b2, hr2, by
      rcases HQ.out with h | ⟨g, h, h2⟩
      · exact .inl h
      · exact .inr ⟨g, h, by simp at h2; omega⟩, kk⟩
  by_cases h3 : k = 3
  · subst h3
    have VS : Hid (stepM gs 3 s n = subM gs s) := rfl
    rw [VS.out]
    have HP := Lib.hid (fun W (h : MkAt W p R gs) (he : Env W) => sub_any p R gs s W h he (by omega) (by omega))
    have HRf := Lib.hid (fun W (h : RdG W A gs) => refSub_any A c gs s W h hs (by omega))
    clear hg hl hE VS
    generalize subM gs s = gs2 at *
    generalize subE s = er at *
    have q1 : ((er : Int) == er) = true := by simp
    go_enter Tryz.func54, Tryz.ntmps54
    go_wp2_with fail
    refine (HP.out _ HM0.out HE0.out).mono ?_; rintro e w1 ⟨rfl, R1, hR1, m1, k1⟩
    have HX1 := Lib.hid (blk_kept k1 HM0.out HX0.out)
    have HR1 := Lib.hid (HR0.out.kept k1 HM0.out)
    have HM1 := Lib.hid m1
    have HK1 := Lib.hid k1
    have HQ := Lib.hid hR1
    have c0 := blk_cell HX1.out 0
    have c1 := blk_cell HX1.out 1
    have c2 := blk_cell HX1.out 2
    clear m1 k1 hR1
    go_wp2_with fail
    refine (HRf.out _ HR1.out).mono ?_; rintro e w2 ⟨A2, c2', rfl, hr2, b2⟩
    clear c0 c1 c2
    go_wp2_with fail
    go_ret2
    have kk : Kept p R w w2 := (Kept.of_below (below_new w _)).trans (HK1.out.trans (Kept.of_below b2) (by exact HQ.out)) (.inl rfl)
    exact ⟨A2, c2', R1, rfl, HM1.out.below b2, hr2, by
      rcases HQ.out with h | ⟨g, h, h2⟩
      · exact .inl h
      · exact .inr ⟨g, h, by simp at h2; omega⟩, kk⟩
  by_cases h4 : k = 4
  · subst h4
    have VS : Hid (stepM gs 4 s n = unsubM gs s) := rfl
    rw [VS.out]
    have HP := Lib.hid (fun W (h : MkAt W p R gs) (he : Env W) => unsub_any p R gs s W h he (by omega) (by omega))
    have HRf := Lib.hid (fun W (h : RdG W A gs) => refUnsub_any A c gs s W h hs (by omega))
    clear hg hl hE VS
    generalize unsubM gs s = gs2 at *
    generalize unsubE gs s = er at *
    have q1 : ((er : Int) == er) = true := by simp
    go_enter Tryz.func54, Tryz.ntmps54
    go_wp2_with fail
    refine (HP.out _ HM0.out HE0.out).mono ?_; rintro e w1 ⟨rfl, R1, hR1, m1, k1⟩
    have HX1 := Lib.hid (blk_kept k1 HM0.out HX0.out)
    have HR1 := Lib.hid (HR0.out.kept k1 HM0.out)
    have HM1 := Lib.hid m1
    have HK1 := Lib.hid k1
    have HQ := Lib.hid hR1
    have c0 := blk_cell HX1.out 0
    have c1 := blk_cell HX1.out 1
    have c2 := blk_cell HX1.out 2
    clear m1 k1 hR1
    go_wp2_with fail
    refine (HRf.out _ HR1.out).mono ?_; rintro e w2 ⟨A2, c2', rfl, hr2, b2⟩
    clear c0 c1 c2
    go_wp2_with fail
    go_ret2
    have kk : Kept p R w w2 := (Kept.of_below (below_new w _)).trans (HK1.out.trans (Kept.of_below b2) (by exact HQ.out)) (.inl rfl)
    exact ⟨A2, c2', R1, rfl, HM1.out.below b2, hr2, by
      rcases HQ.out with h | ⟨g, h, h2⟩
      · exact .inl h
      · exact .inr ⟨g, h, by simp at h2; omega⟩, kk⟩
  have VS : Hid (stepM gs k s n = gs) := by (show stepM gs k s n = gs); unfold stepM; rw [if_neg h0, if_neg h1, if_neg h2, if_neg h3, if_neg h4]
  rw [VS.out]
  have e0 : (k == 0) = false := by simpa using h0
  have e1 : (k == 1) = false := by simpa using h1
  have e2 : (k == 2) = false := by simpa using h2
  have e3 : (k == 3) = false := by simpa using h3
  have e4 : (k == 4) = false := by simpa using h4
  clear hg hl hE VS hl2 hl3 h0 h1 h2 h3 h4
  go_enter Tryz.func54, Tryz.ntmps54
  go_wp2_with fail
  go_ret2
  exact ⟨A, c, R, rfl, HM0.out, HR0.out, .inl rfl, Kept.of_below (below_new w _)⟩
end Go.Proofs.YtcpennlojjlpaaaGreatDoor

namespace Go.Nr
/-- An operation: its kind, group and number. -/
abbrev Op3 := Int × List UInt8 × Int
def runM (l : List Op3) : List G := l.foldl (fun gs o => stepM gs o.1 o.2.1 o.2.2) []
theorem runM_snoc (l : List Op3) (o : Op3) : runM (l ++ [o]) = stepM (runM l) o.1 o.2.1 o.2.2 := by simp [runM]
theorem runM_take {l : List Op3} {k : Nat} {o : Op3} (h : l[k]? = some o) : runM (l.take (k + 1)) = stepM (runM (l.take k)) o.1 o.2.1 o.2.2 := by
  obtain ⟨hl, e⟩ := List.getElem?_eq_some_iff.1 h
  rw [List.take_succ_eq_append_getElem hl, e, runM_snoc]
/-- What holds of marks after k operations. -/
structure RunOk (k : Nat) (gs : List G) : Prop where
  ok : Okm gs
  lens : Lens k gs
  len : gs.length ≤ k
theorem RunOk.step {k : Nat} {gs : List G} (h : RunOk k gs) (a : Int) (s : List UInt8) (n : Int) : RunOk (k + 1) (stepM gs a s n) := by
  unfold stepM
  split
  · exact ⟨h.ok.chg 0 s n, h.lens.chg h.ok 0 s n, by rw [chgM_length]; have := h.len; omega⟩
  · split
    · exact ⟨h.ok.chg 1 s n, h.lens.chg h.ok 1 s n, by rw [chgM_length]; have := h.len; omega⟩
    · split
      · exact ⟨h.ok.chg 2 s n, h.lens.chg h.ok 2 s n, by rw [chgM_length]; have := h.len; omega⟩
      · split
        · exact ⟨h.ok.sub s, (h.lens.sub s).mono (by omega), by have := subM_length gs s; have := h.len; omega⟩
        · split
          · exact ⟨h.ok.unsub s, (h.lens.unsub s).mono (by omega), by rw [unsubM_length]; have := h.len; omega⟩
          · exact ⟨h.ok, h.lens.mono (by omega), by have := h.len; omega⟩
end Go.Nr
namespace Go.Proofs.YtcpennlojjlpaaaGreatDoor
open Go.RowKit Go.Nr Go.Gn

/-- A slice of operations. -/
def RdO (w : World) (A : Option Addr) (l : List Op3) : Prop :=
  0 < l.length → ∃ b o, A = some ⟨b, o, none⟩ ∧ b < w.heap.size ∧ ∀ j x, l[j]? = some x → w.cell? ⟨b, o + j * 3, none⟩ = some (i64 x.1) ∧ w.cell? ⟨b, o + j * 3 + 1, none⟩ = some (enS x.2.1) ∧ w.cell? ⟨b, o + j * 3 + 2, none⟩ = some (i64 x.2.2)
theorem RdO.below {w w' : World} {A : Option Addr} {l : List Op3} (h : RdO w A l) (hb : Below w.heap.size w w') : RdO w' A l := fun hl => by
  obtain ⟨b, o, e, hlt, hc⟩ := h hl
  exact ⟨b, o, e, Nat.lt_of_lt_of_le hlt hb.size, fun j r hj => ⟨Below.cellv hb (hc j r hj).1, Below.cellv hb (hc j r hj).2.1, Below.cellv hb (hc j r hj).2.2⟩⟩
theorem RdO.at_ {w : World} {A : Option Addr} {l : List Op3} {k : Nat} (h : RdO w A l) (hk : k < l.length) : ∃ b o x, A = some ⟨b, o, none⟩ ∧ l[k]? = some x ∧ w.cell? ⟨b, o + k * 3, none⟩ = some (i64 x.1) ∧ w.cell? ⟨b, o + k * 3 + 1, none⟩ = some (enS x.2.1) ∧ w.cell? ⟨b, o + k * 3 + 2, none⟩ = some (i64 x.2.2) := by
  obtain ⟨b, o, e, _, hc⟩ := h (by omega)
  have hx : l[k]? = some l[k] := List.getElem?_eq_getElem hk
  exact ⟨b, o, l[k], e, hx, hc k _ hx⟩
/-- Marks and the reference's marks that run hands back. -/
def GivesRun (w : World) (gs : List G) (e : Ending) (w' : World) : Prop :=
  ∃ p R A c, e = .returned (.tuple #[.pointer (some ⟨p, 0, none⟩), .slice A gs.length c, .bool true]) ∧ MkAt w' p R gs ∧ RdG w' A gs ∧ w.heap.size ≤ p ∧ (∀ g, R = some g → w.heap.size ≤ g) ∧ Below w.heap.size w w'

set_option maxRecDepth 100000 in
set_option maxHeartbeats 1000000 in
theorem run_any (A : Option Addr) (c : Nat) (l : List Op3) (w : World) (hr : RdO w A l) (hl : l.length ≤ 100) (hs : ∀ x ∈ l, x.2.1.length ≤ 9223372036854775807) (hE : Env w) :
    Calls Tryz.prog 46 #[.slice A l.length c] w (GivesRun w (runM l)) := by
  have HR := Lib.hid hr
  have HS := Lib.hid hs
  have HE := Lib.hid (fun W (h : Below w.heap.size w W) => hE.below h)
  have HNew := Lib.hid (newM_any w)
  clear hr hs hE
  go_enter Tryz.func46, Tryz.ntmps46
  go_wp2_with fail
  refine HNew.out.mono ?_; rintro e w1 ⟨rfl, m1, b1⟩
  have M1 := Lib.hid m1
  have B1 := Lib.hid b1
  have hsz1 := b1.size
  clear m1 b1 HNew
  obtain ⟨p, hp⟩ : ∃ q, w.heap.size = q := ⟨_, rfl⟩
  have HP : Hid (w.heap.size = p) := hp
  rw [hp] at M1 hsz1 ⊢
  clear hp
  go_wp2_with fail
  go_loopg [2, 3, 4, 5] l.length (fun gg mv gv _ iv wr => ∃ (k : Nat) (G' : Option Addr) (f : Nat) (R : Option Nat) (gs : List G), k ≤ l.length ∧ l.length - k ≤ gg ∧ iv = .int .i64 k ∧ gv = .slice G' gs.length f ∧ mv = .pointer (some ⟨p, 0, none⟩) ∧ Hid (gs = runM (l.take k)) ∧ Hid (RunOk k gs) ∧ Hid (MkAt wr p R gs) ∧ Hid (RdG wr G' gs) ∧ Hid (∀ g, R = some g → w.heap.size ≤ g) ∧ Below w.heap.size w wr)
  case atStart => exact ⟨0, none, 0, none, [], by omega, by omega, rfl, rfl, rfl, rfl, ⟨Okm.nil, Lens.nil, by simp⟩, M1.out, RdG.nil, (fun g h => by cases h), B1.out⟩
  case round =>
    obtain ⟨k, G', f, R, gs, hk, hgk, rfl, rfl, rfl, E, K, M, D, HRn, hB⟩ := hrel
    by_cases hlt : k < l.length
    · obtain ⟨b, o, x, rfl, hx, h1, h2, h3⟩ := (HR.out.below hB).at_ hlt
      have hrt := runM_take hx
      rw [← E.out] at hrt
      have hxs := HS.out x (List.mem_of_getElem? hx)
      obtain ⟨x1, x2, x3⟩ := x
      simp only at h1 h2 h3 hrt hxs
      have hK := K.out
      have HD := Lib.hid (do_any p R gs G' f x1 x2 x3 wr M.out D.out hK.ok (hK.lens.mono (by omega)) (by have := hK.len; omega) hxs (HE.out wr hB))
      have K2 := Lib.hid (hK.step x1 x2 x3)
      have RT := Lib.hid hrt
      have HB := Lib.hid hB
      clear hK hrt hx E K
      generalize stepM gs x1 x2 x3 = gs2 at *
      go_wp2_with fail
      refine HD.out.mono ?_; rintro e w2 ⟨A2, c2, R2, rfl, m2, d2, hR2, k2⟩
      have hpb : w.heap.size ≤ p := by rw [HP.out]; exact Nat.le_refl _
      have HB2 := Lib.hid (HB.out.trans (k2.below HB.out.size hpb HRn.out))
      have HM2 := Lib.hid m2
      have HD2 := Lib.hid d2
      have HR2 : Hid (∀ g, R2 = some g → w.heap.size ≤ g) := fun g e => by
        rcases hR2 with rfl | ⟨g', e', h⟩
        · exact HRn.out g e
        · rw [e] at e'; cases e'; have := HB.out.size; omega
      clear m2 d2 hR2 k2 h1 h2 h3
      go_wp2_with fail
      go_roundg (l.length - (k + 1))
      case measure => omega
      case rel => exact ⟨k + 1, A2, c2, R2, gs2, by omega, by omega, by go_num, rfl, rfl, RT.out.symm, K2.out, HM2.out, HD2.out, HR2.out, HB2.out⟩
    · obtain rfl : k = l.length := by omega
      have EE : Hid (gs = runM l) := by
        show gs = _
        have := E.out
        rwa [List.take_length] at this
      have HB := Lib.hid hB
      go_wp2_with fail
      go_ret3
      rw [← EE.out]
      exact ⟨p, R, G', f, rfl, M.out, D.out, by rw [HP.out]; exact Nat.le_refl _, HRn.out, HB.out⟩
end Go.Proofs.YtcpennlojjlpaaaGreatDoor
