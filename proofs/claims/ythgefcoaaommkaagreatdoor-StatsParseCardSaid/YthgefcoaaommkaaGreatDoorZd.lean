/- Contracts: the error of an event, of the code and of the model.
   Contract: an event added to statistics.
   Contract: few events of moderate length.
   Bounds of the statistics of accepted events; rows of events of the call's own.
   Contract: the statistics built from events, and the events that were accepted. -/
import Derived.Test.YthgefcoaaommkaaGreatDoorZc
namespace Go.Proofs.YthgefcoaaommkaaGreatDoor
open Go.RowKit Go.Gn Go.Sr Go.Maps

/-- The first error of the sites behind others. -/
def sitesGo (seen : List (List UInt8)) : List (List UInt8) → Nat
  | [] => 0
  | x :: r => if siteE x ≠ 0 then siteE x else if x ∈ seen then 7 else sitesGo (seen ++ [x]) r
/-- The error of an event. -/
def chkE (e : Ev) : Nat := if vld e.minute = false then 2 else if e.groups.length = 0 then 4 else if checkL e.groups ≠ 0 then checkL e.groups else if 50 < e.sites.length then 9 else if sitesGo [] e.sites ≠ 0 then sitesGo [] e.sites else if e.bytes < 0 ∨ 65536 < e.bytes then 2 else 0
theorem sitesGo_at {l : List (List UInt8)} {k : Nat} {x : List UInt8} (h : l[k]? = some x) : sitesGo (l.take k) (l.drop k) = if siteE x ≠ 0 then siteE x else if x ∈ l.take k then 7 else sitesGo (l.take (k + 1)) (l.drop (k + 1)) := by
  obtain ⟨hl, hx⟩ := List.getElem?_eq_some_iff.1 h
  rw [List.drop_eq_getElem_cons hl, hx, List.take_succ_eq_append_getElem hl, hx]
  rfl
theorem sitesGo_zero : ∀ (l seen : List (List UInt8)), sitesGo seen l = 0 → seen.Nodup → (seen ++ l).Nodup ∧ ∀ x ∈ l, siteE x = 0
  | [], seen, _, hn => by simpa using hn
  | x :: r, seen, h, hn => by
    unfold sitesGo at h
    split at h
    · rename_i h1; exact absurd h h1
    · rename_i h1
      split at h
      · cases h
      · rename_i h2
        have hn' : (seen ++ [x]).Nodup := List.nodup_append.2 ⟨hn, by simp, fun a ha b hb => by simp at hb; subst hb; intro e; subst e; exact h2 ha⟩
        obtain ⟨i1, i2⟩ := sitesGo_zero r (seen ++ [x]) h hn'
        refine ⟨by simpa using i1, fun y hy => ?_⟩
        rcases List.mem_cons.1 hy with rfl | hy
        · exact Classical.byContradiction h1
        · exact i2 y hy
theorem clGo_nodup : ∀ (l seen : List (List UInt8)), clGo seen l = 0 → seen.Nodup → (seen ++ l).Nodup
  | [], seen, _, hn => by simpa using hn
  | x :: r, seen, h, hn => by
    unfold clGo at h
    split at h
    · rename_i h1; exact absurd h h1
    · split at h
      · cases h
      · rename_i h2
        have hn' : (seen ++ [x]).Nodup := List.nodup_append.2 ⟨hn, by simp, fun a ha b hb => by simp at hb; subst hb; intro e; subst e; exact h2 ha⟩
        simpa using clGo_nodup r (seen ++ [x]) h hn'
/-- What an event without an error is. -/
structure GoodE (e : Ev) : Prop where
  minute : 0 ≤ e.minute ∧ e.minute ≤ 105190559
  groups : ∀ x ∈ e.groups, check x = 0
  sites : ∀ x ∈ e.sites, siteE x = 0
  apart : Apart e
  bytes : 0 ≤ e.bytes ∧ e.bytes ≤ 65536
  ng : 0 < e.groups.length ∧ e.groups.length ≤ 20
  ns : e.sites.length ≤ 50
theorem chkE_zero {e : Ev} (h : chkE e = 0) : GoodE e := by
  unfold chkE at h
  by_cases h1 : vld e.minute = false
  · rw [if_pos h1] at h; cases h
  rw [if_neg h1] at h
  by_cases h2 : e.groups.length = 0
  · rw [if_pos h2] at h; cases h
  rw [if_neg h2] at h
  by_cases h3 : checkL e.groups ≠ 0
  · rw [if_pos h3] at h; exact absurd h h3
  rw [if_neg h3] at h
  have h3 := Classical.byContradiction h3
  by_cases h4 : 50 < e.sites.length
  · rw [if_pos h4] at h; cases h
  rw [if_neg h4] at h
  by_cases h5 : sitesGo [] e.sites ≠ 0
  · rw [if_pos h5] at h; exact absurd h h5
  rw [if_neg h5] at h
  have h5 := Classical.byContradiction h5
  by_cases h6 : e.bytes < 0 ∨ 65536 < e.bytes
  · rw [if_pos h6] at h; cases h
  have hc := checkL_zero h3
  have hs := sitesGo_zero e.sites [] h5 (by simp)
  have hg : clGo [] e.groups = 0 := by unfold checkL at h3; rw [if_neg (by omega)] at h3; exact h3
  exact ⟨vld_true (by cases hv : vld e.minute with | true => rfl | false => exact absurd hv h1), hc.2, hs.2, ⟨by simpa using clGo_nodup e.groups [] hg (by simp), by simpa using hs.1⟩, by omega, by omega, by omega⟩
theorem sitesGo_rng : ∀ (l seen : List (List UInt8)), sitesGo seen l ≤ 12
  | [], _ => by simp [sitesGo]
  | x :: r, seen => by
    unfold sitesGo
    have hs : siteE x ≤ 12 := by unfold siteE; split <;> (try split) <;> (try split) <;> (try split) <;> omega
    split
    · exact hs
    · split
      · omega
      · exact sitesGo_rng r _
/-- Moderate lists. -/
structure FewM (m : EvM) : Prop where
  ng : m.e.groups.length ≤ 30
  ns : m.e.sites.length ≤ 80
  lg : ∀ x ∈ m.e.groups, x.length ≤ 4000
  ls : ∀ x ∈ m.e.sites, x.length ≤ 4000
set_option maxRecDepth 100000 in
set_option maxHeartbeats 4000000 in
theorem evCheck_any (m : EvM) (w : World) (hg : GoodM w m) (hf : FewM m) (hE : Env w) : Calls Tryz.prog 32 #[evA m] w fun e w' => e = .returned (.int .i64 (chkE m.e : Nat)) ∧ Below w.heap.size w w' := by
  unfold evA evL
  have HG := Lib.hid hg
  have HFW := Lib.hid hf
  have HE0 := Lib.hid hE
  clear hg hf hE
  obtain ⟨ev, ga, gc, sa, sc⟩ := m
  dsimp only
  have hng : ev.groups.length ≤ 30 := HFW.out.ng
  have hns : ev.sites.length ≤ 80 := HFW.out.ns
  have HGR : Hid (Rd w ga ev.groups) := Lib.hid HG.out.rg
  have HSR : Hid (Rd w sa ev.sites) := Lib.hid HG.out.rs
  have HLG : Hid (∀ x ∈ ev.groups, x.length ≤ 4000) := Lib.hid HFW.out.lg
  have HLS : Hid (∀ x ∈ ev.sites, x.length ≤ 4000) := Lib.hid HFW.out.ls
  have hgc : ev.groups.length ≤ gc := HG.out.gc
  have hsc : ev.sites.length ≤ sc := HG.out.sc
  have hsm : sc ≤ maxLen := HG.out.sl
  unfold maxLen at hsm
  clear HG HFW
  by_cases hv : vld ev.minute = false
  · have V : Hid (chkE ev = 2) := by (show chkE ev = 2); unfold chkE; rw [if_pos hv]
    have hm2 : ev.minute < 0 ∨ 105190559 < ev.minute := by unfold vld at hv; simp at hv; omega
    generalize chkE ev = v at *
    clear hv
    rcases hm2 with hm2 | hm2
    · go_enter Tryz.func32, Tryz.ntmps32
      go_wp2_with fail
      all_goals first | (exfalso; omega) | skip
      all_goals
        go_ret
        exact ⟨by rw [V.out]; rfl, below_new _ _⟩
    · have hm3 : ¬ ev.minute < 0 := by omega
      go_enter Tryz.func32, Tryz.ntmps32
      go_wp2_with fail
      all_goals first | (exfalso; omega) | skip
      all_goals
        go_ret
        exact ⟨by rw [V.out]; rfl, below_new _ _⟩
  have hmv := vld_true (by cases hq : vld ev.minute with | true => rfl | false => exact absurd hq hv)
  obtain ⟨hm0, hm1⟩ := hmv
  have hm2 : ¬ ev.minute < 0 := by omega
  have hm3 : ¬ 105190559 < ev.minute := by omega
  by_cases h0 : ev.groups.length = 0
  · have V : Hid (chkE ev = 4) := by (show chkE ev = 4); unfold chkE; rw [if_neg hv, if_pos h0]
    generalize chkE ev = v at *
    clear hv
    have hfl := formatList_any ga gc ev.groups _ (HE0.out.below (below_new w (.cells #[i64 ev.minute, auB ev.author 0, auB ev.author 1, auB ev.author 2, auB ev.author 3, auB ev.author 4, auB ev.author 5, auB ev.author 6, auB ev.author 7, auB ev.author 8, auB ev.author 9, auB ev.author 10, auB ev.author 11, auB ev.author 12, auB ev.author 13, auB ev.author 14, auB ev.author 15, .slice ga ev.groups.length gc, .slice sa ev.sites.length sc, i64 ev.bytes] 51))) (HGR.out.below (below_new w (.cells #[i64 ev.minute, auB ev.author 0, auB ev.author 1, auB ev.author 2, auB ev.author 3, auB ev.author 4, auB ev.author 5, auB ev.author 6, auB ev.author 7, auB ev.author 8, auB ev.author 9, auB ev.author 10, auB ev.author 11, auB ev.author 12, auB ev.author 13, auB ev.author 14, auB ev.author 15, .slice ga ev.groups.length gc, .slice sa ev.sites.length sc, i64 ev.bytes] 51))) hgc (by omega) (fun x hx => by have := HLG.out x hx; omega)
    rw [if_pos h0, h0] at hfl
    go_enter Tryz.func32, Tryz.ntmps32
    go_wp2_with fail
    refine hfl.mono ?_; rintro e w1 ⟨rfl, b1⟩
    clear hfl
    go_wp2_with fail
    go_ret
    exact ⟨by rw [V.out]; rfl, (below_new _ _).tr b1⟩
  obtain ⟨L, hL⟩ : ∃ q, checkL ev.groups = q := ⟨_, rfl⟩
  have hLr : L ≤ 12 := by rw [← hL]; unfold checkL; split; omega; exact clGo_rng _ _
  by_cases hL0 : L = 0
  case neg =>
    have V : Hid (chkE ev = L) := by (show chkE ev = L); unfold chkE; rw [if_neg hv, if_neg h0, hL, if_pos hL0]
    generalize chkE ev = v at *
    clear hv
    have hfl := formatList_any ga gc ev.groups _ (HE0.out.below (below_new w (.cells #[i64 ev.minute, auB ev.author 0, auB ev.author 1, auB ev.author 2, auB ev.author 3, auB ev.author 4, auB ev.author 5, auB ev.author 6, auB ev.author 7, auB ev.author 8, auB ev.author 9, auB ev.author 10, auB ev.author 11, auB ev.author 12, auB ev.author 13, auB ev.author 14, auB ev.author 15, .slice ga ev.groups.length gc, .slice sa ev.sites.length sc, i64 ev.bytes] 51))) (HGR.out.below (below_new w (.cells #[i64 ev.minute, auB ev.author 0, auB ev.author 1, auB ev.author 2, auB ev.author 3, auB ev.author 4, auB ev.author 5, auB ev.author 6, auB ev.author 7, auB ev.author 8, auB ev.author 9, auB ev.author 10, auB ev.author 11, auB ev.author 12, auB ev.author 13, auB ev.author 14, auB ev.author 15, .slice ga ev.groups.length gc, .slice sa ev.sites.length sc, i64 ev.bytes] 51))) hgc (by omega) (fun x hx => by have := HLG.out x hx; omega)
    rw [if_neg h0, hL] at hfl
    clear hL
    go_enter Tryz.func32, Tryz.ntmps32
    go_wp2_with fail
    refine hfl.mono ?_; rintro e w1 ⟨rfl, b1⟩
    clear hfl
    have hlb : ((L : Int) != 0) = true := by simp; omega
    go_wp2_with fail
    go_ret
    exact ⟨by rw [V.out]; rfl, (below_new _ _).tr b1⟩
  case pos =>
    subst hL0
    have hfl := formatList_any ga gc ev.groups _ (HE0.out.below (below_new w (.cells #[i64 ev.minute, auB ev.author 0, auB ev.author 1, auB ev.author 2, auB ev.author 3, auB ev.author 4, auB ev.author 5, auB ev.author 6, auB ev.author 7, auB ev.author 8, auB ev.author 9, auB ev.author 10, auB ev.author 11, auB ev.author 12, auB ev.author 13, auB ev.author 14, auB ev.author 15, .slice ga ev.groups.length gc, .slice sa ev.sites.length sc, i64 ev.bytes] 51))) (HGR.out.below (below_new w (.cells #[i64 ev.minute, auB ev.author 0, auB ev.author 1, auB ev.author 2, auB ev.author 3, auB ev.author 4, auB ev.author 5, auB ev.author 6, auB ev.author 7, auB ev.author 8, auB ev.author 9, auB ev.author 10, auB ev.author 11, auB ev.author 12, auB ev.author 13, auB ev.author 14, auB ev.author 15, .slice ga ev.groups.length gc, .slice sa ev.sites.length sc, i64 ev.bytes] 51))) hgc (by omega) (fun x hx => by have := HLG.out x hx; omega)
    rw [if_neg h0, hL] at hfl
    clear hLr
    have V0 : Hid (chkE ev = if 50 < ev.sites.length then 9 else if sitesGo [] ev.sites ≠ 0 then sitesGo [] ev.sites else if ev.bytes < 0 ∨ 65536 < ev.bytes then 2 else 0) := by (show chkE ev = _); unfold chkE; rw [if_neg hv, if_neg h0, hL, if_neg (by simp)]
    generalize chkE ev = v at *
    clear hv hL
    go_enter Tryz.func32, Tryz.ntmps32
    go_wp2_with fail
    refine hfl.mono ?_; rintro e w1 ⟨rfl, b1⟩
    clear hfl
    have HK := Lib.hid (blk_below b1 (blk_new w (.cells #[i64 ev.minute, auB ev.author 0, auB ev.author 1, auB ev.author 2, auB ev.author 3, auB ev.author 4, auB ev.author 5, auB ev.author 6, auB ev.author 7, auB ev.author 8, auB ev.author 9, auB ev.author 10, auB ev.author 11, auB ev.author 12, auB ev.author 13, auB ev.author 14, auB ev.author 15, .slice ga ev.groups.length gc, .slice sa ev.sites.length sc, i64 ev.bytes] 51)))
    have B1 := Lib.hid ((below_new w (.cells #[i64 ev.minute, auB ev.author 0, auB ev.author 1, auB ev.author 2, auB ev.author 3, auB ev.author 4, auB ev.author 5, auB ev.author 6, auB ev.author 7, auB ev.author 8, auB ev.author 9, auB ev.author 10, auB ev.author 11, auB ev.author 12, auB ev.author 13, auB ev.author 14, auB ev.author 15, .slice ga ev.groups.length gc, .slice sa ev.sites.length sc, i64 ev.bytes] 51)).tr b1)
    clear b1
    have hbx := blk_lt HK.out
    have k0 := blk_cell HK.out 18
    by_cases h50 : 50 < ev.sites.length
    · have V1 : Hid (v = 9) := by (show v = 9); rw [V0.out, if_pos h50]
      go_wp2_with fail
      go_ret
      exact ⟨by rw [V1.out]; rfl, B1.out⟩
    have V1 : Hid (v = if sitesGo [] ev.sites ≠ 0 then sitesGo [] ev.sites else if ev.bytes < 0 ∨ 65536 < ev.bytes then 2 else 0) := by (show v = _); rw [V0.out, if_neg h50]
    clear V0
    go_wp2_with fail
    clear k0
    go_loopg [5, 6, 7, 8, 33] ev.sites.length (fun gg _ _ _ _ iv wr => ∃ k : Nat, k ≤ ev.sites.length ∧ ev.sites.length - k ≤ gg ∧ iv = .int .i64 k ∧ Hid (Below w1.heap.size w1 wr) ∧ Hid (sitesGo [] ev.sites = sitesGo (ev.sites.take k) (ev.sites.drop k)))
    case atStart => exact ⟨0, by omega, by omega, rfl, Lib.hid (Below.refl _ _), Lib.hid (by simp)⟩
    case round =>
      obtain ⟨k, hk, hgk, rfl, B2, G2⟩ := hrel
      obtain ⟨wo, hwo⟩ : ∃ wo : World, wo = wr := ⟨_, rfl⟩
      subst hwo
      have HK2 := Lib.hid (blk_below B2.out HK.out)
      have hbx2 := blk_lt HK2.out
      have k18 := blk_cell HK2.out 18
      have B3 := Lib.hid (B1.out.tr B2.out)
      by_cases hlt : k < ev.sites.length
      · obtain ⟨b, oa, x, hsa, hbl, hxk, hcell⟩ := (HSR.out.below B3.out).at_ hlt
        subst hsa
        have hga := sitesGo_at hxk
        have hxl := HLS.out x (List.mem_of_getElem? hxk)
        rw [← G2.out] at hga
        have HGA := Lib.hid hga
        have HX := Lib.hid hxk
        clear hga hxk
        have hst := site_any x wo (by unfold maxLen; omega)
        obtain ⟨SX, hSX⟩ : ∃ q, siteE x = q := ⟨_, rfl⟩
        rw [hSX] at hst HGA
        have hSr : SX ≤ 12 := by rw [← hSX]; unfold siteE; split <;> (try split) <;> (try split) <;> (try split) <;> omega
        clear hSX
        by_cases hS0 : SX = 0
        case neg =>
          have hz : sitesGo [] ev.sites = SX := by rw [HGA.out, if_pos hS0]
          have V2 : Hid (v = SX) := by (show v = _); rw [V1.out, if_pos (by rw [hz]; exact hS0), hz]
          have hlb : ((SX : Int) != 0) = true := by simp; omega
          clear V1 hz HGA
          go_wp2_with fail
          refine hst.mono ?_; rintro e w2 ⟨⟨at_, rfl⟩, rfl⟩
          go_wp2_with fail
          go_ret
          exact ⟨by rw [V2.out]; rfl, B3.out⟩
        subst hS0
        have etk : (ev.sites.take k).length = k := by rw [List.length_take]; omega
        have hct := contains_any (some ⟨b, oa, none⟩) sc (ev.sites.take k) x wo ((HSR.out.below B3.out).take k) (by omega)
        rw [etk] at hct
        by_cases hin : x ∈ ev.sites.take k
        · have hz : sitesGo [] ev.sites = 7 := by rw [HGA.out, if_neg (by simp), if_pos hin]
          have V2 : Hid (v = 7) := by (show v = _); rw [V1.out, if_pos (by rw [hz]; simp), hz]
          rw [decide_eq_true hin] at hct
          clear V1 hz HGA hin
          go_wp2_with fail
          refine hst.mono ?_; rintro e w2 ⟨⟨at_, rfl⟩, rfl⟩
          go_wp2_with fail
          refine hct.mono ?_; rintro e w2 ⟨rfl, rfl⟩
          go_wp2_with fail
          go_ret
          exact ⟨by rw [V2.out]; rfl, B3.out⟩
        · have hz : sitesGo [] ev.sites = sitesGo (ev.sites.take (k + 1)) (ev.sites.drop (k + 1)) := by rw [HGA.out, if_neg (by simp), if_neg hin]
          have HZ := Lib.hid hz
          rw [decide_eq_false hin] at hct
          clear hz HGA hin
          go_wp2_with fail
          refine hst.mono ?_; rintro e w2 ⟨⟨at_, rfl⟩, rfl⟩
          go_wp2_with fail
          refine hct.mono ?_; rintro e w2 ⟨rfl, rfl⟩
          go_wp2_with fail
          go_roundg (ev.sites.length - (k + 1))
          case measure => omega
          case rel => exact ⟨k + 1, by omega, by omega, by go_num, B2, HZ⟩
      · obtain rfl : k = ev.sites.length := by omega
        have hz : sitesGo [] ev.sites = 0 := by rw [G2.out, List.take_length, List.drop_length]; rfl
        have V2 : Hid (v = if ev.bytes < 0 ∨ 65536 < ev.bytes then 2 else 0) := by (show v = _); rw [V1.out, if_neg (by rw [hz]; simp)]
        have k19 := blk_cell HK2.out 19
        clear V1 hz G2
        by_cases hb0 : ev.bytes < 0
        · have V3 : Hid (v = 2) := by (show v = 2); rw [V2.out, if_pos (.inl hb0)]
          go_wp2_with fail
          all_goals first | (exfalso; omega) | skip
          all_goals
            go_ret
            exact ⟨by rw [V3.out]; rfl, B3.out⟩
        by_cases hb1 : 65536 < ev.bytes
        · have V3 : Hid (v = 2) := by (show v = 2); rw [V2.out, if_pos (.inr hb1)]
          go_wp2_with fail
          all_goals first | (exfalso; omega) | skip
          all_goals
            go_ret
            exact ⟨by rw [V3.out]; rfl, B3.out⟩
        have V3 : Hid (v = 0) := by (show v = 0); rw [V2.out, if_neg (by omega)]
        go_wp2_with fail
        all_goals first | (exfalso; omega) | skip
        all_goals
          go_ret
          exact ⟨by rw [V3.out]; rfl, B3.out⟩
set_option maxRecDepth 100000 in
set_option maxHeartbeats 4000000 in
theorem mCheck_any (m : EvM) (w : World) (hg : GoodM w m) (hf : FewM m) (hE : Env w) : Calls Tryz.prog 31 #[evA m] w fun e w' => e = .returned (.int .i64 (chkE m.e : Nat)) ∧ Below w.heap.size w w' := by
  unfold evA evL
  have HG := Lib.hid hg
  have HFW := Lib.hid hf
  have HE0 := Lib.hid hE
  clear hg hf hE
  obtain ⟨ev, ga, gc, sa, sc⟩ := m
  dsimp only
  have hng : ev.groups.length ≤ 30 := HFW.out.ng
  have hns : ev.sites.length ≤ 80 := HFW.out.ns
  have HGR : Hid (Rd w ga ev.groups) := Lib.hid HG.out.rg
  have HSR : Hid (Rd w sa ev.sites) := Lib.hid HG.out.rs
  have HLG : Hid (∀ x ∈ ev.groups, x.length ≤ 4000) := Lib.hid HFW.out.lg
  have HLS : Hid (∀ x ∈ ev.sites, x.length ≤ 4000) := Lib.hid HFW.out.ls
  have hgc : ev.groups.length ≤ gc := HG.out.gc
  have hsc : ev.sites.length ≤ sc := HG.out.sc
  have hsm : sc ≤ maxLen := HG.out.sl
  unfold maxLen at hsm
  clear HG HFW
  by_cases hv : vld ev.minute = false
  · have V : Hid (chkE ev = 2) := by (show chkE ev = 2); unfold chkE; rw [if_pos hv]
    have hm2 : ev.minute < 0 ∨ 105190559 < ev.minute := by unfold vld at hv; simp at hv; omega
    generalize chkE ev = v at *
    clear hv
    rcases hm2 with hm2 | hm2
    · go_enter Tryz.func31, Tryz.ntmps31
      go_wp2_with fail
      all_goals first | (exfalso; omega) | skip
      all_goals
        go_ret
        exact ⟨by rw [V.out]; rfl, below_new _ _⟩
    · have hm3 : ¬ ev.minute < 0 := by omega
      go_enter Tryz.func31, Tryz.ntmps31
      go_wp2_with fail
      all_goals first | (exfalso; omega) | skip
      all_goals
        go_ret
        exact ⟨by rw [V.out]; rfl, below_new _ _⟩
  have hmv := vld_true (by cases hq : vld ev.minute with | true => rfl | false => exact absurd hq hv)
  obtain ⟨hm0, hm1⟩ := hmv
  have hm2 : ¬ ev.minute < 0 := by omega
  have hm3 : ¬ 105190559 < ev.minute := by omega
  by_cases h0 : ev.groups.length = 0
  · have V : Hid (chkE ev = 4) := by (show chkE ev = 4); unfold chkE; rw [if_neg hv, if_pos h0]
    generalize chkE ev = v at *
    clear hv
    go_enter Tryz.func31, Tryz.ntmps31
    go_wp2_with fail
    go_ret
    exact ⟨by rw [V.out]; rfl, below_new _ _⟩
  obtain ⟨L, hL⟩ : ∃ q, checkL ev.groups = q := ⟨_, rfl⟩
  have hLr : L ≤ 12 := by rw [← hL]; unfold checkL; split; omega; exact clGo_rng _ _
  by_cases hL0 : L = 0
  case neg =>
    have V : Hid (chkE ev = L) := by (show chkE ev = L); unfold chkE; rw [if_neg hv, if_neg h0, hL, if_pos hL0]
    generalize chkE ev = v at *
    clear hv
    have hfl := refCheckList_any ga gc ev.groups _ (HGR.out.below (below_new w (.cells #[i64 ev.minute, auB ev.author 0, auB ev.author 1, auB ev.author 2, auB ev.author 3, auB ev.author 4, auB ev.author 5, auB ev.author 6, auB ev.author 7, auB ev.author 8, auB ev.author 9, auB ev.author 10, auB ev.author 11, auB ev.author 12, auB ev.author 13, auB ev.author 14, auB ev.author 15, .slice ga ev.groups.length gc, .slice sa ev.sites.length sc, i64 ev.bytes] 51))) (by omega) (fun x hx => by have := HLG.out x hx; omega)
    rw [hL] at hfl
    clear hL
    go_enter Tryz.func31, Tryz.ntmps31
    go_wp2_with fail
    refine hfl.mono ?_; rintro e w1 ⟨rfl, b1⟩
    clear hfl
    have hlb : ((L : Int) != 0) = true := by simp; omega
    go_wp2_with fail
    go_ret
    exact ⟨by rw [V.out]; rfl, (below_new _ _).tr b1⟩
  case pos =>
    subst hL0
    have hfl := refCheckList_any ga gc ev.groups _ (HGR.out.below (below_new w (.cells #[i64 ev.minute, auB ev.author 0, auB ev.author 1, auB ev.author 2, auB ev.author 3, auB ev.author 4, auB ev.author 5, auB ev.author 6, auB ev.author 7, auB ev.author 8, auB ev.author 9, auB ev.author 10, auB ev.author 11, auB ev.author 12, auB ev.author 13, auB ev.author 14, auB ev.author 15, .slice ga ev.groups.length gc, .slice sa ev.sites.length sc, i64 ev.bytes] 51))) (by omega) (fun x hx => by have := HLG.out x hx; omega)
    rw [hL] at hfl
    clear hLr
    have V0 : Hid (chkE ev = if 50 < ev.sites.length then 9 else if sitesGo [] ev.sites ≠ 0 then sitesGo [] ev.sites else if ev.bytes < 0 ∨ 65536 < ev.bytes then 2 else 0) := by (show chkE ev = _); unfold chkE; rw [if_neg hv, if_neg h0, hL, if_neg (by simp)]
    generalize chkE ev = v at *
    clear hv hL
    go_enter Tryz.func31, Tryz.ntmps31
    go_wp2_with fail
    refine hfl.mono ?_; rintro e w1 ⟨rfl, b1⟩
    clear hfl
    have HK := Lib.hid (blk_below b1 (blk_new w (.cells #[i64 ev.minute, auB ev.author 0, auB ev.author 1, auB ev.author 2, auB ev.author 3, auB ev.author 4, auB ev.author 5, auB ev.author 6, auB ev.author 7, auB ev.author 8, auB ev.author 9, auB ev.author 10, auB ev.author 11, auB ev.author 12, auB ev.author 13, auB ev.author 14, auB ev.author 15, .slice ga ev.groups.length gc, .slice sa ev.sites.length sc, i64 ev.bytes] 51)))
    have B1 := Lib.hid ((below_new w (.cells #[i64 ev.minute, auB ev.author 0, auB ev.author 1, auB ev.author 2, auB ev.author 3, auB ev.author 4, auB ev.author 5, auB ev.author 6, auB ev.author 7, auB ev.author 8, auB ev.author 9, auB ev.author 10, auB ev.author 11, auB ev.author 12, auB ev.author 13, auB ev.author 14, auB ev.author 15, .slice ga ev.groups.length gc, .slice sa ev.sites.length sc, i64 ev.bytes] 51)).tr b1)
    clear b1
    have hbx := blk_lt HK.out
    have k0 := blk_cell HK.out 18
    by_cases h50 : 50 < ev.sites.length
    · have V1 : Hid (v = 9) := by (show v = 9); rw [V0.out, if_pos h50]
      go_wp2_with fail
      go_ret
      exact ⟨by rw [V1.out]; rfl, B1.out⟩
    have V1 : Hid (v = if sitesGo [] ev.sites ≠ 0 then sitesGo [] ev.sites else if ev.bytes < 0 ∨ 65536 < ev.bytes then 2 else 0) := by (show v = _); rw [V0.out, if_neg h50]
    clear V0
    go_wp2_with fail
    clear k0
    go_loopg [4, 5, 6, 7] ev.sites.length (fun gg iv _ _ _ wr => ∃ k : Nat, k ≤ ev.sites.length ∧ ev.sites.length - k ≤ gg ∧ iv = .int .i64 k ∧ Hid (Below w1.heap.size w1 wr) ∧ Hid (sitesGo [] ev.sites = sitesGo (ev.sites.take k) (ev.sites.drop k)))
    case atStart => exact ⟨0, by omega, by omega, rfl, Lib.hid (Below.refl _ _), Lib.hid (by simp)⟩
    case round =>
      obtain ⟨k, hk, hgk, rfl, B2, G2⟩ := hrel
      obtain ⟨wo, hwo⟩ : ∃ wo : World, wo = wr := ⟨_, rfl⟩
      subst hwo
      have HK2 := Lib.hid (blk_below B2.out HK.out)
      have hbx2 := blk_lt HK2.out
      have k18 := blk_cell HK2.out 18
      have B3 := Lib.hid (B1.out.tr B2.out)
      by_cases hlt : k < ev.sites.length
      · obtain ⟨b, oa, x, hsa, hbl, hxk, hcell⟩ := (HSR.out.below B3.out).at_ hlt
        subst hsa
        have hga := sitesGo_at hxk
        have hxl := HLS.out x (List.mem_of_getElem? hxk)
        rw [← G2.out] at hga
        have HGA := Lib.hid hga
        have HX := Lib.hid hxk
        clear hga hxk
        have hst := refSite_any x wo (by unfold maxLen; omega)
        obtain ⟨SX, hSX⟩ : ∃ q, siteE x = q := ⟨_, rfl⟩
        rw [hSX] at hst HGA
        have hSr : SX ≤ 12 := by rw [← hSX]; unfold siteE; split <;> (try split) <;> (try split) <;> (try split) <;> omega
        clear hSX
        by_cases hS0 : SX = 0
        case neg =>
          have hz : sitesGo [] ev.sites = SX := by rw [HGA.out, if_pos hS0]
          have V2 : Hid (v = SX) := by (show v = _); rw [V1.out, if_pos (by rw [hz]; exact hS0), hz]
          have hlb : ((SX : Int) != 0) = true := by simp; omega
          clear V1 hz HGA
          go_wp2_with fail
          refine hst.mono ?_; rintro e w2 ⟨⟨at_, rfl⟩, rfl⟩
          go_wp2_with fail
          go_ret
          exact ⟨by rw [V2.out]; rfl, B3.out⟩
        subst hS0
        go_wp2_with fail
        refine hst.mono ?_; rintro e w2 ⟨⟨at_, rfl⟩, rfl⟩
        clear hst
        go_wp2_with fail
        go_loopg [7] k (fun gg nv wr2 => ∃ n : Nat, n ≤ k ∧ k - n ≤ gg ∧ nv = .int .i64 n ∧ Hid (Below w1.heap.size w1 wr2) ∧ Hid (∀ j, j < n → ev.sites[j]? ≠ some x))
        case atStart => exact ⟨0, by omega, by omega, rfl, B2, Lib.hid (by simp)⟩
        case round =>
          obtain ⟨n, hn, hgn, rfl, B4, N4⟩ := hrel
          obtain ⟨wi, hwi⟩ : ∃ wi : World, wi = wr := ⟨_, rfl⟩
          subst hwi
          clear hcell hbx2 k18 HK2
          by_cases hlt2 : n < k
          · have B5 := Lib.hid (B1.out.tr B4.out)
            have HKD := Lib.hid (blk_below B4.out HK.out)
            obtain ⟨b', oa', x', hsa', hbl', hxk', hcell'⟩ := (HSR.out.below B5.out).at_ hlt
            obtain ⟨b2, oa2, y, hsa2, hbl2, hyk, hcell2⟩ := (HSR.out.below B5.out).at_ (k := n) (by omega)
            cases hsa'
            cases hsa2
            obtain rfl : x' = x := by have := HX.out.symm.trans hxk'; injection this with this; exact this.symm
            have B4' := Lib.hid (B4.out.drew)
            have HKD2 := Lib.hid (blk_below (Below.refl _ _).drew HKD.out)
            have HCX : Hid ((World.drew wi).cell? ⟨b, oa + k, none⟩ = some (enS x')) := Lib.hid hcell'
            have HCY : Hid ((World.drew wi).cell? ⟨b, oa + n, none⟩ = some (enS y)) := Lib.hid hcell2
            have HYK := Lib.hid hyk
            clear hxk' hyk hcell' hcell2 HKD B4 B5
            go_wp2_with fail
            refine Flow.wp_region_segs Flow.Later Flow.Later.refl Flow.Later.trans [] [0, 1, 2, 3, 4, 5, 6, 7, 8, 9, 10] (by kernel_rfl) (by kernel_rfl) ?_
            generalize World.drew wi = wd at *
            have qb : ∀ t : Flow.Cls (Flow.Later wd), t.val.cell? ⟨w.heap.size, 18, none⟩ = some (.slice (some ⟨b, oa, none⟩) ev.sites.length sc) := fun t => Flow.cls_cell (blk_cell HKD2.out 18) t
            have qx : ∀ t : Flow.Cls (Flow.Later wd), t.val.cell? ⟨b, oa + k, none⟩ = some (enS x') := fun t => Flow.cls_cell HCX.out t
            have qy : ∀ t : Flow.Cls (Flow.Later wd), t.val.cell? ⟨b, oa + n, none⟩ = some (enS y) := fun t => Flow.cls_cell HCY.out t
            haveI nonE := Flow.cls_nonempty wd
            rw [Flow.wpSegs_nil]
            simp only [Flow.pick, List.getElem?_toArray, List.getElem?_cons_succ, List.getElem?_cons_zero]
            repeat go_big_quiet_step (fail)
            refine wpQuiet_nil ?_
            clear nonE qb qx qy
            have BD := Lib.hid (B1.out.tr B4'.out)
            by_cases hxy : y = x'
            · subst hxy
              have hin : y ∈ ev.sites.take k := List.mem_iff_getElem?.2 ⟨n, by rw [List.getElem?_take, if_pos hlt2]; exact HYK.out⟩
              have hz : sitesGo [] ev.sites = 7 := by rw [HGA.out, if_neg (by simp), if_pos hin]
              have V2 : Hid (v = 7) := by (show v = _); rw [V1.out, if_pos (by rw [hz]; simp), hz]
              clear V1 hz HGA hin
              go_wp2_with fail
              all_goals first | (exfalso; rename_i hq; simp at hq; done) | skip
              all_goals
                go_ret
                exact ⟨by rw [V2.out]; rfl, BD.out⟩
            · have N5 : Hid (∀ j, j < n + 1 → ev.sites[j]? ≠ some x') := Lib.hid fun j hj h => by
                rcases Nat.lt_or_ge j n with h2 | h2
                · exact N4.out j h2 h
                · have e : j = n := by omega
                  subst e
                  rw [HYK.out] at h
                  injection h with h
                  exact hxy h
              go_wp2_with fail
              all_goals first | (exfalso; rename_i hq; simp [hxy] at hq; done) | skip
              all_goals
                go_roundg (k - (n + 1))
                case measure => omega
                case rel => exact ⟨n + 1, by omega, by omega, by go_num, B4', N5⟩
          · obtain rfl : n = k := by omega
            have hnin : x ∉ ev.sites.take n := fun h => by
              obtain ⟨j, hj⟩ := List.mem_iff_getElem?.1 h
              rw [List.getElem?_take] at hj
              split at hj
              · exact N4.out j (by assumption) hj
              · cases hj
            have hz : sitesGo [] ev.sites = sitesGo (ev.sites.take (n + 1)) (ev.sites.drop (n + 1)) := by rw [HGA.out, if_neg (by simp), if_neg hnin]
            have HZ := Lib.hid hz
            clear hz HGA hnin
            go_wp2_with fail
            go_roundg (ev.sites.length - (n + 1))
            case measure => omega
            case rel => exact ⟨n + 1, by omega, by omega, by go_num, B4, HZ⟩
      · obtain rfl : k = ev.sites.length := by omega
        have hz : sitesGo [] ev.sites = 0 := by rw [G2.out, List.take_length, List.drop_length]; rfl
        have V2 : Hid (v = if ev.bytes < 0 ∨ 65536 < ev.bytes then 2 else 0) := by (show v = _); rw [V1.out, if_neg (by rw [hz]; simp)]
        have k19 := blk_cell HK2.out 19
        clear V1 hz G2
        by_cases hb0 : ev.bytes < 0
        · have V3 : Hid (v = 2) := by (show v = 2); rw [V2.out, if_pos (.inl hb0)]
          go_wp2_with fail
          all_goals first | (exfalso; omega) | skip
          all_goals
            go_ret
            exact ⟨by rw [V3.out]; rfl, B3.out⟩
        by_cases hb1 : 65536 < ev.bytes
        · have V3 : Hid (v = 2) := by (show v = 2); rw [V2.out, if_pos (.inr hb1)]
          go_wp2_with fail
          all_goals first | (exfalso; omega) | skip
          all_goals
            go_ret
            exact ⟨by rw [V3.out]; rfl, B3.out⟩
        have V3 : Hid (v = 0) := by (show v = 0); rw [V2.out, if_neg (by omega)]
        go_wp2_with fail
        all_goals first | (exfalso; omega) | skip
        all_goals
          go_ret
          exact ⟨by rw [V3.out]; rfl, B3.out⟩
end Go.Proofs.YthgefcoaaommkaaGreatDoor

namespace Go.Proofs.YthgefcoaaommkaaGreatDoor
open Go.RowKit Go.Gn Go.Sr Go.Maps

/-- Counts up to a bound. -/
def bndL {κ : Type} (L : List (κ × C)) (B : Int) : Prop := ∀ q ∈ L, 0 ≤ q.2.1 ∧ q.2.1 ≤ B ∧ 0 ≤ q.2.2 ∧ q.2.2 ≤ B
theorem bndL.mono {κ : Type} {L : List (κ × C)} {B B' : Int} (h : bndL L B) (hB : B ≤ B') : bndL L B' := fun q hq => by have := h q hq; omega
theorem bndL.get {κ : Type} [DecidableEq κ] {L : List (κ × C)} {B : Int} (h : bndL L B) (hB : 0 ≤ B) (k : κ) : 0 ≤ ((getA L k).getD (0, 0)).1 ∧ ((getA L k).getD (0, 0)).1 ≤ B ∧ 0 ≤ ((getA L k).getD (0, 0)).2 ∧ ((getA L k).getD (0, 0)).2 ≤ B := by
  cases hg : getA L k with
  | none => simp; exact hB
  | some c => exact h _ (getA_some hg)
theorem bndL.add {κ : Type} [DecidableEq κ] {L : List (κ × C)} {B : Int} (h : bndL L B) (hB : 0 ≤ B) (k : κ) {c : C} (h1 : 0 ≤ c.1 ∧ c.1 ≤ 65536) (h2 : 0 ≤ c.2 ∧ c.2 ≤ 65536) : bndL (addA L k c) (B + 65536) := fun q hq => by
  rcases (mem_putA q).1 hq with rfl | ⟨hq, _⟩
  · have := h.get hB k
    simp only [plus]; omega
  · have := h q hq; omega
theorem bndL.addAll {κ : Type} [DecidableEq κ] {c : C} (h1 : 0 ≤ c.1 ∧ c.1 ≤ 65536) (h2 : 0 ≤ c.2 ∧ c.2 ≤ 65536) : ∀ (ks : List κ) {L : List (κ × C)} {B : Int}, bndL L B → 0 ≤ B → bndL (addAll ks c L) (B + ks.length * 65536)
  | [], L, B, h, _ => by simpa [Go.Sr.addAll] using h
  | k :: r, L, B, h, hB => by
    have := bndL.addAll h1 h2 r (h.add hB k h1 h2) (by omega)
    refine bndL.mono this ?_
    simp only [List.length_cons]; omega
theorem addA_length {κ : Type} [DecidableEq κ] (L : List (κ × C)) (k : κ) (c : C) : (addA L k c).length ≤ L.length + 1 := by
  unfold addA
  rw [putA_length]; split <;> omega
theorem addAll_length {κ : Type} [DecidableEq κ] (c : C) : ∀ (ks : List κ) (L : List (κ × C)), (addAll ks c L).length ≤ L.length + ks.length
  | [], L => by simp [Go.Sr.addAll]
  | k :: r, L => by
    have h1 := addAll_length c r (addA L k c)
    have h2 := addA_length L k c
    show (addAll r c (addA L k c)).length ≤ _
    simp only [List.length_cons]; omega
theorem bndL.ok {κ : Type} [DecidableEq κ] {L : List (κ × C)} {B : Int} (h : bndL L B) (hB : 0 ≤ B) (hb : B ≤ 100000000000) (k : κ) : okC ((getA L k).getD (0, 0)) := by
  have := h.get hB k
  unfold okC; omega
theorem bndL.small {κ : Type} {L : List (κ × C)} {B : Int} (h : bndL L B) (hb : B ≤ 100000000000) : ∀ q ∈ L, smallC q.2 := fun q hq => by
  have := h q hq
  unfold smallC; omega
theorem addAll_take {κ : Type} [DecidableEq κ] (f : List UInt8 → κ) (c : C) (L : List (κ × C)) {l : List (List UInt8)} {k : Nat} {x : List UInt8} (h : l[k]? = some x) : addAll ((l.take (k + 1)).map f) c L = addA (addAll ((l.take k).map f) c L) (f x) c := by
  obtain ⟨hl, hx⟩ := List.getElem?_eq_some_iff.1 h
  rw [List.take_succ_eq_append_getElem hl, hx, List.map_append, addAll_append]
  rfl
theorem StM.putZ {w : World} {p bd bn : Nat} {ds : List (Int × C)} {ns : List (Ky × C)} {zs : List Int} (h : StM w p bd bn ds ns zs) {k : Nat} (_hk : k < 18) (v : Int) : StM (w.setCell ⟨p, 2 + k, none⟩ (i64 v)) p bd bn ds ns (zs.set k v) := by
  refine ⟨?_, h.md.keep (blk_set_ne _ _ h.pd.symm), h.mn.keep (blk_set_ne _ _ h.pn.symm), h.ne, by rw [List.length_set]; exact h.zl⟩
  rw [blk_set h.blk]
  congr 2
  rw [Nat.add_comm 2 k]
  simp [List.map_set]
theorem check_len {s : List UInt8} (h : check s = 0) : s.length ≤ 80 := ((check_zero s).1 h).1
set_option maxRecDepth 100000 in
set_option maxHeartbeats 4000000 in
theorem add_no (p bd bn : Nat) (ds : List (Int × C)) (ns : List (Ky × C)) (zs : List Int) (m : EvM) (w : World) (hg : GoodM w m) (hf : FewM m) (hE : Env w) (h : StM w p bd bn ds ns zs) (hc : chkE m.e ≠ 0) (hcr : chkE m.e ≤ 12) :
    Calls Tryz.prog 25 #[.pointer (some ⟨p, 0, none⟩), evA m] w fun e w' => e = .returned (.int .i64 (chkE m.e : Nat)) ∧ StM w' p bd bn ds ns zs ∧ Below w.heap.size w w' := by
  obtain ⟨ev, ga, gc, sa, sc⟩ := m
  have hch := evCheck_any ⟨ev, ga, gc, sa, sc⟩ (w.alloc (.cells #[i64 ev.minute, auB ev.author 0, auB ev.author 1, auB ev.author 2, auB ev.author 3, auB ev.author 4, auB ev.author 5, auB ev.author 6, auB ev.author 7, auB ev.author 8, auB ev.author 9, auB ev.author 10, auB ev.author 11, auB ev.author 12, auB ev.author 13, auB ev.author 14, auB ev.author 15, .slice ga ev.groups.length gc, .slice sa ev.sites.length sc, i64 ev.bytes] 51)) (hg.below (below_new _ _)) hf (hE.below (below_new _ _))
  have H0 := Lib.hid h
  dsimp only at hc hcr hch ⊢
  obtain ⟨v, hv⟩ : ∃ q, chkE ev = q := ⟨_, rfl⟩
  rw [hv] at hch hc hcr ⊢
  clear hg hf hE h hv
  unfold evA evL at *
  dsimp only at hch ⊢
  have hrg := range_blk (cs := [i64 ev.minute, auB ev.author 0, auB ev.author 1, auB ev.author 2, auB ev.author 3, auB ev.author 4, auB ev.author 5, auB ev.author 6, auB ev.author 7, auB ev.author 8, auB ev.author 9, auB ev.author 10, auB ev.author 11, auB ev.author 12, auB ev.author 13, auB ev.author 14, auB ev.author 15, .slice ga ev.groups.length gc, .slice sa ev.sites.length sc, i64 ev.bytes]) (blk_new w (.cells #[i64 ev.minute, auB ev.author 0, auB ev.author 1, auB ev.author 2, auB ev.author 3, auB ev.author 4, auB ev.author 5, auB ev.author 6, auB ev.author 7, auB ev.author 8, auB ev.author 9, auB ev.author 10, auB ev.author 11, auB ev.author 12, auB ev.author 13, auB ev.author 14, auB ev.author 15, .slice ga ev.groups.length gc, .slice sa ev.sites.length sc, i64 ev.bytes] 51))
  go_enter Tryz.func25, Tryz.ntmps25
  go_wp2_with (refine wpList_load_mid rfl 51 _ rfl w.heap.size 0 rfl [i64 ev.minute, auB ev.author 0, auB ev.author 1, auB ev.author 2, auB ev.author 3, auB ev.author 4, auB ev.author 5, auB ev.author 6, auB ev.author 7, auB ev.author 8, auB ev.author 9, auB ev.author 10, auB ev.author 11, auB ev.author 12, auB ev.author 13, auB ev.author 14, auB ev.author 15, .slice ga ev.groups.length gc, .slice sa ev.sites.length sc, i64 ev.bytes] _ hrg Tryz.underlying51 rfl ev_size ?_)
  clear hrg
  refine hch.mono ?_; rintro e w1 ⟨rfl, b1⟩
  clear hch
  have hlb : ((v : Int) != 0) = true := by simp; omega
  have B := Lib.hid ((below_new w (.cells #[i64 ev.minute, auB ev.author 0, auB ev.author 1, auB ev.author 2, auB ev.author 3, auB ev.author 4, auB ev.author 5, auB ev.author 6, auB ev.author 7, auB ev.author 8, auB ev.author 9, auB ev.author 10, auB ev.author 11, auB ev.author 12, auB ev.author 13, auB ev.author 14, auB ev.author 15, .slice ga ev.groups.length gc, .slice sa ev.sites.length sc, i64 ev.bytes] 51)).tr b1)
  clear b1
  go_wp2_with fail
  go_ret
  exact ⟨rfl, H0.out.below B.out, B.out⟩
set_option maxRecDepth 100000 in
set_option maxHeartbeats 8000000 in
theorem add_yes (p bd bn : Nat) (ds : List (Int × C)) (ns : List (Ky × C)) (zs : List Int) (m : EvM) (w : World) (B : Int) (hg : GoodM w m) (hf : FewM m) (hE : Env w) (h : StM w p bd bn ds ns zs) (hc : chkE m.e = 0)
    (hB0 : 0 ≤ B) (hB1 : B ≤ 10000000000) (hbd : bndL ds B) (hbn : bndL ns B) (hap : (0 < m.e.groups.length → ∀ b o, m.ga = some ⟨b, o, none⟩ → b ≠ p ∧ b ≠ bd ∧ b ≠ bn) ∧ (0 < m.e.sites.length → ∀ b o, m.sa = some ⟨b, o, none⟩ → b ≠ p ∧ b ≠ bd ∧ b ≠ bn)) (hzs : ∀ k, 0 ≤ zs.getD k 0 ∧ zs.getD k 0 ≤ 1000000000000) (hld : ds.length ≤ 10000) (hln : ns.length ≤ 100000) (htot : (sumC (ds.map (·.2))).1 < 1000000) :
    Calls Tryz.prog 25 #[.pointer (some ⟨p, 0, none⟩), evA m] w fun e w' => e = .returned (.int .i64 0) ∧ StM w' p bd bn (addA ds (dayE m.e) (oneE m.e)) (addAll (keysE m.e) (oneE m.e) ns) (upAt zs (blen m.e.bytes)) ∧ ButL [p, bd, bn] w w' := by
  obtain ⟨ev, ga, gc, sa, sc⟩ := m
  have hch := evCheck_any ⟨ev, ga, gc, sa, sc⟩ (w.alloc (.cells #[i64 ev.minute, auB ev.author 0, auB ev.author 1, auB ev.author 2, auB ev.author 3, auB ev.author 4, auB ev.author 5, auB ev.author 6, auB ev.author 7, auB ev.author 8, auB ev.author 9, auB ev.author 10, auB ev.author 11, auB ev.author 12, auB ev.author 13, auB ev.author 14, auB ev.author 15, .slice ga ev.groups.length gc, .slice sa ev.sites.length sc, i64 ev.bytes] 51)) (hg.below (below_new _ _)) hf (hE.below (below_new _ _))
  have H0 := Lib.hid h
  dsimp only at hc hch ⊢
  have HGE := Lib.hid (chkE_zero hc)
  rw [hc] at hch
  have hau : ev.author.length = 16 := hg.au
  have HRG : Hid (Rd w ga ev.groups) := Lib.hid hg.rg
  have HRS : Hid (Rd w sa ev.sites) := Lib.hid hg.rs
  have hm0 := HGE.out.minute.1
  have hm1 := HGE.out.minute.2
  have hb0 := HGE.out.bytes.1
  have hb1 := HGE.out.bytes.2
  have hng : ev.groups.length ≤ 20 := HGE.out.ng.2
  have hns : ev.sites.length ≤ 50 := HGE.out.ns
  have HZS := Lib.hid hzs
  have HAP : Hid ((0 < ev.groups.length → ∀ b o, ga = some ⟨b, o, none⟩ → b ≠ p ∧ b ≠ bd ∧ b ≠ bn) ∧ (0 < ev.sites.length → ∀ b o, sa = some ⟨b, o, none⟩ → b ≠ p ∧ b ≠ bd ∧ b ≠ bn)) := Lib.hid hap
  have HBD := Lib.hid hbd
  have HBN := Lib.hid hbn
  have htt := total_any p bd bn ds ns zs
  clear hg hf hE h hc hbd hbn hap hzs
  unfold evA evL at *
  dsimp only at hch ⊢
  have hrg := range_blk (cs := [i64 ev.minute, auB ev.author 0, auB ev.author 1, auB ev.author 2, auB ev.author 3, auB ev.author 4, auB ev.author 5, auB ev.author 6, auB ev.author 7, auB ev.author 8, auB ev.author 9, auB ev.author 10, auB ev.author 11, auB ev.author 12, auB ev.author 13, auB ev.author 14, auB ev.author 15, .slice ga ev.groups.length gc, .slice sa ev.sites.length sc, i64 ev.bytes]) (blk_new w (.cells #[i64 ev.minute, auB ev.author 0, auB ev.author 1, auB ev.author 2, auB ev.author 3, auB ev.author 4, auB ev.author 5, auB ev.author 6, auB ev.author 7, auB ev.author 8, auB ev.author 9, auB ev.author 10, auB ev.author 11, auB ev.author 12, auB ev.author 13, auB ev.author 14, auB ev.author 15, .slice ga ev.groups.length gc, .slice sa ev.sites.length sc, i64 ev.bytes] 51))
  go_enter Tryz.func25, Tryz.ntmps25
  go_wp2_with (refine wpList_load_mid rfl 51 _ rfl w.heap.size 0 rfl [i64 ev.minute, auB ev.author 0, auB ev.author 1, auB ev.author 2, auB ev.author 3, auB ev.author 4, auB ev.author 5, auB ev.author 6, auB ev.author 7, auB ev.author 8, auB ev.author 9, auB ev.author 10, auB ev.author 11, auB ev.author 12, auB ev.author 13, auB ev.author 14, auB ev.author 15, .slice ga ev.groups.length gc, .slice sa ev.sites.length sc, i64 ev.bytes] _ hrg Tryz.underlying51 rfl ev_size ?_)
  clear hrg
  refine hch.mono ?_; rintro e w1 ⟨rfl, b1⟩
  clear hch
  have HK1 := Lib.hid (blk_below b1 (blk_new w (.cells #[i64 ev.minute, auB ev.author 0, auB ev.author 1, auB ev.author 2, auB ev.author 3, auB ev.author 4, auB ev.author 5, auB ev.author 6, auB ev.author 7, auB ev.author 8, auB ev.author 9, auB ev.author 10, auB ev.author 11, auB ev.author 12, auB ev.author 13, auB ev.author 14, auB ev.author 15, .slice ga ev.groups.length gc, .slice sa ev.sites.length sc, i64 ev.bytes] 51)))
  have B1 := Lib.hid ((below_new w (.cells #[i64 ev.minute, auB ev.author 0, auB ev.author 1, auB ev.author 2, auB ev.author 3, auB ev.author 4, auB ev.author 5, auB ev.author 6, auB ev.author 7, auB ev.author 8, auB ev.author 9, auB ev.author 10, auB ev.author 11, auB ev.author 12, auB ev.author 13, auB ev.author 14, auB ev.author 15, .slice ga ev.groups.length gc, .slice sa ev.sites.length sc, i64 ev.bytes] 51)).tr b1)
  have H1 := Lib.hid (H0.out.below B1.out)
  clear b1
  go_wp2_with fail
  refine (total_any p bd bn ds ns zs w1 H1.out (HBD.out.small (by omega)) (by omega)).mono ?_; rintro e w2 ⟨rfl, b2⟩
  have HK2 := Lib.hid (blk_below b2 HK1.out)
  have B2 := Lib.hid (B1.out.tr b2)
  have H2 := Lib.hid (H1.out.below b2)
  clear b2 H1 B1 HK1
  obtain ⟨tt, htt2⟩ : ∃ q, sumC (ds.map (·.2)) = q := ⟨_, rfl⟩
  rw [htt2] at htot ⊢
  obtain ⟨t1, t2⟩ := tt
  simp only at htot
  have hbx := blk_lt HK2.out
  have k0 := blk_cell HK2.out 0
  unfold cV
  dsimp only
  have hfd : ∀ (a b : Int) (u : World), (Instr.field 34 (.agg #[i64 a, i64 b]) 0).run Tryz.prog u = .ok (i64 a) u := fun _ _ _ => by kernel_rfl
  go_wp2_with fail
  refine (day_yes ev.minute w2 hm0 hm1).mono ?_; rintro e w2' ⟨rfl, rfl⟩
  have k19 := blk_cell HK2.out 19
  go_wp2_with fail
  have hday : (Lit.int .i64 (ev.minute / 1440)).wf = true := by
    have em : IntKind.i64.min = -9223372036854775808 := by decide
    have eM : IntKind.i64.max = 9223372036854775807 := by decide
    simp [Lit.wf, em, eM]; omega
  have hone : okC (1, ev.bytes) := by unfold okC; simp only; omega
  have B3 := Lib.hid (B2.out.tr (below_new w2 (.cells #[i64 1, i64 ev.bytes] 34)))
  have H3 := Lib.hid (H2.out.below (below_new w2 (.cells #[i64 1, i64 ev.bytes] 34)))
  have HK3 := Lib.hid (blk_below (below_new w2 (.cells #[i64 1, i64 ev.bytes] 34)) HK2.out)
  have HO3 := Lib.hid (blk_new w2 (.cells #[i64 1, i64 ev.bytes] 34))
  have hbo := hbx
  clear k0 k19 hfd H2 B2 HK2
  refine (count_any p bd bn ds ns zs (ev.minute / 1440) (1, ev.bytes) (w2.alloc (.cells #[i64 1, i64 ev.bytes] 34)) H3.out hday hone (HBD.out.ok hB0 (by omega) _) (by omega)).mono ?_; rintro e w4 ⟨rfl, h4, b4⟩
  obtain ⟨ds4, hds4⟩ : ∃ q, addA ds (ev.minute / 1440) (1, ev.bytes) = q := ⟨_, rfl⟩
  rw [hds4] at h4
  have HD4 := Lib.hid hds4
  have H4 := Lib.hid h4
  have hpl := H0.out.lp
  have hdl := H0.out.ld
  have hnl := H0.out.ln
  have HK4 := Lib.hid ((b4.block w.heap.size (blk_lt HK3.out) (by simp; omega)).trans HK3.out)
  have HO4 := Lib.hid ((b4.block w2.heap.size (blk_lt HO3.out) (by simp; omega)).trans HO3.out)
  have BL4 := Lib.hid ((ButL.of_below B3.out : ButL [p, bd, bn] w _).trans (b4.sub (by simp)))
  have hbo1 : w.heap.size < w2.heap.size := hbo
  clear h4 b4 H3 B3 HK3 HO3 hds4 hbo hbx
  generalize w2.heap.size = bo at *
  have hcb := blk_lt HK4.out
  have hob := blk_lt HO4.out
  have k17 := blk_cell HK4.out 17
  go_wp2_with fail
  clear k17 hcb hob
  go_loopg [10, 43] ev.groups.length (fun gg _ iv wr => ∃ k : Nat, k ≤ ev.groups.length ∧ ev.groups.length - k ≤ gg ∧ iv = .int .i64 k ∧ Hid (StM wr p bd bn ds4 (addAll ((ev.groups.take k).map fun g => (dayE ev, 1, g)) (oneE ev) ns) zs) ∧ Hid (ButL [p, bd, bn] w4 wr))
  case atStart => exact ⟨0, by omega, by omega, rfl, H4, Lib.hid (ButL.refl _ _)⟩
  case round =>
    obtain ⟨k, hk, hgk, rfl, H5, BL5⟩ := hrel
    have HK5 := Lib.hid ((BL5.out.block w.heap.size (blk_lt HK4.out) (by simp; omega)).trans HK4.out)
    have HO5 := Lib.hid ((BL5.out.block bo (blk_lt HO4.out) (by simp; omega)).trans HO4.out)
    have BLW := Lib.hid (BL4.out.trans BL5.out)
    by_cases hlt : k < ev.groups.length
    · obtain ⟨b, oa, x, hga, hbl, hxk, hcell⟩ := HRG.out.at_ hlt
      subst hga
      have hxm := List.mem_of_getElem? hxk
      have hxl := check_len (HGE.out.groups x hxm)
      have hbr : b ≠ p ∧ b ≠ bd ∧ b ≠ bn := HAP.out.1 (by omega) b oa rfl
      have hcell2 : wr.cell? ⟨b, oa + k, none⟩ = some (enS x) := by rw [World.cell?_of_block (w := w) (BLW.out.block b hbl (by simp; omega))]; exact hcell
      have hat := addAll_take (fun g => (dayE ev, (1 : Int), g)) (oneE ev) ns hxk
      have o0 := blk_cell HO5.out 0
      have o1 := blk_cell HO5.out 1
      have hlen := addAll_length (oneE ev) ((ev.groups.take k).map fun g => (dayE ev, (1 : Int), g)) ns
      rw [List.length_map, List.length_take] at hlen
      have hbb := bndL.addAll (c := oneE ev) (by unfold oneE; omega) (by unfold oneE; omega) ((ev.groups.take k).map fun g => (dayE ev, (1 : Int), g)) HBN.out (by omega)
      have hbb2 := hbb.mono (B' := B + 50 * 65536) (by rw [List.length_map, List.length_take]; omega)
      have HBB := Lib.hid hbb2
      have HAT := Lib.hid hat
      clear hcell hxk hxm hat hbb hbb2 hbr
      generalize addAll ((ev.groups.take k).map fun g => (dayE ev, (1 : Int), g)) (oneE ev) ns = ns5 at *
      go_wp2_with fail
      refine (countName_any p bd bn ds4 ns5 zs (ev.minute / 1440, 1, x) (1, ev.bytes) wr H5.out ⟨hday, (show (Lit.int .i64 1).wf = true by decide), by unfold maxLen; simp only; omega⟩ hone (HBB.out.ok (by omega) (by omega) _) (by omega)).mono ?_; rintro e w6 ⟨rfl, h6, b6⟩
      have h6' : StM w6 p bd bn ds4 (addAll ((ev.groups.take (k + 1)).map fun g => (dayE ev, 1, g)) (oneE ev) ns) zs := by rw [HAT.out]; exact h6
      have H6 := Lib.hid h6'
      have BL6 := Lib.hid (BL5.out.trans (b6.sub (S := [p, bd, bn]) (by simp)))
      clear h6 h6' b6
      go_wp2_with fail
      go_roundg (ev.groups.length - (k + 1))
      case measure => omega
      case rel => exact ⟨k + 1, by omega, by omega, by go_num, H6, BL6⟩
    · obtain rfl : k = ev.groups.length := by omega
      rw [List.take_length] at H5
      have hlen := addAll_length (oneE ev) (ev.groups.map fun g => (dayE ev, (1 : Int), g)) ns
      rw [List.length_map] at hlen
      have hbb := bndL.addAll (c := oneE ev) (by unfold oneE; omega) (by unfold oneE; omega) (ev.groups.map fun g => (dayE ev, (1 : Int), g)) HBN.out (by omega)
      have hbb2 := hbb.mono (B' := B + 50 * 65536) (by rw [List.length_map]; omega)
      obtain ⟨ns1, hn1⟩ : ∃ q, addAll (ev.groups.map fun g => (dayE ev, (1 : Int), g)) (oneE ev) ns = q := ⟨_, rfl⟩
      rw [hn1] at H5 hbb2 hlen
      have HN1 := Lib.hid hn1
      have HBN1 := Lib.hid hbb2
      have hB1' : B + 50 * 65536 ≤ 20000000000 := by omega
      obtain ⟨B1', hBe⟩ : ∃ q, B + 50 * 65536 = q := ⟨_, rfl⟩
      rw [hBe] at HBN1 hB1'
      have hB1p : 0 ≤ B1' := by omega
      clear hn1 hbb hbb2 hBe
      obtain ⟨wA, hwA⟩ : ∃ u : World, u = wr := ⟨_, rfl⟩
      subst hwA
      have H7 := Lib.hid H5.out
      have hkb := blk_lt HK5.out
      have k18 := blk_cell HK5.out 18
      clear BL5 H5
      go_wp2_with fail
      clear k18 hkb
      go_loopg [12, 57] ev.sites.length (fun gg _ iv wr => ∃ k : Nat, k ≤ ev.sites.length ∧ ev.sites.length - k ≤ gg ∧ iv = .int .i64 k ∧ Hid (StM wr p bd bn ds4 (addAll ((ev.sites.take k).map fun g => (dayE ev, 2, g)) (oneE ev) ns1) zs) ∧ Hid (ButL [p, bd, bn] wA wr))
      case atStart => exact ⟨0, by omega, by omega, rfl, H7, Lib.hid (ButL.refl _ _)⟩
      case round =>
        obtain ⟨k, hk, hgk, rfl, H5, BL5⟩ := hrel
        have HK8 := Lib.hid ((BL5.out.block w.heap.size (blk_lt HK5.out) (by simp; omega)).trans HK5.out)
        have HO8 := Lib.hid ((BL5.out.block bo (blk_lt HO5.out) (by simp; omega)).trans HO5.out)
        have BLX := Lib.hid (BLW.out.trans BL5.out)
        by_cases hlt : k < ev.sites.length
        · obtain ⟨b, oa, x, hga, hbl, hxk, hcell⟩ := HRS.out.at_ hlt
          subst hga
          have hxm := List.mem_of_getElem? hxk
          have hxl := siteE_zero (HGE.out.sites x hxm)
          have hbr : b ≠ p ∧ b ≠ bd ∧ b ≠ bn := HAP.out.2 (by omega) b oa rfl
          have hcell2 : wr.cell? ⟨b, oa + k, none⟩ = some (enS x) := by rw [World.cell?_of_block (w := w) (BLX.out.block b hbl (by simp; omega))]; exact hcell
          have hat := addAll_take (fun g => (dayE ev, (2 : Int), g)) (oneE ev) ns1 hxk
          have o0 := blk_cell HO8.out 0
          have o1 := blk_cell HO8.out 1
          have hlen := addAll_length (oneE ev) ((ev.sites.take k).map fun g => (dayE ev, (2 : Int), g)) ns1
          rw [List.length_map, List.length_take] at hlen
          have hbb := bndL.addAll (c := oneE ev) (by unfold oneE; omega) (by unfold oneE; omega) ((ev.sites.take k).map fun g => (dayE ev, (2 : Int), g)) HBN1.out (by omega)
          have hbb2 := hbb.mono (B' := B1' + 50 * 65536) (by rw [List.length_map, List.length_take]; omega)
          have HBB := Lib.hid hbb2
          have HAT := Lib.hid hat
          clear hcell hxk hxm hat hbb hbb2 hbr
          generalize addAll ((ev.sites.take k).map fun g => (dayE ev, (2 : Int), g)) (oneE ev) ns1 = ns5 at *
          go_wp2_with fail
          refine (countName_any p bd bn ds4 ns5 zs (ev.minute / 1440, 2, x) (1, ev.bytes) wr H5.out ⟨hday, (show (Lit.int .i64 2).wf = true by decide), by unfold maxLen; simp only; omega⟩ hone (HBB.out.ok (by omega) (by omega) _) (by omega)).mono ?_; rintro e w6 ⟨rfl, h6, b6⟩
          have h6' : StM w6 p bd bn ds4 (addAll ((ev.sites.take (k + 1)).map fun g => (dayE ev, 2, g)) (oneE ev) ns1) zs := by rw [HAT.out]; exact h6
          have H6 := Lib.hid h6'
          have BL6 := Lib.hid (BL5.out.trans (b6.sub (S := [p, bd, bn]) (by simp)))
          clear h6 h6' b6
          go_wp2_with fail
          go_roundg (ev.sites.length - (k + 1))
          case measure => omega
          case rel => exact ⟨k + 1, by omega, by omega, by go_num, H6, BL6⟩
        · obtain rfl : k = ev.sites.length := by omega
          rw [List.take_length] at H5
          have hlen := addAll_length (oneE ev) (ev.sites.map fun g => (dayE ev, (2 : Int), g)) ns1
          rw [List.length_map] at hlen
          have hbb := bndL.addAll (c := oneE ev) (by unfold oneE; omega) (by unfold oneE; omega) (ev.sites.map fun g => (dayE ev, (2 : Int), g)) HBN1.out (by omega)
          have hbb2 := hbb.mono (B' := B1' + 50 * 65536) (by rw [List.length_map]; omega)
          obtain ⟨ns2, hn2⟩ : ∃ q, addAll (ev.sites.map fun g => (dayE ev, (2 : Int), g)) (oneE ev) ns1 = q := ⟨_, rfl⟩
          rw [hn2] at H5 hbb2 hlen
          have HN2 := Lib.hid hn2
          have HBN2 := Lib.hid hbb2
          clear hn2 hbb hbb2
          obtain ⟨wB, hwB⟩ : ∃ u : World, u = wr := ⟨_, rfl⟩
          subst hwB
          have H9 := Lib.hid H5.out
          clear BL5 H5
          go_wp2_with fail
          refine Flow.wp_region_segs (ButL [bn]) (ButL.refl _) (fun _ _ _ => ButL.trans) [([0, 1, 2, 3, 6], 4), ([5], 7)] [] (by kernel_rfl) (by kernel_rfl) ?_
          have H9D := Lib.hid (H9.out.below (Below.refl _ _).drew)
          have BXD := Lib.hid (BLX.out.late (ButL.of_below (Below.refl _ _).drew : ButL [] _ _) (by simp))
          have HKD := Lib.hid (blk_below (Below.refl _ _).drew HK8.out)
          have HOD := Lib.hid (blk_below (Below.refl _ _).drew HO8.out)
          clear H9 BLX HK8 HO8
          generalize World.drew wB = wd at *
          have qa : ∀ t : World, (∃ s : Flow.Cls (ButL [bn] wd), t = s.val) → t.rangeAt w.heap.size 1 [auB ev.author 0, auB ev.author 1, auB ev.author 2, auB ev.author 3, auB ev.author 4, auB ev.author 5, auB ev.author 6, auB ev.author 7, auB ev.author 8, auB ev.author 9, auB ev.author 10, auB ev.author 11, auB ev.author 12, auB ev.author 13, auB ev.author 14, auB ev.author 15] := by
            rintro t ⟨s, rfl⟩
            have hb : s.val.heap[w.heap.size]? = _ := (s.ok.block w.heap.size (blk_lt HKD.out) (by simp; omega)).trans HKD.out
            intro j v hj
            have := range_blk (cs := [i64 ev.minute, auB ev.author 0, auB ev.author 1, auB ev.author 2, auB ev.author 3, auB ev.author 4, auB ev.author 5, auB ev.author 6, auB ev.author 7, auB ev.author 8, auB ev.author 9, auB ev.author 10, auB ev.author 11, auB ev.author 12, auB ev.author 13, auB ev.author 14, auB ev.author 15, .slice ga ev.groups.length gc, .slice sa ev.sites.length sc, i64 ev.bytes]) hb (j + 1) v (by
              rw [List.getElem?_cons_succ]
              have hl := (List.getElem?_eq_some_iff.1 hj).1
              show ([auB ev.author 0, auB ev.author 1, auB ev.author 2, auB ev.author 3, auB ev.author 4, auB ev.author 5, auB ev.author 6, auB ev.author 7, auB ev.author 8, auB ev.author 9, auB ev.author 10, auB ev.author 11, auB ev.author 12, auB ev.author 13, auB ev.author 14, auB ev.author 15] ++ [.slice ga ev.groups.length gc, .slice sa ev.sites.length sc, i64 ev.bytes])[j]? = some v
              rw [List.getElem?_append_left hl]
              exact hj)
            rw [Nat.zero_add] at this
            rw [Nat.add_comm 1 j]; exact this
          have qo0 : ∀ t : Flow.Cls (ButL [bn] wd), t.val.cell? ⟨bo, 0, none⟩ = some (i64 1) := fun t => blk_cell ((t.ok.block bo (blk_lt HOD.out) (by simp; omega)).trans HOD.out) 0
          have qo1 : ∀ t : Flow.Cls (ButL [bn] wd), t.val.cell? ⟨bo, 1, none⟩ = some (i64 ev.bytes) := fun t => blk_cell ((t.ok.block bo (blk_lt HOD.out) (by simp; omega)).trans HOD.out) 1
          have QA := Lib.hid qa
          clear qa
          haveI nonE : Nonempty (Flow.Cls (ButL [bn] wd)) := ⟨⟨wd, ButL.refl _ _⟩⟩
          rw [Flow.wpSegs_cons]
          simp only [Flow.pick, List.getElem?_toArray, List.getElem?_cons_succ, List.getElem?_cons_zero]
          iterate 3 go_big_quiet_step (fail)
          refine BigFrame.wpQuiet_want rfl (fun K hK => quiet_load_mid 49 _ rfl w.heap.size 1 rfl [auB ev.author 0, auB ev.author 1, auB ev.author 2, auB ev.author 3, auB ev.author 4, auB ev.author 5, auB ev.author 6, auB ev.author 7, auB ev.author 8, auB ev.author 9, auB ev.author 10, auB ev.author 11, auB ev.author 12, auB ev.author 13, auB ev.author 14, auB ev.author 15] _ QA.out Tryz.underlying49 rfl (by kernel_rfl) (hK _ ?_))
          clear hK K
          simp only [Act.put, List.setIfInBounds_toArray, List.set_cons_succ, List.set_cons_zero]
          repeat go_big_quiet_step (fail)
          refine wpQuiet_nil ?_
          clear nonE qo0 qo1 QA
          rw [Flow.callAt_eq]
          simp only [List.getElem?_toArray, List.getElem?_cons_succ, List.getElem?_cons_zero]
          rw [if_pos (by rfl)]
          refine Flow.wp_behind (fun K hK => ?_)
          go_wp2_with fail
          refine (authorText_any ev.author wd hau).mono ?_; rintro e w8 ⟨rfl, b8⟩
          refine hK.out _ _ ⟨ButL.of_below b8, ?_⟩
          clear hK K
          have H10 := Lib.hid (H9D.out.below b8)
          have HK10 := Lib.hid (blk_below b8 HKD.out)
          have BX10 := Lib.hid (BXD.out.trans (ButL.of_below b8))
          clear b8 H9D HKD BXD HOD
          haveI nonE : Nonempty (Flow.Cls (ButL [bn] w8)) := ⟨⟨w8, ButL.refl _ _⟩⟩
          rw [Flow.wpSegs_cons]
          simp only [Flow.pick, List.getElem?_toArray, List.getElem?_cons_succ, List.getElem?_cons_zero]
          refine BigFrame.wpQuiet_want rfl (fun K hK => quiet_build 74 _ rfl #[i64 (ev.minute / 1440), i64 3, enS (hexT ev.author)] (by kernel_rfl) (hK _ ?_))
          clear hK K
          simp only [Act.put, List.setIfInBounds_toArray, List.set_cons_succ, List.set_cons_zero]
          refine wpQuiet_nil ?_
          clear nonE
          rw [Flow.callAt_eq]
          simp only [List.getElem?_toArray, List.getElem?_cons_succ, List.getElem?_cons_zero]
          rw [if_pos (by rfl)]
          refine Flow.wp_behind (fun K hK => ?_)
          go_wp2_with fail
          have hxl := hexT_length ev.author
          refine (countName_any p bd bn ds4 ns2 zs (ev.minute / 1440, 3, hexT ev.author) (1, ev.bytes) w8 H10.out ⟨hday, (show (Lit.int .i64 3).wf = true by decide), by unfold maxLen; simp only; omega⟩ hone (HBN2.out.ok (by omega) (by omega) _) (by omega)).mono ?_; rintro e w9 ⟨rfl, h11, b11⟩
          refine hK.out _ _ ⟨b11, ?_⟩
          clear hK K
          have H11 := Lib.hid h11
          have HK11 := Lib.hid ((b11.block w.heap.size (blk_lt HK10.out) (by simp; omega)).trans HK10.out)
          have BX11 := Lib.hid (BX10.out.trans (b11.sub (S := [p, bd, bn]) (by simp)))
          clear h11 b11 H10 HK10 BX10
          rw [Flow.wpSegs_nil]
          simp only [Flow.pick]
          refine wpQuiet_nil ?_
          go_wp2_with fail
          refine Flow.wp_region_pre Flow.Later Flow.Later.refl Flow.Later.trans [13] (.held [0, 1, 2, 3, 5, 6] (.pure [10, 11] (.call 4 (.pure [7] (.held [8] (.pure [9, 12] (.tail (.step [] 13 (.done []))))))))) (by kernel_rfl) (by kernel_rfl) ?_
          have H12 := Lib.hid (H11.out.below (Below.refl _ _).drew)
          have HK12 := Lib.hid (blk_below (Below.refl _ _).drew HK11.out)
          have BX12 := Lib.hid (BX11.out.trans (ButL.of_below (Below.refl _ _).drew))
          clear H11 HK11 BX11
          generalize World.drew w9 = wd2 at *
          have qb : ∀ t : Flow.Cls (Flow.Later wd2), t.val.cell? ⟨w.heap.size, 19, none⟩ = some (i64 ev.bytes) := fun t => Flow.cls_cell (blk_cell HK12.out 19) t
          haveI nonE := Flow.cls_nonempty wd2
          rw [Flow.wpPre_held]
          simp only [Flow.pick, List.getElem?_toArray, List.getElem?_cons_succ, List.getElem?_cons_zero]
          repeat go_big_quiet_step (fail)
          refine wpQuiet_nil ?_
          clear nonE qb
          have blle := blen_le hb0 hb1
          have qz : wd2.cell? ⟨p, 2 + blen ev.bytes, none⟩ = some (i64 (zs.getD (blen ev.bytes) 0)) := H12.out.cz (by omega)
          have hzb := HZS.out (blen ev.bytes)
          have hfz := H12.out.fz (2 + blen ev.bytes)
          have hbl := Tryz.bits_Len ev.bytes wd2 hb0 (by omega)
          rw [blen_lib hb1] at hbl
          obtain ⟨bl, hblx⟩ : ∃ q, blen ev.bytes = q := ⟨_, rfl⟩
          rw [hblx] at blle qz hzb hfz hbl
          obtain ⟨z, hz⟩ : ∃ q, zs.getD bl 0 = q := ⟨_, rfl⟩
          rw [hz] at qz hzb
          haveI nonE := Flow.cls_nonempty_true
          rw [Flow.wpPre_pure]
          simp only [Flow.pick, List.getElem?_toArray, List.getElem?_cons_succ, List.getElem?_cons_zero]
          repeat go_big_quiet_step (fail)
          refine wpQuiet_nil ?_
          clear nonE
          rw [Flow.wpPre_call, Flow.callAt_eq]
          simp only [List.getElem?_toArray, List.getElem?_cons_succ, List.getElem?_cons_zero]
          rw [if_pos (by rfl)]
          refine Flow.wp_behind (fun K hK => ?_)
          go_wp2_with fail
          refine hbl.mono ?_; rintro e w10 ⟨rfl, rfl⟩
          refine hK.out _ _ ⟨Below.refl _ _, ?_⟩
          clear hK K hbl
          haveI nonE := Flow.cls_nonempty_true
          rw [Flow.wpPre_pure]
          simp only [Flow.pick, List.getElem?_toArray, List.getElem?_cons_succ, List.getElem?_cons_zero]
          repeat go_big_quiet_step (fail)
          refine wpQuiet_nil ?_
          clear nonE
          have qz2 : ∀ t : Flow.Cls (Flow.Later w10), t.val.cell? ⟨p, 2 + bl, none⟩ = some (i64 z) := fun t => Flow.cls_cell qz t
          haveI nonE := Flow.cls_nonempty w10
          rw [Flow.wpPre_held]
          simp only [Flow.pick, List.getElem?_toArray, List.getElem?_cons_succ, List.getElem?_cons_zero]
          repeat go_big_quiet_step (fail)
          refine wpQuiet_nil ?_
          clear nonE qz2
          haveI nonE := Flow.cls_nonempty_true
          rw [Flow.wpPre_pure]
          simp only [Flow.pick, List.getElem?_toArray, List.getElem?_cons_succ, List.getElem?_cons_zero]
          repeat go_big_quiet_step (fail)
          refine wpQuiet_nil ?_
          clear nonE
          rw [Flow.wpPre_tail, Flow.wpSched_step]
          simp only [Flow.pick]
          refine wpQuiet_nil ?_
          rw [Flow.callAt_eq]
          simp only [List.getElem?_toArray, List.getElem?_cons_succ, List.getElem?_cons_zero]
          rw [if_pos (by rfl)]
          refine Flow.wp_behind (fun K hK => ?_)
          go_wp2_with fail
          refine hK.out _ _ ⟨trivial, ?_⟩
          clear hK K
          have H13 := Lib.hid (H12.out.putZ (k := bl) (by omega) (z + 1))
          have BX13 := Lib.hid (BX12.out.trans (ButL.setCell _ ⟨p, 2 + bl, none⟩ (i64 (z + 1)) (by simp)))
          rw [Flow.wpSched_done]
          simp only [Flow.pick]
          refine wpQuiet_nil ?_
          have HUP : Hid (upAt zs bl = zs.set bl (z + 1)) := by (show _ = _); unfold upAt; rw [hz]
          clear qz hzb hfz hz
          go_wp2_with fail
          go_ret
          refine ⟨rfl, ?_, BX13.out⟩
          have hk : addAll (keysE ev) (oneE ev) ns = addA ns2 (ev.minute / 1440, 3, hexT ev.author) (1, ev.bytes) := by
            unfold keysE
            rw [addAll_append, addAll_append, HN1.out, HN2.out]
            rfl
          rw [hk, show addA ds (dayE ev) (oneE ev) = ds4 from HD4.out, hblx, HUP.out]
          exact H13.out
end Go.Proofs.YthgefcoaaommkaaGreatDoor

namespace Go.Proofs.YthgefcoaaommkaaGreatDoor
open Go.RowKit Go.Gn Go.Sr Go.Maps

/-- No string is longer than what a machine holds. -/
structure LenM (m : EvM) : Prop where
  lg : ∀ x ∈ m.e.groups, x.length ≤ 140737488355328
  ls : ∀ x ∈ m.e.sites, x.length ≤ 140737488355328
theorem ev_cell {w : World} {b o : Nat} {m : EvM} (h : w.rangeAt b o (evL m)) (j : Nat) {v : Value} (hj : (evL m)[j]? = some v) : w.cell? ⟨b, o + j, none⟩ = some v := h j v hj
theorem mem_take_succ {l : List (List UInt8)} {k : Nat} {x : List UInt8} (hx : l[k]? = some x) {p : List UInt8 → Prop} (h : ∀ y ∈ l.take k, p y) (hp : p x) : ∀ y ∈ l.take (k + 1), p y := by
  obtain ⟨hl, e⟩ := List.getElem?_eq_some_iff.1 hx
  rw [List.take_succ_eq_append_getElem hl, e]
  intro y hy
  rcases List.mem_append.1 hy with hy | hy
  · exact h y hy
  · simp at hy; subst hy; exact hp
/-- What the sum of lengths bears. -/
def SumOk (v : Int) (L : List (List UInt8)) (n : Nat) : Prop := 0 ≤ v ∧ v ≤ n * 140737488355328 ∧ ∀ x ∈ L, (x.length : Int) ≤ v
theorem wrap_in {n : Int} (h0 : 0 ≤ n) (h1 : n < 9223372036854775808) : wrap64 n = n := by unfold wrap64; omega
theorem SumOk.step {v : Int} {l : List (List UInt8)} {q : Nat} {x : List UInt8} (h : SumOk v (l.take q) q) (hx : l[q]? = some x) (hq : q ≤ 1000) (hl : x.length ≤ 140737488355328) : SumOk (wrap64 (v + x.length)) (l.take (q + 1)) (q + 1) := by
  obtain ⟨h0, h1, h2⟩ := h
  rw [wrap_in (by omega) (by omega)]
  exact ⟨by omega, by omega, mem_take_succ hx (fun y hy => by have := h2 y hy; omega) (by omega)⟩
theorem SumOk.step2 {v : Int} {g l : List (List UInt8)} {p q : Nat} {x : List UInt8} (h : SumOk v (g ++ l.take q) (p + q)) (hx : l[q]? = some x) (hq : p + q ≤ 1000) (hl : x.length ≤ 140737488355328) : SumOk (wrap64 (v + x.length)) (g ++ l.take (q + 1)) (p + (q + 1)) := by
  obtain ⟨h0, h1, h2⟩ := h
  rw [wrap_in (by omega) (by omega)]
  refine ⟨by omega, by omega, fun y hy => ?_⟩
  rcases List.mem_append.1 hy with hy | hy
  · have := h2 y (List.mem_append_left _ hy); omega
  · exact mem_take_succ (p := fun y => (y.length : Int) ≤ v + x.length) hx (fun y hy => by have := h2 y (List.mem_append_right _ hy); omega) (by omega) y hy
theorem mem_take_succ' {l : List EvM} {k : Nat} {x : EvM} (hx : l[k]? = some x) {p : EvM → Prop} (h : ∀ y ∈ l.take k, p y) (hp : p x) : ∀ y ∈ l.take (k + 1), p y := by
  obtain ⟨hl, e⟩ := List.getElem?_eq_some_iff.1 hx
  rw [List.take_succ_eq_append_getElem hl, e]
  intro y hy
  rcases List.mem_append.1 hy with hy | hy
  · exact h y hy
  · simp at hy; subst hy; exact hp
set_option maxRecDepth 100000 in
set_option maxHeartbeats 4000000 in
theorem few_any (A : Option Addr) (c : Nat) (ms : List EvM) (w : World) (h : RdE w A ms) (hL : ∀ m ∈ ms, LenM m) (hlc : ms.length ≤ c) (hc : c ≤ maxLen) : Calls Tryz.prog 10 #[.slice A ms.length c] w fun e w' => ∃ r : Bool, e = .returned (.bool r) ∧ w' = w ∧ (r = true → (∀ m ∈ ms, FewM m) ∧ ms.length ≤ 20) := by
  have H := Lib.hid h
  have HLM := Lib.hid hL
  unfold maxLen at hc
  clear h hL
  go_enter Tryz.func10, Tryz.ntmps10
  go_wp2_with fail
  go_loopg [3, 4, 5, 6] ms.length (fun gg iv _ _ _ wr => ∃ k : Nat, k ≤ ms.length ∧ ms.length - k ≤ gg ∧ iv = .int .i64 k ∧ wr = w ∧ Hid (∀ m ∈ ms.take k, FewM m))
  case atStart => exact ⟨0, by omega, by omega, rfl, rfl, Lib.hid (by simp)⟩
  case round =>
    obtain ⟨k, hk, hgk, rfl, rfl, F⟩ := hrel
    by_cases hlt : k < ms.length
    · obtain ⟨b, o, m, hA, hbl, hmk, hcell, hgm⟩ := H.out.at_ hlt
      subst hA
      have hlm := HLM.out m (List.mem_of_getElem? hmk)
      have c17 := ev_cell hcell 17 rfl
      have c18 := ev_cell hcell 18 rfl
      have HGR : Hid (Rd wr m.ga m.e.groups) := Lib.hid hgm.rg
      have HSR : Hid (Rd wr m.sa m.e.sites) := Lib.hid hgm.rs
      have HLM1 := Lib.hid hlm
      have HMK := Lib.hid hmk
      have hgl := hgm.gl
      have hgc := hgm.gc
      have hsl := hgm.sl
      have hsc := hgm.sc
      unfold maxLen at hgl hsl
      clear hcell hgm hlm hmk
      go_wp2_with fail
      go_loopg [4, 5] m.e.groups.length (fun gg nv kv wr2 => ∃ (q : Nat) (v : Int), q ≤ m.e.groups.length ∧ m.e.groups.length - q ≤ gg ∧ kv = .int .i64 q ∧ nv = .int .i64 v ∧ (Lit.int .i64 v).wf = true ∧ wr2 = wr ∧ Hid (q ≤ 30 → SumOk v (m.e.groups.take q) q))
      case atStart => exact ⟨0, 0, by omega, by omega, rfl, rfl, rfl, rfl, Lib.hid fun _ => ⟨by omega, by omega, by simp⟩⟩
      case round =>
        obtain ⟨q, v, hq, hgq, rfl, rfl, hwv, rfl, G⟩ := hrel
        by_cases hlq : q < m.e.groups.length
        · obtain ⟨b2, o2, x, hga, hbl2, hxq, hcx⟩ := HGR.out.at_ hlq
          rw [hga] at c17
          have HXQ := Lib.hid hxq
          have hxl := HLM1.out.lg x (List.mem_of_getElem? hxq)
          clear hxq hga
          go_wp2_with fail
          go_roundg (m.e.groups.length - (q + 1))
          case measure => omega
          case rel => exact ⟨q + 1, _, by omega, by omega, by go_num, rfl, wrap64_wf _, rfl, Lib.hid fun h => (G.out (by omega)).step HXQ.out (by omega) (by omega)⟩
        · obtain rfl : q = m.e.groups.length := by omega
          have G1 : Hid (m.e.groups.length ≤ 30 → SumOk v m.e.groups m.e.groups.length) := Lib.hid fun h => by have := G.out h; rwa [List.take_length] at this
          clear G
          go_wp2_with fail
          go_loopg [4, 6] m.e.sites.length (fun gg nv kv wr2 => ∃ (q : Nat) (v : Int), q ≤ m.e.sites.length ∧ m.e.sites.length - q ≤ gg ∧ kv = .int .i64 q ∧ nv = .int .i64 v ∧ (Lit.int .i64 v).wf = true ∧ wr2 = wr ∧ Hid (m.e.groups.length ≤ 30 → q ≤ 80 → SumOk v (m.e.groups ++ m.e.sites.take q) (m.e.groups.length + q)))
          case atStart => exact ⟨0, v, by omega, by omega, rfl, rfl, hwv, rfl, Lib.hid fun h _ => by simpa using G1.out h⟩
          case round =>
            obtain ⟨q, v2, hq2, hgq2, rfl, rfl, hwv2, rfl, G2⟩ := hrel
            by_cases hlq : q < m.e.sites.length
            · obtain ⟨b2, o2, x, hga, hbl2, hxq, hcx⟩ := HSR.out.at_ hlq
              rw [hga] at c18
              have HXQ := Lib.hid hxq
              have hxl := HLM1.out.ls x (List.mem_of_getElem? hxq)
              clear hxq hga
              go_wp2_with fail
              go_roundg (m.e.sites.length - (q + 1))
              case measure => omega
              case rel => exact ⟨q + 1, _, by omega, by omega, by go_num, rfl, wrap64_wf _, rfl, Lib.hid fun h h2 => (G2.out h (by omega)).step2 HXQ.out (by omega) (by omega)⟩
            · obtain rfl : q = m.e.sites.length := by omega
              have G3 : Hid (m.e.groups.length ≤ 30 → m.e.sites.length ≤ 80 → SumOk v2 (m.e.groups ++ m.e.sites) (m.e.groups.length + m.e.sites.length)) := Lib.hid fun h h2 => by have := G2.out h h2; rwa [List.take_length] at this
              clear G2 G1
              by_cases hg30 : 30 < m.e.groups.length
              · go_wp2_with fail
                go_ret
                first | exact ⟨false, rfl, rfl, fun h => by cases h⟩ | exact .inl ⟨rfl, rfl⟩
              by_cases hs80 : 80 < m.e.sites.length
              · go_wp2_with fail
                go_ret
                first | exact ⟨false, rfl, rfl, fun h => by cases h⟩ | exact .inl ⟨rfl, rfl⟩
              by_cases h4 : 4000 < v2
              · go_wp2_with fail
                go_ret
                first | exact ⟨false, rfl, rfl, fun h => by cases h⟩ | exact .inl ⟨rfl, rfl⟩
              have hF : FewM m := by
                have hs := G3.out (by omega) (by omega)
                refine ⟨by omega, by omega, fun x hx => ?_, fun x hx => ?_⟩
                · have := hs.2.2 x (List.mem_append_left _ hx); omega
                · have := hs.2.2 x (List.mem_append_right _ hx); omega
              have HF := Lib.hid hF
              clear hF
              go_wp2_with fail
              go_roundg (ms.length - (k + 1))
              case measure => omega
              case rel => exact ⟨k + 1, by omega, by omega, by go_num, rfl, Lib.hid (mem_take_succ' HMK.out F.out HF.out)⟩
    · obtain rfl : k = ms.length := by omega
      have F1 : Hid (∀ m ∈ ms, FewM m) := Lib.hid (by have := F.out; rwa [List.take_length] at this)
      clear F
      go_wp2_with fail
      go_ret
      exact ⟨_, rfl, rfl, fun h => ⟨F1.out, by have := of_decide_eq_true h; omega⟩⟩
end Go.Proofs.YthgefcoaaommkaaGreatDoor

namespace Go.Proofs.YthgefcoaaommkaaGreatDoor
open Go.RowKit Go.Gn Go.Sr Go.Maps

theorem daysL_len (l : List Ev) : (daysL l).length ≤ l.length := snoc_ind (p := fun l => (daysL l).length ≤ l.length) (by simp [daysL]) (fun l e ih => by
  rw [daysL_snoc, List.length_append, List.length_singleton]
  have := addA_length (daysL l) (dayE e) (oneE e)
  omega) l
theorem keysE_len {e : Ev} (h : GoodE e) : (keysE e).length ≤ 71 := by
  have h1 := h.ng.2
  have h2 := h.ns
  simp only [keysE, List.length_append, List.length_map, List.length_singleton]
  omega
theorem namesL_len (l : List Ev) : (∀ e ∈ l, GoodE e) → (namesL l).length ≤ 71 * l.length := snoc_ind (p := fun l => (∀ e ∈ l, GoodE e) → (namesL l).length ≤ 71 * l.length) (by simp [namesL]) (fun l e ih h => by
  rw [namesL_snoc, List.length_append, List.length_singleton]
  have h1 := addAll_length (oneE e) (keysE e) (namesL l)
  have h2 := keysE_len (h e (by simp))
  have h3 := ih fun x hx => h x (by simp [hx])
  omega) l
theorem oneE_fst (e : Ev) : 0 ≤ (oneE e).1 ∧ (oneE e).1 ≤ 65536 := by unfold oneE; constructor <;> simp
theorem oneE_snd {e : Ev} (h : GoodE e) : 0 ≤ (oneE e).2 ∧ (oneE e).2 ≤ 65536 := h.bytes
theorem daysL_bnd (l : List Ev) : (∀ e ∈ l, GoodE e) → bndL (daysL l) (65536 * l.length) := snoc_ind (p := fun l => (∀ e ∈ l, GoodE e) → bndL (daysL l) (65536 * l.length)) (fun _ q hq => by simp [daysL] at hq) (fun l e ih h => by
  rw [daysL_snoc, List.length_append, List.length_singleton]
  have h3 := ih fun x hx => h x (by simp [hx])
  exact (h3.add (by omega) (dayE e) (oneE_fst e) (oneE_snd (h e (by simp)))).mono (by omega)) l
theorem namesL_bnd (l : List Ev) : (∀ e ∈ l, GoodE e) → bndL (namesL l) (4653056 * l.length) := snoc_ind (p := fun l => (∀ e ∈ l, GoodE e) → bndL (namesL l) (4653056 * l.length)) (fun _ q hq => by simp [namesL] at hq) (fun l e ih h => by
  rw [namesL_snoc, List.length_append, List.length_singleton]
  have h3 := ih fun x hx => h x (by simp [hx])
  have h2 := keysE_len (h e (by simp))
  exact (bndL.addAll (oneE_fst e) (oneE_snd (h e (by simp))) (keysE e) h3 (by omega)).mono (by omega)) l
theorem upAt_get (z : List Int) (k j : Nat) (hk : k < z.length) : (upAt z k).getD j 0 = if j = k then z.getD k 0 + 1 else z.getD j 0 := by
  unfold upAt
  rw [List.getD_eq_getElem?_getD, List.getElem?_set]
  by_cases h : k = j
  · subst h; rw [if_pos rfl, if_pos hk, if_pos rfl]; rfl
  · rw [if_neg h, if_neg fun e => h e.symm, List.getD_eq_getElem?_getD]
theorem sizesL_bnd (l : List Ev) : (∀ e ∈ l, GoodE e) → ∀ k, 0 ≤ (sizesL l).getD k 0 ∧ (sizesL l).getD k 0 ≤ l.length := snoc_ind (p := fun l => (∀ e ∈ l, GoodE e) → ∀ k, 0 ≤ (sizesL l).getD k 0 ∧ (sizesL l).getD k 0 ≤ l.length) (fun _ k => by
    have e : (sizesL []) = List.replicate 18 0 := rfl
    rw [e, List.getD_eq_getElem?_getD, List.getElem?_replicate]
    split <;> simp) (fun l e ih h k => by
  have he := h e (by simp)
  have hb := blen_le he.bytes.1 he.bytes.2
  have h3 := ih fun x hx => h x (by simp [hx])
  rw [sizesL_snoc, upAt_get _ _ _ (by rw [sizesL_length]; omega), List.length_append, List.length_singleton]
  have h4 := h3 k
  have h5 := h3 (blen e.bytes)
  split <;> omega) l
theorem daysL_tot (l : List Ev) : (sumC ((daysL l).map (·.2))).1 = l.length := by rw [total_days, sumE_fst]

/-! ### rows of events -/
theorem flatE_get : ∀ {l : List EvM} {k : Nat} {m : EvM} (_ : l[k]? = some m) {j : Nat} {v : Value} (_ : (evL m)[j]? = some v), (l.flatMap evL)[k * 20 + j]? = some v
  | [], _, _, h, _, _, _ => by simp at h
  | y :: r, k, x, hx, j, v, hv => by
    have hy := evL_length y
    cases k with
    | zero =>
      obtain rfl : y = x := by simpa using hx
      have hj : j < 20 := by rw [← hy]; exact (List.getElem?_eq_some_iff.1 hv).1
      show (evL y ++ r.flatMap evL)[0 * 20 + j]? = some v
      rw [List.getElem?_append_left (by omega)]
      simpa using hv
    | succ k =>
      show (evL y ++ r.flatMap evL)[(k + 1) * 20 + j]? = some v
      rw [List.getElem?_append_right (by omega), hy, show (k + 1) * 20 + j - 20 = k * 20 + j by omega]
      exact flatE_get (by simpa using hx) hv
theorem flatE_length : ∀ l : List EvM, (l.flatMap evL).length = l.length * 20
  | [] => rfl
  | x :: r => by
    have ih := flatE_length r
    have hx := evL_length x
    simp only [List.flatMap_cons, List.length_append, List.length_cons] at ih ⊢
    omega
theorem one_flatE (l : List EvM) : ∀ u ∈ l.flatMap evL, u.oneCell' = true := fun u hu => by
  obtain ⟨x, _, h⟩ := List.mem_flatMap.1 hu
  exact one_evL x u h
theorem RdE.of_own {w : World} {base c : Nat} {e : TypeId} {A : Option Addr} {l : List EvM} (h : w.ownsRow base e 20 (.slice A l.length c) l.length (l.flatMap evL)) (hg : ∀ m ∈ l, GoodM w m) : RdE w A l := by
  refine ⟨fun hp => ?_, hg⟩
  rcases h.2 with ⟨e1, e2⟩ | ⟨g, cap, cur, e1, hb, hg, hcap, hml, hsz, ht⟩
  · omega
  · injection e1 with a1 a2 a3
    subst a1
    refine ⟨g, 0, rfl, blk_lt hg, fun j x hj t v hv => ?_⟩
    have h1 := flatE_get hj hv
    rw [Nat.zero_add, blk_cell hg]
    rw [← ht, List.getElem?_take] at h1
    split at h1
    · simpa using h1
    · cases h1
theorem ev_info : ∃ i, Tryz.prog.info? 51 = some i ∧ i.zero = some (.agg #[i64 0, .int .u8 0, .int .u8 0, .int .u8 0, .int .u8 0, .int .u8 0, .int .u8 0, .int .u8 0, .int .u8 0, .int .u8 0, .int .u8 0, .int .u8 0, .int .u8 0, .int .u8 0, .int .u8 0, .int .u8 0, .int .u8 0, .slice none 0 0, .slice none 0 0, i64 0]) ∧ i.size = 20 ∧ i.bytes = 80 := by
  obtain ⟨i, hi⟩ := Option.isSome_iff_exists.1 (show (Tryz.prog.info? 51).isSome = true by kernel_rfl)
  have h1 : (Tryz.prog.info? 51).bind (·.zero) = some (.agg #[i64 0, .int .u8 0, .int .u8 0, .int .u8 0, .int .u8 0, .int .u8 0, .int .u8 0, .int .u8 0, .int .u8 0, .int .u8 0, .int .u8 0, .int .u8 0, .int .u8 0, .int .u8 0, .int .u8 0, .int .u8 0, .int .u8 0, .slice none 0 0, .slice none 0 0, i64 0]) := by kernel_rfl
  have h2 : (Tryz.prog.info? 51).map (·.size) = some 20 := by kernel_rfl
  have h3 : (Tryz.prog.info? 51).map (·.bytes) = some 80 := by kernel_rfl
  rw [hi] at h1 h2 h3
  exact ⟨i, hi, h1, Option.some.inj h2, Option.some.inj h3⟩
end Go.Proofs.YthgefcoaaommkaaGreatDoor

namespace Go.Proofs.YthgefcoaaommkaaGreatDoor
open Go.RowKit Go.Gn Go.Sr Go.Maps

/-- A struct's load behind a guard that is met. -/
theorem wpList_load_mid_g {P : Program} {ops : Array Oper} {rest : List Oper} {op : Oper} {a : Act} {w : World} {Q : Exit → Act → World → Prop} (hw : Region.wanted op (yielded ops a.tmps) = true) (ty : TypeId) (x : Operand) (ho : op.op = .load ty x)
    (b o : Nat) (hx : a.eval x = .pointer (some ⟨b, o, none⟩)) (cs : List Value) (d : TypeDesc) (hc : w.rangeAt b o cs)
    (hu : P.underlying ty = some d) (hd : d.isRow = true) (hi : (P.info? ty).map (·.size) = some cs.length)
    (h : wpList P ops Q rest (a.put op.dst (.agg cs.toArray)) w) : wpList P ops Q (op :: rest) a w :=
  wpList_step fun K hK => by rw [if_pos hw]; exact wp_load_mid ty x ho b o hx cs d hc hu hd hi (hK _ _ h)
theorem run_buildEv (m : EvM) (w : World) : (Instr.buildSlice 22 1 #[(0, evA m)]).run Tryz.prog w = .ok (.slice (some ⟨w.heap.size, 0, none⟩) 1 1) (w.alloc (.cells (evL m).toArray 51)) := by
  obtain ⟨ev, ga, gc, sa, sc⟩ := m
  unfold evA evL
  kernel_rfl
theorem wpList_buildEv {ops : Array Oper} {rest : List Oper} {op : Oper} {a : Act} {w : World} {Q : Exit → Act → World → Prop} (hgd : op.guard = none) (x : Operand) (ho : op.op = .buildSlice 22 1 #[(0, x)]) (m : EvM) (hx : a.eval x = evA m)
    (h : wpList Tryz.prog ops Q rest (a.put op.dst (.slice (some ⟨w.heap.size, 0, none⟩) 1 1)) (w.alloc (.cells (evL m).toArray 51))) : wpList Tryz.prog ops Q (op :: rest) a w :=
  wpList_plain hgd fun _ hK => by
    have e : (#[(0, x)] : Array (Nat × Operand)).map (fun (q : Nat × Operand) => (q.1, a.eval q.2)) = #[(0, evA m)] := by simp [hx]
    unfold Oper.wp execOp
    simp only [ho, Sem.run_bind, Sem.run_pure, e, run_buildEv, Result.andThen_ok]
    exact hK _ _ h
theorem rdC_new (w : World) (ys : List Value) (t : TypeId) : RdC (w.alloc (.cells ys.toArray t)) (some ⟨w.heap.size, 0, none⟩) ys := fun _ => ⟨w.heap.size, 0, rfl, fun j u hj => by
  have hb : (w.alloc (.cells ys.toArray t)).heap[w.heap.size]? = some (.cells ys.toArray t (0, 0)) := blk_new w _
  rw [Nat.zero_add, blk_cell hb]; simpa using hj⟩
theorem own2_le {w : World} {base n c size : Nat} {e : TypeId} {A : Option Addr} {xs : List Value} (h : w.ownsRow base e size (.slice A n c) n xs) : n ≤ c := by
  rcases h.2 with ⟨e1, e2⟩ | ⟨g, cap, cur, e1, hb, hg, hcap, hml, hsz, ht⟩
  · omega
  · injection e1 with a1 a2 a3
    omega
def okE (m : EvM) : Bool := decide (chkE m.e = 0)
def okS (ms : List EvM) : List EvM := ms.filter okE
theorem okS_succ {ms : List EvM} {k : Nat} {m : EvM} (h : ms[k]? = some m) : okS (ms.take (k + 1)) = okS (ms.take k) ++ if chkE m.e = 0 then [m] else [] := by
  obtain ⟨hl, e⟩ := List.getElem?_eq_some_iff.1 h
  unfold okS
  rw [List.take_succ_eq_append_getElem hl, e, List.filter_append]
  by_cases hc : chkE m.e = 0
  · rw [if_pos hc, List.filter_cons, if_pos (by unfold okE; exact decide_eq_true hc), List.filter_nil]
  · rw [if_neg hc, List.filter_cons, if_neg (by unfold okE; simpa using hc), List.filter_nil]
theorem okS_good {ms : List EvM} : ∀ e ∈ (okS ms).map (·.e), GoodE e := fun e he => by
  obtain ⟨m, hm, rfl⟩ := List.mem_map.1 he
  exact chkE_zero (of_decide_eq_true (List.mem_filter.1 hm).2)
theorem okS_len (ms : List EvM) : (okS ms).length ≤ ms.length := List.length_filter_le _ _
theorem chkE_rng (e : Ev) : chkE e ≤ 12 := by
  unfold chkE
  have h1 : checkL e.groups ≤ 12 := by unfold checkL; split; omega; exact clGo_rng _ _
  have h2 := sitesGo_rng e.sites []
  split <;> (try split) <;> (try split) <;> (try split) <;> (try split) <;> (try split) <;> omega
/-- The statistics of events at p. -/
def StE (w : World) (p bd bn : Nat) (ms : List EvM) : Prop := StM w p bd bn (daysL (ms.map (·.e))) (namesL (ms.map (·.e))) (sizesL (ms.map (·.e)))
theorem RdE.sub {w : World} {A : Option Addr} {ms : List EvM} (h : RdE w A ms) {l : List EvM} (hl : ∀ m ∈ l, m ∈ ms) : ∀ m ∈ l, GoodM w m := fun m hm => h.good m (hl m hm)
theorem GoodM.low {u : World} {m : EvM} (hu : GoodM u m) : (0 < m.e.groups.length → ∀ b o, m.ga = some ⟨b, o, none⟩ → b < u.heap.size) ∧ (0 < m.e.sites.length → ∀ b o, m.sa = some ⟨b, o, none⟩ → b < u.heap.size) := by
  constructor
  · intro hl b o e
    obtain ⟨b2, o2, e2, h2, _⟩ := hu.rg hl
    rw [e] at e2; injection e2 with e2; injection e2 with e2; omega
  · intro hl b o e
    obtain ⟨b2, o2, e2, h2, _⟩ := hu.rs hl
    rw [e] at e2; injection e2 with e2; injection e2 with e2; omega
set_option maxRecDepth 100000 in
set_option maxHeartbeats 4000000 in
theorem build_any (A : Option Addr) (c : Nat) (ms : List EvM) (w : World) (h : RdE w A ms) (_hlc : ms.length ≤ c) (_hc : c ≤ maxLen) (hF : ∀ m ∈ ms, FewM m) (hlen : ms.length ≤ 40) (hE : Env w) :
    Calls Tryz.prog 11 #[.slice A ms.length c] w fun e w' => ∃ p bd bn A2 c2, e = .returned (.tuple #[.pointer (some ⟨p, 0, none⟩), .slice A2 (okS ms).length c2, .bool true]) ∧ StE w' p bd bn (okS ms) ∧ RdE w' A2 (okS ms) ∧ (okS ms).length ≤ c2 ∧ c2 ≤ maxLen ∧ Below w.heap.size w w' ∧ (w.heap.size ≤ p ∧ w.heap.size ≤ bd ∧ w.heap.size ≤ bn) ∧ ∀ a, A2 = some a → p < a.block ∧ bd < a.block ∧ bn < a.block := by
  have H := Lib.hid h
  have HF := Lib.hid hF
  have HE0 := Lib.hid hE
  obtain ⟨i0, hi, hz0, hz1, hz2⟩ := ev_info
  clear h hF hE
  go_enter Tryz.func11, Tryz.ntmps11
  go_wp2_with fail
  refine (new_any w).mono ?_; rintro e w1 ⟨p, bd, bn, rfl, hst, b1, hp0, hp1, hp2⟩
  have hlp := hst.lp
  have hld := hst.ld
  have hln := hst.ln
  have ST := Lib.hid hst
  have HB1 := Lib.hid b1
  clear hst b1
  go_wp2_with fail
  go_loopg [6, 7, 8] ms.length (fun gg ov iv _ wr => ∃ k : Nat, k ≤ ms.length ∧ ms.length - k ≤ gg ∧ iv = .int .i64 k ∧ Hid (wr.ownsRow w1.heap.size 51 20 ov (okS (ms.take k)).length ((okS (ms.take k)).flatMap evL)) ∧ Hid (StE wr p bd bn (okS (ms.take k))) ∧ Hid (Below w.heap.size w wr) ∧ w1.heap.size ≤ wr.heap.size)
  case atStart => exact ⟨0, by omega, by omega, rfl, Lib.hid (own2_nil _ _ _ _), ST, HB1, Nat.le_refl _⟩
  case round =>
    obtain ⟨k, hk, hgk, rfl, HO, HS, HB, hsz⟩ := hrel
    by_cases hlt : k < ms.length
    · obtain ⟨b, o, m, hA, hbl, hmk, hcell, hgm⟩ := H.out.at_ hlt
      subst hA
      have hsz0 : w.heap.size ≤ wr.heap.size := HB.out.size
      have HC0 := Lib.hid hcell
      have HG0 := Lib.hid hgm
      have HC := Lib.hid (range_below hcell HB.out)
      have HGM := Lib.hid (hgm.below HB.out)
      have HFM := Lib.hid (HF.out m (List.mem_of_getElem? hmk))
      have HOK := Lib.hid (okS_succ hmk)
      have HLOW := Lib.hid hgm.low
      have hck := mCheck_any m wr HGM.out HFM.out (HE0.out.below HB.out)
      clear hmk hcell hgm
      go_wp2_with (refine wpList_load_mid rfl 51 _ rfl b (o + k * 20) rfl (evL m) _ HC.out Tryz.underlying51 rfl (by rw [evL_length]; exact ev_size) ?_)
      refine hck.mono ?_; rintro e w2 ⟨rfl, b2⟩
      clear hck
      have HS2 := Lib.hid (StM.below HS.out b2)
      have HO2 := Lib.hid (own_below HO.out b2)
      have HC2 := Lib.hid (range_below HC.out b2)
      have HGM2 := Lib.hid (HGM.out.below b2)
      have HB2 := Lib.hid (HB.out.tr b2)
      have hsz2 : wr.heap.size ≤ w2.heap.size := b2.size
      have hn : (okS (ms.take k)).length ≤ 40 := by have := okS_len (ms.take k); rw [List.length_take] at this; omega
      have hmn : ((okS (ms.take k)).map (·.e)).length ≤ 40 := by rw [List.length_map]; exact hn
      clear b2 HO HS HC HGM HB
      by_cases hz : chkE m.e = 0
      · have HOK1 : Hid (okS (ms.take (k + 1)) = okS (ms.take k) ++ [m]) := Lib.hid (by have := HOK.out; rwa [if_pos hz] at this)
        have hz2 := sizesL_bnd _ (okS_good (ms := ms.take k))
        have hadd := add_yes p bd bn _ _ _ m w2 186122240 HGM2.out HFM.out (HE0.out.below HB2.out) HS2.out hz (by omega) (by omega) ((daysL_bnd _ okS_good).mono (by omega)) ((namesL_bnd _ okS_good).mono (by omega))
          ⟨fun hl q r e => by have := HLOW.out.1 hl q r e; omega, fun hl q r e => by have := HLOW.out.2 hl q r e; omega⟩ (fun j => by have := hz2 j; omega) (by have := daysL_len ((okS (ms.take k)).map (·.e)); omega) (by have := namesL_len _ (okS_good (ms := ms.take k)); omega) (by rw [daysL_tot]; omega)
        have hev := fun W hg hE => evCheck_any m W hg HFM.out hE
        rw [hz] at hev ⊢
        have HEV := Lib.hid hev
        clear hev hz2 hz HOK
        go_wp2_with (first | refine wpList_load_mid rfl 51 _ rfl b (o + k * 20) rfl (evL m) _ HC2.out Tryz.underlying51 rfl (by rw [evL_length]; exact ev_size) ?_)
        refine hadd.mono ?_; rintro e w3 ⟨rfl, hs3, b3⟩
        have b3b := b3.toBelow (B := w.heap.size) (by omega) (by simp; omega)
        have HB3 := Lib.hid (HB2.out.trans b3b)
        have HC3 := Lib.hid (range_below HC0.out HB3.out)
        have HO3 := Lib.hid (own_keep HO2.out fun q hq hb => b3.block q hq fun hin => by have := (HO2.out.lt q hb).1; simp at hin; omega)
        have HS3 : Hid (StE w3 p bd bn (okS (ms.take (k + 1)))) := Lib.hid (by (show StE w3 p bd bn (okS (ms.take (k + 1)))); rw [HOK1.out]; unfold StE; rw [List.map_append, List.map_singleton, daysL_snoc, namesL_snoc, sizesL_snoc]; exact hs3)
        have hev := HEV.out w3 (HG0.out.below HB3.out) (HE0.out.below HB3.out)
        have hsz3 : w2.heap.size ≤ w3.heap.size := b3.size
        clear hadd b3 b3b hs3 HS2 HO2 HC2 HGM2 HB2 HEV HFM HLOW
        go_wp2_with (first | refine wpList_load_mid_g (by rfl) 51 _ rfl b (o + k * 20) rfl (evL m) _ HC3.out Tryz.underlying51 rfl (by rw [evL_length]; exact ev_size) ?_)
        refine hev.mono ?_; rintro e w4 ⟨rfl, b4⟩
        have HB4 := Lib.hid (HB3.out.tr b4)
        have HC4 := Lib.hid (range_below HC3.out b4)
        have HO4 := Lib.hid (own_below HO3.out b4)
        have HS4 := Lib.hid (StM.below HS3.out b4)
        have hsz4 : w3.heap.size ≤ w4.heap.size := b4.size
        clear hev b4 HB3 HC3 HO3 HS3
        go_wp2_with (first | refine wpList_load_mid rfl 51 _ rfl b (o + k * 20) rfl (evL m) _ HC4.out Tryz.underlying51 rfl (by rw [evL_length]; exact ev_size) ?_ | refine wpList_buildEv rfl _ rfl m rfl ?_ | (at_builtin; refine wpList_appC Tryz.underlying22 hi hz0 hz1 hz2 rfl (by decide) _ rfl _ _ rfl w1.heap.size _ (okS (ms.take k)).length ((okS (ms.take k)).flatMap evL) (own_below HO4.out (below_new _ _)) rfl (some ⟨w4.heap.size, 0, none⟩) 1 1 (evL m) (evL_length m) (rdC_new _ _ _) rfl (one_evL m) (by omega) (by decide) (by simp; omega) ?_; intro v' w5 o5 g5 b5))
        have hb5 : Below w1.heap.size w4 w5 := (((below_new w4 (.cells (evL m).toArray 51)).mono (by omega)).trans b5)
        have HB5 := Lib.hid (HB4.out.trans (hb5.mono (by omega)))
        have HS5 := Lib.hid (StM.keep HS4.out (hb5.block p hlp) (hb5.block bd hld) (hb5.block bn hln))
        have HO5 : Hid (w5.ownsRow w1.heap.size 51 20 v' (okS (ms.take (k + 1))).length ((okS (ms.take (k + 1))).flatMap evL)) := Lib.hid (by (show w5.ownsRow w1.heap.size 51 20 v' (okS (ms.take (k + 1))).length ((okS (ms.take (k + 1))).flatMap evL)); rw [HOK1.out, List.length_append, List.length_singleton, List.flatMap_append, List.flatMap_singleton]; exact o5)
        have hsz5 : w1.heap.size ≤ w5.heap.size := by have := hb5.size; omega
        go_roundg (ms.length - (k + 1))
        case measure => omega
        case rel => exact ⟨k + 1, by omega, by omega, by go_num, HO5, HS5, HB5, hsz5⟩
      · have HOK1 : Hid (okS (ms.take (k + 1)) = okS (ms.take k)) := Lib.hid (by have := HOK.out; rwa [if_neg hz, List.append_nil] at this)
        have hadd := add_no p bd bn _ _ _ m w2 HGM2.out HFM.out (HE0.out.below HB2.out) HS2.out hz (chkE_rng _)
        have hev := fun W hg hE => evCheck_any m W hg HFM.out hE
        have hz12 := chkE_rng m.e
        obtain ⟨v, hv⟩ : ∃ q, chkE m.e = q := ⟨_, rfl⟩
        rw [hv] at hev hadd hz hz12 ⊢
        have hvb : ((v : Int) == 0) = false := by simp; omega
        have HEV := Lib.hid hev
        clear hev hz hv HOK
        go_wp2_with (first | refine wpList_load_mid rfl 51 _ rfl b (o + k * 20) rfl (evL m) _ HC2.out Tryz.underlying51 rfl (by rw [evL_length]; exact ev_size) ?_)
        refine hadd.mono ?_; rintro e w3 ⟨rfl, hs3, b3⟩
        have HB3 := Lib.hid (HB2.out.tr b3)
        have HC3 := Lib.hid (range_below HC0.out HB3.out)
        have HO3 := Lib.hid (own_below HO2.out b3)
        have HS3 : Hid (StE w3 p bd bn (okS (ms.take (k + 1)))) := Lib.hid (by (show StE w3 p bd bn (okS (ms.take (k + 1)))); rw [HOK1.out]; exact hs3)
        have hev := HEV.out w3 (HG0.out.below HB3.out) (HE0.out.below HB3.out)
        have hsz3 : w2.heap.size ≤ w3.heap.size := b3.size
        clear hadd b3 hs3 HS2 HO2 HC2 HGM2 HB2 HEV HFM HLOW
        go_wp2_with (first | refine wpList_load_mid_g (by rfl) 51 _ rfl b (o + k * 20) rfl (evL m) _ HC3.out Tryz.underlying51 rfl (by rw [evL_length]; exact ev_size) ?_)
        refine hev.mono ?_; rintro e w4 ⟨rfl, b4⟩
        have HB4 := Lib.hid (HB3.out.tr b4)
        have HO4 : Hid (w4.ownsRow w1.heap.size 51 20 u6 (okS (ms.take (k + 1))).length ((okS (ms.take (k + 1))).flatMap evL)) := Lib.hid (by (show w4.ownsRow w1.heap.size 51 20 u6 (okS (ms.take (k + 1))).length ((okS (ms.take (k + 1))).flatMap evL)); rw [HOK1.out]; exact own_below HO3.out b4)
        have HS4 := Lib.hid (StM.below HS3.out b4)
        have hsz4 : w1.heap.size ≤ w4.heap.size := by have := b4.size; omega
        clear hev b4 HB3 HC3 HO3 HS3
        go_wp2_with fail
        go_roundg (ms.length - (k + 1))
        case measure => omega
        case rel => exact ⟨k + 1, by omega, by omega, by go_num, HO4, HS4, HB4, hsz4⟩
    · obtain rfl : k = ms.length := by omega
      rw [List.take_length] at HO HS
      have HOO := Lib.hid HO.out
      obtain ⟨A2, c2, rfl⟩ := own2_slice HO.out
      go_wp2_with fail
      refine bodyPost_ret (v := .tuple #[.pointer (some ⟨p, 0, none⟩), .slice A2 (okS ms).length c2, .bool true]) (by simp [results, Tryz.results11, go_sem]) rfl ?_
      refine ⟨p, bd, bn, A2, c2, rfl, HS.out, RdE.of_own HO.out fun m hm => (H.out.good m (List.mem_filter.1 hm).1).below HB.out, own2_le HO.out, own2_cap HO.out, HB.out, ⟨hp0, hp1, hp2⟩, fun a ha => ?_⟩
      have := (HO.out.lt a.block (by rw [ha]; rfl)).1
      omega
end Go.Proofs.YthgefcoaaommkaaGreatDoor
