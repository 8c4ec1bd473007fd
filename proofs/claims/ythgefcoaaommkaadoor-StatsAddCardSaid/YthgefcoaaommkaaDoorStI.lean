/- Contracts: the error of an event, of the code and of the model. -/
import Derived.Test.YthgefcoaaommkaaDoorStF
import Derived.Test.YthgefcoaaommkaaDoorStH
namespace Go.Proofs.YthgefcoaaommkaaDoor
open Go.RowKit Go.Gn Go.Sr Go.Maps

/-- The first error of the sites behind others. -/
def sitesGo (seen : List (List UInt8)) : List (List UInt8) → Nat
  | [] => 0
  | x :: r => if siteE x ≠ 0 then siteE x else if x ∈ seen then 7 else sitesGo (seen ++ [x]) r
/-- The error of an event. -/
def chkE (e : Ev) : Nat := if vld e.minute = false then 2 else if e.groups.length = 0 then 4 else if checkL e.groups ≠ 0 then checkL e.groups else if 50 < e.sites.length then 9 else if sitesGo [] e.sites ≠ 0 then sitesGo [] e.sites else if e.bytes < 0 ∨ 65536 < e.bytes then 2 else 0
theorem sitesGo_at {l : List (List UInt8)} {k : Nat} {x : List UInt8} (h : l[k]? = some x) : sitesGo (l.take k) (l.drop k) = if siteE x ≠ 0 then siteE x else if x ∈ l.take k then 7 else sitesGo (l.take (k + 1)) (l.drop (k + 1)) := by
  obtain ⟨hl, hx⟩ := List.getElem?_eq_some_iff.1 h
  rw [List.drop_eq_getElem_cons hl, hx, List.take_succ_eq_append_getElem hl, hx]
  rfl
theorem sitesGo_zero : ∀ (l seen : List (List UInt8)), sitesGo seen l = 0 → seen.Nodup → (seen ++ l).Nodup ∧ ∀ x ∈ l, siteE x = 0
  | [], seen, _, hn => by simpa using hn
  | x :: r, seen, h, hn => by
    unfold sitesGo at h
    split at h
    · rename_i h1; exact absurd h h1
    · rename_i h1
      split at h
      · cases h
      · rename_i h2
        have hn' : (seen ++ [x]).Nodup := List.nodup_append.2 ⟨hn, by simp, fun a ha b hb => by simp at hb; subst hb; intro e; subst e; exact h2 ha⟩
        obtain ⟨i1, i2⟩ := sitesGo_zero r (seen ++ [x]) h hn'
        refine ⟨by simpa using i1, fun y hy => ?_⟩
        rcases List.mem_cons.1 hy with rfl | hy
        · exact Classical.byContradiction h1
        · exact i2 y hy
theorem clGo_nodup : ∀ (l seen : List (List UInt8)), clGo seen l = 0 → seen.Nodup → (seen ++ l).Nodup
  | [], seen, _, hn => by simpa using hn
  | x :: r, seen, h, hn => by
    unfold clGo at h
    split at h
    · rename_i h1; exact absurd h h1
    · split at h
      · cases h
      · rename_i h2
        have hn' : (seen ++ [x]).Nodup := List.nodup_append.2 ⟨hn, by simp, fun a ha b hb => by simp at hb; subst hb; intro e; subst e; exact h2 ha⟩
        simpa using clGo_nodup r (seen ++ [x]) h hn'
/-- What an event without an error is. -/
structure GoodE (e : Ev) : Prop where
  minute : 0 ≤ e.minute ∧ e.minute ≤ 105190559
  groups : ∀ x ∈ e.groups, check x = 0
  sites : ∀ x ∈ e.sites, siteE x = 0
  apart : Apart e
  bytes : 0 ≤ e.bytes ∧ e.bytes ≤ 65536
  ng : 0 < e.groups.length ∧ e.groups.length ≤ 20
  ns : e.sites.length ≤ 50
theorem chkE_zero {e : Ev} (h : chkE e = 0) : GoodE e := by
  unfold chkE at h
  by_cases h1 : vld e.minute = false
  · rw [if_pos h1] at h; cases h
  rw [if_neg h1] at h
  by_cases h2 : e.groups.length = 0
  · rw [if_pos h2] at h; cases h
  rw [if_neg h2] at h
  by_cases h3 : checkL e.groups ≠ 0
  · rw [if_pos h3] at h; exact absurd h h3
  rw [if_neg h3] at h
  have h3 := Classical.byContradiction h3
  by_cases h4 : 50 < e.sites.length
  · rw [if_pos h4] at h; cases h
  rw [if_neg h4] at h
  by_cases h5 : sitesGo [] e.sites ≠ 0
  · rw [if_pos h5] at h; exact absurd h h5
  rw [if_neg h5] at h
  have h5 := Classical.byContradiction h5
  by_cases h6 : e.bytes < 0 ∨ 65536 < e.bytes
  · rw [if_pos h6] at h; cases h
  have hc := checkL_zero h3
  have hs := sitesGo_zero e.sites [] h5 (by simp)
  have hg : clGo [] e.groups = 0 := by unfold checkL at h3; rw [if_neg (by omega)] at h3; exact h3
  exact ⟨vld_true (by cases hv : vld e.minute with | true => rfl | false => exact absurd hv h1), hc.2, hs.2, ⟨by simpa using clGo_nodup e.groups [] hg (by simp), by simpa using hs.1⟩, by omega, by omega, by omega⟩
theorem sitesGo_rng : ∀ (l seen : List (List UInt8)), sitesGo seen l ≤ 12
  | [], _ => by simp [sitesGo]
  | x :: r, seen => by
    unfold sitesGo
    have hs : siteE x ≤ 12 := by unfold siteE; split <;> (try split) <;> (try split) <;> (try split) <;> omega
    split
    · exact hs
    · split
      · omega
      · exact sitesGo_rng r _
/-- Moderate lists. -/
structure FewM (m : EvM) : Prop where
  ng : m.e.groups.length ≤ 30
  ns : m.e.sites.length ≤ 80
  lg : ∀ x ∈ m.e.groups, x.length ≤ 4000
  ls : ∀ x ∈ m.e.sites, x.length ≤ 4000
set_option maxRecDepth 100000 in
set_option maxHeartbeats 4000000 in
theorem evCheck_any (m : EvM) (w : World) (hg : GoodM w m) (hf : FewM m) (hE : Env w) : Calls Tryd.prog 20 #[evA m] w fun e w' => e = .returned (.int .i64 (chkE m.e : Nat)) ∧ Below w.heap.size w w' := by
  unfold evA evL
  have HG := Lib.hid hg
  have HFW := Lib.hid hf
  have HE0 := Lib.hid hE
  clear hg hf hE
  obtain ⟨ev, ga, gc, sa, sc⟩ := m
  dsimp only
  have hng : ev.groups.length ≤ 30 := HFW.out.ng
  have hns : ev.sites.length ≤ 80 := HFW.out.ns
  have HGR : Hid (Rd w ga ev.groups) := Lib.hid HG.out.rg
  have HSR : Hid (Rd w sa ev.sites) := Lib.hid HG.out.rs
  have HLG : Hid (∀ x ∈ ev.groups, x.length ≤ 4000) := Lib.hid HFW.out.lg
  have HLS : Hid (∀ x ∈ ev.sites, x.length ≤ 4000) := Lib.hid HFW.out.ls
  have hgc : ev.groups.length ≤ gc := HG.out.gc
  have hsc : ev.sites.length ≤ sc := HG.out.sc
  have hsm : sc ≤ maxLen := HG.out.sl
  unfold maxLen at hsm
  clear HG HFW
  by_cases hv : vld ev.minute = false
  · have V : Hid (chkE ev = 2) := by (show chkE ev = 2); unfold chkE; rw [if_pos hv]
    have hm2 : ev.minute < 0 ∨ 105190559 < ev.minute := by unfold vld at hv; simp at hv; omega
    generalize chkE ev = v at *
    clear hv
    rcases hm2 with hm2 | hm2
    · go_enter Tryd.func20, Tryd.ntmps20
      go_wp2_with fail
      all_goals first | (exfalso; omega) | skip
      all_goals
        go_ret
        exact ⟨by rw [V.out]; rfl, below_new _ _⟩
    · have hm3 : ¬ ev.minute < 0 := by omega
      go_enter Tryd.func20, Tryd.ntmps20
      go_wp2_with fail
      all_goals first | (exfalso; omega) | skip
      all_goals
        go_ret
        exact ⟨by rw [V.out]; rfl, below_new _ _⟩
  have hmv := vld_true (by cases hq : vld ev.minute with | true => rfl | false => exact absurd hq hv)
  obtain ⟨hm0, hm1⟩ := hmv
  have hm2 : ¬ ev.minute < 0 := by omega
  have hm3 : ¬ 105190559 < ev.minute := by omega
  by_cases h0 : ev.groups.length = 0
  · have V : Hid (chkE ev = 4) := by (show chkE ev = 4); unfold chkE; rw [if_neg hv, if_pos h0]
    generalize chkE ev = v at *
    clear hv
    have hfl := formatList_any ga gc ev.groups _ (HE0.out.below (below_new w (.cells #[i64 ev.minute, auB ev.author 0, auB ev.author 1, auB ev.author 2, auB ev.author 3, auB ev.author 4, auB ev.author 5, auB ev.author 6, auB ev.author 7, auB ev.author 8, auB ev.author 9, auB ev.author 10, auB ev.author 11, auB ev.author 12, auB ev.author 13, auB ev.author 14, auB ev.author 15, .slice ga ev.groups.length gc, .slice sa ev.sites.length sc, i64 ev.bytes] 37))) (HGR.out.below (below_new w (.cells #[i64 ev.minute, auB ev.author 0, auB ev.author 1, auB ev.author 2, auB ev.author 3, auB ev.author 4, auB ev.author 5, auB ev.author 6, auB ev.author 7, auB ev.author 8, auB ev.author 9, auB ev.author 10, auB ev.author 11, auB ev.author 12, auB ev.author 13, auB ev.author 14, auB ev.author 15, .slice ga ev.groups.length gc, .slice sa ev.sites.length sc, i64 ev.bytes] 37))) hgc (by omega) (fun x hx => by have := HLG.out x hx; omega)
    rw [if_pos h0, h0] at hfl
    go_enter Tryd.func20, Tryd.ntmps20
    go_wp2_with fail
    refine hfl.mono ?_; rintro e w1 ⟨rfl, b1⟩
    clear hfl
    go_wp2_with fail
    go_ret
    exact ⟨by rw [V.out]; rfl, (below_new _ _).tr b1⟩
  obtain ⟨L, hL⟩ : ∃ q, checkL ev.groups = q := ⟨_, rfl⟩
  have hLr : L ≤ 12 := by rw [← hL]; unfold checkL; split; omega; exact clGo_rng _ _
  by_cases hL0 : L = 0
  case neg =>
    have V : Hid (chkE ev = L) := by (show chkE ev = L); unfold chkE; rw [if_neg hv, if_neg h0, hL, if_pos hL0]
    generalize chkE ev = v at *
    clear hv
    have hfl := formatList_any ga gc ev.groups _ (HE0.out.below (below_new w (.cells #[i64 ev.minute, auB ev.author 0, auB ev.author 1, auB ev.author 2, auB ev.author 3, auB ev.author 4, auB ev.author 5, auB ev.author 6, auB ev.author 7, auB ev.author 8, auB ev.author 9, auB ev.author 10, auB ev.author 11, auB ev.author 12, auB ev.author 13, auB ev.author 14, auB ev.author 15, .slice ga ev.groups.length gc, .slice sa ev.sites.length sc, i64 ev.bytes] 37))) (HGR.out.below (below_new w (.cells #[i64 ev.minute, auB ev.author 0, auB ev.author 1, auB ev.author 2, auB ev.author 3, auB ev.author 4, auB ev.author 5, auB ev.author 6, auB ev.author 7, auB ev.author 8, auB ev.author 9, auB ev.author 10, auB ev.author 11, auB ev.author 12, auB ev.author 13, auB ev.author 14, auB ev.author 15, .slice ga ev.groups.length gc, .slice sa ev.sites.length sc, i64 ev.bytes] 37))) hgc (by omega) (fun x hx => by have := HLG.out x hx; omega)
    rw [if_neg h0, hL] at hfl
    clear hL
    go_enter Tryd.func20, Tryd.ntmps20
    go_wp2_with fail
    refine hfl.mono ?_; rintro e w1 ⟨rfl, b1⟩
    clear hfl
    have hlb : ((L : Int) != 0) = true := by simp; omega
    go_wp2_with fail
    go_ret
    exact ⟨by rw [V.out]; rfl, (below_new _ _).tr b1⟩
  case pos =>
    subst hL0
    have hfl := formatList_any ga gc ev.groups _ (HE0.out.below (below_new w (.cells #[i64 ev.minute, auB ev.author 0, auB ev.author 1, auB ev.author 2, auB ev.author 3, auB ev.author 4, auB ev.author 5, auB ev.author 6, auB ev.author 7, auB ev.author 8, auB ev.author 9, auB ev.author 10, auB ev.author 11, auB ev.author 12, auB ev.author 13, auB ev.author 14, auB ev.author 15, .slice ga ev.groups.length gc, .slice sa ev.sites.length sc, i64 ev.bytes] 37))) (HGR.out.below (below_new w (.cells #[i64 ev.minute, auB ev.author 0, auB ev.author 1, auB ev.author 2, auB ev.author 3, auB ev.author 4, auB ev.author 5, auB ev.author 6, auB ev.author 7, auB ev.author 8, auB ev.author 9, auB ev.author 10, auB ev.author 11, auB ev.author 12, auB ev.author 13, auB ev.author 14, auB ev.author 15, .slice ga ev.groups.length gc, .slice sa ev.sites.length sc, i64 ev.bytes] 37))) hgc (by omega) (fun x hx => by have := HLG.out x hx; omega)
    rw [if_neg h0, hL] at hfl
    clear hLr
    have V0 : Hid (chkE ev = if 50 < ev.sites.length then 9 else if sitesGo [] ev.sites ≠ 0 then sitesGo [] ev.sites else if ev.bytes < 0 ∨ 65536 < ev.bytes then 2 else 0) := by (show chkE ev = _); unfold chkE; rw [if_neg hv, if_neg h0, hL, if_neg (by simp)]
    generalize chkE ev = v at *
    clear hv hL
    go_enter Tryd.func20, Tryd.ntmps20
    go_wp2_with fail
    refine hfl.mono ?_; rintro e w1 ⟨rfl, b1⟩
    clear hfl
    have HK := Lib.hid (blk_below b1 (blk_new w (.cells #[i64 ev.minute, auB ev.author 0, auB ev.author 1, auB ev.author 2, auB ev.author 3, auB ev.author 4, auB ev.author 5, auB ev.author 6, auB ev.author 7, auB ev.author 8, auB ev.author 9, auB ev.author 10, auB ev.author 11, auB ev.author 12, auB ev.author 13, auB ev.author 14, auB ev.author 15, .slice ga ev.groups.length gc, .slice sa ev.sites.length sc, i64 ev.bytes] 37)))
    have B1 := Lib.hid ((below_new w (.cells #[i64 ev.minute, auB ev.author 0, auB ev.author 1, auB ev.author 2, auB ev.author 3, auB ev.author 4, auB ev.author 5, auB ev.author 6, auB ev.author 7, auB ev.author 8, auB ev.author 9, auB ev.author 10, auB ev.author 11, auB ev.author 12, auB ev.author 13, auB ev.author 14, auB ev.author 15, .slice ga ev.groups.length gc, .slice sa ev.sites.length sc, i64 ev.bytes] 37)).tr b1)
    clear b1
    have hbx := blk_lt HK.out
    have k0 := blk_cell HK.out 18
    by_cases h50 : 50 < ev.sites.length
    · have V1 : Hid (v = 9) := by (show v = 9); rw [V0.out, if_pos h50]
      go_wp2_with fail
      go_ret
      exact ⟨by rw [V1.out]; rfl, B1.out⟩
    have V1 : Hid (v = if sitesGo [] ev.sites ≠ 0 then sitesGo [] ev.sites else if ev.bytes < 0 ∨ 65536 < ev.bytes then 2 else 0) := by (show v = _); rw [V0.out, if_neg h50]
    clear V0
    go_wp2_with fail
    clear k0
    go_loopg [5, 6, 7, 8, 33] ev.sites.length (fun gg _ _ _ _ iv wr => ∃ k : Nat, k ≤ ev.sites.length ∧ ev.sites.length - k ≤ gg ∧ iv = .int .i64 k ∧ Hid (Below w1.heap.size w1 wr) ∧ Hid (sitesGo [] ev.sites = sitesGo (ev.sites.take k) (ev.sites.drop k)))
    case atStart => exact ⟨0, by omega, by omega, rfl, Lib.hid (Below.refl _ _), Lib.hid (by simp)⟩
    case round =>
      obtain ⟨k, hk, hgk, rfl, B2, G2⟩ := hrel
      obtain ⟨wo, hwo⟩ : ∃ wo : World, wo = wr := ⟨_, rfl⟩
      subst hwo
      have HK2 := Lib.hid (blk_below B2.out HK.out)
      have hbx2 := blk_lt HK2.out
      have k18 := blk_cell HK2.out 18
      have B3 := Lib.hid (B1.out.tr B2.out)
      by_cases hlt : k < ev.sites.length
      · obtain ⟨b, oa, x, hsa, hbl, hxk, hcell⟩ := (HSR.out.below B3.out).at_ hlt
        subst hsa
        have hga := sitesGo_at hxk
        have hxl := HLS.out x (List.mem_of_getElem? hxk)
        rw [← G2.out] at hga
        have HGA := Lib.hid hga
        have HX := Lib.hid hxk
        clear hga hxk
        have hst := site_any x wo (by unfold maxLen; omega)
        obtain ⟨SX, hSX⟩ : ∃ q, siteE x = q := ⟨_, rfl⟩
        rw [hSX] at hst HGA
        have hSr : SX ≤ 12 := by rw [← hSX]; unfold siteE; split <;> (try split) <;> (try split) <;> (try split) <;> omega
        clear hSX
        by_cases hS0 : SX = 0
        case neg =>
          have hz : sitesGo [] ev.sites = SX := by rw [HGA.out, if_pos hS0]
          have V2 : Hid (v = SX) := by (show v = _); rw [V1.out, if_pos (by rw [hz]; exact hS0), hz]
          have hlb : ((SX : Int) != 0) = true := by simp; omega
          clear V1 hz HGA
          go_wp2_with fail
          refine hst.mono ?_; rintro e w2 ⟨⟨at_, rfl⟩, rfl⟩
          go_wp2_with fail
          go_ret
          exact ⟨by rw [V2.out]; rfl, B3.out⟩
        subst hS0
        have etk : (ev.sites.take k).length = k := by rw [List.length_take]; omega
        have hct := contains_any (some ⟨b, oa, none⟩) sc (ev.sites.take k) x wo ((HSR.out.below B3.out).take k) (by omega)
        rw [etk] at hct
        by_cases hin : x ∈ ev.sites.take k
        · have hz : sitesGo [] ev.sites = 7 := by rw [HGA.out, if_neg (by simp), if_pos hin]
          have V2 : Hid (v = 7) := by (show v = _); rw [V1.out, if_pos (by rw [hz]; simp), hz]
          rw [decide_eq_true hin] at hct
          clear V1 hz HGA hin
          go_wp2_with fail
          refine hst.mono ?_; rintro e w2 ⟨⟨at_, rfl⟩, rfl⟩
          go_wp2_with fail
          refine hct.mono ?_; rintro e w2 ⟨rfl, rfl⟩
          go_wp2_with fail
          go_ret
          exact ⟨by rw [V2.out]; rfl, B3.out⟩
        · have hz : sitesGo [] ev.sites = sitesGo (ev.sites.take (k + 1)) (ev.sites.drop (k + 1)) := by rw [HGA.out, if_neg (by simp), if_neg hin]
          have HZ := Lib.hid hz
          rw [decide_eq_false hin] at hct
          clear hz HGA hin
          go_wp2_with fail
          refine hst.mono ?_; rintro e w2 ⟨⟨at_, rfl⟩, rfl⟩
          go_wp2_with fail
          refine hct.mono ?_; rintro e w2 ⟨rfl, rfl⟩
          go_wp2_with fail
          go_roundg (ev.sites.length - (k + 1))
          case measure => omega
          case rel => exact ⟨k + 1, by omega, by omega, by go_num, B2, HZ⟩
      · obtain rfl : k = ev.sites.length := by omega
        have hz : sitesGo [] ev.sites = 0 := by rw [G2.out, List.take_length, List.drop_length]; rfl
        have V2 : Hid (v = if ev.bytes < 0 ∨ 65536 < ev.bytes then 2 else 0) := by (show v = _); rw [V1.out, if_neg (by rw [hz]; simp)]
        have k19 := blk_cell HK2.out 19
        clear V1 hz G2
        by_cases hb0 : ev.bytes < 0
        · have V3 : Hid (v = 2) := by (show v = 2); rw [V2.out, if_pos (.inl hb0)]
          go_wp2_with fail
          all_goals first | (exfalso; omega) | skip
          all_goals
            go_ret
            exact ⟨by rw [V3.out]; rfl, B3.out⟩
        by_cases hb1 : 65536 < ev.bytes
        · have V3 : Hid (v = 2) := by (show v = 2); rw [V2.out, if_pos (.inr hb1)]
          go_wp2_with fail
          all_goals first | (exfalso; omega) | skip
          all_goals
            go_ret
            exact ⟨by rw [V3.out]; rfl, B3.out⟩
        have V3 : Hid (v = 0) := by (show v = 0); rw [V2.out, if_neg (by omega)]
        go_wp2_with fail
        all_goals first | (exfalso; omega) | skip
        all_goals
          go_ret
          exact ⟨by rw [V3.out]; rfl, B3.out⟩
set_option maxRecDepth 100000 in
set_option maxHeartbeats 4000000 in
theorem mCheck_any (m : EvM) (w : World) (hg : GoodM w m) (hf : FewM m) (hE : Env w) : Calls Tryd.prog 19 #[evA m] w fun e w' => e = .returned (.int .i64 (chkE m.e : Nat)) ∧ Below w.heap.size w w' := by
  unfold evA evL
  have HG := Lib.hid hg
  have HFW := Lib.hid hf
  have HE0 := Lib.hid hE
  clear hg hf hE
  obtain ⟨ev, ga, gc, sa, sc⟩ := m
  dsimp only
  have hng : ev.groups.length ≤ 30 := HFW.out.ng
  have hns : ev.sites.length ≤ 80 := HFW.out.ns
  have HGR : Hid (Rd w ga ev.groups) := Lib.hid HG.out.rg
  have HSR : Hid (Rd w sa ev.sites) := Lib.hid HG.out.rs
  have HLG : Hid (∀ x ∈ ev.groups, x.length ≤ 4000) := Lib.hid HFW.out.lg
  have HLS : Hid (∀ x ∈ ev.sites, x.length ≤ 4000) := Lib.hid HFW.out.ls
  have hgc : ev.groups.length ≤ gc := HG.out.gc
  have hsc : ev.sites.length ≤ sc := HG.out.sc
  have hsm : sc ≤ maxLen := HG.out.sl
  unfold maxLen at hsm
  clear HG HFW
  by_cases hv : vld ev.minute = false
  · have V : Hid (chkE ev = 2) := by (show chkE ev = 2); unfold chkE; rw [if_pos hv]
    have hm2 : ev.minute < 0 ∨ 105190559 < ev.minute := by unfold vld at hv; simp at hv; omega
    generalize chkE ev = v at *
    clear hv
    rcases hm2 with hm2 | hm2
    · go_enter Tryd.func19, Tryd.ntmps19
      go_wp2_with fail
      all_goals first | (exfalso; omega) | skip
      all_goals
        go_ret
        exact ⟨by rw [V.out]; rfl, below_new _ _⟩
    · have hm3 : ¬ ev.minute < 0 := by omega
      go_enter Tryd.func19, Tryd.ntmps19
      go_wp2_with fail
      all_goals first | (exfalso; omega) | skip
      all_goals
        go_ret
        exact ⟨by rw [V.out]; rfl, below_new _ _⟩
  have hmv := vld_true (by cases hq : vld ev.minute with | true => rfl | false => exact absurd hq hv)
  obtain ⟨hm0, hm1⟩ := hmv
  have hm2 : ¬ ev.minute < 0 := by omega
  have hm3 : ¬ 105190559 < ev.minute := by omega
  by_cases h0 : ev.groups.length = 0
  · have V : Hid (chkE ev = 4) := by (show chkE ev = 4); unfold chkE; rw [if_neg hv, if_pos h0]
    generalize chkE ev = v at *
    clear hv
    go_enter Tryd.func19, Tryd.ntmps19
    go_wp2_with fail
    go_ret
    exact ⟨by rw [V.out]; rfl, below_new _ _⟩
  obtain ⟨L, hL⟩ : ∃ q, checkL ev.groups = q := ⟨_, rfl⟩
  have hLr : L ≤ 12 := by rw [← hL]; unfold checkL; split; omega; exact clGo_rng _ _
  by_cases hL0 : L = 0
  case neg =>
    have V : Hid (chkE ev = L) := by (show chkE ev = L); unfold chkE; rw [if_neg hv, if_neg h0, hL, if_pos hL0]
    generalize chkE ev = v at *
    clear hv
    have hfl := refCheckList_any ga gc ev.groups _ (HGR.out.below (below_new w (.cells #[i64 ev.minute, auB ev.author 0, auB ev.author 1, auB ev.author 2, auB ev.author 3, auB ev.author 4, auB ev.author 5, auB ev.author 6, auB ev.author 7, auB ev.author 8, auB ev.author 9, auB ev.author 10, auB ev.author 11, auB ev.author 12, auB ev.author 13, auB ev.author 14, auB ev.author 15, .slice ga ev.groups.length gc, .slice sa ev.sites.length sc, i64 ev.bytes] 37))) (by omega) (fun x hx => by have := HLG.out x hx; omega)
    rw [hL] at hfl
    clear hL
    go_enter Tryd.func19, Tryd.ntmps19
    go_wp2_with fail
    refine hfl.mono ?_; rintro e w1 ⟨rfl, b1⟩
    clear hfl
    have hlb : ((L : Int) != 0) = true := by simp; omega
    go_wp2_with fail
    go_ret
    exact ⟨by rw [V.out]; rfl, (below_new _ _).tr b1⟩
  case pos =>
    subst hL0
    have hfl := refCheckList_any ga gc ev.groups _ (HGR.out.below (below_new w (.cells #[i64 ev.minute, auB ev.author 0, auB ev.author 1, auB ev.author 2, auB ev.author 3, auB ev.author 4, auB ev.author 5, auB ev.author 6, auB ev.author 7, auB ev.author 8, auB ev.author 9, auB ev.author 10, auB ev.author 11, auB ev.author 12, auB ev.author 13, auB ev.author 14, auB ev.author 15, .slice ga ev.groups.length gc, .slice sa ev.sites.length sc, i64 ev.bytes] 37))) (by omega) (fun x hx => by have := HLG.out x hx; omega)
    rw [hL] at hfl
    clear hLr
    have V0 : Hid (chkE ev = if 50 < ev.sites.length then 9 else if sitesGo [] ev.sites ≠ 0 then sitesGo [] ev.sites else if ev.bytes < 0 ∨ 65536 < ev.bytes then 2 else 0) := by (show chkE ev = _); unfold chkE; rw [if_neg hv, if_neg h0, hL, if_neg (by simp)]
    generalize chkE ev = v at *
    clear hv hL
    go_enter Tryd.func19, Tryd.ntmps19
    go_wp2_with fail
    refine hfl.mono ?_; rintro e w1 ⟨rfl, b1⟩
    clear hfl
    have HK := Lib.hid (blk_below b1 (blk_new w (.cells #[i64 ev.minute, auB ev.author 0, auB ev.author 1, auB ev.author 2, auB ev.author 3, auB ev.author 4, auB ev.author 5, auB ev.author 6, auB ev.author 7, auB ev.author 8, auB ev.author 9, auB ev.author 10, auB ev.author 11, auB ev.author 12, auB ev.author 13, auB ev.author 14, auB ev.author 15, .slice ga ev.groups.length gc, .slice sa ev.sites.length sc, i64 ev.bytes] 37)))
    have B1 := Lib.hid ((below_new w (.cells #[i64 ev.minute, auB ev.author 0, auB ev.author 1, auB ev.author 2, auB ev.author 3, auB ev.author 4, auB ev.author 5, auB ev.author 6, auB ev.author 7, auB ev.author 8, auB ev.author 9, auB ev.author 10, auB ev.author 11, auB ev.author 12, auB ev.author 13, auB ev.author 14, auB ev.author 15, .slice ga ev.groups.length gc, .slice sa ev.sites.length sc, i64 ev.bytes] 37)).tr b1)
    clear b1
    have hbx := blk_lt HK.out
    have k0 := blk_cell HK.out 18
    by_cases h50 : 50 < ev.sites.length
    · have V1 : Hid (v = 9) := by (show v = 9); rw [V0.out, if_pos h50]
      go_wp2_with fail
      go_ret
      exact ⟨by rw [V1.out]; rfl, B1.out⟩
    have V1 : Hid (v = if sitesGo [] ev.sites ≠ 0 then sitesGo [] ev.sites else if ev.bytes < 0 ∨ 65536 < ev.bytes then 2 else 0) := by (show v = _); rw [V0.out, if_neg h50]
    clear V0
    go_wp2_with fail
    clear k0
    go_loopg [4, 5, 6, 7] ev.sites.length (fun gg iv _ _ _ wr => ∃ k : Nat, k ≤ ev.sites.length ∧ ev.sites.length - k ≤ gg ∧ iv = .int .i64 k ∧ Hid (Below w1.heap.size w1 wr) ∧ Hid (sitesGo [] ev.sites = sitesGo (ev.sites.take k) (ev.sites.drop k)))
    case atStart => exact ⟨0, by omega, by omega, rfl, Lib.hid (Below.refl _ _), Lib.hid (by simp)⟩
    case round =>
      obtain ⟨k, hk, hgk, rfl, B2, G2⟩ := hrel
      obtain ⟨wo, hwo⟩ : ∃ wo : World, wo = wr := ⟨_, rfl⟩
      subst hwo
      have HK2 := Lib.hid (blk_below B2.out HK.out)
      have hbx2 := blk_lt HK2.out
      have k18 := blk_cell HK2.out 18
      have B3 := Lib.hid (B1.out.tr B2.out)
      by_cases hlt : k < ev.sites.length
      · obtain ⟨b, oa, x, hsa, hbl, hxk, hcell⟩ := (HSR.out.below B3.out).at_ hlt
        subst hsa
        have hga := sitesGo_at hxk
        have hxl := HLS.out x (List.mem_of_getElem? hxk)
        rw [← G2.out] at hga
        have HGA := Lib.hid hga
        have HX := Lib.hid hxk
        clear hga hxk
        have hst := refSite_any x wo (by unfold maxLen; omega)
        obtain ⟨SX, hSX⟩ : ∃ q, siteE x = q := ⟨_, rfl⟩
        rw [hSX] at hst HGA
        have hSr : SX ≤ 12 := by rw [← hSX]; unfold siteE; split <;> (try split) <;> (try split) <;> (try split) <;> omega
        clear hSX
        by_cases hS0 : SX = 0
        case neg =>
          have hz : sitesGo [] ev.sites = SX := by rw [HGA.out, if_pos hS0]
          have V2 : Hid (v = SX) := by (show v = _); rw [V1.out, if_pos (by rw [hz]; exact hS0), hz]
          have hlb : ((SX : Int) != 0) = true := by simp; omega
          clear V1 hz HGA
          go_wp2_with fail
          refine hst.mono ?_; rintro e w2 ⟨⟨at_, rfl⟩, rfl⟩
          go_wp2_with fail
          go_ret
          exact ⟨by rw [V2.out]; rfl, B3.out⟩
        subst hS0
        go_wp2_with fail
        refine hst.mono ?_; rintro e w2 ⟨⟨at_, rfl⟩, rfl⟩
        clear hst
        go_wp2_with fail
        go_loopg [7] k (fun gg nv wr2 => ∃ n : Nat, n ≤ k ∧ k - n ≤ gg ∧ nv = .int .i64 n ∧ Hid (Below w1.heap.size w1 wr2) ∧ Hid (∀ j, j < n → ev.sites[j]? ≠ some x))
        case atStart => exact ⟨0, by omega, by omega, rfl, B2, Lib.hid (by simp)⟩
        case round =>
          obtain ⟨n, hn, hgn, rfl, B4, N4⟩ := hrel
          obtain ⟨wi, hwi⟩ : ∃ wi : World, wi = wr := ⟨_, rfl⟩
          subst hwi
          clear hcell hbx2 k18 HK2
          by_cases hlt2 : n < k
          · have B5 := Lib.hid (B1.out.tr B4.out)
            have HKD := Lib.hid (blk_below B4.out HK.out)
            obtain ⟨b', oa', x', hsa', hbl', hxk', hcell'⟩ := (HSR.out.below B5.out).at_ hlt
            obtain ⟨b2, oa2, y, hsa2, hbl2, hyk, hcell2⟩ := (HSR.out.below B5.out).at_ (k := n) (by omega)
            cases hsa'
            cases hsa2
            obtain rfl : x' = x := by have := HX.out.symm.trans hxk'; injection this with this; exact this.symm
            have B4' := Lib.hid (B4.out.drew)
            have HKD2 := Lib.hid (blk_below (Below.refl _ _).drew HKD.out)
            have HCX : Hid ((World.drew wi).cell? ⟨b, oa + k, none⟩ = some (enS x')) := Lib.hid hcell'
            have HCY : Hid ((World.drew wi).cell? ⟨b, oa + n, none⟩ = some (enS y)) := Lib.hid hcell2
            have HYK := Lib.hid hyk
            clear hxk' hyk hcell' hcell2 HKD B4 B5
            go_wp2_with fail
            refine Flow.wp_region_segs Flow.Later Flow.Later.refl Flow.Later.trans [] [0, 1, 2, 3, 4, 5, 6, 7, 8, 9, 10] (by kernel_rfl) (by kernel_rfl) ?_
            generalize World.drew wi = wd at *
            have qb : ∀ t : Flow.Cls (Flow.Later wd), t.val.cell? ⟨w.heap.size, 18, none⟩ = some (.slice (some ⟨b, oa, none⟩) ev.sites.length sc) := fun t => Flow.cls_cell (blk_cell HKD2.out 18) t
            have qx : ∀ t : Flow.Cls (Flow.Later wd), t.val.cell? ⟨b, oa + k, none⟩ = some (enS x') := fun t => Flow.cls_cell HCX.out t
            have qy : ∀ t : Flow.Cls (Flow.Later wd), t.val.cell? ⟨b, oa + n, none⟩ = some (enS y) := fun t => Flow.cls_cell HCY.out t
            haveI nonE := Flow.cls_nonempty wd
            rw [Flow.wpSegs_nil]
            simp only [Flow.pick, List.getElem?_toArray, List.getElem?_cons_succ, List.getElem?_cons_zero]
            repeat go_big_quiet_step (fail)
            refine wpQuiet_nil ?_
            clear nonE qb qx qy
            have BD := Lib.hid (B1.out.tr B4'.out)
            by_cases hxy : y = x'
            · subst hxy
              have hin : y ∈ ev.sites.take k := List.mem_iff_getElem?.2 ⟨n, by rw [List.getElem?_take, if_pos hlt2]; exact HYK.out⟩
              have hz : sitesGo [] ev.sites = 7 := by rw [HGA.out, if_neg (by simp), if_pos hin]
              have V2 : Hid (v = 7) := by (show v = _); rw [V1.out, if_pos (by rw [hz]; simp), hz]
              clear V1 hz HGA hin
              go_wp2_with fail
              all_goals first | (exfalso; rename_i hq; simp at hq; done) | skip
              all_goals
                go_ret
                exact ⟨by rw [V2.out]; rfl, BD.out⟩
            · have N5 : Hid (∀ j, j < n + 1 → ev.sites[j]? ≠ some x') := Lib.hid fun j hj h => by
                rcases Nat.lt_or_ge j n with h2 | h2
                · exact N4.out j h2 h
                · have e : j = n := by omega
                  subst e
                  rw [HYK.out] at h
                  injection h with h
                  exact hxy h
              go_wp2_with fail
              all_goals first | (exfalso; rename_i hq; simp [hxy] at hq; done) | skip
              all_goals
                go_roundg (k - (n + 1))
                case measure => omega
                case rel => exact ⟨n + 1, by omega, by omega, by go_num, B4', N5⟩
          · obtain rfl : n = k := by omega
            have hnin : x ∉ ev.sites.take n := fun h => by
              obtain ⟨j, hj⟩ := List.mem_iff_getElem?.1 h
              rw [List.getElem?_take] at hj
              split at hj
              · exact N4.out j (by assumption) hj
              · cases hj
            have hz : sitesGo [] ev.sites = sitesGo (ev.sites.take (n + 1)) (ev.sites.drop (n + 1)) := by rw [HGA.out, if_neg (by simp), if_neg hnin]
            have HZ := Lib.hid hz
            clear hz HGA hnin
            go_wp2_with fail
            go_roundg (ev.sites.length - (n + 1))
            case measure => omega
            case rel => exact ⟨n + 1, by omega, by omega, by go_num, B4, HZ⟩
      · obtain rfl : k = ev.sites.length := by omega
        have hz : sitesGo [] ev.sites = 0 := by rw [G2.out, List.take_length, List.drop_length]; rfl
        have V2 : Hid (v = if ev.bytes < 0 ∨ 65536 < ev.bytes then 2 else 0) := by (show v = _); rw [V1.out, if_neg (by rw [hz]; simp)]
        have k19 := blk_cell HK2.out 19
        clear V1 hz G2
        by_cases hb0 : ev.bytes < 0
        · have V3 : Hid (v = 2) := by (show v = 2); rw [V2.out, if_pos (.inl hb0)]
          go_wp2_with fail
          all_goals first | (exfalso; omega) | skip
          all_goals
            go_ret
            exact ⟨by rw [V3.out]; rfl, B3.out⟩
        by_cases hb1 : 65536 < ev.bytes
        · have V3 : Hid (v = 2) := by (show v = 2); rw [V2.out, if_pos (.inr hb1)]
          go_wp2_with fail
          all_goals first | (exfalso; omega) | skip
          all_goals
            go_ret
            exact ⟨by rw [V3.out]; rfl, B3.out⟩
        have V3 : Hid (v = 0) := by (show v = 0); rw [V2.out, if_neg (by omega)]
        go_wp2_with fail
        all_goals first | (exfalso; omega) | skip
        all_goals
          go_ret
          exact ⟨by rw [V3.out]; rfl, B3.out⟩
end Go.Proofs.YthgefcoaaommkaaDoor
