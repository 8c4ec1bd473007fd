/- Contracts: an event's names of a kind; the model's count of a name. -/
import Derived.Test.YthgefcoaaommkaaDoorStM
namespace Go.Proofs.YthgefcoaaommkaaDoor
open Go.RowKit Go.Gn Go.Sr Go.Maps

theorem not_mem_of {L : List (List UInt8)} {x : List UInt8} (h : ∀ j, j < L.length → L[j]? ≠ some x) : x ∉ L := fun hm => by
  obtain ⟨j, hj⟩ := List.getElem?_of_mem hm
  exact h j (List.getElem?_eq_some_iff.1 hj).1 hj
set_option maxRecDepth 100000 in
set_option maxHeartbeats 4000000 in
theorem has_any (m : EvM) (kind : Int) (name : List UInt8) (w : World) (hg : GoodM w m) : Calls Tryd.prog 22 #[evA m, i64 kind, enS name] w fun e w' => e = .returned (.bool (hasE m.e kind name)) ∧ Below w.heap.size w w' := by
  unfold evA evL
  have HG := Lib.hid hg
  clear hg
  obtain ⟨ev, ga, gc, sa, sc⟩ := m
  dsimp only
  have HGR : Hid (Rd w ga ev.groups) := Lib.hid HG.out.rg
  have HSR : Hid (Rd w sa ev.sites) := Lib.hid HG.out.rs
  have hgc : ev.groups.length ≤ gc := HG.out.gc
  have hsc : ev.sites.length ≤ sc := HG.out.sc
  have hsm : sc ≤ maxLen := HG.out.sl
  have hgm : gc ≤ maxLen := HG.out.gl
  have hau : ev.author.length = 16 := HG.out.au
  unfold maxLen at hsm hgm
  have HK := Lib.hid (blk_new w (.cells #[i64 ev.minute, auB ev.author 0, auB ev.author 1, auB ev.author 2, auB ev.author 3, auB ev.author 4, auB ev.author 5, auB ev.author 6, auB ev.author 7, auB ev.author 8, auB ev.author 9, auB ev.author 10, auB ev.author 11, auB ev.author 12, auB ev.author 13, auB ev.author 14, auB ev.author 15, .slice ga ev.groups.length gc, .slice sa ev.sites.length sc, i64 ev.bytes] 37))
  have HB0 := Lib.hid (below_new w (.cells #[i64 ev.minute, auB ev.author 0, auB ev.author 1, auB ev.author 2, auB ev.author 3, auB ev.author 4, auB ev.author 5, auB ev.author 6, auB ev.author 7, auB ev.author 8, auB ev.author 9, auB ev.author 10, auB ev.author 11, auB ev.author 12, auB ev.author 13, auB ev.author 14, auB ev.author 15, .slice ga ev.groups.length gc, .slice sa ev.sites.length sc, i64 ev.bytes] 37))
  clear HG
  by_cases hk3 : kind = 3
  · have V : Hid (hasE ev kind name = (decide (1 ≤ kind ∧ kind ≤ 3) && decide (name ∈ [hexT ev.author]))) := Lib.hid (by unfold hasE ofKind; rw [if_pos hk3])
    have hk2 : ¬ kind = 2 := by omega
    have HRG := Lib.hid (range_blk HK.out)
    have hbx := blk_lt HK.out
    subst hk3
    go_enter Tryd.func22, Tryd.ntmps22
    go_wp2_with fail
    refine (refAuthor_any ev.author _ hau).mono ?_; rintro e w1 ⟨rfl, b1⟩
    have HB2 := Lib.hid ((HB0.out.tr b1).tr (below_new w1 (.cells #[enS (hexT ev.author)] 9)))
    have c0 := blk_cell (blk_new w1 (.cells #[enS (hexT ev.author)] 9)) 0
    clear b1
    have HA : Hid (Rd (w1.alloc (.cells #[enS (hexT ev.author)] 9)) (some ⟨w1.heap.size, 0, none⟩) [hexT ev.author]) := Lib.hid (Rd.new w1 [hexT ev.author] 9)
    obtain ⟨L, hL⟩ : ∃ q, [hexT ev.author] = q := ⟨_, rfl⟩
    rw [hL] at HA V
    have hL1 : L.length = 1 := by rw [← hL]; rfl
    have ew : (Value.slice (some ⟨w1.heap.size, 0, none⟩) 1 1) = .slice (some ⟨w1.heap.size, 0, none⟩) L.length 1 := by rw [hL1]
    clear c0 hL
    go_wp2_with fail
    generalize w1.alloc (.cells #[enS (hexT ev.author)] 9) = wv at *

    go_loopg [8] L.length (fun gg iv wr => ∃ k : Nat, k ≤ L.length ∧ L.length - k ≤ gg ∧ iv = .int .i64 k ∧ wr = wv ∧ Hid (∀ j, j < k → L[j]? ≠ some name))
    case atStart => exact ⟨0, by omega, by omega, rfl, rfl, Lib.hid (by simp)⟩
    case round =>
      obtain ⟨k, hk, hgk, rfl, hwr, N⟩ := hrel
      subst hwr
      by_cases hlt : k < L.length
      · obtain ⟨b, o, x, hA, hbl, hxk, hcell⟩ := HA.out.at_ hlt
        try subst hA
        try cases hA
        try rw [Nat.zero_add] at hcell
        have HX := Lib.hid hxk
        clear hxk
        by_cases hxn : x = name
        · subst hxn
          have hv : hasE ev 3 x = decide (1 ≤ 3 ∧ 3 ≤ 3) := by rw [V.out]; simp [List.mem_of_getElem? HX.out]
          have HV := Lib.hid hv
          clear hv V HX
          go_wp2_with fail
          go_ret
          exact ⟨by rw [HV.out]; rfl, HB2.out⟩
        · have hxd : decide (x = name) = false := decide_eq_false hxn
          have HN : Hid (∀ j, j < k + 1 → L[j]? ≠ some name) := Lib.hid fun j hj e => by
            rcases (by omega : j < k ∨ j = k) with h | h
            · exact N.out j h e
            · subst h; rw [HX.out] at e; injection e with e; exact hxn e
          clear HX
          go_wp2_with fail
          iterate 3 (first | (focus (exfalso; rename_i hq; simp [hxn] at hq; done)) | (focus (exfalso; rename_i hq _; simp [hxn] at hq; done)) | (focus (exfalso; rename_i hq _ _; simp [] at hq; done)) | skip)
          go_roundg (L.length - (k + 1))
          case measure => omega
          case rel => exact ⟨k + 1, by omega, by omega, by go_num, rfl, HN⟩
      · obtain rfl : k = L.length := by omega
        have hv : hasE ev 3 name = false := by rw [V.out]; simp [not_mem_of N.out]
        have HV := Lib.hid hv
        clear hv V N
        go_wp2_with fail
        go_ret
        exact ⟨by rw [HV.out]; rfl, HB2.out⟩
  by_cases hk2 : kind = 2
  · have V : Hid (hasE ev kind name = (decide (1 ≤ kind ∧ kind ≤ 3) && decide (name ∈ ev.sites))) := Lib.hid (by unfold hasE ofKind; rw [if_neg hk3, if_pos hk2])
    subst hk2
    clear hk3
    have HA := Lib.hid (HSR.out.below HB0.out)
    have c18 := blk_cell HK.out 18
    have hbx := blk_lt HK.out
    clear HGR HSR
    go_enter Tryd.func22, Tryd.ntmps22
    go_wp2_with fail
    go_loopg [8] ev.sites.length (fun gg iv wr => ∃ k : Nat, k ≤ ev.sites.length ∧ ev.sites.length - k ≤ gg ∧ iv = .int .i64 k ∧ wr = w.alloc (.cells #[i64 ev.minute, auB ev.author 0, auB ev.author 1, auB ev.author 2, auB ev.author 3, auB ev.author 4, auB ev.author 5, auB ev.author 6, auB ev.author 7, auB ev.author 8, auB ev.author 9, auB ev.author 10, auB ev.author 11, auB ev.author 12, auB ev.author 13, auB ev.author 14, auB ev.author 15, .slice ga ev.groups.length gc, .slice sa ev.sites.length sc, i64 ev.bytes] 37) ∧ Hid (∀ j, j < k → ev.sites[j]? ≠ some name))
    case atStart => exact ⟨0, by omega, by omega, rfl, rfl, Lib.hid (by simp)⟩
    case round =>
      obtain ⟨k, hk, hgk, rfl, hwr, N⟩ := hrel
      subst hwr
      by_cases hlt : k < ev.sites.length
      · obtain ⟨b, o, x, hA, hbl, hxk, hcell⟩ := HA.out.at_ hlt
        try subst hA
        try cases hA
        try rw [Nat.zero_add] at hcell
        have HX := Lib.hid hxk
        clear hxk
        by_cases hxn : x = name
        · subst hxn
          have hv : hasE ev 2 x = decide (1 ≤ 2 ∧ 2 ≤ 3) := by rw [V.out]; simp [List.mem_of_getElem? HX.out]
          have HV := Lib.hid hv
          clear hv V HX
          go_wp2_with fail
          go_ret
          exact ⟨by rw [HV.out]; rfl, HB0.out⟩
        · have hxd : decide (x = name) = false := decide_eq_false hxn
          have HN : Hid (∀ j, j < k + 1 → ev.sites[j]? ≠ some name) := Lib.hid fun j hj e => by
            rcases (by omega : j < k ∨ j = k) with h | h
            · exact N.out j h e
            · subst h; rw [HX.out] at e; injection e with e; exact hxn e
          clear HX
          go_wp2_with fail
          iterate 3 (first | (focus (exfalso; rename_i hq; simp [hxn] at hq; done)) | (focus (exfalso; rename_i hq _; simp [] at hq; done)) | (focus (exfalso; rename_i hq _ _; simp [hxn] at hq; done)) | skip)
          go_roundg (ev.sites.length - (k + 1))
          case measure => omega
          case rel => exact ⟨k + 1, by omega, by omega, by go_num, rfl, HN⟩
      · obtain rfl : k = ev.sites.length := by omega
        have hv : hasE ev 2 name = false := by rw [V.out]; simp [not_mem_of N.out]
        have HV := Lib.hid hv
        clear hv V N
        go_wp2_with fail
        go_ret
        exact ⟨by rw [HV.out]; rfl, HB0.out⟩
  · have V : Hid (hasE ev kind name = (decide (1 ≤ kind ∧ kind ≤ 3) && decide (name ∈ ev.groups))) := Lib.hid (by unfold hasE ofKind; rw [if_neg hk3, if_neg hk2])
    have HA := Lib.hid (HGR.out.below HB0.out)
    have c17 := blk_cell HK.out 17
    have hbx := blk_lt HK.out
    clear HGR HSR
    go_enter Tryd.func22, Tryd.ntmps22
    go_wp2_with fail
    go_loopg [8] ev.groups.length (fun gg iv wr => ∃ k : Nat, k ≤ ev.groups.length ∧ ev.groups.length - k ≤ gg ∧ iv = .int .i64 k ∧ wr = w.alloc (.cells #[i64 ev.minute, auB ev.author 0, auB ev.author 1, auB ev.author 2, auB ev.author 3, auB ev.author 4, auB ev.author 5, auB ev.author 6, auB ev.author 7, auB ev.author 8, auB ev.author 9, auB ev.author 10, auB ev.author 11, auB ev.author 12, auB ev.author 13, auB ev.author 14, auB ev.author 15, .slice ga ev.groups.length gc, .slice sa ev.sites.length sc, i64 ev.bytes] 37) ∧ Hid (∀ j, j < k → ev.groups[j]? ≠ some name))
    case atStart => exact ⟨0, by omega, by omega, rfl, rfl, Lib.hid (by simp)⟩
    case round =>
      obtain ⟨k, hk, hgk, rfl, hwr, N⟩ := hrel
      subst hwr
      by_cases hlt : k < ev.groups.length
      · obtain ⟨b, o, x, hA, hbl, hxk, hcell⟩ := HA.out.at_ hlt
        try subst hA
        try cases hA
        try rw [Nat.zero_add] at hcell
        have HX := Lib.hid hxk
        clear hxk
        by_cases hxn : x = name
        · subst hxn
          have hv : hasE ev kind x = decide (1 ≤ kind ∧ kind ≤ 3) := by rw [V.out]; simp [List.mem_of_getElem? HX.out]
          have HV := Lib.hid hv
          clear hv V HX
          by_cases h1 : 1 ≤ kind
          · by_cases h3 : kind ≤ 3
            · go_wp2_with fail
              go_ret
              exact ⟨by rw [HV.out, decide_eq_true ⟨h1, h3⟩]; rfl, HB0.out⟩
            · go_wp2_with fail
              go_ret
              exact ⟨by rw [HV.out, decide_eq_false (by omega)]; rfl, HB0.out⟩
          · go_wp2_with fail
            go_ret
            exact ⟨by rw [HV.out, decide_eq_false (by omega)]; rfl, HB0.out⟩
        · have hxd : decide (x = name) = false := decide_eq_false hxn
          have HN : Hid (∀ j, j < k + 1 → ev.groups[j]? ≠ some name) := Lib.hid fun j hj e => by
            rcases (by omega : j < k ∨ j = k) with h | h
            · exact N.out j h e
            · subst h; rw [HX.out] at e; injection e with e; exact hxn e
          clear HX
          go_wp2_with fail
          iterate 3 (first | (focus (exfalso; rename_i hq; simp [hxn] at hq; done)) | (focus (exfalso; rename_i hq _; simp [hxn] at hq; done)) | (focus (exfalso; rename_i hq _ _; simp [hxn] at hq; done)) | skip)
          go_roundg (ev.groups.length - (k + 1))
          case measure => omega
          case rel => exact ⟨k + 1, by omega, by omega, by go_num, rfl, HN⟩
      · obtain rfl : k = ev.groups.length := by omega
        have hv : hasE ev kind name = false := by rw [V.out]; simp [not_mem_of N.out]
        have HV := Lib.hid hv
        clear hv V N
        go_wp2_with fail
        go_ret
        exact ⟨by rw [HV.out]; rfl, HB0.out⟩
end Go.Proofs.YthgefcoaaommkaaDoor
