/- Contracts: an event's names of a kind; the model's count of a name.
   Contract: the model's count of a name from a day to a day.
   Contract: the sizes of statistics.
   Contract: the example of the document.
   The counts of names are those of the model.
   Rows cut in two and put together again around a new element: slices of a slice, append as an operation of a region.
   Arrays of numbers as values: compared. -/
import Derived.Test.YthgefcoaaommkaaGreatDoorZd
import Derived.Stop.BytesEq
namespace Go.Proofs.YthgefcoaaommkaaGreatDoor
open Go.RowKit Go.Gn Go.Sr Go.Maps

theorem not_mem_of {L : List (List UInt8)} {x : List UInt8} (h : ∀ j, j < L.length → L[j]? ≠ some x) : x ∉ L := fun hm => by
  obtain ⟨j, hj⟩ := List.getElem?_of_mem hm
  exact h j (List.getElem?_eq_some_iff.1 hj).1 hj
set_option maxRecDepth 100000 in
set_option maxHeartbeats 4000000 in
theorem has_any (m : EvM) (kind : Int) (name : List UInt8) (w : World) (hg : GoodM w m) : Calls Tryz.prog 59 #[evA m, i64 kind, enS name] w fun e w' => e = .returned (.bool (hasE m.e kind name)) ∧ Below w.heap.size w w' := by
  unfold evA evL
  have HG := Lib.hid hg
  clear hg
  obtain ⟨ev, ga, gc, sa, sc⟩ := m
  dsimp only
  have HGR : Hid (Rd w ga ev.groups) := Lib.hid HG.out.rg
  have HSR : Hid (Rd w sa ev.sites) := Lib.hid HG.out.rs
  have hgc : ev.groups.length ≤ gc := HG.out.gc
  have hsc : ev.sites.length ≤ sc := HG.out.sc
  have hsm : sc ≤ maxLen := HG.out.sl
  have hgm : gc ≤ maxLen := HG.out.gl
  have hau : ev.author.length = 16 := HG.out.au
  unfold maxLen at hsm hgm
  have HK := Lib.hid (blk_new w (.cells #[i64 ev.minute, auB ev.author 0, auB ev.author 1, auB ev.author 2, auB ev.author 3, auB ev.author 4, auB ev.author 5, auB ev.author 6, auB ev.author 7, auB ev.author 8, auB ev.author 9, auB ev.author 10, auB ev.author 11, auB ev.author 12, auB ev.author 13, auB ev.author 14, auB ev.author 15, .slice ga ev.groups.length gc, .slice sa ev.sites.length sc, i64 ev.bytes] 51))
  have HB0 := Lib.hid (below_new w (.cells #[i64 ev.minute, auB ev.author 0, auB ev.author 1, auB ev.author 2, auB ev.author 3, auB ev.author 4, auB ev.author 5, auB ev.author 6, auB ev.author 7, auB ev.author 8, auB ev.author 9, auB ev.author 10, auB ev.author 11, auB ev.author 12, auB ev.author 13, auB ev.author 14, auB ev.author 15, .slice ga ev.groups.length gc, .slice sa ev.sites.length sc, i64 ev.bytes] 51))
  clear HG
  by_cases hk3 : kind = 3
  · have V : Hid (hasE ev kind name = (decide (1 ≤ kind ∧ kind ≤ 3) && decide (name ∈ [hexT ev.author]))) := Lib.hid (by unfold hasE ofKind; rw [if_pos hk3])
    have hk2 : ¬ kind = 2 := by omega
    have HRG := Lib.hid (range_blk HK.out)
    have hbx := blk_lt HK.out
    subst hk3
    go_enter Tryz.func59, Tryz.ntmps59
    go_wp2_with fail
    refine (refAuthor_any ev.author _ hau).mono ?_; rintro e w1 ⟨rfl, b1⟩
    have HB2 := Lib.hid ((HB0.out.tr b1).tr (below_new w1 (.cells #[enS (hexT ev.author)] 9)))
    have c0 := blk_cell (blk_new w1 (.cells #[enS (hexT ev.author)] 9)) 0
    clear b1
    have HA : Hid (Rd (w1.alloc (.cells #[enS (hexT ev.author)] 9)) (some ⟨w1.heap.size, 0, none⟩) [hexT ev.author]) := Lib.hid (Rd.new w1 [hexT ev.author] 9)
    obtain ⟨L, hL⟩ : ∃ q, [hexT ev.author] = q := ⟨_, rfl⟩
    rw [hL] at HA V
    have hL1 : L.length = 1 := by rw [← hL]; rfl
    have ew : (Value.slice (some ⟨w1.heap.size, 0, none⟩) 1 1) = .slice (some ⟨w1.heap.size, 0, none⟩) L.length 1 := by rw [hL1]
    clear c0 hL
    go_wp2_with fail
    generalize w1.alloc (.cells #[enS (hexT ev.author)] 9) = wv at *

    go_loopg [8] L.length (fun gg iv wr => ∃ k : Nat, k ≤ L.length ∧ L.length - k ≤ gg ∧ iv = .int .i64 k ∧ wr = wv ∧ Hid (∀ j, j < k → L[j]? ≠ some name))
    case atStart => exact ⟨0, by omega, by omega, rfl, rfl, Lib.hid (by simp)⟩
    case round =>
      obtain ⟨k, hk, hgk, rfl, hwr, N⟩ := hrel
      subst hwr
      by_cases hlt : k < L.length
      · obtain ⟨b, o, x, hA, hbl, hxk, hcell⟩ := HA.out.at_ hlt
        try subst hA
        try cases hA
        try rw [Nat.zero_add] at hcell
        have HX := Lib.hid hxk
        clear hxk
        by_cases hxn : x = name
        · subst hxn
          have hv : hasE ev 3 x = decide (1 ≤ 3 ∧ 3 ≤ 3) := by rw [V.out]; simp [List.mem_of_getElem? HX.out]
          have HV := Lib.hid hv
          clear hv V HX
          go_wp2_with fail
          go_ret
          exact ⟨by rw [HV.out]; rfl, HB2.out⟩
        · have hxd : decide (x = name) = false := decide_eq_false hxn
          have HN : Hid (∀ j, j < k + 1 → L[j]? ≠ some name) := Lib.hid fun j hj e => by
            rcases (by omega : j < k ∨ j = k) with h | h
            · exact N.out j h e
            · subst h; rw [HX.out] at e; injection e with e; exact hxn e
          clear HX
          go_wp2_with fail
          iterate 3 (first | (focus (exfalso; rename_i hq; simp [hxn] at hq; done)) | (focus (exfalso; rename_i hq _; simp [hxn] at hq; done)) | (focus (exfalso; rename_i hq _ _; simp [] at hq; done)) | skip)
          go_roundg (L.length - (k + 1))
          case measure => omega
          case rel => exact ⟨k + 1, by omega, by omega, by go_num, rfl, HN⟩
      · obtain rfl : k = L.length := by omega
        have hv : hasE ev 3 name = false := by rw [V.out]; simp [not_mem_of N.out]
        have HV := Lib.hid hv
        clear hv V N
        go_wp2_with fail
        go_ret
        exact ⟨by rw [HV.out]; rfl, HB2.out⟩
  by_cases hk2 : kind = 2
  · have V : Hid (hasE ev kind name = (decide (1 ≤ kind ∧ kind ≤ 3) && decide (name ∈ ev.sites))) := Lib.hid (by unfold hasE ofKind; rw [if_neg hk3, if_pos hk2])
    subst hk2
    clear hk3
    have HA := Lib.hid (HSR.out.below HB0.out)
    have c18 := blk_cell HK.out 18
    have hbx := blk_lt HK.out
    clear HGR HSR
    go_enter Tryz.func59, Tryz.ntmps59
    go_wp2_with fail
    go_loopg [8] ev.sites.length (fun gg iv wr => ∃ k : Nat, k ≤ ev.sites.length ∧ ev.sites.length - k ≤ gg ∧ iv = .int .i64 k ∧ wr = w.alloc (.cells #[i64 ev.minute, auB ev.author 0, auB ev.author 1, auB ev.author 2, auB ev.author 3, auB ev.author 4, auB ev.author 5, auB ev.author 6, auB ev.author 7, auB ev.author 8, auB ev.author 9, auB ev.author 10, auB ev.author 11, auB ev.author 12, auB ev.author 13, auB ev.author 14, auB ev.author 15, .slice ga ev.groups.length gc, .slice sa ev.sites.length sc, i64 ev.bytes] 51) ∧ Hid (∀ j, j < k → ev.sites[j]? ≠ some name))
    case atStart => exact ⟨0, by omega, by omega, rfl, rfl, Lib.hid (by simp)⟩
    case round =>
      obtain ⟨k, hk, hgk, rfl, hwr, N⟩ := hrel
      subst hwr
      by_cases hlt : k < ev.sites.length
      · obtain ⟨b, o, x, hA, hbl, hxk, hcell⟩ := HA.out.at_ hlt
        try subst hA
        try cases hA
        try rw [Nat.zero_add] at hcell
        have HX := Lib.hid hxk
        clear hxk
        by_cases hxn : x = name
        · subst hxn
          have hv : hasE ev 2 x = decide (1 ≤ 2 ∧ 2 ≤ 3) := by rw [V.out]; simp [List.mem_of_getElem? HX.out]
          have HV := Lib.hid hv
          clear hv V HX
          go_wp2_with fail
          go_ret
          exact ⟨by rw [HV.out]; rfl, HB0.out⟩
        · have hxd : decide (x = name) = false := decide_eq_false hxn
          have HN : Hid (∀ j, j < k + 1 → ev.sites[j]? ≠ some name) := Lib.hid fun j hj e => by
            rcases (by omega : j < k ∨ j = k) with h | h
            · exact N.out j h e
            · subst h; rw [HX.out] at e; injection e with e; exact hxn e
          clear HX
          go_wp2_with fail
          iterate 3 (first | (focus (exfalso; rename_i hq; simp [hxn] at hq; done)) | (focus (exfalso; rename_i hq _; simp [] at hq; done)) | (focus (exfalso; rename_i hq _ _; simp [hxn] at hq; done)) | skip)
          go_roundg (ev.sites.length - (k + 1))
          case measure => omega
          case rel => exact ⟨k + 1, by omega, by omega, by go_num, rfl, HN⟩
      · obtain rfl : k = ev.sites.length := by omega
        have hv : hasE ev 2 name = false := by rw [V.out]; simp [not_mem_of N.out]
        have HV := Lib.hid hv
        clear hv V N
        go_wp2_with fail
        go_ret
        exact ⟨by rw [HV.out]; rfl, HB0.out⟩
  · have V : Hid (hasE ev kind name = (decide (1 ≤ kind ∧ kind ≤ 3) && decide (name ∈ ev.groups))) := Lib.hid (by unfold hasE ofKind; rw [if_neg hk3, if_neg hk2])
    have HA := Lib.hid (HGR.out.below HB0.out)
    have c17 := blk_cell HK.out 17
    have hbx := blk_lt HK.out
    clear HGR HSR
    go_enter Tryz.func59, Tryz.ntmps59
    go_wp2_with fail
    go_loopg [8] ev.groups.length (fun gg iv wr => ∃ k : Nat, k ≤ ev.groups.length ∧ ev.groups.length - k ≤ gg ∧ iv = .int .i64 k ∧ wr = w.alloc (.cells #[i64 ev.minute, auB ev.author 0, auB ev.author 1, auB ev.author 2, auB ev.author 3, auB ev.author 4, auB ev.author 5, auB ev.author 6, auB ev.author 7, auB ev.author 8, auB ev.author 9, auB ev.author 10, auB ev.author 11, auB ev.author 12, auB ev.author 13, auB ev.author 14, auB ev.author 15, .slice ga ev.groups.length gc, .slice sa ev.sites.length sc, i64 ev.bytes] 51) ∧ Hid (∀ j, j < k → ev.groups[j]? ≠ some name))
    case atStart => exact ⟨0, by omega, by omega, rfl, rfl, Lib.hid (by simp)⟩
    case round =>
      obtain ⟨k, hk, hgk, rfl, hwr, N⟩ := hrel
      subst hwr
      by_cases hlt : k < ev.groups.length
      · obtain ⟨b, o, x, hA, hbl, hxk, hcell⟩ := HA.out.at_ hlt
        try subst hA
        try cases hA
        try rw [Nat.zero_add] at hcell
        have HX := Lib.hid hxk
        clear hxk
        by_cases hxn : x = name
        · subst hxn
          have hv : hasE ev kind x = decide (1 ≤ kind ∧ kind ≤ 3) := by rw [V.out]; simp [List.mem_of_getElem? HX.out]
          have HV := Lib.hid hv
          clear hv V HX
          by_cases h1 : 1 ≤ kind
          · by_cases h3 : kind ≤ 3
            · go_wp2_with fail
              go_ret
              exact ⟨by rw [HV.out, decide_eq_true ⟨h1, h3⟩]; rfl, HB0.out⟩
            · go_wp2_with fail
              go_ret
              exact ⟨by rw [HV.out, decide_eq_false (by omega)]; rfl, HB0.out⟩
          · go_wp2_with fail
            go_ret
            exact ⟨by rw [HV.out, decide_eq_false (by omega)]; rfl, HB0.out⟩
        · have hxd : decide (x = name) = false := decide_eq_false hxn
          have HN : Hid (∀ j, j < k + 1 → ev.groups[j]? ≠ some name) := Lib.hid fun j hj e => by
            rcases (by omega : j < k ∨ j = k) with h | h
            · exact N.out j h e
            · subst h; rw [HX.out] at e; injection e with e; exact hxn e
          clear HX
          go_wp2_with fail
          iterate 3 (first | (focus (exfalso; rename_i hq; simp [hxn] at hq; done)) | (focus (exfalso; rename_i hq _; simp [hxn] at hq; done)) | (focus (exfalso; rename_i hq _ _; simp [hxn] at hq; done)) | skip)
          go_roundg (ev.groups.length - (k + 1))
          case measure => omega
          case rel => exact ⟨k + 1, by omega, by omega, by go_num, rfl, HN⟩
      · obtain rfl : k = ev.groups.length := by omega
        have hv : hasE ev kind name = false := by rw [V.out]; simp [not_mem_of N.out]
        have HV := Lib.hid hv
        clear hv V N
        go_wp2_with fail
        go_ret
        exact ⟨by rw [HV.out]; rfl, HB0.out⟩
end Go.Proofs.YthgefcoaaommkaaGreatDoor

namespace Go.Proofs.YthgefcoaaommkaaGreatDoor
open Go.RowKit Go.Gn Go.Sr Go.Maps

def pickE (kind : Int) (name : List UInt8) (a b : Int) (e : Ev) : Bool := (decide (a ≤ dayE e) && decide (dayE e ≤ b)) && (decide (name = []) || hasE e kind name)
def ofM (kind : Int) (name : List UInt8) (a b : Int) (ms : List EvM) : C := sumE ((ms.map (·.e)).filter (pickE kind name a b))
theorem ofM_succ {ms : List EvM} {k : Nat} {m : EvM} (h : ms[k]? = some m) (kind : Int) (name : List UInt8) (a b : Int) : ofM kind name a b (ms.take (k + 1)) = plus (ofM kind name a b (ms.take k)) (if pickE kind name a b m.e then oneE m.e else (0, 0)) := by
  obtain ⟨hl, e⟩ := List.getElem?_eq_some_iff.1 h
  unfold ofM
  rw [List.take_succ_eq_append_getElem hl, e, List.map_append, List.filter_append]
  unfold sumE
  rw [List.map_append, sumC_append, List.map_singleton]
  cases hp : pickE kind name a b m.e
  · rw [List.filter_cons, if_neg (by rw [hp]; simp), if_neg Bool.false_ne_true]; rfl
  · rw [List.filter_cons, if_pos hp, if_pos rfl, List.filter_nil, List.map_singleton, sumC_cons, sumC_nil, plus_zero]
theorem sumE_snd : ∀ (l : List Ev), (∀ e ∈ l, GoodE e) → 0 ≤ (sumE l).2 ∧ (sumE l).2 ≤ 65536 * l.length
  | [], _ => by simp [sumE, sumC_nil]
  | e :: r, h => by
    have ih := sumE_snd r fun x hx => h x (by simp [hx])
    have he := (h e (by simp)).bytes
    unfold sumE at ih ⊢
    rw [List.map_cons, sumC_cons]
    simp only [plus, oneE, List.length_cons]
    omega
theorem ofM_bnd {ms : List EvM} (hg : ∀ m ∈ ms, GoodE m.e) (kind : Int) (name : List UInt8) (a b : Int) : 0 ≤ (ofM kind name a b ms).1 ∧ (ofM kind name a b ms).1 ≤ ms.length ∧ 0 ≤ (ofM kind name a b ms).2 ∧ (ofM kind name a b ms).2 ≤ 65536 * ms.length := by
  unfold ofM
  have h1 := sumE_fst ((ms.map (·.e)).filter (pickE kind name a b))
  have h2 := sumE_snd ((ms.map (·.e)).filter (pickE kind name a b)) fun e he => by
    obtain ⟨m, hm, rfl⟩ := List.mem_map.1 (List.mem_filter.1 he).1
    exact hg m hm
  have h3 := List.length_filter_le (pickE kind name a b) (ms.map (·.e))
  rw [List.length_map] at h3
  omega
set_option maxRecDepth 100000 in
set_option maxHeartbeats 4000000 in
theorem mOf_any (A : Option Addr) (c : Nat) (ms : List EvM) (kind : Int) (name : List UInt8) (x y : Int) (w : World) (h : RdE w A ms) (hg : ∀ m ∈ ms, GoodE m.e) (_hlc : ms.length ≤ c) (_hc : c ≤ maxLen) (hlen : ms.length ≤ 1000) :
    Calls Tryz.prog 20 #[.slice A ms.length c, i64 kind, enS name, i64 x, i64 y] w fun e w' => e = .returned (cV (ofM kind name x y ms)) ∧ Below w.heap.size w w' := by
  have H := Lib.hid h
  have HG := Lib.hid hg
  clear h hg
  have S1 : Hid (SumW w ((w.alloc (.cells #[i64 0, i64 0] 34)).alloc (.cells #[i64 0, i64 0] 34)) (0, 0)) := Lib.hid ⟨blk_below (below_new _ _) (blk_new _ _), by have := blk_new (w.alloc (.cells #[i64 0, i64 0] 34)) (.cells #[i64 0, i64 0] 34); simpa using this, (below_new _ _).tr (below_new _ _)⟩
  go_enter Tryz.func20, Tryz.ntmps20
  go_wp2_with fail
  go_loopg [12] ms.length (fun gg iv wr => ∃ k : Nat, k ≤ ms.length ∧ ms.length - k ≤ gg ∧ iv = .int .i64 k ∧ Hid (SumW w wr (ofM kind name x y (ms.take k))))
  case atStart => exact ⟨0, by omega, by omega, rfl, by simpa [ofM, sumE, sumC_nil] using S1⟩
  case round =>
    obtain ⟨k, hk, hgk, rfl, S⟩ := hrel
    have hbn := ofM_bnd (ms := ms.take k) (fun m hm => HG.out m (List.mem_of_mem_take hm)) kind name x y
    rw [List.length_take] at hbn
    obtain ⟨s, hs⟩ : ∃ q, ofM kind name x y (ms.take k) = q := ⟨_, rfl⟩
    rw [hs] at hbn S
    obtain ⟨s1, s2⟩ := s
    simp only at hbn
    obtain ⟨hs0, hs1, hs2, hs3⟩ := hbn
    have hs1' : s1 ≤ 1000 := by omega
    have hs3' : s2 ≤ 65536000 := by omega
    clear hs1 hs3
    have HSUM := Lib.hid hs
    clear hs
    by_cases hlt : k < ms.length
    · obtain ⟨b, o, m, hA, hbl, hmk, hcell, hgm⟩ := H.out.at_ hlt
      subst hA
      have HE := Lib.hid (HG.out m (List.mem_of_getElem? hmk))
      have hsn := ofM_succ hmk kind name x y
      rw [HSUM.out] at hsn
      have HSN := Lib.hid hsn
      have HC0 := Lib.hid hcell
      have HG0 := Lib.hid hgm
      have HC := Lib.hid (range_below hcell S.out.bel)
      have hd0 : 0 ≤ m.e.minute := HE.out.minute.1
      have hd1 : m.e.minute ≤ 1000000000000 := by have := HE.out.minute.2; omega
      have hby : 0 ≤ m.e.bytes ∧ m.e.bytes ≤ 65536 := HE.out.bytes
      have hday := fun W => day_any m W hd0 hd1
      have hpk : pickE kind name x y m.e = ((decide (x ≤ dayE m.e) && decide (dayE m.e ≤ y)) && (decide (name = []) || hasE m.e kind name)) := rfl
      obtain ⟨d, hd⟩ : ∃ q, dayE m.e = q := ⟨_, rfl⟩
      simp only [hd] at hday hpk
      have HD := Lib.hid hday
      have HPK := Lib.hid hpk
      clear hmk hcell hgm hsn hday hpk hd hd0 hd1 HE
      by_cases ha : x ≤ d
      case neg =>
        have had : decide (x ≤ d) = false := decide_eq_false ha
        go_wp2_with (first | refine wpList_load_mid rfl 51 _ rfl b (o + k * 20) rfl (evL m) _ HC.out Tryz.underlying51 rfl (by rw [evL_length]; exact ev_size) ?_)
        refine (HD.out _).mono ?_; rintro e w2 ⟨rfl, b2⟩
        have S2 := Lib.hid (S.out.tr b2)
        have HC2 := Lib.hid (range_below HC0.out S2.out.bel)
        clear b2 S HC
        have HSK : Hid (ofM kind name x y (ms.take (k + 1)) = (s1, s2)) := Lib.hid (by rw [HSN.out, HPK.out, had, Bool.false_and, Bool.false_and, if_neg Bool.false_ne_true, plus_zero])
        clear HSN HPK HSUM HD
        go_wp2_with fail
        go_roundg (ms.length - (k + 1))
        case measure => omega
        case rel => exact ⟨k + 1, by omega, by omega, by go_num, by rw [HSK.out]; exact S2⟩
      have had : decide (x ≤ d) = true := decide_eq_true ha
      go_wp2_with (first | refine wpList_load_mid rfl 51 _ rfl b (o + k * 20) rfl (evL m) _ HC.out Tryz.underlying51 rfl (by rw [evL_length]; exact ev_size) ?_)
      refine (HD.out _).mono ?_; rintro e w2 ⟨rfl, b2⟩
      have S2 := Lib.hid (S.out.tr b2)
      have HC2 := Lib.hid (range_below HC0.out S2.out.bel)
      clear b2 S HC
      by_cases hb : d ≤ y
      case neg =>
        have hbd : decide (d ≤ y) = false := decide_eq_false hb
        go_wp2_with (first | refine wpList_load_mid_g (by rfl) 51 _ rfl b (o + k * 20) rfl (evL m) _ HC2.out Tryz.underlying51 rfl (by rw [evL_length]; exact ev_size) ?_)
        refine (HD.out _).mono ?_; rintro e w3 ⟨rfl, b3⟩
        have S3 := Lib.hid (S2.out.tr b3)
        have HC3 := Lib.hid (range_below HC0.out S3.out.bel)
        clear b3 S2 HC2
        have HSK : Hid (ofM kind name x y (ms.take (k + 1)) = (s1, s2)) := Lib.hid (by rw [HSN.out, HPK.out, hbd, Bool.and_false, Bool.false_and, if_neg Bool.false_ne_true, plus_zero])
        clear HSN HPK HSUM HD
        go_wp2_with fail
        go_roundg (ms.length - (k + 1))
        case measure => omega
        case rel => exact ⟨k + 1, by omega, by omega, by go_num, by rw [HSK.out]; exact S3⟩
      have hbd : decide (d ≤ y) = true := decide_eq_true hb
      go_wp2_with (first | refine wpList_load_mid_g (by rfl) 51 _ rfl b (o + k * 20) rfl (evL m) _ HC2.out Tryz.underlying51 rfl (by rw [evL_length]; exact ev_size) ?_)
      refine (HD.out _).mono ?_; rintro e w3 ⟨rfl, b3⟩
      have S3 := Lib.hid (S2.out.tr b3)
      have HC3 := Lib.hid (range_below HC0.out S3.out.bel)
      clear b3 S2 HC2
      by_cases hn : name = []
      · have hnd : decide (name = []) = true := decide_eq_true hn
        subst hn
        have HSK : Hid (ofM kind [] x y (ms.take (k + 1)) = (s1 + 1, s2 + m.e.bytes)) := Lib.hid (by rw [HSN.out, HPK.out, had, hbd, hnd, Bool.true_and, Bool.true_or, Bool.true_and, if_pos rfl]; rfl)
        clear HSN HPK HSUM HD
        have k0 := blk_cell S3.out.sum 0
        have f0 := blk_free S3.out.sum 0
        have f1 := blk_free S3.out.sum 1
        have hlb := blk_lt S3.out.sum
        go_wp2_with fail
        obtain ⟨wS, hwS⟩ : ∃ u : World, w3.setCell ⟨w.heap.size + 1, 0, none⟩ (i64 (s1 + 1)) = u := ⟨_, rfl⟩
        have hbA := blk_set S3.out.sum 0 (i64 (s1 + 1))
        have hne : wS.heap[b]? = w3.heap[b]? := by rw [← hwS]; exact blk_set_ne 0 _ (by omega)
        have hrs : wS.rangeAt b (o + k * 20) (evL m) := fun j v hv => by rw [World.cell?_of_block (w := w3) hne]; exact HC3.out j v hv
        have hre : wS.heap[w.heap.size]? = some (.cells #[i64 0, i64 0] 34 (0, 0)) := by rw [← hwS]; exact (blk_set_ne 0 _ (by omega)).trans S3.out.res
        have hbe : Below w.heap.size w wS := by rw [← hwS]; exact S3.out.bel.setCell (p := ⟨w.heap.size + 1, 0, none⟩) (Nat.le_succ _) _
        have HRE := Lib.hid (blk_below (Below.refl _ _).drew hre)
        have HBE := Lib.hid hbe.drew
        clear hre hbe
        rw [hwS] at hbA ⊢
        have HBA := Lib.hid (blk_below (Below.refl _ _).drew hbA)
        have HRS := Lib.hid (range_below hrs (Below.refl _ _).drew)
        clear hbA hne hrs k0 f0
        refine Flow.wp_region_pre Flow.Later Flow.Later.refl Flow.Later.trans [9] (.held [0, 1, 2, 3, 4, 5, 6] (.pure [7, 8] (.tail (.step [] 9 (.done []))))) (by kernel_rfl) (by kernel_rfl) ?_
        obtain ⟨wd, hwd⟩ : ∃ u : World, World.drew wS = u := ⟨_, rfl⟩
        rw [hwd] at HBA HRS HRE HBE ⊢
        have q1 : ∀ t : Flow.Cls (Flow.Later wd), t.val.cell? ⟨w.heap.size + 1, 1, none⟩ = some (i64 s2) := fun t => Flow.cls_cell (blk_cell HBA.out 1) t
        have q2 : ∀ t : Flow.Cls (Flow.Later wd), t.val.cell? ⟨b, o + k * 20 + 19, none⟩ = some (i64 m.e.bytes) := fun t => Flow.cls_cell (ev_cell HRS.out 19 rfl) t
        haveI nonE := Flow.cls_nonempty wd
        rw [Flow.wpPre_held]
        simp only [Flow.pick, List.getElem?_toArray, List.getElem?_cons_succ, List.getElem?_cons_zero]
        repeat go_big_quiet_step (fail)
        refine wpQuiet_nil ?_
        clear nonE q1 q2
        haveI nonE := Flow.cls_nonempty_true
        rw [Flow.wpPre_pure]
        simp only [Flow.pick, List.getElem?_toArray, List.getElem?_cons_succ, List.getElem?_cons_zero]
        repeat go_big_quiet_step (fail)
        refine wpQuiet_nil ?_
        clear nonE
        rw [Flow.wpPre_tail, Flow.wpSched_step]
        simp only [Flow.pick]
        refine wpQuiet_nil ?_
        rw [Flow.callAt_eq]
        simp only [List.getElem?_toArray, List.getElem?_cons_succ, List.getElem?_cons_zero]
        rw [if_pos (by rfl)]
        refine Flow.wp_behind (fun K hK => ?_)
        have fz1 := blk_free HBA.out 1
        have cz1 : wd.cell? ⟨w.heap.size + 1, 1, none⟩ = some (i64 s2) := blk_cell HBA.out 1
        have hlw := blk_lt HBA.out
        go_wp2_with fail
        refine hK.out _ _ ⟨trivial, ?_⟩
        clear hK K
        have SF : Hid (SumW w (wd.setCell ⟨w.heap.size + 1, 1, none⟩ (i64 (s2 + m.e.bytes))) (s1 + 1, s2 + m.e.bytes)) := Lib.hid ⟨by rw [blk_set_ne 1 _ (by omega)]; exact HRE.out, by have := blk_set HBA.out 1 (i64 (s2 + m.e.bytes)); simpa using this, HBE.out.setCell (p := ⟨w.heap.size + 1, 1, none⟩) (Nat.le_succ _) _⟩
        rw [Flow.wpSched_done]
        simp only [Flow.pick]
        refine wpQuiet_nil ?_
        go_wp2_with fail
        go_roundg (ms.length - (k + 1))
        case measure => omega
        case rel => exact ⟨k + 1, by omega, by omega, by go_num, by rw [HSK.out]; exact SF⟩
      · have hnd : decide (name = []) = false := decide_eq_false hn
        have hem : name.isEmpty = false := by simpa using hn
        have HHS := Lib.hid (fun W (hg : GoodM W m) => has_any m kind name W hg)
        by_cases hh : hasE m.e kind name = true
        · rw [hh] at HHS
          go_wp2_with (first | refine wpList_load_mid_g (by rfl) 51 _ rfl b (o + k * 20) rfl (evL m) _ HC3.out Tryz.underlying51 rfl (by rw [evL_length]; exact ev_size) ?_)
          refine (HHS.out _ (HG0.out.below S3.out.bel)).mono ?_; rintro e w4 ⟨rfl, b4⟩
          have S4 := Lib.hid (S3.out.tr b4)
          have HC4 := Lib.hid (range_below HC0.out S4.out.bel)
          clear b4 S3 HC3 HHS
          have HSK : Hid (ofM kind name x y (ms.take (k + 1)) = (s1 + 1, s2 + m.e.bytes)) := Lib.hid (by rw [HSN.out, HPK.out, had, hbd, hnd, hh, Bool.true_and, Bool.or_true, Bool.true_and, if_pos rfl]; rfl)
          clear HSN HPK HSUM HD
          have k0 := blk_cell S4.out.sum 0
          have f0 := blk_free S4.out.sum 0
          have f1 := blk_free S4.out.sum 1
          have hlb := blk_lt S4.out.sum
          go_wp2_with fail
          obtain ⟨wS, hwS⟩ : ∃ u : World, w4.setCell ⟨w.heap.size + 1, 0, none⟩ (i64 (s1 + 1)) = u := ⟨_, rfl⟩
          have hbA := blk_set S4.out.sum 0 (i64 (s1 + 1))
          have hne : wS.heap[b]? = w4.heap[b]? := by rw [← hwS]; exact blk_set_ne 0 _ (by omega)
          have hrs : wS.rangeAt b (o + k * 20) (evL m) := fun j v hv => by rw [World.cell?_of_block (w := w4) hne]; exact HC4.out j v hv
          have hre : wS.heap[w.heap.size]? = some (.cells #[i64 0, i64 0] 34 (0, 0)) := by rw [← hwS]; exact (blk_set_ne 0 _ (by omega)).trans S4.out.res
          have hbe : Below w.heap.size w wS := by rw [← hwS]; exact S4.out.bel.setCell (p := ⟨w.heap.size + 1, 0, none⟩) (Nat.le_succ _) _
          have HRE := Lib.hid (blk_below (Below.refl _ _).drew hre)
          have HBE := Lib.hid hbe.drew
          clear hre hbe
          rw [hwS] at hbA ⊢
          have HBA := Lib.hid (blk_below (Below.refl _ _).drew hbA)
          have HRS := Lib.hid (range_below hrs (Below.refl _ _).drew)
          clear hbA hne hrs k0 f0
          refine Flow.wp_region_pre Flow.Later Flow.Later.refl Flow.Later.trans [9] (.held [0, 1, 2, 3, 4, 5, 6] (.pure [7, 8] (.tail (.step [] 9 (.done []))))) (by kernel_rfl) (by kernel_rfl) ?_
          obtain ⟨wd, hwd⟩ : ∃ u : World, World.drew wS = u := ⟨_, rfl⟩
          rw [hwd] at HBA HRS HRE HBE ⊢
          have q1 : ∀ t : Flow.Cls (Flow.Later wd), t.val.cell? ⟨w.heap.size + 1, 1, none⟩ = some (i64 s2) := fun t => Flow.cls_cell (blk_cell HBA.out 1) t
          have q2 : ∀ t : Flow.Cls (Flow.Later wd), t.val.cell? ⟨b, o + k * 20 + 19, none⟩ = some (i64 m.e.bytes) := fun t => Flow.cls_cell (ev_cell HRS.out 19 rfl) t
          haveI nonE := Flow.cls_nonempty wd
          rw [Flow.wpPre_held]
          simp only [Flow.pick, List.getElem?_toArray, List.getElem?_cons_succ, List.getElem?_cons_zero]
          repeat go_big_quiet_step (fail)
          refine wpQuiet_nil ?_
          clear nonE q1 q2
          haveI nonE := Flow.cls_nonempty_true
          rw [Flow.wpPre_pure]
          simp only [Flow.pick, List.getElem?_toArray, List.getElem?_cons_succ, List.getElem?_cons_zero]
          repeat go_big_quiet_step (fail)
          refine wpQuiet_nil ?_
          clear nonE
          rw [Flow.wpPre_tail, Flow.wpSched_step]
          simp only [Flow.pick]
          refine wpQuiet_nil ?_
          rw [Flow.callAt_eq]
          simp only [List.getElem?_toArray, List.getElem?_cons_succ, List.getElem?_cons_zero]
          rw [if_pos (by rfl)]
          refine Flow.wp_behind (fun K hK => ?_)
          have fz1 := blk_free HBA.out 1
          have cz1 : wd.cell? ⟨w.heap.size + 1, 1, none⟩ = some (i64 s2) := blk_cell HBA.out 1
          have hlw := blk_lt HBA.out
          go_wp2_with fail
          refine hK.out _ _ ⟨trivial, ?_⟩
          clear hK K
          have SF : Hid (SumW w (wd.setCell ⟨w.heap.size + 1, 1, none⟩ (i64 (s2 + m.e.bytes))) (s1 + 1, s2 + m.e.bytes)) := Lib.hid ⟨by rw [blk_set_ne 1 _ (by omega)]; exact HRE.out, by have := blk_set HBA.out 1 (i64 (s2 + m.e.bytes)); simpa using this, HBE.out.setCell (p := ⟨w.heap.size + 1, 1, none⟩) (Nat.le_succ _) _⟩
          rw [Flow.wpSched_done]
          simp only [Flow.pick]
          refine wpQuiet_nil ?_
          go_wp2_with fail
          go_roundg (ms.length - (k + 1))
          case measure => omega
          case rel => exact ⟨k + 1, by omega, by omega, by go_num, by rw [HSK.out]; exact SF⟩
        · have hh : hasE m.e kind name = false := by simpa using hh
          rw [hh] at HHS
          go_wp2_with (first | refine wpList_load_mid_g (by rfl) 51 _ rfl b (o + k * 20) rfl (evL m) _ HC3.out Tryz.underlying51 rfl (by rw [evL_length]; exact ev_size) ?_)
          refine (HHS.out _ (HG0.out.below S3.out.bel)).mono ?_; rintro e w4 ⟨rfl, b4⟩
          have S4 := Lib.hid (S3.out.tr b4)
          have HC4 := Lib.hid (range_below HC0.out S4.out.bel)
          clear b4 S3 HC3 HHS
          have HSK : Hid (ofM kind name x y (ms.take (k + 1)) = (s1, s2)) := Lib.hid (by rw [HSN.out, HPK.out, hnd, hh, Bool.or_false, Bool.and_false, if_neg Bool.false_ne_true, plus_zero])
          clear HSN HPK HSUM HD
          go_wp2_with fail
          go_roundg (ms.length - (k + 1))
          case measure => omega
          case rel => exact ⟨k + 1, by omega, by omega, by go_num, by rw [HSK.out]; exact S4⟩
    · obtain rfl : k = ms.length := by omega
      have HSF : Hid (ofM kind name x y ms = (s1, s2)) := Lib.hid (by have := HSUM.out; rwa [List.take_length] at this)
      have hc0 := blk_cell S.out.sum 0
      have hc1 := blk_cell S.out.sum 1
      have hr0 := blk_cell S.out.res 0
      have hr1 := blk_cell S.out.res 1
      have hf0 := blk_free S.out.res 0
      have hf1 := blk_free S.out.res 1
      go_wp2_with fail
      have hb := blk_set (blk_set S.out.res 0 (i64 s1)) 1 (i64 s2)
      have d0 := blk_cell hb 0
      have d1 := blk_cell hb 1
      have B3 := (S.out.bel.setCell (p := ⟨w.heap.size, 0, none⟩) (Nat.le_refl _) (i64 s1)).setCell (p := ⟨w.heap.size, 1, none⟩) (Nat.le_refl _) (i64 s2)
      refine bodyPost_ret (v := .agg #[i64 s1, i64 s2]) (by simp [results, Tryz.results20, go_sem, d0, d1]) rfl ⟨?_, B3⟩
      rw [HSF.out]; rfl
end Go.Proofs.YthgefcoaaommkaaGreatDoor

namespace Go.Proofs.YthgefcoaaommkaaGreatDoor
open Go.RowKit Go.Gn Go.Sr Go.Maps

theorem StM.rz {w : World} {p bd bn : Nat} {ds : List (Int × C)} {ns : List (Ky × C)} {zs : List Int} (h : StM w p bd bn ds ns zs) : w.rangeAt p 2 (zs.map i64) := fun j v hv => by
  have := range_blk h.blk (j + 2) v (by rw [List.getElem?_cons_succ, List.getElem?_cons_succ]; exact hv)
  rw [Nat.zero_add] at this
  rw [Nat.add_comm 2 j]; exact this
set_option maxRecDepth 100000 in
set_option maxHeartbeats 2000000 in
theorem sizes_any (p bd bn : Nat) (ds : List (Int × C)) (ns : List (Ky × C)) (zs : List Int) (w : World) (h : StM w p bd bn ds ns zs) :
    Calls Tryz.prog 28 #[.pointer (some ⟨p, 0, none⟩)] w fun e w' => e = .returned (.agg (zs.map i64).toArray) ∧ Below w.heap.size w w' := by
  have hl : (zs.map i64).length = 18 := by rw [List.length_map, h.zl]
  have hpl := h.lp
  have hso : (Tryz.prog.info? 63).map (·.size) = some 18 := by kernel_rfl
  obtain ⟨vs, hvs⟩ : ∃ q, zs.map i64 = q := ⟨_, rfl⟩
  have hrz := h.rz
  rw [hvs] at hl hrz ⊢
  have hone : vs.toArray.all (·.oneCell') = true := by
    rw [← hvs]; simp [Value.oneCell']
  have HRZ := Lib.hid hrz
  have HS := Lib.hid hso
  clear h hrz hvs hso
  go_enter Tryz.func28, Tryz.ntmps28
  go_wp2_with (first | refine wpList_load_mid rfl 63 _ rfl p 2 rfl vs _ (range_below HRZ.out (below_new _ _)) Tryz.underlying63 rfl (by rw [hl]; exact HS.out) ?_ | refine wpList_store_new rfl 63 _ _ rfl _ vs.toArray rfl rfl (by simp [hl, HS.out]) (by simp [hl]) hone ?_)
  have hld := run_loadVar_mid (P := Tryz.prog) (w.alloc (.cells vs.toArray 63)) w.heap.size 0 63 vs _ (range_blk (blk_new _ _)) Tryz.underlying63 rfl (by rw [hl]; exact HS.out)
  refine bodyPost_ret (v := .agg vs.toArray) ?_ rfl ⟨rfl, below_new _ _⟩
  simp only [Act.put, List.setIfInBounds_toArray, List.set_cons_succ, List.set_cons_zero]
  simp [results, Tryz.results28, asAddr, hld]
end Go.Proofs.YthgefcoaaommkaaGreatDoor

namespace Go.Proofs.YthgefcoaaommkaaGreatDoor
open Go.RowKit Go.Gn Go.Sr Go.Maps

def auK : List UInt8 := [0, 0, 0, 0, 0, 0, 0, 0, 0, 0, 0, 0, 0, 0, 0, 1]
def evK : Ev := { minute := 0, author := auK, groups := [[97], [98]], sites := [[120], [121]], bytes := 300 }
theorem evK_ok : chkE evK = 0 := by decide +kernel
theorem dsK : addA [] (dayE evK) (oneE evK) = [(0, (1, 300))] := by decide +kernel
theorem nsK : addAll (keysE evK) (oneE evK) [] = [((0, 1, [97]), (1, 300)), ((0, 1, [98]), (1, 300)), ((0, 2, [120]), (1, 300)), ((0, 2, [121]), (1, 300)), ((0, 3, hexT auK), (1, 300))] := by decide +kernel
theorem zsK : upAt (List.replicate 18 0) (blen evK.bytes) = [0, 0, 0, 0, 0, 0, 0, 0, 0, 1, 0, 0, 0, 0, 0, 0, 0, 0] := by decide +kernel
theorem smallK : smallC (1, 300) := by unfold smallC; simp only; omega
theorem two_le : 2 ≤ maxLen := by decide
theorem evK_lens : (∀ x ∈ evK.groups, x.length ≤ maxLen) ∧ ∀ x ∈ evK.sites, x.length ≤ maxLen := by decide
theorem evK_few : evK.groups.length ≤ 30 ∧ evK.sites.length ≤ 80 ∧ (∀ x ∈ evK.groups, x.length ≤ 4000) ∧ ∀ x ∈ evK.sites, x.length ≤ 4000 := by decide
theorem evK_wf : (Lit.int .i64 evK.minute).wf = true ∧ (Lit.int .i64 evK.bytes).wf = true := by decide
set_option maxRecDepth 100000 in
set_option maxHeartbeats 4000000 in
theorem known_any (w : World) (hE : Env w) : Calls Tryz.prog 9 #[] w fun e w' => e = .returned (.bool true) ∧ Below w.heap.size w w' := by
  have HE0 := Lib.hid hE
  clear hE
  go_enter Tryz.func9, Tryz.ntmps9
  go_wp2_with fail
  refine (new_any w).mono ?_; rintro e w1 ⟨p, bd, bn, rfl, hst, b1, hp0, hp1, hp2⟩
  have hlp := hst.lp
  have hld := hst.ld
  have hln := hst.ln
  have ST := Lib.hid hst
  have HB1 := Lib.hid b1
  clear hst b1
  go_wp2_with fail
  obtain ⟨wA, hwA⟩ : ∃ u : World, w1.alloc (.cells #[.int .u8 0, .int .u8 0, .int .u8 0, .int .u8 0, .int .u8 0, .int .u8 0, .int .u8 0, .int .u8 0, .int .u8 0, .int .u8 0, .int .u8 0, .int .u8 0, .int .u8 0, .int .u8 0, .int .u8 0, .int .u8 1] 49) = u := ⟨_, rfl⟩
  have hkA : wA.heap[w1.heap.size]? = some (.cells #[.int .u8 0, .int .u8 0, .int .u8 0, .int .u8 0, .int .u8 0, .int .u8 0, .int .u8 0, .int .u8 0, .int .u8 0, .int .u8 0, .int .u8 0, .int .u8 0, .int .u8 0, .int .u8 0, .int .u8 0, .int .u8 1] 49 (0, 0)) := by rw [← hwA]; exact blk_new w1 _
  have hbA : Below w1.heap.size w1 wA := by rw [← hwA]; exact below_new _ _
  have hsA : wA.heap.size = w1.heap.size + 1 := by rw [← hwA]; simp
  rw [hwA]
  have rB : Rd (wA.alloc (.cells #[.string ⟨#[97]⟩, .string ⟨#[98]⟩] 9)) (some ⟨wA.heap.size, 0, none⟩) [[97], [98]] := Rd.new wA [[97], [98]] 9
  obtain ⟨wB, hwB⟩ : ∃ u : World, wA.alloc (.cells #[.string ⟨#[97]⟩, .string ⟨#[98]⟩] 9) = u := ⟨_, rfl⟩
  have hbB : Below wA.heap.size wA wB := by rw [← hwB]; exact below_new _ _
  have hsB : wB.heap.size = wA.heap.size + 1 := by rw [← hwB]; simp
  have rC : Rd (wB.alloc (.cells #[.string ⟨#[120]⟩, .string ⟨#[121]⟩] 9)) (some ⟨wB.heap.size, 0, none⟩) [[120], [121]] := Rd.new wB [[120], [121]] 9
  obtain ⟨wC, hwC⟩ : ∃ u : World, wB.alloc (.cells #[.string ⟨#[120]⟩, .string ⟨#[121]⟩] 9) = u := ⟨_, rfl⟩
  have hbC : Below wB.heap.size wB wC := by rw [← hwC]; exact below_new _ _
  have hsC : wC.heap.size = wB.heap.size + 1 := by rw [← hwC]; simp
  rw [hwB] at rB
  rw [hwC] at rC
  have e1 : w1.heap.size + 1 = wA.heap.size := hsA.symm
  have e2 : w1.heap.size + 1 + 1 = wB.heap.size := by omega
  have hgm : GoodM wC ⟨evK, some ⟨wA.heap.size, 0, none⟩, 2, some ⟨wB.heap.size, 0, none⟩, 2⟩ := ⟨rfl, rB.below hbC, rC, Nat.le_refl 2, Nat.le_refl 2, two_le, two_le, evK_lens.1, evK_lens.2, evK_wf.1, evK_wf.2⟩
  have hbd : Below w1.heap.size w1 wC := (hbA.tr hbB).tr hbC
  have hadd := add_yes p bd bn [] [] (List.replicate 18 0) ⟨evK, some ⟨wA.heap.size, 0, none⟩, 2, some ⟨wB.heap.size, 0, none⟩, 2⟩ wC 0 hgm ⟨evK_few.1, evK_few.2.1, evK_few.2.2.1, evK_few.2.2.2⟩ (HE0.out.below (HB1.out.tr hbd)) (ST.out.below hbd) evK_ok (by omega) (by omega) (by intro q hq; cases hq) (by intro q hq; cases hq)
    ⟨fun _ b o e => by injection e with e; injection e with e; omega, fun _ b o e => by injection e with e; injection e with e; omega⟩ (fun k => by rw [List.getD_eq_getElem?_getD, List.getElem?_replicate]; split <;> simp) (by simp) (by simp) (by simp [sumC_nil])
  have HAD := Lib.hid hadd
  have HKA := Lib.hid (blk_below (hbB.tr hbC) hkA)
  have HBC := Lib.hid (HB1.out.tr hbd)
  have hsz : w1.heap.size < wC.heap.size := by omega
  clear hadd hgm rB rC hkA hbA hbB hbC hbd ST HB1 HE0 hsA hsC
  rw [e1, ← hsB, hwB, hwC]
  refine HAD.out.mono ?_; rintro e w2 ⟨rfl, hs2, b2⟩
  have HS2 := Lib.hid hs2
  dsimp only at HS2
  have HKA2 := Lib.hid ((b2.block w1.heap.size hsz (by simp; omega)).trans HKA.out)
  have HB2 := Lib.hid (HBC.out.trans (b2.toBelow (B := w.heap.size) (by have := HBC.out.size; omega) (by simp; omega)))
  clear hs2 b2 HAD HKA HBC
  rw [show addA [] (dayE evK) (oneE evK) = _ from dsK, show addAll (keysE evK) (oneE evK) [] = _ from nsK, show upAt (List.replicate 18 0) (blen evK.bytes) = _ from zsK] at HS2
  go_wp2_with fail
  have HC := Lib.hid (blk_new w2 (.cells #[i64 1, i64 300] 34))
  have BN := Lib.hid (below_new w2 (.cells #[i64 1, i64 300] 34))
  refine Flow.wp_region_segs Flow.Later Flow.Later.refl Flow.Later.trans [([0, 1, 2, 3, 5], 4), ([6, 7, 8, 9, 11], 10), ([12, 13, 14, 15, 17], 16), ([18, 19, 20, 21, 22, 25], 23), ([], 24), ([26, 27, 28, 29], 30)] [31, 32, 33, 34] (by kernel_rfl) (by kernel_rfl) ?_
  have S0 := Lib.hid ((StM.below HS2.out BN.out).below (Below.refl _ _).drew)
  have C0 := Lib.hid (blk_below (Below.refl _ _).drew HC.out)
  have A0 := Lib.hid (blk_below (BN.out.tr (Below.refl _ _).drew) HKA2.out)
  have W0 := Lib.hid (HB2.out.tr (BN.out.tr (Below.refl _ _).drew))
  clear HC BN HS2 HKA2 HB2
  generalize World.drew (w2.alloc (.cells #[i64 1, i64 300] 34)) = v0 at *
  have qc0 : ∀ t : Flow.Cls (Flow.Later v0), t.val.cell? ⟨w2.heap.size, 0, none⟩ = some (i64 1) := fun t => Flow.cls_cell (blk_cell C0.out 0) t
  have qc1 : ∀ t : Flow.Cls (Flow.Later v0), t.val.cell? ⟨w2.heap.size, 1, none⟩ = some (i64 300) := fun t => Flow.cls_cell (blk_cell C0.out 1) t
  haveI nonE := Flow.cls_nonempty v0
  rw [Flow.wpSegs_cons]
  simp only [Flow.pick, List.getElem?_toArray, List.getElem?_cons_succ, List.getElem?_cons_zero]
  repeat go_big_quiet_step (fail)
  refine wpQuiet_nil ?_
  clear nonE qc0 qc1
  rw [Flow.callAt_eq]
  simp only [List.getElem?_toArray, List.getElem?_cons_succ, List.getElem?_cons_zero]
  rw [if_pos (by rfl)]
  refine Flow.wp_behind (fun K hK => ?_)
  go_wp2_with fail
  refine (total_any p bd bn _ _ _ v0 S0.out (by intro q hq; simp at hq; (first | (subst hq; exact smallK) | (rcases hq with rfl | rfl | rfl | rfl | rfl <;> exact smallK))) (by simp)).mono ?_; rintro e v1 ⟨rfl, b⟩
  refine hK.out _ _ ⟨b, ?_⟩
  clear hK K
  have S1 := Lib.hid (S0.out.below b)
  have C1 := Lib.hid (blk_below b C0.out)
  have A1 := Lib.hid (blk_below b A0.out)
  have W1 := Lib.hid (W0.out.tr b)
  clear b S0 C0 A0 W0
  rw [show sumC ([((0 : Int), ((1 : Int), (300 : Int)))].map (·.2)) = (1, 300) by decide +kernel]
  dsimp only [cV]
  have qc0 : ∀ t : Flow.Cls (Flow.Later v1), t.val.cell? ⟨w2.heap.size, 0, none⟩ = some (i64 1) := fun t => Flow.cls_cell (blk_cell C1.out 0) t
  have qc1 : ∀ t : Flow.Cls (Flow.Later v1), t.val.cell? ⟨w2.heap.size, 1, none⟩ = some (i64 300) := fun t => Flow.cls_cell (blk_cell C1.out 1) t
  haveI nonE := Flow.cls_nonempty v1
  rw [Flow.wpSegs_cons]
  simp only [Flow.pick, List.getElem?_toArray, List.getElem?_cons_succ, List.getElem?_cons_zero]
  repeat go_big_quiet_step (fail)
  refine wpQuiet_nil ?_
  clear nonE qc0 qc1
  rw [Flow.callAt_eq]
  simp only [List.getElem?_toArray, List.getElem?_cons_succ, List.getElem?_cons_zero]
  rw [if_pos (by rfl)]
  refine Flow.wp_behind (fun K hK => ?_)
  go_wp2_with fail
  refine (of_any p bd bn _ _ _ 1 [98] 0 0 v1 S1.out (by intro q hq; simp at hq; (first | (subst hq; exact smallK) | (rcases hq with rfl | rfl | rfl | rfl | rfl <;> exact smallK))) (by simp)).mono ?_; rintro e v2 ⟨rfl, b⟩
  refine hK.out _ _ ⟨b, ?_⟩
  clear hK K
  have S2 := Lib.hid (S1.out.below b)
  have C2 := Lib.hid (blk_below b C1.out)
  have A2 := Lib.hid (blk_below b A1.out)
  have W2 := Lib.hid (W1.out.tr b)
  clear b S1 C1 A1 W1
  rw [show sumP (pickKy 1 [98] 0 0) ([((0, 1, [97]), (1, 300)), ((0, 1, [98]), (1, 300)), ((0, 2, [120]), (1, 300)), ((0, 2, [121]), (1, 300)), ((0, 3, hexT auK), (1, 300))] : List (Ky × C)) = (1, 300) by decide +kernel]
  dsimp only [cV]
  have qc0 : ∀ t : Flow.Cls (Flow.Later v2), t.val.cell? ⟨w2.heap.size, 0, none⟩ = some (i64 1) := fun t => Flow.cls_cell (blk_cell C2.out 0) t
  have qc1 : ∀ t : Flow.Cls (Flow.Later v2), t.val.cell? ⟨w2.heap.size, 1, none⟩ = some (i64 300) := fun t => Flow.cls_cell (blk_cell C2.out 1) t
  haveI nonE := Flow.cls_nonempty v2
  rw [Flow.wpSegs_cons]
  simp only [Flow.pick, List.getElem?_toArray, List.getElem?_cons_succ, List.getElem?_cons_zero]
  repeat go_big_quiet_step (fail)
  refine wpQuiet_nil ?_
  clear nonE qc0 qc1
  rw [Flow.callAt_eq]
  simp only [List.getElem?_toArray, List.getElem?_cons_succ, List.getElem?_cons_zero]
  rw [if_pos (by rfl)]
  refine Flow.wp_behind (fun K hK => ?_)
  go_wp2_with fail
  refine (of_any p bd bn _ _ _ 2 [120] 0 0 v2 S2.out (by intro q hq; simp at hq; (first | (subst hq; exact smallK) | (rcases hq with rfl | rfl | rfl | rfl | rfl <;> exact smallK))) (by simp)).mono ?_; rintro e v3 ⟨rfl, b⟩
  refine hK.out _ _ ⟨b, ?_⟩
  clear hK K
  have S3 := Lib.hid (S2.out.below b)
  have C3 := Lib.hid (blk_below b C2.out)
  have A3 := Lib.hid (blk_below b A2.out)
  have W3 := Lib.hid (W2.out.tr b)
  clear b S2 C2 A2 W2
  rw [show sumP (pickKy 2 [120] 0 0) ([((0, 1, [97]), (1, 300)), ((0, 1, [98]), (1, 300)), ((0, 2, [120]), (1, 300)), ((0, 2, [121]), (1, 300)), ((0, 3, hexT auK), (1, 300))] : List (Ky × C)) = (1, 300) by decide +kernel]
  dsimp only [cV]
  have qc0 : ∀ t : Flow.Cls (Flow.Later v3), t.val.cell? ⟨w2.heap.size, 0, none⟩ = some (i64 1) := fun t => Flow.cls_cell (blk_cell C3.out 0) t
  have qc1 : ∀ t : Flow.Cls (Flow.Later v3), t.val.cell? ⟨w2.heap.size, 1, none⟩ = some (i64 300) := fun t => Flow.cls_cell (blk_cell C3.out 1) t
  have qa0 : ∀ t : Flow.Cls (Flow.Later v3), t.val.cell? ⟨w1.heap.size, 0, none⟩ = some (.int .u8 0) := fun t => Flow.cls_cell (blk_cell A3.out 0) t
  have qa1 : ∀ t : Flow.Cls (Flow.Later v3), t.val.cell? ⟨w1.heap.size, 1, none⟩ = some (.int .u8 0) := fun t => Flow.cls_cell (blk_cell A3.out 1) t
  have qa2 : ∀ t : Flow.Cls (Flow.Later v3), t.val.cell? ⟨w1.heap.size, 2, none⟩ = some (.int .u8 0) := fun t => Flow.cls_cell (blk_cell A3.out 2) t
  have qa3 : ∀ t : Flow.Cls (Flow.Later v3), t.val.cell? ⟨w1.heap.size, 3, none⟩ = some (.int .u8 0) := fun t => Flow.cls_cell (blk_cell A3.out 3) t
  have qa4 : ∀ t : Flow.Cls (Flow.Later v3), t.val.cell? ⟨w1.heap.size, 4, none⟩ = some (.int .u8 0) := fun t => Flow.cls_cell (blk_cell A3.out 4) t
  have qa5 : ∀ t : Flow.Cls (Flow.Later v3), t.val.cell? ⟨w1.heap.size, 5, none⟩ = some (.int .u8 0) := fun t => Flow.cls_cell (blk_cell A3.out 5) t
  have qa6 : ∀ t : Flow.Cls (Flow.Later v3), t.val.cell? ⟨w1.heap.size, 6, none⟩ = some (.int .u8 0) := fun t => Flow.cls_cell (blk_cell A3.out 6) t
  have qa7 : ∀ t : Flow.Cls (Flow.Later v3), t.val.cell? ⟨w1.heap.size, 7, none⟩ = some (.int .u8 0) := fun t => Flow.cls_cell (blk_cell A3.out 7) t
  have qa8 : ∀ t : Flow.Cls (Flow.Later v3), t.val.cell? ⟨w1.heap.size, 8, none⟩ = some (.int .u8 0) := fun t => Flow.cls_cell (blk_cell A3.out 8) t
  have qa9 : ∀ t : Flow.Cls (Flow.Later v3), t.val.cell? ⟨w1.heap.size, 9, none⟩ = some (.int .u8 0) := fun t => Flow.cls_cell (blk_cell A3.out 9) t
  have qa10 : ∀ t : Flow.Cls (Flow.Later v3), t.val.cell? ⟨w1.heap.size, 10, none⟩ = some (.int .u8 0) := fun t => Flow.cls_cell (blk_cell A3.out 10) t
  have qa11 : ∀ t : Flow.Cls (Flow.Later v3), t.val.cell? ⟨w1.heap.size, 11, none⟩ = some (.int .u8 0) := fun t => Flow.cls_cell (blk_cell A3.out 11) t
  have qa12 : ∀ t : Flow.Cls (Flow.Later v3), t.val.cell? ⟨w1.heap.size, 12, none⟩ = some (.int .u8 0) := fun t => Flow.cls_cell (blk_cell A3.out 12) t
  have qa13 : ∀ t : Flow.Cls (Flow.Later v3), t.val.cell? ⟨w1.heap.size, 13, none⟩ = some (.int .u8 0) := fun t => Flow.cls_cell (blk_cell A3.out 13) t
  have qa14 : ∀ t : Flow.Cls (Flow.Later v3), t.val.cell? ⟨w1.heap.size, 14, none⟩ = some (.int .u8 0) := fun t => Flow.cls_cell (blk_cell A3.out 14) t
  have qa15 : ∀ t : Flow.Cls (Flow.Later v3), t.val.cell? ⟨w1.heap.size, 15, none⟩ = some (.int .u8 1) := fun t => Flow.cls_cell (blk_cell A3.out 15) t
  haveI nonE := Flow.cls_nonempty v3
  rw [Flow.wpSegs_cons]
  simp only [Flow.pick, List.getElem?_toArray, List.getElem?_cons_succ, List.getElem?_cons_zero]
  repeat go_big_quiet_step (fail)
  refine wpQuiet_nil ?_
  clear nonE qc0 qc1 qa0 qa1 qa2 qa3 qa4 qa5 qa6 qa7 qa8 qa9 qa10 qa11 qa12 qa13 qa14 qa15
  rw [Flow.callAt_eq]
  simp only [List.getElem?_toArray, List.getElem?_cons_succ, List.getElem?_cons_zero]
  rw [if_pos (by rfl)]
  refine Flow.wp_behind (fun K hK => ?_)
  go_wp2_with fail
  refine (refAuthor_any auK v3 rfl).mono ?_; rintro e v4 ⟨rfl, b⟩
  refine hK.out _ _ ⟨b, ?_⟩
  clear hK K
  have S4 := Lib.hid (S3.out.below b)
  have C4 := Lib.hid (blk_below b C3.out)
  have A4 := Lib.hid (blk_below b A3.out)
  have W4 := Lib.hid (W3.out.tr b)
  clear b S3 C3 A3 W3
  have qc0 : ∀ t : Flow.Cls (Flow.Later v4), t.val.cell? ⟨w2.heap.size, 0, none⟩ = some (i64 1) := fun t => Flow.cls_cell (blk_cell C4.out 0) t
  have qc1 : ∀ t : Flow.Cls (Flow.Later v4), t.val.cell? ⟨w2.heap.size, 1, none⟩ = some (i64 300) := fun t => Flow.cls_cell (blk_cell C4.out 1) t
  haveI nonE := Flow.cls_nonempty v4
  rw [Flow.wpSegs_cons]
  simp only [Flow.pick]
  repeat go_big_quiet_step (fail)
  refine wpQuiet_nil ?_
  clear nonE qc0 qc1
  rw [Flow.callAt_eq]
  simp only [List.getElem?_toArray, List.getElem?_cons_succ, List.getElem?_cons_zero]
  rw [if_pos (by rfl)]
  refine Flow.wp_behind (fun K hK => ?_)
  go_wp2_with fail
  refine (of_any p bd bn _ _ _ 3 (hexT auK) 0 0 v4 S4.out (by intro q hq; simp at hq; (first | (subst hq; exact smallK) | (rcases hq with rfl | rfl | rfl | rfl | rfl <;> exact smallK))) (by simp)).mono ?_; rintro e v5 ⟨rfl, b⟩
  refine hK.out _ _ ⟨b, ?_⟩
  clear hK K
  have S5 := Lib.hid (S4.out.below b)
  have C5 := Lib.hid (blk_below b C4.out)
  have A5 := Lib.hid (blk_below b A4.out)
  have W5 := Lib.hid (W4.out.tr b)
  clear b S4 C4 A4 W4
  rw [show sumP (pickKy 3 (hexT auK) 0 0) ([((0, 1, [97]), (1, 300)), ((0, 1, [98]), (1, 300)), ((0, 2, [120]), (1, 300)), ((0, 2, [121]), (1, 300)), ((0, 3, hexT auK), (1, 300))] : List (Ky × C)) = (1, 300) by decide +kernel]
  dsimp only [cV]
  have qc0 : ∀ t : Flow.Cls (Flow.Later v5), t.val.cell? ⟨w2.heap.size, 0, none⟩ = some (i64 1) := fun t => Flow.cls_cell (blk_cell C5.out 0) t
  have qc1 : ∀ t : Flow.Cls (Flow.Later v5), t.val.cell? ⟨w2.heap.size, 1, none⟩ = some (i64 300) := fun t => Flow.cls_cell (blk_cell C5.out 1) t
  haveI nonE := Flow.cls_nonempty v5
  rw [Flow.wpSegs_cons]
  simp only [Flow.pick, List.getElem?_toArray, List.getElem?_cons_succ, List.getElem?_cons_zero]
  repeat go_big_quiet_step (fail)
  refine wpQuiet_nil ?_
  clear nonE qc0 qc1
  rw [Flow.callAt_eq]
  simp only [List.getElem?_toArray, List.getElem?_cons_succ, List.getElem?_cons_zero]
  rw [if_pos (by rfl)]
  refine Flow.wp_behind (fun K hK => ?_)
  go_wp2_with fail
  refine (sizes_any p bd bn _ _ _ v5 S5.out).mono ?_; rintro e v6 ⟨rfl, b⟩
  refine hK.out _ _ ⟨b, ?_⟩
  clear hK K
  have S6 := Lib.hid (S5.out.below b)
  have C6 := Lib.hid (blk_below b C5.out)
  have A6 := Lib.hid (blk_below b A5.out)
  have W6 := Lib.hid (W5.out.tr b)
  clear b S5 C5 A5 W5
  simp only [List.map_cons, List.map_nil]
  have qc0 : ∀ t : Flow.Cls (Flow.Later v6), t.val.cell? ⟨w2.heap.size, 0, none⟩ = some (i64 1) := fun t => Flow.cls_cell (blk_cell C6.out 0) t
  have qc1 : ∀ t : Flow.Cls (Flow.Later v6), t.val.cell? ⟨w2.heap.size, 1, none⟩ = some (i64 300) := fun t => Flow.cls_cell (blk_cell C6.out 1) t
  haveI nonE := Flow.cls_nonempty v6
  rw [Flow.wpSegs_nil]
  simp only [Flow.pick, List.getElem?_toArray, List.getElem?_cons_succ, List.getElem?_cons_zero]
  refine BigFrame.wpQuiet_want rfl (fun K hK => quiet_index 63 _ _ rfl (i64 1) (fun w => by kernel_rfl) (hK _ ?_))
  clear hK K
  simp only [Act.put, List.setIfInBounds_toArray, List.set_cons_succ, List.set_cons_zero]
  repeat go_big_quiet_step (fail)
  refine wpQuiet_nil ?_
  clear nonE qc0 qc1
  go_wp2_with fail
  go_ret
  exact ⟨rfl, W6.out⟩
end Go.Proofs.YthgefcoaaommkaaGreatDoor

namespace Go.Proofs.YthgefcoaaommkaaGreatDoor
open Go.RowKit Go.Gn Go.Sr Go.Maps

theorem sumE_none (l : List Ev) (p : Ev → Bool) (h : ∀ e ∈ l, p e = false) : sumE (l.filter p) = (0, 0) := by
  rw [List.filter_eq_nil_iff.2 fun e he => by rw [h e he]; simp]
  rfl
theorem hasE_kind {e : Ev} {k : Int} {n : List UInt8} (h : ¬ (1 ≤ k ∧ k ≤ 3)) : hasE e k n = false := by unfold hasE; rw [decide_eq_false h, Bool.false_and]
theorem hasE_nil {e : Ev} {k : Int} (h : GoodE e) (ha : e.author.length = 16) : hasE e k [] = false := by
  unfold hasE ofKind
  have hc : check [] ≠ 0 := by decide +kernel
  have hs : siteE [] ≠ 0 := by decide +kernel
  have hn : ([] : List UInt8) ∉ (if k = 3 then [hexT e.author] else if k = 2 then e.sites else e.groups) := by
    split
    · intro hm
      have hm2 := List.mem_singleton.1 hm
      have := hexT_length e.author
      rw [← hm2, ha] at this
      cases this
    · split
      · exact fun hm => hs (h.sites _ hm)
      · exact fun hm => hc (h.groups _ hm)
  rw [decide_eq_false hn, Bool.and_false]
/-- What Of answers. -/
def wantOf (kind : Int) (name : List UInt8) (a b : Int) (ms : List EvM) : C := if name = [] ∨ ¬ (1 ≤ kind ∧ kind ≤ 3) then (0, 0) else ofM kind name a b ms
theorem of_eq {ms : List EvM} (hg : ∀ e ∈ ms.map (·.e), GoodE e) (ha : ∀ e ∈ ms.map (·.e), e.author.length = 16) (kind : Int) (name : List UInt8) (a b : Int) : sumP (pickKy kind name a b) (namesL (ms.map (·.e))) = wantOf kind name a b ms := by
  have h1 := of_names (l := ms.map (·.e)) (fun e he => (hg e he).apart) kind name a b
  have h2 : sumP (pickKy kind name a b) (namesL (ms.map (·.e))) = _ := h1
  rw [h2]
  unfold wantOf
  by_cases hn : name = []
  · subst hn
    rw [if_pos (.inl rfl)]
    exact sumE_none _ _ fun e he => by rw [hasE_nil (hg e he) (ha e he)]; simp
  · by_cases hk : 1 ≤ kind ∧ kind ≤ 3
    · rw [if_neg (by intro h; rcases h with h | h; exact hn h; exact h hk)]
      unfold ofM
      congr 2
      funext e
      unfold pickE
      rw [decide_eq_false hn, Bool.false_or]
      cases hasE e kind name <;> simp
    · rw [if_pos (.inr hk)]
      exact sumE_none _ _ fun e he => by rw [hasE_kind hk]; simp
end Go.Proofs.YthgefcoaaommkaaGreatDoor

namespace Go.Proofs.YthgefcoaaommkaaGreatDoor
open Go.RowKit

/-- One append as an operation of a region: rows of elements of any size. -/
theorem wp_appK {t E : TypeId} {i : TypeInfo} {z : Value} {size bytes : Nat} (ht : Tryz.prog.underlying t = some (.slice E)) (hi : Tryz.prog.info? E = some i) (hz0 : i.zero = some z) (hz1 : i.size = size) (hz2 : i.bytes = bytes) (hzs : z.cells.size = size) (hsz : 0 < size)
    {o : Oper} {a : Act} {w : World} {K : Act → World → Prop} {Q : Exit → Act → World → Prop} (s x : Operand) (ho : o.op = .call { callee := .builtin .append, args := #[s, x], argTypes := #[t, t] })
    (base : Nat) (v : Value) (n : Nat) (xs : List Value) (hown : w.ownsRow base E size v n xs) (A : Option Addr) (m c : Nat) (ys : List Value) (hm : ys.length = m * size) (hr : RdC w A ys) (h1 : ∀ u ∈ ys, u.oneCell' = true)
    (hs : a.eval s = v) (hx : a.eval x = .slice A m c) (hlen : n + m ≤ 1000000000) (hby : bytes ≤ 1000) (hbase : base ≤ w.heap.size)
    (h : ∀ v' w', w'.ownsRow base E size v' (n + m) (xs ++ ys) → Below base w w' → w.grownBy w' v.ownBlock → K (a.put o.dst v') w') : o.wp Tryz.prog a w K Q := by
  obtain ⟨v', w', hrun, h2, h3⟩ := run_appC ht hi hz0 hz1 hz2 hzs hsz w o.type base v n xs hown A m c ys hm hr h1 hlen hby hbase
  unfold Oper.wp execOp
  simp only [ho, resolve, invoke, builtin, Sem.run_bind, Sem.run_pure, Result.andThen_ok, List.map_toArray, List.map_cons, List.map_nil, hs, hx, hrun]
  exact h v' w' h2 ((Below.refl base w).grown h3 hbase fun k hk => (hown.lt k hk).1) h3
/-- Where s[:k] and s[k:] begin. -/
def toA (A : Option Addr) (c : Nat) : Option Addr := if c = 0 then A else A.map (·.add 0)
def fromA (A : Option Addr) (c k size : Nat) : Option Addr := if c = k then A else A.map (·.add (k * size))
theorem RdC.toA {w : World} {A : Option Addr} {xs : List Value} (h : RdC w A xs) (c k : Nat) : RdC w (toA A c) (xs.take k) := fun hl => by
  rw [List.length_take] at hl
  obtain ⟨b, o, e, hc⟩ := h (by omega)
  subst e
  refine ⟨b, o, ?_, fun j u hj => hc j u ?_⟩
  · unfold Proofs.YthgefcoaaommkaaGreatDoor.toA
    split
    · rfl
    · rw [Option.map_some, addr_addN]; rfl
  · rw [List.getElem?_take] at hj
    split at hj
    · exact hj
    · cases hj
theorem RdC.fromA {w : World} {A : Option Addr} {xs : List Value} {n size : Nat} (h : RdC w A xs) (hl : xs.length = n * size) (c k : Nat) (hk : k ≤ n) (hn : n ≤ c) : RdC w (fromA A c k size) (xs.drop (k * size)) := fun hd => by
  rw [List.length_drop, hl] at hd
  have hkn : k ≠ n := fun e => by subst e; omega
  obtain ⟨b, o, e, hc⟩ := h (by omega)
  subst e
  refine ⟨b, o + k * size, ?_, fun j u hj => ?_⟩
  · unfold Proofs.YthgefcoaaommkaaGreatDoor.fromA
    rw [if_neg (by omega), Option.map_some, addr_addN]
  · rw [List.getElem?_drop] at hj
    rw [Nat.add_assoc]
    exact hc _ u hj
section
variable {P : Program} {C : World → Prop} {a : Act} {o : Oper}
theorem quiet_sliceTo {K : Act → Prop} {t E : TypeId} {i : TypeInfo} (ht : P.underlying t = some (.slice E)) (hi : P.info? E = some i) (x y : Operand) (ho : o.op = .slice t x none (some y) none) (A : Option Addr) (n c k : Nat) (hx : a.eval x = .slice A n c) (hy : a.eval y = .int .i64 k) (hk : k ≤ c)
    (h : K (a.put o.dst (.slice (toA A c) k c))) : o.quiet P a C K :=
  ⟨_, fun w _ => by
    have e : (Instr.sliceAt t (.slice A n c) none (some (.int .i64 k)) none).run P w = .ok (.slice (toA A c) k c) w := by
      unfold Instr.sliceAt Instr.slice toA
      simp [run_underlying ht, Instr.sliceBounds, Instr.sliceBound, asIntOf, sizeOf, typeInfo, hi, hk]
    unfold Oper.quietAt execOp
    simp only [ho, hx, hy, Option.map_some, Option.map_none, Sem.run_bind, Sem.run_pure, e, Result.andThen_ok]
    exact ⟨rfl, rfl⟩, h⟩
theorem quiet_sliceFrom {K : Act → Prop} {t E : TypeId} {i : TypeInfo} {size : Nat} (ht : P.underlying t = some (.slice E)) (hi : P.info? E = some i) (hz : i.size = size) (x y : Operand) (ho : o.op = .slice t x (some y) none none) (A : Option Addr) (n c k : Nat) (hx : a.eval x = .slice A n c) (hy : a.eval y = .int .i64 k) (hk : k ≤ n)
    (h : K (a.put o.dst (.slice (fromA A c k size) (n - k) (c - k)))) : o.quiet P a C K :=
  ⟨_, fun w _ => by
    have e : (Instr.sliceAt t (.slice A n c) (some (.int .i64 k)) none none).run P w = .ok (.slice (fromA A c k size) (n - k) (c - k)) w := by
      unfold Instr.sliceAt Instr.slice fromA
      simp [run_underlying ht, Instr.sliceBounds, Instr.sliceBound, asIntOf, sizeOf, typeInfo, hi, hk, hz]
    unfold Oper.quietAt execOp
    simp only [ho, hx, hy, Option.map_some, Option.map_none, Sem.run_bind, Sem.run_pure, e, Result.andThen_ok]
    exact ⟨rfl, rfl⟩, h⟩
end
theorem own_base {w : World} {B B' e size n : Nat} {v : Value} {xs : List Value} (h : w.ownsRow B' e size v n xs) (hB : B ≤ B') : w.ownsRow B e size v n xs := by
  refine ⟨h.1, ?_⟩
  rcases h.2 with hl | ⟨g, cap, cur, e1, hb, hr⟩
  · exact .inl hl
  · exact .inr ⟨g, cap, cur, e1, Nat.le_trans hB hb, hr⟩
theorem RdC.of_own {w : World} {base n c size : Nat} {e : TypeId} {A : Option Addr} {xs : List Value} (h : w.ownsRow base e size (.slice A n c) n xs) : RdC w A xs := fun hl => by
  rcases h.2 with ⟨e1, e2⟩ | ⟨g, cap, cur, e1, _, hg, _, _, _, hx⟩
  · have := h.1
    rw [e2, Nat.zero_mul] at this; omega
  · injection e1 with a1 a2 a3
    subst a1
    refine ⟨g, 0, rfl, fun j u hj => ?_⟩
    rw [Nat.zero_add, blk_cell hg]
    rw [← hx, List.getElem?_take] at hj
    split at hj
    · simpa using hj
    · cases hj
theorem RdC.below {w w' : World} {A : Option Addr} {xs : List Value} (h : RdC w A xs) (hb : Below w.heap.size w w') : RdC w' A xs := fun hl => by
  obtain ⟨b, o, e, hc⟩ := h hl
  exact ⟨b, o, e, fun j u hj => Below.cellv hb (hc j u hj)⟩
theorem RdC.grown0 {w w' : World} {g : Nat} {ys : List Value} {row : Option Nat} (h : RdC w (some ⟨g, 0, none⟩) ys) (hg : w.grownBy w' row) (hne : some g ≠ row) : RdC w' (some ⟨g, 0, none⟩) ys := fun hl => by
  obtain ⟨b, o, e, hc⟩ := h hl
  cases e
  exact ⟨_, _, rfl, fun j u hj => hg.cell (hc j u hj) hne⟩
theorem take_snoc {α : Type} {l : List α} {k : Nat} {x : α} (h : l[k]? = some x) : l.take (k + 1) = l.take k ++ [x] := by
  obtain ⟨hl, e⟩ := List.getElem?_eq_some_iff.1 h
  rw [List.take_succ_eq_append_getElem hl, e]
theorem one_map_i64 (l : List Int) : ∀ u ∈ l.map i64, u.oneCell' = true := fun u hu => by
  obtain ⟨x, _, rfl⟩ := List.mem_map.1 hu
  rfl
theorem RdC.cell {w : World} {A : Option Addr} {xs : List Value} (h : RdC w A xs) {j : Nat} {v : Value} (hj : xs[j]? = some v) : ∃ b o, A = some ⟨b, o, none⟩ ∧ w.cell? ⟨b, o + j, none⟩ = some v := by
  obtain ⟨b, o, e, hc⟩ := h (Nat.lt_of_le_of_lt (Nat.zero_le _) (List.getElem?_eq_some_iff.1 hj).1)
  exact ⟨b, o, e, hc j v hj⟩
theorem cls_ne {N : Nat} (w : World) : Nonempty (Flow.Cls (Below N w)) := ⟨⟨w, Below.refl N w⟩⟩
end Go.Proofs.YthgefcoaaommkaaGreatDoor

namespace Go.Proofs.YthgefcoaaommkaaGreatDoor
open Go.RowKit

theorem all_range_ints : ∀ (xs ys : List Int), xs.length = ys.length → ((List.range xs.length).all fun i => xs.getD i 0 == ys.getD i 0) = (xs == ys)
  | [], [], _ => rfl
  | x :: xs, y :: ys, h => by
    have ih := all_range_ints xs ys (by simpa using h)
    rw [List.length_cons, List.range_succ_eq_map, List.all_cons, List.all_map]
    simp only [List.getD_cons_zero, Function.comp_def, List.getD_cons_succ, ih]
    simp [List.cons_beq_cons]
  | [], _ :: _, h => by simp at h
  | _ :: _, [], h => by simp at h
section
variable {P : Program}
theorem run_equalIn_ints (w : World) (d : Nat) (t e : TypeId) (n : Nat) (ht : P.underlying t = some (.array n e)) (he : P.underlying e = some (.int .i64)) (hsz : ∀ w, (Go.sizeOf e).run P w = .ok 1 w)
    (xs ys : List Int) (hx : xs.length = n) (hy : ys.length = n) :
    (Op.equalIn (d + 2) t (.agg (xs.map i64).toArray) (.agg (ys.map i64).toArray)).run P w = .ok (xs == ys) w := by
  rw [← all_range_ints xs ys (hx.trans hy.symm), hx, List.range_eq_range', Op.equalIn]
  simp only [Sem.run_bind, run_underlying ht, Result.andThen_ok, hsz, Std.Legacy.Range.forIn_eq_forIn_range', Std.Legacy.Range.size, Nat.sub_zero, Nat.add_sub_cancel, Nat.div_one]
  have hl : ∀ i ∈ List.range' 0 n 1, i < n := fun i hi => by simpa using (List.mem_range'_1.1 hi).2
  generalize List.range' 0 n 1 = l at hl ⊢
  induction l with
  | nil => simp
  | cons i l ih =>
    have hi : i < n := hl i (by simp)
    have px : (part e (xs.map i64).toArray (i * 1)).run P w = .ok (i64 (xs.getD i 0)) w := by
      simp [part, isAgg, run_underlying he, List.getD, List.getElem?_eq_getElem (show i < xs.length by omega)]
    have py : (part e (ys.map i64).toArray (i * 1)).run P w = .ok (i64 (ys.getD i 0)) w := by
      simp [part, isAgg, run_underlying he, List.getD, List.getElem?_eq_getElem (show i < ys.length by omega)]
    have pe : (Op.equalIn (d + 1) e (i64 (xs.getD i 0)) (i64 (ys.getD i 0))).run P w = .ok (xs.getD i 0 == ys.getD i 0) w := by
      rw [run_equalIn_int w d e .i64 .i64 _ _ he]
    simp only [List.forIn_cons, Sem.run_bind, px, py, pe, Result.andThen_ok, List.all_cons]
    cases hb : (xs.getD i 0 == ys.getD i 0)
    · simp
    · simp only [Bool.not_true, Bool.false_eq_true, if_false, Sem.run_pure, Result.andThen_ok, Bool.true_and]
      exact ih fun j hj => hl j (by simp [hj])
theorem run_eql_ints (w : World) (t e : TypeId) (n : Nat) (ht : P.underlying t = some (.array n e)) (he : P.underlying e = some (.int .i64)) (hsz : ∀ w, (Go.sizeOf e).run P w = .ok 1 w) (xs ys : List Int) (hx : xs.length = n) (hy : ys.length = n) :
    (binOp .eql t (.agg (xs.map i64).toArray) (.agg (ys.map i64).toArray)).run P w = .ok (.bool (xs == ys)) w := by
  rw [run_eql_struct, run_equalIn_ints w 9998 t e n ht he hsz xs ys hx hy]
  rfl
theorem run_neq_ints (w : World) (t e : TypeId) (n : Nat) (ht : P.underlying t = some (.array n e)) (he : P.underlying e = some (.int .i64)) (hsz : ∀ w, (Go.sizeOf e).run P w = .ok 1 w) (xs ys : List Int) (hx : xs.length = n) (hy : ys.length = n) :
    (binOp .neq t (.agg (xs.map i64).toArray) (.agg (ys.map i64).toArray)).run P w = .ok (.bool (!(xs == ys))) w := by
  rw [run_neq_struct, run_equalIn_ints w 9998 t e n ht he hsz xs ys hx hy]
  rfl
variable {ops : Array Oper} {rest : List Oper} {op : Oper} {a : Act} {w : World} {Q : Exit → Act → World → Prop}
theorem wpList_neqI_g (hw : Region.wanted op (yielded ops a.tmps) = true) (t e : TypeId) (n : Nat) (ht : P.underlying t = some (.array n e)) (he : P.underlying e = some (.int .i64)) (hsz : ∀ w, (Go.sizeOf e).run P w = .ok 1 w) (hm : P.eqGuardType P.depth t = false)
    (x y : Operand) (r : TypeId) (ho : op.op = .binOp .neq t x y r) (xs ys : List Int) (hx : a.eval x = .agg (xs.map i64).toArray) (hy : a.eval y = .agg (ys.map i64).toArray) (lx : xs.length = n) (ly : ys.length = n)
    (h : wpList P ops Q rest (a.put op.dst (.bool (!(xs == ys)))) w) : wpList P ops Q (op :: rest) a w :=
  wpList_step fun K hK => by
    rw [if_pos hw]
    unfold Oper.wp execOp
    simp only [ho, Sem.run_bind, Sem.run_pure, hx, hy, run_eqGuard_agg w .neq t x y _ _ hm, run_neq_ints w t e n ht he hsz xs ys lx ly, Result.andThen_ok]
    exact hK _ _ h
theorem wpList_eqlI_g (hw : Region.wanted op (yielded ops a.tmps) = true) (t e : TypeId) (n : Nat) (ht : P.underlying t = some (.array n e)) (he : P.underlying e = some (.int .i64)) (hsz : ∀ w, (Go.sizeOf e).run P w = .ok 1 w) (hm : P.eqGuardType P.depth t = false)
    (x y : Operand) (r : TypeId) (ho : op.op = .binOp .eql t x y r) (xs ys : List Int) (hx : a.eval x = .agg (xs.map i64).toArray) (hy : a.eval y = .agg (ys.map i64).toArray) (lx : xs.length = n) (ly : ys.length = n)
    (h : wpList P ops Q rest (a.put op.dst (.bool (xs == ys))) w) : wpList P ops Q (op :: rest) a w :=
  wpList_step fun K hK => by
    rw [if_pos hw]
    unfold Oper.wp execOp
    simp only [ho, Sem.run_bind, Sem.run_pure, hx, hy, run_eqGuard_agg w .eql t x y _ _ hm, run_eql_ints w t e n ht he hsz xs ys lx ly, Result.andThen_ok]
    exact hK _ _ h
end
end Go.Proofs.YthgefcoaaommkaaGreatDoor
