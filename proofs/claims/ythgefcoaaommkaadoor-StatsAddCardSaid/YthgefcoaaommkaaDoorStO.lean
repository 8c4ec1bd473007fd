/- Contract: the model's count of a name from a day to a day. -/
import Derived.Test.YthgefcoaaommkaaDoorStN
namespace Go.Proofs.YthgefcoaaommkaaDoor
open Go.RowKit Go.Gn Go.Sr Go.Maps

def pickE (kind : Int) (name : List UInt8) (a b : Int) (e : Ev) : Bool := (decide (a ≤ dayE e) && decide (dayE e ≤ b)) && (decide (name = []) || hasE e kind name)
def ofM (kind : Int) (name : List UInt8) (a b : Int) (ms : List EvM) : C := sumE ((ms.map (·.e)).filter (pickE kind name a b))
theorem ofM_succ {ms : List EvM} {k : Nat} {m : EvM} (h : ms[k]? = some m) (kind : Int) (name : List UInt8) (a b : Int) : ofM kind name a b (ms.take (k + 1)) = plus (ofM kind name a b (ms.take k)) (if pickE kind name a b m.e then oneE m.e else (0, 0)) := by
  obtain ⟨hl, e⟩ := List.getElem?_eq_some_iff.1 h
  unfold ofM
  rw [List.take_succ_eq_append_getElem hl, e, List.map_append, List.filter_append]
  unfold sumE
  rw [List.map_append, sumC_append, List.map_singleton]
  cases hp : pickE kind name a b m.e
  · rw [List.filter_cons, if_neg (by rw [hp]; simp), if_neg Bool.false_ne_true]; rfl
  · rw [List.filter_cons, if_pos hp, if_pos rfl, List.filter_nil, List.map_singleton, sumC_cons, sumC_nil, plus_zero]
theorem sumE_snd : ∀ (l : List Ev), (∀ e ∈ l, GoodE e) → 0 ≤ (sumE l).2 ∧ (sumE l).2 ≤ 65536 * l.length
  | [], _ => by simp [sumE, sumC_nil]
  | e :: r, h => by
    have ih := sumE_snd r fun x hx => h x (by simp [hx])
    have he := (h e (by simp)).bytes
    unfold sumE at ih ⊢
    rw [List.map_cons, sumC_cons]
    simp only [plus, oneE, List.length_cons]
    omega
theorem ofM_bnd {ms : List EvM} (hg : ∀ m ∈ ms, GoodE m.e) (kind : Int) (name : List UInt8) (a b : Int) : 0 ≤ (ofM kind name a b ms).1 ∧ (ofM kind name a b ms).1 ≤ ms.length ∧ 0 ≤ (ofM kind name a b ms).2 ∧ (ofM kind name a b ms).2 ≤ 65536 * ms.length := by
  unfold ofM
  have h1 := sumE_fst ((ms.map (·.e)).filter (pickE kind name a b))
  have h2 := sumE_snd ((ms.map (·.e)).filter (pickE kind name a b)) fun e he => by
    obtain ⟨m, hm, rfl⟩ := List.mem_map.1 (List.mem_filter.1 he).1
    exact hg m hm
  have h3 := List.length_filter_le (pickE kind name a b) (ms.map (·.e))
  rw [List.length_map] at h3
  omega
set_option maxRecDepth 100000 in
set_option maxHeartbeats 4000000 in
theorem mOf_any (A : Option Addr) (c : Nat) (ms : List EvM) (kind : Int) (name : List UInt8) (x y : Int) (w : World) (h : RdE w A ms) (hg : ∀ m ∈ ms, GoodE m.e) (_hlc : ms.length ≤ c) (_hc : c ≤ maxLen) (hlen : ms.length ≤ 1000) :
    Calls Tryd.prog 8 #[.slice A ms.length c, i64 kind, enS name, i64 x, i64 y] w fun e w' => e = .returned (cV (ofM kind name x y ms)) ∧ Below w.heap.size w w' := by
  have H := Lib.hid h
  have HG := Lib.hid hg
  clear h hg
  have S1 : Hid (SumW w ((w.alloc (.cells #[i64 0, i64 0] 29)).alloc (.cells #[i64 0, i64 0] 29)) (0, 0)) := Lib.hid ⟨blk_below (below_new _ _) (blk_new _ _), by have := blk_new (w.alloc (.cells #[i64 0, i64 0] 29)) (.cells #[i64 0, i64 0] 29); simpa using this, (below_new _ _).tr (below_new _ _)⟩
  go_enter Tryd.func8, Tryd.ntmps8
  go_wp2_with fail
  go_loopg [12] ms.length (fun gg iv wr => ∃ k : Nat, k ≤ ms.length ∧ ms.length - k ≤ gg ∧ iv = .int .i64 k ∧ Hid (SumW w wr (ofM kind name x y (ms.take k))))
  case atStart => exact ⟨0, by omega, by omega, rfl, by simpa [ofM, sumE, sumC_nil] using S1⟩
  case round =>
    obtain ⟨k, hk, hgk, rfl, S⟩ := hrel
    have hbn := ofM_bnd (ms := ms.take k) (fun m hm => HG.out m (List.mem_of_mem_take hm)) kind name x y
    rw [List.length_take] at hbn
    obtain ⟨s, hs⟩ : ∃ q, ofM kind name x y (ms.take k) = q := ⟨_, rfl⟩
    rw [hs] at hbn S
    obtain ⟨s1, s2⟩ := s
    simp only at hbn
    obtain ⟨hs0, hs1, hs2, hs3⟩ := hbn
    have hs1' : s1 ≤ 1000 := by omega
    have hs3' : s2 ≤ 65536000 := by omega
    clear hs1 hs3
    have HSUM := Lib.hid hs
    clear hs
    by_cases hlt : k < ms.length
    · obtain ⟨b, o, m, hA, hbl, hmk, hcell, hgm⟩ := H.out.at_ hlt
      subst hA
      have HE := Lib.hid (HG.out m (List.mem_of_getElem? hmk))
      have hsn := ofM_succ hmk kind name x y
      rw [HSUM.out] at hsn
      have HSN := Lib.hid hsn
      have HC0 := Lib.hid hcell
      have HG0 := Lib.hid hgm
      have HC := Lib.hid (range_below hcell S.out.bel)
      have hd0 : 0 ≤ m.e.minute := HE.out.minute.1
      have hd1 : m.e.minute ≤ 1000000000000 := by have := HE.out.minute.2; omega
      have hby : 0 ≤ m.e.bytes ∧ m.e.bytes ≤ 65536 := HE.out.bytes
      have hday := fun W => day_any m W hd0 hd1
      have hpk : pickE kind name x y m.e = ((decide (x ≤ dayE m.e) && decide (dayE m.e ≤ y)) && (decide (name = []) || hasE m.e kind name)) := rfl
      obtain ⟨d, hd⟩ : ∃ q, dayE m.e = q := ⟨_, rfl⟩
      simp only [hd] at hday hpk
      have HD := Lib.hid hday
      have HPK := Lib.hid hpk
      clear hmk hcell hgm hsn hday hpk hd hd0 hd1 HE
      by_cases ha : x ≤ d
      case neg =>
        have had : decide (x ≤ d) = false := decide_eq_false ha
        go_wp2_with (first | refine wpList_load_mid rfl 37 _ rfl b (o + k * 20) rfl (evL m) _ HC.out Tryd.underlying37 rfl (by rw [evL_length]; exact ev_size) ?_)
        refine (HD.out _).mono ?_; rintro e w2 ⟨rfl, b2⟩
        have S2 := Lib.hid (S.out.tr b2)
        have HC2 := Lib.hid (range_below HC0.out S2.out.bel)
        clear b2 S HC
        have HSK : Hid (ofM kind name x y (ms.take (k + 1)) = (s1, s2)) := Lib.hid (by rw [HSN.out, HPK.out, had, Bool.false_and, Bool.false_and, if_neg Bool.false_ne_true, plus_zero])
        clear HSN HPK HSUM HD
        go_wp2_with fail
        go_roundg (ms.length - (k + 1))
        case measure => omega
        case rel => exact ⟨k + 1, by omega, by omega, by go_num, by rw [HSK.out]; exact S2⟩
      have had : decide (x ≤ d) = true := decide_eq_true ha
      go_wp2_with (first | refine wpList_load_mid rfl 37 _ rfl b (o + k * 20) rfl (evL m) _ HC.out Tryd.underlying37 rfl (by rw [evL_length]; exact ev_size) ?_)
      refine (HD.out _).mono ?_; rintro e w2 ⟨rfl, b2⟩
      have S2 := Lib.hid (S.out.tr b2)
      have HC2 := Lib.hid (range_below HC0.out S2.out.bel)
      clear b2 S HC
      by_cases hb : d ≤ y
      case neg =>
        have hbd : decide (d ≤ y) = false := decide_eq_false hb
        go_wp2_with (first | refine wpList_load_mid_g (by rfl) 37 _ rfl b (o + k * 20) rfl (evL m) _ HC2.out Tryd.underlying37 rfl (by rw [evL_length]; exact ev_size) ?_)
        refine (HD.out _).mono ?_; rintro e w3 ⟨rfl, b3⟩
        have S3 := Lib.hid (S2.out.tr b3)
        have HC3 := Lib.hid (range_below HC0.out S3.out.bel)
        clear b3 S2 HC2
        have HSK : Hid (ofM kind name x y (ms.take (k + 1)) = (s1, s2)) := Lib.hid (by rw [HSN.out, HPK.out, hbd, Bool.and_false, Bool.false_and, if_neg Bool.false_ne_true, plus_zero])
        clear HSN HPK HSUM HD
        go_wp2_with fail
        go_roundg (ms.length - (k + 1))
        case measure => omega
        case rel => exact ⟨k + 1, by omega, by omega, by go_num, by rw [HSK.out]; exact S3⟩
      have hbd : decide (d ≤ y) = true := decide_eq_true hb
      go_wp2_with (first | refine wpList_load_mid_g (by rfl) 37 _ rfl b (o + k * 20) rfl (evL m) _ HC2.out Tryd.underlying37 rfl (by rw [evL_length]; exact ev_size) ?_)
      refine (HD.out _).mono ?_; rintro e w3 ⟨rfl, b3⟩
      have S3 := Lib.hid (S2.out.tr b3)
      have HC3 := Lib.hid (range_below HC0.out S3.out.bel)
      clear b3 S2 HC2
      by_cases hn : name = []
      · have hnd : decide (name = []) = true := decide_eq_true hn
        subst hn
        have HSK : Hid (ofM kind [] x y (ms.take (k + 1)) = (s1 + 1, s2 + m.e.bytes)) := Lib.hid (by rw [HSN.out, HPK.out, had, hbd, hnd, Bool.true_and, Bool.true_or, Bool.true_and, if_pos rfl]; rfl)
        clear HSN HPK HSUM HD
        have k0 := blk_cell S3.out.sum 0
        have f0 := blk_free S3.out.sum 0
        have f1 := blk_free S3.out.sum 1
        have hlb := blk_lt S3.out.sum
        go_wp2_with fail
        obtain ⟨wS, hwS⟩ : ∃ u : World, w3.setCell ⟨w.heap.size + 1, 0, none⟩ (i64 (s1 + 1)) = u := ⟨_, rfl⟩
        have hbA := blk_set S3.out.sum 0 (i64 (s1 + 1))
        have hne : wS.heap[b]? = w3.heap[b]? := by rw [← hwS]; exact blk_set_ne 0 _ (by omega)
        have hrs : wS.rangeAt b (o + k * 20) (evL m) := fun j v hv => by rw [World.cell?_of_block (w := w3) hne]; exact HC3.out j v hv
        have hre : wS.heap[w.heap.size]? = some (.cells #[i64 0, i64 0] 29 (0, 0)) := by rw [← hwS]; exact (blk_set_ne 0 _ (by omega)).trans S3.out.res
        have hbe : Below w.heap.size w wS := by rw [← hwS]; exact S3.out.bel.setCell (p := ⟨w.heap.size + 1, 0, none⟩) (Nat.le_succ _) _
        have HRE := Lib.hid (blk_below (Below.refl _ _).drew hre)
        have HBE := Lib.hid hbe.drew
        clear hre hbe
        rw [hwS] at hbA ⊢
        have HBA := Lib.hid (blk_below (Below.refl _ _).drew hbA)
        have HRS := Lib.hid (range_below hrs (Below.refl _ _).drew)
        clear hbA hne hrs k0 f0
        refine Flow.wp_region_pre Flow.Later Flow.Later.refl Flow.Later.trans [9] (.held [0, 1, 2, 3, 4, 5, 6] (.pure [7, 8] (.tail (.step [] 9 (.done []))))) (by kernel_rfl) (by kernel_rfl) ?_
        obtain ⟨wd, hwd⟩ : ∃ u : World, World.drew wS = u := ⟨_, rfl⟩
        rw [hwd] at HBA HRS HRE HBE ⊢
        have q1 : ∀ t : Flow.Cls (Flow.Later wd), t.val.cell? ⟨w.heap.size + 1, 1, none⟩ = some (i64 s2) := fun t => Flow.cls_cell (blk_cell HBA.out 1) t
        have q2 : ∀ t : Flow.Cls (Flow.Later wd), t.val.cell? ⟨b, o + k * 20 + 19, none⟩ = some (i64 m.e.bytes) := fun t => Flow.cls_cell (ev_cell HRS.out 19 rfl) t
        haveI nonE := Flow.cls_nonempty wd
        rw [Flow.wpPre_held]
        simp only [Flow.pick, List.getElem?_toArray, List.getElem?_cons_succ, List.getElem?_cons_zero]
        repeat go_big_quiet_step (fail)
        refine wpQuiet_nil ?_
        clear nonE q1 q2
        haveI nonE := Flow.cls_nonempty_true
        rw [Flow.wpPre_pure]
        simp only [Flow.pick, List.getElem?_toArray, List.getElem?_cons_succ, List.getElem?_cons_zero]
        repeat go_big_quiet_step (fail)
        refine wpQuiet_nil ?_
        clear nonE
        rw [Flow.wpPre_tail, Flow.wpSched_step]
        simp only [Flow.pick]
        refine wpQuiet_nil ?_
        rw [Flow.callAt_eq]
        simp only [List.getElem?_toArray, List.getElem?_cons_succ, List.getElem?_cons_zero]
        rw [if_pos (by rfl)]
        refine Flow.wp_behind (fun K hK => ?_)
        have fz1 := blk_free HBA.out 1
        have cz1 : wd.cell? ⟨w.heap.size + 1, 1, none⟩ = some (i64 s2) := blk_cell HBA.out 1
        have hlw := blk_lt HBA.out
        go_wp2_with fail
        refine hK.out _ _ ⟨trivial, ?_⟩
        clear hK K
        have SF : Hid (SumW w (wd.setCell ⟨w.heap.size + 1, 1, none⟩ (i64 (s2 + m.e.bytes))) (s1 + 1, s2 + m.e.bytes)) := Lib.hid ⟨by rw [blk_set_ne 1 _ (by omega)]; exact HRE.out, by have := blk_set HBA.out 1 (i64 (s2 + m.e.bytes)); simpa using this, HBE.out.setCell (p := ⟨w.heap.size + 1, 1, none⟩) (Nat.le_succ _) _⟩
        rw [Flow.wpSched_done]
        simp only [Flow.pick]
        refine wpQuiet_nil ?_
        go_wp2_with fail
        go_roundg (ms.length - (k + 1))
        case measure => omega
        case rel => exact ⟨k + 1, by omega, by omega, by go_num, by rw [HSK.out]; exact SF⟩
      · have hnd : decide (name = []) = false := decide_eq_false hn
        have hem : name.isEmpty = false := by simpa using hn
        have HHS := Lib.hid (fun W (hg : GoodM W m) => has_any m kind name W hg)
        by_cases hh : hasE m.e kind name = true
        · rw [hh] at HHS
          go_wp2_with (first | refine wpList_load_mid_g (by rfl) 37 _ rfl b (o + k * 20) rfl (evL m) _ HC3.out Tryd.underlying37 rfl (by rw [evL_length]; exact ev_size) ?_)
          refine (HHS.out _ (HG0.out.below S3.out.bel)).mono ?_; rintro e w4 ⟨rfl, b4⟩
          have S4 := Lib.hid (S3.out.tr b4)
          have HC4 := Lib.hid (range_below HC0.out S4.out.bel)
          clear b4 S3 HC3 HHS
          have HSK : Hid (ofM kind name x y (ms.take (k + 1)) = (s1 + 1, s2 + m.e.bytes)) := Lib.hid (by rw [HSN.out, HPK.out, had, hbd, hnd, hh, Bool.true_and, Bool.or_true, Bool.true_and, if_pos rfl]; rfl)
          clear HSN HPK HSUM HD
          have k0 := blk_cell S4.out.sum 0
          have f0 := blk_free S4.out.sum 0
          have f1 := blk_free S4.out.sum 1
          have hlb := blk_lt S4.out.sum
          go_wp2_with fail
          obtain ⟨wS, hwS⟩ : ∃ u : World, w4.setCell ⟨w.heap.size + 1, 0, none⟩ (i64 (s1 + 1)) = u := ⟨_, rfl⟩
          have hbA := blk_set S4.out.sum 0 (i64 (s1 + 1))
          have hne : wS.heap[b]? = w4.heap[b]? := by rw [← hwS]; exact blk_set_ne 0 _ (by omega)
          have hrs : wS.rangeAt b (o + k * 20) (evL m) := fun j v hv => by rw [World.cell?_of_block (w := w4) hne]; exact HC4.out j v hv
          have hre : wS.heap[w.heap.size]? = some (.cells #[i64 0, i64 0] 29 (0, 0)) := by rw [← hwS]; exact (blk_set_ne 0 _ (by omega)).trans S4.out.res
          have hbe : Below w.heap.size w wS := by rw [← hwS]; exact S4.out.bel.setCell (p := ⟨w.heap.size + 1, 0, none⟩) (Nat.le_succ _) _
          have HRE := Lib.hid (blk_below (Below.refl _ _).drew hre)
          have HBE := Lib.hid hbe.drew
          clear hre hbe
          rw [hwS] at hbA ⊢
          have HBA := Lib.hid (blk_below (Below.refl _ _).drew hbA)
          have HRS := Lib.hid (range_below hrs (Below.refl _ _).drew)
          clear hbA hne hrs k0 f0
          refine Flow.wp_region_pre Flow.Later Flow.Later.refl Flow.Later.trans [9] (.held [0, 1, 2, 3, 4, 5, 6] (.pure [7, 8] (.tail (.step [] 9 (.done []))))) (by kernel_rfl) (by kernel_rfl) ?_
          obtain ⟨wd, hwd⟩ : ∃ u : World, World.drew wS = u := ⟨_, rfl⟩
          rw [hwd] at HBA HRS HRE HBE ⊢
          have q1 : ∀ t : Flow.Cls (Flow.Later wd), t.val.cell? ⟨w.heap.size + 1, 1, none⟩ = some (i64 s2) := fun t => Flow.cls_cell (blk_cell HBA.out 1) t
          have q2 : ∀ t : Flow.Cls (Flow.Later wd), t.val.cell? ⟨b, o + k * 20 + 19, none⟩ = some (i64 m.e.bytes) := fun t => Flow.cls_cell (ev_cell HRS.out 19 rfl) t
          haveI nonE := Flow.cls_nonempty wd
          rw [Flow.wpPre_held]
          simp only [Flow.pick, List.getElem?_toArray, List.getElem?_cons_succ, List.getElem?_cons_zero]
          repeat go_big_quiet_step (fail)
          refine wpQuiet_nil ?_
          clear nonE q1 q2
          haveI nonE := Flow.cls_nonempty_true
          rw [Flow.wpPre_pure]
          simp only [Flow.pick, List.getElem?_toArray, List.getElem?_cons_succ, List.getElem?_cons_zero]
          repeat go_big_quiet_step (fail)
          refine wpQuiet_nil ?_
          clear nonE
          rw [Flow.wpPre_tail, Flow.wpSched_step]
          simp only [Flow.pick]
          refine wpQuiet_nil ?_
          rw [Flow.callAt_eq]
          simp only [List.getElem?_toArray, List.getElem?_cons_succ, List.getElem?_cons_zero]
          rw [if_pos (by rfl)]
          refine Flow.wp_behind (fun K hK => ?_)
          have fz1 := blk_free HBA.out 1
          have cz1 : wd.cell? ⟨w.heap.size + 1, 1, none⟩ = some (i64 s2) := blk_cell HBA.out 1
          have hlw := blk_lt HBA.out
          go_wp2_with fail
          refine hK.out _ _ ⟨trivial, ?_⟩
          clear hK K
          have SF : Hid (SumW w (wd.setCell ⟨w.heap.size + 1, 1, none⟩ (i64 (s2 + m.e.bytes))) (s1 + 1, s2 + m.e.bytes)) := Lib.hid ⟨by rw [blk_set_ne 1 _ (by omega)]; exact HRE.out, by have := blk_set HBA.out 1 (i64 (s2 + m.e.bytes)); simpa using this, HBE.out.setCell (p := ⟨w.heap.size + 1, 1, none⟩) (Nat.le_succ _) _⟩
          rw [Flow.wpSched_done]
          simp only [Flow.pick]
          refine wpQuiet_nil ?_
          go_wp2_with fail
          go_roundg (ms.length - (k + 1))
          case measure => omega
          case rel => exact ⟨k + 1, by omega, by omega, by go_num, by rw [HSK.out]; exact SF⟩
        · have hh : hasE m.e kind name = false := by simpa using hh
          rw [hh] at HHS
          go_wp2_with (first | refine wpList_load_mid_g (by rfl) 37 _ rfl b (o + k * 20) rfl (evL m) _ HC3.out Tryd.underlying37 rfl (by rw [evL_length]; exact ev_size) ?_)
          refine (HHS.out _ (HG0.out.below S3.out.bel)).mono ?_; rintro e w4 ⟨rfl, b4⟩
          have S4 := Lib.hid (S3.out.tr b4)
          have HC4 := Lib.hid (range_below HC0.out S4.out.bel)
          clear b4 S3 HC3 HHS
          have HSK : Hid (ofM kind name x y (ms.take (k + 1)) = (s1, s2)) := Lib.hid (by rw [HSN.out, HPK.out, hnd, hh, Bool.or_false, Bool.and_false, if_neg Bool.false_ne_true, plus_zero])
          clear HSN HPK HSUM HD
          go_wp2_with fail
          go_roundg (ms.length - (k + 1))
          case measure => omega
          case rel => exact ⟨k + 1, by omega, by omega, by go_num, by rw [HSK.out]; exact S4⟩
    · obtain rfl : k = ms.length := by omega
      have HSF : Hid (ofM kind name x y ms = (s1, s2)) := Lib.hid (by have := HSUM.out; rwa [List.take_length] at this)
      have hc0 := blk_cell S.out.sum 0
      have hc1 := blk_cell S.out.sum 1
      have hr0 := blk_cell S.out.res 0
      have hr1 := blk_cell S.out.res 1
      have hf0 := blk_free S.out.res 0
      have hf1 := blk_free S.out.res 1
      go_wp2_with fail
      have hb := blk_set (blk_set S.out.res 0 (i64 s1)) 1 (i64 s2)
      have d0 := blk_cell hb 0
      have d1 := blk_cell hb 1
      have B3 := (S.out.bel.setCell (p := ⟨w.heap.size, 0, none⟩) (Nat.le_refl _) (i64 s1)).setCell (p := ⟨w.heap.size, 1, none⟩) (Nat.le_refl _) (i64 s2)
      refine bodyPost_ret (v := .agg #[i64 s1, i64 s2]) (by simp [results, Tryd.results8, go_sem, d0, d1]) rfl ⟨?_, B3⟩
      rw [HSF.out]; rfl
end Go.Proofs.YthgefcoaaommkaaDoor
