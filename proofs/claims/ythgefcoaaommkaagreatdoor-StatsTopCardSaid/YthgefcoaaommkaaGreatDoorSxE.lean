/- The walk of the statement StatsTop. -/
import Derived.Test.YthgefcoaaommkaaGreatDoorSxD
import Derived.Test.YthgefcoaaommkaaGreatDoorZe
namespace Go.Proofs.YthgefcoaaommkaaGreatDoor
open Go.RowKit Go.Gn Go.Sr Go.Maps

set_option maxRecDepth 100000 in
set_option maxHeartbeats 16000000 in
theorem statsTop_walk (A : Option Addr) (c : Nat) (ms : List EvM) (kind x y most : Int) (w : World) (h : RdE w A ms) (hlc : ms.length ≤ c) (hc : c ≤ maxLen) (hL : ∀ m ∈ ms, LenM m) (hE : Env w) :
    Calls Tryz.prog 3 #[.slice A ms.length c, i64 kind, i64 x, i64 y, i64 most] w fun e w' => e = .returned (.bool true) ∧ Below w.heap.size w w' := by
  have HK := Lib.hid (fun W (hb : Below w.heap.size w W) => known_any W (hE.below hb))
  have HF := Lib.hid (fun W (hb : Below w.heap.size w W) => few_any A c ms W (h.below hb) hL hlc hc)
  have HBd := Lib.hid (fun W (hb : Below w.heap.size w W) hF hlen => build_any A c ms W (h.below hb) hlc hc hF hlen (hE.below hb))
  clear h hE hL
  go_enter Tryz.func3, Tryz.ntmps3
  go_wp2_with fail
  refine (HK.out _ (Below.refl _ _)).mono ?_; rintro e w1 ⟨rfl, b1⟩
  have B1 := Lib.hid b1; clear b1
  go_wp2_with fail
  refine (HF.out _ B1.out).mono ?_; rintro e w2 ⟨r, rfl, rfl, hr⟩
  cases r
  case false =>
    clear hr
    go_wp2_with fail
    refine (HK.out _ B1.out).mono ?_; rintro e w3 ⟨rfl, b3⟩
    have B3 := Lib.hid (B1.out.tr b3); clear b3
    go_wp2_with fail
    go_ret
    exact ⟨rfl, B3.out⟩
  obtain ⟨hF, hlen⟩ := hr rfl
  have HFew := Lib.hid hF
  clear hF hr HF HK
  go_wp2_with fail
  refine (HBd.out _ B1.out HFew.out (by omega)).mono ?_; rintro e w3 ⟨p, bd, bn, Ax, cx, rfl, hst, hrd, hlx, hcx, b3, hge, hlow⟩
  clear hlow hge
  have ST := Lib.hid hst
  have X := Lib.hid hrd
  have B3 := Lib.hid (B1.out.tr b3)
  have hxl := okS_len ms
  have hgl := okS_good (ms := ms)
  clear hst hrd b3 B1 HBd HFew hlc hc
  generalize okS ms = lx at *
  have HG := Lib.hid (show ∀ m ∈ lx, GoodE m.e from fun m hm => hgl _ (List.mem_map.2 ⟨m, hm, rfl⟩))
  have hxn : (lx.map (·.e)).length = lx.length := List.length_map _
  unfold StE at ST
  have hap := Lib.hid (show ∀ e ∈ lx.map (·.e), Apart e from fun e he => (hgl e he).apart)
  have nS := Lib.hid ((namesL_bnd (lx.map (·.e)) hgl).small (by omega))
  have lnx := namesL_len (lx.map (·.e)) hgl
  have hnn : (namesL (lx.map (·.e))).length ≤ 100000 := by omega
  clear hgl lnx
  go_wp2_with fail
  by_cases hk : kind < 1 ∨ 3 < kind
  case pos =>
    refine (top_kind p kind x y most w3 hk).mono ?_; rintro e w4 ⟨rfl, rfl⟩
    by_cases h1 : kind < 1
    · have d1 : decide (kind < 1) = true := decide_eq_true h1
      go_wp2_with fail
      go_ret
      exact ⟨rfl, B3.out⟩
    · have d1 : decide (kind < 1) = false := decide_eq_false h1
      have d2 : decide (3 < kind) = true := decide_eq_true (hk.resolve_left h1)
      go_wp2_with fail
      go_ret
      exact ⟨rfl, B3.out⟩
  have hk13 : 1 ≤ kind ∧ kind ≤ 3 := by omega
  have d1 : decide (kind < 1) = false := decide_eq_false (by omega)
  have d2 : decide (3 < kind) = false := decide_eq_false (by omega)
  clear hk
  by_cases hm : most < 0
  case pos =>
    have d3 : decide (most < 0) = true := decide_eq_true hm
    refine (top_range p kind x y most w3 hk13 hm).mono ?_; rintro e w4 ⟨rfl, rfl⟩
    go_wp2_with fail
    go_ret
    exact ⟨rfl, B3.out⟩
  have d3 : decide (most < 0) = false := decide_eq_false hm
  have hm0 : 0 ≤ most := by omega
  clear hm
  have HTM := Lib.hid (fun W (hr : RdE W Ax lx) => mTop_any Ax cx lx kind x y most W hr HG.out hlx hcx (by omega) hm0 hk13)
  refine (top_any p bd bn _ _ _ kind x y most w3 ST.out nS.out hnn hk13 hm0).mono ?_; rintro e w4 ⟨A1, c1, L, xs, rfl, hl1, hc1, hL, hxs, hso, hr1, b4⟩
  have hte : xs = topM (lx.map (·.e)) kind x y := top_eq hap.out hk13 x y hL hxs hso
  subst hte
  have X4 := Lib.hid (X.out.below b4)
  have B4 := Lib.hid (B3.out.tr b4)
  have R1 := Lib.hid hr1
  clear hL hxs hso b4 ST X B3 nS hap HG hr1
  go_wp2_with fail
  refine (HTM.out w4 X4.out).mono ?_; rintro e w5 ⟨A2, c2, rfl, hl2, hc2, hr2, b5⟩
  have R1 := Lib.hid (RdC.below R1.out b5)
  have R2 := Lib.hid hr2
  have B5 := Lib.hid (B4.out.tr b5)
  clear b5 hr2 X4 B4 HTM
  generalize topM (lx.map (·.e)) kind x y = TM at *
  have hmm : min TM.length most.toNat = min most.toNat TM.length := Nat.min_comm _ _
  rw [hmm] at hl1 ⊢
  obtain ⟨T, hT⟩ : ∃ q, TM.take most.toNat = q := ⟨_, rfl⟩
  have hTl : min most.toNat TM.length = T.length := by rw [← hT, List.length_take]
  rw [hT] at R1 R2
  rw [hTl] at hl1 hl2 ⊢
  clear hT hTl hmm
  unfold maxLen at hc1 hc2
  have hne : (T.length != T.length) = false := by simp
  go_wp2_with fail
  go_loopg [17] T.length (fun gg iv wr => ∃ i : Nat, i ≤ T.length ∧ T.length - i ≤ gg ∧ iv = i64 i ∧ Hid (Below w5.heap.size w5 wr))
  case atStart => exact ⟨0, by omega, by omega, rfl, Lib.hid (Below.refl _ _)⟩
  case round =>
    obtain ⟨i, hi, hgi, rfl, S⟩ := hrel
    by_cases hlt : i < T.length
    · obtain ⟨t, ht⟩ : ∃ t, T[i]? = some t := ⟨_, List.getElem?_eq_getElem hlt⟩
      obtain ⟨g1, o1, hA1, hc1'⟩ := RdC.rng (enc := entL) (RdC.below R1.out S.out) entL_length (by omega) ht
      obtain ⟨g2, o2, hA2, hc2'⟩ := RdC.rng (enc := entL) (RdC.below R2.out S.out) entL_length (by omega) ht
      subst hA1
      subst hA2
      have HC1 := Lib.hid hc1'
      have HC2 := Lib.hid hc2'
      clear hc1' hc2' ht
      obtain ⟨n, a, b⟩ := t
      go_wp2_with fail
      refine Flow.wp_region_segs Flow.Later Flow.Later.refl Flow.Later.trans [] [0, 1, 2, 3, 4, 5, 6, 7, 8] (by kernel_rfl) (by kernel_rfl) ?_
      have b' : Below wr.heap.size wr (World.drew wr) := (Below.refl _ _).drew
      generalize World.drew _ = wd at *
      have hz1 := range_below HC1.out b'
      have hz2 := range_below HC2.out b'
      have HZ1 : Hid (∀ u : World, (∃ s : Flow.Cls (Flow.Later wd), u = s.val) → u.rangeAt g1 (o1 + i * 3) (entL (n, a, b))) := by
        (show ∀ u : World, (∃ s : Flow.Cls (Flow.Later wd), u = s.val) → u.rangeAt g1 (o1 + i * 3) (entL (n, a, b)))
        rintro u ⟨s, rfl⟩
        exact fun j v hv => Flow.cls_cell (hz1 j v hv) s
      have HZ2 : Hid (∀ u : World, (∃ s : Flow.Cls (Flow.Later wd), u = s.val) → u.rangeAt g2 (o2 + i * 3) (entL (n, a, b))) := by
        (show ∀ u : World, (∃ s : Flow.Cls (Flow.Later wd), u = s.val) → u.rangeAt g2 (o2 + i * 3) (entL (n, a, b)))
        rintro u ⟨s, rfl⟩
        exact fun j v hv => Flow.cls_cell (hz2 j v hv) s
      clear hz1 hz2
      haveI nonE := Flow.cls_nonempty wd
      rw [Flow.wpSegs_nil]
      simp only [Flow.pick, List.getElem?_toArray, List.getElem?_cons_succ, List.getElem?_cons_zero]
      iterate 3 go_big_quiet_step (fail)
      refine BigFrame.wpQuiet_want rfl (fun K hK => quiet_load_mid 36 _ rfl g1 (o1 + i * 3) rfl (entL (n, a, b)) _ HZ1.out Tryz.underlying36 rfl (by kernel_rfl) (hK _ ?_))
      clear hK K
      simp only [Act.put, List.setIfInBounds_toArray, List.set_cons_succ, List.set_cons_zero, entL_arr]
      iterate 3 go_big_quiet_step (fail)
      refine BigFrame.wpQuiet_want rfl (fun K hK => quiet_load_mid 36 _ rfl g2 (o2 + i * 3) rfl (entL (n, a, b)) _ HZ2.out Tryz.underlying36 rfl (by kernel_rfl) (hK _ ?_))
      clear hK K
      simp only [Act.put, List.setIfInBounds_toArray, List.set_cons_succ, List.set_cons_zero, entL_arr]
      go_big_quiet_step (fail)
      refine wpQuiet_nil ?_
      clear nonE HZ1 HZ2
      have S5 := Lib.hid (S.out.tr b')
      clear b' S HC1 HC2
      go_wp2_with fail
      go_roundg (T.length - (i + 1))
      case measure => omega
      case rel => exact ⟨i + 1, by omega, by omega, by go_num, S5⟩
    · obtain rfl : i = T.length := by omega
      have BE := Lib.hid (B5.out.tr S.out)
      clear B5 S
      go_wp2_with fail
      go_ret
      exact ⟨rfl, BE.out⟩
end Go.Proofs.YthgefcoaaommkaaGreatDoor
