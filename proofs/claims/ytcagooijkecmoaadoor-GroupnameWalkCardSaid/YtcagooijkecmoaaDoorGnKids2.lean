/- Contract of Children: the walk. -/
import Derived.Test.YtcagooijkecmoaaDoorGnKids
import Derived.Deep.DeepCutAuto
namespace Go.Proofs.YtcagooijkecmoaaDoor
open Go.RowKit Go.Gn Go.Sort

set_option maxRecDepth 100000 in
set_option maxHeartbeats 8000000 in
theorem children_any (A : Option Addr) (c : Nat) (xs : List (List UInt8)) (h : List UInt8) (w : World) (hE : Env w) (hr : Rd w A xs) (hn : xs.length ≤ 1000000000) (hl : ∀ x ∈ xs, x.length ≤ 1000000000) (lh : h.length ≤ 1000000000) :
    Calls Tryd.prog 20 #[.slice A xs.length c, enS h] w (Gives2 w (kidsS xs h) (kidsE xs h)) := by
  have HR := Lib.hid hr; clear hr
  have HL := Lib.hid hl; clear hl
  obtain ⟨KE, hKE⟩ : ∃ n, kidsE xs h = n := ⟨_, rfl⟩
  obtain ⟨KS, hKS⟩ : ∃ n, kidsS xs h = n := ⟨_, rfl⟩
  rw [hKE, hKS]
  have VE := Lib.hid hKE; clear hKE
  have VS := Lib.hid hKS; clear hKS
  go_enter Tryd.func20, Tryd.ntmps20
  go_upto_if 16 with fail
  go_cut [6] (fun s6 wz => s6 = enS (preOf h) ∧ Below w.heap.size w wz ∧ Hid (KE = sortE xs))
  case first =>
    by_cases h0 : h = []
    · subst h0
      have e1 : Hid (KE = sortE xs) := by (show KE = _); rw [← VE.out]; unfold kidsE; rw [if_neg (by simp)]
      go_wp2_with fail
      go_meet
      exact ⟨rfl, Below.refl _ _, e1⟩
    · have hne : (!h.isEmpty) = true := by cases h with | nil => exact absurd rfl h0 | cons _ _ => rfl
      rw [hne]
      by_cases hz : check h = 0
      · have e1 : Hid (KE = sortE xs) := by (show KE = _); rw [← VE.out]; unfold kidsE; rw [if_neg (by simp [hz])]
        have e2 : Hid (preOf h = h ++ [46]) := by (show preOf h = _); unfold preOf; rw [if_neg h0]
        have h1 := check_ok hz w hE lh
        clear h0 hz
        go_wp2_with fail
        refine h1.mono ?_; rintro e w1 ⟨rfl, b1⟩
        go_wp2_with fail
        go_meet
        exact ⟨by rw [e2.out]; exact str_congr (bcat h [46]), b1, e1⟩
      · have e1 : Hid (KE = check h) := by (show KE = _); rw [← VE.out]; unfold kidsE; rw [if_pos ⟨h0, hz⟩]
        have e2 : Hid (KS = []) := by (show KS = _); rw [← VS.out]; unfold kidsS; rw [VE.out, e1.out, if_neg hz]
        have h1 := check_any h w hE lh
        have hnz : ((check h : Int) != 0) = true := by simp; omega
        clear h0 hz
        generalize check h = r at *
        go_wp2_with fail
        refine h1.mono ?_; rintro e w1 ⟨rfl, b1⟩
        go_wp2_with fail
        go_ret2
        rw [e1.out, e2.out]
        exact ⟨none, 0, rfl, Rd.nil, by simp, b1⟩
  obtain ⟨rfl, hB, e1⟩ := hcut
  have h1 := gsort_any A c xs _ (hE.below hB) (HR.out.below hB) hn HL.out
  rw [← e1.out] at h1
  have hNC : Hid (∀ x ∈ sortS xs, x.length ≤ 80) := fun x hx => ((check_zero x).1 (sortS_mem hx).1).1
  have hNl : (sortS xs).length ≤ 1000000000 := Nat.le_trans (sortS_length xs) hn
  have HE := Lib.hid hE; clear hE
  clear HR HL
  by_cases hz : KE = 0
  · have e2 : Hid (KS = insAll scmp (kids (preOf h) (sortS xs))) := by (show KS = _); rw [← VS.out]; unfold kidsS; rw [VE.out, if_pos hz]
    clear VE VS e1
    subst hz
    generalize preOf h = p at *
    generalize sortS xs = ns at *
    go_wp2_with fail
    refine h1.mono ?_; rintro e w1 ⟨A1, c1, rfl, hA1, _, b1⟩
    have HB1 := Lib.hid (hB.tr b1)
    have HA1 := Lib.hid hA1; clear hA1 h1 b1 hB
    go_wp2_with fail
    go_loopg [10, 34] ns.length (fun gg kv iv wr => ∃ k : Nat, k ≤ ns.length ∧ ns.length - k ≤ gg ∧ iv = .int .i64 k ∧ Below w1.heap.size w1 wr ∧ wr.ownsRow w1.heap.size 9 1 kv (kids p (ns.take k)).length ((kids p (ns.take k)).map enS))
    case atStart => exact ⟨0, by omega, by omega, rfl, Below.refl _ _, World.ownsRow_nil _ _ _ _⟩
    case round =>
      obtain ⟨k, hk, hg, rfl, hBr, hown⟩ := hrel
      by_cases hlt : k < ns.length
      · obtain ⟨b, o, x, rfl, _, hxk, hcell⟩ := (HA1.out.below hBr).at_ hlt
        have hsn := kids_snoc p ns k x hxk
        have hxl := hNC.out x (List.mem_of_getElem? hxk)
        have HX := Lib.hid hxk; clear hxk
        have hcut := cutPrefix_any x p wr
        have HO := Lib.hid hown; clear hown
        have hkl := kids_length p (ns.take k)
        rw [List.length_take] at hkl
        cases hq : Lib.hasPrefix x p with
        | false =>
          have hk0 : kid p x = none := by unfold kid; rw [hq, if_neg Bool.false_ne_true]
          rw [hk0] at hsn
          simp only [List.append_nil] at hsn
          have HS := Lib.hid hsn; clear hsn hk0
          rw [hq] at hcut
          clear hq
          generalize Lib.trimPrefix x p = tr at *
          go_wp2_with fail
          refine hcut.mono ?_; rintro e w2 ⟨rfl, rfl⟩
          go_wp2_with fail
          go_roundg (ns.length - (k + 1))
          case measure => omega
          case rel => exact ⟨k + 1, by omega, by omega, by go_num, hBr, by rw [HS.out]; exact HO.out⟩
        | true =>
          have hk0 : kid p x = some ((parts 46 (x.drop p.length)).headD []) := by unfold kid; rw [hq, if_pos rfl]
          rw [hk0] at hsn
          have HS := Lib.hid hsn; clear hsn hk0
          have htr : Lib.trimPrefix x p = x.drop p.length := by unfold Lib.trimPrefix; rw [hq, if_pos rfl]
          rw [hq, htr] at hcut
          have hdl : (x.drop p.length).length ≤ 80 := by simp; omega
          have hp := parts_any (x.drop p.length) wr (HE.out.below (HB1.out.tr hBr)) (by omega)
          have hpl := parts_length_le 46 (x.drop p.length)
          clear hq htr
          obtain ⟨y, r, hyr⟩ := List.exists_cons_of_ne_nil (parts_ne_nil 46 (x.drop p.length))
          rw [hyr] at hp hpl HS
          simp only [List.headD_cons] at HS
          simp only [List.length_cons] at hp hpl
          have hc0 : (wr.alloc (.cells ((y :: r).map enS).toArray 9)).cell? ⟨wr.heap.size, 0, none⟩ = some (enS y) := by
            rw [blk_cell (blk_new wr _)]; simp
          have hb0 := below_new wr (.cells ((y :: r).map enS).toArray 9)
          clear hyr
          generalize x.drop p.length = dx at *
          generalize hw3 : wr.alloc (.cells ((y :: r).map enS).toArray 9) = w3 at *
          have HO3 : Hid (w3.ownsRow w1.heap.size 9 1 u10 (kids p (ns.take k)).length ((kids p (ns.take k)).map enS)) := by
            show w3.ownsRow w1.heap.size 9 1 u10 _ _
            rw [← hw3]; exact HO.out.alloc _
          clear hw3 HO
          generalize kids p (ns.take k) = ks at *
          go_wp2_with fail
          refine hcut.mono ?_; rintro e w2 ⟨rfl, rfl⟩
          go_wp2_with fail
          refine hp.mono ?_; rintro e w2 ⟨rfl, hw2⟩
          obtain rfl : w3 = w2 := hw2.symm
          go_wp2_with (at_builtin; (refine wpList_app1 w3 rfl _ _ rfl w1.heap.size _ ks y HO3.out rfl rfl (by omega) (by have := hBr.size; have := hb0.size; omega) ?_); intro v1 w5 hown1 hb1)
          have HO1 := Lib.hid hown1; clear hown1 HO3
          go_wp2_with fail
          go_roundg (ns.length - (k + 1))
          case measure => omega
          case rel => exact ⟨k + 1, by omega, by omega, by go_num, (hBr.tr hb0).trans hb1, by rw [HS.out]; exact HO1.out⟩
      · obtain rfl : k = ns.length := by omega
        rw [List.take_length] at hown
        have hzl := kids_length p ns
        generalize kids p ns = zs at *
        by_cases h0 : zs = []
        · subst h0
          obtain ⟨A2, c2, rfl⟩ := own_slice hown
          clear hown
          have e3 : Hid (KS = []) := e2.out
          simp only [List.length_nil]
          go_wp2_with fail
          refine (Tryd.slices_Sort_string_none A2 c2 _).mono ?_; rintro e w3 ⟨rfl, rfl⟩
          go_wp2_with fail
          refine (Tryd.slices_Compact_string_empty A2 c2 _).mono ?_; rintro e w4 ⟨rfl, rfl⟩
          go_wp2_with fail
          go_ret2
          rw [e3.out]
          exact ⟨A2, c2, rfl, Rd.nil, by simp, HB1.out.tr hBr⟩
        · have hpos : 0 < zs.length := List.length_pos_iff.2 h0
          obtain ⟨A2, c2, rfl⟩ := own_slice hown
          obtain ⟨g, rfl⟩ : ∃ g, A2 = some ⟨g, 0, none⟩ := by
            rcases hown.2 with ⟨e1, e2⟩ | ⟨g, cap, cur, e1, _⟩
            · omega
            · cases e1; exact ⟨g, rfl⟩
          obtain ⟨hH, hg1, hg2, _, hcap⟩ := holds_of_own hown
          clear hown
          have hsc := sortCompact (B := w1.heap.size) hH hg1 hg2 hcap (by omega)
          clear hH h0
          go_wp2_with fail
          refine hsc.mono ?_; rintro e w3 ⟨rfl, b3, hco⟩
          go_wp2_with fail
          refine hco.mono ?_; rintro e w4 ⟨rfl, hR4, b4⟩
          have HR4 := Lib.hid hR4; clear hR4 hsc hco
          go_wp2_with fail
          go_ret2
          rw [e2.out]
          exact ⟨_, _, rfl, HR4.out, Nat.le_trans (insAll_length scmp zs) hcap, HB1.out.tr ((hBr.trans b3).trans b4)⟩
  · have e2 : Hid (KS = []) := by (show KS = _); rw [← VS.out]; unfold kidsS; rw [VE.out, if_neg hz]
    have hs0 : sortS xs = [] := by unfold sortS; rw [if_neg (by rw [← e1.out]; exact hz)]
    rw [hs0] at h1
    have hnz : ((KE : Int) != 0) = true := by simp; omega
    clear hz hs0 VE VS e1 hNC hNl
    go_wp2_with fail
    refine h1.mono ?_; rintro e w1 ⟨A1, c1, rfl, hA1, _, b1⟩
    clear hA1
    go_wp2_with fail
    go_ret2
    rw [e2.out]
    exact ⟨none, 0, rfl, Rd.nil, by simp, hB.tr b1⟩
end Go.Proofs.YtcagooijkecmoaaDoor
