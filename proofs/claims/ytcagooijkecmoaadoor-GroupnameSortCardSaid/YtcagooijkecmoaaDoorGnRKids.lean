/- Contract of the reference's Children. -/
import Derived.Test.YtcagooijkecmoaaDoorGnRSort
import Derived.Deep.DeepCutAuto
namespace Go.Proofs.YtcagooijkecmoaaDoor
open Go.RowKit Go.Gn

theorem sortS_few (xs : List (List UInt8)) : (sortS xs).length ≤ 4096 := by
  unfold sortS
  split
  · rename_i h
    exact Nat.le_trans (insAll_length gcmp xs) (sortE_zero h).1
  · simp

set_option maxRecDepth 100000 in
set_option maxHeartbeats 8000000 in
theorem refChildren_any (A : Option Addr) (c : Nat) (xs : List (List UInt8)) (h : List UInt8) (w : World) (hr : Rd w A xs) (hn : xs.length ≤ 1000000000) (hl : ∀ x ∈ xs, x.length ≤ 1000000) (lh : h.length ≤ 1000000) :
    Calls Tryd.prog 21 #[.slice A xs.length c, enS h] w (Gives2L w (kidsS xs h) (kidsE xs h)) := by
  have HR := Lib.hid hr; clear hr
  have HL := Lib.hid hl; clear hl
  obtain ⟨KE, hKE⟩ : ∃ n, kidsE xs h = n := ⟨_, rfl⟩
  obtain ⟨KS, hKS⟩ : ∃ n, kidsS xs h = n := ⟨_, rfl⟩
  rw [hKE, hKS]
  have VE := Lib.hid hKE; clear hKE
  have VS := Lib.hid hKS; clear hKS
  by_cases hbad : h ≠ [] ∧ check h ≠ 0
  · have e1 : Hid (KE = check h) := by (show KE = _); rw [← VE.out]; unfold kidsE; rw [if_pos hbad]
    have e2 : Hid (KS = []) := by (show KS = _); rw [← VS.out]; unfold kidsS; rw [VE.out, e1.out, if_neg hbad.2]
    have hne : (!h.isEmpty) = true := by
      cases h with
      | nil => exact absurd rfl hbad.1
      | cons _ _ => rfl
    have hne2 : Hid (h ≠ []) := hbad.1
    have H1 := Lib.hid (fun W => refCheck_any h W (by omega))
    have hnz : ((check h : Int) != 0) = true := by have := hbad.2; simp; omega
    clear hbad
    rw [e1.out, e2.out]
    generalize check h = r at *
    go_enter Tryd.func21, Tryd.ntmps21
    go_wp2_with fail
    refine (H1.out _).mono ?_; rintro e w1 ⟨rfl, b1⟩
    go_wp2_with fail
    refine (H1.out _).mono ?_; rintro e w2 ⟨rfl, b2⟩
    go_wp2_with fail
    go_ret2
    exact ⟨none, 0, rfl, Rd.nil, SlOk.nil, b1.tr b2⟩
  · have e1 : Hid (KE = sortE xs) := by (show KE = _); rw [← VE.out]; unfold kidsE; rw [if_neg hbad]
    have hh : Hid (h = [] ∨ check h = 0) := by
      show h = [] ∨ check h = 0
      by_cases e : h = []
      · exact .inl e
      · exact .inr (Classical.byContradiction fun k => hbad ⟨e, k⟩)
    clear hbad
    have HS := Lib.hid (fun W (hW : Below w.heap.size w W) => refSort_any A c xs W (HR.out.below hW) hn HL.out)
    rw [← e1.out] at HS
    have hNC : Hid (∀ x ∈ sortS xs, check x = 0) := fun x hx => (sortS_mem hx).1
    have hNl : (sortS xs).length ≤ 4096 := sortS_few xs
    clear HR HL
    by_cases h0 : h = []
    · have he : h.isEmpty = true := by rw [h0]; rfl
      have hne : (!h.isEmpty) = false := by rw [he]; rfl
      have hd : Hid (depth h = 0) := by (show depth h = 0); unfold depth; rw [if_pos h0]
      have HH0 := Lib.hid h0; clear h0
      go_enter Tryd.func21, Tryd.ntmps21
      go_wp2_with fail
      have B1 := Lib.hid (Below.refl w.heap.size w)
      have h1 := HS.out _ B1.out
      by_cases hz : KE = 0
      · have e2 : Hid (KS = insAll gcmp (kids (preOf h) (sortS xs))) := by (show KS = _); rw [← VS.out]; unfold kidsS; rw [VE.out, if_pos hz, insAll_plain _ (kids_free _ _)]
        clear VE VS e1 HS
        subst hz
        generalize sortS xs = ns at *
        refine h1.mono ?_; rintro e w2 ⟨A2, c2, rfl, hr2, _, b2⟩
        have HA := Lib.hid hr2; clear hr2 h1
        have B2 := Lib.hid (B1.out.tr b2); clear b2
        go_wp2_with fail
        go_loopg [9, 10, 11] ns.length (fun gg ov iv _ wr => ∃ (k : Nat) (D : Option Addr) (d : Nat) (out : List (List UInt8)), k ≤ ns.length ∧ ns.length - k ≤ gg ∧ iv = .int .i64 k ∧ ov = .slice D out.length d ∧ Hid (Rd wr D out ∧ SlOk D d out ∧ insAll gcmp (kids (preOf h) (ns.take k)) = out) ∧ Below w2.heap.size w2 wr)
        case atStart => exact ⟨0, none, 0, [], by omega, by omega, rfl, rfl, ⟨Rd.nil, SlOk.nil, rfl⟩, Below.refl _ _⟩
        case round =>
          obtain ⟨k, D, d, out, hk, hg, rfl, rfl, O, hB⟩ := hrel
          by_cases hlt : k < ns.length
          · obtain ⟨b, o, x, rfl, _, hxk, hcell⟩ := (HA.out.below hB).at_ hlt
            have hcx := hNC.out x (List.mem_of_getElem? hxk)
            have hsn := kids_snoc (preOf h) ns k x hxk
            rw [kid_ref hcx hh.out] at hsn
            have hx80 := ((check_zero x).1 hcx).1
            have HX := Lib.hid hxk; clear hxk
            have hp := refParts_any x 46 wr (by omega)
            have hpx := parts_length_le 46 x
            have hol : out.length ≤ k := by
              have := insAll_length gcmp (kids (preOf h) (ns.take k))
              rw [O.out.2.2] at this
              have h2 := kids_length (preOf h) (ns.take k)
              rw [List.length_take] at h2; omega
            have hox : Hid (∀ y ∈ out, y.length ≤ 1000000) := fun y hy => by
              rw [← O.out.2.2, mem_insAll gcmp_lin] at hy
              have := kids_le (preOf h) (ns.take k) 80 (fun z hz => ((check_zero z).1 (hNC.out z (List.mem_of_mem_take hz))).1) y hy
              omega
            have hcell2 : Hid (∀ W, Below wr.heap.size wr W → W.cell? ⟨b, o + k, none⟩ = some (enS x)) := fun W hW => hW.cellv hcell
            have hbe : below h x = (decide (depth h < (parts 46 x).length) && (decide (h = []) || within x h)) := rfl
            rw [decide_eq_true HH0.out, Bool.true_or, Bool.and_true, hd.out] at hbe
            have hdl : 0 < (parts 46 x).length := parts_pos 46 x
            rw [decide_eq_true hdl] at hbe
            have hdl : depth h < (parts 46 x).length := by rw [hd.out]; exact hdl
            obtain ⟨y, hy⟩ : ∃ y, (parts 46 x).getD (depth h) [] = y := ⟨_, rfl⟩
            have hyk : Hid ((parts 46 x)[depth h]? = some y) := by (show _ = _); rw [List.getElem?_eq_getElem hdl, ← hy, List.getD_eq_getElem?_getD, List.getElem?_eq_getElem hdl]; rfl
            have hyl : y.length ≤ 1000000 := by have := parts_le 46 x y (List.mem_of_getElem? hyk.out); omega
            rw [hbe, if_pos rfl, hy] at hsn
            have HSN : Hid (insAll gcmp (kids (preOf h) (ns.take (k + 1))) = ins gcmp y out) := by (show _ = _); rw [hsn]; simp only []; rw [insAll_snoc, O.out.2.2]
            have HI : Hid (∀ W, Below wr.heap.size wr W → Calls Tryd.prog 45 #[.slice D out.length d, enS y] W (GivesL W (ins gcmp y out))) := fun W hW => refInsert_any D d out y W (O.out.1.below hW) O.out.2.1 (by omega) hox hyl
            have hdd : (depth h : Int) < ((parts 46 x).length : Int) := by omega
            clear hsn hbe hy
            have hd0 : depth h = 0 := hd.out
            rw [hd0] at hyk hdd hdl
            clear hd0
            generalize parts 46 x = ps at *
            go_wp2_with fail
            refine hp.mono ?_; rintro e w4 ⟨A4, c4, rfl, hr4, _, b4⟩
            have HA4 := Lib.hid hr4; clear hr4 hp
            obtain ⟨b5, o5, y5, rfl, _, hy5, hc5⟩ := HA4.out.at_ hdl
            have : y5 = y := by have := hy5.symm.trans hyk.out; cases this; rfl
            subst this
            clear hy5
            rw [Nat.add_zero] at hc5
            go_wp2_with fail
            refine (HI.out _ b4).mono ?_; rintro e w6 ⟨A6, c6, rfl, hr6, hs6, b6⟩
            have HO6 : Hid (Rd w6 A6 (ins gcmp y5 out) ∧ SlOk A6 c6 (ins gcmp y5 out)) := ⟨hr6, hs6⟩
            clear hr6 hs6
            go_wp2_with fail
            go_roundg (ns.length - (k + 1))
            case measure => omega
            case rel => exact ⟨k + 1, A6, c6, _, by omega, by omega, by go_num, rfl, ⟨HO6.out.1, HO6.out.2, HSN.out⟩, hB.tr (b4.tr b6)⟩
          · obtain rfl : k = ns.length := by omega
            have h3 := O.out.2.2
            rw [List.take_length] at h3
            have e3 : Hid (KS = out) := e2.out.trans h3
            clear h3
            go_wp2_with fail
            go_ret2
            rw [e3.out]
            exact ⟨D, d, rfl, O.out.1, O.out.2.1, B2.out.tr hB⟩
      · have e2 : Hid (KS = []) := by (show KS = _); rw [← VS.out]; unfold kidsS; rw [VE.out, if_neg hz]
        have hs0 : sortS xs = [] := by unfold sortS; rw [if_neg (by rw [← e1.out]; exact hz)]
        rw [hs0] at h1
        have hnz : ((KE : Int) != 0) = true := by simp; omega
        clear hz hs0 VE VS e1 hNC hNl HS
        refine h1.mono ?_; rintro e w2 ⟨A2, c2, rfl, hr2, _, b2⟩
        clear hr2 h1
        go_wp2_with fail
        go_ret2
        rw [e2.out]
        exact ⟨none, 0, rfl, Rd.nil, SlOk.nil, B1.out.tr b2⟩
    · have he : h.isEmpty = false := by cases h with | nil => exact absurd rfl h0 | cons _ _ => rfl
      have hne : (!h.isEmpty) = true := by rw [he]; rfl
      have hc0 : check h = 0 := by rcases hh.out with e | e; exact absurd e h0; exact e
      have H1 := Lib.hid (fun W => refCheck_ok hc0 W (by omega))
      have HP := Lib.hid (fun W => refParts_any h 46 W (by omega))
      have hpl := parts_length_le 46 h
      have hd : Hid (depth h = (parts 46 h).length) := by (show depth h = _); unfold depth; rw [if_neg h0]
      clear hc0
      have HH0 := Lib.hid h0; clear h0
      go_enter Tryd.func21, Tryd.ntmps21
      go_wp2_with fail
      refine (H1.out _).mono ?_; rintro e w1 ⟨rfl, b1⟩
      have B1 := Lib.hid b1; clear b1
      go_wp2_with fail
      have h1 := HS.out _ B1.out
      by_cases hz : KE = 0
      · have e2 : Hid (KS = insAll gcmp (kids (preOf h) (sortS xs))) := by (show KS = _); rw [← VS.out]; unfold kidsS; rw [VE.out, if_pos hz, insAll_plain _ (kids_free _ _)]
        clear VE VS e1 HS
        subst hz
        generalize sortS xs = ns at *
        refine h1.mono ?_; rintro e w2 ⟨A2, c2, rfl, hr2, _, b2⟩
        have HA := Lib.hid hr2; clear hr2 h1
        have B2 := Lib.hid (B1.out.tr b2); clear b2
        go_wp2_with fail
        refine (HP.out _).mono ?_; rintro e w3 ⟨A3, c3, rfl, _, _, b3⟩
        have HA3 := Lib.hid (HA.out.below b3)
        have B3 := Lib.hid (B2.out.tr b3); clear b3
        rw [← hd.out] at hpl ⊢
        go_wp2_with fail
        go_loopg [9, 10, 11] ns.length (fun gg ov iv _ wr => ∃ (k : Nat) (D : Option Addr) (d : Nat) (out : List (List UInt8)), k ≤ ns.length ∧ ns.length - k ≤ gg ∧ iv = .int .i64 k ∧ ov = .slice D out.length d ∧ Hid (Rd wr D out ∧ SlOk D d out ∧ insAll gcmp (kids (preOf h) (ns.take k)) = out) ∧ Below w3.heap.size w3 wr)
        case atStart => exact ⟨0, none, 0, [], by omega, by omega, rfl, rfl, ⟨Rd.nil, SlOk.nil, rfl⟩, Below.refl _ _⟩
        case round =>
          obtain ⟨k, D, d, out, hk, hg, rfl, rfl, O, hB⟩ := hrel
          by_cases hlt : k < ns.length
          · obtain ⟨b, o, x, rfl, _, hxk, hcell⟩ := (HA3.out.below hB).at_ hlt
            have hcx := hNC.out x (List.mem_of_getElem? hxk)
            have hsn := kids_snoc (preOf h) ns k x hxk
            rw [kid_ref hcx hh.out] at hsn
            have hx80 := ((check_zero x).1 hcx).1
            have HX := Lib.hid hxk; clear hxk
            have hp := refParts_any x 46 wr (by omega)
            have hpx := parts_length_le 46 x
            have hol : out.length ≤ k := by
              have := insAll_length gcmp (kids (preOf h) (ns.take k))
              rw [O.out.2.2] at this
              have h2 := kids_length (preOf h) (ns.take k)
              rw [List.length_take] at h2; omega
            have hox : Hid (∀ y ∈ out, y.length ≤ 1000000) := fun y hy => by
              rw [← O.out.2.2, mem_insAll gcmp_lin] at hy
              have := kids_le (preOf h) (ns.take k) 80 (fun z hz => ((check_zero z).1 (hNC.out z (List.mem_of_mem_take hz))).1) y hy
              omega
            have hcell2 : Hid (∀ W, Below wr.heap.size wr W → W.cell? ⟨b, o + k, none⟩ = some (enS x)) := fun W hW => hW.cellv hcell
            have HWI := Lib.hid (fun W => refWithin_any x h W (by omega) (by omega))
            have hbe : below h x = (decide (depth h < (parts 46 x).length) && (decide (h = []) || within x h)) := rfl
            rw [decide_eq_false HH0.out, Bool.false_or] at hbe
            by_cases hdl : depth h < (parts 46 x).length
            · rw [decide_eq_true hdl, Bool.true_and] at hbe
              cases hw : within x h with
              | false =>
                rw [hw] at hbe
                rw [hbe, if_neg Bool.false_ne_true] at hsn
                have HSN : Hid (kids (preOf h) (ns.take (k + 1)) = kids (preOf h) (ns.take k)) := by (show _ = _); rw [hsn]; simp only [List.append_nil]
                clear hsn hbe
                generalize parts 46 x = ps at *
                go_wp2_with fail
                refine hp.mono ?_; rintro e w4 ⟨A4, c4, rfl, hr4, _, b4⟩
                have HA4 := Lib.hid hr4; clear hr4 hp
                have hcl := hcell2.out w4 b4
                have hdd : (depth h : Int) < (ps.length : Int) := by omega
                go_wp2_with fail
                have hwi := HWI.out w4
                rw [hw] at hwi
                refine hwi.mono ?_; rintro e w5 ⟨rfl, b5'⟩
                clear hwi hcl
                go_wp2_with fail
                go_roundg (ns.length - (k + 1))
                case measure => omega
                case rel => exact ⟨k + 1, D, d, out, by omega, by omega, by go_num, rfl, ⟨O.out.1.below (b4.tr b5'), O.out.2.1, by rw [HSN.out]; exact O.out.2.2⟩, hB.tr (b4.tr b5')⟩
              | true =>
                rw [hw] at hbe
                obtain ⟨y, hy⟩ : ∃ y, (parts 46 x).getD (depth h) [] = y := ⟨_, rfl⟩
                have hyk : Hid ((parts 46 x)[depth h]? = some y) := by (show _ = _); rw [List.getElem?_eq_getElem hdl, ← hy, List.getD_eq_getElem?_getD, List.getElem?_eq_getElem hdl]; rfl
                have hyl : y.length ≤ 1000000 := by have := parts_le 46 x y (List.mem_of_getElem? hyk.out); omega
                rw [hbe, if_pos rfl, hy] at hsn
                have HSN : Hid (insAll gcmp (kids (preOf h) (ns.take (k + 1))) = ins gcmp y out) := by (show _ = _); rw [hsn]; simp only []; rw [insAll_snoc, O.out.2.2]
                have HI : Hid (∀ W, Below wr.heap.size wr W → Calls Tryd.prog 45 #[.slice D out.length d, enS y] W (GivesL W (ins gcmp y out))) := fun W hW => refInsert_any D d out y W (O.out.1.below hW) O.out.2.1 (by omega) hox hyl
                have hdd : (depth h : Int) < ((parts 46 x).length : Int) := by omega
                clear hsn hbe hy
                generalize parts 46 x = ps at *
                go_wp2_with fail
                refine hp.mono ?_; rintro e w4 ⟨A4, c4, rfl, hr4, _, b4⟩
                have HA4 := Lib.hid hr4; clear hr4 hp
                obtain ⟨b5, o5, y5, rfl, _, hy5, hc5⟩ := HA4.out.at_ hdl
                have : y5 = y := by have := hy5.symm.trans hyk.out; cases this; rfl
                subst this
                clear hy5
                have hcl := hcell2.out w4 b4
                have hnd : depth h < ps.length := hdl
                go_wp2_with fail
                have hwi := HWI.out w4
                rw [hw] at hwi
                refine hwi.mono ?_; rintro e w5 ⟨rfl, b5'⟩
                have hc5' := Below.cellv b5' hc5
                clear hwi hcl hc5
                go_wp2_with fail
                refine (HI.out _ (b4.tr b5')).mono ?_; rintro e w6 ⟨A6, c6, rfl, hr6, hs6, b6⟩
                have HO6 : Hid (Rd w6 A6 (ins gcmp y5 out) ∧ SlOk A6 c6 (ins gcmp y5 out)) := ⟨hr6, hs6⟩
                clear hr6 hs6
                go_wp2_with fail
                go_roundg (ns.length - (k + 1))
                case measure => omega
                case rel => exact ⟨k + 1, A6, c6, _, by omega, by omega, by go_num, rfl, ⟨HO6.out.1, HO6.out.2, HSN.out⟩, hB.tr ((b4.tr b5').tr b6)⟩
            · rw [decide_eq_false hdl, Bool.false_and] at hbe
              rw [hbe, if_neg Bool.false_ne_true] at hsn
              have HSN : Hid (kids (preOf h) (ns.take (k + 1)) = kids (preOf h) (ns.take k)) := by (show _ = _); rw [hsn]; simp only [List.append_nil]
              clear hsn hbe
              generalize parts 46 x = ps at *
              go_wp2_with fail
              refine hp.mono ?_; rintro e w4 ⟨A4, c4, rfl, hr4, _, b4⟩
              have HA4 := Lib.hid hr4; clear hr4 hp
              have hdd : ¬ (depth h : Int) < (ps.length : Int) := by omega
              go_wp2_with fail
              go_roundg (ns.length - (k + 1))
              case measure => omega
              case rel => exact ⟨k + 1, D, d, out, by omega, by omega, by go_num, rfl, ⟨O.out.1.below b4, O.out.2.1, by rw [HSN.out]; exact O.out.2.2⟩, hB.tr b4⟩
          · obtain rfl : k = ns.length := by omega
            have h3 := O.out.2.2
            rw [List.take_length] at h3
            have e3 : Hid (KS = out) := e2.out.trans h3
            clear h3
            go_wp2_with fail
            go_ret2
            rw [e3.out]
            exact ⟨D, d, rfl, O.out.1, O.out.2.1, B3.out.tr hB⟩
      · have e2 : Hid (KS = []) := by (show KS = _); rw [← VS.out]; unfold kidsS; rw [VE.out, if_neg hz]
        have hs0 : sortS xs = [] := by unfold sortS; rw [if_neg (by rw [← e1.out]; exact hz)]
        rw [hs0] at h1
        have hnz : ((KE : Int) != 0) = true := by simp; omega
        clear hz hs0 VE VS e1 hNC hNl HS
        refine h1.mono ?_; rintro e w2 ⟨A2, c2, rfl, hr2, _, b2⟩
        clear hr2 h1
        go_wp2_with fail
        go_ret2
        rw [e2.out]
        exact ⟨none, 0, rfl, Rd.nil, SlOk.nil, B1.out.tr b2⟩
end Go.Proofs.YtcagooijkecmoaaDoor
