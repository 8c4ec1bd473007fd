/- Contracts of the reference's Above and Count. -/
import Derived.Test.YtcagooijkecmoaaDoorGnRSort
import Derived.Test.YtcagooijkecmoaaDoorGnCountP
namespace Go.Proofs.YtcagooijkecmoaaDoor
open Go.RowKit Go.Gn

def aboveL (xs : List (List UInt8)) : List (List UInt8) := insAll gcmp ((sortS xs).flatMap hiers)
def countL (xs : List (List UInt8)) (h : List UInt8) : Nat := countN (sortS xs) h

set_option maxRecDepth 100000 in
set_option maxHeartbeats 8000000 in
theorem refAbove_any (A : Option Addr) (c : Nat) (xs : List (List UInt8)) (w : World) (hr : Rd w A xs) (hn : xs.length ≤ 1000000000) (hl : ∀ x ∈ xs, x.length ≤ 1000000) :
    Calls Tryd.prog 24 #[.slice A xs.length c] w (GivesL w (aboveL xs)) := by
  have h1 := refSort_any A c xs w hr hn hl
  clear hr hl
  obtain ⟨R, hR⟩ : ∃ r, aboveL xs = r := ⟨_, rfl⟩
  rw [hR]
  have V : Hid (R = insAll gcmp ((sortS xs).flatMap hiers)) := hR.symm
  clear hR
  have hNC : Hid (∀ x ∈ sortS xs, check x = 0) := fun x hx => (sortS_mem hx).1
  have hNl : (sortS xs).length ≤ 4096 := by
    unfold sortS
    split
    · rename_i h
      exact Nat.le_trans (insAll_length gcmp xs) (sortE_zero h).1
    · simp
  generalize sortS xs = ns at *
  generalize (sortE xs : Int) = se at *
  go_enter Tryd.func24, Tryd.ntmps24
  go_wp2_with fail
  refine h1.mono ?_; rintro e w1 ⟨A1, c1, rfl, hr1, _, b1⟩
  have HA := Lib.hid hr1; clear hr1 h1
  go_wp2_with fail
  go_loopg [5, 6, 7, 8] ns.length (fun gg ov iv _ _ wr => ∃ (k : Nat) (D : Option Addr) (d : Nat) (out : List (List UInt8)), k ≤ ns.length ∧ ns.length - k ≤ gg ∧ iv = .int .i64 k ∧ ov = .slice D out.length d ∧ Hid (Rd wr D out ∧ SlOk D d out ∧ insAll gcmp ((ns.take k).flatMap hiers) = out) ∧ Below w1.heap.size w1 wr)
  case atStart => exact ⟨0, none, 0, [], by omega, by omega, rfl, rfl, ⟨Rd.nil, SlOk.nil, rfl⟩, Below.refl _ _⟩
  case round =>
    obtain ⟨k, D, d, out, hk, hg, rfl, rfl, O, hB⟩ := hrel
    by_cases hlt : k < ns.length
    · obtain ⟨b, o, x, rfl, _, hxk, hcell⟩ := (HA.out.below hB).at_ hlt
      have hcx := hNC.out x (List.mem_of_getElem? hxk)
      obtain ⟨hx80, hxc, hx10⟩ := (check_zero x).1 hcx
      have hsn := flat_snoc ns k x hxk
      have HSN := Lib.hid hsn; clear hsn
      have hp := refParts_any x 46 wr (by omega)
      have hfl : ((ns.take k).flatMap hiers).length ≤ 40960 := by
        have := flat_length (ns.take k) (fun y hy => hNC.out y (List.mem_of_mem_take hy))
        rw [List.length_take] at this; omega
      have hmx : Hid (∀ y ∈ (ns.take k).flatMap hiers ++ hiers x, y.length ≤ 1000000) := fun y hy => by
        rcases List.mem_append.1 hy with h | h
        · obtain ⟨z, hz, hyz⟩ := List.mem_flatMap.1 h
          have := hiers_le hyz
          have h80 := ((check_zero z).1 (hNC.out z (List.mem_of_mem_take hz))).1
          omega
        · have := hiers_le h; omega
      have HT := Lib.hid (hiers_take x)
      have htl := text_length_take 46 (parts 46 x)
      rw [text_parts] at htl
      have HTL := Lib.hid htl; clear htl
      have HHL := Lib.hid (hiers_length x)
      clear hxk hcx hxc
      generalize parts 46 x = ps at *
      generalize (ns.take k).flatMap hiers = L at *
      generalize hiers x = hx at *
      go_wp2_with fail
      refine hp.mono ?_; rintro e w2 ⟨A2, c2, rfl, hr2, hc2, b2⟩
      have HP := Lib.hid hr2; clear hr2 hp
      have O2 : Hid (Rd w2 D out ∧ SlOk D d out ∧ insAll gcmp (L ++ hx.take 0) = out) := ⟨O.out.1.below b2, O.out.2.1, by simpa using O.out.2.2⟩
      clear O
      go_wp2_with fail
      go_loopg [5, 8] ps.length (fun gg ov jv wq => ∃ (j : Nat) (D : Option Addr) (d : Nat) (out : List (List UInt8)), j ≤ ps.length ∧ ps.length - j ≤ gg ∧ jv = .int .i64 (j + 1) ∧ ov = .slice D out.length d ∧ Hid (Rd wq D out ∧ SlOk D d out ∧ insAll gcmp (L ++ hx.take j) = out) ∧ Below w2.heap.size w2 wq)
      case atStart => exact ⟨0, D, d, out, by omega, by omega, rfl, rfl, O2, Below.refl _ _⟩
      case round =>
        obtain ⟨j, D, d, out, hj, hgj, rfl, rfl, O, hBj⟩ := hrel
        by_cases hjl : j < ps.length
        · have hj1 : (j : Int) + 1 ≤ (ps.length : Int) := by omega
          have hol : out.length ≤ 50000 := by
            have := insAll_length gcmp (L ++ hx.take j)
            rw [O.out.2.2, List.length_append, List.length_take] at this
            omega
          have hox : Hid (∀ y ∈ out, y.length ≤ 1000000) := fun y hy => by
            rw [← O.out.2.2, mem_insAll gcmp_lin] at hy
            refine hmx.out y ?_
            rcases List.mem_append.1 hy with h | h
            · exact List.mem_append_left _ h
            · exact List.mem_append_right _ (List.mem_of_mem_take h)
          have hal : Hid ((ps.take (j + 1)).length = j + 1) := by (show _ = _); rw [List.length_take]; omega
          have hyl : (text 46 (ps.take (j + 1))).length ≤ 80 := by have := HTL.out (j + 1); omega
          have hte := refText_any 46 A2 c2 (ps.take (j + 1)) wr ((HP.out.below hBj).take (j + 1)) (by rw [hal.out]; omega) (by omega)
          rw [hal.out] at hte
          have HN : Hid (insAll gcmp (L ++ hx.take (j + 1)) = ins gcmp (text 46 (ps.take (j + 1))) out) := by
            show _ = _
            rw [HT.out j hjl, ← List.append_assoc, insAll_snoc, O.out.2.2]
          have HI := Lib.hid (refInsert_any D d out (text 46 (ps.take (j + 1))) wr O.out.1 O.out.2.1 (by omega) hox (by omega))
          obtain ⟨b2', o2', _, rfl, _, _, _⟩ := HP.out.at_ (k := 0) (by omega)
          generalize text 46 (ps.take (j + 1)) = y at *
          go_wp2_with fail
          refine hte.mono ?_; rintro e w3 ⟨rfl, rfl⟩
          go_wp2_with fail
          refine HI.out.mono ?_; rintro e w4 ⟨A4, c4, rfl, hr4, hs4, b4⟩
          have HO4 : Hid (Rd w4 A4 (ins gcmp y out) ∧ SlOk A4 c4 (ins gcmp y out)) := ⟨hr4, hs4⟩
          clear hr4 hs4
          go_wp2_with fail
          go_roundg (ps.length - (j + 1))
          case measure => omega
          case rel => exact ⟨j + 1, A4, c4, _, by omega, by omega, by go_num, rfl, ⟨HO4.out.1, HO4.out.2, HN.out⟩, hBj.tr b4⟩
        · obtain rfl : j = ps.length := by omega
          have hnj : ¬ (ps.length : Int) + 1 ≤ (ps.length : Int) := by omega
          have h3 := O.out.2.2
          rw [List.take_of_length_le (by rw [HHL.out]; omega)] at h3
          have O3 : Hid (insAll gcmp ((ns.take (k + 1)).flatMap hiers) = out) := by (show _ = _); rw [HSN.out, h3]
          clear h3
          go_wp2_with fail
          go_roundg (ns.length - (k + 1))
          case measure => omega
          case rel => exact ⟨k + 1, D, d, out, by omega, by omega, by go_num, rfl, ⟨O.out.1, O.out.2.1, O3.out⟩, hB.tr (b2.tr hBj)⟩
    · obtain rfl : k = ns.length := by omega
      have h3 := O.out.2.2
      rw [List.take_length] at h3
      have e3 : Hid (R = out) := V.out.trans h3
      clear h3
      go_wp2_with fail
      go_ret
      rw [e3.out]
      exact ⟨D, d, rfl, O.out.1, O.out.2.1, b1.tr hB⟩

theorem filter_snoc (p : List UInt8 → Bool) (ns : List (List UInt8)) (k : Nat) (x : List UInt8) (h : ns[k]? = some x) : ((ns.take (k + 1)).filter p).length = ((ns.take k).filter p).length + if p x then 1 else 0 := by
  obtain ⟨hl, hx⟩ := List.getElem?_eq_some_iff.1 h
  rw [List.take_succ_eq_append_getElem hl, hx, List.filter_append, List.length_append]
  cases hp : p x <;> simp [hp]
theorem filter_le (p : List UInt8 → Bool) (ns : List (List UInt8)) (k : Nat) : ((ns.take k).filter p).length ≤ k := by
  have h1 := List.length_filter_le p (ns.take k)
  rw [List.length_take] at h1; omega

set_option maxRecDepth 100000 in
set_option maxHeartbeats 4000000 in
theorem refCount_any (A : Option Addr) (c : Nat) (xs : List (List UInt8)) (h : List UInt8) (w : World) (hr : Rd w A xs) (hn : xs.length ≤ 1000000000) (hl : ∀ x ∈ xs, x.length ≤ 1000000) (lh : h.length ≤ 1000000) :
    Calls Tryd.prog 26 #[.slice A xs.length c, enS h] w fun e w' => e = .returned (.int .i64 (countL xs h)) ∧ Below w.heap.size w w' := by
  have h1 := refSort_any A c xs w hr hn hl
  clear hr hl
  obtain ⟨R, hR⟩ : ∃ r, countL xs h = r := ⟨_, rfl⟩
  rw [hR]
  have V : Hid (((sortS xs).filter fun x => within x h).length = R) := hR
  clear hR
  have hNC : Hid (∀ x ∈ sortS xs, check x = 0) := fun x hx => (sortS_mem hx).1
  have hNl : (sortS xs).length ≤ 1000000000 := Nat.le_trans (sortS_length xs) hn
  have HWI := Lib.hid (fun x W (lx : x.length ≤ 80) => refWithin_any x h W (by omega) (by omega))
  generalize sortS xs = ns at *
  generalize (sortE xs : Int) = se at *
  go_enter Tryd.func26, Tryd.ntmps26
  go_wp2_with fail
  refine h1.mono ?_; rintro e w1 ⟨A1, c1, rfl, hr1, _, b1⟩
  have HA := Lib.hid hr1; clear hr1 h1
  go_wp2_with fail
  go_loopg [7, 8] ns.length (fun gg nv iv wr => ∃ (k m : Nat), k ≤ ns.length ∧ ns.length - k ≤ gg ∧ iv = .int .i64 k ∧ nv = .int .i64 m ∧ m ≤ k ∧ Hid (((ns.take k).filter fun x => within x h).length = m) ∧ Below w1.heap.size w1 wr)
  case atStart => exact ⟨0, 0, by omega, by omega, rfl, rfl, by omega, rfl, Below.refl _ _⟩
  case round =>
    obtain ⟨k, m, hk, hg, rfl, rfl, hmk, O, hB⟩ := hrel
    by_cases hlt : k < ns.length
    · obtain ⟨b, o, x, rfl, _, hxk, hcell⟩ := (HA.out.below hB).at_ hlt
      have hcx := hNC.out x (List.mem_of_getElem? hxk)
      have hwi := HWI.out x wr ((check_zero x).1 hcx).1
      have hsn := filter_snoc (fun x => within x h) ns k x hxk
      rw [O.out] at hsn
      have HSN := Lib.hid hsn; clear hsn hxk hcx
      cases hw : within x h with
      | false =>
        rw [hw] at hwi HSN
        clear hw
        go_wp2_with fail
        refine hwi.mono ?_; rintro e w2 ⟨rfl, b2⟩
        clear hwi
        go_wp2_with fail
        go_roundg (ns.length - (k + 1))
        case measure => omega
        case rel => exact ⟨k + 1, m, by omega, by omega, by go_num, rfl, by omega, HSN.out, hB.tr b2⟩
      | true =>
        rw [hw] at hwi HSN
        clear hw
        go_wp2_with fail
        refine hwi.mono ?_; rintro e w2 ⟨rfl, b2⟩
        clear hwi
        go_wp2_with fail
        go_roundg (ns.length - (k + 1))
        case measure => omega
        case rel => exact ⟨k + 1, m + 1, by omega, by omega, by go_num, by go_num, by omega, HSN.out, hB.tr b2⟩
    · obtain rfl : k = ns.length := by omega
      have h3 := O.out
      rw [List.take_length, V.out] at h3
      subst h3
      go_wp2_with fail
      go_ret
      exact ⟨rfl, b1.tr hB⟩
end Go.Proofs.YtcagooijkecmoaaDoor
