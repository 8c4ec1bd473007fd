/- Contract of Walk. -/
import Derived.Test.YtcagooijkecmoaaDoorGnWalkF
import Derived.Test.YtcagooijkecmoaaDoorGnCountQ
namespace Go.Proofs.YtcagooijkecmoaaDoor
open Go.RowKit Go.Gn Go.Maps

theorem own_below {H : Type} {w w' : World} {P : Program} {k : TypeId} {R : Value → Option (DataW H × List MemPlace)} {b n : Nat} {D : DataW H} (h : w.ownsMap P k R b n D) (hb : Below w.heap.size w w') : w'.ownsMap P k R b n D := by
  have hl := h.lt
  obtain ⟨es, clock, hb', F, hs, hD⟩ := h
  exact ⟨es, clock, (hb.block b hl).trans hb', F, hs, hD⟩
theorem grown_cell {w w' : World} {row b o : Nat} {v : Value} (hg : w.grownBy w' (some row)) (hne : b ≠ row) (h : w.cell? ⟨b, o, none⟩ = some v) : w'.cell? ⟨b, o, none⟩ = some v := by
  have hl := World.block_lt_of_cell? w _ h
  have := hg.block b hl (by simp; exact hne)
  simp only [World.cell?, this] at h ⊢
  exact h
theorem sortS_four (xs : List (List UInt8)) : (sortS xs).length ≤ 4096 := by
  unfold sortS
  split
  · rename_i h
    exact Nat.le_trans (insAll_length gcmp xs) (sortE_zero h).1
  · simp
/-- What the map is good for, at a world. -/
structure Cnt (bM bC : Nat) (M : List (List UInt8)) (w : World) : Prop where
  cell : w.cell? ⟨bC, 0, none⟩ = some (.map (some bM))
  own : ∃ (nn : Nat) (D : DataW Unit), nn ≤ M.length ∧ w.ownsMap Tryd.prog 9 (plainElem Tryd.prog 3) bM nn D ∧ Tally D M
theorem Cnt.below {bM bC : Nat} {M : List (List UInt8)} {w w' : World} (h : Cnt bM bC M w) (hb : Below w.heap.size w w') : Cnt bM bC M w' := by
  obtain ⟨nn, D, h1, h2, h3⟩ := h.own
  exact ⟨Below.cellv hb h.cell, nn, D, h1, own_below h2 hb, h3⟩
/-- What Walk hands back. -/
def GivesWalk (w : World) (xs : List (List UInt8)) (e : Ending) (w' : World) : Prop :=
  ∃ (bH bC : Nat) (A2 : Option Addr) (c2 bM nn : Nat) (D : DataW Unit), e = .returned (.func (.func 52) #[] #[.pointer (some ⟨bH, 0, none⟩), .pointer (some ⟨bC, 0, none⟩)]) ∧
    WData w.heap.size w'.heap.size bH bC A2 c2 bM nn D (aboveL xs) w' ∧ (∀ z ∈ aboveL xs, D.atKey (.string z) (.lit (.int .i64 0)) = .lit (.int .i64 (countL xs z : Nat))) ∧ Below w.heap.size w w'

set_option maxRecDepth 100000 in
set_option maxHeartbeats 8000000 in
theorem gwalk_any (A : Option Addr) (c : Nat) (xs : List (List UInt8)) (w : World) (hE : Env w) (hr : Rd w A xs) (hn : xs.length ≤ 1000000000) (hl : ∀ x ∈ xs, x.length ≤ 1000000000) :
    Calls Tryd.prog 25 #[.slice A xs.length c] w (GivesWalk w xs) := by
  have h1 := gsort_any A c xs w hE hr hn hl
  have hNC : Hid (∀ x ∈ sortS xs, check x = 0) := fun x hx => (sortS_mem hx).1
  have hNl : (sortS xs).length ≤ 4096 := sortS_four xs
  have HE := Lib.hid hE; clear hE hr hl
  unfold GivesWalk
  obtain ⟨R, hR⟩ : ∃ r, aboveL xs = r := ⟨_, rfl⟩
  rw [hR]
  have VR : Hid (R = insAll gcmp ((sortS xs).flatMap hiers)) := hR.symm
  have VC : Hid (∀ z, countL xs z = ((sortS xs).flatMap hiers).count z) := fun z => (count_flat (sortS xs) hNC.out z).symm
  clear hR
  generalize sortS xs = ns at *
  have hmm := @run_makeMap Tryd.prog
  go_enter Tryd.func25, Tryd.ntmps25
  go_wp2_with fail
  refine h1.mono ?_; rintro e w1 ⟨A1, c1, rfl, hr1, _, b1⟩
  have HA := Lib.hid hr1; clear hr1 h1
  have hc0 : Cnt w1.heap.size (w1.heap.size + 1) [] ((w1.alloc (.map #[] 0)).alloc (.cells #[.map (some w1.heap.size)] 41)) := by
    refine ⟨?_, 0, .map [], Nat.le_refl _, (World.ownsMap_made w1 _ _ _).alloc _, tally_start⟩
    have := blk_cell (blk_new (w1.alloc (.map #[] 0)) (.cells #[.map (some w1.heap.size)] 41)) 0
    rw [World.size_alloc] at this
    rw [this]; rfl
  have hb0 : Below w1.heap.size w1 ((w1.alloc (.map #[] 0)).alloc (.cells #[.map (some w1.heap.size)] 41)) := ((Below.refl _ w1).alloc (Nat.le_refl _) _).alloc (by simp) _
  have HC0 := Lib.hid hc0; clear hc0
  go_wp2_with fail
  clear hmm
  have hs0 : w1.heap.size + 2 ≤ ((w1.alloc (.map #[] 0)).alloc (.cells #[.map (some w1.heap.size)] 41)).heap.size := by simp
  generalize (w1.alloc (.map #[] 0)).alloc (.cells #[.map (some w1.heap.size)] 41) = w2 at *
  obtain ⟨bM, hbM⟩ : ∃ b, w1.heap.size = b := ⟨_, rfl⟩
  have hsz : w.heap.size ≤ bM := by rw [← hbM]; exact b1.size
  rw [hbM] at HC0 hs0 ⊢
  have hBw : Below w.heap.size w w2 := b1.tr hb0
  have hb0' : Below bM w1 w2 := hbM ▸ hb0
  have HbM := Lib.hid hbM; clear hbM hb0 b1
  go_loopg [7, 8, 9, 19] ns.length (fun gg _ _ _ iv wr => ∃ (k : Nat) (M : List (List UInt8)), k ≤ ns.length ∧ ns.length - k ≤ gg ∧ iv = .int .i64 k ∧ Hid (Cnt bM (bM + 1) M wr ∧ M.Perm ((ns.take k).flatMap hiers)) ∧ Below bM w2 wr)
  case atStart => exact ⟨0, [], by omega, by omega, rfl, ⟨HC0.out, by simp⟩, Below.refl _ _⟩
  case round =>
    obtain ⟨k, M, hk, hg, rfl, O, hB⟩ := hrel
    have hAr : Hid (Rd wr A1 ns) := HA.out.below (by rw [HbM.out]; exact hb0'.trans hB)
    by_cases hlt : k < ns.length
    · obtain ⟨b, o, x, rfl, _, hxk, hcell⟩ := hAr.out.at_ hlt
      have hcx := hNC.out x (List.mem_of_getElem? hxk)
      have hx80 := ((check_zero x).1 hcx).1
      have hx10 := ((check_zero x).1 hcx).2.2
      have hpp := parts_pos 46 x
      have hsn := flat_snoc ns k x hxk
      have HSN := Lib.hid hsn
      have hfl : ((ns.take k).flatMap hiers).length ≤ 40960 := by
        have := flat_length (ns.take k) (fun y hy => hNC.out y (List.mem_of_mem_take hy))
        rw [List.length_take] at this; omega
      have HCX := Lib.hid hcx
      have hstart : x = text 46 ((parts 46 x).take (parts 46 x).length) := by rw [List.take_length, text_parts]
      have HX := Lib.hid hxk
      have HST := Lib.hid hstart
      clear hcx hsn hxk hstart
      go_wp2_with fail
      go_loopg [8, 9] (parts 46 x).length (fun gg hv ov wq => ∃ (j : Nat) (M : List (List UInt8)), j ≤ (parts 46 x).length ∧ j ≤ gg ∧ ((0 < j ∧ ov = .bool true ∧ hv = enS (text 46 ((parts 46 x).take j))) ∨ (j = 0 ∧ ov = .bool false)) ∧ Hid (Cnt bM (bM + 1) M wq ∧ M.Perm ((ns.take k).flatMap hiers ++ (hiers x).drop j)) ∧ Below bM w2 wq)
      case atStart => exact ⟨(parts 46 x).length, M, Nat.le_refl _, Nat.le_refl _, .inl ⟨hpp, rfl, by rw [← HST.out]⟩, ⟨O.out.1, by rw [List.drop_of_length_le (by rw [hiers_length]; omega), List.append_nil]; exact O.out.2⟩, hB⟩
      case round =>
        obtain ⟨j, M, hj, hgj, hcs, O, hBj⟩ := hrel
        rcases hcs with ⟨hj0, rfl, rfl⟩ | ⟨rfl, rfl⟩
        · have hdr := hiers_drop x j hj0 hj
          have hck := check_take HCX.out j hj0
          have hpt := parts_take (a := x) j hj0
          have hml : M.length ≤ 50000 := by
            rw [O.out.2.length_eq, List.length_append, List.length_drop, hiers_length]; omega
          have hhl : (text 46 ((parts 46 x).take j)).length ≤ 80 := by
            have := text_length_take 46 (parts 46 x) j
            rw [text_parts] at this; omega
          have hpB : parentB (text 46 ((parts 46 x).take j)) = decide (1 < j) := by
            unfold parentB
            rw [hck, hpt, List.length_take, Nat.min_eq_left hj]; rfl
          have hpS : parentS (text 46 ((parts 46 x).take j)) = if 1 < j then text 46 ((parts 46 x).take (j - 1)) else [] := by
            unfold parentS
            rw [hpB, hpt, take_drop_last, Nat.min_eq_left hj]
            by_cases h1j : 1 < j <;> simp [h1j]
          have HPA := Lib.hid (fun W (hW : Below w.heap.size w W) => parent_any (text 46 ((parts 46 x).take j)) W (HE.out.below hW) (by omega))
          rw [hpB, hpS] at HPA
          have HDR := Lib.hid hdr
          clear hdr hck hpt hpB hpS hcell
          obtain ⟨nn, D, hnn, hown, hT⟩ := O.out.1.own
          have hcC := O.out.1.cell
          generalize text 46 ((parts 46 x).take j) = hh at *
          have hkey := Go.WideMaps.keyOf_string_mk (P := Tryd.prog) (s := ⟨hh.toArray⟩) Tryd.underlying9 (show hh.toArray.size ≤ maxLen by simp [maxLen]; omega)
          obtain ⟨cx, hrun, hatx, _⟩ := hown.lookup_int (string_keyed Tryd.underlying9) Tryd.underlying41 Tryd.underlying3 (zeroInt _) hkey
          have hcx2 : cx = (M.count hh : Nat) := by
            have h1 := hT.at_ hh
            have h2 : D.atKey (.string hh) (.lit (.int .i64 0)) = .lit (.int .i64 cx) := hatx
            rw [h1] at h2
            cases h2; rfl
          have hcm : M.count hh ≤ 50000 := Nat.le_trans List.count_le_length hml
          subst hcx2
          have hT2 := tally_step hT hh
          generalize M.count hh = m at *
          have HO := Lib.hid hown
          have HT2 := Lib.hid hT2
          have HKY := Lib.hid hkey
          have wfm : (Lit.int .i64 ((m : Int) + 1)).wf = true := WalkArith.wf_i64 (by omega)
          clear hatx hT hown hT2 hkey
          go_wp2_with (at_mapUpdate; (refine wpList_mapUpdate_own _ rfl _ _ _ 41 rfl 9 3 (string_keyed Tryd.underlying9) Tryd.underlying41 _ bM nn D rfl HO.out (by unfold maxLen; omega) _ _ _ rfl rfl HKY.out _ [] (plainElem_int Tryd.underlying3 wfm) ?_); intro w4 hown4 hgrow4)
          have hsz4 : wr.heap.size ≤ w4.heap.size := hgrow4.size
          have hB4 : Below bM wr w4 := (Below.refl bM wr).grown hgrow4 (by have := hBj.size; omega) (fun j hj => by cases hj; exact Nat.le_refl _)
          have hC4 : Hid (Cnt bM (bM + 1) (M ++ [hh]) w4) := ⟨grown_cell hgrow4 (by omega) hcC, nn + 1, _, by simp; omega, hown4, HT2.out⟩
          have hBw4 : Below w.heap.size w w4 := hBw.trans ((hBj.trans hB4).mono hsz)
          have hpm : Hid ((M ++ [hh]).Perm ((ns.take k).flatMap hiers ++ (hiers x).drop (j - 1))) := by
            show List.Perm _ _
            rw [HDR.out]; exact perm_step O.out.2
          have hpa := HPA.out w4 hBw4
          clear hown4 HO HT2 hrun hcC hgrow4
          by_cases h1j : 1 < j
          · rw [if_pos h1j, decide_eq_true h1j] at hpa
            go_wp2_with fail
            refine hpa.mono ?_; rintro e w5 ⟨rfl, b5⟩
            clear hpa
            go_wp2_with fail
            go_roundg (j - 1)
            case measure => omega
            case rel => exact ⟨j - 1, M ++ [hh], by omega, by omega, .inl ⟨by omega, rfl, rfl⟩, ⟨hC4.out.below b5, hpm.out⟩, (hBj.trans hB4).trans (b5.mono (by have := hBj.size; omega))⟩
          · rw [if_neg h1j, decide_eq_false h1j] at hpa
            go_wp2_with fail
            refine hpa.mono ?_; rintro e w5 ⟨rfl, b5⟩
            clear hpa
            go_wp2_with fail
            go_roundg (j - 1)
            case measure => omega
            case rel => exact ⟨j - 1, M ++ [hh], by omega, by omega, .inr ⟨by omega, rfl⟩, ⟨hC4.out.below b5, hpm.out⟩, (hBj.trans hB4).trans (b5.mono (by have := hBj.size; omega))⟩
        · go_wp2_with fail
          go_roundg (ns.length - (k + 1))
          case measure => omega
          case rel => exact ⟨k + 1, M, by omega, by omega, by go_num, ⟨O.out.1, by rw [HSN.out]; simpa using O.out.2⟩, hBj⟩
    · obtain rfl : k = ns.length := by omega
      have hpm := O.out.2
      rw [List.take_length] at hpm
      obtain ⟨nn, D, hnn, hown, hT⟩ := O.out.1.own
      have hcC := O.out.1.cell
      have hT' := tally_perm hT hpm
      have hml : nn ≤ 1000000 := by
        have h1 := flat_length ns hNC.out
        have h2 := hpm.length_eq
        omega
      have hBr : Below w.heap.size w wr := hBw.trans (hB.mono hsz)
      have hle : ∀ x ∈ ns.flatMap hiers, x.length ≤ 80 := fun x hx => by
        obtain ⟨a, ha, hxa⟩ := List.mem_flatMap.1 hx
        have := hiers_le hxa
        have := ((check_zero a).1 (hNC.out a ha)).1
        omega
      have hkeys := keys_any bM wr
      have hsf := sortedFunc_any bM nn D (ns.flatMap hiers) hT' hle wr (HE.out.below hBr) hown (Nat.le_trans hown.size_le hml)
      rw [← VR.out] at hsf
      have HAT : Hid (∀ z, D.atKey (.string z) (.lit (.int .i64 0)) = .lit (.int .i64 (countL xs z : Nat))) := fun z => by rw [VC.out]; exact hT'.at_ z
      have HOW := Lib.hid hown
      have hbl := hown.lt
      clear hT hT' hown hpm hle
      go_wp2_with fail
      refine hkeys.mono ?_; rintro e w4 ⟨rfl, rfl⟩
      clear hkeys
      go_wp2_with fail
      refine hsf.mono ?_; rintro e w5 ⟨A5, c5, rfl, hS5, b5⟩
      have HS5 := Lib.hid hS5
      have HC5 := Lib.hid (Below.cellv b5 hcC)
      have HO5 := Lib.hid (own_below HOW.out b5)
      clear hS5 hcC hsf
      go_wp2_with fail
      go_ret
      have hn5 := below_new w5 (.cells #[.slice A5 R.length c5] 24)
      refine ⟨w5.heap.size, bM + 1, A5, c5, bM, nn, D, rfl, ⟨⟨?_, ?_, ?_⟩, ⟨by omega, ?_, Below.cellv hn5 HC5.out⟩, ⟨hsz, ?_, own_below HO5.out hn5⟩, ?_⟩, fun z _ => HAT.out z, (hBr.tr b5).tr hn5⟩
      · have := (hBr.tr b5).size; omega
      · simp
      · rw [blk_cell (blk_new w5 _) 0]; rfl
      · have := World.block_lt_of_cell? _ _ HC5.out
        simp at this ⊢; omega
      · have := b5.size; simp; omega
      · intro hp
        obtain ⟨bb, o, e, h1, h2, h3⟩ := HS5.out hp
        refine ⟨bb, o, e, by have := hBr.size; omega, by simp; omega, fun j x hj => Below.cellv hn5 (h3 j x hj)⟩
end Go.Proofs.YtcagooijkecmoaaDoor
