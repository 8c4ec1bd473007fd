/- Contracts: New, Marks.Text.
   Contract of known: the examples of the document hold.
   Contracts: the statements' own own and is.
   Contracts: the statements' own is; the reference's Same, Valid, Has, Count.
   Contracts: the reference's Valid, limited, Has, Count.
   Contract: the reference's Same.
   Contracts: the reference's Rest, Next.
   Contract: the reference's Next. -/
import Derived.Test.YtcpennlojjlpaaaGreatDoorZf
import Derived.Test.YtcpennlojjlpaaaGreatDoorZb
import Derived.Test.YtcpennlojjlpaaaGreatDoorZc
namespace Go.Nr
theorem fileT_take {gs : List G} {k : Nat} {g : G} (h : gs[k]? = some g) : fileT (gs.take (k + 1)) = fileT (gs.take k) ++ (lineT g ++ [10]) := by
  obtain ⟨hl, hx⟩ := List.getElem?_eq_some_iff.1 h
  rw [List.take_succ_eq_append_getElem hl, hx, fileT_snoc]
theorem fileT_append (a b : List G) : fileT (a ++ b) = fileT a ++ fileT b := by simp [fileT]
theorem fileT_take_len (gs : List G) (k : Nat) : (fileT (gs.take k)).length ≤ (fileT gs).length := by
  conv => rhs; rw [← List.take_append_drop k gs, fileT_append, List.length_append]
  omega
end Go.Nr
namespace Go.Proofs.YtcpennlojjlpaaaGreatDoor
open Go.RowKit Go.Nr Go.Gn

theorem Bd.lt {B b : Nat} {l : List UInt8} {w : World} (h : Bd B b l w) : b < w.heap.size := h.elim (fun h => Lib.BuilderAt.lt h) (fun h => Lib.BuilderAt.lt h)
theorem newM_any (w : World) : Calls Tryz.prog 66 #[] w fun e w' => e = .returned (.pointer (some ⟨w.heap.size, 0, none⟩)) ∧ MkAt w' w.heap.size none [] ∧ Below w.heap.size w w' := by
  go_enter Tryz.func66, Tryz.ntmps66
  go_wp2_with fail
  go_ret
  exact ⟨rfl, ⟨none, 0, [], rfl, blk_new w _, own2_nil _ _ _ _, rfl, by simp⟩, below_new _ _⟩

set_option maxRecDepth 100000 in
set_option maxHeartbeats 8000000 in
theorem textM_any (p : Nat) (R : Option Nat) (gs : List G) (w : World) (h : MkAt w p R gs) (hg : ∀ g ∈ gs, ∀ r ∈ g.2.2, ok r) (hn : gs.length ≤ 100000) (hsl : ∀ g ∈ gs, g.2.2.length ≤ 100000) (hF : (fileT gs).length ≤ 100000000) (ht : Tab w) :
    Calls Tryz.prog 60 #[.pointer (some ⟨p, 0, none⟩)] w fun e w' => e = .returned (.string ⟨(fileT gs).toArray⟩) ∧ Below w.heap.size w w' := by
  obtain ⟨A, c, xs, hxs, h⟩ := h
  have hlen : xs.length = gs.length := by rw [← hxs, List.length_map]
  have hpc := blk_cell (blk_old (.cells #[.pointer none, .slice none 0 0] 128) h.at_) 0
  have H := Lib.hid h; clear h
  have HXS := Lib.hid hxs; clear hxs
  have HG := Lib.hid hg; clear hg
  have HSL := Lib.hid hsl; clear hsl
  have HT := Lib.hid ht; clear ht
  have HF := Lib.hid hF; clear hF
  rw [← hlen] at hn
  have HL := Lib.hid hlen; clear hlen
  have HBD := Lib.hid (bd_new w)
  have HB0 := Lib.hid (below_new w (.cells #[.pointer none, .slice none 0 0] 128))
  have hs0 : (w.alloc (.cells #[.pointer none, .slice none 0 0] 128)).heap.size = w.heap.size + 1 := by simp
  have HS0 := Lib.hid hs0
  clear hs0
  obtain ⟨FT, hFT⟩ : ∃ q, fileT gs = q := ⟨_, rfl⟩
  have HFT := Lib.hid hFT
  rw [hFT]
  clear hFT
  go_enter Tryz.func60, Tryz.ntmps60
  go_wp2_with fail
  clear hpc
  generalize w.alloc (.cells #[.pointer none, .slice none 0 0] 128) = u0 at *
  go_loopg [13] xs.length (fun gg iv wr => ∃ k : Nat, k ≤ xs.length ∧ xs.length - k ≤ gg ∧ iv = .int .i64 k ∧ Hid (Bd w.heap.size w.heap.size (fileT (gs.take k)) wr) ∧ Below w.heap.size w wr)
  case atStart => exact ⟨0, by omega, by omega, rfl, HBD.out, HB0.out⟩
  case round =>
    obtain ⟨k, hk, hgk, rfl, O, hB⟩ := hrel
    by_cases hlt : k < xs.length
    · have HBW := Lib.hid hB
      obtain ⟨x, hx⟩ : ∃ x, xs[k]? = some x := ⟨_, List.getElem?_eq_getElem hlt⟩
      obtain ⟨g, rfl, rfl, h1, h2, h3, _, _⟩ := (H.out.below HBW.out).at_j hx
      have hgx : gs[k]? = some x.1 := by rw [← HXS.out, List.getElem?_map, hx]; rfl
      have hft := fileT_take hgx
      have hok := HG.out x.1 (List.mem_of_getElem? hgx)
      have hsl := HSL.out x.1 (List.mem_of_getElem? hgx)
      have hset := (H.out.sets x (List.mem_of_getElem? hx)).rd
      have hle := fileT_take_len gs (k + 1)
      rw [hft] at hle
      obtain ⟨⟨x1, x2, x3⟩, x4, x5⟩ := x
      simp only at h1 h2 h3 hok hset hsl
      obtain ⟨q, hq⟩ : ∃ q, fileT (gs.take k) = q := ⟨_, rfl⟩
      obtain ⟨q', hq'⟩ : ∃ q, fileT (gs.take (k + 1)) = q := ⟨_, rfl⟩
      rw [hq, hq'] at hft
      rw [hq] at hle O
      have HFK := Lib.hid hft
      have HQ' := Lib.hid hq'
      have HOK := Lib.hid hok
      have HSET := Lib.hid hset
      have hle2 : q.length + (lineT (x1, x2, x3)).length + 1 ≤ 100000000 := by
        have := HF.out
        simp only [List.length_append, List.length_cons, List.length_nil] at hle
        omega
      have hlT : (lineT (x1, x2, x3)).length = x1.length + 1 + (if x3 = [] then 0 else (setT x3).length + 1) := by
        unfold lineT
        simp
        split <;> simp <;> omega
      clear hq hq' hft hok hset hgx hx hle
      have hszB := O.out.lt
      have HX := Lib.hid (blk_new wr (.cells #[enS x1, .bool x2, .slice x4 x3.length x5] 139))
      have HBx := Lib.hid (O.out.below (below_new wr (.cells #[enS x1, .bool x2, .slice x4 x3.length x5] 139)))
      have HBl : Hid (Below w.heap.size w (wr.alloc (.cells #[enS x1, .bool x2, .slice x4 x3.length x5] 139))) := HBW.out.trans (below_new _ _ |>.mono (by omega))
      clear O
      have hw1 := bdStr w.heap.size w.heap.size q x1 (wr.alloc (.cells #[enS x1, .bool x2, .slice x4 x3.length x5] 139)) HBx.out (by omega) (by simp; omega)
      go_wp2_with fail
      refine hw1.mono ?_; rintro e w1 ⟨rfl, hd1, b1, k1⟩
      clear hw1 h1 h2 h3
      have hx1 := k1 _ _ HX.out (by simp; omega) (fun c fz e => by cases e)
      have hc1 := blk_cell hx1 1
      have HX1 := Lib.hid hx1
      have HBx1 := Lib.hid hd1
      have HBl1 := Lib.hid (HBl.out.trans b1)
      clear hd1 b1 k1 hx1 HX HBx HBl
      by_cases hx30 : x3 = []
      · have h00 : x3.length = 0 := by rw [hx30]; rfl
        rw [if_pos hx30] at hlT
        cases x2 with
        | true =>
          have hsb2 := HBx1.out.lt
          have hw2 := bdByte w.heap.size w.heap.size _ 58 w1 HBx1.out (by simp; omega) (by omega)
          go_wp2_with fail
          refine hw2.mono ?_; rintro e w2 ⟨rfl, hd2, b2, k2⟩
          clear hw2
          have hx2 := k2 _ _ HX1.out (by simp; omega) (fun c fz e => by cases e)
          have hc1 := blk_cell hx2 1
          have hc2 := blk_cell hx2 2
          have HX2 := Lib.hid hx2
          have HBx2 := Lib.hid hd2
          have HBl2 := Lib.hid (HBl1.out.trans b2)
          clear hd2 b2 k2 hx2 HX1 HBx1 HBl1
          have hsb6 := HBx2.out.lt
          have hw6 := bdByte w.heap.size w.heap.size _ 10 w2 HBx2.out (by simp; omega) (by omega)
          go_wp2_with fail
          refine hw6.mono ?_; rintro e w6 ⟨rfl, hd6, b6, k6⟩
          clear hw6
          have hx6 := k6 _ _ HX2.out (by simp; omega) (fun c fz e => by cases e)
          have hc1 := blk_cell hx6 1
          have hc2 := blk_cell hx6 2
          have HX6 := Lib.hid hx6
          have HBx6 := Lib.hid hd6
          have HBl6 := Lib.hid (HBl2.out.trans b6)
          clear hd6 b6 k6 hx6 HX2 HBx2 HBl2
          clear hc1 hc2
          go_wp2_with fail
          go_roundg (xs.length - (k + 1))
          case measure => omega
          case rel =>
            refine ⟨k + 1, by omega, by omega, by go_num, ?_, ?_⟩
            · rw [HQ'.out, HFK.out]
              have hl : lineT (x1, true, x3) = x1 ++ 58 :: [] := by subst hx30; rfl
              rw [hl]
              have := HBx6.out
              exact Lib.hid (by simpa using this)
            · exact HBl6.out
        | false =>
          have hsb2 := HBx1.out.lt
          have hw2 := bdByte w.heap.size w.heap.size _ 33 w1 HBx1.out (by simp; omega) (by omega)
          go_wp2_with fail
          refine hw2.mono ?_; rintro e w2 ⟨rfl, hd2, b2, k2⟩
          clear hw2
          have hx2 := k2 _ _ HX1.out (by simp; omega) (fun c fz e => by cases e)
          have hc1 := blk_cell hx2 1
          have hc2 := blk_cell hx2 2
          have HX2 := Lib.hid hx2
          have HBx2 := Lib.hid hd2
          have HBl2 := Lib.hid (HBl1.out.trans b2)
          clear hd2 b2 k2 hx2 HX1 HBx1 HBl1
          have hsb6 := HBx2.out.lt
          have hw6 := bdByte w.heap.size w.heap.size _ 10 w2 HBx2.out (by simp; omega) (by omega)
          go_wp2_with fail
          refine hw6.mono ?_; rintro e w6 ⟨rfl, hd6, b6, k6⟩
          clear hw6
          have hx6 := k6 _ _ HX2.out (by simp; omega) (fun c fz e => by cases e)
          have hc1 := blk_cell hx6 1
          have hc2 := blk_cell hx6 2
          have HX6 := Lib.hid hx6
          have HBx6 := Lib.hid hd6
          have HBl6 := Lib.hid (HBl2.out.trans b6)
          clear hd6 b6 k6 hx6 HX2 HBx2 HBl2
          clear hc1 hc2
          go_wp2_with fail
          go_roundg (xs.length - (k + 1))
          case measure => omega
          case rel =>
            refine ⟨k + 1, by omega, by omega, by go_num, ?_, ?_⟩
            · rw [HQ'.out, HFK.out]
              have hl : lineT (x1, false, x3) = x1 ++ 33 :: [] := by subst hx30; rfl
              rw [hl]
              have := HBx6.out
              exact Lib.hid (by simpa using this)
            · exact HBl6.out
      · have h00 : 0 < x3.length := List.length_pos_iff.2 hx30
        have h0i : (0 : Int) < (x3.length : Int) := by omega
        rw [if_neg hx30] at hlT
        cases x2 with
        | true =>
          have hsb2 := HBx1.out.lt
          have hw2 := bdByte w.heap.size w.heap.size _ 58 w1 HBx1.out (by simp; omega) (by omega)
          go_wp2_with fail
          refine hw2.mono ?_; rintro e w2 ⟨rfl, hd2, b2, k2⟩
          clear hw2
          have hx2 := k2 _ _ HX1.out (by simp; omega) (fun c fz e => by cases e)
          have hc1 := blk_cell hx2 1
          have hc2 := blk_cell hx2 2
          have HX2 := Lib.hid hx2
          have HBx2 := Lib.hid hd2
          have HBl2 := Lib.hid (HBl1.out.trans b2)
          clear hd2 b2 k2 hx2 HX1 HBx1 HBl1
          have hsb3 := HBx2.out.lt
          have hw3 := bdByte w.heap.size w.heap.size _ 32 w2 HBx2.out (by simp; omega) (by omega)
          go_wp2_with fail
          refine hw3.mono ?_; rintro e w3 ⟨rfl, hd3, b3, k3⟩
          clear hw3
          have hx3 := k3 _ _ HX2.out (by simp; omega) (fun c fz e => by cases e)
          have hc1 := blk_cell hx3 1
          have hc2 := blk_cell hx3 2
          have HX3 := Lib.hid hx3
          have HBx3 := Lib.hid hd3
          have HBl3 := Lib.hid (HBl2.out.trans b3)
          clear hd3 b3 k3 hx3 HX2 HBx2 HBl2
          have hts := text_any x4 x5 x3 w3 (HSET.out.below HBl3.out) HOK.out hsl (HT.out.below HBl3.out)
          obtain ⟨st, hst⟩ : ∃ q, setT x3 = q := ⟨_, rfl⟩
          rw [hst] at hts hlT
          have HST := Lib.hid hst
          clear hst
          go_wp2_with fail
          refine hts.mono ?_; rintro e w4 ⟨rfl, b4⟩
          clear hts
          have HBx4 := Lib.hid (HBx3.out.below b4)
          have hsz3 := HBx3.out.lt
          have hsz4 := b4.size
          have HX4 := Lib.hid (blk_below b4 HX3.out)
          have HBl4 := Lib.hid (HBl3.out.trans (b4.mono (by omega)))
          clear b4 HBx3 HX3 HBl3 hc1 hc2
          have hw5 := bdStr w.heap.size w.heap.size _ st w4 HBx4.out (by simp; omega) (by omega)
          go_wp2_with fail
          refine hw5.mono ?_; rintro e w5 ⟨rfl, hd5, b5, k5⟩
          clear hw5
          have hx5 := k5 _ _ HX4.out (by simp; omega) (fun c fz e => by cases e)
          have HX5 := Lib.hid hx5
          have HBx5 := Lib.hid hd5
          have HBl5 := Lib.hid (HBl4.out.trans b5)
          clear hd5 b5 k5 hx5 HX4 HBx4 HBl4
          have hsb6 := HBx5.out.lt
          have hw6 := bdByte w.heap.size w.heap.size _ 10 w5 HBx5.out (by simp; omega) (by omega)
          go_wp2_with fail
          refine hw6.mono ?_; rintro e w6 ⟨rfl, hd6, b6, k6⟩
          clear hw6
          have hx6 := k6 _ _ HX5.out (by simp; omega) (fun c fz e => by cases e)
          have hc1 := blk_cell hx6 1
          have hc2 := blk_cell hx6 2
          have HX6 := Lib.hid hx6
          have HBx6 := Lib.hid hd6
          have HBl6 := Lib.hid (HBl5.out.trans b6)
          clear hd6 b6 k6 hx6 HX5 HBx5 HBl5
          clear hc1 hc2
          go_wp2_with fail
          go_roundg (xs.length - (k + 1))
          case measure => omega
          case rel =>
            refine ⟨k + 1, by omega, by omega, by go_num, ?_, ?_⟩
            · rw [HQ'.out, HFK.out]
              have hl : lineT (x1, true, x3) = x1 ++ 58 :: 32 :: st := by unfold lineT; rw [if_neg (fun e => hx30 e), HST.out]; rfl
              rw [hl]
              have := HBx6.out
              exact Lib.hid (by simpa using this)
            · exact HBl6.out
        | false =>
          have hsb2 := HBx1.out.lt
          have hw2 := bdByte w.heap.size w.heap.size _ 33 w1 HBx1.out (by simp; omega) (by omega)
          go_wp2_with fail
          refine hw2.mono ?_; rintro e w2 ⟨rfl, hd2, b2, k2⟩
          clear hw2
          have hx2 := k2 _ _ HX1.out (by simp; omega) (fun c fz e => by cases e)
          have hc1 := blk_cell hx2 1
          have hc2 := blk_cell hx2 2
          have HX2 := Lib.hid hx2
          have HBx2 := Lib.hid hd2
          have HBl2 := Lib.hid (HBl1.out.trans b2)
          clear hd2 b2 k2 hx2 HX1 HBx1 HBl1
          have hsb3 := HBx2.out.lt
          have hw3 := bdByte w.heap.size w.heap.size _ 32 w2 HBx2.out (by simp; omega) (by omega)
          go_wp2_with fail
          refine hw3.mono ?_; rintro e w3 ⟨rfl, hd3, b3, k3⟩
          clear hw3
          have hx3 := k3 _ _ HX2.out (by simp; omega) (fun c fz e => by cases e)
          have hc1 := blk_cell hx3 1
          have hc2 := blk_cell hx3 2
          have HX3 := Lib.hid hx3
          have HBx3 := Lib.hid hd3
          have HBl3 := Lib.hid (HBl2.out.trans b3)
          clear hd3 b3 k3 hx3 HX2 HBx2 HBl2
          have hts := text_any x4 x5 x3 w3 (HSET.out.below HBl3.out) HOK.out hsl (HT.out.below HBl3.out)
          obtain ⟨st, hst⟩ : ∃ q, setT x3 = q := ⟨_, rfl⟩
          rw [hst] at hts hlT
          have HST := Lib.hid hst
          clear hst
          go_wp2_with fail
          refine hts.mono ?_; rintro e w4 ⟨rfl, b4⟩
          clear hts
          have HBx4 := Lib.hid (HBx3.out.below b4)
          have hsz3 := HBx3.out.lt
          have hsz4 := b4.size
          have HX4 := Lib.hid (blk_below b4 HX3.out)
          have HBl4 := Lib.hid (HBl3.out.trans (b4.mono (by omega)))
          clear b4 HBx3 HX3 HBl3 hc1 hc2
          have hw5 := bdStr w.heap.size w.heap.size _ st w4 HBx4.out (by simp; omega) (by omega)
          go_wp2_with fail
          refine hw5.mono ?_; rintro e w5 ⟨rfl, hd5, b5, k5⟩
          clear hw5
          have hx5 := k5 _ _ HX4.out (by simp; omega) (fun c fz e => by cases e)
          have HX5 := Lib.hid hx5
          have HBx5 := Lib.hid hd5
          have HBl5 := Lib.hid (HBl4.out.trans b5)
          clear hd5 b5 k5 hx5 HX4 HBx4 HBl4
          have hsb6 := HBx5.out.lt
          have hw6 := bdByte w.heap.size w.heap.size _ 10 w5 HBx5.out (by simp; omega) (by omega)
          go_wp2_with fail
          refine hw6.mono ?_; rintro e w6 ⟨rfl, hd6, b6, k6⟩
          clear hw6
          have hx6 := k6 _ _ HX5.out (by simp; omega) (fun c fz e => by cases e)
          have hc1 := blk_cell hx6 1
          have hc2 := blk_cell hx6 2
          have HX6 := Lib.hid hx6
          have HBx6 := Lib.hid hd6
          have HBl6 := Lib.hid (HBl5.out.trans b6)
          clear hd6 b6 k6 hx6 HX5 HBx5 HBl5
          clear hc1 hc2
          go_wp2_with fail
          go_roundg (xs.length - (k + 1))
          case measure => omega
          case rel =>
            refine ⟨k + 1, by omega, by omega, by go_num, ?_, ?_⟩
            · rw [HQ'.out, HFK.out]
              have hl : lineT (x1, false, x3) = x1 ++ 33 :: 32 :: st := by unfold lineT; rw [if_neg (fun e => hx30 e), HST.out]; rfl
              rw [hl]
              have := HBx6.out
              exact Lib.hid (by simpa using this)
            · exact HBl6.out
    · obtain rfl : k = xs.length := by omega
      rw [HL.out, List.take_length, HFT.out] at O
      have hst := Tryz.Builder_String_any w.heap.size w.heap.size _ wr O.out (by have := hB.size; have := HS0.out; omega)
      have HBW := Lib.hid hB
      clear O
      go_wp2_with fail
      refine hst.mono ?_; rintro e w2 ⟨rfl, b2⟩
      clear hst
      go_wp2_with fail
      go_ret
      exact ⟨rfl, HBW.out.trans b2⟩
end Go.Proofs.YtcpennlojjlpaaaGreatDoor

namespace Go.Proofs.YtcpennlojjlpaaaGreatDoor
open Go.RowKit Go.Nr Go.Gn

theorem kn1 : fromS (pts [1, 2, 3, 5, 9, 10]) = [(1, 3), (5, 5), (9, 10)] ∧ fromE (pts [1, 2, 3, 5, 9, 10]) = 0 := by decide +kernel
theorem kn2 : setT [(1, 3), (5, 5), (9, 10)] = [49, 45, 51, 44, 53, 44, 57, 45, 49, 48] := by decide +kernel
abbrev recB : List UInt8 := [114, 101, 99, 46, 98, 111, 97, 116, 115]
theorem kn3 : subM [] recB = [(recB, true, [])] ∧ subE recB = 0 := by decide +kernel
theorem kn4 : chgM [(recB, true, [])] 0 recB 4 = [(recB, true, [(4, 4)])] ∧ chgE [(recB, true, [])] 0 recB 4 = 0 := by decide +kernel
theorem kn5 : fileT [(recB, true, [(4, 4)])] = [114, 101, 99, 46, 98, 111, 97, 116, 115, 58, 32, 52, 10] := by decide +kernel
theorem RdI.lit (w : World) (xs : List Int) (t : TypeId) : RdI (w.alloc (.cells (xs.map i64).toArray t)) (some ⟨w.heap.size, 0, none⟩) xs := fun _ => ⟨w.heap.size, 0, rfl, by simp, fun j x hj => by
  rw [Nat.zero_add, new_cell _ _ _ _ _ rfl]
  simp [hj]⟩

set_option maxRecDepth 100000 in
set_option maxHeartbeats 2000000 in
theorem known_any (w : World) (hE : Env w) (hT : Tab w) : Calls Tryz.prog 15 #[] w fun e w' => e = .returned (.bool true) ∧ Below w.heap.size w w' := by
  have h1 := of_any (some ⟨w.heap.size, 0, none⟩) 6 [1, 2, 3, 5, 9, 10] (w.alloc (.cells #[i64 1, i64 2, i64 3, i64 5, i64 9, i64 10] 3)) (RdI.lit w [1, 2, 3, 5, 9, 10] 3) (by decide) (by decide)
  rw [kn1.1, kn1.2] at h1
  have HE := Lib.hid hE
  have HT := Lib.hid hT
  clear hE hT
  go_enter Tryz.func15, Tryz.ntmps15
  go_wp2_with fail
  refine h1.mono ?_; rintro e w1 ⟨A1, c1, rfl, hA1, _, _, b1⟩
  clear h1
  have hB1 := (below_new w (.cells #[i64 1, i64 2, i64 3, i64 5, i64 9, i64 10] 3)).tr b1
  clear b1
  have hA2 := hA1.below (below_new w1 (.cells #[.slice A1 3 c1] 26))
  have hB2 := hB1.tr (below_new w1 (.cells #[.slice A1 3 c1] 26))
  have hcs := blk_new w1 (.cells #[.slice A1 3 c1] 26)
  have hnw := newM_any (w1.alloc (.cells #[.slice A1 3 c1] 26))
  have HA2 := Lib.hid hA2
  have HB2 := Lib.hid hB2
  have HCS := Lib.hid hcs
  clear hA1 hB1 hA2 hB2 hcs
  go_wp2_with fail
  refine hnw.mono ?_; rintro e w3 ⟨rfl, m3, b3⟩
  clear hnw
  have HM3 := Lib.hid m3
  have HB3 := Lib.hid (HB2.out.tr b3)
  have htx := text_any A1 c1 [(1, 3), (5, 5), (9, 10)] w3 (HA2.out.below b3) (by decide) (by decide) (HT.out.below HB3.out)
  rw [kn2] at htx
  have hcs := blk_cell (blk_below b3 HCS.out) 0
  have hs3 := HB2.out.size
  clear m3 b3 HCS HA2 HB2
  generalize (w1.alloc (.cells #[.slice A1 3 c1] 26)).heap.size = p at *
  go_wp2_with fail
  refine htx.mono ?_; rintro e w4 ⟨rfl, b4⟩
  clear htx hcs
  have HM4 := Lib.hid (HM3.out.below b4)
  have HB4 := Lib.hid (HB3.out.tr b4)
  have hsub := sub_any p none [] recB w4 HM4.out (HE.out.below HB4.out) (by decide) (by decide)
  rw [kn3.1, kn3.2] at hsub
  clear b4 HM3 HB3
  go_wp2_with fail
  refine hsub.mono ?_; rintro e w5 ⟨rfl, R5, hR5, m5, k5⟩
  clear hsub
  have HB5 := Lib.hid (HB4.out.trans (k5.below HB4.out.size hs3 (fun g e => by cases e)))
  have HR5 : Hid (∀ g, R5 = some g → w.heap.size ≤ g) := by
    intro g e
    rcases hR5 with rfl | ⟨g', e', h⟩
    · cases e
    · rw [e] at e'; cases e'; have := HB4.out.size; omega
  have hrd := read_any p R5 [(recB, true, [])] recB 4 w5 m5 (kn3.1 ▸ Okm.nil.sub recB) (by decide) (by decide)
  rw [kn4.1, kn4.2] at hrd
  clear m5 k5 hR5 HM4
  go_wp2_with fail
  refine hrd.mono ?_; rintro e w6 ⟨rfl, R6, hR6, m6, k6⟩
  clear hrd
  have HB6 := Lib.hid (HB5.out.trans (k6.below HB5.out.size hs3 HR5.out))
  have htm := textM_any p R6 [(recB, true, [(4, 4)])] w6 m6 (by decide) (by decide) (by decide) (by rw [kn5]; decide) (HT.out.below HB6.out)
  rw [kn5] at htm
  clear m6 k6 hR6
  go_wp2_with fail
  refine htm.mono ?_; rintro e w7 ⟨rfl, b7⟩
  clear htm
  go_wp2_with fail
  go_ret
  exact ⟨rfl, HB6.out.tr b7⟩
end Go.Proofs.YtcpennlojjlpaaaGreatDoor

namespace Go.Proofs.YtcpennlojjlpaaaGreatDoor
open Go.RowKit Go.Nr Go.Gn

theorem flat_take_succ {l : List Rg} {k : Nat} {r : Rg} (h : l[k]? = some r) : flat (l.take (k + 1)) = flat (l.take k) ++ [i64 r.1, i64 r.2] := by
  obtain ⟨hl, hx⟩ := List.getElem?_eq_some_iff.1 h
  rw [List.take_succ_eq_append_getElem hl, hx, flat_append, flat_one]
set_option maxRecDepth 100000 in
set_option maxHeartbeats 4000000 in
theorem own_any46 (A : Option Addr) (c : Nat) (l : List Rg) (w : World) (hr : RdR w A l) (hn : l.length ≤ 1000000) :
    Calls Tryz.prog 17 #[.slice A l.length c] w (GivesRow 42 w.heap.size w l) := by
  obtain ⟨i0, hi, hz0, hz1, hz2⟩ := info_parts rng_info
  have HR := Lib.hid hr; clear hr
  go_enter Tryz.func17, Tryz.ntmps17
  go_wp2_with fail
  go_loopg [3, 4] l.length (fun gg ov iv wr => ∃ (k : Nat) (B : Option Addr) (d : Nat), k ≤ l.length ∧ l.length - k ≤ gg ∧ iv = .int .i64 k ∧ ov = .slice B k d ∧ Hid (wr.ownsRow w.heap.size 42 2 (.slice B k d) k (flat (l.take k))) ∧ Below w.heap.size w wr)
  case atStart => exact ⟨0, none, 0, by omega, by omega, rfl, rfl, own2_nil _ _ _ _, Below.refl _ _⟩
  case round =>
    obtain ⟨k, B, d, hk, hgk, rfl, rfl, O, hB⟩ := hrel
    by_cases hlt : k < l.length
    · obtain ⟨b, o, x, rfl, hbl, hxk, hc1, hc2⟩ := HR.out.at_ hlt
      have hft := flat_take_succ hxk
      obtain ⟨x1, x2⟩ := x
      simp only at hc1 hc2
      have HFT := Lib.hid hft
      have hsz := hB.size
      clear hxk hft
      go_wp2_with fail
      refine Flow.wp_region_segs (fun u v => Below w.heap.size u v) (fun _ => Below.refl _ _) (fun u v x h k => Below.trans h k) [([0, 1, 2, 3, 4, 5, 6, 7, 8, 9, 10, 11], 12), ([], 13)] [14] (by kernel_rfl) (by kernel_rfl) ?_
      have HBD := Lib.hid hB.drew
      have HOD := Lib.hid (own_below O.out (Below.refl _ _).drew)
      clear O hB
      generalize hwd : World.drew wr = wd at *
      clear hwd
      have q1 : ∀ t : Flow.Cls (fun v => Below w.heap.size wd v), t.val.cell? ⟨b, o + k * 2, none⟩ = some (i64 x1) := fun t => Below.cellv (HBD.out.trans t.ok) hc1
      have q2 : ∀ t : Flow.Cls (fun v => Below w.heap.size wd v), t.val.cell? ⟨b, o + k * 2 + 1, none⟩ = some (i64 x2) := fun t => Below.cellv (HBD.out.trans t.ok) hc2
      haveI nonE : Nonempty (Flow.Cls (fun v => Below w.heap.size wd v)) := ⟨⟨wd, Below.refl _ _⟩⟩
      rw [Flow.wpSegs_cons]
      simp only [Flow.pick, List.getElem?_toArray, List.getElem?_cons_succ, List.getElem?_cons_zero]
      repeat go_big_quiet_step (fail)
      refine wpQuiet_nil ?_
      clear nonE q1 q2
      rw [Flow.callAt_eq]
      simp only [List.getElem?_toArray, List.getElem?_cons_succ, List.getElem?_cons_zero]
      rw [if_pos (by rfl)]
      refine Flow.wp_behind (fun K hK => ?_)
      go_wp2_with fail
      refine hK.out _ _ ⟨(Below.refl _ _).alloc HBD.out.size _, ?_⟩
      clear hK K
      rw [Flow.wpSegs_cons]
      simp only [Flow.pick]
      refine wpQuiet_nil ?_
      rw [Flow.callAt_eq]
      simp only [List.getElem?_toArray, List.getElem?_cons_succ, List.getElem?_cons_zero]
      rw [if_pos (by rfl)]
      refine Flow.wp_behind (fun K hK => ?_)
      refine wp_append_own _ _ _ 24 rfl w.heap.size 42 i0 (.agg #[i64 0, i64 0]) 2 16 Tryz.underlying24 hi hz0 hz1 hz2 rfl (by decide) (.slice B k d) k (flat (l.take k)) rfl (own_below HOD.out (below_new _ _)) ⟨wd.heap.size, 0, none⟩ 1 1 [i64 x1, i64 x2] rfl rfl ?c1 ?c2 ?c3 ?c4 ?c5 ?_
      case c1 =>
        intro j u hj
        rw [addr_addN, new_cell _ _ _ _ _ rfl]
        simpa using hj
      case c2 => intro u hu; simp at hu; rcases hu with rfl | rfl <;> rfl
      case c3 => unfold maxLen; omega
      case c4 => omega
      case c5 => have := HBD.out.size; simp; omega
      intro v' w2 hown2 hg2 _
      obtain ⟨A3, c3, rfl⟩ := own2_slice hown2
      have b2 := own_grown_below (own_below HOD.out (below_new _ (.cells #[i64 x1, i64 x2] 42))) (by have := HBD.out.size; simp; omega) hg2
      refine hK.out _ _ ⟨b2, ?_⟩
      clear hK K
      have HO2 := Lib.hid hown2
      have HB2 := Lib.hid ((HBD.out.alloc HBD.out.size (.cells #[i64 x1, i64 x2] 42)).trans b2)
      clear hown2 hg2 b2
      haveI nonE : Nonempty (Flow.Cls (fun v => Below w.heap.size w2 v)) := ⟨⟨w2, Below.refl _ _⟩⟩
      simp only [Act.put, List.setIfInBounds_toArray, List.set_cons_succ, List.set_cons_zero]
      rw [Flow.wpSegs_nil]
      simp only [Flow.pick, List.getElem?_toArray, List.getElem?_cons_succ, List.getElem?_cons_zero]
      repeat go_big_quiet_step (fail)
      refine wpQuiet_nil ?_
      clear nonE
      go_wp2_with fail
      go_roundg (l.length - (k + 1))
      case measure => omega
      case rel =>
        refine ⟨k + 1, A3, c3, by omega, by omega, by go_num, rfl, ?_, HB2.out⟩
        rw [HFT.out]
        exact HO2
    · obtain rfl : k = l.length := by omega
      rw [List.take_length] at O
      go_wp2_with fail
      go_ret
      exact ⟨B, d, rfl, O.out, hB⟩
end Go.Proofs.YtcpennlojjlpaaaGreatDoor

namespace Go.Proofs.YtcpennlojjlpaaaGreatDoor
open Go.RowKit Go.Nr Go.Gn

theorem take_eq_succ' {α : Type} {xs ys : List α} {k : Nat} {x : α} (T : xs.take k = ys.take k) (h1 : xs[k]? = some x) (h2 : ys[k]? = some x) : xs.take (k + 1) = ys.take (k + 1) := by
  obtain ⟨l1, e1⟩ := List.getElem?_eq_some_iff.1 h1
  obtain ⟨l2, e2⟩ := List.getElem?_eq_some_iff.1 h2
  rw [List.take_succ_eq_append_getElem l1, List.take_succ_eq_append_getElem l2, T, e1, e2]
theorem ne_of_at {α : Type} {xs ys : List α} {k : Nat} {x y : α} (h1 : xs[k]? = some x) (h2 : ys[k]? = some y) (hne : x ≠ y) : xs ≠ ys := fun e => by
  rw [e, h2] at h1; exact hne (Option.some.inj h1).symm
set_option maxRecDepth 100000 in
set_option maxHeartbeats 4000000 in
theorem is_any (A B : Option Addr) (c d : Nat) (l r : List Rg) (w : World) (hl : RdR w A l) (hs : SlR A c l.length) (hr : RdR w B r) (hn : l.length ≤ 1000000) (_hm : r.length ≤ 1000000) :
    Calls Tryz.prog 25 #[.agg #[.slice A l.length c], .slice B r.length d] w fun e w' => e = .returned (.bool (decide (l = r))) ∧ Below w.heap.size w w' := by
  have hrg := ranges_any A c l (w.alloc (.cells #[.slice A l.length c] 26)) (hl.below (below_new _ _)) hs hn
  have HB0 := Lib.hid (below_new w (.cells #[.slice A l.length c] 26))
  have HR := Lib.hid hr
  clear hl hs hr
  obtain ⟨res, hres⟩ : ∃ q, decide (l = r) = q := ⟨_, rfl⟩
  rw [hres]
  have V := Lib.hid hres
  clear hres
  by_cases hlen : l.length = r.length
  · have HLN := Lib.hid hlen
    have h0 : ((l.length : Int) != r.length) = false := by simp; omega
    have h00 : (l.length != r.length) = false := by simp; omega
    have h01 : r.length ≤ l.length := by omega
    have h02 : l.length ≤ r.length := by omega
    clear hlen
    go_enter Tryz.func25, Tryz.ntmps25
    go_wp2_with fail
    refine hrg.mono ?_; rintro e w1 ⟨A1, c1, rfl, hown, b1⟩
    clear hrg
    have HA := Lib.hid (RdR.of_own hown).1
    have HB1 := Lib.hid (HB0.out.tr b1)
    clear hown b1 HB0
    go_wp2_with fail
    go_loopg [6] l.length (fun gg iv wr => ∃ k n : Nat, k ≤ l.length ∧ l.length - k ≤ gg ∧ iv = .int .i64 k ∧ wr = w1.drewN n ∧ Hid (l.take k = r.take k))
    case atStart => exact ⟨0, 0, by omega, by omega, rfl, rfl, rfl⟩
    case round =>
      obtain ⟨k, n, hk, hgk, rfl, rfl, T⟩ := hrel
      by_cases hlt : k < l.length
      · obtain ⟨b1, o1, x, rfl, _, hxk, hx1, hx2⟩ := HA.out.at_ hlt
        obtain ⟨b2, o2, y, rfl, _, hyk, hy1, hy2⟩ := (HR.out.below HB1.out).at_ (show k < r.length by omega)
        have hlt2 : k < r.length := by omega
        have HX := Lib.hid hxk
        have HY := Lib.hid hyk
        clear hxk hyk
        obtain ⟨x1, x2⟩ := x
        obtain ⟨y1, y2⟩ := y
        simp only at hx1 hx2 hy1 hy2
        by_cases e1 : x1 = y1
        · subst e1
          have f1 : (x1 != x1) = false := by simp
          by_cases e2 : x2 = y2
          · subst e2
            have f2 : (x2 != x2) = false := by simp
            go_wp2_with fail
            go_quiet (fail)
            go_wp2_with fail
            go_roundg (l.length - (k + 1))
            case measure => omega
            case rel => exact ⟨k + 1, _, by omega, by omega, by go_num, rfl, take_eq_succ' T.out HX.out HY.out⟩
          · have f2 : (x2 != y2) = true := by simpa using e2
            have V2 : Hid (res = false) := by
              show res = false
              rw [← V.out]; exact decide_eq_false (ne_of_at HX.out HY.out fun e => e2 (by cases e; rfl))
            clear e2
            go_wp2_with fail
            go_quiet (fail)
            go_wp2_with fail
            go_ret
            exact ⟨ret_bool V2.out.symm, (HB1.out.drewN _).drewN _⟩
        · have f1 : (x1 != y1) = true := by simpa using e1
          have V2 : Hid (res = false) := by
            show res = false
            rw [← V.out]; exact decide_eq_false (ne_of_at HX.out HY.out fun e => e1 (by cases e; rfl))
          clear e1
          go_wp2_with fail
          go_quiet (fail)
          go_wp2_with fail
          go_ret
          exact ⟨ret_bool V2.out.symm, (HB1.out.drewN _).drewN _⟩
      · obtain rfl : k = l.length := by omega
        have V2 : Hid (res = true) := by
          show res = true
          rw [← V.out]
          have := T.out
          rw [List.take_length, HLN.out, List.take_length] at this
          exact decide_eq_true this
        go_wp2_with fail
        go_ret
        exact ⟨ret_bool V2.out.symm, HB1.out.drewN _⟩
  · have h0 : ((l.length : Int) != r.length) = true := by simp; omega
    have h00 : (l.length != r.length) = true := by simp; omega
    have V2 : Hid (res = false) := by
      show res = false
      rw [← V.out]; exact decide_eq_false fun e => hlen (by rw [e])
    clear hlen
    go_enter Tryz.func25, Tryz.ntmps25
    go_wp2_with fail
    refine hrg.mono ?_; rintro e w1 ⟨A1, c1, rfl, hown, b1⟩
    clear hrg
    go_wp2_with fail
    go_ret
    exact ⟨ret_bool V2.out.symm, HB0.out.tr b1⟩
end Go.Proofs.YtcpennlojjlpaaaGreatDoor

namespace Go.Proofs.YtcpennlojjlpaaaGreatDoor
open Go.RowKit Go.Nr Go.Gn

set_option maxHeartbeats 1000000 in
theorem refValid_any (a b : Int) (w : World) : Calls Tryz.prog 31 #[.agg #[i64 a, i64 b]] w fun e w' => e = .returned (.bool (okB (a, b))) ∧ Below w.heap.size w w' := by
  obtain ⟨r, hr⟩ : ∃ q, okB (a, b) = q := ⟨_, rfl⟩
  have V : Hid (r = (decide (1 ≤ a) && decide (b ≤ 1099511627776) && decide (a ≤ b))) := by
    show r = _
    rw [← hr, Bool.eq_iff_iff, okB_iff]
    unfold ok
    rw [M_eq]
    simp
    omega
  rw [hr]
  clear hr
  by_cases h1 : 1 ≤ a
  · by_cases h2 : b ≤ 1099511627776
    · by_cases h3 : a ≤ b
      · go_enter Tryz.func31, Tryz.ntmps31
        go_wp2_with fail
        go_ret
        exact ⟨ret_bool (by rw [V.out]; simp [h1, h2, h3]), below_new _ _⟩
      · go_enter Tryz.func31, Tryz.ntmps31
        go_wp2_with fail
        go_ret
        exact ⟨ret_bool (by rw [V.out]; simp [h3]), below_new _ _⟩
    · go_enter Tryz.func31, Tryz.ntmps31
      go_wp2_with fail
      go_ret
      exact ⟨ret_bool (by rw [V.out]; simp []; omega), below_new _ _⟩
  · go_enter Tryz.func31, Tryz.ntmps31
    go_wp2_with fail
    go_ret
    exact ⟨ret_bool (by rw [V.out]; simp []; omega), below_new _ _⟩
theorem refLimited_any (A : Option Addr) (n c : Nat) (w : World) (hn : n ≤ 4096) : Calls Tryz.prog 82 #[.slice A n c] w fun e w' => e = .returned (.tuple #[.slice A n c, i64 0]) ∧ w = w' := by
  go_enter Tryz.func82, Tryz.ntmps82
  go_wp2
  go_ret2
  exact ⟨rfl, rfl⟩
theorem has_snoc (l : List Rg) (r : Rg) (n : Int) : has (l ++ [r]) n = (has l n || (decide (r.1 ≤ n) && decide (n ≤ r.2))) := by simp [has]
theorem has_take {l : List Rg} {k : Nat} {r : Rg} (h : l[k]? = some r) (n : Int) : has (l.take (k + 1)) n = (has (l.take k) n || (decide (r.1 ≤ n) && decide (n ≤ r.2))) := by
  obtain ⟨hl, hx⟩ := List.getElem?_eq_some_iff.1 h
  rw [List.take_succ_eq_append_getElem hl, hx, has_snoc]
set_option maxRecDepth 100000 in
set_option maxHeartbeats 1000000 in
theorem refHas_any (A : Option Addr) (c : Nat) (l : List Rg) (n : Int) (w : World) (hr : RdR w A l) (hn : l.length ≤ 1000000) :
    Calls Tryz.prog 20 #[.slice A l.length c, i64 n] w fun e w' => e = .returned (.bool (has l n)) ∧ w = w' := by
  have HR := Lib.hid hr; clear hr
  obtain ⟨res, hres⟩ : ∃ q, has l n = q := ⟨_, rfl⟩
  rw [hres]
  have V := Lib.hid hres
  clear hres
  go_enter Tryz.func20, Tryz.ntmps20
  go_wp2_with fail
  go_loopg [5] l.length (fun gg iv wr => ∃ k : Nat, k ≤ l.length ∧ l.length - k ≤ gg ∧ iv = .int .i64 k ∧ wr = w ∧ Hid (has (l.take k) n = false))
  case atStart => exact ⟨0, by omega, by omega, rfl, rfl, rfl⟩
  case round =>
    obtain ⟨k, hk, hg, rfl, rfl, O⟩ := hrel
    by_cases hlt : k < l.length
    · obtain ⟨b, o, x, rfl, _, hxk, hc1, hc2⟩ := HR.out.at_ hlt
      have hst := has_take hxk n
      obtain ⟨x1, x2⟩ := x
      simp only at hc1 hc2 hst
      rw [O.out, Bool.false_or] at hst
      have HST := Lib.hid hst
      have HX := Lib.hid (List.mem_of_getElem? hxk)
      clear hst hxk
      by_cases h1 : x1 ≤ n
      · by_cases h2 : n ≤ x2
        · have V2 : Hid (res = true) := by
            show res = true
            rw [← V.out, has_iff]
            exact ⟨_, HX.out, h1, h2⟩
          go_wp2_with fail
          go_ret
          exact ⟨ret_bool V2.out.symm, rfl⟩
        · go_wp2_with fail
          go_roundg (l.length - (k + 1))
          case measure => omega
          case rel => exact ⟨k + 1, by omega, by omega, by go_num, rfl, Lib.hid (by rw [HST.out]; simp [h2])⟩
      · go_wp2_with fail
        go_roundg (l.length - (k + 1))
        case measure => omega
        case rel => exact ⟨k + 1, by omega, by omega, by go_num, rfl, Lib.hid (by rw [HST.out]; simp []; omega)⟩
    · obtain rfl : k = l.length := by omega
      rw [List.take_length, V.out] at O
      go_wp2_with fail
      go_ret
      exact ⟨ret_bool O.out.symm, rfl⟩
set_option maxRecDepth 100000 in
set_option maxHeartbeats 1000000 in
theorem refCount_any (A : Option Addr) (c : Nat) (l : List Rg) (w : World) (hr : RdR w A l) (ho : ∀ r ∈ l, ok r) (hn : l.length ≤ 1000000) :
    Calls Tryz.prog 21 #[.slice A l.length c] w fun e w' => e = .returned (i64 (count l)) ∧ Below w.heap.size w w' := by
  have HR := Lib.hid hr; clear hr
  have HO := Lib.hid ho; clear ho
  go_enter Tryz.func21, Tryz.ntmps21
  go_wp2_with fail
  go_loopg [3, 4] l.length (fun gg sv iv wr => ∃ k : Nat, k ≤ l.length ∧ l.length - k ≤ gg ∧ iv = .int .i64 k ∧ sv = .int .i64 (count (l.take k)) ∧ ∃ q : Nat, wr = w.drewN q)
  case atStart => exact ⟨0, by omega, by omega, rfl, rfl, 0, rfl⟩
  case round =>
    obtain ⟨k, hk, hg, rfl, rfl, q, rfl⟩ := hrel
    by_cases hlt : k < l.length
    · obtain ⟨b, o, x, rfl, _, hxk, hc1, hc2⟩ := HR.out.at_ hlt
      have hct := count_take hxk
      have hcr := count_rng (l.take k) fun r hr => HO.out r (List.mem_of_mem_take hr)
      have htl : (l.take k).length ≤ k := List.length_take_le _ _
      obtain ⟨x1, x2⟩ := x
      obtain ⟨ho1, ho2, ho3⟩ := HO.out (x1, x2) (List.mem_of_getElem? hxk)
      rw [M_eq] at ho3
      simp only at hc1 hc2 hct ho1 ho2 ho3
      have HCT := Lib.hid hct
      clear hct hxk
      generalize count (l.take k) = ck at *
      have hck : ck ≤ 1099511627776000000 := by omega
      clear htl
      go_wp2_with fail
      go_quiet (fail)
      go_wp2_with fail
      go_roundg (l.length - (k + 1))
      case measure => omega
      case rel => exact ⟨k + 1, by omega, by omega, by go_num, by rw [HCT.out]; exact congrArg i64 (by omega), _, rfl⟩
    · obtain rfl : k = l.length := by omega
      rw [List.take_length]
      go_wp2_with fail
      go_ret
      exact ⟨rfl, (Below.refl _ _).drewN q⟩
end Go.Proofs.YtcpennlojjlpaaaGreatDoor

namespace Go.Proofs.YtcpennlojjlpaaaGreatDoor
open Go.RowKit Go.Nr

theorem rg_neq (x y : Rg) (w : World) : (binOp .neq 37 (.agg #[i64 x.1, i64 x.2]) (.agg #[i64 y.1, i64 y.2])).run Tryz.prog w = .ok (.bool (decide (x ≠ y))) w := by
  obtain ⟨x1, x2⟩ := x
  obtain ⟨y1, y2⟩ := y
  rw [run_neq_struct, run_equalIn_agg w 9999 37 #[i64 x1, i64 x2] #[i64 y1, i64 y2] (by kernel_rfl) (by kernel_rfl)]
  simp [Program.fieldsOf, Tryz.underlying37, go_sem]
  by_cases h1 : x1 = y1 <;> by_cases h2 : x2 = y2 <;> simp [h1, h2]

set_option maxRecDepth 100000 in
set_option maxHeartbeats 2000000 in
theorem refSame_any (A B : Option Addr) (c d : Nat) (a b : List Rg) (w : World) (ha : RdR w A a) (hb : RdR w B b) (hn : a.length ≤ 1000000) (hm : b.length ≤ 1000000) :
    Calls Tryz.prog 42 #[.slice A a.length c, .slice B b.length d] w fun e w' => e = .returned (.bool (decide (a = b))) ∧ Below w.heap.size w w' := by
  by_cases hl : a.length = b.length
  · have hq1 : ((a.length : Int) == (b.length : Int)) = true := by simp [hl]
    have hq2 : ((a.length : Int) != (b.length : Int)) = false := by simp [hl]
    have HA := Lib.hid ha
    have HB := Lib.hid hb
    have HL := Lib.hid hl
    have hle : a.length ≤ b.length := by omega
    clear ha hb hl
    go_enter Tryz.func42, Tryz.ntmps42
    go_wp2_with fail
    go_loopg [5] a.length (fun gg iv wr => ∃ k : Nat, k ≤ a.length ∧ a.length - k ≤ gg ∧ iv = .int .i64 k ∧ Below w.heap.size w wr ∧ Hid (a.take k = b.take k))
    case atStart => exact ⟨0, by omega, by omega, rfl, Below.refl _ _, rfl⟩
    case round =>
      obtain ⟨k, hk, hg, rfl, hB, T⟩ := hrel
      by_cases hlt : k < a.length
      · obtain ⟨b1, o1, x, rfl, _, hxk, hx1, hx2⟩ := (HA.out.below hB).at_ hlt
        obtain ⟨b2, o2, y, rfl, _, hyk, hy1, hy2⟩ := (HB.out.below hB).at_ (k := k) (by omega)
        have hne := rg_neq x y
        have hkb : (0 : Int) ≤ (k : Int) := by omega
        have hkb2 : (k : Int) < (a.length : Int) := by omega
        have hkb3 : (k : Int) < (b.length : Int) := by omega
        by_cases hxy : x = y
        · subst hxy
          have hts := take_eq_succ hxk hyk T.out
          have HTS := Lib.hid hts
          rw [decide_eq_false (by simp)] at hne
          clear hts hxk hyk
          go_wp2_with fail
          go_quiet (fail)
          go_wp2_with fail
          go_roundg (a.length - (k + 1))
          case measure => omega
          case rel => exact ⟨k + 1, by omega, by omega, by go_num, hB.drewN _, HTS⟩
        · have V : Hid (decide (a = b) = false) := decide_eq_false fun e => hxy (by
            rw [e] at hxk
            have := hxk.symm.trans hyk
            cases this; rfl)
          rw [decide_eq_true hxy] at hne
          clear hxk hyk hxy
          go_wp2_with fail
          go_quiet (fail)
          go_wp2_with fail
          go_ret
          exact ⟨ret_bool V.out.symm, hB.drewN _⟩
      · obtain rfl : k = a.length := by omega
        have V : Hid (decide (a = b) = true) := decide_eq_true (by
          have := T.out
          rw [List.take_length, HL.out, List.take_length] at this; exact this)
        go_wp2_with fail
        go_ret
        exact ⟨ret_bool V.out.symm, hB⟩
  · have hq1 : ((a.length : Int) == (b.length : Int)) = false := by simp; omega
    have hq2 : ((a.length : Int) != (b.length : Int)) = true := by simp; omega
    have V : Hid (decide (a = b) = false) := decide_eq_false fun e => hl (by rw [e])
    clear ha hb hl
    go_enter Tryz.func42, Tryz.ntmps42
    go_wp2_with fail
    go_ret
    exact ⟨ret_bool V.out.symm, Below.refl _ _⟩

end Go.Proofs.YtcpennlojjlpaaaGreatDoor

namespace Go.Nr
/-- The gaps ahead of each range. -/
def gapsL (f : Int) : List Rg → List Rg
  | [] => []
  | r :: l => (if f < r.1 then [(f, r.1 - 1)] else []) ++ gapsL (r.2 + 1) l
def lastF (f : Int) : List Rg → Int
  | [] => f
  | r :: l => lastF (r.2 + 1) l
theorem restFrom_gaps (m : Int) : ∀ (l : List Rg) (f : Int), restFrom m f l = gapsL f l ++ (if lastF f l ≤ m then [(lastF f l, m)] else [])
  | [], f => by unfold restFrom gapsL lastF; simp
  | r :: l, f => by
    unfold restFrom gapsL lastF
    rw [restFrom_gaps m l (r.2 + 1)]
    split <;> simp
theorem gapsL_snoc : ∀ (l : List Rg) (f : Int) (r : Rg), gapsL f (l ++ [r]) = gapsL f l ++ (if lastF f l < r.1 then [(lastF f l, r.1 - 1)] else [])
  | [], f, r => by
    show (if f < r.1 then [(f, r.1 - 1)] else []) ++ [] = [] ++ _
    rw [List.append_nil, List.nil_append]; rfl
  | q :: l, f, r => by
    show gapsL f (q :: (l ++ [r])) = _
    unfold gapsL lastF
    rw [gapsL_snoc l (q.2 + 1) r]; simp
theorem lastF_snoc : ∀ (l : List Rg) (f : Int) (r : Rg), lastF f (l ++ [r]) = r.2 + 1
  | [], _, _ => rfl
  | q :: l, _, r => lastF_snoc l (q.2 + 1) r
theorem gapsL_length : ∀ (l : List Rg) (f : Int), (gapsL f l).length ≤ l.length
  | [], _ => by simp [gapsL]
  | r :: l, f => by
    have := gapsL_length l (r.2 + 1)
    unfold gapsL
    split <;> simp <;> omega
theorem lastF_rng {l : List Rg} (h : ∀ r ∈ l, ok r) : ∀ k, 1 ≤ lastF 1 (l.take k) ∧ lastF 1 (l.take k) ≤ 1099511627777 := by
  intro k
  rcases List.eq_nil_or_concat (l.take k) with e | ⟨p, q, e⟩
  · rw [e]; simp [lastF]
  · rw [e, List.concat_eq_append, lastF_snoc]
    obtain ⟨h1, h2, h3⟩ := h q (List.mem_of_mem_take (i := k) (by rw [e]; simp))
    unfold M at h3
    omega
end Go.Nr
namespace Go.Proofs.YtcpennlojjlpaaaGreatDoor
open Go.RowKit Go.Nr Go.Gn

set_option maxRecDepth 100000 in
set_option maxHeartbeats 4000000 in
theorem refRest_any (A : Option Addr) (c : Nat) (l : List Rg) (w : World) (hr : RdR w A l) (ho : ∀ r ∈ l, ok r) (hn : l.length ≤ 1000000) :
    Calls Tryz.prog 80 #[.slice A l.length c] w (GivesRow 37 w.heap.size w (restFrom M 1 l)) := by
  obtain ⟨i0, hi, hz0, hz1, hz2⟩ := info_parts rg_info
  have HR := Lib.hid hr; clear hr
  have HO := Lib.hid ho; clear ho
  have hrest := restFrom_gaps M l 1
  rw [M_eq] at hrest
  obtain ⟨RS, hRS⟩ : ∃ q, restFrom M 1 l = q := ⟨_, rfl⟩
  rw [hRS]
  rw [M_eq] at hRS
  rw [hRS] at hrest
  have V := Lib.hid hrest
  clear hRS hrest
  have app1 : ∀ (q : List Rg) (x y : Int), flat q ++ [i64 x, i64 y] = flat (q ++ [(x, y)]) := fun q x y => by rw [flat_append, flat_one]
  have APP := Lib.hid app1
  clear app1
  go_enter Tryz.func80, Tryz.ntmps80
  go_wp2_with fail
  go_loopg [3, 4, 5] l.length (fun gg ov fv iv wr => ∃ (k : Nat) (B : Option Addr) (d : Nat) (q : List Rg) (f : Int), k ≤ l.length ∧ l.length - k ≤ gg ∧ iv = .int .i64 k ∧ fv = .int .i64 f ∧ ov = .slice B q.length d ∧ Hid (wr.ownsRow w.heap.size 37 2 (.slice B q.length d) q.length (flat q)) ∧ Below w.heap.size w wr ∧ Hid (q = gapsL 1 (l.take k) ∧ f = lastF 1 (l.take k)) ∧ 1 ≤ f ∧ f ≤ 1099511627777 ∧ q.length ≤ k)
  case atStart => exact ⟨0, none, 0, [], 1, by omega, by omega, rfl, rfl, rfl, own2_nil _ _ _ _, Below.refl _ _, ⟨rfl, rfl⟩, by omega, by omega, by simp⟩
  case round =>
    obtain ⟨k, B, d, q, f, hk, hgk, rfl, rfl, rfl, O, hB, E, hf1, hf2, hql⟩ := hrel
    by_cases hlt : k < l.length
    · obtain ⟨b, o, x, rfl, hbl, hxk, hw1, hw2⟩ := HR.out.at_ hlt
      have hc1 := Below.cellv hB hw1
      have hc2 := Below.cellv hB hw2
      have HW2 := Lib.hid hw2
      obtain ⟨hl, hx⟩ := List.getElem?_eq_some_iff.1 hxk
      have hg := gapsL_snoc (l.take k) 1 x
      have hf := lastF_snoc (l.take k) 1 x
      rw [← hx, ← List.take_succ_eq_append_getElem hl, hx, ← E.out.1, ← E.out.2] at hg
      rw [← hx, ← List.take_succ_eq_append_getElem hl, hx] at hf
      obtain ⟨o1, o2, o3⟩ := HO.out x (List.mem_of_getElem? hxk)
      rw [M_eq] at o3
      obtain ⟨x1, x2⟩ := x
      simp only at hc1 hc2 hg hf o1 o2 o3 HW2
      have HG := Lib.hid hg
      have HF := Lib.hid hf
      have hsz := hB.size
      clear hxk hg hf hx hl hw1 hw2
      by_cases hfx : f < x1
      · rw [if_pos hfx] at HG
        go_wp2_with (at_builtin; refine wpList_append_own _ rfl _ _ 22 rfl w.heap.size 37 i0 (.agg #[i64 0, i64 0]) 2 16 Tryz.underlying22 hi hz0 hz1 hz2 rfl (by decide) (.slice B q.length d) q.length (flat q) rfl (own_below O.out (below_new _ _)) ⟨wr.heap.size, 0, none⟩ 1 1 [i64 f, i64 (x1 - 1)] rfl rfl ?c1 ?c2 ?c3 ?c4 ?c5 ?_)
        case c1 =>
          intro j u hj
          rw [addr_addN, new_cell _ _ _ _ _ rfl]
          simpa using hj
        case c2 => intro u hu; simp at hu; rcases hu with rfl | rfl <;> rfl
        case c3 => unfold maxLen; omega
        case c4 => omega
        case c5 => simp; omega
        intro v' w2 hown2 hg2 _
        obtain ⟨A3, c3, rfl⟩ := own2_slice hown2
        have b2 := own_grown_below (own_below O.out (below_new _ (.cells #[i64 f, i64 (x1 - 1)] 37))) (by simp; omega) hg2
        rw [APP.out] at hown2
        have hB2 := (hB.alloc (by omega) (.cells #[i64 f, i64 (x1 - 1)] 37)).trans b2
        have hc3 := Below.cellv hB2 HW2.out
        have HO2 := Lib.hid hown2
        clear hown2 hg2 b2 hc1 hc2
        go_wp2_with fail
        go_roundg (l.length - (k + 1))
        case measure => omega
        case rel =>
          refine ⟨k + 1, A3, c3, q ++ [(f, x1 - 1)], x2 + 1, by omega, by omega, by go_num, by go_num, by rw [List.length_append]; rfl, ?_, hB2, ⟨HG.out.symm, HF.out.symm⟩, by omega, by omega, by simp; omega⟩
          rw [List.length_append]
          exact HO2
      · rw [if_neg hfx, List.append_nil] at HG
        go_wp2_with fail
        go_roundg (l.length - (k + 1))
        case measure => omega
        case rel => exact ⟨k + 1, B, d, q, x2 + 1, by omega, by omega, by go_num, by go_num, rfl, O, hB, ⟨HG.out.symm, HF.out.symm⟩, by omega, by omega, by omega⟩
    · obtain rfl : k = l.length := by omega
      have hsz := hB.size
      have V2 : Hid (RS = q ++ (if f ≤ 1099511627776 then [(f, 1099511627776)] else [])) := by
        show RS = _
        have := E.out
        rw [List.take_length] at this
        rw [V.out, this.1, this.2]
      by_cases hfm : f ≤ 1099511627776
      · rw [if_pos hfm] at V2
        go_wp2_with (at_builtin; refine wpList_append_own _ rfl _ _ 22 rfl w.heap.size 37 i0 (.agg #[i64 0, i64 0]) 2 16 Tryz.underlying22 hi hz0 hz1 hz2 rfl (by decide) (.slice B q.length d) q.length (flat q) rfl (own_below O.out (below_new _ _)) ⟨wr.heap.size, 0, none⟩ 1 1 [i64 f, i64 1099511627776] rfl rfl ?c1 ?c2 ?c3 ?c4 ?c5 ?_)
        case c1 =>
          intro j u hj
          rw [addr_addN, new_cell _ _ _ _ _ rfl]
          simpa using hj
        case c2 => intro u hu; simp at hu; rcases hu with rfl | rfl <;> rfl
        case c3 => unfold maxLen; omega
        case c4 => omega
        case c5 => simp; omega
        intro v' w2 hown2 hg2 _
        obtain ⟨A3, c3, rfl⟩ := own2_slice hown2
        have b2 := own_grown_below (own_below O.out (below_new _ (.cells #[i64 f, i64 1099511627776] 37))) (by simp; omega) hg2
        rw [APP.out] at hown2
        have hB2 := (hB.alloc (by omega) (.cells #[i64 f, i64 1099511627776] 37)).trans b2
        have HO2 := Lib.hid hown2
        clear hown2 hg2 b2
        go_wp2_with fail
        go_ret
        rw [V2.out]
        refine ⟨A3, c3, by rw [List.length_append]; rfl, ?_, hB2⟩
        rw [List.length_append]
        exact HO2.out
      · rw [if_neg hfm, List.append_nil] at V2
        go_wp2_with fail
        go_ret
        rw [V2.out]
        exact ⟨B, d, rfl, O.out, hB⟩
end Go.Proofs.YtcpennlojjlpaaaGreatDoor

namespace Go.Proofs.YtcpennlojjlpaaaGreatDoor
open Go.RowKit Go.Nr Go.Gn

theorem find_take {α : Type} {p : α → Bool} {l : List α} {k : Nat} {x : α} (h : l[k]? = some x) (h0 : (l.take k).find? p = none) : (p x = true → l.find? p = some x) ∧ (p x = false → (l.take (k + 1)).find? p = none) := by
  obtain ⟨hl, hx⟩ := List.getElem?_eq_some_iff.1 h
  constructor
  · intro hp
    rw [← List.take_append_drop k l, List.find?_append, h0, Option.none_or, List.drop_eq_getElem_cons hl, hx, List.find?_cons, hp]
  · intro hp
    rw [List.take_succ_eq_append_getElem hl, hx, List.find?_append, h0, Option.none_or, List.find?_cons, hp]; rfl
set_option maxRecDepth 100000 in
set_option maxHeartbeats 4000000 in
theorem refNext_any (A : Option Addr) (c : Nat) (l : List Rg) (n : Int) (w : World) (hr : RdR w A l) (hl : Okset l) (hn : l.length ≤ 100000) :
    Calls Tryz.prog 40 #[.slice A l.length c, i64 n] w fun e w' => e = .returned (i64 (nextV l n)) ∧ Below w.heap.size w w' := by
  have hrest := refRest_any A c l w hr hl.2 (by omega)
  have hnx : nextR (restFrom M 1 l) n = nextV l n := nextR_eq hl n
  have hrl : (restFrom M 1 l).length ≤ 100001 := by
    rw [restFrom_gaps]
    have := gapsL_length l 1
    rw [List.length_append]
    split <;> simp <;> omega
  rw [← hnx]
  clear hnx hr hl
  obtain ⟨rs, hrs⟩ : ∃ q, restFrom M 1 l = q := ⟨_, rfl⟩
  rw [hrs] at hrest hrl ⊢
  clear hrs
  obtain ⟨v, hv⟩ : ∃ q, nextR rs n = q := ⟨_, rfl⟩
  have V := Lib.hid hv
  rw [hv]
  clear hv
  go_enter Tryz.func40, Tryz.ntmps40
  go_wp2_with fail
  refine hrest.mono ?_; rintro e w1 ⟨B, d, rfl, hown, b1⟩
  clear hrest
  have HB := Lib.hid (RdR.of_own hown).1
  clear hown
  go_wp2_with fail
  go_loopg [6] rs.length (fun gg iv wr => ∃ k : Nat, k ≤ rs.length ∧ rs.length - k ≤ gg ∧ iv = .int .i64 k ∧ wr = w1 ∧ Hid ((rs.take k).find? (fun r => decide (n ≤ r.2)) = none))
  case atStart => exact ⟨0, by omega, by omega, rfl, rfl, rfl⟩
  case round =>
    obtain ⟨k, hk, hgk, rfl, rfl, O⟩ := hrel
    by_cases hlt : k < rs.length
    · obtain ⟨b, o, x, rfl, _, hxk, hc1, hc2⟩ := HB.out.at_ hlt
      obtain ⟨f1, f2⟩ := find_take hxk O.out
      obtain ⟨x1, x2⟩ := x
      simp only at hc1 hc2 f1 f2
      have F1 := Lib.hid f1
      have F2 := Lib.hid f2
      clear f1 f2 hxk
      by_cases h : n ≤ x2
      · have V2 : Hid (v = max n x1) := by
          show v = _
          rw [← V.out]; unfold nextR; rw [F1.out (by simpa using h)]
        go_wp2_with fail
        go_ret
        exact ⟨by rw [V2.out]; rfl, b1⟩
      · go_wp2_with fail
        go_roundg (rs.length - (k + 1))
        case measure => omega
        case rel => exact ⟨k + 1, by omega, by omega, by go_num, rfl, F2.out (by simpa using h)⟩
    · obtain rfl : k = rs.length := by omega
      have V2 : Hid (v = 0) := by
        show v = _
        have := O.out
        rw [List.take_length] at this
        rw [← V.out]; unfold nextR; rw [this]
      go_wp2_with fail
      go_ret
      exact ⟨by rw [V2.out]; rfl, b1⟩
end Go.Proofs.YtcpennlojjlpaaaGreatDoor
