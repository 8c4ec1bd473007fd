/- Contract: the reference's File.
   Contract: Marks' Groups.
   An argument of the statements of this chapter laid open: a slice of operations. -/
import Derived.Test.YtcpennlojjlpaaaGreatDoorZl
import Derived.Test.YtcpennlojjlpaaaGreatDoorZh
import Derived.Test.YtcpennlojjlpaaaGreatDoorZg
import Derived.Test.YtcpennlojjlpaaaGreatDoorZk
import Derived.Test.YtcpennlojjlpaaaGreatDoorZc
import Derived.Test.YtcpennlojjlpaaaGreatDoorZi
import Derived.Deep.Slices
import Derived.Deep.Fields
import Derived.ChangeSame
namespace Go.Proofs.YtcpennlojjlpaaaGreatDoor
open Go.RowKit Go.Nr Go.Gn

theorem cat58 : (⟨#[58]⟩ : ByteArray) = ⟨[58].toArray⟩ := rfl
theorem cat33 : (⟨#[33]⟩ : ByteArray) = ⟨[33].toArray⟩ := rfl
theorem cat32 : (⟨#[32]⟩ : ByteArray) = ⟨[32].toArray⟩ := rfl
theorem cat10 : (⟨#[10]⟩ : ByteArray) = ⟨[10].toArray⟩ := rfl
set_option maxRecDepth 100000 in
set_option maxHeartbeats 4000000 in
theorem refFile_any (A : Option Addr) (c : Nat) (gs : List G) (w : World) (h : RdG w A gs) (hg : ∀ g ∈ gs, ∀ r ∈ g.2.2, ok r) (hn : gs.length ≤ 100000) (hsl : ∀ g ∈ gs, g.2.2.length ≤ 100000) (hF : (fileT gs).length ≤ 100000000) :
    Calls Tryz.prog 92 #[.slice A gs.length c] w fun e w' => e = .returned (.string ⟨(fileT gs).toArray⟩) ∧ ∃ m, w' = w.drewN m := by
  have H := Lib.hid h; clear h
  have HG := Lib.hid hg; clear hg
  have HSL := Lib.hid hsl; clear hsl
  have HF := Lib.hid hF; clear hF
  obtain ⟨FT, hFT⟩ : ∃ q, fileT gs = q := ⟨_, rfl⟩
  have HFT := Lib.hid hFT
  rw [hFT]
  clear hFT
  go_enter Tryz.func92, Tryz.ntmps92
  go_wp2_with fail
  go_loopg [3, 4] gs.length (fun gg sv iv wr => ∃ (k m : Nat) (q : List UInt8), k ≤ gs.length ∧ gs.length - k ≤ gg ∧ iv = .int .i64 k ∧ sv = enS q ∧ Hid (q = fileT (gs.take k)) ∧ wr = w.drewN m)
  case atStart => exact ⟨0, 0, [], by omega, by omega, rfl, rfl, rfl, rfl⟩
  case round =>
    obtain ⟨k, m, q, hk, hgk, rfl, rfl, Q, rfl⟩ := hrel
    by_cases hlt : k < gs.length
    · obtain ⟨b, o, x, B, f, rfl, hx, h1, h2, h3, hset⟩ := H.out.at_ hlt
      have hft := fileT_take hx
      rw [← Q.out] at hft
      have hle := fileT_take_len gs (k + 1)
      rw [hft] at hle
      have hok := HG.out x (List.mem_of_getElem? hx)
      have hll := HSL.out x (List.mem_of_getElem? hx)
      obtain ⟨x1, x2, x3⟩ := x
      simp only at h1 h2 h3 hok hset hll
      have hlT : (lineT (x1, x2, x3)).length = x1.length + 1 + (if x3 = [] then 0 else (setT x3).length + 1) := by
        unfold lineT
        simp
        split <;> simp <;> omega
      have hle2 : q.length + (lineT (x1, x2, x3)).length + 1 ≤ 100000000 := by
        have := HF.out
        simp only [List.length_append, List.length_cons, List.length_nil] at hle
        omega
      have hTx := Lib.hid (fun W (hW : RdR W B x3) => refText_any B f x3 W hW hok hll)
      have HSET := Lib.hid hset.1
      have HFK := Lib.hid hft
      have hk0 : (0 : Int) ≤ (k : Int) := by omega
      have hk1 : (k : Int) < (gs.length : Int) := by omega
      clear hft hok hset hx hle Q
      by_cases hx30 : x3 = []
      · subst hx30
        simp only [List.length_nil] at h3
        rw [if_pos rfl] at hlT
        cases x2 with
        | true =>
          go_wp2_with fail
          go_roundg (gs.length - (k + 1))
          case measure => omega
          case rel =>
            have hl : lineT (x1, true, ([] : List Rg)) = x1 ++ 58 :: [] := by rfl
            exact ⟨k + 1, _, q ++ x1 ++ [58] ++ [10], by omega, by omega, by go_num, str_congr (by simp only [bcat]), (by show q ++ x1 ++ [58] ++ [10] = _; rw [HFK.out, hl]; simp), rfl⟩
        | false =>
          go_wp2_with fail
          go_roundg (gs.length - (k + 1))
          case measure => omega
          case rel =>
            have hl : lineT (x1, false, ([] : List Rg)) = x1 ++ 33 :: [] := by rfl
            exact ⟨k + 1, _, q ++ x1 ++ [33] ++ [10], by omega, by omega, by go_num, str_congr (by simp only [bcat]), (by show q ++ x1 ++ [33] ++ [10] = _; rw [HFK.out, hl]; simp), rfl⟩
      · have h00 : 0 < x3.length := List.length_pos_iff.2 hx30
        have h0i : (0 : Int) < (x3.length : Int) := by omega
        rw [if_neg hx30] at hlT
        obtain ⟨st, hst⟩ : ∃ q, setT x3 = q := ⟨_, rfl⟩
        rw [hst] at hTx hlT
        have HST := Lib.hid hst
        have HX30 := Lib.hid hx30
        clear hst hx30
        cases x2 with
        | true =>
          go_wp2_with fail
          refine (hTx.out _ (HSET.out.below ((Below.refl _ _).drewN m))).mono ?_; rintro e w1 ⟨rfl, m1, rfl⟩
          go_wp2_with fail
          go_roundg (gs.length - (k + 1))
          case measure => omega
          case rel =>
            have hl : lineT (x1, true, x3) = x1 ++ 58 :: (32 :: st) := by unfold lineT; rw [if_neg HX30.out, HST.out]; rfl
            exact ⟨k + 1, _, q ++ x1 ++ [58] ++ [32] ++ st ++ [10], by omega, by omega, by go_num, str_congr (by simp only [bcat]), (by show q ++ x1 ++ [58] ++ [32] ++ st ++ [10] = _; rw [HFK.out, hl]; simp), rfl⟩
        | false =>
          go_wp2_with fail
          refine (hTx.out _ (HSET.out.below ((Below.refl _ _).drewN m))).mono ?_; rintro e w1 ⟨rfl, m1, rfl⟩
          go_wp2_with fail
          go_roundg (gs.length - (k + 1))
          case measure => omega
          case rel =>
            have hl : lineT (x1, false, x3) = x1 ++ 33 :: (32 :: st) := by unfold lineT; rw [if_neg HX30.out, HST.out]; rfl
            exact ⟨k + 1, _, q ++ x1 ++ [33] ++ [32] ++ st ++ [10], by omega, by omega, by go_num, str_congr (by simp only [bcat]), (by show q ++ x1 ++ [33] ++ [32] ++ st ++ [10] = _; rw [HFK.out, hl]; simp), rfl⟩
    · obtain rfl : k = gs.length := by omega
      have hq : q = FT := by rw [Q.out, List.take_length, HFT.out]
      subst hq
      go_wp2_with fail
      go_ret
      exact ⟨rfl, m, rfl⟩
end Go.Proofs.YtcpennlojjlpaaaGreatDoor

namespace Go.Proofs.YtcpennlojjlpaaaGreatDoor
open Go.RowKit Go.Nr Go.Gn

set_option maxRecDepth 100000 in
set_option maxHeartbeats 4000000 in
theorem groups_any (p : Nat) (R : Option Nat) (gs : List G) (w : World) (h : MkAt w p R gs) (hn : gs.length ≤ 100000) :
    Calls Tryz.prog 61 #[.pointer (some ⟨p, 0, none⟩)] w (Gives w (gs.map (·.1))) := by
  obtain ⟨A, c, xs, hxs, h⟩ := h
  have hlen : xs.length = gs.length := by rw [← hxs, List.length_map]
  obtain ⟨i0, hi, hz0, hz1, hz2⟩ := info_parts str_info
  have hpc := blk_cell h.at_ 0
  have H := Lib.hid h; clear h
  have HXS := Lib.hid hxs; clear hxs
  rw [← hlen] at hn
  have HL := Lib.hid hlen; clear hlen
  have HN : Hid ((gs.map (·.1)).length = xs.length) := by (show _ = _); rw [List.length_map, HL.out]
  go_enter Tryz.func61, Tryz.ntmps61
  go_wp2_with (at_make; refine wpList_make_own _ rfl _ _ 98 rfl w.heap.size 9 i0 (.string ByteArray.empty) 1 Tryz.underlying98 hi hz0 hz1 .i64 .i64 _ xs.length rfl rfl rfl (by rw [hz2]; omega) (by unfold maxLen; omega) (by simp) ?_)
  intro w1 hown1 hg1
  have hb1 : Below w.heap.size w w1 := (Below.refl _ _).grown hg1 (Nat.le_refl _) (fun k e => by cases e)
  have hpc1 := blk_cell (blk_below hb1 H.out.at_) 0
  have HO1 := Lib.hid hown1
  have HB1 := Lib.hid hb1
  clear hown1 hg1 hpc hb1
  go_wp2_with fail
  clear hpc1
  go_loopg [3, 19] xs.length (fun gg ov iv wr => ∃ (k : Nat) (v : Value), k ≤ xs.length ∧ xs.length - k ≤ gg ∧ iv = .int .i64 k ∧ ov = v ∧ Hid (wr.ownsRow w.heap.size 9 1 v ((gs.map (·.1)).take k).length (((gs.map (·.1)).take k).map enS)) ∧ Below w.heap.size w wr)
  case atStart => exact ⟨0, _, by omega, by omega, rfl, rfl, HO1.out, HB1.out⟩
  case round =>
    obtain ⟨k, v, hk, hgk, rfl, rfl, O, hB⟩ := hrel
    by_cases hlt : k < xs.length
    · obtain ⟨x, hx⟩ : ∃ x, xs[k]? = some x := ⟨_, List.getElem?_eq_getElem hlt⟩
      obtain ⟨g, rfl, rfl, h1, h2, h3, _, _⟩ := (H.out.below hB).at_j hx
      have hgx : (gs.map (·.1))[k]? = some x.1.1 := by rw [← HXS.out, List.getElem?_map, List.getElem?_map, hx]; rfl
      obtain ⟨hl', hx'⟩ := List.getElem?_eq_some_iff.1 hgx
      have hts : Hid ((gs.map (·.1)).take (k + 1) = (gs.map (·.1)).take k ++ [x.1.1]) := by
        show _ = _
        rw [List.take_succ_eq_append_getElem hl', hx']
      have htl : ((gs.map (·.1)).take k).length ≤ 100000 := by rw [List.length_take]; omega
      obtain ⟨⟨x1, x2, x3⟩, x4, x5⟩ := x
      simp only at h1 h2 h3 hts
      have HB := Lib.hid hB
      have hsz := hB.size
      clear hx hgx hl' hx' hB
      generalize (gs.map (·.1)).take k = out at *
      go_wp2_with (at_builtin; refine wpList_append_own _ rfl _ _ 98 rfl w.heap.size 9 i0 (.string ByteArray.empty) 1 16 Tryz.underlying98 hi hz0 hz1 hz2 rfl (by decide) _ out.length (out.map enS) rfl (own_below (own_below O.out (below_new _ _)) (below_new _ _)) ⟨wr.heap.size + 1, 0, none⟩ 1 1 [enS x1] rfl rfl ?c1 ?c2 ?c3 ?c4 ?c5 ?_)
      case c2 => rfl
      case c3 => unfold maxLen; omega
      case c4 => omega
      case c5 => omega
      intro v1 w5 hown1 hg5 _
      have hoo : ((wr.alloc (.cells #[enS x1, .bool x2, .slice x4 x3.length x5] 139)).alloc (.cells #[enS x1] 9)).ownsRow w.heap.size 9 1 _ out.length (out.map enS) := own_below (own_below O.out (below_new _ _)) (below_new _ _)
      have hb1 := own_grown_below hoo (by simp; omega) hg5
      have HO5 : Hid (w5.ownsRow w.heap.size 9 1 v1 (out ++ [x1]).length ((out ++ [x1]).map enS)) := (by simpa using hown1 : w5.ownsRow w.heap.size 9 1 v1 (out ++ [x1]).length ((out ++ [x1]).map enS))
      have HB5 := Lib.hid (((HB.out.tr (below_new _ (.cells #[enS x1, .bool x2, .slice x4 x3.length x5] 139))).tr (below_new _ (.cells #[enS x1] 9))).trans hb1)
      clear hoo hg5
      clear hown1 hb1 h1 h2 h3
      go_wp2_with fail
      go_roundg (xs.length - (k + 1))
      case measure => omega
      case rel => exact ⟨k + 1, v1, by omega, by omega, by go_num, rfl, (by rw [hts.out]; exact HO5), HB5.out⟩
    · obtain rfl : k = xs.length := by omega
      have O2 := O.out
      rw [List.take_of_length_le (by rw [HN.out]; omega)] at O2
      have HO := Lib.hid O2
      clear O O2
      go_wp2_with fail
      go_ret
      exact gives_own HO.out hB
end Go.Proofs.YtcpennlojjlpaaaGreatDoor

namespace Go.Proofs.YtcpennlojjlpaaaGreatDoor
open Go.ChangeShapes Go.WideShapes Go.ChangeAt Go.RowKit Go.Nr Go.Deep Go.Joins

section
variable {H : Type} {enc : TypeId × Value → H} {P : Program} {W : World}
/-- A slice of operations among the arguments. -/
theorem open_ops {r : Reach} {b0 base : Nat} {sp : Nat → Bool} {held : Bool} {t e : TypeId} {f0 f1 f2 : Field} {v : Value} {d : DataW H} {p : List MemPlace} (ht : P.underlying t = some (.slice e)) (he : P.underlying e = some (.struct #[f0, f1, f2]))
    (ce : P.cellsOf e = 3) (hone : oneCellFields P #[f0, f1, f2] = true) (u0 : P.underlying f0.type = some (.int .i64)) (u1 : P.underlying f1.type = some .string) (u2 : P.underlying f2.type = some (.int .i64))
    (hv : Value.okWide P W r b0 t v) (h : DataW.Trod enc P W base sp held t v d p) :
    ∃ (A : Option Addr) (c : Nat) (l : List Op3), v = .slice A l.length c ∧ RdO W A l ∧ l.length ≤ c ∧ c ≤ maxLen ∧ ∀ x ∈ l, x.2.1.length ≤ 9223372036854775807 := by
  obtain ⟨a0, len, cap, rfl⟩ := okWide_slice ht hv
  obtain ⟨fuel, hf⟩ := h
  obtain ⟨o0, k0⟩ := hone_of hone 0 f0 rfl
  obtain ⟨o1, k1⟩ := hone_of hone 1 f1 rfl
  obtain ⟨o2, k2⟩ := hone_of hone 2 f2 rfl
  rcases open_slice ht hf with ⟨hcs, _⟩ | ⟨a, len', cap', m, n, D, Pl, hcs, _, hl, hm, hmm, _, hi⟩
  · cases hcs
    exact ⟨none, 0, [], rfl, fun h => absurd h (by simp), by simp, by simp [maxLen], by simp⟩
  · cases hcs
    have hlm : len ≤ m := by rw [hmm]; split <;> omega
    have each : ∀ i, i < len → ∃ q : Op3, W.cell? (a.add (i * 3)) = some (i64 q.1) ∧ W.cell? (a.add (i * 3 + 1)) = some (enS q.2.1) ∧ W.cell? (a.add (i * 3 + 2)) = some (i64 q.2.2) ∧ q.2.1.length ≤ 9223372036854775807 := fun i hil => by
      obtain ⟨cs', h1, h2⟩ := hi i (by omega)
      rw [ce] at h1
      obtain ⟨_, hlen, hcell⟩ := World.cells?_some h1
      obtain ⟨xs, k, _, _, _, hxl, hff⟩ := DataW.trod_struct he h2
      match xs, hxl, cs', hlen with
      | [y0, y1, y2], _, [v0, v1, v2], _ =>
        have g0 := hff 0 f0 rfl
        have g1 := hff 1 f1 rfl
        have g2 := hff 2 f2 rfl
        simp [o0, o1, o2, k0, k1, k2] at g0 g1 g2
        have e0 := hcell 0 (by omega)
        have e1 := hcell 1 (by omega)
        have e2 := hcell 2 (by omega)
        rw [Go.Deep.add_add] at e0 e1 e2
        obtain ⟨x, z0, _⟩ := DataW.trod_int u0 g0
        obtain ⟨s, z1, _, zs⟩ := DataW.trod_string u1 g1
        obtain ⟨y, z2, _⟩ := DataW.trod_int u2 g2
        injection z0 with z0; injection z1 with z1; injection z2 with z2
        refine ⟨(x, s.data.toList, y), ?_, ?_, ?_, ?_⟩
        · simpa [z0] using e0
        · have : enS s.data.toList = .string s := by cases s; simp
          rw [this]; simpa [z1] using e1
        · simpa [z2] using e2
        · have : s.data.toList.length = s.size := Array.length_toList
          rw [this]; exact Nat.le_trans zs (Nat.le_of_eq rfl)
    obtain ⟨q, hq⟩ := choose_lt each
    refine ⟨some a, cap, (List.range len).map q, by simp, ?_, by simpa using hl, hm, fun x hx => ?_⟩
    · intro hpos
      have h0 : 0 < len := by simpa using hpos
      obtain ⟨b, o, s⟩ := a
      have hs : s = none := by
        have := (hq 0 h0).1
        rw [show (⟨b, o, s⟩ : Addr).add (0 * 3) = ⟨b, o, s⟩ by cases s <;> rfl] at this
        exact slot_none this
      subst hs
      refine ⟨b, o, rfl, ?_, fun j x hj => ?_⟩
      · have := (hq 0 h0).1
        rw [addr_addN] at this
        exact World.block_lt_of_cell? W _ this
      · obtain ⟨hjl, hje⟩ := List.getElem?_eq_some_iff.1 hj
        have hjl' : j < len := by simpa using hjl
        obtain ⟨h1, h2, h3, _⟩ := hq j hjl'
        rw [addr_addN] at h1 h2 h3
        simp at hje
        rw [← hje]
        exact ⟨h1, by rw [Nat.add_assoc]; exact h2, by rw [Nat.add_assoc]; exact h3⟩
    · obtain ⟨j, hj, rfl⟩ := List.mem_map.1 hx
      exact (hq j (by simpa using hj)).2.2.2
end
end Go.Proofs.YtcpennlojjlpaaaGreatDoor
