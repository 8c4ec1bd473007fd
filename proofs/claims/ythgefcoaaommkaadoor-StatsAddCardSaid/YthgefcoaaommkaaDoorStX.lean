/- Contract: the model's sizes. -/
import Derived.Test.YthgefcoaaommkaaDoorStU
import Derived.Test.YthgefcoaaommkaaDoorStL
namespace Go.Proofs.YthgefcoaaommkaaDoor
open Go.RowKit Go.Gn Go.Sr Go.Maps

theorem below_setCells {N b : Nat} (hb : N ≤ b) : ∀ (vs : List Value) (o : Nat) (w : World), Below N w (w.setCells b o vs)
  | [], _, w => Below.refl N w
  | v :: r, o, w => ((Below.refl N w).setCell (p := ⟨b, o, none⟩) hb v).trans (below_setCells hb r (o + 1) _)
theorem there_blk {w : World} {b : Nat} {cs : Array Value} {t : TypeId} (h : w.heap[b]? = some (.cells cs t (0, 0))) : w.there b 0 cs.size := fun j hj => by
  rw [Nat.zero_add]
  exact ⟨by rw [blk_cell h, Array.getElem?_eq_getElem hj]; rfl, blk_free h j⟩
abbrev zer18 : Array Value := #[i64 0, i64 0, i64 0, i64 0, i64 0, i64 0, i64 0, i64 0, i64 0, i64 0, i64 0, i64 0, i64 0, i64 0, i64 0, i64 0, i64 0, i64 0]
theorem sizesL_nil : (sizesL []).map i64 = zer18.toList := rfl
set_option maxRecDepth 100000 in
set_option maxHeartbeats 4000000 in
theorem mSizes_any (A : Option Addr) (c : Nat) (ms : List EvM) (w : World) (h : RdE w A ms) (hg : ∀ m ∈ ms, GoodE m.e) (_hlc : ms.length ≤ c) (_hc : c ≤ maxLen) (hlen : ms.length ≤ 1000) :
    Calls Tryd.prog 15 #[.slice A ms.length c] w fun e w' => e = .returned (.agg ((sizesL (ms.map (·.e))).map i64).toArray) ∧ Below w.heap.size w w' := by
  have H := Lib.hid h
  have HG := Lib.hid hg
  have hso : (Tryd.prog.info? 43).map (·.size) = some 18 := by kernel_rfl
  have HSO := Lib.hid hso
  clear h hg hso
  obtain ⟨w0, hw0⟩ : ∃ u : World, u = ((w.alloc (.cells zer18 43)).alloc (.cells zer18 43)) := ⟨_, rfl⟩
  have K0 : w0.heap[w.heap.size]? = some (.cells zer18 43 (0, 0)) := by rw [hw0]; exact blk_below (below_new _ _) (blk_new _ _)
  have K1 : w0.heap[w.heap.size + 1]? = some (.cells zer18 43 (0, 0)) := by rw [hw0]; have := blk_new (w.alloc (.cells zer18 43)) (.cells zer18 43); simpa using this
  have B0 : Below w.heap.size w w0 := by rw [hw0]; exact (below_new _ _).tr (below_new _ _)
  have HB0 := Lib.hid B0
  have HK0 := Lib.hid K0
  have HK1 := Lib.hid K1
  clear B0 K0 K1
  go_enter Tryd.func15, Tryd.ntmps15
  go_wp2_with fail
  rw [← hw0]
  clear hw0
  go_loopg [4, 5] ms.length (fun gg iv _ wr => ∃ k : Nat, k ≤ ms.length ∧ ms.length - k ≤ gg ∧ iv = i64 k ∧ Hid (wr.heap[w.heap.size]? = some (.cells zer18 43 (0, 0))) ∧ Hid (wr.heap[w.heap.size + 1]? = some (.cells ((sizesL ((ms.take k).map (·.e))).map i64).toArray 43 (0, 0))) ∧ Hid (Below w.heap.size w wr))
  case atStart => exact ⟨0, by omega, by omega, rfl, HK0, HK1, HB0⟩
  case round =>
    obtain ⟨k, hk, hgk, rfl, F0, F1, HB⟩ := hrel
    by_cases hlt : k < ms.length
    · obtain ⟨b, o, m, hA, hbl, hmk, hcell, hgm⟩ := H.out.at_ hlt
      subst hA
      have hge := HG.out m (List.mem_of_getElem? hmk)
      have c19 := ev_cell (range_below hcell HB.out) 19 rfl
      have HNX : Hid (sizesL ((ms.take (k + 1)).map (·.e)) = upAt (sizesL ((ms.take k).map (·.e))) (blen m.e.bytes)) := Lib.hid (by (show _ = _); rw [take_snoc hmk, List.map_append, List.map_singleton, sizesL_snoc])
      have hzl := sizesL_length ((ms.take k).map (·.e))
      have hzb := sizesL_bnd ((ms.take k).map (·.e)) (fun e he => by obtain ⟨q, hq, rfl⟩ := List.mem_map.1 he; exact HG.out q (List.mem_of_mem_take hq))
      rw [List.length_map, List.length_take] at hzb
      generalize sizesL ((ms.take k).map (·.e)) = zs at *
      have hb17 := blen_le hge.bytes.1 hge.bytes.2
      have hby := hge.bytes
      have HSH := Lib.hid (shr_pos (n := m.e.bytes))
      have hb0 : m.e.bytes = 0 → blen m.e.bytes = 0 := fun e => by rw [e]; rfl
      generalize m.e.bytes = by_ at *
      generalize blen by_ = bl at *
      clear hcell hgm hmk hge
      go_wp2_with fail
      go_loopg [5] bl (fun gg kv wr2 => ∃ j : Nat, j ≤ bl ∧ bl - j ≤ gg ∧ kv = i64 j ∧ wr2 = wr)
      case atStart => exact ⟨0, by omega, by omega, rfl, rfl⟩
      case round =>
        obtain ⟨j, hj, hgj, rfl, rfl⟩ := hrel
        have hiff : 0 < by_ / 2 ^ j ↔ j < bl := by
          by_cases h0 : by_ = 0
          · rw [h0, hb0 h0]; simp
          · exact HSH.out (by omega) j
        by_cases hjb : 0 < by_ / 2 ^ j
        · have hjl := hiff.1 hjb
          clear hiff
          go_wp2_with fail
          go_roundg (bl - (j + 1))
          case measure => omega
          case rel => exact ⟨j + 1, by omega, by omega, by go_num, rfl⟩
        · have hjl : bl = j := by have : ¬ j < bl := fun h => hjb (hiff.2 h); omega
          clear hiff
          subst hjl
          have hcz : wr.cell? ⟨w.heap.size + 1, bl, none⟩ = some (i64 (zs.getD bl 0)) := by
            rw [blk_cell F1.out, List.getElem?_toArray, List.getElem?_map, List.getElem?_eq_getElem (by omega), List.getD_eq_getElem?_getD, List.getElem?_eq_getElem (by omega)]; rfl
          have hfz : wr.frozen? ⟨w.heap.size + 1, bl, none⟩ = false := blk_free F1.out bl
          have hzk := hzb bl
          have HUP : Hid (upAt zs bl = zs.set bl (zs.getD bl 0 + 1)) := rfl
          generalize zs.getD bl 0 = z at *
          go_wp2_with fail
          have F0' := Lib.hid ((blk_set_ne (b := w.heap.size) (c := w.heap.size + 1) bl (i64 (z + 1)) (by simp)).trans F0.out)
          have F1' : Hid ((wr.setCell ⟨w.heap.size + 1, bl, none⟩ (i64 (z + 1))).heap[w.heap.size + 1]? = some (.cells ((upAt zs bl).map i64).toArray 43 (0, 0))) := Lib.hid (by
            rw [blk_set F1.out, HUP.out]
            congr 2
            simp [List.map_set])
          have HB' := Lib.hid (HB.out.trans ((Below.refl w.heap.size wr).setCell (p := ⟨w.heap.size + 1, bl, none⟩) (by simp) (i64 (z + 1))))
          go_roundg (ms.length - (k + 1))
          case measure => omega
          case rel => exact ⟨k + 1, by omega, by omega, by go_num, F0', by rw [HNX.out]; exact F1', HB'⟩
    · obtain rfl : k = ms.length := by omega
      rw [List.take_length] at F1
      have hl : ((sizesL (ms.map (·.e))).map i64).length = 18 := by rw [List.length_map, sizesL_length]
      have hone : ((sizesL (ms.map (·.e))).map i64).toArray.all (·.oneCell') = true := all_oneCell_toArray (one_map_i64 _)
      obtain ⟨vs, hvs⟩ : ∃ q, (sizesL (ms.map (·.e))).map i64 = q := ⟨_, rfl⟩
      rw [hvs] at hl hone F1
      have HVS := Lib.hid hvs
      clear hvs
      have HRG := Lib.hid (range_blk F1.out)
      have hvz : vs.toArray.size = 18 := by simpa using hl
      have HTH : Hid (wr.there w.heap.size 0 vs.toArray.size) := Lib.hid (by (show wr.there w.heap.size 0 vs.toArray.size); rw [hvz]; exact there_blk F0.out)
      have HONE := Lib.hid hone
      clear hone
      go_wp2_with (first | refine wpList_load_mid rfl 43 _ rfl (w.heap.size + 1) 0 rfl vs _ HRG.out Tryd.underlying43 rfl (by rw [hl]; exact HSO.out) ?_ | refine wpList_store_mid rfl 43 _ _ rfl w.heap.size 0 vs.toArray rfl rfl HTH.out (by rw [List.size_toArray, hl]; exact HSO.out) HONE.out ?_)
      have hth : wr.there w.heap.size 0 vs.length := by rw [hl, ← hvz]; exact HTH.out
      have hld := run_loadVar_mid (P := Tryd.prog) (wr.setCells w.heap.size 0 vs) w.heap.size 0 43 vs _ (World.rangeAt_setCells_same _ _ _ _ hth) Tryd.underlying43 rfl (by rw [hl]; exact HSO.out)
      refine bodyPost_ret (v := .agg vs.toArray) ?_ rfl ⟨by rw [HVS.out], HB.out.trans (below_setCells (Nat.le_refl _) _ _ _)⟩
      simp only [Act.put, List.setIfInBounds_toArray, List.set_cons_succ, List.set_cons_zero]
      simp [results, Tryd.results15, asAddr, hld]
end Go.Proofs.YthgefcoaaommkaaDoor
