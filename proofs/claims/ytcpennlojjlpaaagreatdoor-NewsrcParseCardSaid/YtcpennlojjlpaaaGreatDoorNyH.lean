/- Contract: the reference's ParseSet, with what kind of block the set lies in. -/
import Derived.Test.YtcpennlojjlpaaaGreatDoorZj
import Derived.Test.YtcpennlojjlpaaaGreatDoorZk
namespace Go.Proofs.YtcpennlojjlpaaaGreatDoor
open Go.RowKit Go.Nr Go.Gn

/-- Ranges of the reference, an offset and an error. -/
def GivesRPT (w : World) (S : List Rg) (at_ er : Nat) (e : Ending) (w' : World) : Prop :=
  ∃ A c, e = .returned (.tuple #[.slice A S.length c, i64 at_, i64 er]) ∧ SetR w' A S ∧ Below w.heap.size w w'

set_option maxRecDepth 100000 in
set_option maxHeartbeats 8000000 in
theorem refParseSetT_any (s : List UInt8) (w : World) (hl : s.length ≤ 100000000) (hn : (parts 44 s).length ≤ 4096) :
    Calls Tryz.prog 44 #[enS s] w (GivesRPT w (psS s) (psA s) (psE s)) := by
  by_cases h0 : s = []
  · subst h0
    have V : Hid (psS [] = [] ∧ psA [] = 0 ∧ psE [] = 0) := ps_inl (by unfold pset; rw [if_pos rfl])
    go_enter Tryz.func44, Tryz.ntmps44
    go_wp2_with fail
    go_ret3
    rw [V.out.1, V.out.2.1, V.out.2.2]
    exact ⟨none, 0, rfl, SetR.nil, Below.refl _ _⟩
  · have hne : (s == []) = false := by simpa using h0
    have HPS := Lib.hid (pset_ne h0)
    obtain ⟨i0, hi, hz0, hz1, hz2⟩ := info_parts rg_info
    have HI := Lib.hid (fun p la W (hp : p.length ≤ s.length) (h1 : 0 ≤ la) (h2 : la ≤ M) => refItem_any p la W (by omega) h1 h2)
    clear h0
    go_enter Tryz.func44, Tryz.ntmps44
    go_wp2_with fail
    go_loopg [5, 6, 7, 8] (s.length + 1) (fun gg ov fv lv iv wr => ∃ (i fr : Nat) (la : Int) (C : Option Addr) (f : Nat) (q : List Rg), i ≤ s.length + 1 ∧ s.length + 1 - i ≤ gg ∧ iv = .int .i64 i ∧ fv = .int .i64 fr ∧ lv = .int .i64 la ∧ ov = .slice C q.length f ∧ Hid (wr.ownsRow w.heap.size 37 2 (.slice C q.length f) q.length (flat q)) ∧ Hid (i ≤ s.length → RpAt s i fr q) ∧ Hid (i = s.length + 1 → pset s = .inl q) ∧ Hid (la = lastOf q) ∧ 0 ≤ la ∧ la ≤ 1099511627776 ∧ q.length ≤ 4096 ∧ Below w.heap.size w wr)
    case atStart => exact ⟨0, 0, 0, none, 0, [], by omega, by omega, rfl, rfl, rfl, rfl, own2_nil _ _ _ _, (fun _ => RpAt.start s), (fun h => by omega), rfl, by omega, by omega, by simp, Below.refl _ _⟩
    case round =>
      obtain ⟨i, fr, la, C, f, q, hii, hgi, rfl, rfl, rfl, rfl, O, Q, QE, L, hl0, hl1, hq4, hB⟩ := hrel
      by_cases hle : i ≤ s.length
      · have R := Lib.hid (Q.out hle)
        by_cases hcm : i < s.length ∧ s.getD i 0 ≠ 44
        · obtain ⟨hlt, hc44⟩ := hcm
          have N := Lib.hid (R.out.next hlt hc44)
          have bg := bget (t := s) (p := i) (show i < s.toArray.size by simpa using hlt) hlt
          obtain ⟨c, hc⟩ : ∃ c, s.getD i 0 = c := ⟨_, rfl⟩
          rw [hc] at bg hc44
          have e1 : ((c.toNat : Int) != 44) = true := by
            simp; intro e; exact hc44 (UInt8.toNat_inj.1 (by simpa using (by omega : c.toNat = 44)))
          have e2 : (c.toNat != 44) = true := by
            simp; intro e; exact hc44 (UInt8.toNat_inj.1 (by simpa using e))
          clear hc hc44 Q QE R
          go_wp2_with fail
          go_roundg (s.length + 1 - (i + 1))
          case measure => omega
          case rel => exact ⟨i + 1, fr, la, C, f, q, by omega, by omega, by go_num, rfl, rfl, rfl, O, (fun _ => N.out), (fun h => by omega), L, hl0, hl1, hq4, hB⟩
        · have hcc : i < s.length → s.getD i 0 = 44 := fun h => Classical.byContradiction fun h2 => hcm ⟨h, h2⟩
          obtain ⟨p, hp, hfi, hpx, hps, hnx⟩ := R.out.item hle hcc
          have hplen : p.length ≤ s.length := by rw [← hp]; simp; omega
          have hx1 : (⟨s.toArray⟩ : ByteArray).extract fr i = ⟨p.toArray⟩ := by rw [ext_mid, hp]
          have hk4 : q.length < 4096 := by
            have := (List.getElem?_eq_some_iff.1 hpx).1
            omega
          have hend := fun h => psat_end R.out h
          have hpl : fr + p.length = i := by
            have := congrArg List.length hp
            rw [List.length_drop, List.length_take, Nat.min_eq_left hle] at this
            omega
          have hcs := item2_cases p la
          have HIT := Lib.hid (HI.out p la wr hplen hl0 (by rw [M_eq]; exact hl1))
          have HPX := Lib.hid hpx
          have HPA := Lib.hid hps
          have HNX := Lib.hid hnx
          have HEND := Lib.hid hend
          have HPL := Lib.hid hpl
          unfold GivesItem at HIT
          obtain ⟨er, her⟩ : ∃ z, itemE2 p la = z := ⟨_, rfl⟩
          obtain ⟨rr, hrr⟩ : ∃ z, itemR2 p la = z := ⟨_, rfl⟩
          rw [her, hrr] at HIT hcs
          clear her hrr hp hpx hps hnx hend hcm hpl Q QE
          by_cases hlt : i < s.length
          · have bg := bget (t := s) (p := i) (show i < s.toArray.size by simpa using hlt) hlt
            rw [hcc hlt] at bg
            clear hcc
            rcases hcs with ⟨rfl, r0, hpr, rfl, hsq⟩ | ⟨hne0, herr⟩
            · obtain ⟨ok1, ok2, ok3⟩ := pitem_ok hpr
              have V : Hid (PsAt (parts 44 s) (q.length + 1) (i + 1) (q ++ [rr])) := by
                have := HPA.out.step HPX.out hpr (L.out ▸ hsq)
                rw [HPL.out] at this; exact this
              obtain ⟨r1, r2⟩ := rr
              rw [M_eq] at ok3
              simp only at ok1 ok2 ok3
              have HO := Lib.hid O.out
              have HBW := Lib.hid hB
              have hsz := hB.size
              clear hpr hsq O hB
              go_wp2_with fail
              refine HIT.out.mono ?_; rintro e w2 ⟨rfl, b2⟩
              have HO2 := Lib.hid (own_below HO.out b2)
              have HB2 := Lib.hid (HBW.out.tr b2)
              have hsz2 := b2.size
              clear b2 HO HBW
              go_wp2_with (at_builtin; refine wpList_append_own _ rfl _ _ 22 rfl w.heap.size 37 i0 (.agg #[i64 0, i64 0]) 2 16 Tryz.underlying22 hi hz0 hz1 hz2 rfl (by decide) (.slice C q.length f) q.length (flat q) rfl (own_below (own_below HO2.out (below_new _ _)) (below_new _ _)) ⟨w2.heap.size + 1, 0, none⟩ 1 1 [i64 r1, i64 r2] rfl rfl ?c1 ?c2 ?c3 ?c4 ?c5 ?_)
              case c1 =>
                intro j u hj
                rw [addr_addN, new_cell _ _ _ _ _ (by simp)]
                simpa using hj
              case c2 => intro u hu; simp at hu; rcases hu with rfl | rfl <;> rfl
              case c3 => unfold maxLen; omega
              case c4 => omega
              case c5 => simp; omega
              intro v' w3 hown3 hg3 hbl3
              obtain ⟨A3, c3, rfl⟩ := own2_slice hown3
              have hoo : ((w2.alloc (.cells #[i64 r1, i64 r2] 37)).alloc (.cells #[i64 r1, i64 r2] 37)).ownsRow w.heap.size _ 2 _ _ _ := own_below (own_below HO2.out (below_new _ _)) (below_new _ _)
              have b3 := own_grown_below hoo (by simp; omega) hg3
              have hB3 := ((HB2.out.tr (below_new _ (.cells #[i64 r1, i64 r2] 37))).tr (below_new _ (.cells #[i64 r1, i64 r2] 37))).trans b3
              rw [show flat q ++ [i64 r1, i64 r2] = flat (q ++ [(r1, r2)]) by rw [flat_append _ [(r1, r2)], flat_one]] at hown3
              have hrc1 : w3.cell? ⟨w2.heap.size, 1, none⟩ = some (i64 r2) := by
                have h1 := blk_old (.cells #[i64 r1, i64 r2] 37) (blk_new w2 (.cells #[i64 r1, i64 r2] 37))
                have h2 : w3.heap[w2.heap.size]? = some (.cells #[i64 r1, i64 r2] 37) := by
                  rw [hg3.block _ (blk_lt h1) (fun e => by
                    have := (HO2.out.lt _ e.symm).1
                    have := (HO2.out.lt _ e.symm).2
                    omega)]
                  exact h1
                rw [blk_cell h2]; rfl
              have HO3 := Lib.hid hown3
              have HB3 := Lib.hid hB3
              have HL3 : Hid ((q ++ [(r1, r2)]).length = q.length + 1) := (by simp : (q ++ [(r1, r2)]).length = q.length + 1)
              clear hown3 hg3 b3 hoo hB3 hbl3
              go_wp2_with fail
              go_quiet (fail)
              go_wp2_with fail
              go_roundg (s.length + 1 - (i + 1))
              case measure => omega
              case rel => exact ⟨i + 1, i + 1, r2, A3, c3, q ++ [(r1, r2)], by omega, by omega, by go_num, by go_num, rfl, by rw [HL3.out], by rw [HL3.out]; exact HO3, (fun h => HNX.out _ V.out (by omega)), (fun h => by omega), (lastOf_snoc q (r1, r2)).symm, by omega, by omega, by rw [HL3.out]; omega, HB3.out.drewN _⟩
            · have V : Hid (psS s = [] ∧ psA s = fr ∧ psE s = er) := by
                rcases herr with h | ⟨h, r, h2, h3, h4⟩
                · exact ps_inr (HPS.out.trans (HPA.out.bad HPX.out h))
                · rw [h]; exact ps_inr (HPS.out.trans (HPA.out.seq HPX.out h2 (by rw [← L.out]; exact ⟨h3, h4⟩)))
              have z2 : ((er : Int) != 0) = true := by simp; omega
              have HBW := Lib.hid hB
              obtain ⟨rr1, rr2⟩ := rr
              clear herr hne0 O hB
              go_wp2_with fail
              refine HIT.out.mono ?_; rintro e w2 ⟨rfl, b2⟩
              have HB2 := Lib.hid (HBW.out.tr b2)
              clear b2
              go_wp2_with fail
              go_ret3
              rw [V.out.1, V.out.2.1, V.out.2.2]
              exact ⟨none, 0, rfl, SetR.nil, HB2.out.tr (below_new _ _)⟩
          · have hie : i = s.length := by omega
            have HIE := Lib.hid hie
            clear hcc hie
            rcases hcs with ⟨rfl, r0, hpr, rfl, hsq⟩ | ⟨hne0, herr⟩
            · obtain ⟨ok1, ok2, ok3⟩ := pitem_ok hpr
              have V : Hid (PsAt (parts 44 s) (q.length + 1) (i + 1) (q ++ [rr])) := by
                have := HPA.out.step HPX.out hpr (L.out ▸ hsq)
                rw [HPL.out] at this; exact this
              obtain ⟨r1, r2⟩ := rr
              rw [M_eq] at ok3
              simp only at ok1 ok2 ok3
              have HO := Lib.hid O.out
              have HBW := Lib.hid hB
              have hsz := hB.size
              clear hpr hsq O hB
              go_wp2_with fail
              refine HIT.out.mono ?_; rintro e w2 ⟨rfl, b2⟩
              have HO2 := Lib.hid (own_below HO.out b2)
              have HB2 := Lib.hid (HBW.out.tr b2)
              have hsz2 := b2.size
              clear b2 HO HBW
              go_wp2_with (at_builtin; refine wpList_append_own _ rfl _ _ 22 rfl w.heap.size 37 i0 (.agg #[i64 0, i64 0]) 2 16 Tryz.underlying22 hi hz0 hz1 hz2 rfl (by decide) (.slice C q.length f) q.length (flat q) rfl (own_below (own_below HO2.out (below_new _ _)) (below_new _ _)) ⟨w2.heap.size + 1, 0, none⟩ 1 1 [i64 r1, i64 r2] rfl rfl ?c1 ?c2 ?c3 ?c4 ?c5 ?_)
              case c1 =>
                intro j u hj
                rw [addr_addN, new_cell _ _ _ _ _ (by simp)]
                simpa using hj
              case c2 => intro u hu; simp at hu; rcases hu with rfl | rfl <;> rfl
              case c3 => unfold maxLen; omega
              case c4 => omega
              case c5 => simp; omega
              intro v' w3 hown3 hg3 hbl3
              obtain ⟨A3, c3, rfl⟩ := own2_slice hown3
              have hoo : ((w2.alloc (.cells #[i64 r1, i64 r2] 37)).alloc (.cells #[i64 r1, i64 r2] 37)).ownsRow w.heap.size _ 2 _ _ _ := own_below (own_below HO2.out (below_new _ _)) (below_new _ _)
              have b3 := own_grown_below hoo (by simp; omega) hg3
              have hB3 := ((HB2.out.tr (below_new _ (.cells #[i64 r1, i64 r2] 37))).tr (below_new _ (.cells #[i64 r1, i64 r2] 37))).trans b3
              rw [show flat q ++ [i64 r1, i64 r2] = flat (q ++ [(r1, r2)]) by rw [flat_append _ [(r1, r2)], flat_one]] at hown3
              have hrc1 : w3.cell? ⟨w2.heap.size, 1, none⟩ = some (i64 r2) := by
                have h1 := blk_old (.cells #[i64 r1, i64 r2] 37) (blk_new w2 (.cells #[i64 r1, i64 r2] 37))
                have h2 : w3.heap[w2.heap.size]? = some (.cells #[i64 r1, i64 r2] 37) := by
                  rw [hg3.block _ (blk_lt h1) (fun e => by
                    have := (HO2.out.lt _ e.symm).1
                    have := (HO2.out.lt _ e.symm).2
                    omega)]
                  exact h1
                rw [blk_cell h2]; rfl
              have HO3 := Lib.hid hown3
              have HB3 := Lib.hid hB3
              have HL3 : Hid ((q ++ [(r1, r2)]).length = q.length + 1) := (by simp : (q ++ [(r1, r2)]).length = q.length + 1)
              clear hown3 hg3 b3 hoo hB3 hbl3
              go_wp2_with fail
              go_quiet (fail)
              go_wp2_with fail
              go_roundg (s.length + 1 - (i + 1))
              case measure => omega
              case rel => exact ⟨i + 1, i + 1, r2, A3, c3, q ++ [(r1, r2)], by omega, by omega, by go_num, by go_num, rfl, by rw [HL3.out], by rw [HL3.out]; exact HO3, (fun h => by omega), (fun _ => HPS.out.trans (PsAt.done (by rw [HEND.out (by omega)]; exact V.out))), (lastOf_snoc q (r1, r2)).symm, by omega, by omega, by rw [HL3.out]; omega, HB3.out.drewN _⟩
            · have V : Hid (psS s = [] ∧ psA s = fr ∧ psE s = er) := by
                rcases herr with h | ⟨h, r, h2, h3, h4⟩
                · exact ps_inr (HPS.out.trans (HPA.out.bad HPX.out h))
                · rw [h]; exact ps_inr (HPS.out.trans (HPA.out.seq HPX.out h2 (by rw [← L.out]; exact ⟨h3, h4⟩)))
              have z2 : ((er : Int) != 0) = true := by simp; omega
              have HBW := Lib.hid hB
              obtain ⟨rr1, rr2⟩ := rr
              clear herr hne0 O hB
              go_wp2_with fail
              refine HIT.out.mono ?_; rintro e w2 ⟨rfl, b2⟩
              have HB2 := Lib.hid (HBW.out.tr b2)
              clear b2
              go_wp2_with fail
              go_ret3
              rw [V.out.1, V.out.2.1, V.out.2.2]
              exact ⟨none, 0, rfl, SetR.nil, HB2.out.tr (below_new _ _)⟩
      · obtain rfl : i = s.length + 1 := by omega
        have V := Lib.hid (ps_inl (QE.out rfl))
        have hlt' : decide (((s.length : Int) + 1) ≤ s.length) = false := decide_eq_false (by omega)
        go_wp2_with fail
        go_ret3
        rw [V.out.1, V.out.2.1, V.out.2.2]
        exact ⟨C, f, rfl, ⟨(RdR.of_own O.out).1, fun a ha => (own_new O.out (Nat.le_refl _) a ha).2⟩, hB⟩
end Go.Proofs.YtcpennlojjlpaaaGreatDoor
