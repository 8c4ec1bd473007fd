/- Contract: the reference's item. -/
import Derived.Test.YtcpennlojjlpaaaGreatDoorNxF
namespace Go.Nr
def itemE2 (s : List UInt8) (last : Int) : Nat := match pitem s with | .inr e => e | .inl r => if 0 < last ∧ r.1 < last + 2 then 30 else 0
def itemR2 (s : List UInt8) (last : Int) : Rg := match pitem s with | .inr _ => (0, 0) | .inl r => if 0 < last ∧ r.1 < last + 2 then (0, 0) else r
theorem cutA_cons (c : UInt8) (t : List UInt8) : cutA (c :: t) = if c = 45 then [] else c :: cutA t := by
  unfold cutA
  rw [List.takeWhile_cons]
  by_cases h : c = 45
  · subst h; rfl
  · have : (c != 45) = true := by simpa using h
    rw [if_pos this, if_neg h]
theorem cut_step {s : List UInt8} {m : Nat} (hm : m < s.length) : m + (cutA (s.drop m)).length = if s.getD m 0 = 45 then m else m + 1 + (cutA (s.drop (m + 1))).length := by
  rw [List.drop_eq_getElem_cons hm, cutA_cons]
  have : s.getD m 0 = s[m] := by simp [hm]
  rw [this]
  split <;> simp
  omega
theorem cutA_take (s : List UInt8) : s.take (cutA s).length = cutA s := by
  have e := List.takeWhile_append_dropWhile (p := (· != (45 : UInt8))) (l := s)
  obtain ⟨p, hp⟩ : ∃ p, cutA s = p := ⟨_, rfl⟩
  have hp' : s.takeWhile (· != (45 : UInt8)) = p := hp
  rw [hp'] at e
  rw [hp, ← e]; simp
theorem cutB_drop (s : List UInt8) : ((cutB s).isSome = true → (cutA s).length < s.length ∧ s.drop ((cutA s).length + 1) = (cutB s).getD []) ∧ ((cutB s).isSome = false → (cutA s).length = s.length) := by
  rcases cut_inv s with ⟨b, h1, h2⟩ | ⟨h1, h2⟩
  · refine ⟨fun _ => ?_, (fun h => by rw [h1] at h; cases h)⟩
    have hl := congrArg List.length h2
    simp at hl
    refine ⟨by omega, ?_⟩
    rw [h1]
    obtain ⟨p, hp⟩ : ∃ p, cutA s = p := ⟨_, rfl⟩
    rw [hp] at h2 ⊢
    rw [h2]; simp
  · exact ⟨(fun h => by rw [h1] at h; cases h), (fun _ => by rw [h2])⟩
end Go.Nr
namespace Go.Proofs.YtcpennlojjlpaaaGreatDoor
open Go.RowKit Go.Nr Go.Gn

theorem ext_take (s : List UInt8) (n : Nat) : (⟨s.toArray⟩ : ByteArray).extract 0 n = ⟨(s.take n).toArray⟩ := by
  apply ByteArray.ext
  rw [ByteArray.data_extract]
  apply Array.toList_inj.1
  simp
theorem ext_drop (s : List UInt8) (n : Nat) : (⟨s.toArray⟩ : ByteArray).extract n s.length = ⟨(s.drop n).toArray⟩ := by
  apply ByteArray.ext
  rw [ByteArray.data_extract]
  apply Array.toList_inj.1
  simp
  rw [List.take_of_length_le (by simp)]
set_option maxRecDepth 100000 in
set_option maxHeartbeats 8000000 in
theorem refItem_any (s : List UInt8) (last : Int) (w : World) (hl : s.length ≤ 1000000000) (h0 : 0 ≤ last) (hM : last ≤ M) :
    Calls Tryz.prog 87 #[enS s, i64 last] w (GivesItem w (itemR2 s last) (itemE2 s last)) := by
  have hle := cut_lens s
  have hla : (cutA s).length ≤ 1000000000 := by omega
  have hlb : ((cutB s).getD (cutA s)).length ≤ 1000000000 := by omega
  have hpi : pitem s = (if okNum (cutA s) = true ∧ okNum ((cutB s).getD (cutA s)) = true then
    if (val (cutA s) : Int) ≤ M ∧ (val ((cutB s).getD (cutA s)) : Int) ≤ M ∧ ((cutB s).isSome = true → (val (cutA s) : Int) < val ((cutB s).getD (cutA s))) then .inl ((val (cutA s) : Int), (val ((cutB s).getD (cutA s)) : Int)) else .inr 2
  else .inr 3) := rfl
  have hB : (cutB s).isSome = true → (cutB s).getD [] = (cutB s).getD (cutA s) := by cases cutB s <;> simp
  have hN : (cutB s).isSome = false → (cutB s).getD (cutA s) = cutA s := by cases cutB s <;> simp
  have hb0 := blk_new w (.cells #[i64 0, i64 0] 37)
  have HB0 := Lib.hid (below_new w (.cells #[i64 0, i64 0] 37))
  have H0 := Lib.hid hb0
  have hP := Lib.hid (fun t (h : t.length ≤ 1000000000) W => refNumber_any t W h)
  have HP := Lib.hid hpi
  have HBn := Lib.hid hB
  have HNn := Lib.hid hN
  have HCS := Lib.hid (fun m (h : m < s.length) => cut_step h)
  have HCT := Lib.hid (cutA_take s)
  have HCD := Lib.hid (cutB_drop s)
  rw [M_eq] at hM
  clear hb0 hpi hB hN
  go_enter Tryz.func87, Tryz.ntmps87
  go_wp2_with fail
  generalize w.alloc (.cells #[i64 0, i64 0] 37) = u0 at *
  go_loopg [6, 7] s.length (fun gg cv iv wr => ∃ (j cu : Nat) (z : Int), j ≤ s.length ∧ j ≤ gg ∧ z ≤ (j : Int) - 1 ∧ (j : Int) - 1 ≤ z ∧ iv = .int .i64 z ∧ cv = .int .i64 cu ∧ Hid (cu = j + (cutA (s.drop j)).length) ∧ u0 = wr)
  case atStart => exact ⟨s.length, s.length, _, by omega, by omega, by omega, by omega, rfl, rfl, (show s.length = s.length + (cutA (s.drop s.length)).length by rw [List.drop_length]; rfl), rfl⟩
  case round =>
    obtain ⟨j, cu, z, hj, hgj, hz1, hz2, rfl, rfl, C, rfl⟩ := hrel
    by_cases hpos : 0 ≤ z
    · obtain ⟨m, rfl⟩ : ∃ m : Nat, z = m := ⟨z.toNat, by omega⟩
      obtain rfl : j = m + 1 := by omega
      have hm : m < s.length := by omega
      have hcs := HCS.out m hm
      rw [← C.out] at hcs
      have bg := bget (t := s) (p := m) (show m < s.toArray.size by simpa using hm) hm
      obtain ⟨c, hc⟩ : ∃ c, s.getD m 0 = c := ⟨_, rfl⟩
      rw [hc] at bg hcs
      have HC := Lib.hid hcs
      clear hc hcs C
      by_cases h45 : c = 45
      · have V : Hid (m = m + (cutA (s.drop m)).length) := by
          show m = _
          rw [HC.out, if_pos h45]
        subst h45
        go_wp2_with fail
        go_roundg m
        case measure => omega
        case rel => exact ⟨m, m, _, by omega, by omega, by omega, by omega, rfl, rfl, V, rfl⟩
      · have V : Hid (cu = m + (cutA (s.drop m)).length) := by
          show cu = _
          rw [HC.out, if_neg h45]
        have e1 : ((c.toNat : Int) == 45) = false := by
          simp; intro e; exact h45 (UInt8.toNat_inj.1 (by simpa using (by omega : c.toNat = 45)))
        have e2 : (c.toNat == 45) = false := by
          simp; intro e; exact h45 (UInt8.toNat_inj.1 (by simpa using e))
        clear h45
        go_wp2_with fail
        go_roundg m
        case measure => omega
        case rel => exact ⟨m, cu, _, by omega, by omega, by omega, by omega, rfl, rfl, V, rfl⟩
    · obtain rfl : j = 0 := by omega
      have hcu : Hid (cu = (cutA s).length) := by
        show cu = _
        have := C.out
        rw [List.drop_zero, Nat.zero_add] at this; exact this
      have hcl : cu ≤ s.length := by rw [hcu.out]; omega
      have hx1 : (⟨s.toArray⟩ : ByteArray).extract 0 cu = ⟨(cutA s).toArray⟩ := by rw [ext_take, hcu.out, HCT.out]
      have hx2 : Hid ((cutB s).isSome = true → (⟨s.toArray⟩ : ByteArray).extract (cu + 1) s.length = ⟨((cutB s).getD []).toArray⟩) := fun h => by rw [ext_drop, hcu.out, (HCD.out.1 h).2]
      have hlt : Hid ((cutB s).isSome = true → cu < s.length) := fun h => by rw [hcu.out]; exact (HCD.out.1 h).1
      have hge : Hid ((cutB s).isSome = false → s.length ≤ cu) := fun h => by rw [hcu.out, HCD.out.2 h]; exact Nat.le_refl _
      have hzn : z < 0 := by omega
      clear C hcu HCT HCD HCS hgj hj hz1 hz2 hpos
      obtain ⟨tw, htw⟩ : ∃ q, (cutB s).isSome = q := ⟨_, rfl⟩
      rw [htw] at HBn HNn HP hx2 hlt hge
      clear htw
      generalize cutA s = a at *
      generalize (cutB s).getD a = b at *
      generalize (cutB s).getD [] = b' at *
      have HX : Hid (itemR2 s last = (match pitem s with | .inr _ => (0, 0) | .inl r => if 0 < last ∧ r.1 < last + 2 then (0, 0) else r) ∧ itemE2 s last = (match pitem s with | .inr e => e | .inl r => if 0 < last ∧ r.1 < last + 2 then 30 else 0)) := ⟨rfl, rfl⟩
      have N0 : Hid (∀ t, okNum t = true → numV t = (val t : Int) ∧ 1 ≤ numV t ∧ numV t ≤ 10000000000000) := fun t h => by
        have h3 := okNum_val h
        have e : 10 ^ 13 = 10000000000000 := by decide
        unfold numV; rw [if_pos h]; exact ⟨rfl, by omega, by omega⟩
      have N1 : Hid (∀ t, okNum t = false → numV t = -1) := fun t h => by unfold numV; rw [h]; rfl
      unfold GivesItem
      cases tw with
      | false =>
        have e1 := HNn.out rfl
        subst e1
        have hge1 := hge.out rfl
        clear HBn HNn hle hlt hge hx2
        have hp1 := hP.out b hlb
        clear hP
        cases ob : okNum b with
        | false =>
          have V : Hid (itemR2 s last = (0, 0) ∧ itemE2 s last = 3) := by
            show itemR2 s last = (0, 0) ∧ itemE2 s last = 3
            rw [HX.out.1, HX.out.2, HP.out, if_neg (by rw [ob]; simp)]; exact ⟨rfl, rfl⟩
          rw [N1.out b ob] at hp1
          have hp1 := Lib.hid hp1
          clear ob N0 N1
          go_wp2_with fail
          refine (hp1.out _).mono ?_; rintro e w2 ⟨rfl, rfl⟩
          have hrc := blk_cell H0.out 0
          have hrc1 := blk_cell H0.out 1
          have hrf := blk_free H0.out 0
          have hrf1 := blk_free H0.out 1
          go_wp2_with fail
          refine bodyPost_ret (v := .tuple #[.agg #[i64 0, i64 0], i64 3]) (by simp [results, Tryz.results87, go_sem, hrc, hrc1]) rfl ?_
          rw [V.out.1, V.out.2]
          exact ⟨rfl, (HB0.out.setCell (Nat.le_refl _) _).setCell (Nat.le_refl _) _⟩
        | true =>
          obtain ⟨m1, n1, n2⟩ := N0.out b ob
          have M1 := Lib.hid m1
          have OB := Lib.hid ob
          clear N0 N1 ob m1
          have hp1 := Lib.hid hp1
          by_cases hMb : numV b ≤ M
          · by_cases hs1 : 0 < last
            · by_cases hs2 : numV b < last + 2 
              · have V : Hid (itemR2 s last = (0, 0) ∧ itemE2 s last = 30) := by
                  show itemR2 s last = (0, 0) ∧ itemE2 s last = 30
                  rw [HX.out.1, HX.out.2, HP.out, if_pos ⟨OB.out, OB.out⟩, ← M1.out, if_pos ⟨hMb, hMb, fun h => by cases h⟩]
                  simp only
                  rw [if_pos ⟨hs1, hs2⟩, if_pos ⟨hs1, hs2⟩]; exact ⟨rfl, rfl⟩
                rw [M_eq] at *
                clear M1 OB
                generalize numV b = v1 at *
                go_wp2_with fail
                refine (hp1.out _).mono ?_; rintro e w2 ⟨rfl, rfl⟩
                have hrc := blk_cell H0.out 0
                have hrc1 := blk_cell H0.out 1
                have hrf := blk_free H0.out 0
                have hrf1 := blk_free H0.out 1
                go_wp2_with fail
                refine bodyPost_ret (v := .tuple #[.agg #[i64 0, i64 0], i64 30]) (by simp [results, Tryz.results87, go_sem, hrc, hrc1]) rfl ?_
                rw [V.out.1, V.out.2]
                exact ⟨rfl, (HB0.out.setCell (Nat.le_refl _) _).setCell (Nat.le_refl _) _⟩ 
              · have V : Hid (itemR2 s last = (numV b, numV b) ∧ itemE2 s last = 0) := by
                  show itemR2 s last = (numV b, numV b) ∧ itemE2 s last = 0
                  rw [HX.out.1, HX.out.2, HP.out, if_pos ⟨OB.out, OB.out⟩, ← M1.out, if_pos ⟨hMb, hMb, fun h => by cases h⟩]
                  simp only
                  rw [if_neg (fun h => hs2 h.2), if_neg (fun h => hs2 h.2)]; exact ⟨rfl, rfl⟩
                rw [M_eq] at *
                clear M1 OB
                generalize numV b = v1 at *
                go_wp2_with fail
                refine (hp1.out _).mono ?_; rintro e w2 ⟨rfl, rfl⟩
                have hrc := blk_cell H0.out 0
                have hrc1 := blk_cell H0.out 1
                have hrf := blk_free H0.out 0
                have hrf1 := blk_free H0.out 1
                go_wp2_with fail
                refine bodyPost_ret (v := .tuple #[.agg #[i64 v1, i64 v1], i64 0]) (by simp [results, Tryz.results87, go_sem, hrc, hrc1]) rfl ?_
                rw [V.out.1, V.out.2]
                exact ⟨rfl, (HB0.out.setCell (Nat.le_refl _) _).setCell (Nat.le_refl _) _⟩ 
            · have V : Hid (itemR2 s last = (numV b, numV b) ∧ itemE2 s last = 0) := by
                show itemR2 s last = (numV b, numV b) ∧ itemE2 s last = 0
                rw [HX.out.1, HX.out.2, HP.out, if_pos ⟨OB.out, OB.out⟩, ← M1.out, if_pos ⟨hMb, hMb, fun h => by cases h⟩]
                simp only
                rw [if_neg (fun h => hs1 h.1), if_neg (fun h => hs1 h.1)]; exact ⟨rfl, rfl⟩
              rw [M_eq] at *
              clear M1 OB
              generalize numV b = v1 at *
              go_wp2_with fail
              refine (hp1.out _).mono ?_; rintro e w2 ⟨rfl, rfl⟩
              have hrc := blk_cell H0.out 0
              have hrc1 := blk_cell H0.out 1
              have hrf := blk_free H0.out 0
              have hrf1 := blk_free H0.out 1
              go_wp2_with fail
              refine bodyPost_ret (v := .tuple #[.agg #[i64 v1, i64 v1], i64 0]) (by simp [results, Tryz.results87, go_sem, hrc, hrc1]) rfl ?_
              rw [V.out.1, V.out.2]
              exact ⟨rfl, (HB0.out.setCell (Nat.le_refl _) _).setCell (Nat.le_refl _) _⟩ 
          · have V : Hid (itemR2 s last = (0, 0) ∧ itemE2 s last = 2) := by
              show itemR2 s last = (0, 0) ∧ itemE2 s last = 2
              rw [HX.out.1, HX.out.2, HP.out, if_pos ⟨OB.out, OB.out⟩, ← M1.out, if_neg (fun h => hMb h.1)]; exact ⟨rfl, rfl⟩
            rw [M_eq] at *
            clear M1 OB
            generalize numV b = v1 at *
            go_wp2_with fail
            refine (hp1.out _).mono ?_; rintro e w2 ⟨rfl, rfl⟩
            have hrc := blk_cell H0.out 0
            have hrc1 := blk_cell H0.out 1
            have hrf := blk_free H0.out 0
            have hrf1 := blk_free H0.out 1
            go_wp2_with fail
            refine bodyPost_ret (v := .tuple #[.agg #[i64 0, i64 0], i64 2]) (by simp [results, Tryz.results87, go_sem, hrc, hrc1]) rfl ?_
            rw [V.out.1, V.out.2]
            exact ⟨rfl, (HB0.out.setCell (Nat.le_refl _) _).setCell (Nat.le_refl _) _⟩
      | true =>
        have e1 := HBn.out rfl
        subst e1
        have hlt1 := hlt.out rfl
        have hx3 := hx2.out rfl
        clear HBn HNn hle hlt hge hx2
        have hp1 := hP.out a hla
        have hp2 := hP.out b' hlb
        clear hP
        cases oa : okNum a with
        | false =>
          have V : Hid (itemR2 s last = (0, 0) ∧ itemE2 s last = 3) := by
            show itemR2 s last = (0, 0) ∧ itemE2 s last = 3
            rw [HX.out.1, HX.out.2, HP.out, if_neg (by rw [oa]; simp)]; exact ⟨rfl, rfl⟩
          rw [N1.out a oa] at hp1
          have hp1 := Lib.hid hp1
          have hp2 := Lib.hid hp2
          clear oa N0 N1
          generalize numV b' = v2 at *
          go_wp2_with fail
          refine (hp1.out _).mono ?_; rintro e w2 ⟨rfl, rfl⟩
          go_wp2_with fail
          refine (hp2.out _).mono ?_; rintro e w3 ⟨rfl, rfl⟩
          have hrc := blk_cell H0.out 0
          have hrc1 := blk_cell H0.out 1
          have hrf := blk_free H0.out 0
          have hrf1 := blk_free H0.out 1
          go_wp2_with fail
          refine bodyPost_ret (v := .tuple #[.agg #[i64 0, i64 0], i64 3]) (by simp [results, Tryz.results87, go_sem, hrc, hrc1]) rfl ?_
          rw [V.out.1, V.out.2]
          exact ⟨rfl, (HB0.out.setCell (Nat.le_refl _) _).setCell (Nat.le_refl _) _⟩
        | true =>
          obtain ⟨m1, n1, n2⟩ := N0.out a oa
          have M1 := Lib.hid m1
          clear m1
          cases ob : okNum b' with
          | false =>
            have V : Hid (itemR2 s last = (0, 0) ∧ itemE2 s last = 3) := by
              show itemR2 s last = (0, 0) ∧ itemE2 s last = 3
              rw [HX.out.1, HX.out.2, HP.out, if_neg (by rw [ob]; simp)]; exact ⟨rfl, rfl⟩
            rw [N1.out b' ob] at hp2
            have hp1 := Lib.hid hp1
            have hp2 := Lib.hid hp2
            clear oa ob N0 N1 M1
            generalize numV a = v1 at *
            go_wp2_with fail
            refine (hp1.out _).mono ?_; rintro e w2 ⟨rfl, rfl⟩
            go_wp2_with fail
            refine (hp2.out _).mono ?_; rintro e w3 ⟨rfl, rfl⟩
            have hrc := blk_cell H0.out 0
            have hrc1 := blk_cell H0.out 1
            have hrf := blk_free H0.out 0
            have hrf1 := blk_free H0.out 1
            go_wp2_with fail
            refine bodyPost_ret (v := .tuple #[.agg #[i64 0, i64 0], i64 3]) (by simp [results, Tryz.results87, go_sem, hrc, hrc1]) rfl ?_
            rw [V.out.1, V.out.2]
            exact ⟨rfl, (HB0.out.setCell (Nat.le_refl _) _).setCell (Nat.le_refl _) _⟩
          | true =>
            obtain ⟨m2, n3, n4⟩ := N0.out b' ob
            have M2 := Lib.hid m2
            have OO := Lib.hid (And.intro oa ob)
            clear N0 N1 m2 oa ob
            have hp1 := Lib.hid hp1
            have hp2 := Lib.hid hp2
            by_cases hMa : numV a ≤ M
            · by_cases hMb : numV b' ≤ M
              · by_cases hab : numV a < numV b'
                · by_cases hs1 : 0 < last
                  · by_cases hs2 : numV a < last + 2 
                    · have V : Hid (itemR2 s last = (0, 0) ∧ itemE2 s last = 30) := by
                        show itemR2 s last = (0, 0) ∧ itemE2 s last = 30
                        rw [HX.out.1, HX.out.2, HP.out, if_pos OO.out, ← M1.out, ← M2.out, if_pos ⟨hMa, hMb, fun _ => hab⟩]
                        simp only
                        rw [if_pos ⟨hs1, hs2⟩, if_pos ⟨hs1, hs2⟩]; exact ⟨rfl, rfl⟩
                      rw [M_eq] at *
                      clear M1 M2 OO
                      generalize numV a = v1 at *
                      generalize numV b' = v2 at *
                      go_wp2_with fail
                      refine (hp1.out _).mono ?_; rintro e w2 ⟨rfl, rfl⟩
                      go_wp2_with fail
                      refine (hp2.out _).mono ?_; rintro e w3 ⟨rfl, rfl⟩
                      have hrc := blk_cell H0.out 0
                      have hrc1 := blk_cell H0.out 1
                      have hrf := blk_free H0.out 0
                      have hrf1 := blk_free H0.out 1
                      go_wp2_with fail
                      refine bodyPost_ret (v := .tuple #[.agg #[i64 0, i64 0], i64 30]) (by simp [results, Tryz.results87, go_sem, hrc, hrc1]) rfl ?_
                      rw [V.out.1, V.out.2]
                      exact ⟨rfl, (HB0.out.setCell (Nat.le_refl _) _).setCell (Nat.le_refl _) _⟩ 
                    · have V : Hid (itemR2 s last = (numV a, numV b') ∧ itemE2 s last = 0) := by
                        show itemR2 s last = (numV a, numV b') ∧ itemE2 s last = 0
                        rw [HX.out.1, HX.out.2, HP.out, if_pos OO.out, ← M1.out, ← M2.out, if_pos ⟨hMa, hMb, fun _ => hab⟩]
                        simp only
                        rw [if_neg (fun h => hs2 h.2), if_neg (fun h => hs2 h.2)]; exact ⟨rfl, rfl⟩
                      rw [M_eq] at *
                      clear M1 M2 OO
                      generalize numV a = v1 at *
                      generalize numV b' = v2 at *
                      go_wp2_with fail
                      refine (hp1.out _).mono ?_; rintro e w2 ⟨rfl, rfl⟩
                      go_wp2_with fail
                      refine (hp2.out _).mono ?_; rintro e w3 ⟨rfl, rfl⟩
                      have hrc := blk_cell H0.out 0
                      have hrc1 := blk_cell H0.out 1
                      have hrf := blk_free H0.out 0
                      have hrf1 := blk_free H0.out 1
                      go_wp2_with fail
                      refine bodyPost_ret (v := .tuple #[.agg #[i64 v1, i64 v2], i64 0]) (by simp [results, Tryz.results87, go_sem, hrc, hrc1]) rfl ?_
                      rw [V.out.1, V.out.2]
                      exact ⟨rfl, (HB0.out.setCell (Nat.le_refl _) _).setCell (Nat.le_refl _) _⟩ 
                  · have V : Hid (itemR2 s last = (numV a, numV b') ∧ itemE2 s last = 0) := by
                      show itemR2 s last = (numV a, numV b') ∧ itemE2 s last = 0
                      rw [HX.out.1, HX.out.2, HP.out, if_pos OO.out, ← M1.out, ← M2.out, if_pos ⟨hMa, hMb, fun _ => hab⟩]
                      simp only
                      rw [if_neg (fun h => hs1 h.1), if_neg (fun h => hs1 h.1)]; exact ⟨rfl, rfl⟩
                    rw [M_eq] at *
                    clear M1 M2 OO
                    generalize numV a = v1 at *
                    generalize numV b' = v2 at *
                    go_wp2_with fail
                    refine (hp1.out _).mono ?_; rintro e w2 ⟨rfl, rfl⟩
                    go_wp2_with fail
                    refine (hp2.out _).mono ?_; rintro e w3 ⟨rfl, rfl⟩
                    have hrc := blk_cell H0.out 0
                    have hrc1 := blk_cell H0.out 1
                    have hrf := blk_free H0.out 0
                    have hrf1 := blk_free H0.out 1
                    go_wp2_with fail
                    refine bodyPost_ret (v := .tuple #[.agg #[i64 v1, i64 v2], i64 0]) (by simp [results, Tryz.results87, go_sem, hrc, hrc1]) rfl ?_
                    rw [V.out.1, V.out.2]
                    exact ⟨rfl, (HB0.out.setCell (Nat.le_refl _) _).setCell (Nat.le_refl _) _⟩ 
                · have V : Hid (itemR2 s last = (0, 0) ∧ itemE2 s last = 2) := by
                    show itemR2 s last = (0, 0) ∧ itemE2 s last = 2
                    rw [HX.out.1, HX.out.2, HP.out, if_pos OO.out, ← M1.out, ← M2.out, if_neg (fun h => hab (h.2.2 rfl))]; exact ⟨rfl, rfl⟩
                  rw [M_eq] at *
                  clear M1 M2 OO
                  generalize numV a = v1 at *
                  generalize numV b' = v2 at *
                  go_wp2_with fail
                  refine (hp1.out _).mono ?_; rintro e w2 ⟨rfl, rfl⟩
                  go_wp2_with fail
                  refine (hp2.out _).mono ?_; rintro e w3 ⟨rfl, rfl⟩
                  have hrc := blk_cell H0.out 0
                  have hrc1 := blk_cell H0.out 1
                  have hrf := blk_free H0.out 0
                  have hrf1 := blk_free H0.out 1
                  go_wp2_with fail
                  refine bodyPost_ret (v := .tuple #[.agg #[i64 0, i64 0], i64 2]) (by simp [results, Tryz.results87, go_sem, hrc, hrc1]) rfl ?_
                  rw [V.out.1, V.out.2]
                  exact ⟨rfl, (HB0.out.setCell (Nat.le_refl _) _).setCell (Nat.le_refl _) _⟩ 
              · have V : Hid (itemR2 s last = (0, 0) ∧ itemE2 s last = 2) := by
                  show itemR2 s last = (0, 0) ∧ itemE2 s last = 2
                  rw [HX.out.1, HX.out.2, HP.out, if_pos OO.out, ← M1.out, ← M2.out, if_neg (fun h => hMb h.2.1)]; exact ⟨rfl, rfl⟩
                rw [M_eq] at *
                clear M1 M2 OO
                generalize numV a = v1 at *
                generalize numV b' = v2 at *
                go_wp2_with fail
                refine (hp1.out _).mono ?_; rintro e w2 ⟨rfl, rfl⟩
                go_wp2_with fail
                refine (hp2.out _).mono ?_; rintro e w3 ⟨rfl, rfl⟩
                have hrc := blk_cell H0.out 0
                have hrc1 := blk_cell H0.out 1
                have hrf := blk_free H0.out 0
                have hrf1 := blk_free H0.out 1
                go_wp2_with fail
                refine bodyPost_ret (v := .tuple #[.agg #[i64 0, i64 0], i64 2]) (by simp [results, Tryz.results87, go_sem, hrc, hrc1]) rfl ?_
                rw [V.out.1, V.out.2]
                exact ⟨rfl, (HB0.out.setCell (Nat.le_refl _) _).setCell (Nat.le_refl _) _⟩ 
            · have V : Hid (itemR2 s last = (0, 0) ∧ itemE2 s last = 2) := by
                show itemR2 s last = (0, 0) ∧ itemE2 s last = 2
                rw [HX.out.1, HX.out.2, HP.out, if_pos OO.out, ← M1.out, ← M2.out, if_neg (fun h => hMa h.1)]; exact ⟨rfl, rfl⟩
              rw [M_eq] at *
              clear M1 M2 OO
              generalize numV a = v1 at *
              generalize numV b' = v2 at *
              go_wp2_with fail
              refine (hp1.out _).mono ?_; rintro e w2 ⟨rfl, rfl⟩
              go_wp2_with fail
              refine (hp2.out _).mono ?_; rintro e w3 ⟨rfl, rfl⟩
              have hrc := blk_cell H0.out 0
              have hrc1 := blk_cell H0.out 1
              have hrf := blk_free H0.out 0
              have hrf1 := blk_free H0.out 1
              go_wp2_with fail
              refine bodyPost_ret (v := .tuple #[.agg #[i64 0, i64 0], i64 2]) (by simp [results, Tryz.results87, go_sem, hrc, hrc1]) rfl ?_
              rw [V.out.1, V.out.2]
              exact ⟨rfl, (HB0.out.setCell (Nat.le_refl _) _).setCell (Nat.le_refl _) _⟩
end Go.Proofs.YtcpennlojjlpaaaGreatDoor
