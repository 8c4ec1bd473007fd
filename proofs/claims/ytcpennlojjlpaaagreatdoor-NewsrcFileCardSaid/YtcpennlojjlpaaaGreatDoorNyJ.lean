/- The walk of the statement NewsrcFile. -/
import Derived.Test.YtcpennlojjlpaaaGreatDoorNyA
import Derived.Test.YtcpennlojjlpaaaGreatDoorNyB
import Derived.Test.YtcpennlojjlpaaaGreatDoorNyG
namespace Go.Nr
open Go.Gn
theorem name_asc {s : List UInt8} (h : check s = 0) : ∀ x ∈ s, x.toNat < 128 := fun x hx => by
  rcases Nat.lt_or_ge x.toNat 128 with h1 | h1
  · exact h1
  · exact absurd hx (check_free (by unfold okB isLow; simp; omega) (fun e => by subst e; exact absurd h1 (by decide)) h)
theorem setT_asc (l : List Rg) : ∀ x ∈ setT l, x.toNat < 128 := fun x hx => by
  rcases Nat.lt_or_ge x.toNat 128 with h1 | h1
  · exact h1
  · exact absurd hx (setT_free (by unfold isDig; simp; omega) (fun e => by subst e; exact absurd h1 (by decide)) (fun e => by subst e; exact absurd h1 (by decide)))
theorem lineT_asc {g : G} (h : check g.1 = 0) : ∀ x ∈ lineT g, x.toNat < 128 := fun x hx => by
  unfold lineT at hx
  rcases List.mem_append.1 hx with hx | hx
  · exact name_asc h x hx
  · rcases List.mem_cons.1 hx with hx | hx
    · rw [hx]; split <;> decide
    · split at hx
      · simp at hx
      · rcases List.mem_cons.1 hx with hx | hx
        · rw [hx]; decide
        · exact setT_asc _ x hx
theorem fileT_asc : ∀ {m : List G}, (∀ g ∈ m, check g.1 = 0) → ∀ x ∈ fileT m, x.toNat < 128
  | [], _, x, hx => by simp [fileT] at hx
  | g :: m, h, x, hx => by
    rw [fileT_cons] at hx
    rcases List.mem_append.1 hx with hx | hx
    · exact lineT_asc (h g (by simp)) x hx
    · rcases List.mem_cons.1 hx with hx | hx
      · rw [hx]; decide
      · exact fileT_asc (fun y hy => h y (by simp [hy])) x hx
theorem fileT_parts : ∀ {m : List G}, (∀ g ∈ m, check g.1 = 0) → parts 10 (fileT m) = m.map lineT ++ [[]]
  | [], _ => by simp [fileT, parts]
  | g :: m, h => by
    rw [fileT_cons, parts_nl (lineT_nl (h g (by simp))), fileT_parts fun y hy => h y (by simp [hy])]
    rfl
end Go.Nr
namespace Go.Proofs.YtcpennlojjlpaaaGreatDoor
open Go.RowKit Go.Nr Go.Gn

theorem idx_asc {t : List UInt8} (h : ∀ x ∈ t, x.toNat < 128) (hl : t.length ≤ 1000000000) : IdxOk t := fun W => by
  have e1 : (⟨t.toArray⟩ : ByteArray).data.toList = t := by simp
  have := Tryz.strings_IndexAny_laid ⟨t.toArray⟩ ⟨#[58, 33]⟩ W (by show t.toArray.size < _; rw [List.size_toArray]; omega) (by decide) (fun j b hj => by rw [e1] at hj; exact h b (List.mem_of_getElem? hj)) (fun j b hj => by
    have hj' : [(58 : UInt8), 33][j]? = some b := hj
    have := List.mem_of_getElem? hj'
    simp at this
    rcases this with rfl | rfl <;> decide)
  rw [e1] at this
  exact this

set_option maxRecDepth 100000 in
set_option maxHeartbeats 16000000 in
theorem newsrcFile_walk (A : Option Addr) (c : Nat) (l : List Op3) (w : World) (hr : RdO w A l) (_hc : l.length ≤ c) (_hm : c ≤ maxLen) (hx : ∀ x ∈ l, x.2.1.length ≤ 9223372036854775807) (hE : Env w) (hT : Tab w) :
    Calls Tryz.prog 14 #[.slice A l.length c] w fun e w' => e = .returned (.bool true) ∧ Below w.heap.size w w' := by
  have HK := Lib.hid (fun W (h : Below w.heap.size w W) => known_any W (hE.below h) (hT.below h))
  have HTb := Lib.hid (fun W (h : Below w.heap.size w W) => hT.below h)
  have HEv := Lib.hid (fun W (h : Below w.heap.size w W) => hE.below h)
  by_cases h40 : 40 < l.length
  · clear hr hx hE hT
    go_enter Tryz.func14, Tryz.ntmps14
    go_wp2_with fail
    refine (HK.out _ (by first | exact Below.refl _ _ | exact below_new _ _)).mono ?_; rintro e w1 ⟨rfl, b⟩
    have b' : Below w.heap.size w w1 := Below.tr (by first | exact Below.refl _ _ | exact below_new _ _) b
    clear b
    have B1 := Lib.hid b'
    clear b'
    go_wp2_with fail
    refine (HK.out _ (B1.out.tr (by first | exact Below.refl _ _ | exact below_new _ _))).mono ?_; rintro e w2 ⟨rfl, b⟩
    have b' : Below w1.heap.size w1 w2 := Below.tr (by first | exact Below.refl _ _ | exact below_new _ _) b
    clear b
    have B2 := Lib.hid (B1.out.tr b'); clear B1
    clear b'
    go_wp2_with fail
    go_ret
    exact ⟨rfl, (B2.out.tr (by first | exact Below.refl _ _ | exact below_new _ _))⟩
  have HRun := Lib.hid (fun W (h : Below w.heap.size w W) => run_any A c l W (hr.below h) (by omega) hx (hE.below h))
  have rk := runM_ok l
  obtain ⟨z1, z2, z3, z4⟩ := run_bounds rk (by omega)
  have rk1 := rk.ok
  have rk2 := rk.lens
  have rk3 := rk.len
  clear rk hr hx hE hT
  generalize runM l = gs at *
  have HV := Lib.hid (fun p R A c W (h : MkAt W p R gs) (hd : RdG W A gs) (ht : Tab W) => view_any p R gs A c W h hd rk1 z1 z2 (by omega) z4 ht)
  have HTx := Lib.hid (fun p R W (h : MkAt W p R gs) (ht : Tab W) => textM_any p R gs W h z1 (by omega) z2 z4 ht)
  have hfp := fileT_parts rk1.names
  have HPa := Lib.hid (fun W (h : Env W) => parse_any (fileT gs) W h (fun t h1 h2 => idx_asc (fun x hx => fileT_asc rk1.names x (h2 x hx)) (by
      have := fileT_bound rk1.names z1 (rk2.mono (show l.length ≤ 40 by omega))
      have h3 : gs.length * (83 + 28 * 40) ≤ 40 * (83 + 28 * 40) := Nat.mul_le_mul_right _ (by omega)
      omega)) (by
      have := fileT_bound rk1.names z1 (rk2.mono (show l.length ≤ 40 by omega))
      have h3 : gs.length * (83 + 28 * 40) ≤ 40 * (83 + 28 * 40) := Nat.mul_le_mul_right _ (by omega)
      omega) (by rw [hfp, List.length_append, List.length_map]; simp; omega) (fun t ht => by
      rw [hfp] at ht
      rcases List.mem_append.1 ht with ht | ht
      · obtain ⟨g, hg, rfl⟩ := List.mem_map.1 ht
        have := lineT_bound (B := 40) (rk1.names g hg) (z1 g hg) (Nat.le_trans (rk2 g hg) (by omega))
        omega
      · simp at ht; rw [ht]; simp))
  rw [pfile_text gs [] 1 (by simpa using rk1)] at HPa
  have HEq := Lib.hid (fun p R q S W (h1 : MkAt W p R gs) (h2 : MkAt W q S gs) => equalM_any p q R S gs gs W h1 h2 (by omega) (by omega) (fun g hg => by have := z2 g hg; omega) (fun g hg => by have := z2 g hg; omega))
  rw [decide_eq_true rfl] at HEq
  clear z1 z2 z3 z4 rk1 rk2 rk3 hfp
  go_enter Tryz.func14, Tryz.ntmps14
  go_wp2_with fail
  refine (HK.out _ (by first | exact Below.refl _ _ | exact below_new _ _)).mono ?_; rintro e w1 ⟨rfl, b⟩
  have b' : Below w.heap.size w w1 := Below.tr (by first | exact Below.refl _ _ | exact below_new _ _) b
  clear b
  have B1 := Lib.hid b'
  clear b'
  go_wp2_with fail
  refine (HRun.out _ (B1.out.tr (by first | exact Below.refl _ _ | exact below_new _ _))).mono ?_; rintro e w2 ⟨p, R, G', g', rfl, hM, hD, _, _, b⟩
  have b' : Below w1.heap.size w1 w2 := Below.tr (by first | exact Below.refl _ _ | exact below_new _ _) b
  clear b
  have B2 := Lib.hid (B1.out.tr b'); clear B1
  clear b'
  have M2 := Lib.hid hM; clear hM
  have D2 := Lib.hid hD; clear hD
  go_wp2_with fail
  refine (HTx.out p R _ (M2.out.below (by first | exact Below.refl _ _ | exact below_new _ _)) (HTb.out _ (B2.out.tr (by first | exact Below.refl _ _ | exact below_new _ _)))).mono ?_; rintro e w3 ⟨rfl, b⟩
  have b' : Below w2.heap.size w2 w3 := Below.tr (by first | exact Below.refl _ _ | exact below_new _ _) b
  clear b
  have M3 := Lib.hid (M2.out.below b'); clear M2
  have D3 := Lib.hid (D2.out.below b'); clear D2
  have B3 := Lib.hid (B2.out.tr b'); clear B2
  clear b'
  go_wp2_with fail
  refine (HPa.out _ (HEv.out _ (B3.out.tr (by first | exact Below.refl _ _ | exact below_new _ _)))).mono ?_; rintro e w4 ⟨b, q, S, rfl, hM2, _, _⟩
  have b' : Below w3.heap.size w3 w4 := Below.tr (by first | exact Below.refl _ _ | exact below_new _ _) b
  clear b
  have M4 := Lib.hid (M3.out.below b'); clear M3
  have D4 := Lib.hid (D3.out.below b'); clear D3
  have B4 := Lib.hid (B3.out.tr b'); clear B3
  clear b'
  have N4 := Lib.hid hM2; clear hM2
  go_wp2_with fail
  refine (HV.out q S G' g' _ (N4.out.below (by first | exact Below.refl _ _ | exact below_new _ _)) (D4.out.below (by first | exact Below.refl _ _ | exact below_new _ _)) (HTb.out _ (B4.out.tr (by first | exact Below.refl _ _ | exact below_new _ _)))).mono ?_; rintro e w5 ⟨rfl, b⟩
  have b' : Below w4.heap.size w4 w5 := Below.tr (by first | exact Below.refl _ _ | exact below_new _ _) b
  clear b
  have M5 := Lib.hid (M4.out.below b'); clear M4
  have D5 := Lib.hid (D4.out.below b'); clear D4
  have N5 := Lib.hid (N4.out.below b'); clear N4
  have B5 := Lib.hid (B4.out.tr b'); clear B4
  clear b'
  go_wp2_with fail
  refine (HEq.out q S p R _ (N5.out.below (by first | exact Below.refl _ _ | exact below_new _ _)) (M5.out.below (by first | exact Below.refl _ _ | exact below_new _ _))).mono ?_; rintro e w6 ⟨rfl, b⟩
  have b' : Below w5.heap.size w5 w6 := Below.tr (by first | exact Below.refl _ _ | exact below_new _ _) b
  clear b
  have M6 := Lib.hid (M5.out.below b'); clear M5
  have D6 := Lib.hid (D5.out.below b'); clear D5
  have N6 := Lib.hid (N5.out.below b'); clear N5
  have B6 := Lib.hid (B5.out.tr b'); clear B5
  clear b'
  go_wp2_with fail
  go_ret
  exact ⟨rfl, (B6.out.tr (by first | exact Below.refl _ _ | exact below_new _ _))⟩
end Go.Proofs.YtcpennlojjlpaaaGreatDoor
