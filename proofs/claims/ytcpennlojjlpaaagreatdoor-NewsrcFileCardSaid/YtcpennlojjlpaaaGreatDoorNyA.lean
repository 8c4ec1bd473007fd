/- The walk of the statement NewsrcMarks. -/
import Derived.Test.YtcpennlojjlpaaaGreatDoorNxX
import Derived.Test.YtcpennlojjlpaaaGreatDoorZm
namespace Go.Nr
open Go.Gn
theorem runM_all (l : List Op3) : ∀ k, k ≤ l.length → RunOk k (runM (l.take k))
  | 0, _ => ⟨Okm.nil, Lens.nil, by simp [runM]⟩
  | k + 1, h => by
    have hx : l[k]? = some l[k] := List.getElem?_eq_getElem (by omega)
    rw [runM_take hx]
    exact (runM_all l k (by omega)).step _ _ _
theorem runM_ok (l : List Op3) : RunOk l.length (runM l) := by
  have := runM_all l l.length (Nat.le_refl _)
  rwa [List.take_length] at this
end Go.Nr
namespace Go.Proofs.YtcpennlojjlpaaaGreatDoor
open Go.RowKit Go.Nr Go.Gn

theorem lineT_bound {B : Nat} {g : G} (h1 : check g.1 = 0) (h2 : ∀ r ∈ g.2.2, ok r) (h3 : g.2.2.length ≤ B) : (lineT g).length ≤ 82 + 28 * B := by
  have a := ((check_zero g.1).1 h1).1
  have b := setT_len h2
  unfold lineT
  have e : g.2.2.length * 28 ≤ B * 28 := Nat.mul_le_mul_right 28 h3
  rw [List.length_append, List.length_cons]
  split
  · simp; omega
  · simp; omega
theorem fileT_bound {B : Nat} : ∀ {m : List G}, (∀ g ∈ m, check g.1 = 0) → (∀ g ∈ m, ∀ r ∈ g.2.2, ok r) → Lens B m → (fileT m).length ≤ m.length * (83 + 28 * B)
  | [], _, _, _ => by simp [fileT]
  | g :: m, h1, h2, h3 => by
    have a := lineT_bound (h1 g (by simp)) (h2 g (by simp)) (h3 g (by simp))
    have b := fileT_bound (m := m) (fun x hx => h1 x (by simp [hx])) (fun x hx => h2 x (by simp [hx])) (fun x hx => h3 x (by simp [hx]))
    rw [fileT_cons, List.length_append, List.length_cons, List.length_cons, Nat.add_mul]
    omega
/-- Bounds of marks behind few operations. -/
theorem run_bounds {k : Nat} {gs : List G} (h : RunOk k gs) (hk : k ≤ 80) : (∀ g ∈ gs, ∀ r ∈ g.2.2, ok r) ∧ (∀ g ∈ gs, g.2.2.length ≤ 100000) ∧ gs.length ≤ 80 ∧ (fileT gs).length ≤ 100000000 := by
  have h2 : ∀ g ∈ gs, ∀ r ∈ g.2.2, ok r := fun g hg => (h.ok.sets g hg).2
  have h3 := h.len
  refine ⟨h2, fun g hg => Nat.le_trans (h.lens g hg) (by omega), by omega, ?_⟩
  have b := fileT_bound h.ok.names h2 (h.lens.mono hk)
  have : gs.length * (83 + 28 * 80) ≤ 80 * (83 + 28 * 80) := Nat.mul_le_mul_right _ (by omega)
  omega

set_option maxRecDepth 100000 in
set_option maxHeartbeats 16000000 in
theorem newsrcMarks_walk (A : Option Addr) (c : Nat) (l : List Op3) (s : List UInt8) (_hs : s.length ≤ maxLen) (n : Int) (w : World) (hr : RdO w A l) (_hc : l.length ≤ c) (_hm : c ≤ maxLen) (hx : ∀ x ∈ l, x.2.1.length ≤ 9223372036854775807) (hE : Env w) (hT : Tab w) :
    Calls Tryz.prog 10 #[.slice A l.length c, enS s, i64 n] w fun e w' => e = .returned (.bool true) ∧ Below w.heap.size w w' := by
  have HK := Lib.hid (fun W (h : Below w.heap.size w W) => known_any W (hE.below h) (hT.below h))
  have HTb := Lib.hid (fun W (h : Below w.heap.size w W) => hT.below h)
  by_cases h40 : 40 < l.length
  · clear hr hx hE hT
    go_enter Tryz.func10, Tryz.ntmps10
    go_wp2_with fail
    refine (HK.out _ (by first | exact Below.refl _ _ | exact below_new _ _)).mono ?_; rintro e w1 ⟨rfl, b⟩
    have b' : Below w.heap.size w w1 := Below.tr (by first | exact Below.refl _ _ | exact below_new _ _) b
    clear b
    have B1 := Lib.hid b'
    clear b'
    go_wp2_with fail
    refine (HK.out _ (B1.out.tr (by first | exact Below.refl _ _ | exact below_new _ _))).mono ?_; rintro e w2 ⟨rfl, b⟩
    have b' : Below w1.heap.size w1 w2 := Below.tr (by first | exact Below.refl _ _ | exact below_new _ _) b
    clear b
    have B2 := Lib.hid (B1.out.tr b'); clear B1
    clear b'
    go_wp2_with fail
    go_ret
    exact ⟨rfl, (B2.out.tr (by first | exact Below.refl _ _ | exact below_new _ _))⟩
  by_cases h200 : 200 < s.length
  · clear hr hx hE hT
    go_enter Tryz.func10, Tryz.ntmps10
    go_wp2_with fail
    refine (HK.out _ (by first | exact Below.refl _ _ | exact below_new _ _)).mono ?_; rintro e w1 ⟨rfl, b⟩
    have b' : Below w.heap.size w w1 := Below.tr (by first | exact Below.refl _ _ | exact below_new _ _) b
    clear b
    have B1 := Lib.hid b'
    clear b'
    go_wp2_with fail
    refine (HK.out _ (B1.out.tr (by first | exact Below.refl _ _ | exact below_new _ _))).mono ?_; rintro e w2 ⟨rfl, b⟩
    have b' : Below w1.heap.size w1 w2 := Below.tr (by first | exact Below.refl _ _ | exact below_new _ _) b
    clear b
    have B2 := Lib.hid (B1.out.tr b'); clear B1
    clear b'
    go_wp2_with fail
    go_ret
    exact ⟨rfl, (B2.out.tr (by first | exact Below.refl _ _ | exact below_new _ _))⟩
  have HRun := Lib.hid (fun W (h : Below w.heap.size w W) => run_any A c l W (hr.below h) (by omega) hx (hE.below h))
  have rk := runM_ok l
  obtain ⟨z1, z2, z3, z4⟩ := run_bounds rk (by omega)
  have rk1 := rk.ok
  clear rk hr hx hE hT
  generalize runM l = gs at *
  have HV := Lib.hid (fun p R A c W (h : MkAt W p R gs) (hd : RdG W A gs) (ht : Tab W) => view_any p R gs A c W h hd rk1 z1 z2 (by omega) z4 ht)
  have HFi := Lib.hid (fun A c W (h : RdG W A gs) => refFind_any A c gs s W h (by omega))
  have HHs := Lib.hid (fun p R W (h : MkAt W p R gs) => hasM_any p R gs s n W h rk1 (fun g hg => by have := z2 g hg; omega) (by omega))
  by_cases hi : gidx gs s < gs.length
  case neg =>
    have HSb := Lib.hid (fun p R W (h : MkAt W p R gs) => subscribedM_any p R gs s W h (by omega))
    have HSt := Lib.hid (fun p R W (h : MkAt W p R gs) => setM_any p R gs s W h (fun g hg => by have := z2 g hg; omega) (by omega))
    have hf1 : findI gs s = -1 := by unfold findI; rw [if_neg hi]
    rw [hf1] at HFi
    rw [gset_none hi] at HHs HSt
    rw [gsub_none hi] at HSb
    have HI := Lib.hid (fun X x W (h1 : RdR W X []) (h2 : SlR X x 0) => is_any X none x 0 [] [] W h1 h2 RdR.nil (by simp) (by simp))
    rw [decide_eq_true rfl] at HI
    have q0 : has [] n = false := rfl
    rw [q0] at HHs
    clear hf1 q0 hi z1 z2 z3 z4 rk1
    go_enter Tryz.func10, Tryz.ntmps10
    go_wp2_with fail
    refine (HK.out _ (by first | exact Below.refl _ _ | exact below_new _ _)).mono ?_; rintro e w1 ⟨rfl, b⟩
    have b' : Below w.heap.size w w1 := Below.tr (by first | exact Below.refl _ _ | exact below_new _ _) b
    clear b
    have B1 := Lib.hid b'
    clear b'
    go_wp2_with fail
    refine (HRun.out _ (B1.out.tr (by first | exact Below.refl _ _ | exact below_new _ _))).mono ?_; rintro e w2 ⟨p, R, G', g', rfl, hM, hD, _, _, b⟩
    have b' : Below w1.heap.size w1 w2 := Below.tr (by first | exact Below.refl _ _ | exact below_new _ _) b
    clear b
    have B2 := Lib.hid (B1.out.tr b'); clear B1
    clear b'
    have M2 := Lib.hid hM; clear hM
    have D2 := Lib.hid hD; clear hD
    go_wp2_with fail
    refine (HV.out p R G' g' _ (M2.out.below (by first | exact Below.refl _ _ | exact below_new _ _)) (D2.out.below (by first | exact Below.refl _ _ | exact below_new _ _)) (HTb.out _ (B2.out.tr (by first | exact Below.refl _ _ | exact below_new _ _)))).mono ?_; rintro e w3 ⟨rfl, b⟩
    have b' : Below w2.heap.size w2 w3 := Below.tr (by first | exact Below.refl _ _ | exact below_new _ _) b
    clear b
    have M3 := Lib.hid (M2.out.below b'); clear M2
    have D3 := Lib.hid (D2.out.below b'); clear D2
    have B3 := Lib.hid (B2.out.tr b'); clear B2
    clear b'
    go_wp2_with fail
    refine (HFi.out G' g' _ (D3.out.below (by first | exact Below.refl _ _ | exact below_new _ _))).mono ?_; rintro e w4 ⟨rfl, rfl⟩
    go_wp2_with fail
    refine (HHs.out p R _ (M3.out.below (by first | exact Below.refl _ _ | exact below_new _ _))).mono ?_; rintro e w5 ⟨rfl, b⟩
    have b' : Below w3.heap.size w3 w5 := Below.tr (by first | exact Below.refl _ _ | exact below_new _ _) b
    clear b
    have M5 := Lib.hid (M3.out.below b'); clear M3
    have D5 := Lib.hid (D3.out.below b'); clear D3
    have B5 := Lib.hid (B3.out.tr b'); clear B3
    clear b'
    go_wp2_with fail
    refine (HSb.out p R _ (M5.out.below (by first | exact Below.refl _ _ | exact below_new _ _))).mono ?_; rintro e w6 ⟨rfl, rfl⟩
    go_wp2_with fail
    refine (HSt.out p R _ (M5.out.below (by first | exact Below.refl _ _ | exact below_new _ _))).mono ?_; rintro e w7 ⟨A5, c5, rfl, r5, s5, b⟩
    have b' : Below w5.heap.size w5 w7 := Below.tr (by first | exact Below.refl _ _ | exact below_new _ _) b
    clear b
    have M7 := Lib.hid (M5.out.below b'); clear M5
    have D7 := Lib.hid (D5.out.below b'); clear D5
    have B7 := Lib.hid (B5.out.tr b'); clear B5
    clear b'
    have r57 := Lib.hid r5; clear r5
    have s_5 := Lib.hid s5; clear s5
    go_wp2_with fail
    refine (HI.out A5 c5 _ (r57.out.below (by first | exact Below.refl _ _ | exact below_new _ _)) s_5.out).mono ?_; rintro e w8 ⟨rfl, b⟩
    have b' : Below w7.heap.size w7 w8 := Below.tr (by first | exact Below.refl _ _ | exact below_new _ _) b
    clear b
    have M8 := Lib.hid (M7.out.below b'); clear M7
    have D8 := Lib.hid (D7.out.below b'); clear D7
    have r58 := Lib.hid (r57.out.below b'); clear r57
    have B8 := Lib.hid (B7.out.tr b'); clear B7
    clear b'
    go_wp2_with fail
    go_ret
    exact ⟨rfl, (B8.out.tr (by first | exact Below.refl _ _ | exact below_new _ _))⟩
  case pos =>
    have VF : findI gs s = (gidx gs s : Int) := by unfold findI; rw [if_pos hi]
    rw [VF] at HFi
    obtain ⟨x, hxx⟩ : ∃ x, gs[gidx gs s]? = some x := ⟨_, List.getElem?_eq_getElem hi⟩
    rw [gset_at hxx] at HHs
    have hxl := z2 x (List.mem_of_getElem? hxx)
    generalize gidx gs s = i at *
    have HX := Lib.hid hxx
    have hi0 : (0 : Int) ≤ (i : Int) := by omega
    have hi1 : (i : Int) < (gs.length : Int) := by omega
    have HRH := Lib.hid (fun X f W (h : RdR W X x.2.2) => (refHas_any X f x.2.2 n W h (by omega)).mono fun e w' h => (⟨h.1, h.2 ▸ Below.refl _ _⟩ : e = .returned (.bool (has x.2.2 n)) ∧ Below W.heap.size W w'))
    obtain ⟨x1, x2, x3⟩ := x
    simp only at HHs HRH hxl
    generalize has x3 n = v at *
    have q1 : (v == v) = true := by simp
    clear VF hxx z1 z2 z4 rk1
    go_enter Tryz.func10, Tryz.ntmps10
    go_wp2_with fail
    refine (HK.out _ (by first | exact Below.refl _ _ | exact below_new _ _)).mono ?_; rintro e w1 ⟨rfl, b⟩
    have b' : Below w.heap.size w w1 := Below.tr (by first | exact Below.refl _ _ | exact below_new _ _) b
    clear b
    have B1 := Lib.hid b'
    clear b'
    go_wp2_with fail
    refine (HRun.out _ (B1.out.tr (by first | exact Below.refl _ _ | exact below_new _ _))).mono ?_; rintro e w2 ⟨p, R, G', g', rfl, hM, hD, _, _, b⟩
    have b' : Below w1.heap.size w1 w2 := Below.tr (by first | exact Below.refl _ _ | exact below_new _ _) b
    clear b
    have B2 := Lib.hid (B1.out.tr b'); clear B1
    clear b'
    have M2 := Lib.hid hM; clear hM
    have D2 := Lib.hid hD; clear hD
    go_wp2_with fail
    refine (HV.out p R G' g' _ (M2.out.below (by first | exact Below.refl _ _ | exact below_new _ _)) (D2.out.below (by first | exact Below.refl _ _ | exact below_new _ _)) (HTb.out _ (B2.out.tr (by first | exact Below.refl _ _ | exact below_new _ _)))).mono ?_; rintro e w3 ⟨rfl, b⟩
    have b' : Below w2.heap.size w2 w3 := Below.tr (by first | exact Below.refl _ _ | exact below_new _ _) b
    clear b
    have M3 := Lib.hid (M2.out.below b'); clear M2
    have D3 := Lib.hid (D2.out.below b'); clear D2
    have B3 := Lib.hid (B2.out.tr b'); clear B2
    clear b'
    go_wp2_with fail
    refine (HFi.out G' g' _ (D3.out.below (by first | exact Below.refl _ _ | exact below_new _ _))).mono ?_; rintro e w4 ⟨rfl, rfl⟩
    obtain ⟨b, o, y, B', f, rfl, hy, _, _, d3, S⟩ := D3.out.at_ hi
    obtain rfl : y = (x1, x2, x3) := by rw [HX.out] at hy; injection hy with hy; exact hy.symm
    have HSr := Lib.hid S.1
    have N3 := Lib.hid d3
    simp only at HSr N3
    clear S d3 hy HX
    go_wp2_with fail
    refine Flow.wp_region_segs Flow.Later Flow.Later.refl Flow.Later.trans [([0, 1, 2, 4, 5, 6, 7, 8, 9], 3), ([], 10)] [11, 12] (by kernel_rfl) (by kernel_rfl) ?_
    have b' : Below w3.heap.size w3 (World.drew w3) := (Below.refl _ _).drew
    have M5 := Lib.hid (M3.out.below b'); clear M3
    have S5 := Lib.hid (HSr.out.below b'); clear HSr
    have B5 := Lib.hid b'
    clear b'
    generalize World.drew _ = w5 at *
    have ct0 := Below.cellv (B5.out.tr (by first | exact Below.refl _ _ | exact below_new _ _)) N3.out
    have qt0 : ∀ t : Flow.Cls (Flow.Later w5), t.val.cell? _ = some (.slice B' x3.length f) := fun t => Flow.cls_cell ct0 t
    haveI nonE := Flow.cls_nonempty w5
    rw [Flow.wpSegs_cons]
    simp only [Flow.pick, List.getElem?_toArray, List.getElem?_cons_succ, List.getElem?_cons_zero]
    repeat go_big_quiet_step (fail)
    refine wpQuiet_nil ?_
    clear nonE qt0 ct0
    rw [Flow.callAt_eq]
    simp only [List.getElem?_toArray, List.getElem?_cons_succ, List.getElem?_cons_zero]
    rw [if_pos (by rfl)]
    refine Flow.wp_behind (fun K0 hK => ?_)
    go_wp2_with fail
    refine (HHs.out p R _ (M5.out.below (by first | exact Below.refl _ _ | exact below_new _ _))).mono ?_; rintro e w6 ⟨rfl, b⟩
    have b' : Below w5.heap.size w5 w6 := Below.tr (by first | exact Below.refl _ _ | exact below_new _ _) b
    clear b
    refine hK.out _ _ ⟨b', ?_⟩
    clear hK K0
    have M6 := Lib.hid (M5.out.below b'); clear M5
    have S6 := Lib.hid (S5.out.below b'); clear S5
    have B6 := Lib.hid (B5.out.tr b'); clear B5
    clear b'
    haveI nonE := Flow.cls_nonempty w6
    rw [Flow.wpSegs_cons]
    simp only [Flow.pick]
    refine wpQuiet_nil ?_
    clear nonE 
    rw [Flow.callAt_eq]
    simp only [List.getElem?_toArray, List.getElem?_cons_succ, List.getElem?_cons_zero]
    rw [if_pos (by rfl)]
    refine Flow.wp_behind (fun K0 hK => ?_)
    go_wp2_with fail
    refine (HRH.out B' f _ (S6.out.below (by first | exact Below.refl _ _ | exact below_new _ _))).mono ?_; rintro e w7 ⟨rfl, b⟩
    have b' : Below w6.heap.size w6 w7 := Below.tr (by first | exact Below.refl _ _ | exact below_new _ _) b
    clear b
    refine hK.out _ _ ⟨b', ?_⟩
    clear hK K0
    have M7 := Lib.hid (M6.out.below b'); clear M6
    have S7 := Lib.hid (S6.out.below b'); clear S6
    have B7 := Lib.hid (B6.out.tr b'); clear B6
    clear b'
    haveI nonE := Flow.cls_nonempty w7
    rw [Flow.wpSegs_nil]
    simp only [Flow.pick, List.getElem?_toArray, List.getElem?_cons_succ, List.getElem?_cons_zero]
    repeat go_big_quiet_step (fail)
    refine wpQuiet_nil ?_
    clear nonE 
    go_wp2_with fail
    go_ret
    exact ⟨rfl, B3.out.tr (B7.out.tr (by first | exact Below.refl _ _ | exact below_new _ _))⟩
end Go.Proofs.YtcpennlojjlpaaaGreatDoor
